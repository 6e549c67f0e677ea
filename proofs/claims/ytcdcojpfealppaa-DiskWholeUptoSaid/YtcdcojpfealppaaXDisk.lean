/- The disk as plain data (no Go, no memory): what each call answers and leaves. -/
import Derived.Test.YtcdcojpfealppaaXMaps
set_option linter.unusedVariables false
namespace Go.Proofs.XDisk
open Go.Proofs.XMaps

abbrev Bytes := List UInt8
/-- A change of a thing's bytes. -/
inductive Chg where
  | wr (at_ : Nat) (data : Bytes)
  | cut (n : Nat)
def Chg.units : Chg → Nat
  | .wr _ d => d.length
  | .cut _ => 1
/-- Some units of it made. -/
def Chg.made (b : Bytes) (u : Nat) : Chg → Bytes
  | .wr a d => if u = 0 then b else ((b ++ List.replicate (a + u - b.length) 0).take a) ++ d.take u ++ ((b ++ List.replicate (a + u - b.length) 0).drop (a + u))
  | .cut n => if u = 0 then b else b.take n
structure Thg where
  safe : Bytes
  shown : Bytes
  row : List Chg
def Thg.empty : Thg := ⟨[], [], []⟩
def Thg.add (t : Thg) (c : Chg) : Thg := { t with row := t.row ++ [c], shown := c.made t.shown c.units }
def unitsOf (row : List Chg) : Nat := (row.map Chg.units).sum
def leftOf (b : Bytes) : List Chg → Nat → Bytes
  | [], _ => b
  | c :: r, u => leftOf (c.made b (min u c.units)) r (u - min u c.units)
def Thg.left (t : Thg) (u : Nat) : Bytes := leftOf t.safe t.row u
def Thg.settle (t : Thg) : Thg := { t with safe := t.shown, row := [] }
/-- A change of names. -/
inductive Turn where
  | mk (n : ByteArray) (t : Nat)
  | give (a b : ByteArray)
  | take (n : ByteArray)

/-- Texts in order. -/
def ble (a b : ByteArray) : Bool := decide (a.data.toList ≤ b.data.toList)
def blt (a b : ByteArray) : Bool := decide (a.data.toList < b.data.toList)
abbrev Names := List (ByteArray × Nat)
/-- A name put among names in order (and none of it there). -/
def insN (l : Names) (s : ByteArray) (t : Nat) : Names :=
  match l with
  | [] => [(s, t)]
  | p :: r => if blt s p.1 then (s, t) :: p :: r else p :: insN r s t
def setN (l : Names) (s : ByteArray) (t : Nat) : Names := insN (alDel l s) s t
def Turn.on : Turn → Names → Names
  | .mk n t, l => setN l n t
  | .give a b, l => setN (alDel l a) b ((alGet l a).getD 0)
  | .take n, l => alDel l n

structure PlanA where
  off : Int
  from_ : Int
  to_ : Int
structure SpanA where
  name : ByteArray
  at_ : Int
  n : Int
structure AD where
  room : Int
  things : Nat → Thg
  next : Nat
  shown : Names
  safe : Names
  row : List Turn
  strokes : Int
  plan : PlanA
  since : Int
  off : Bool
  reads : List SpanA
def PlanA.zero : PlanA := ⟨0, 0, 0⟩
def AD.new (room : Int) : AD := { room, things := fun _ => Thg.empty, next := 0, shown := [], safe := [], row := [], strokes := 0, plan := .zero, since := 0, off := false, reads := [] }
def okByte (c : UInt8) : Bool := (97 ≤ c && c ≤ 122) || (48 ≤ c && c ≤ 57) || c == 46 || c == 45 || c == 95 || c == 43
def isName (s : ByteArray) : Bool := s.data.toList.all okByte && decide (1 ≤ s.size) && decide (s.size ≤ 112)
def AD.thing (S : AD) (t : Nat) : Thg := S.things t
def AD.setThing (S : AD) (t : Nat) (x : Thg) : AD := { S with things := fun i => if i = t then x else S.things i }
/-- The first errors of a call about one file. -/
def AD.look (S : AD) (name : ByteArray) : Int :=
  if S.off then 50 else if !isName name then 51 else match alGet S.shown name with
    | none => 53
    | some _ => 0
def AD.used (S : AD) : Nat := (S.shown.map fun p => (S.things p.2).shown.length).sum
/-- One more stroke. -/
def AD.ticked (S : AD) : AD := { S with strokes := S.strokes + 1, since := S.since + 1 }
def AD.stroke (S : AD) (kind refused : Int) (act : AD → AD) : Int × AD :=
  let S1 := S.ticked
  let r := if refused = 0 ∧ kind = 1 ∧ S1.since ≥ S1.plan.from_ ∧ S1.since ≤ S1.plan.to_ then 55 else refused
  let out := decide (S1.since = S1.plan.off)
  let S2 := { S1 with off := out }
  (if out then 50 else r, if r = 0 ∧ ¬ (out = true ∧ kind = 2) then act S2 else S2)
def AD.turned (S : AD) (c : Turn) : AD := { S with row := S.row ++ [c], shown := c.on S.shown }
def AD.made (S : AD) (name : ByteArray) : AD := ({ S.setThing S.next Thg.empty with next := S.next + 1 }).turned (.mk name S.next)
def AD.create (S : AD) (name : ByteArray) : Int × AD :=
  if S.look name = 0 then (52, S) else if S.look name = 53 then S.stroke 1 (if S.shown.length ≥ 256 then 56 else 0) (fun S => S.made name) else (S.look name, S)
def AD.of (S : AD) (name : ByteArray) : Nat := (alGet S.shown name).getD 0
def AD.bytes (S : AD) (name : ByteArray) : Bytes := (S.things (S.of name)).shown
def AD.writeAt (S : AD) (name : ByteArray) (at_ : Int) (data : Bytes) : Int × AD :=
  if S.look name ≠ 0 then (S.look name, S) else
  if at_ < 0 ∨ at_ > (S.bytes name).length then (54, S) else
  S.stroke 1 (if at_ + data.length - (S.bytes name).length > 0 ∧ S.used + (at_ + data.length - (S.bytes name).length) > S.room then 55 else 0)
    (fun T => T.setThing (S.of name) ((T.things (S.of name)).add (.wr at_.toNat data)))
def AD.append (S : AD) (name : ByteArray) (data : Bytes) : Int × AD :=
  if S.look name ≠ 0 then (S.look name, S) else S.writeAt name (S.bytes name).length data
def AD.truncate (S : AD) (name : ByteArray) (n : Int) : Int × AD :=
  if S.look name ≠ 0 then (S.look name, S) else
  if n < 0 ∨ n > (S.bytes name).length then (54, S) else
  S.stroke 0 0 (fun T => T.setThing (S.of name) ((T.things (S.of name)).add (.cut n.toNat)))
def AD.rename (S : AD) (a b : ByteArray) : Int × AD :=
  if S.off then (50, S) else if !isName a || !isName b then (51, S) else
  match alGet S.shown a with
  | none => (53, S)
  | some _ => S.stroke 0 0 (fun T => if a = b then T else T.turned (.give a b))
def AD.remove (S : AD) (name : ByteArray) : Int × AD :=
  if S.look name ≠ 0 then (S.look name, S) else S.stroke 0 0 (fun T => T.turned (.take name))
def AD.sync (S : AD) (name : ByteArray) : Int × AD :=
  if S.look name ≠ 0 then (S.look name, S) else S.stroke 2 0 (fun T => T.setThing (S.of name) (T.things (S.of name)).settle)
def AD.syncNames (S : AD) : Int × AD :=
  if S.off then (50, S) else S.stroke 2 0 (fun T => { T with safe := T.shown, row := [] })
def AD.plans (S : AD) (p : PlanA) : AD := if S.off then S else { S with plan := p, since := 0 }
/-- A pick counts round. -/
def roundA (pick : Int) (most : Nat) : Nat := (pick.emod (most + 1)).toNat
def pickA (picks : List Int) (k most : Nat) : Nat := match picks[k]? with | some p => roundA p most | none => 0
/-- What a crash leaves: new things, in the order of the names. -/
def AD.crashNames (S : AD) (picks : List Int) : Names := (S.row.take (pickA picks 0 S.row.length)).foldl (fun l c => c.on l) S.safe
def AD.crashBytes (S : AD) (picks : List Int) (i : Nat) (t : Nat) : Bytes := (S.things t).left (pickA picks (i + 1) (unitsOf (S.things t).row))
def AD.crash (S : AD) (picks : List Int) : AD :=
  let l := S.crashNames picks
  let now : Names := l.zipIdx.map fun (p, i) => (p.1, S.next + i)
  { S with things := fun j => if j < S.next then S.things j else match l[j - S.next]? with
             | some p => let b := S.crashBytes picks (j - S.next) p.2; ⟨b, b, []⟩
             | none => S.things j,
           next := S.next + l.length, shown := now, safe := now, row := [], off := false, plan := .zero, since := 0, strokes := 0 }
def AD.files (S : AD) : List (ByteArray × Bytes) := S.shown.map fun p => (p.1, (S.things p.2).shown)
def AD.safes (S : AD) : List (ByteArray × Bytes) := S.safe.map fun p => (p.1, (S.things p.2).safe)
def AD.read (S : AD) (name : ByteArray) (at_ n : Int) : Int × Bytes × AD :=
  if S.look name ≠ 0 then (S.look name, [], S) else
  if at_ < 0 ∨ n < 0 ∨ at_ > (S.bytes name).length ∨ n > (S.bytes name).length - at_ then (54, [], S) else
  (0, ((S.bytes name).drop at_.toNat).take n.toNat, { S with reads := S.reads ++ [⟨name, at_, n⟩] })
end Go.Proofs.XDisk
