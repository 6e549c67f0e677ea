/- Put together by a program (wip/tools/shake.py): XDisk,XAbs,Steps. -/
import Derived.Test.YteeeggphkhimcaaGreatDoorE2
import Derived.Test.YteeeggphkhimcaaGreatDoorProg
import Derived.Carry
set_option linter.unusedVariables false
namespace Go.Proofs.XDisk
open Go.Proofs.XMaps
abbrev Bytes := List UInt8
inductive Chg where
 | wr (at_:Nat) (data:Bytes)
 | cut (n:Nat)
def Chg.units : Chg → Nat
 | .wr _ d => d.length
 | .cut _ => 1
def Chg.made (b:Bytes) (u:Nat) : Chg → Bytes
 | .wr a d => if u = 0 then b else ((b ++ List.replicate (a + u - b.length) 0).take a) ++ d.take u ++ ((b ++ List.replicate (a + u - b.length) 0).drop (a + u))
 | .cut n => if u = 0 then b else b.take n
structure Thg where
 safe : Bytes
 shown : Bytes
 row : List Chg
def Thg.empty : Thg := ⟨[],[],[]⟩
def Thg.add (t:Thg) (c:Chg) : Thg := { t with row := t.row ++ [c],shown := c.made t.shown c.units }
def unitsOf (row:List Chg) : Nat := (row.map Chg.units).sum
def leftOf (b:Bytes) : List Chg → Nat → Bytes
 | [],_ => b
 | c :: r,u => leftOf (c.made b (min u c.units)) r (u - min u c.units)
def Thg.left (t:Thg) (u:Nat) : Bytes := leftOf t.safe t.row u
def Thg.settle (t:Thg) : Thg := { t with safe := t.shown,row := [] }
inductive Turn where
 | mk (n:ByteArray) (t:Nat)
 | give (a b:ByteArray)
 | take (n:ByteArray)
def blt (a b:ByteArray) : Bool := decide (a.data.toList < b.data.toList)
abbrev Names := List (ByteArray × Nat)
def insN (l:Names) (s:ByteArray) (t:Nat) : Names :=
 match l with
 | [] => [(s,t)]
 | p :: r => if blt s p.1 then (s,t) :: p :: r else p :: insN r s t
def setN (l:Names) (s:ByteArray) (t:Nat) : Names := insN (alDel l s) s t
def Turn.on : Turn → Names → Names
 | .mk n t,l => setN l n t
 | .give a b,l => setN (alDel l a) b ((alGet l a).getD 0)
 | .take n,l => alDel l n
structure PlanA where
 off : Int
 from_ : Int
 to_ : Int
structure SpanA where
 name : ByteArray
 at_ : Int
 n : Int
structure AD where
 room : Int
 things : Nat → Thg
 next : Nat
 shown : Names
 safe : Names
 row : List Turn
 strokes : Int
 plan : PlanA
 since : Int
 off : Bool
 reads : List SpanA
def PlanA.zero : PlanA := ⟨0,0,0⟩
def AD.new (room:Int) : AD := { room,things := fun _ => Thg.empty,next := 0,shown := [],safe := [],row := [],strokes := 0,plan := .zero,since := 0,off := false,reads := [] }
def okByte (c:UInt8) : Bool := (97 ≤ c && c ≤ 122) || (48 ≤ c && c ≤ 57) || c == 46 || c == 45 || c == 95 || c == 43
def isName (s:ByteArray) : Bool := s.data.toList.all okByte && decide (1 ≤ s.size) && decide (s.size ≤ 112)
def AD.setThing (S:AD) (t:Nat) (x:Thg) : AD := { S with things := fun i => if i = t then x else S.things i }
def AD.look (S:AD) (name:ByteArray) : Int :=
 if S.off then 50 else if !isName name then 51 else match alGet S.shown name with
  | none => 53
  | some _ => 0
def AD.used (S:AD) : Nat := (S.shown.map fun p => (S.things p.2).shown.length).sum
def AD.ticked (S:AD) : AD := { S with strokes := S.strokes + 1,since := S.since + 1 }
def AD.stroke (S:AD) (kind refused:Int) (act:AD → AD) : Int × AD :=
 let S1 := S.ticked
 let r := if refused = 0 ∧ kind = 1 ∧ S1.since ≥ S1.plan.from_ ∧ S1.since ≤ S1.plan.to_ then 55 else refused
 let out := decide (S1.since = S1.plan.off)
 let S2 := { S1 with off := out }
 (if out then 50 else r,if r = 0 ∧ ¬ (out = true ∧ kind = 2) then act S2 else S2)
def AD.turned (S:AD) (c:Turn) : AD := { S with row := S.row ++ [c],shown := c.on S.shown }
def AD.made (S:AD) (name:ByteArray) : AD := ({ S.setThing S.next Thg.empty with next := S.next + 1 }).turned (.mk name S.next)
def AD.create (S:AD) (name:ByteArray) : Int × AD :=
 if S.look name = 0 then (52,S) else if S.look name = 53 then S.stroke 1 (if S.shown.length ≥ 256 then 56 else 0) (fun S => S.made name) else (S.look name,S)
def AD.of (S:AD) (name:ByteArray) : Nat := (alGet S.shown name).getD 0
def AD.bytes (S:AD) (name:ByteArray) : Bytes := (S.things (S.of name)).shown
def AD.writeAt (S:AD) (name:ByteArray) (at_:Int) (data:Bytes) : Int × AD :=
 if S.look name ≠ 0 then (S.look name,S) else
 if at_ < 0 ∨ at_ > (S.bytes name).length then (54,S) else
 S.stroke 1 (if at_ + data.length - (S.bytes name).length > 0 ∧ S.used + (at_ + data.length - (S.bytes name).length) > S.room then 55 else 0)
  (fun T => T.setThing (S.of name) ((T.things (S.of name)).add (.wr at_.toNat data)))
def AD.append (S:AD) (name:ByteArray) (data:Bytes) : Int × AD :=
 if S.look name ≠ 0 then (S.look name,S) else S.writeAt name (S.bytes name).length data
def AD.rename (S:AD) (a b:ByteArray) : Int × AD :=
 if S.off then (50,S) else if !isName a || !isName b then (51,S) else
 match alGet S.shown a with
 | none => (53,S)
 | some _ => S.stroke 0 0 (fun T => if a = b then T else T.turned (.give a b))
def AD.remove (S:AD) (name:ByteArray) : Int × AD :=
 if S.look name ≠ 0 then (S.look name,S) else S.stroke 0 0 (fun T => T.turned (.take name))
def AD.sync (S:AD) (name:ByteArray) : Int × AD :=
 if S.look name ≠ 0 then (S.look name,S) else S.stroke 2 0 (fun T => T.setThing (S.of name) (T.things (S.of name)).settle)
def AD.syncNames (S:AD) : Int × AD :=
 if S.off then (50,S) else S.stroke 2 0 (fun T => { T with safe := T.shown,row := [] })
def AD.plans (S:AD) (p:PlanA) : AD := if S.off then S else { S with plan := p,since := 0 }
def roundA (pick:Int) (most:Nat) : Nat := (pick.emod (most + 1)).toNat
def pickA (picks:List Int) (k most:Nat) : Nat := match picks[k]? with | some p => roundA p most | none => 0
def AD.crashNames (S:AD) (picks:List Int) : Names := (S.row.take (pickA picks 0 S.row.length)).foldl (fun l c => c.on l) S.safe
def AD.crashBytes (S:AD) (picks:List Int) (i:Nat) (t:Nat) : Bytes := (S.things t).left (pickA picks (i + 1) (unitsOf (S.things t).row))
def AD.crash (S:AD) (picks:List Int) : AD :=
  let l := S.crashNames picks
  let now : Names := l.zipIdx.map fun (p,i) => (p.1,S.next + i)
  { S with things := fun j => if j < S.next then S.things j else match l[j - S.next]? with
             | some p => let b := S.crashBytes picks (j - S.next) p.2; ⟨b,b,[]⟩
             | none => S.things j,
           next := S.next + l.length,shown := now,safe := now,row := [],off := false,plan := .zero,since := 0,strokes := 0 }
def AD.files (S:AD) : List (ByteArray × Bytes) := S.shown.map fun p => (p.1,(S.things p.2).shown)
def AD.safes (S:AD) : List (ByteArray × Bytes) := S.safe.map fun p => (p.1,(S.things p.2).safe)
def AD.read (S:AD) (name:ByteArray) (at_ n:Int) : Int × Bytes × AD :=
 if S.look name ≠ 0 then (S.look name,[],S) else
 if at_ < 0 ∨ n < 0 ∨ at_ > (S.bytes name).length ∨ n > (S.bytes name).length - at_ then (54,[],S) else
 (0,((S.bytes name).drop at_.toNat).take n.toNat,{ S with reads := S.reads ++ [⟨name,at_,n⟩] })
end Go.Proofs.XDisk

set_option linter.unusedSimpArgs false
namespace Go.Proofs.XDisk
open Go.Proofs.XMaps
section
variable {β:Type}
theorem alGet_mem {l:List (ByteArray × β)} (hn:(alKeys l).Nodup) {p:ByteArray × β} (h:p ∈ l) : alGet l p.1 = some p.2 := by
 obtain ⟨j,hj⟩ := List.getElem?_of_mem h
 exact alGet_at hn hj
theorem mem_of_alGet {l:List (ByteArray × β)} {s:ByteArray} {v:β} (h:alGet l s = some v) : (s,v) ∈ l := by
 unfold alGet at h
 obtain ⟨p,hp,rfl⟩ := Option.map_eq_some_iff.1 h
 have h1 := List.mem_of_find?_eq_some hp
 have h2 := List.find?_some hp
 simp only [decide_eq_true_eq] at h2
 subst h2; exact h1
theorem alGet_iff {l:List (ByteArray × β)} (hn:(alKeys l).Nodup) {s:ByteArray} {v:β} : alGet l s = some v ↔ (s,v) ∈ l := ⟨mem_of_alGet,fun h => alGet_mem hn h⟩
theorem alKeys_perm {l l':List (ByteArray × β)} (h:l.Perm l') : (alKeys l).Perm (alKeys l') := h.map _
theorem alGet_perm {l l':List (ByteArray × β)} (h:l.Perm l') (hn:(alKeys l).Nodup) (s:ByteArray) : alGet l s = alGet l' s := by
 have hn' : (alKeys l').Nodup := (alKeys_perm h).nodup_iff.1 hn
 apply Option.ext
 intro v
 rw [alGet_iff hn,alGet_iff hn',h.mem_iff]
theorem alDel_perm {l l':List (ByteArray × β)} (h:l.Perm l') (s:ByteArray) : (alDel l s).Perm (alDel l' s) := h.filter _
theorem alDel_keys_nodup {l:List (ByteArray × β)} (hn:(alKeys l).Nodup) (s:ByteArray) : (alKeys (alDel l s)).Nodup := hn.sublist (List.Sublist.map _ List.filter_sublist)
theorem mem_alDel {l:List (ByteArray × β)} {s:ByteArray} {p:ByteArray × β} : p ∈ alDel l s ↔ p ∈ l ∧ p.1 ≠ s := by simp [alDel,List.mem_filter]
theorem alGet_none_iff {l:List (ByteArray × β)} {s:ByteArray} : alGet l s = none ↔ ∀ p ∈ l,p.1 ≠ s := by
 unfold alGet
 simp [List.find?_eq_none]
theorem alDel_none {l:List (ByteArray × β)} {s:ByteArray} (h:∀ p ∈ l,p.1 ≠ s) : alDel l s = l := by
 unfold alDel
 rw [List.filter_eq_self]
 intro p hp; simp [h p hp]
theorem map_set_perm (s:ByteArray) (v:β) : ∀ {l:List (ByteArray × β)},(alKeys l).Nodup → (∃ p ∈ l,p.1 = s) → (l.map fun p => if p.1 = s then (s,v) else p).Perm ((s,v) :: alDel l s)
 | [],_,h => by obtain ⟨p,hp,_⟩ := h; cases hp
 | p :: r,hn,h => by
  simp only [alKeys,List.map_cons,List.nodup_cons] at hn
  by_cases e : p.1 = s
  ·have hr : ∀ q ∈ r,q.1 ≠ s := fun q hq he => hn.1 (by rw [e,← he]; exact List.mem_map_of_mem hq)
   have e1 : alDel (p :: r) s = r := by
    have := alDel_none hr
    unfold alDel at *
    rw [List.filter_cons_of_neg (by simp [e]),this]
   have e2 : (r.map fun p => if p.1 = s then (s,v) else p) = r := by
    rw [List.map_congr_left (g := id) (fun q hq => by simp [hr q hq])]; simp
   rw [e1,List.map_cons,e2,if_pos e]
  ·have e1 : alDel (p :: r) s = p :: alDel r s := by
    unfold alDel
    rw [List.filter_cons_of_pos (by simp [e])]
   rw [e1,List.map_cons,if_neg e]
   have ih := map_set_perm s v (l := r) hn.2 (by
    obtain ⟨q,hq,hs⟩ := h
    cases hq with
    | head => exact absurd hs e
    | tail _ hq => exact ⟨q,hq,hs⟩)
   exact (List.Perm.cons p ih).trans (List.Perm.swap ..)
theorem alSet_perm {l:List (ByteArray × β)} (hn:(alKeys l).Nodup) (s:ByteArray) (v:β) : (alSet l s v).Perm ((s,v) :: alDel l s) := by
 unfold alSet
 split
 ·rename_i h
  obtain ⟨p,hp,he⟩ := List.any_eq_true.1 h
  exact map_set_perm s v hn ⟨p,hp,by simpa using he⟩
 ·rename_i h
  have : ∀ p ∈ l,p.1 ≠ s := by
   intro p hp he
   exact h (List.any_eq_true.2 ⟨p,hp,by simp [he]⟩)
  rw [alDel_none this]
  exact List.perm_append_singleton _ _
end
theorem insN_perm (s:ByteArray) (t:Nat) : ∀ l : Names,(insN l s t).Perm ((s,t) :: l)
 | [] => .refl _
 | p :: r => by
  unfold insN
  split
  ·exact .refl _
  ·exact (List.Perm.cons p (insN_perm s t r)).trans (List.Perm.swap ..)
theorem setN_perm (l:Names) (s:ByteArray) (t:Nat) : (setN l s t).Perm ((s,t) :: alDel l s) := insN_perm s t _
theorem cons_keys_nodup {l:Names} (hn:(alKeys l).Nodup) (s:ByteArray) (t:Nat) : (alKeys ((s,t) :: alDel l s)).Nodup := by
 show (s :: alKeys (alDel l s)).Nodup
 rw [List.nodup_cons]
 refine ⟨?_,alDel_keys_nodup hn s⟩
 intro h
 obtain ⟨p,hp,he⟩ := List.mem_map.1 h
 exact (mem_alDel.1 hp).2 he
theorem setN_nodup {l:Names} (hn:(alKeys l).Nodup) (s:ByteArray) (t:Nat) : (alKeys (setN l s t)).Nodup :=
 (alKeys_perm (setN_perm l s t)).nodup_iff.2 (cons_keys_nodup hn s t)
def Turn.onL : Turn → Names → Names
 | .mk n t,l => alSet l n t
 | .give a b,l => alSet (alDel l a) b ((alGet l a).getD 0)
 | .take n,l => alDel l n
theorem Turn.onL_perm (c:Turn) {l l':Names} (h:l.Perm l') (hn:(alKeys l).Nodup) : (c.onL l).Perm (c.on l') := by
 cases c with
 | mk n t => exact (alSet_perm hn n t).trans ((List.Perm.cons _ (alDel_perm h n)).trans (setN_perm l' n t).symm)
 | give a b =>
  show (alSet (alDel l a) b ((alGet l a).getD 0)).Perm (setN (alDel l' a) b ((alGet l' a).getD 0))
  rw [alGet_perm h hn a]
  exact (alSet_perm (alDel_keys_nodup hn a) b _).trans ((List.Perm.cons _ (alDel_perm (alDel_perm h a) b)).trans (setN_perm _ b _).symm)
 | take n => exact alDel_perm h n
theorem Turn.on_nodup (c:Turn) {l:Names} (hn:(alKeys l).Nodup) : (alKeys (c.on l)).Nodup := by
 cases c with
 | mk n t => exact setN_nodup hn n t
 | give a b => exact setN_nodup (alDel_keys_nodup hn a) b _
 | take n => exact alDel_keys_nodup hn n
theorem mem_setN {l:Names} {s:ByteArray} {t:Nat} {p:ByteArray × Nat} : p ∈ setN l s t ↔ p = (s,t) ∨ (p ∈ l ∧ p.1 ≠ s) := by
 rw [(setN_perm l s t).mem_iff,List.mem_cons,mem_alDel]
def reach (S:AD) (t:Nat) : Prop := (∃ n,(n,t) ∈ S.shown) ∨ (∃ n,(n,t) ∈ S.safe) ∨ ∃ n,Turn.mk n t ∈ S.row
def rowOk : Bytes → List Chg → Bytes → Prop
 | b,[],s => s = b ∧ b.length ≤ 1048576
 | b,c :: r,s => b.length ≤ 1048576 ∧ (∀ n,c = .cut n → n ≤ b.length) ∧ (∀ a d,c = .wr a d → a ≤ b.length ∧ a + d.length ≤ 1048576) ∧ rowOk (c.made b c.units) r s
def turnsOk : Names → List Turn → Names → Prop
 | l,[],s => s = l ∧ l.length ≤ 256
 | l,c :: r,s => l.length ≤ 256 ∧ (∀ a b,c = .give a b → alGet l a ≠ none) ∧ turnsOk (c.on l) r s
def Ordered (l:Names) : Prop := l.Pairwise fun p q => blt p.1 q.1 = true
structure Thg.Ok (x:Thg) (c:Nat) : Prop where
 row : x.row.length ≤ c
 ok : rowOk x.safe x.row x.shown
def Turn.nm : Turn → Prop
 | .mk n _ => n.size ≤ 112
 | .give _ b => b.size ≤ 112
 | .take _ => True
structure AD.Ok (S:AD) (c:Nat) : Prop where
 room : 1 ≤ S.room ∧ S.room ≤ 1048576
 small : c ≤ 1099511627776
 strokes : 0 ≤ S.strokes ∧ S.strokes ≤ c
 since : 0 ≤ S.since ∧ S.since ≤ c
 row : S.row.length ≤ c
 reads : S.reads.length ≤ c
 next : ∀ t,reach S t → t < S.next
 thing : ∀ t,reach S t → (S.things t).Ok c
 turns : turnsOk S.safe S.row S.shown
 sn : ∀ p ∈ S.safe,p.1.size ≤ 112
 rn : ∀ c ∈ S.row,Turn.nm c
 safe : Ordered S.safe
theorem rowOk.len {b s:Bytes} : ∀ {r:List Chg},rowOk b r s → s.length ≤ 1048576 ∧ b.length ≤ 1048576
 | [],h => ⟨h.1 ▸ h.2,h.2⟩
 | c :: r,h => ⟨(rowOk.len h.2.2.2).1,h.1⟩
theorem turnsOk.len {l s:Names} : ∀ {r:List Turn},turnsOk l r s → s.length ≤ 256 ∧ l.length ≤ 256
 | [],h => ⟨h.1 ▸ h.2,h.2⟩
 | c :: r,h => ⟨(turnsOk.len h.2.2).1,h.1⟩
theorem rowOk.snoc {s:Bytes} {c:Chg} (h1:∀ n,c = .cut n → n ≤ s.length) (h2:∀ a d,c = .wr a d → a ≤ s.length ∧ a + d.length ≤ 1048576) (h3:(c.made s c.units).length ≤ 1048576) :
    ∀ {r:List Chg} {b:Bytes},rowOk b r s → rowOk b (r ++ [c]) (c.made s c.units)
  | [],b,h => by
    obtain ⟨rfl,hb⟩ := h
    exact ⟨hb,h1,h2,rfl,h3⟩
  | d :: r,b,h => ⟨h.1,h.2.1,h.2.2.1,rowOk.snoc h1 h2 h3 h.2.2.2⟩
theorem turnsOk.snoc {s:Names} {c:Turn} (h1:∀ a b,c = .give a b → alGet s a ≠ none) (h3:(c.on s).length ≤ 256) :
    ∀ {r:List Turn} {l:Names},turnsOk l r s → turnsOk l (r ++ [c]) (c.on s)
  | [],l,h => by
    obtain ⟨rfl,hb⟩ := h
    exact ⟨hb,h1,rfl,h3⟩
  | d :: r,l,h => ⟨h.1,h.2.1,turnsOk.snoc h1 h3 h.2.2⟩
theorem turnsOk.eq {s:Names} : ∀ {r:List Turn} {l:Names},turnsOk l r s → s = r.foldl (fun l c => c.on l) l
 | [],l,h => h.1
 | c :: r,l,h => turnsOk.eq (r := r) (l := c.on l) h.2.2
theorem turnsOk.take {s:Names} (i:Nat) : ∀ {r:List Turn} {l:Names},turnsOk l r s → turnsOk l (r.take i) ((r.take i).foldl (fun l c => c.on l) l) := by
 induction i with
 | zero => intro r l h; exact ⟨rfl,h.len.2⟩
 | succ i ih =>
  intro r l h
  cases r with
  | nil => exact ⟨rfl,h.len.2⟩
  | cons c r => exact ⟨h.1,h.2.1,ih h.2.2⟩
theorem blt_trans {a b c:ByteArray} (h:blt a b = true) (k:blt b c = true) : blt a c = true := by
 unfold blt at *
 simp only [decide_eq_true_eq] at *
 exact List.lt_trans h k
theorem blt_irrefl (a:ByteArray) : blt a a = false := by
 unfold blt
 simp only [decide_eq_false_iff_not]
 exact List.lt_irrefl _
theorem blt_total {a b:ByteArray} (h:blt a b = false) (hne:a ≠ b) : blt b a = true := by
 unfold blt at *
 simp only [decide_eq_false_iff_not,decide_eq_true_eq] at *
 by_cases h' : b.data.toList < a.data.toList
 ·exact h'
 ·exact absurd (ByteArray.ext (Array.toList_inj.1 (List.le_antisymm (List.not_lt.1 h') (List.not_lt.1 h)))) hne
theorem Ordered.nodup {l:Names} (h:Ordered l) : (alKeys l).Nodup := by
 unfold alKeys
 rw [List.Nodup,List.pairwise_map]
 refine h.imp fun {p q} hpq e => ?_
 rw [e,blt_irrefl] at hpq; cases hpq
theorem Ordered.del {l:Names} (h:Ordered l) (s:ByteArray) : Ordered (alDel l s) := h.filter _
theorem Ordered.ins {s:ByteArray} {t:Nat} : ∀ {l:Names},Ordered l → (∀ p ∈ l,p.1 ≠ s) → Ordered (insN l s t)
 | [],_,_ => List.pairwise_singleton _ _
 | p :: r,h,hn => by
  obtain ⟨h1,h2⟩ := List.pairwise_cons.1 h
  unfold insN
  split
  ·rename_i hs
   refine List.pairwise_cons.2 ⟨?_,h⟩
   intro q hq
   cases hq with
   | head => exact hs
   | tail _ hq => exact blt_trans hs (h1 q hq)
  ·rename_i hs
   refine List.pairwise_cons.2 ⟨?_,Ordered.ins h2 fun q hq => hn q (List.mem_cons_of_mem _ hq)⟩
   intro q hq
   rcases List.mem_cons.1 ((insN_perm s t r).mem_iff.1 hq) with rfl | hq
   ·exact blt_total (by simpa using hs) (fun e => hn p List.mem_cons_self e.symm)
   ·exact h1 q hq
theorem Ordered.set {l:Names} (h:Ordered l) (s:ByteArray) (t:Nat) : Ordered (setN l s t) := (h.del s).ins fun p hp => (mem_alDel.1 hp).2
theorem Ordered.on {l:Names} (h:Ordered l) (c:Turn) : Ordered (c.on l) := by
 cases c with
 | mk n t => exact h.set n t
 | give a b => exact (h.del a).set b _
 | take n => exact h.del n
theorem Ordered.fold {r:List Turn} : ∀ {l:Names},Ordered l → Ordered (r.foldl (fun l c => c.on l) l) := by
 induction r with
 | nil => intro l h; exact h
 | cons c r ih => intro l h; exact ih (h.on c)
theorem AD.Ok.shown {S:AD} {c:Nat} (h:S.Ok c) : Ordered S.shown := by rw [h.turns.eq]; exact h.safe.fold
theorem made_len {a u:Nat} {b d:Bytes} : (((b ++ List.replicate (a + u - b.length) 0).take a) ++ d.take u ++ ((b ++ List.replicate (a + u - b.length) 0).drop (a + u)) : Bytes).length = min a (max b.length (a + u)) + min u d.length + (max b.length (a + u) - (a + u)) := by
 simp only [List.length_append,List.length_take,List.length_drop,List.length_replicate]
 omega
theorem units_le {c:Chg} {b:Bytes} (h1:∀ a d,c = .wr a d → a ≤ b.length ∧ a + d.length ≤ 1048576) : c.units ≤ 1048576 := by
 cases c with
 | cut n => show 1 ≤ _; omega
 | wr a d => have := (h1 a d rfl).2; show d.length ≤ _; omega
theorem rowOk.units_at {s:Bytes} : ∀ {r:List Chg} {b:Bytes},rowOk b r s → ∀ c ∈ r,c.units ≤ 1048576
 | [],b,_,c,hc => by cases hc
 | d :: r,b,h,c,hc => by
  cases hc with
  | head => exact units_le h.2.2.1
  | tail _ hc => exact rowOk.units_at h.2.2.2 c hc
theorem unitsOf_le {l:List Chg} (h:∀ c ∈ l,c.units ≤ 1048576) : unitsOf l ≤ l.length * 1048576 := by
 unfold unitsOf
 induction l with
 | nil => simp
 | cons c l ih =>
  have h1 := h c List.mem_cons_self
  have h2 := ih fun d hd => h d (List.mem_cons_of_mem _ hd)
  simp only [List.map_cons,List.sum_cons,List.length_cons]
  omega
def midOk (b:Bytes) (r:List Chg) (u:Nat) (s:Bytes) : Prop := rowOk b r s ∨ (u = 0 ∧ b.length ≤ 1048576 ∧ ∀ c ∈ r,c.units ≤ 1048576)
theorem midOk.step {b:Bytes} {c:Chg} {r:List Chg} {u:Nat} {s:Bytes} (h:midOk b (c :: r) u s) : midOk (c.made b (min u c.units)) r (u - min u c.units) s ∧ b.length ≤ 1048576 ∧ c.units ≤ 1048576 ∧ (∀ n,c = .cut n → min u c.units ≠ 0 → n ≤ b.length) ∧ (∀ a d,c = .wr a d → min u c.units ≠ 0 → a + min u c.units ≤ 1048576) := by
 have zero : ∀ b : Bytes,c.made b 0 = b := by intro b; cases c <;> simp [Chg.made]
 rcases h with h | ⟨rfl,hb,hu⟩
 ·have hcu := units_le h.2.2.1
  refine ⟨?_,h.1,hcu,fun n e _ => h.2.1 n e,fun a d e _ => ?_⟩
  ·by_cases hle : c.units ≤ u
   ·rw [Nat.min_eq_right hle]; exact .inl h.2.2.2
   ·rw [Nat.min_eq_left (by omega)]
    refine .inr ⟨by omega,?_,fun c hc => rowOk.units_at h.2.2.2 c hc⟩
    cases c with
    | cut n =>
     have : u = 0 := by have : (Chg.cut n).units = 1 := rfl; omega
     subst this; rw [zero]; exact h.1
    | wr a d =>
     by_cases h0 : u = 0
     ·subst h0; rw [zero]; exact h.1
     ·have h2 := h.2.2.1 a d rfl
      have h3 : (Chg.wr a d).units = d.length := rfl
      simp only [Chg.made,if_neg h0]
      rw [made_len]
      have := h.1
      omega
  ·subst e
   have h2 := (h.2.2.1 a d rfl).2
   have h3 : (Chg.wr a d).units = d.length := rfl
   have := Nat.min_le_right u (Chg.wr a d).units
   omega
 ·rw [Nat.zero_min,zero]
  exact ⟨.inr ⟨rfl,hb,fun c hc => hu c (List.mem_cons_of_mem _ hc)⟩,hb,hu c List.mem_cons_self,fun n _ h => absurd rfl h,fun a d _ h => absurd rfl h⟩
theorem midOk.len {b:Bytes} {r:List Chg} {u:Nat} {s:Bytes} (h:midOk b r u s) : b.length ≤ 1048576 := by
 rcases h with h | h
 ·exact h.len.2
 ·exact h.2.1
end Go.Proofs.XDisk

set_option maxRecDepth 100000
namespace Go.Proofs.YteeeggphkhimcaaGreatDoor
open Go Go.Proofs Go.RowKit Go.Proofs.XRed Go.Proofs.XHeap Go.Proofs.XMaps Go.Proofs.XSlices Tryz
section
variable {w:World} {k:KV}
theorem fa77_0 {b o:Nat} (hk:k (.pointer (some ⟨b,o + 0,none⟩)) w) : px prog (Instr.fieldAt 77 (.pointer (some ⟨b,o,none⟩)) 0) w k :=
 s_fa 9 0 (runUnderlying77 w) (by kernel_rfl) (sizeOf9 w) (by decide) hk
theorem fa77_1 {b o:Nat} (hk:k (.pointer (some ⟨b,o + 1,none⟩)) w) : px prog (Instr.fieldAt 77 (.pointer (some ⟨b,o,none⟩)) 1) w k :=
 s_fa 9 1 (runUnderlying77 w) (by kernel_rfl) (sizeOf9 w) (by decide) hk
theorem fa77_2 {b o:Nat} (hk:k (.pointer (some ⟨b,o + 2,none⟩)) w) : px prog (Instr.fieldAt 77 (.pointer (some ⟨b,o,none⟩)) 2) w k :=
 s_fa 44 2 (runUnderlying77 w) (by kernel_rfl) (sizeOf44 w) (by decide) hk
theorem fa77_3 {b o:Nat} (hk:k (.pointer (some ⟨b,o + 34,none⟩)) w) : px prog (Instr.fieldAt 77 (.pointer (some ⟨b,o,none⟩)) 3) w k :=
 s_fa 31 34 (runUnderlying77 w) (by kernel_rfl) (sizeOf31 w) (by decide) hk
theorem fa85_0 {b o:Nat} (hk:k (.pointer (some ⟨b,o + 0,none⟩)) w) : px prog (Instr.fieldAt 85 (.pointer (some ⟨b,o,none⟩)) 0) w k :=
 s_fa 3 0 (runUnderlying85 w) (by kernel_rfl) (sizeOf3 w) (by decide) hk
theorem fa85_1 {b o:Nat} (hk:k (.pointer (some ⟨b,o + 1,none⟩)) w) : px prog (Instr.fieldAt 85 (.pointer (some ⟨b,o,none⟩)) 1) w k :=
 s_fa 3 1 (runUnderlying85 w) (by kernel_rfl) (sizeOf3 w) (by decide) hk
theorem fa85_2 {b o:Nat} (hk:k (.pointer (some ⟨b,o + 2,none⟩)) w) : px prog (Instr.fieldAt 85 (.pointer (some ⟨b,o,none⟩)) 2) w k :=
 s_fa 3 2 (runUnderlying85 w) (by kernel_rfl) (sizeOf3 w) (by decide) hk
theorem fa88_0 {b o:Nat} (hk:k (.pointer (some ⟨b,o + 0,none⟩)) w) : px prog (Instr.fieldAt 88 (.pointer (some ⟨b,o,none⟩)) 0) w k :=
 s_fa 3 0 (runUnderlying88 w) (by kernel_rfl) (sizeOf3 w) (by decide) hk
theorem fa88_1 {b o:Nat} (hk:k (.pointer (some ⟨b,o + 1,none⟩)) w) : px prog (Instr.fieldAt 88 (.pointer (some ⟨b,o,none⟩)) 1) w k :=
 s_fa 82 1 (runUnderlying88 w) (by kernel_rfl) (sizeOf82 w) (by decide) hk
theorem fa88_2 {b o:Nat} (hk:k (.pointer (some ⟨b,o + 2,none⟩)) w) : px prog (Instr.fieldAt 88 (.pointer (some ⟨b,o,none⟩)) 2) w k :=
 s_fa 82 2 (runUnderlying88 w) (by kernel_rfl) (sizeOf82 w) (by decide) hk
theorem fa88_3 {b o:Nat} (hk:k (.pointer (some ⟨b,o + 3,none⟩)) w) : px prog (Instr.fieldAt 88 (.pointer (some ⟨b,o,none⟩)) 3) w k :=
 s_fa 83 3 (runUnderlying88 w) (by kernel_rfl) (sizeOf83 w) (by decide) hk
theorem fa88_4 {b o:Nat} (hk:k (.pointer (some ⟨b,o + 4,none⟩)) w) : px prog (Instr.fieldAt 88 (.pointer (some ⟨b,o,none⟩)) 4) w k :=
 s_fa 3 4 (runUnderlying88 w) (by kernel_rfl) (sizeOf3 w) (by decide) hk
theorem fa88_5 {b o:Nat} (hk:k (.pointer (some ⟨b,o + 5,none⟩)) w) : px prog (Instr.fieldAt 88 (.pointer (some ⟨b,o,none⟩)) 5) w k :=
 s_fa 85 5 (runUnderlying88 w) (by kernel_rfl) (sizeOf85 w) (by decide) hk
theorem fa88_6 {b o:Nat} (hk:k (.pointer (some ⟨b,o + 8,none⟩)) w) : px prog (Instr.fieldAt 88 (.pointer (some ⟨b,o,none⟩)) 6) w k :=
 s_fa 3 8 (runUnderlying88 w) (by kernel_rfl) (sizeOf3 w) (by decide) hk
theorem fa88_7 {b o:Nat} (hk:k (.pointer (some ⟨b,o + 9,none⟩)) w) : px prog (Instr.fieldAt 88 (.pointer (some ⟨b,o,none⟩)) 7) w k :=
 s_fa 4 9 (runUnderlying88 w) (by kernel_rfl) (sizeOf4 w) (by decide) hk
theorem fa88_8 {b o:Nat} (hk:k (.pointer (some ⟨b,o + 10,none⟩)) w) : px prog (Instr.fieldAt 88 (.pointer (some ⟨b,o,none⟩)) 8) w k :=
 s_fa 86 10 (runUnderlying88 w) (by kernel_rfl) (sizeOf86 w) (by decide) hk
theorem fa107_0 {b o:Nat} (hk:k (.pointer (some ⟨b,o + 0,none⟩)) w) : px prog (Instr.fieldAt 107 (.pointer (some ⟨b,o,none⟩)) 0) w k :=
 s_fa 9 0 (runUnderlying107 w) (by kernel_rfl) (sizeOf9 w) (by decide) hk
theorem fa107_1 {b o:Nat} (hk:k (.pointer (some ⟨b,o + 1,none⟩)) w) : px prog (Instr.fieldAt 107 (.pointer (some ⟨b,o,none⟩)) 1) w k :=
 s_fa 23 1 (runUnderlying107 w) (by kernel_rfl) (sizeOf23 w) (by decide) hk
theorem fa131_0 {b o:Nat} (hk:k (.pointer (some ⟨b,o + 0,none⟩)) w) : px prog (Instr.fieldAt 131 (.pointer (some ⟨b,o,none⟩)) 0) w k :=
 s_fa 23 0 (runUnderlying131 w) (by kernel_rfl) (sizeOf23 w) (by decide) hk
theorem fa131_1 {b o:Nat} (hk:k (.pointer (some ⟨b,o + 1,none⟩)) w) : px prog (Instr.fieldAt 131 (.pointer (some ⟨b,o,none⟩)) 1) w k :=
 s_fa 23 1 (runUnderlying131 w) (by kernel_rfl) (sizeOf23 w) (by decide) hk
theorem fa131_2 {b o:Nat} (hk:k (.pointer (some ⟨b,o + 2,none⟩)) w) : px prog (Instr.fieldAt 131 (.pointer (some ⟨b,o,none⟩)) 2) w k :=
 s_fa 129 2 (runUnderlying131 w) (by kernel_rfl) (sizeOf129 w) (by decide) hk
theorem fa204_0 {b o:Nat} (hk:k (.pointer (some ⟨b,o + 0,none⟩)) w) : px prog (Instr.fieldAt 204 (.pointer (some ⟨b,o,none⟩)) 0) w k :=
 s_fa 9 0 (runUnderlying204 w) (by kernel_rfl) (sizeOf9 w) (by decide) hk
theorem fa204_1 {b o:Nat} (hk:k (.pointer (some ⟨b,o + 1,none⟩)) w) : px prog (Instr.fieldAt 204 (.pointer (some ⟨b,o,none⟩)) 1) w k :=
 s_fa 132 1 (runUnderlying204 w) (by kernel_rfl) (sizeOf132 w) (by decide) hk
theorem fa207_0 {b o:Nat} (hk:k (.pointer (some ⟨b,o + 0,none⟩)) w) : px prog (Instr.fieldAt 207 (.pointer (some ⟨b,o,none⟩)) 0) w k :=
 s_fa 9 0 (runUnderlying207 w) (by kernel_rfl) (sizeOf9 w) (by decide) hk
theorem fa207_1 {b o:Nat} (hk:k (.pointer (some ⟨b,o + 1,none⟩)) w) : px prog (Instr.fieldAt 207 (.pointer (some ⟨b,o,none⟩)) 1) w k :=
 s_fa 9 1 (runUnderlying207 w) (by kernel_rfl) (sizeOf9 w) (by decide) hk
theorem fa284_0 {b o:Nat} (hk:k (.pointer (some ⟨b,o + 0,none⟩)) w) : px prog (Instr.fieldAt 284 (.pointer (some ⟨b,o,none⟩)) 0) w k :=
 s_fa 3 0 (runUnderlying284 w) (by kernel_rfl) (sizeOf3 w) (by decide) hk
theorem fa284_1 {b o:Nat} (hk:k (.pointer (some ⟨b,o + 1,none⟩)) w) : px prog (Instr.fieldAt 284 (.pointer (some ⟨b,o,none⟩)) 1) w k :=
 s_fa 23 1 (runUnderlying284 w) (by kernel_rfl) (sizeOf23 w) (by decide) hk
theorem usl22 : prog.underlying 22 = some (.slice (prog.elem 22)) := by kernel_rfl
theorem elm22 : prog.elem 22 = 9 := by kernel_rfl
theorem sze22 (w:World) : (sizeOf (prog.elem 22)).run prog w = .ok 1 w := by rw [elm22]; exact sizeOf9 w
theorem usl23 : prog.underlying 23 = some (.slice (prog.elem 23)) := by kernel_rfl
theorem elm23 : prog.elem 23 = 5 := by kernel_rfl
theorem sze23 (w:World) : (sizeOf (prog.elem 23)).run prog w = .ok 1 w := by rw [elm23]; exact sizeOf5 w
theorem usl36 : prog.underlying 36 = some (.slice (prog.elem 36)) := by kernel_rfl
theorem elm36 : prog.elem 36 = 107 := by kernel_rfl
theorem sze36 (w:World) : (sizeOf (prog.elem 36)).run prog w = .ok 2 w := by rw [elm36]; exact sizeOf107 w
theorem usl58 : prog.underlying 58 = some (.slice (prog.elem 58)) := by kernel_rfl
theorem elm58 : prog.elem 58 = 3 := by kernel_rfl
theorem sze58 (w:World) : (sizeOf (prog.elem 58)).run prog w = .ok 1 w := by rw [elm58]; exact sizeOf3 w
theorem usl83 : prog.underlying 83 = some (.slice (prog.elem 83)) := by kernel_rfl
theorem elm83 : prog.elem 83 = 174 := by kernel_rfl
theorem sze83 (w:World) : (sizeOf (prog.elem 83)).run prog w = .ok 1 w := by rw [elm83]; exact sizeOf174 w
theorem usl129 : prog.underlying 129 = some (.slice (prog.elem 129)) := by kernel_rfl
theorem elm129 : prog.elem 129 = 240 := by kernel_rfl
theorem sze129 (w:World) : (sizeOf (prog.elem 129)).run prog w = .ok 1 w := by rw [elm129]; exact sizeOf240 w
theorem upt24 : prog.underlying 24 = some (.pointer (prog.pointee 24)) := by kernel_rfl
theorem upt73 : prog.underlying 73 = some (.pointer (prog.pointee 73)) := by kernel_rfl
theorem upt132 : prog.underlying 132 = some (.pointer (prog.pointee 132)) := by kernel_rfl
theorem cc82 : prog.concrete 82 = true := by kernel_rfl
theorem cc202 : prog.concrete 202 = true := by kernel_rfl
theorem cc204 : prog.concrete 204 = true := by kernel_rfl
theorem cc207 : prog.concrete 207 = true := by kernel_rfl
theorem cc284 : prog.concrete 284 = true := by kernel_rfl
theorem lit0_23 (hk:k (.slice (some ⟨w.heap.size,0,none⟩) 0 0) (w.alloc (.cells #[] 5))) : px prog (Instr.buildSlice 23 0 #[]) w k := s_lit0 (runUnderlying23 w) (sizeOf5 w) hk
theorem lit1_83 {x:Value} (hx:x.cells = #[x]) (hk:k (.slice (some ⟨w.heap.size,0,none⟩) 1 1) (w.alloc (.cells #[x] 174))) : px prog (Instr.buildSlice 83 1 #[(0,x)]) w k := s_lit1 (runUnderlying83 w) (sizeOf174 w) (zeroValue174 w) rfl hx hk
theorem lit1_129 {x:Value} (hx:x.cells = #[x]) (hk:k (.slice (some ⟨w.heap.size,0,none⟩) 1 1) (w.alloc (.cells #[x] 240))) : px prog (Instr.buildSlice 129 1 #[(0,x)]) w k := s_lit1 (runUnderlying129 w) (sizeOf240 w) (zeroValue240 w) rfl hx hk
theorem ap22 {base n m:Nat} {v x:Value} {xs cs:List Value} (HO:w.ownsRow base 9 1 v n xs) (HS:Src w x 1 m cs) (h1:∀ u ∈ cs,u.oneCell' = true) (hb:(n + m) * 16 ≤ 140737488355328) (hbase:base ≤ w.heap.size)
    (hk:∀ v' w',w'.ownsRow base 9 1 v' (n + m) (xs ++ cs) → Fr (fun b => some b = sblk v) w w' → (sblk v' = sblk v ∨ sblk v' = some w.heap.size) → k v' w') : px prog (bSem .append #[22,22] 22 #[v,x]) w k := by
  refine s_append (P := prog) (t := 22) (e := 9) (i := t9) (z := (t9.zero).getD undef) (size := 1) (bytes := 16) (by kernel_rfl) rfl (by kernel_rfl) (by kernel_rfl) (by kernel_rfl) (by kernel_rfl) (by kernel_rfl) (by decide) HO HS h1 ?_ hb hbase hk
  unfold maxLen; omega
theorem ap23 {base n m:Nat} {v x:Value} {xs cs:List Value} (HO:w.ownsRow base 5 1 v n xs) (HS:Src w x 1 m cs) (h1:∀ u ∈ cs,u.oneCell' = true) (hb:(n + m) * 1 ≤ 140737488355328) (hbase:base ≤ w.heap.size)
    (hk:∀ v' w',w'.ownsRow base 5 1 v' (n + m) (xs ++ cs) → Fr (fun b => some b = sblk v) w w' → (sblk v' = sblk v ∨ sblk v' = some w.heap.size) → k v' w') : px prog (bSem .append #[23,23] 23 #[v,x]) w k := by
  refine s_append (P := prog) (t := 23) (e := 5) (i := t5) (z := (t5.zero).getD undef) (size := 1) (bytes := 1) (by kernel_rfl) rfl (by kernel_rfl) (by kernel_rfl) (by kernel_rfl) (by kernel_rfl) (by kernel_rfl) (by decide) HO HS h1 ?_ hb hbase hk
  unfold maxLen; omega
theorem ap36 {base n m:Nat} {v x:Value} {xs cs:List Value} (HO:w.ownsRow base 107 2 v n xs) (HS:Src w x 2 m cs) (h1:∀ u ∈ cs,u.oneCell' = true) (hb:(n + m) * 40 ≤ 140737488355328) (hbase:base ≤ w.heap.size)
    (hk:∀ v' w',w'.ownsRow base 107 2 v' (n + m) (xs ++ cs) → Fr (fun b => some b = sblk v) w w' → (sblk v' = sblk v ∨ sblk v' = some w.heap.size) → k v' w') : px prog (bSem .append #[36,36] 36 #[v,x]) w k := by
  refine s_append (P := prog) (t := 36) (e := 107) (i := t107) (z := (t107.zero).getD undef) (size := 2) (bytes := 40) (by kernel_rfl) rfl (by kernel_rfl) (by kernel_rfl) (by kernel_rfl) (by kernel_rfl) (by kernel_rfl) (by decide) HO HS h1 ?_ hb hbase hk
  unfold maxLen; omega
theorem ap53 {base n m:Nat} {v x:Value} {xs cs:List Value} (HO:w.ownsRow base 44 32 v n xs) (HS:Src w x 32 m cs) (h1:∀ u ∈ cs,u.oneCell' = true) (hb:(n + m) * 32 ≤ 140737488355328) (hbase:base ≤ w.heap.size)
    (hk:∀ v' w',w'.ownsRow base 44 32 v' (n + m) (xs ++ cs) → Fr (fun b => some b = sblk v) w w' → (sblk v' = sblk v ∨ sblk v' = some w.heap.size) → k v' w') : px prog (bSem .append #[53,53] 53 #[v,x]) w k := by
  refine s_append (P := prog) (t := 53) (e := 44) (i := t44) (z := (t44.zero).getD undef) (size := 32) (bytes := 32) (by kernel_rfl) rfl (by kernel_rfl) (by kernel_rfl) (by kernel_rfl) (by kernel_rfl) (by kernel_rfl) (by decide) HO HS h1 ?_ hb hbase hk
  unfold maxLen; omega
theorem ap83 {base n m:Nat} {v x:Value} {xs cs:List Value} (HO:w.ownsRow base 174 1 v n xs) (HS:Src w x 1 m cs) (h1:∀ u ∈ cs,u.oneCell' = true) (hb:(n + m) * 16 ≤ 140737488355328) (hbase:base ≤ w.heap.size)
    (hk:∀ v' w',w'.ownsRow base 174 1 v' (n + m) (xs ++ cs) → Fr (fun b => some b = sblk v) w w' → (sblk v' = sblk v ∨ sblk v' = some w.heap.size) → k v' w') : px prog (bSem .append #[83,83] 83 #[v,x]) w k := by
  refine s_append (P := prog) (t := 83) (e := 174) (i := t174) (z := (t174.zero).getD undef) (size := 1) (bytes := 16) (by kernel_rfl) rfl (by kernel_rfl) (by kernel_rfl) (by kernel_rfl) (by kernel_rfl) (by kernel_rfl) (by decide) HO HS h1 ?_ hb hbase hk
  unfold maxLen; omega
theorem ap86 {base n m:Nat} {v x:Value} {xs cs:List Value} (HO:w.ownsRow base 209 3 v n xs) (HS:Src w x 3 m cs) (h1:∀ u ∈ cs,u.oneCell' = true) (hb:(n + m) * 32 ≤ 140737488355328) (hbase:base ≤ w.heap.size)
    (hk:∀ v' w',w'.ownsRow base 209 3 v' (n + m) (xs ++ cs) → Fr (fun b => some b = sblk v) w w' → (sblk v' = sblk v ∨ sblk v' = some w.heap.size) → k v' w') : px prog (bSem .append #[86,86] 86 #[v,x]) w k := by
  refine s_append (P := prog) (t := 86) (e := 209) (i := t209) (z := (t209.zero).getD undef) (size := 3) (bytes := 32) (by kernel_rfl) rfl (by kernel_rfl) (by kernel_rfl) (by kernel_rfl) (by kernel_rfl) (by kernel_rfl) (by decide) HO HS h1 ?_ hb hbase hk
  unfold maxLen; omega
theorem ap129 {base n m:Nat} {v x:Value} {xs cs:List Value} (HO:w.ownsRow base 240 1 v n xs) (HS:Src w x 1 m cs) (h1:∀ u ∈ cs,u.oneCell' = true) (hb:(n + m) * 16 ≤ 140737488355328) (hbase:base ≤ w.heap.size)
    (hk:∀ v' w',w'.ownsRow base 240 1 v' (n + m) (xs ++ cs) → Fr (fun b => some b = sblk v) w w' → (sblk v' = sblk v ∨ sblk v' = some w.heap.size) → k v' w') : px prog (bSem .append #[129,129] 129 #[v,x]) w k := by
  refine s_append (P := prog) (t := 129) (e := 240) (i := t240) (z := (t240.zero).getD undef) (size := 1) (bytes := 16) (by kernel_rfl) rfl (by kernel_rfl) (by kernel_rfl) (by kernel_rfl) (by kernel_rfl) (by kernel_rfl) (by decide) HO HS h1 ?_ hb hbase hk
  unfold maxLen; omega
theorem pl22 {base n:Nat} {v x0:Value} {xs:List Value} {kk:Value → KV} (HO:w.ownsRow base 9 1 v n xs) (hx:x0.cells = #[x0]) (h1:∀ u ∈ [x0],u.oneCell' = true) (hb:(n + 1) * 16 ≤ 140737488355328) (hbase:base ≤ w.heap.size)
    (hk:∀ u v' w',w'.ownsRow base 9 1 v' (n + 1) (xs ++ [x0]) → Fr (fun b => some b = sblk v) w w' → (∀ b,sblk v' = some b → sblk v = some b ∨ (w.heap.size ≤ b ∧ b < w'.heap.size)) → kk u v' w') : px prog (Instr.buildSlice 22 1 #[(0,x0)]) w fun u w => px prog (bSem .append #[22,22] 22 #[v,u]) w (kk u) := by
  refine s_lit1 (runUnderlying22 w) (sizeOf9 w) (zeroValue9 w) rfl hx ?_
  have f1 := Fr.alloc (fun _ => False) w (.cells #[x0] 9)
  have ho := own_lit w 0 9 1 #[x0] 1 (Nat.zero_le _) (by unfold maxLen; omega) rfl
  have z1 : (w.alloc (.cells #[x0] 9)).heap.size = w.heap.size + 1 := by simp
  generalize w.alloc (.cells #[x0] 9) = w1 at *
  refine ap22 (own_fr HO f1 fun _ _ h => h) (Src.of_own ho) h1 hb (by omega) fun v' w2 h2 f2 hb2 => hk _ v' w2 h2 ((f1.or f2).mono fun b hb => .inl (hb.elim (fun h => h.elim) id)) fun b hb => ?_
  have hlt := (own_blk_lt h2 hb).2
  rcases hb2 with e | e
  · exact .inl (e ▸ hb)
  · rw [e] at hb; injection hb with hb; exact .inr (by omega)
theorem pl36 {base n:Nat} {v x0 x1:Value} {xs:List Value} {kk:Value → KV} (HO:w.ownsRow base 107 2 v n xs) (h1:∀ u ∈ [x0,x1],u.oneCell' = true) (hb:(n + 1) * 40 ≤ 140737488355328) (hbase:base ≤ w.heap.size)
    (hk:∀ u v' w',w'.ownsRow base 107 2 v' (n + 1) (xs ++ [x0,x1]) → Fr (fun b => some b = sblk v) w w' → (∀ b,sblk v' = some b → sblk v = some b ∨ (w.heap.size ≤ b ∧ b < w'.heap.size)) → kk u v' w') : px prog (Instr.buildSlice 36 1 #[(0,.agg #[x0,x1])]) w fun u w => px prog (bSem .append #[36,36] 36 #[v,u]) w (kk u) := by
  refine px_ok (w' := w.alloc (.cells #[x0,x1] 107)) (v := .slice (some ⟨w.heap.size,0,none⟩) 1 1) (by kernel_rfl) ?_
  have f1 := Fr.alloc (fun _ => False) w (.cells #[x0,x1] 107)
  have ho := own_lit w 0 107 2 #[x0,x1] 1 (Nat.zero_le _) (by unfold maxLen; omega) rfl
  have z1 : (w.alloc (.cells #[x0,x1] 107)).heap.size = w.heap.size + 1 := by simp
  generalize w.alloc (.cells #[x0,x1] 107) = w1 at *
  refine ap36 (own_fr HO f1 fun _ _ h => h) (Src.of_own ho) h1 hb (by omega) fun v' w2 h2 f2 hb2 => hk _ v' w2 h2 ((f1.or f2).mono fun b hb => .inl (hb.elim (fun h => h.elim) id)) fun b hb => ?_
  have hlt := (own_blk_lt h2 hb).2
  rcases hb2 with e | e
  · exact .inl (e ▸ hb)
  · rw [e] at hb; injection hb with hb; exact .inr (by omega)
theorem lk82 {m:Nat} {l:List (ByteArray × Value)} (h:SMap w m l) (s:ByteArray) {z:Value} (hz:(zeroValue 132).run prog w = .ok z w) (hk:k ((alGet l s).getD z) w) : px prog (Instr.lookup 82 (.map (some m)) (.string s) false) w k := px_ok (h.lookup underlying82 underlying9 hz s) hk
theorem up82 {m:Nat} {l:List (ByteArray × Value)} {kk:World → Prop} (h:SMap w m l) (s:ByteArray) (v:Value) (hk:∀ w',SMap w' m (alSet l s v) → Fr (fun b => b = m) w w' → w'.heap.size = w.heap.size → kk w') : pu prog (Instr.mapUpdate 82 (.map (some m)) (.string s) v) w kk := by
 obtain ⟨w',h1,h2,h3,h4⟩ := h.update (P := prog) underlying82 underlying9 s v
 exact pu_ok h1 (hk w' h2 h3 h4)
theorem de82 {m:Nat} {l:List (ByteArray × Value)} (h:SMap w m l) (s:ByteArray) (hk:∀ w',SMap w' m (alDel l s) → Fr (fun b => b = m) w w' → w'.heap.size = w.heap.size → k (.tuple #[]) w') : px prog (bSem .delete #[82,9] 0 #[.map (some m),.string s]) w k := by
 obtain ⟨w',h1,h2,h3,h4⟩ := h.delete (P := prog) underlying82 underlying9 s (ty := 0)
 exact px_ok h1 (hk w' h2 h3 h4)
theorem mk82 (hk:k (.map (some w.heap.size)) (w.alloc (.map #[] 0))) : px prog (Instr.makeMap 82 none) w k := px_ok (run_makeMap 82 w) hk
end
end Go.Proofs.YteeeggphkhimcaaGreatDoor
