/- How the program's disk lies in memory. -/
import Derived.Test.YtcdcojpfealppaaXAbs
import Derived.Test.YtcdcojpfealppaaSteps
import Derived.Test.YtcdcojpfealppaaR1
import Derived.Test.YtcdcojpfealppaaR2
set_option linter.unusedVariables false
set_option linter.unusedSimpArgs false
set_option maxRecDepth 100000
namespace Go.Proofs.Ytcdcojpfealppaa
open Go Go.Proofs Go.RowKit Go.Proofs.XRed Go.Proofs.XHeap Go.Proofs.XMaps Go.Proofs.XSlices Go.Proofs.XDisk

noncomputable abbrev P : Program := Try.prog
/-- Two lists, place by place. -/
inductive All2 {α β : Type} (R : α → β → Prop) : List α → List β → Prop where
  | nil : All2 R [] []
  | cons {a b l m} : R a b → All2 R l m → All2 R (a :: l) (b :: m)
def ptr (b : Nat) : Value := .pointer (some ⟨b, 0, none⟩)
abbrev i64 (n : Int) : Value := .int .i64 n
/-- Bytes that no disk writes into. -/
def SB (w : World) (I : Nat → Prop) (v : Value) (bs : Bytes) : Prop := SBytes w v bs ∧ ∀ b, sblk v = some b → I b
def turnVal (loc : Nat → Nat) : Turn → Value
  | .mk n t => .iface 103 (.agg #[.string n, ptr (loc t)])
  | .give a b => .iface 135 (.agg #[.string a, .string b])
  | .take n => .iface 133 (.string n)
def ChgV (w : World) (I : Nat → Prop) : Chg → Value → Prop
  | .wr a d, v => ∃ s, v = .iface 118 (.agg #[i64 a, s]) ∧ SB w I s d
  | .cut n, v => v = .iface 116 (i64 n)
def spanCells (s : SpanA) : List Value := [.string s.name, i64 s.at_, i64 s.n]
/-- A thing. -/
structure TRep (w : World) (O I : Nat → Prop) (T : Nat) (rb : Value) (x : Thg) : Prop where
  ex : ∃ sv hv cs, w.heap[T]? = some (.cells #[sv, hv, rb] 101 (0, 0)) ∧ SB w I sv x.safe ∧ SB w I hv x.shown ∧ w.ownsRow 0 123 1 rb x.row.length cs ∧ All2 (ChgV w I) x.row cs
  own : O T
  rown : ∀ b, sblk rb = some b → O b
structure Lay where
  sh : Nat
  sf : Nat
  loc : Nat → Nat
  trow : Nat → Value
  rowv : Value
  readsv : Value
  lsh : Names
  lsf : Names
def dcells (S : AD) (L : Lay) : Array Value :=
  #[i64 S.room, .map (some L.sh), .map (some L.sf), L.rowv, i64 S.strokes, i64 S.plan.off, i64 S.plan.from_, i64 S.plan.to_, i64 S.since, .bool S.off, L.readsv]
def mapVals (L : Lay) (l : Names) : List (ByteArray × Value) := l.map fun p => (p.1, ptr (L.loc p.2))
/-- The disk at block D: S. It owns the blocks O; blocks in I hold its bytes and are not written. -/
structure DRep (w : World) (D : Nat) (S : AD) (O I : Nat → Prop) (L : Lay) : Prop where
  disk : w.heap[D]? = some (.cells (dcells S L) 93 (0, 0))
  sh : SMap w L.sh (mapVals L L.lsh)
  shp : L.lsh.Perm S.shown
  sf : SMap w L.sf (mapVals L L.lsf)
  sfp : L.lsf.Perm S.safe
  ne : L.sh ≠ L.sf
  row : w.ownsRow 0 109 1 L.rowv S.row.length (S.row.map (turnVal L.loc))
  reads : w.ownsRow 0 86 3 L.readsv S.reads.length (S.reads.flatMap spanCells)
  things : ∀ t, reach S t → TRep w O I (L.loc t) (L.trow t) (S.things t)
  inj : ∀ t u, reach S t → reach S u → L.loc t = L.loc u → t = u
  rows : ∀ t u, reach S t → reach S u → t ≠ u → ∀ b, sblk (L.trow t) = some b → sblk (L.trow u) ≠ some b
  oD : O D
  osh : O L.sh
  osf : O L.sf
  orow : ∀ b, sblk L.rowv = some b → O b
  oreads : ∀ b, sblk L.readsv = some b → O b
  apart : ∀ b, O b → ¬ I b
  lt : ∀ b, O b ∨ I b → b < w.heap.size

theorem SB.fr {O I : Nat → Prop} {w w' : World} {v : Value} {bs : Bytes} (h : SB w I v bs) (hf : Fr O w w') (hn : ∀ b, I b → ¬ O b) : SB w' I v bs := ⟨h.1.fr hf fun b hb => hn b (h.2 b hb), h.2⟩
theorem SB.mono {I I' : Nat → Prop} {w : World} {v : Value} {bs : Bytes} (h : SB w I v bs) (hi : ∀ b, I b → I' b) : SB w I' v bs := ⟨h.1, fun b hb => hi b (h.2 b hb)⟩
theorem ChgV.fr {O I : Nat → Prop} {w w' : World} {c : Chg} {v : Value} (h : ChgV w I c v) (hf : Fr O w w') (hn : ∀ b, I b → ¬ O b) : ChgV w' I c v := by
  cases c with
  | wr a d => obtain ⟨s, hv, hs⟩ := h; exact ⟨s, hv, hs.fr hf hn⟩
  | cut n => exact h
theorem ChgV.mono {I I' : Nat → Prop} {w : World} {c : Chg} {v : Value} (h : ChgV w I c v) (hi : ∀ b, I b → I' b) : ChgV w I' c v := by
  cases c with
  | wr a d => obtain ⟨s, hv, hs⟩ := h; exact ⟨s, hv, hs.mono hi⟩
  | cut n => exact h
theorem all2_imp {α β : Type} {R R' : α → β → Prop} {l : List α} {m : List β} (h : All2 R l m) (hr : ∀ a b, R a b → R' a b) : All2 R' l m := by
  induction h with
  | nil => exact .nil
  | cons h _ ih => exact .cons (hr _ _ h) ih
theorem All2.length {α β : Type} {R : α → β → Prop} {l : List α} {m : List β} (h : All2 R l m) : m.length = l.length := by
  induction h with
  | nil => rfl
  | cons _ _ ih => simp [ih]
theorem All2.snoc {α β : Type} {R : α → β → Prop} {l : List α} {m : List β} {a : α} {b : β} (h : All2 R l m) (hr : R a b) : All2 R (l ++ [a]) (m ++ [b]) := by
  induction h with
  | nil => exact .cons hr .nil
  | cons h _ ih => exact .cons h ih
theorem All2.at_ {α β : Type} {R : α → β → Prop} {l : List α} {m : List β} (h : All2 R l m) : ∀ {i : Nat} {a : α}, l[i]? = some a → ∃ b, m[i]? = some b ∧ R a b := by
  induction h with
  | nil => intro i a ha; simp at ha
  | cons h _ ih =>
    intro i a ha
    cases i with
    | zero => simp at ha; subst ha; exact ⟨_, rfl, h⟩
    | succ i => exact ih (by simpa using ha)
theorem TRep.fr {O O' I M : Nat → Prop} {w w' : World} {T : Nat} {rb : Value} {x : Thg} (h : TRep w O I T rb x) (hf : Fr M w w') (hT : ¬ M T) (hr : ∀ b, sblk rb = some b → ¬ M b) (hn : ∀ b, I b → ¬ M b) : TRep w' O I T rb x := by
  obtain ⟨⟨sv, hv, cs, hb, h1, h2, h3, h4⟩, h5, h6⟩ := h
  exact ⟨⟨sv, hv, cs, hf.get hb hT, h1.fr hf hn, h2.fr hf hn, own_fr h3 hf hr, all2_imp h4 fun a b hab => hab.fr hf hn⟩, h5, h6⟩
theorem TRep.mono {O O' I I' : Nat → Prop} {w : World} {T : Nat} {rb : Value} {x : Thg} (h : TRep w O I T rb x) (ho : ∀ b, O b → O' b) (hi : ∀ b, I b → I' b) : TRep w O' I' T rb x := by
  obtain ⟨⟨sv, hv, cs, hb, h1, h2, h3, h4⟩, h5, h6⟩ := h
  exact ⟨⟨sv, hv, cs, hb, h1.mono hi, h2.mono hi, h3, all2_imp h4 fun a b hab => hab.mono hi⟩, ho _ h5, fun b hb => ho _ (h6 b hb)⟩
/-- A disk stays while other blocks are written. -/
theorem DRep.fr {w w' : World} {D : Nat} {S : AD} {O I M : Nat → Prop} {L : Lay} (h : DRep w D S O I L) (hf : Fr M w w') (hn : ∀ b, M b → ¬ O b ∧ ¬ I b) : DRep w' D S O I L where
  disk := hf.get h.disk fun hm => (hn _ hm).1 h.oD
  sh := h.sh.fr hf fun hm => (hn _ hm).1 h.osh
  shp := h.shp
  sf := h.sf.fr hf fun hm => (hn _ hm).1 h.osf
  sfp := h.sfp
  ne := h.ne
  row := own_fr h.row hf fun b hb hm => (hn _ hm).1 (h.orow b hb)
  reads := own_fr h.reads hf fun b hb hm => (hn _ hm).1 (h.oreads b hb)
  things := fun t ht => (h.things t ht).fr (O' := O) hf (fun hm => (hn _ hm).1 (h.things t ht).own) (fun b hb hm => (hn _ hm).1 ((h.things t ht).rown b hb)) fun b hi hm => (hn _ hm).2 hi
  inj := h.inj
  rows := h.rows
  oD := h.oD
  osh := h.osh
  osf := h.osf
  orow := h.orow
  oreads := h.oreads
  apart := h.apart
  lt := fun b hb => Nat.lt_of_lt_of_le (h.lt b hb) hf.size

/-! ### none, Off, Room, Strokes -/
section
variable {w : World} {D : Nat} {S : AD} {L : Lay} {k : Value → World → Prop}
theorem c_none (h : w.heap[D]? = some (.cells (dcells S L) 93 (0, 0))) (hr : 1 ≤ S.room) (hk : k (.bool false) w) : pFn P 53 [ptr D] w k := by
  refine F53_in _ _ _ ?_
  unfold F53_0 ptr
  refine s_eqpn upt24 ?_
  refine pG_yes rfl ?_
  refine pG_yes rfl (s_nil ?_)
  refine pG_yes rfl (fa93_0 ?_)
  refine pG_yes rfl (s_ldb (Try.isAgg3 _) h rfl ?_)
  refine pG_yes rfl (s_eqi ?_)
  refine s_pick ?_
  have : (S.room == 0) = false := by simp; omega
  simp only [Option.isNone_some, this]
  exact hk
theorem c_off (h : w.heap[D]? = some (.cells (dcells S L) 93 (0, 0))) (hr : 1 ≤ S.room) (hk : k (.bool S.off) w) : pFn P 22 [ptr D] w k := by
  refine F22_in _ _ _ ?_
  unfold F22_0
  refine c_none h hr ?_
  refine pG_yes rfl ?_
  refine pG_yes rfl (s_nil ?_)
  refine pG_yes rfl (fa93_7 ?_)
  refine pG_yes rfl (s_ldb (Try.isAgg4 _) h rfl ?_)
  exact s_pick hk
theorem c_room (h : w.heap[D]? = some (.cells (dcells S L) 93 (0, 0))) (hr : 1 ≤ S.room) (hk : k (i64 S.room) w) : pFn P 38 [ptr D] w k := by
  refine F38_in _ _ _ ?_
  unfold F38_0
  refine c_none h hr ?_
  exact pC_false (s_nil (fa93_0 (s_ldb (Try.isAgg3 _) h rfl hk)))
theorem c_strokes (h : w.heap[D]? = some (.cells (dcells S L) 93 (0, 0))) (hr : 1 ≤ S.room) (hk : k (i64 S.strokes) w) : pFn P 29 [ptr D] w k := by
  refine F29_in _ _ _ ?_
  unfold F29_0
  refine c_none h hr ?_
  exact pC_false (s_nil (fa93_4 (s_ldb (Try.isAgg3 _) h rfl hk)))
end
end Go.Proofs.Ytcdcojpfealppaa
