/- Memory for the walk by reduction: frames, maps with texts as keys, and what each primitive comes to. No program is in sight here. -/
import Derived.Test.YtcdcojpfealppaaXRed
import Derived.Maps.Keyed
import Derived.Maps.RangeRun
import Derived.Maps.AppendAt
import Derived.Laws.CopyRow
import Derived.MapKept
import Derived.Lib.SlicesS
import Derived.IntWalk
set_option linter.unusedVariables false
set_option linter.unusedSimpArgs false
namespace Go.Proofs.XHeap
open Go Go.RowKit Go.Proofs.XRed Go.MapKept

/-! ### Frames -/
/-- From w to w' only blocks in O were written; new ones may have been made. -/
structure Fr (O : Nat → Prop) (w w' : World) : Prop where
  os : w'.os = w.os
  tape : w'.tape = w.tape
  output : w'.output = w.output
  size : w.heap.size ≤ w'.heap.size
  block : ∀ b, b < w.heap.size → ¬ O b → w'.heap[b]? = w.heap[b]?

theorem lt_of_get {w : World} {b : Nat} {o : Obj} (h : w.heap[b]? = some o) : b < w.heap.size := (Array.getElem?_eq_some_iff.1 h).1
theorem Fr.refl (O : Nat → Prop) (w : World) : Fr O w w := ⟨rfl, rfl, rfl, Nat.le_refl _, fun _ _ _ => rfl⟩
theorem Fr.trans {O O' : Nat → Prop} {a b c : World} (h : Fr O a b) (k : Fr O' b c) (ho : ∀ i, O' i → O i ∨ a.heap.size ≤ i) : Fr O a c :=
  ⟨k.os.trans h.os, k.tape.trans h.tape, k.output.trans h.output, Nat.le_trans h.size k.size, fun i hi hn =>
    (k.block i (Nat.lt_of_lt_of_le hi h.size) fun h' => by
      rcases ho i h' with h1 | h1
      · exact hn h1
      · omega).trans (h.block i hi hn)⟩
theorem Fr.get {O : Nat → Prop} {w w' : World} (h : Fr O w w') {b : Nat} {o : Obj} (hb : w.heap[b]? = some o) (hn : ¬ O b) : w'.heap[b]? = some o := (h.block b (lt_of_get hb) hn).trans hb
theorem Fr.mono {O O' : Nat → Prop} {w w' : World} (h : Fr O w w') (ho : ∀ i, O i → O' i ∨ w.heap.size ≤ i) : Fr O' w w' := (Fr.refl O' w).trans h ho
theorem Fr.or {A B : Nat → Prop} {a b c : World} (h : Fr A a b) (k : Fr B b c) : Fr (fun i => A i ∨ B i) a c :=
  (h.mono (O' := fun i => A i ∨ B i) fun i hi => .inl (.inl hi)).trans k fun i hi => .inl (.inr hi)
theorem Fr.grown {w w' : World} {row : Option Nat} (h : w.grownBy w' row) : Fr (fun b => some b = row) w w' := ⟨h.os, h.tape, h.output, h.size, fun b hb hn => h.block b hb hn⟩
theorem Fr.below {B : Nat} {w w' : World} (h : Below B w w') : Fr (fun b => B ≤ b) w w' := ⟨h.os, h.tape, h.output, h.size, fun b hb hn => h.block b (by omega)⟩
theorem Fr.to_below {O : Nat → Prop} {B : Nat} {w w' : World} (h : Fr O w w') (ho : ∀ b, O b → B ≤ b) (hB : B ≤ w.heap.size) : Below B w w' :=
  ⟨h.os, h.tape, h.output, h.size, fun k hk => h.block k (by omega) (fun h' => by have := ho k h'; omega)⟩
theorem Fr.alloc (O : Nat → Prop) (w : World) (o : Obj) : Fr O w (w.alloc o) := ⟨rfl, rfl, rfl, by simp, fun b hb _ => Below.heap_alloc w o b hb⟩
theorem Fr.drew (O : Nat → Prop) (w : World) : Fr O w w.drew := ⟨rfl, rfl, rfl, Nat.le_refl _, fun _ _ _ => rfl⟩
theorem Fr.setCell (w : World) (a : Addr) (u : Value) : Fr (fun b => b = a.block) w (w.setCell a u) := ⟨rfl, rfl, rfl, by simp [World.setCell], fun b hb hn => Below.heap_setCell w a u b hn⟩
theorem Fr.setBlock (w : World) (b : Nat) (o : Obj) : Fr (fun c => c = b) w (ChangeMaps.setBlock w b o) :=
  ⟨rfl, rfl, rfl, by simp [ChangeMaps.setBlock], fun c hc hn => by
    simp only [ChangeMaps.setBlock]
    rw [Array.getElem?_setIfInBounds_ne (fun e => hn e.symm)]⟩

theorem alloc_new (w : World) (o : Obj) : (w.alloc o).heap[w.heap.size]? = some o := (MapKept.heap_alloc w o).1
theorem alloc_old {w : World} {b : Nat} {x : Obj} (o : Obj) (h : w.heap[b]? = some x) : (w.alloc o).heap[b]? = some x := ((MapKept.heap_alloc w o).2 b (lt_of_get h)).trans h
theorem set_same {w : World} {b : Nat} {cs : Array Value} {T : TypeId} {fr : Nat × Nat} (h : w.heap[b]? = some (.cells cs T fr)) (i : Nat) (u : Value) :
    (w.setCell ⟨b, i, none⟩ u).heap[b]? = some (.cells (cs.setIfInBounds i u) T fr) := by
  simp [World.setCell, Array.getElem?_modify, h]
theorem set_other {w : World} {b c : Nat} {x : Obj} (i : Nat) (u : Value) (hne : c ≠ b) (h : w.heap[c]? = some x) : (w.setCell ⟨b, i, none⟩ u).heap[c]? = some x := (Below.heap_setCell w ⟨b, i, none⟩ u c hne).trans h
theorem cell_blk {w : World} {b o : Nat} {cs : Array Value} {T : TypeId} {fr : Nat × Nat} {v : Value} (h : w.heap[b]? = some (.cells cs T fr)) (hv : cs[o]? = some v) : w.cell? ⟨b, o, none⟩ = some v := by
  simp [World.cell?, h, hv]
theorem free_blk {w : World} {b o : Nat} {cs : Array Value} {T : TypeId} (h : w.heap[b]? = some (.cells cs T (0, 0))) : w.frozen? ⟨b, o, none⟩ = false := by
  simp [World.frozen?, h]

/-! ### The primitives -/
section
variable {P : Program} {w : World} {k : Value → World → Prop}

theorem s_nil {a : Addr} (hk : k (.pointer (some a)) w) : px P (nilSem (.pointer (some a))) w k := by simpa [px, nilSem] using hk
theorem s_nil_fn {f : FuncId} {x y : Array Value} (hk : k (.func (.func f) x y) w) : px P (nilSem (.func (.func f) x y)) w k := by simpa [px, nilSem] using hk
theorem s_nil_iface {t : TypeId} {v : Value} (hk : k (.iface t v) w) : px P (nilSem (.iface t v)) w k := by simpa [px, nilSem] using hk

theorem s_ld {t : TypeId} {a : Addr} {v : Value} (hag : (isAgg t).run P w = .ok false w) (h : w.cell? a = some v) (hk : k v w) : px P (Instr.loadAt t (.pointer (some a))) w k := by
  refine px_ok (w' := w) (v := v) ?_ hk
  simp [Instr.loadAt, Instr.sureAddr, loadVar, hag, load, Sem.run, h]
theorem s_ldb {t b o : Nat} {cs : Array Value} {T : TypeId} {fr : Nat × Nat} {v : Value} (hag : (isAgg t).run P w = .ok false w) (h : w.heap[b]? = some (.cells cs T fr)) (hv : cs[o]? = some v) (hk : k v w) :
    px P (Instr.loadAt t (.pointer (some ⟨b, o, none⟩))) w k := s_ld hag (cell_blk h hv) hk
theorem s_ldAgg {t b o m : Nat} {cs : Array Value} {T : TypeId} {fr : Nat × Nat} (hag : (isAgg t).run P w = .ok true w) (hsz : (sizeOf t).run P w = .ok m w) (h : w.heap[b]? = some (.cells cs T fr)) (hm : o + m ≤ cs.size)
    (hk : k (.agg ((cs.toList.drop o).take m).toArray) w) : px P (Instr.loadAt t (.pointer (some ⟨b, o, none⟩))) w k := by
  refine px_ok (w' := w) ?_ hk
  have hl : ((cs.toList.drop o).take m).length = m := by simp; omega
  have := run_loadCells_list (P := P) w ⟨b, o, none⟩ ((cs.toList.drop o).take m) (fun j v hj => by
    have hj' : j < m := by
      have := (List.getElem?_eq_some_iff.1 hj).1
      omega
    have e : (⟨b, o, none⟩ : Addr).add j = ⟨b, o + j, none⟩ := by unfold Addr.add; split <;> simp_all
    rw [e]
    refine cell_blk h ?_
    simpa [List.getElem?_take, hj', List.getElem?_drop] using hj)
  rw [hl] at this
  simp [Instr.loadAt, Instr.sureAddr, loadVar, hag, hsz, this, Result.andThen]
theorem s_st {t b o : Nat} {cs : Array Value} {T : TypeId} {u : Value} {kk : World → Prop} (hsz : (sizeOf t).run P w = .ok 1 w) (hu : u.cells = #[u]) (h1 : u.oneCell' = true) (h : w.heap[b]? = some (.cells cs T (0, 0))) (ho : o < cs.size)
    (hk : kk (w.setCell ⟨b, o, none⟩ u)) : pu P (Instr.storeAt t (.pointer (some ⟨b, o, none⟩)) u) w kk := by
  refine pu_ok ?_ hk
  have hc : w.cell? ⟨b, o, none⟩ = some cs[o] := cell_blk h (by simp [ho])
  have hf : w.frozen? ⟨b, o, none⟩ = false := free_blk h
  have e0 : (⟨b, o, none⟩ : Addr).add 0 = ⟨b, o, none⟩ := by simp [Addr.add]
  simp only [Instr.storeAt, Instr.sureAddr, storeVar, hu, hsz, Sem.run_bind, Sem.run_pure, Result.andThen]
  simp only [List.size_toArray, List.length_cons, List.length_nil, ne_eq, not_true_eq_false, if_false, storeCells, e0, store]
  cases u <;> first | (simp [Sem.run, hc, hf, storeCells]; done) | (simp [Value.oneCell'] at h1; done)
theorem s_fa {s i b o : Nat} {fs : Array Field} (ft : TypeId) (off : Nat) (hu : (underlying s).run P w = .ok (.struct fs) w) (hf : (fs[i]?).map (fun f => (f.type, f.offset)) = some (ft, off)) {sz : Nat} (hs : (sizeOf ft).run P w = .ok sz w) (h0 : sz ≠ 0)
    (hk : k (.pointer (some ⟨b, o + off, none⟩)) w) : px P (Instr.fieldAt s (.pointer (some ⟨b, o, none⟩)) i) w k := by
  obtain ⟨f, hf', h2⟩ := Option.map_eq_some_iff.1 hf
  clear hf
  simp only [Prod.mk.injEq] at h2
  obtain ⟨rfl, rfl⟩ := h2
  refine px_ok (w' := w) ?_ hk
  have e : (⟨b, o, none⟩ : Addr).add f.offset = ⟨b, o + f.offset, none⟩ := by unfold Addr.add; split <;> simp_all
  simp [Instr.fieldAt, hu, hf', Instr.sureAddr, fieldPlace, hs, h0, e, Result.andThen]
theorem s_box {t : TypeId} {v : Value} (hk : k (.pointer (some ⟨w.heap.size, 0, none⟩)) (w.alloc (.cells v.cells t))) : px P (Instr.box t v) w k := by
  refine px_ok ?_ hk
  simp [Instr.box, newVar, newRow, newObj, Sem.run]
theorem s_alloc {t : TypeId} {z : Value} (hz : (zeroValue t).run P w = .ok z w) (hk : k (.pointer (some ⟨w.heap.size, 0, none⟩)) (w.alloc (.cells z.cells t))) : px P (Instr.alloc t true (.tuple #[])) w k := by
  refine px_ok ?_ hk
  simp [Instr.alloc, hz, newVar, newRow, newObj, Sem.run, Result.andThen]
theorem s_ext {vs : Array Value} {i : Nat} {v : Value} (h : vs[i]? = some v) (hk : k v w) : px P (Instr.extract (.tuple vs) i) w k := by
  refine px_ok (w' := w) ?_ hk
  simp [Instr.extract, h]
theorem s_pick {b : Bool} {x y : Value} (hk : k (if b then x else y) w) : px P (pickSem (.bool b) x y) w k := by
  refine px_ok (w' := w) ?_ hk
  simp [pickSem, asBool]
theorem s_not {b : Bool} (hk : k (.bool (!b)) w) : px P (Op.unary .not (.bool b)) w k := by
  refine px_ok (w' := w) ?_ hk
  simp [Op.unary]
theorem s_mki {t : TypeId} {x : Value} (h : P.concrete t = true) (hk : k (.iface t x) w) : px P (Instr.makeInterface t x) w k := px_ok (run_makeInterface w t x h) hk

/-! Whole numbers -/
theorem eqGuard_plain (op : BinOp) (t : TypeId) (x y : Operand) {a b : Value} (h : ∀ p q, ¬ (a = .agg p ∧ b = .agg q)) (h' : ¬ (a = .nilIface ∧ b = .nilIface)) : (eqGuard op t x y a b).run P w = .ok () w := by
  unfold eqGuard
  cases op <;> simp only [Bool.not_true, Bool.not_false, Bool.false_eq_true, if_true, if_false, Sem.run_pure, pure_bind] <;> try rfl
  all_goals (split <;> first | rfl | (exact absurd ⟨rfl, rfl⟩ h') | (exact absurd ⟨rfl, rfl⟩ (h _ _)))
theorem s_bin {op : BinOp} {t : TypeId} {x y : Operand} {a b v : Value} (h : ∀ p q, ¬ (a = .agg p ∧ b = .agg q)) (h' : ¬ (a = .nilIface ∧ b = .nilIface)) (hr : (binOp op t a b).run P w = .ok v w) (hk : k v w) : px P (binSem op t x y a b) w k := by
  refine px_ok (w' := w) ?_ hk
  simp [binSem, eqGuard_plain op t x y h h', hr, Result.andThen]
theorem s_add {t : TypeId} {x y : Operand} {q : IntKind} {a b : Int} (hk : k (.int q (q.wrap (a + b))) w) : px P (binSem .add t x y (.int q a) (.int q b)) w k := s_bin (by simp) (by simp) (by simp [binOp, Op.intArith]) hk
theorem s_sub {t : TypeId} {x y : Operand} {q : IntKind} {a b : Int} (hk : k (.int q (q.wrap (a - b))) w) : px P (binSem .sub t x y (.int q a) (.int q b)) w k := s_bin (by simp) (by simp) (by simp [binOp, Op.intArith]) hk
theorem s_mul {t : TypeId} {x y : Operand} {q : IntKind} {a b : Int} (hk : k (.int q (q.wrap (a * b))) w) : px P (binSem .mul t x y (.int q a) (.int q b)) w k := s_bin (by simp) (by simp) (by simp [binOp, Op.intArith]) hk
theorem s_eqi {t : TypeId} {x y : Operand} {q : IntKind} {a b : Int} (hk : k (.bool (a == b)) w) : px P (binSem .eql t x y (.int q a) (.int q b)) w k := s_bin (by simp) (by simp) (by simp [binOp, Op.intCmp]) hk
theorem s_nei {t : TypeId} {x y : Operand} {q : IntKind} {a b : Int} (hk : k (.bool (a != b)) w) : px P (binSem .neq t x y (.int q a) (.int q b)) w k := s_bin (by simp) (by simp) (by simp [binOp, Op.intCmp]) hk
theorem s_lt {t : TypeId} {x y : Operand} {q : IntKind} {a b : Int} (hk : k (.bool (decide (a < b))) w) : px P (binSem .lss t x y (.int q a) (.int q b)) w k := s_bin (by simp) (by simp) (by simp [binOp, Op.intCmp]) hk
theorem s_le {t : TypeId} {x y : Operand} {q : IntKind} {a b : Int} (hk : k (.bool (decide (a ≤ b))) w) : px P (binSem .leq t x y (.int q a) (.int q b)) w k := s_bin (by simp) (by simp) (by simp [binOp, Op.intCmp]) hk
theorem s_gt {t : TypeId} {x y : Operand} {q : IntKind} {a b : Int} (hk : k (.bool (decide (a > b))) w) : px P (binSem .gtr t x y (.int q a) (.int q b)) w k := s_bin (by simp) (by simp) (by simp [binOp, Op.intCmp]) hk
theorem s_ge {t : TypeId} {x y : Operand} {q : IntKind} {a b : Int} (hk : k (.bool (decide (a ≥ b))) w) : px P (binSem .geq t x y (.int q a) (.int q b)) w k := s_bin (by simp) (by simp) (by simp [binOp, Op.intCmp]) hk
theorem s_lt_t {t : TypeId} {x y : Operand} {q : IntKind} {a b : Int} (h : a < b) (hk : k (.bool true) w) : px P (binSem .lss t x y (.int q a) (.int q b)) w k := s_lt (by rwa [decide_eq_true h])
theorem s_lt_f {t : TypeId} {x y : Operand} {q : IntKind} {a b : Int} (h : ¬ a < b) (hk : k (.bool false) w) : px P (binSem .lss t x y (.int q a) (.int q b)) w k := s_lt (by rwa [decide_eq_false h])
theorem s_le_t {t : TypeId} {x y : Operand} {q : IntKind} {a b : Int} (h : a ≤ b) (hk : k (.bool true) w) : px P (binSem .leq t x y (.int q a) (.int q b)) w k := s_le (by rwa [decide_eq_true h])
theorem s_le_f {t : TypeId} {x y : Operand} {q : IntKind} {a b : Int} (h : ¬ a ≤ b) (hk : k (.bool false) w) : px P (binSem .leq t x y (.int q a) (.int q b)) w k := s_le (by rwa [decide_eq_false h])
theorem s_gt_t {t : TypeId} {x y : Operand} {q : IntKind} {a b : Int} (h : a > b) (hk : k (.bool true) w) : px P (binSem .gtr t x y (.int q a) (.int q b)) w k := s_gt (by rwa [decide_eq_true h])
theorem s_gt_f {t : TypeId} {x y : Operand} {q : IntKind} {a b : Int} (h : ¬ a > b) (hk : k (.bool false) w) : px P (binSem .gtr t x y (.int q a) (.int q b)) w k := s_gt (by rwa [decide_eq_false h])
theorem s_ge_t {t : TypeId} {x y : Operand} {q : IntKind} {a b : Int} (h : a ≥ b) (hk : k (.bool true) w) : px P (binSem .geq t x y (.int q a) (.int q b)) w k := s_ge (by rwa [decide_eq_true h])
theorem s_ge_f {t : TypeId} {x y : Operand} {q : IntKind} {a b : Int} (h : ¬ a ≥ b) (hk : k (.bool false) w) : px P (binSem .geq t x y (.int q a) (.int q b)) w k := s_ge (by rwa [decide_eq_false h])
theorem s_eqi_t {t : TypeId} {x y : Operand} {q : IntKind} {a b : Int} (h : a = b) (hk : k (.bool true) w) : px P (binSem .eql t x y (.int q a) (.int q b)) w k := s_eqi (by rwa [show (a == b) = true by simp [h]])
theorem s_eqi_f {t : TypeId} {x y : Operand} {q : IntKind} {a b : Int} (h : ¬ a = b) (hk : k (.bool false) w) : px P (binSem .eql t x y (.int q a) (.int q b)) w k := s_eqi (by rwa [show (a == b) = false by simp [h]])
theorem s_nei_t {t : TypeId} {x y : Operand} {q : IntKind} {a b : Int} (h : ¬ a = b) (hk : k (.bool true) w) : px P (binSem .neq t x y (.int q a) (.int q b)) w k := s_nei (by rwa [show (a != b) = true by simp [h]])
theorem s_nei_f {t : TypeId} {x y : Operand} {q : IntKind} {a b : Int} (h : a = b) (hk : k (.bool false) w) : px P (binSem .neq t x y (.int q a) (.int q b)) w k := s_nei (by rwa [show (a != b) = false by simp [h]])
theorem s_pick_t {x y : Value} (hk : k x w) : px P (pickSem (.bool true) x y) w k := s_pick (by simpa using hk)
theorem s_pick_f {x y : Value} (hk : k y w) : px P (pickSem (.bool false) x y) w k := s_pick (by simpa using hk)
theorem s_rem {t : TypeId} {x y : Operand} {q : IntKind} {a b : Int} (h : b ≠ 0) (hk : k (.int q (a.tmod b)) w) : px P (binSem .rem t x y (.int q a) (.int q b)) w k := s_bin (by simp) (by simp) (by simp [binOp, Op.intDiv, h]) hk
theorem s_quo {t : TypeId} {x y : Operand} {q : IntKind} {a b : Int} (h : b ≠ 0) (hk : k (.int q (q.wrap (a.tdiv b))) w) : px P (binSem .quo t x y (.int q a) (.int q b)) w k := s_bin (by simp) (by simp) (by simp [binOp, Op.intDiv, h]) hk
theorem wrap_in {a : Int} (h : -9223372036854775808 ≤ a ∧ a ≤ 9223372036854775807) : IntKind.i64.wrap a = a := IntWalk.i64_in _ h
/-- A sum that does not wrap. -/
theorem s_add_in {t : TypeId} {x y : Operand} {a b : Int} (h : -9223372036854775808 ≤ a + b ∧ a + b ≤ 9223372036854775807) (hk : k (.int .i64 (a + b)) w) : px P (binSem .add t x y (.int .i64 a) (.int .i64 b)) w k := s_add (by rwa [wrap_in h])
theorem s_sub_in {t : TypeId} {x y : Operand} {a b : Int} (h : -9223372036854775808 ≤ a - b ∧ a - b ≤ 9223372036854775807) (hk : k (.int .i64 (a - b)) w) : px P (binSem .sub t x y (.int .i64 a) (.int .i64 b)) w k := s_sub (by rwa [wrap_in h])
theorem s_ixs {t : TypeId} {s : ByteArray} {q : IntKind} {i : Nat} (h : P.underlying t = some .string) (hi : i < s.size) (hk : k (.int .u8 (s[i]'hi).toNat) w) : px P (Instr.index t (.string s) (.int q i)) w k := by
  refine px_ok (w' := w) ?_ hk
  have e : s[i]? = some (s[i]'hi) := by simp [hi]
  simp [Instr.index, asIntOf, run_underlying h, Result.andThen, e]
theorem str_beq (a b : ByteArray) : (a.toList == b.toList) = decide (a = b) := by
  rw [Bool.eq_iff_iff, Lib.bytes_beq_iff, decide_eq_true_eq]
theorem s_eqs {t : TypeId} {x y : Operand} {a b : ByteArray} (hk : k (.bool (decide (a = b))) w) : px P (binSem .eql t x y (.string a) (.string b)) w k := s_bin (by simp) (by simp) (by simp only [binOp, Op.stringOp, str_beq, Sem.run_pure]) hk
theorem s_nes {t : TypeId} {x y : Operand} {a b : ByteArray} (hk : k (.bool (!decide (a = b))) w) : px P (binSem .neq t x y (.string a) (.string b)) w k := s_bin (by simp) (by simp) (by simp only [binOp, Op.stringOp, str_beq, Sem.run_pure]) hk
theorem s_eqpn {t : TypeId} {x y : Operand} {p : Option Addr} (hu : P.underlying t = some (.pointer (P.pointee t))) (hk : k (.bool p.isNone) w) : px P (binSem .eql t x y (.pointer p) (.pointer none)) w k :=
  s_bin (by simp) (by simp) (run_eql_pointer_nil w t p hu) hk
theorem s_nepn {t : TypeId} {x y : Operand} {p : Option Addr} (hu : P.underlying t = some (.pointer (P.pointee t))) (hk : k (.bool (!p.isNone)) w) : px P (binSem .neq t x y (.pointer p) (.pointer none)) w k :=
  s_bin (by simp) (by simp) (run_neq_pointer_nil w t p hu) hk
end

/-! ### Tests -/
theorem pC_true {A B : Prop} (h : A) : pC (.bool true) A B := h
theorem pC_false {A B : Prop} (h : B) : pC (.bool false) A B := h
theorem pC_if {b : Bool} {A B : Prop} (ht : b = true → A) (hf : b = false → B) : pC (.bool b) A B := by
  cases b
  · exact hf rfl
  · exact ht rfl
theorem pC_dec {p : Prop} [Decidable p] {A B : Prop} (ht : p → A) (hf : ¬ p → B) : pC (.bool (decide p)) A B := by
  by_cases h : p
  · rw [decide_eq_true h]; exact ht h
  · rw [decide_eq_false h]; exact hf h
theorem pG_yes {b want : Bool} (hb : b = want) {A : (Value → World → Prop) → Prop} {next : Value → World → Prop} {w : World} (h : A next) : pG (.bool b) want A next w := by
  subst hb; cases b <;> exact h
theorem pG_no {b want : Bool} (hb : b = !want) {A : (Value → World → Prop) → Prop} {next : Value → World → Prop} {w : World} (h : next undef w) : pG (.bool b) want A next w := by
  subst hb; cases want <;> exact h
theorem pG_sk {A : (Value → World → Prop) → Prop} {next : Value → World → Prop} {w : World} (h : next undef w) : pG (.bool false) true A next w := h
theorem pG_skf {A : (Value → World → Prop) → Prop} {next : Value → World → Prop} {w : World} (h : next undef w) : pG (.bool true) false A next w := h
theorem pGq_sk {A : (Value → Prop) → Prop} {next : Value → Prop} (h : next undef) : pGq (.bool false) true A next := h
theorem pGq_skf {A : (Value → Prop) → Prop} {next : Value → Prop} (h : next undef) : pGq (.bool true) false A next := h
theorem pG_un {want : Bool} {A : (Value → World → Prop) → Prop} {next : Value → World → Prop} {w : World} (h : next undef w) : pG undef want A next w := h
theorem pGq_un {want : Bool} {A : (Value → Prop) → Prop} {next : Value → Prop} (h : next undef) : pGq undef want A next := h
theorem pGq_yes {b want : Bool} (hb : b = want) {A : (Value → Prop) → Prop} {next : Value → Prop} (h : A next) : pGq (.bool b) want A next := by
  subst hb; cases b <;> exact h
theorem pGq_no {b want : Bool} (hb : b = !want) {A : (Value → Prop) → Prop} {next : Value → Prop} (h : next undef) : pGq (.bool b) want A next := by
  subst hb; cases want <;> exact h
/-- A quiet operation, by what it comes to in each world that meets S. -/
theorem q_of {α : Type} {P : Program} {S : World → Prop} {s : Sem α} {k : α → Prop} (v : α) (h : ∀ w, S w → px P s w fun u w' => u = v ∧ w' = w) (hk : k v) : pq P S s k := by
  refine ⟨v, fun w hw => ?_, hk⟩
  have := h w hw
  unfold px at this
  split at this
  · rename_i u w' heq; rw [heq, this.1, this.2]
  · exact this.elim
end Go.Proofs.XHeap
