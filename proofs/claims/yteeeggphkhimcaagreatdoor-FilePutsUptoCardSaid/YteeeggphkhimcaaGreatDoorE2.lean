/- Put together by a program (wip/tools/shake.py): XHeap,XMaps,XSlices,XCalls. -/
import Derived.Test.YteeeggphkhimcaaGreatDoorE1
import Derived.Maps.Keyed
import Derived.Maps.RangeRun
import Derived.Maps.AppendAt
import Derived.Laws.CopyRow
import Derived.MapKept
import Derived.Lib.SlicesS
import Derived.IntWalk
import Derived.Laws.IdiomRangeMap
import Derived.Laws.MakeOwn
import Derived.Laws.OwnMore
import Derived.Deep.AppendLies
import Derived.Lib.SliceRun
import Derived.Laws.Externs
import Derived.Lib.Bytealg
import Derived.Lib.IndexAny
set_option linter.unusedVariables false
set_option linter.unusedSimpArgs false
namespace Go.Proofs.XHeap
open Go Go.RowKit Go.Proofs.XRed Go.MapKept
structure Fr (O:Nat → Prop) (w w':World) : Prop where
 os : w'.os = w.os
 tape : w'.tape = w.tape
 output : w'.output = w.output
 size : w.heap.size ≤ w'.heap.size
 block : ∀ b,b < w.heap.size → ¬ O b → w'.heap[b]? = w.heap[b]?
theorem lt_of_get {w:World} {b:Nat} {o:Obj} (h:w.heap[b]? = some o) : b < w.heap.size := (Array.getElem?_eq_some_iff.1 h).1
theorem Fr.refl (O:Nat → Prop) (w:World) : Fr O w w := ⟨rfl,rfl,rfl,Nat.le_refl _,fun _ _ _ => rfl⟩
theorem Fr.trans {O O':Nat → Prop} {a b c:World} (h:Fr O a b) (k:Fr O' b c) (ho:∀ i,O' i → O i ∨ a.heap.size ≤ i) : Fr O a c :=
 ⟨k.os.trans h.os,k.tape.trans h.tape,k.output.trans h.output,Nat.le_trans h.size k.size,fun i hi hn =>
  (k.block i (Nat.lt_of_lt_of_le hi h.size) fun h' => by
   rcases ho i h' with h1 | h1
   ·exact hn h1
   ·omega).trans (h.block i hi hn)⟩
theorem Fr.get {O:Nat → Prop} {w w':World} (h:Fr O w w') {b:Nat} {o:Obj} (hb:w.heap[b]? = some o) (hn:¬ O b) : w'.heap[b]? = some o := (h.block b (lt_of_get hb) hn).trans hb
theorem Fr.mono {O O':Nat → Prop} {w w':World} (h:Fr O w w') (ho:∀ i,O i → O' i ∨ w.heap.size ≤ i) : Fr O' w w' := (Fr.refl O' w).trans h ho
theorem Fr.or {A B:Nat → Prop} {a b c:World} (h:Fr A a b) (k:Fr B b c) : Fr (fun i => A i ∨ B i) a c :=
 (h.mono (O' := fun i => A i ∨ B i) fun i hi => .inl (.inl hi)).trans k fun i hi => .inl (.inr hi)
theorem Fr.grown {w w':World} {row:Option Nat} (h:w.grownBy w' row) : Fr (fun b => some b = row) w w' := ⟨h.os,h.tape,h.output,h.size,fun b hb hn => h.block b hb hn⟩
theorem Fr.below {B:Nat} {w w':World} (h:Below B w w') : Fr (fun b => B ≤ b) w w' := ⟨h.os,h.tape,h.output,h.size,fun b hb hn => h.block b (by omega)⟩
theorem Fr.to_below {O:Nat → Prop} {B:Nat} {w w':World} (h:Fr O w w') (ho:∀ b,O b → B ≤ b) (hB:B ≤ w.heap.size) : Below B w w' :=
 ⟨h.os,h.tape,h.output,h.size,fun k hk => h.block k (by omega) (fun h' => by have := ho k h'; omega)⟩
theorem Fr.alloc (O:Nat → Prop) (w:World) (o:Obj) : Fr O w (w.alloc o) := ⟨rfl,rfl,rfl,by simp,fun b hb _ => Below.heap_alloc w o b hb⟩
theorem Fr.drew (O:Nat → Prop) (w:World) : Fr O w w.drew := ⟨rfl,rfl,rfl,Nat.le_refl _,fun _ _ _ => rfl⟩
theorem Fr.setCell (w:World) (a:Addr) (u:Value) : Fr (fun b => b = a.block) w (w.setCell a u) := ⟨rfl,rfl,rfl,by simp [World.setCell],fun b hb hn => Below.heap_setCell w a u b hn⟩
theorem Fr.setBlock (w:World) (b:Nat) (o:Obj) : Fr (fun c => c = b) w (ChangeMaps.setBlock w b o) :=
 ⟨rfl,rfl,rfl,by simp [ChangeMaps.setBlock],fun c hc hn => by
  simp only [ChangeMaps.setBlock]
  rw [Array.getElem?_setIfInBounds_ne (fun e => hn e.symm)]⟩
theorem alloc_new (w:World) (o:Obj) : (w.alloc o).heap[w.heap.size]? = some o := (MapKept.heap_alloc w o).1
theorem alloc_old {w:World} {b:Nat} {x:Obj} (o:Obj) (h:w.heap[b]? = some x) : (w.alloc o).heap[b]? = some x := ((MapKept.heap_alloc w o).2 b (lt_of_get h)).trans h
theorem set_same {w:World} {b:Nat} {cs:Array Value} {T:TypeId} {fr:Nat × Nat} (h:w.heap[b]? = some (.cells cs T fr)) (i:Nat) (u:Value) :
    (w.setCell ⟨b,i,none⟩ u).heap[b]? = some (.cells (cs.setIfInBounds i u) T fr) := by
  simp [World.setCell,Array.getElem?_modify,h]
theorem cell_blk {w:World} {b o:Nat} {cs:Array Value} {T:TypeId} {fr:Nat × Nat} {v:Value} (h:w.heap[b]? = some (.cells cs T fr)) (hv:cs[o]? = some v) : w.cell? ⟨b,o,none⟩ = some v := by
 simp [World.cell?,h,hv]
theorem free_blk {w:World} {b o:Nat} {cs:Array Value} {T:TypeId} (h:w.heap[b]? = some (.cells cs T (0,0))) : w.frozen? ⟨b,o,none⟩ = false := by
 simp [World.frozen?,h]
section
variable {P:Program} {w:World} {k:KV}
theorem s_nil {a:Addr} (hk:k (.pointer (some a)) w) : px P (nilSem (.pointer (some a))) w k := by simpa [px,nilSem] using hk
theorem s_ld {t:TypeId} {a:Addr} {v:Value} (hag:(isAgg t).run P w = .ok false w) (h:w.cell? a = some v) (hk:k v w) : px P (Instr.loadAt t (.pointer (some a))) w k := by
 refine px_ok (w' := w) (v := v) ?_ hk
 simp [Instr.loadAt,Instr.sureAddr,loadVar,hag,load,Sem.run,h]
theorem s_ldb {t b o:Nat} {cs:Array Value} {T:TypeId} {fr:Nat × Nat} {v:Value} (hag:(isAgg t).run P w = .ok false w) (h:w.heap[b]? = some (.cells cs T fr)) (hv:cs[o]? = some v) (hk:k v w) :
    px P (Instr.loadAt t (.pointer (some ⟨b,o,none⟩))) w k := s_ld hag (cell_blk h hv) hk
theorem s_ldAgg {t b o m:Nat} {cs:Array Value} {T:TypeId} {fr:Nat × Nat} (hag:(isAgg t).run P w = .ok true w) (hsz:(sizeOf t).run P w = .ok m w) (h:w.heap[b]? = some (.cells cs T fr)) (hm:o + m ≤ cs.size)
    (hk:k (.agg ((cs.toList.drop o).take m).toArray) w) : px P (Instr.loadAt t (.pointer (some ⟨b,o,none⟩))) w k := by
  refine px_ok (w' := w) ?_ hk
  have hl : ((cs.toList.drop o).take m).length = m := by simp; omega
  have := run_loadCells_list (P := P) w ⟨b,o,none⟩ ((cs.toList.drop o).take m) (fun j v hj => by
    have hj' : j < m := by
      have := (List.getElem?_eq_some_iff.1 hj).1
      omega
    have e : (⟨b,o,none⟩ : Addr).add j = ⟨b,o + j,none⟩ := by unfold Addr.add; split <;> simp_all
    rw [e]
    refine cell_blk h ?_
    simpa [List.getElem?_take,hj',List.getElem?_drop] using hj)
  rw [hl] at this
  simp [Instr.loadAt,Instr.sureAddr,loadVar,hag,hsz,this,Result.andThen]
theorem s_st {t b o:Nat} {cs:Array Value} {T:TypeId} {u:Value} {kk:World → Prop} (hsz:(sizeOf t).run P w = .ok 1 w) (hu:u.cells = #[u]) (h1:u.oneCell' = true) (h:w.heap[b]? = some (.cells cs T (0,0))) (ho:o < cs.size)
    (hk:kk (w.setCell ⟨b,o,none⟩ u)) : pu P (Instr.storeAt t (.pointer (some ⟨b,o,none⟩)) u) w kk := by
  refine pu_ok ?_ hk
  have hc : w.cell? ⟨b,o,none⟩ = some cs[o] := cell_blk h (by simp [ho])
  have hf : w.frozen? ⟨b,o,none⟩ = false := free_blk h
  have e0 : (⟨b,o,none⟩ : Addr).add 0 = ⟨b,o,none⟩ := by simp [Addr.add]
  simp only [Instr.storeAt,Instr.sureAddr,storeVar,hu,hsz,Sem.run_bind,Sem.run_pure,Result.andThen]
  simp only [List.size_toArray,List.length_cons,List.length_nil,ne_eq,not_true_eq_false,if_false,storeCells,e0,store]
  cases u <;> first | (simp [Sem.run,hc,hf,storeCells]; done) | (simp [Value.oneCell'] at h1; done)
theorem s_fa {s i b o:Nat} {fs:Array Field} (ft:TypeId) (off:Nat) (hu:(underlying s).run P w = .ok (.struct fs) w) (hf:(fs[i]?).map (fun f => (f.type,f.offset)) = some (ft,off)) {sz:Nat} (hs:(sizeOf ft).run P w = .ok sz w) (h0:sz ≠ 0)
    (hk:k (.pointer (some ⟨b,o + off,none⟩)) w) : px P (Instr.fieldAt s (.pointer (some ⟨b,o,none⟩)) i) w k := by
  obtain ⟨f,hf',h2⟩ := Option.map_eq_some_iff.1 hf
  clear hf
  simp only [Prod.mk.injEq] at h2
  obtain ⟨rfl,rfl⟩ := h2
  refine px_ok (w' := w) ?_ hk
  have e : (⟨b,o,none⟩ : Addr).add f.offset = ⟨b,o + f.offset,none⟩ := by unfold Addr.add; split <;> simp_all
  simp [Instr.fieldAt,hu,hf',Instr.sureAddr,fieldPlace,hs,h0,e,Result.andThen]
theorem s_box {t:TypeId} {v:Value} (hk:k (.pointer (some ⟨w.heap.size,0,none⟩)) (w.alloc (.cells v.cells t))) : px P (Instr.box t v) w k := by
 refine px_ok ?_ hk
 simp [Instr.box,newVar,newRow,newObj,Sem.run]
theorem s_alloc {t:TypeId} {z:Value} (hz:(zeroValue t).run P w = .ok z w) (hk:k (.pointer (some ⟨w.heap.size,0,none⟩)) (w.alloc (.cells z.cells t))) : px P (Instr.alloc t true (.tuple #[])) w k := by
 refine px_ok ?_ hk
 simp [Instr.alloc,hz,newVar,newRow,newObj,Sem.run,Result.andThen]
theorem s_ext {vs:Array Value} {i:Nat} {v:Value} (h:vs[i]? = some v) (hk:k v w) : px P (Instr.extract (.tuple vs) i) w k := by
 refine px_ok (w' := w) ?_ hk
 simp [Instr.extract,h]
theorem s_pick {b:Bool} {x y:Value} (hk:k (if b then x else y) w) : px P (pickSem (.bool b) x y) w k := by
 refine px_ok (w' := w) ?_ hk
 simp [pickSem,asBool]
theorem s_not {b:Bool} (hk:k (.bool (!b)) w) : px P (Op.unary .not (.bool b)) w k := by
 refine px_ok (w' := w) ?_ hk
 simp [Op.unary]
theorem s_mki {t:TypeId} {x:Value} (h:P.concrete t = true) (hk:k (.iface t x) w) : px P (Instr.makeInterface t x) w k := px_ok (run_makeInterface w t x h) hk
theorem eqGuard_plain (op:BinOp) (t:TypeId) (x y:Operand) {a b:Value} (h:∀ p q,¬ (a = .agg p ∧ b = .agg q)) (h':¬ (a = .nilIface ∧ b = .nilIface)) : (eqGuard op t x y a b).run P w = .ok () w := by
 unfold eqGuard
 cases op <;> simp only [Bool.not_true,Bool.not_false,Bool.false_eq_true,if_true,if_false,Sem.run_pure,pure_bind] <;> try rfl
 all_goals (split <;> first | rfl | (exact absurd ⟨rfl,rfl⟩ h') | (exact absurd ⟨rfl,rfl⟩ (h _ _)))
theorem s_bin {op:BinOp} {t:TypeId} {x y:Operand} {a b v:Value} (h:∀ p q,¬ (a = .agg p ∧ b = .agg q)) (h':¬ (a = .nilIface ∧ b = .nilIface)) (hr:(binOp op t a b).run P w = .ok v w) (hk:k v w) : px P (binSem op t x y a b) w k := by
 refine px_ok (w' := w) ?_ hk
 simp [binSem,eqGuard_plain op t x y h h',hr,Result.andThen]
theorem s_add {t:TypeId} {x y:Operand} {q:IntKind} {a b:Int} (hk:k (.int q (q.wrap (a + b))) w) : px P (binSem .add t x y (.int q a) (.int q b)) w k := s_bin (by simp) (by simp) (by simp [binOp,Op.intArith]) hk
theorem s_sub {t:TypeId} {x y:Operand} {q:IntKind} {a b:Int} (hk:k (.int q (q.wrap (a - b))) w) : px P (binSem .sub t x y (.int q a) (.int q b)) w k := s_bin (by simp) (by simp) (by simp [binOp,Op.intArith]) hk
theorem s_eqi {t:TypeId} {x y:Operand} {q:IntKind} {a b:Int} (hk:k (.bool (a == b)) w) : px P (binSem .eql t x y (.int q a) (.int q b)) w k := s_bin (by simp) (by simp) (by simp [binOp,Op.intCmp]) hk
theorem s_nei {t:TypeId} {x y:Operand} {q:IntKind} {a b:Int} (hk:k (.bool (a != b)) w) : px P (binSem .neq t x y (.int q a) (.int q b)) w k := s_bin (by simp) (by simp) (by simp [binOp,Op.intCmp]) hk
theorem s_lt {t:TypeId} {x y:Operand} {q:IntKind} {a b:Int} (hk:k (.bool (decide (a < b))) w) : px P (binSem .lss t x y (.int q a) (.int q b)) w k := s_bin (by simp) (by simp) (by simp [binOp,Op.intCmp]) hk
theorem s_le {t:TypeId} {x y:Operand} {q:IntKind} {a b:Int} (hk:k (.bool (decide (a ≤ b))) w) : px P (binSem .leq t x y (.int q a) (.int q b)) w k := s_bin (by simp) (by simp) (by simp [binOp,Op.intCmp]) hk
theorem s_gt {t:TypeId} {x y:Operand} {q:IntKind} {a b:Int} (hk:k (.bool (decide (a > b))) w) : px P (binSem .gtr t x y (.int q a) (.int q b)) w k := s_bin (by simp) (by simp) (by simp [binOp,Op.intCmp]) hk
theorem s_ge {t:TypeId} {x y:Operand} {q:IntKind} {a b:Int} (hk:k (.bool (decide (a ≥ b))) w) : px P (binSem .geq t x y (.int q a) (.int q b)) w k := s_bin (by simp) (by simp) (by simp [binOp,Op.intCmp]) hk
theorem s_lt_t {t:TypeId} {x y:Operand} {q:IntKind} {a b:Int} (h:a < b) (hk:k (.bool true) w) : px P (binSem .lss t x y (.int q a) (.int q b)) w k := s_lt (by rwa [decide_eq_true h])
theorem s_lt_f {t:TypeId} {x y:Operand} {q:IntKind} {a b:Int} (h:¬ a < b) (hk:k (.bool false) w) : px P (binSem .lss t x y (.int q a) (.int q b)) w k := s_lt (by rwa [decide_eq_false h])
theorem s_le_t {t:TypeId} {x y:Operand} {q:IntKind} {a b:Int} (h:a ≤ b) (hk:k (.bool true) w) : px P (binSem .leq t x y (.int q a) (.int q b)) w k := s_le (by rwa [decide_eq_true h])
theorem s_le_f {t:TypeId} {x y:Operand} {q:IntKind} {a b:Int} (h:¬ a ≤ b) (hk:k (.bool false) w) : px P (binSem .leq t x y (.int q a) (.int q b)) w k := s_le (by rwa [decide_eq_false h])
theorem s_gt_t {t:TypeId} {x y:Operand} {q:IntKind} {a b:Int} (h:a > b) (hk:k (.bool true) w) : px P (binSem .gtr t x y (.int q a) (.int q b)) w k := s_gt (by rwa [decide_eq_true h])
theorem s_gt_f {t:TypeId} {x y:Operand} {q:IntKind} {a b:Int} (h:¬ a > b) (hk:k (.bool false) w) : px P (binSem .gtr t x y (.int q a) (.int q b)) w k := s_gt (by rwa [decide_eq_false h])
theorem s_ge_t {t:TypeId} {x y:Operand} {q:IntKind} {a b:Int} (h:a ≥ b) (hk:k (.bool true) w) : px P (binSem .geq t x y (.int q a) (.int q b)) w k := s_ge (by rwa [decide_eq_true h])
theorem s_ge_f {t:TypeId} {x y:Operand} {q:IntKind} {a b:Int} (h:¬ a ≥ b) (hk:k (.bool false) w) : px P (binSem .geq t x y (.int q a) (.int q b)) w k := s_ge (by rwa [decide_eq_false h])
theorem s_eqi_t {t:TypeId} {x y:Operand} {q:IntKind} {a b:Int} (h:a = b) (hk:k (.bool true) w) : px P (binSem .eql t x y (.int q a) (.int q b)) w k := s_eqi (by rwa [show (a == b) = true by simp [h]])
theorem s_eqi_f {t:TypeId} {x y:Operand} {q:IntKind} {a b:Int} (h:¬ a = b) (hk:k (.bool false) w) : px P (binSem .eql t x y (.int q a) (.int q b)) w k := s_eqi (by rwa [show (a == b) = false by simp [h]])
theorem s_nei_t {t:TypeId} {x y:Operand} {q:IntKind} {a b:Int} (h:¬ a = b) (hk:k (.bool true) w) : px P (binSem .neq t x y (.int q a) (.int q b)) w k := s_nei (by rwa [show (a != b) = true by simp [h]])
theorem s_nei_f {t:TypeId} {x y:Operand} {q:IntKind} {a b:Int} (h:a = b) (hk:k (.bool false) w) : px P (binSem .neq t x y (.int q a) (.int q b)) w k := s_nei (by rwa [show (a != b) = false by simp [h]])
theorem s_pick_t {x y:Value} (hk:k x w) : px P (pickSem (.bool true) x y) w k := s_pick (by simpa using hk)
theorem s_pick_f {x y:Value} (hk:k y w) : px P (pickSem (.bool false) x y) w k := s_pick (by simpa using hk)
theorem s_rem {t:TypeId} {x y:Operand} {q:IntKind} {a b:Int} (h:b ≠ 0) (hk:k (.int q (a.tmod b)) w) : px P (binSem .rem t x y (.int q a) (.int q b)) w k := s_bin (by simp) (by simp) (by simp [binOp,Op.intDiv,h]) hk
theorem wrap_in {a:Int} (h:-9223372036854775808 ≤ a ∧ a ≤ 9223372036854775807) : IntKind.i64.wrap a = a := IntWalk.i64_in _ h
theorem s_add_in {t:TypeId} {x y:Operand} {a b:Int} (h:-9223372036854775808 ≤ a + b ∧ a + b ≤ 9223372036854775807) (hk:k (.int .i64 (a + b)) w) : px P (binSem .add t x y (.int .i64 a) (.int .i64 b)) w k := s_add (by rwa [wrap_in h])
theorem s_sub_in {t:TypeId} {x y:Operand} {a b:Int} (h:-9223372036854775808 ≤ a - b ∧ a - b ≤ 9223372036854775807) (hk:k (.int .i64 (a - b)) w) : px P (binSem .sub t x y (.int .i64 a) (.int .i64 b)) w k := s_sub (by rwa [wrap_in h])
theorem s_ixs {t:TypeId} {s:ByteArray} {q:IntKind} {i:Nat} (h:P.underlying t = some .string) (hi:i < s.size) (hk:k (.int .u8 (s[i]'hi).toNat) w) : px P (Instr.index t (.string s) (.int q i)) w k := by
 refine px_ok (w' := w) ?_ hk
 have e : s[i]? = some (s[i]'hi) := by simp [hi]
 simp [Instr.index,asIntOf,run_underlying h,Result.andThen,e]
theorem str_beq (a b:ByteArray) : (a.toList == b.toList) = decide (a = b) := by
 rw [Bool.eq_iff_iff,Lib.bytes_beq_iff,decide_eq_true_eq]
theorem s_eqs {t:TypeId} {x y:Operand} {a b:ByteArray} (hk:k (.bool (decide (a = b))) w) : px P (binSem .eql t x y (.string a) (.string b)) w k := s_bin (by simp) (by simp) (by simp only [binOp,Op.stringOp,str_beq,Sem.run_pure]) hk
theorem s_nes {t:TypeId} {x y:Operand} {a b:ByteArray} (hk:k (.bool (!decide (a = b))) w) : px P (binSem .neq t x y (.string a) (.string b)) w k := s_bin (by simp) (by simp) (by simp only [binOp,Op.stringOp,str_beq,Sem.run_pure]) hk
theorem s_eqpn {t:TypeId} {x y:Operand} {p:Option Addr} (hu:P.underlying t = some (.pointer (P.pointee t))) (hk:k (.bool p.isNone) w) : px P (binSem .eql t x y (.pointer p) (.pointer none)) w k :=
 s_bin (by simp) (by simp) (run_eql_pointer_nil w t p hu) hk
theorem s_nepn {t:TypeId} {x y:Operand} {p:Option Addr} (hu:P.underlying t = some (.pointer (P.pointee t))) (hk:k (.bool (!p.isNone)) w) : px P (binSem .neq t x y (.pointer p) (.pointer none)) w k :=
 s_bin (by simp) (by simp) (run_neq_pointer_nil w t p hu) hk
end
theorem pC_true {A B:Prop} (h:A) : pC (.bool true) A B := h
theorem pC_false {A B:Prop} (h:B) : pC (.bool false) A B := h
theorem pG_yes {b want:Bool} (hb:b = want) {A:(KV) → Prop} {next:KV} {w:World} (h:A next) : pG (.bool b) want A next w := by
 subst hb; cases b <;> exact h
theorem pG_sk {A:(KV) → Prop} {next:KV} {w:World} (h:next undef w) : pG (.bool false) true A next w := h
theorem pG_skf {A:(KV) → Prop} {next:KV} {w:World} (h:next undef w) : pG (.bool true) false A next w := h
theorem pGq_sk {A:(Value → Prop) → Prop} {next:Value → Prop} (h:next undef) : pGq (.bool false) true A next := h
theorem pGq_skf {A:(Value → Prop) → Prop} {next:Value → Prop} (h:next undef) : pGq (.bool true) false A next := h
theorem pG_un {want:Bool} {A:(KV) → Prop} {next:KV} {w:World} (h:next undef w) : pG undef want A next w := h
theorem pGq_un {want:Bool} {A:(Value → Prop) → Prop} {next:Value → Prop} (h:next undef) : pGq undef want A next := h
theorem pGq_yes {b want:Bool} (hb:b = want) {A:(Value → Prop) → Prop} {next:Value → Prop} (h:A next) : pGq (.bool b) want A next := by
 subst hb; cases b <;> exact h
theorem q_of {α:Type} {P:Program} {S:World → Prop} {s:Sem α} {k:α → Prop} (v:α) (h:∀ w,S w → px P s w fun u w' => u = v ∧ w' = w) (hk:k v) : pq P S s k := by
 refine ⟨v,fun w hw => ?_,hk⟩
 have := h w hw
 unfold px at this
 split at this
 ·rename_i u w' heq; rw [heq,this.1,this.2]
 ·exact this.elim
end Go.Proofs.XHeap

namespace Go.Proofs.XMaps
open Go Go.RowKit Go.Proofs.XRed Go.Proofs.XHeap Go.MapKept
section
variable {β:Type}
def alGet (l:List (ByteArray × β)) (s:ByteArray) : Option β := (l.find? fun p => decide (p.1 = s)).map (·.2)
def alSet (l:List (ByteArray × β)) (s:ByteArray) (v:β) : List (ByteArray × β) :=
 if l.any fun p => decide (p.1 = s) then l.map fun p => if p.1 = s then (s,v) else p else l ++ [(s,v)]
def alDel (l:List (ByteArray × β)) (s:ByteArray) : List (ByteArray × β) := l.filter fun p => !decide (p.1 = s)
def alKeys (l:List (ByteArray × β)) : List ByteArray := l.map (·.1)
end
def SMap (w:World) (m:Nat) (l:List (ByteArray × Value)) : Prop :=
 ∃ es clock,w.heap[m]? = some (.map es clock) ∧ Stamped es clock ∧ es.toList.map (fun e => (e.key,e.val)) = l.map fun p => (Value.string p.1,p.2)
theorem SMap.lt {w:World} {m:Nat} {l:List (ByteArray × Value)} (h:SMap w m l) : m < w.heap.size := by
 obtain ⟨es,clock,hb,_⟩ := h; exact lt_of_get hb
theorem SMap.keep {w w':World} {m:Nat} {l:List (ByteArray × Value)} (h:SMap w m l) (he:w'.heap[m]? = w.heap[m]?) : SMap w' m l := by
 obtain ⟨es,clock,hb,hs,hl⟩ := h; exact ⟨es,clock,he.trans hb,hs,hl⟩
theorem SMap.fr {O:Nat → Prop} {w w':World} {m:Nat} {l:List (ByteArray × Value)} (h:SMap w m l) (hf:Fr O w w') (hn:¬ O m) : SMap w' m l := h.keep (hf.block m h.lt hn)
theorem SMap.alloc {w:World} {m:Nat} {l:List (ByteArray × Value)} (h:SMap w m l) (o:Obj) : SMap (w.alloc o) m l := h.fr (Fr.alloc (fun _ => False) w o) id
theorem SMap.nodup {w:World} {m:Nat} {l:List (ByteArray × Value)} (h:SMap w m l) : (alKeys l).Nodup := by
 obtain ⟨es,clock,hb,hs,hl⟩ := h
 have h3 := hs.2.2
 have e : es.toList.map (·.key) = (alKeys l).map Value.string := by
  have := congrArg (List.map Prod.fst) hl
  simpa [alKeys,Function.comp_def] using this
 rw [e] at h3
 exact (List.pairwise_map.1 h3).imp (fun hne e => hne (by rw [e]))
theorem SMap.keys {w:World} {m:Nat} {l:List (ByteArray × Value)} {es:Array MapEntry} (hl:es.toList.map (fun e => (e.key,e.val)) = l.map fun p => (Value.string p.1,p.2)) : ∀ x ∈ es.toList,IsKey .string x.key := by
 intro x hx
 have : (x.key,x.val) ∈ es.toList.map fun e => (e.key,e.val) := List.mem_map.2 ⟨x,hx,rfl⟩
 rw [hl] at this
 obtain ⟨p,_,hp⟩ := List.mem_map.1 this
 have : x.key = .string p.1 := (congrArg Prod.fst hp).symm
 rw [this]; trivial
theorem alGet_none {β:Type} {l:List (ByteArray × β)} {s:ByteArray} (h:∀ p ∈ l,p.1 ≠ s) : alGet l s = none := by
 unfold alGet
 rw [List.find?_eq_none.2 (by intro p hp; simpa using h p hp)]; rfl
theorem alGet_at {β:Type} {l:List (ByteArray × β)} (hn:(alKeys l).Nodup) {j:Nat} {p:ByteArray × β} (h:l[j]? = some p) : alGet l p.1 = some p.2 := by
 induction l generalizing j with
 | nil => simp at h
 | cons a r ih =>
  simp only [alKeys,List.map_cons,List.nodup_cons] at hn
  cases j with
  | zero =>
   simp at h; subst h
   simp [alGet,List.find?_cons]
  | succ j =>
   simp at h
   have hm : p ∈ r := List.mem_of_getElem? h
   have hne : a.1 ≠ p.1 := fun e => hn.1 (by rw [e]; exact List.mem_map.2 ⟨p,hm,rfl⟩)
   have := ih hn.2 h
   simpa [alGet,List.find?_cons,hne] using this
theorem SMap.find {w:World} {m:Nat} {l:List (ByteArray × Value)} (h:SMap w m l) (s:ByteArray) : ∃ es clock,w.heap[m]? = some (.map es clock) ∧ Stamped es clock ∧ es.toList.map (fun e => (e.key,e.val)) = (l.map fun p => (Value.string p.1,p.2)) ∧
    ((Instr.findNow .string (.string s) es.toList 0 = some none ∧ (∀ x ∈ es.toList,x.key ≠ .string s) ∧ (∀ p ∈ l,p.1 ≠ s)) ∨
      ∃ (j:Nat) (e:MapEntry) (p:ByteArray × Value),Instr.findNow .string (.string s) es.toList 0 = some (some (j,e.val)) ∧ es.toList[j]? = some e ∧ e.key = .string s ∧ l[j]? = some p ∧ p.1 = s ∧ e.val = p.2) := by
  have hk := h
  obtain ⟨es,clock,hb,hs,hl⟩ := h
  refine ⟨es,clock,hb,hs,hl,?_⟩
  rcases findNow_spec (d := .string) (k := .string s) trivial es.toList 0 (SMap.keys (w := w) (m := m) hl) with ⟨h1,h2⟩ | ⟨j,e,h1,h2,h3⟩
  · refine .inl ⟨h1,h2,fun p hp he => ?_⟩
    have : (Value.string p.1,p.2) ∈ l.map fun p => (Value.string p.1,p.2) := List.mem_map.2 ⟨p,hp,rfl⟩
    rw [← hl] at this
    obtain ⟨x,hx,hxe⟩ := List.mem_map.1 this
    exact h2 x hx (by have := congrArg Prod.fst hxe; simp only at this; rw [this,he])
  · refine .inr ?_
    have : (es.toList.map fun e => (e.key,e.val))[j]? = some (e.key,e.val) := by simp [h2]
    rw [hl] at this
    simp only [List.getElem?_map,Option.map_eq_some_iff] at this
    obtain ⟨p,hp,hpe⟩ := this
    have e1 : Value.string p.1 = e.key := congrArg Prod.fst hpe
    have e2 : p.2 = e.val := congrArg Prod.snd hpe
    rw [h3] at e1
    injection e1 with e1
    exact ⟨j,e,p,by simpa using h1,h2,h3,hp,e1,e2.symm⟩
section
variable {P:Program} {w:World} {m:Nat} {l:List (ByteArray × Value)} {t kt et:TypeId}
theorem SMap.lookup (h:SMap w m l) (ht:P.underlying t = some (.map kt et)) (hk:P.underlying kt = some .string) {z:Value} (hz:(zeroValue et).run P w = .ok z w) (s:ByteArray) :
    (Instr.lookup t (.map (some m)) (.string s) false).run P w = .ok ((alGet l s).getD z) w := by
  obtain ⟨es,clock,hb,hs,hl,hc⟩ := h.find s
  have hck := fun e => run_checkKey (P := P) (w := w) (k := .string s) hk trivial e 9999
  rcases hc with ⟨h1,_,h2⟩ | ⟨j,e,p,h1,h2,h3,h4,h5,h6⟩
  · rw [alGet_none h2]
    simp [Instr.lookup,run_underlying ht,MapKept.run_getObj_map hb,hck,run_findKey hk h1,hz,Result.andThen]
  · subst h5
    rw [alGet_at h.nodup h4]
    simp [Instr.lookup,run_underlying ht,MapKept.run_getObj_map hb,hck,run_findKey hk h1,hz,Result.andThen,h6]
theorem any_false {β:Type} {l:List (ByteArray × β)} {s:ByteArray} (h:∀ p ∈ l,p.1 ≠ s) : (l.any fun p => decide (p.1 = s)) = false := by
 rw [List.any_eq_false]; intro p hp; simpa using h p hp
theorem any_true {β:Type} {l:List (ByteArray × β)} {p:ByteArray × β} (h:p ∈ l) : (l.any fun q => decide (q.1 = p.1)) = true := List.any_eq_true.2 ⟨p,h,by simp⟩
theorem SMap.update (h:SMap w m l) (ht:P.underlying t = some (.map kt et)) (hk:P.underlying kt = some .string) (s:ByteArray) (v:Value) :
    ∃ w',(Instr.mapUpdate t (.map (some m)) (.string s) v).run P w = .ok () w' ∧ SMap w' m (alSet l s v) ∧ Fr (fun b => b = m) w w' ∧ w'.heap.size = w.heap.size := by
  obtain ⟨es,clock,hb,hs,hl,hc⟩ := h.find s
  have hck := fun e => run_checkKey (P := P) (w := w) (k := .string s) hk trivial e 9999
  have hlt := lt_of_get hb
  have hks := run_keyThatStays (P := P) (w := w) (d := .string) (k := .string s) trivial
  rcases hc with ⟨h1,h1',h2⟩ | ⟨j,e,p,h1,h2,h3,h4,h5,h6⟩
  · refine ⟨ChangeMaps.setBlock w m (.map (es.push { key := .string s,val := v,born := clock }) (clock + 1)),?_,⟨es.push { key := .string s,val := v,born := clock },clock + 1,?_,stamped_push hs h1',?_⟩,Fr.setBlock _ _ _,by simp [ChangeMaps.setBlock]⟩
    · simp [Instr.mapUpdate,run_underlying ht,MapKept.run_getObj_map hb,hck,run_findKey hk h1,MapKept.run_setObj_map _ hb,Result.andThen,ChangeMaps.setBlock]
    · simp [ChangeMaps.setBlock,hlt]
    · simp [alSet,any_false h2,hl]
  · have hj : es[j]? = some e := by simpa using h2
    have hmem : p ∈ l := List.mem_of_getElem? h4
    refine ⟨ChangeMaps.setBlock w m (.map (es.modify j fun e => { e with key := .string s,val := v }) clock),?_,⟨es.modify j fun e => { e with key := .string s,val := v },clock,?_,stamped_modify hs _ _ (fun _ _ => rfl) (fun e' _ he' => by rw [hj] at he'; cases he'; exact h3.symm),?_⟩,Fr.setBlock _ _ _,by simp [ChangeMaps.setBlock]⟩
    · simp [Instr.mapUpdate,run_underlying ht,MapKept.run_getObj_map hb,hck,run_findKey hk h1,hj,h3,hks,MapKept.run_setObj_map _ hb,Result.andThen,ChangeMaps.setBlock]
    · simp [ChangeMaps.setBlock,hlt]
    · subst h5
      have ha : alSet l p.1 v = l.map fun q => if q.1 = p.1 then (p.1,v) else q := by
        unfold alSet; rw [if_pos (any_true hmem)]
      rw [ha]
      apply List.ext_getElem?
      intro i
      have hi := congrArg (fun L => L[i]?) hl
      simp only [List.getElem?_map] at hi
      simp only [List.getElem?_map,Array.getElem?_toList,Array.getElem?_modify]
      have hnd := h.nodup
      by_cases hij : j = i
      · subst hij
        rw [if_pos rfl,hj,h4]
        simp
      · rw [if_neg hij]
        cases hq : l[i]? with
        | none =>
          rw [hq] at hi
          simpa using hi
        | some q =>
          rw [hq] at hi
          have hne : q.1 ≠ p.1 := by
            intro he
            have hjl : j < l.length := (List.getElem?_eq_some_iff.1 h4).1
            have hil : i < l.length := (List.getElem?_eq_some_iff.1 hq).1
            have e1 : (alKeys l)[i]'(by simpa [alKeys] using hil) = (alKeys l)[j]'(by simpa [alKeys] using hjl) := by
              simp only [alKeys,List.getElem_map]
              rw [List.getElem?_eq_getElem hil] at hq
              rw [List.getElem?_eq_getElem hjl] at h4
              injection hq with hq; injection h4 with h4
              rw [hq,h4]; exact he
            exact hij ((List.getElem_inj hnd).1 e1).symm
          simpa [hne] using hi
theorem SMap.delete {ty:TypeId} (h:SMap w m l) (ht:P.underlying t = some (.map kt et)) (hk:P.underlying kt = some .string) (s:ByteArray) :
    ∃ w',(Builtin.delete_ #[t,kt] ty #[.map (some m),.string s]).run P w = .ok (.tuple #[]) w' ∧ SMap w' m (alDel l s) ∧ Fr (fun b => b = m) w w' ∧ w'.heap.size = w.heap.size := by
  obtain ⟨es,clock,hb,hs,hl,hc⟩ := h.find s
  have hck := fun e => run_checkKey (P := P) (w := w) (k := .string s) hk trivial e 9999
  have hlt := lt_of_get hb
  rcases hc with ⟨h1,h1',h2⟩ | ⟨j,e,p,h1,h2,h3,h4,h5,h6⟩
  · refine ⟨ChangeMaps.setBlock w m (.map es clock),?_,⟨es,clock,?_,hs,?_⟩,Fr.setBlock _ _ _,by simp [ChangeMaps.setBlock]⟩
    · simp [Builtin.delete_,run_underlying ht,MapKept.run_getObj_map hb,hck,run_findKey hk h1,MapKept.run_setObj_map _ hb,Result.andThen,ChangeMaps.setBlock]
    · simp [ChangeMaps.setBlock,hlt]
    · rw [show alDel l s = l from List.filter_eq_self.2 (by intro q hq; simpa using h2 q hq)]; exact hl
  · refine ⟨ChangeMaps.setBlock w m (.map (es.eraseIdxIfInBounds j) clock),?_,⟨es.eraseIdxIfInBounds j,clock,?_,stamped_erase hs j,?_⟩,Fr.setBlock _ _ _,by simp [ChangeMaps.setBlock]⟩
    · simp [Builtin.delete_,run_underlying ht,MapKept.run_getObj_map hb,hck,run_findKey hk h1,MapKept.run_setObj_map _ hb,Result.andThen,ChangeMaps.setBlock]
    · simp [ChangeMaps.setBlock,hlt]
    · subst h5
      have hjs : j < es.size := by
        have := (List.getElem?_eq_some_iff.1 h2).1; simpa using this
      have e1 : (es.eraseIdxIfInBounds j).toList = es.toList.eraseIdx j := by
        unfold Array.eraseIdxIfInBounds; rw [dif_pos hjs,Array.toList_eraseIdx]
      have hnd := h.nodup
      have e2 : alDel l p.1 = l.eraseIdx j := by
        clear hl hs hb h2 h1 h hck e1 hjs
        induction l generalizing j with
        | nil => simp at h4
        | cons a r ih =>
          simp only [alKeys,List.map_cons,List.nodup_cons] at hnd
          cases j with
          | zero =>
            simp at h4; subst h4
            simp only [alDel,List.filter_cons,decide_true,Bool.not_true,Bool.false_eq_true,if_false,List.eraseIdx_zero,List.tail_cons]
            exact List.filter_eq_self.2 (by
              intro q hq
              have : q.1 ≠ a.1 := fun e => hnd.1 (by rw [← e]; exact List.mem_map.2 ⟨q,hq,rfl⟩)
              simpa using this)
          | succ j =>
            simp at h4
            have hne : a.1 ≠ p.1 := fun e => hnd.1 (by rw [e]; exact List.mem_map.2 ⟨p,List.mem_of_getElem? h4,rfl⟩)
            have := ih j h4 hnd.2
            simp only [alDel] at this
            simp [alDel,List.filter_cons,hne,this]
      rw [e1,e2,ChangeMaps.map_eraseIdx,hl,← ChangeMaps.map_eraseIdx]
theorem SMap.made (w:World) : SMap (w.alloc (.map #[] 0)) w.heap.size [] := ⟨#[],0,alloc_new _ _,stamped_empty 0,rfl⟩
theorem SMap.copy (h:SMap w m l) : ∃ es clock,w.heap[m]? = some (.map es clock) ∧ SMap (w.alloc (.map es clock)) w.heap.size l := by
 obtain ⟨es,clock,hb,hs,hl⟩ := h
 exact ⟨es,clock,hb,es,clock,alloc_new _ _,hs,hl⟩
end
end Go.Proofs.XMaps

namespace Go.Proofs.XSlices
open Go Go.RowKit Go.Proofs.XRed Go.Proofs.XHeap Go.Proofs.XMaps
def sblk : Value → Option Nat
 | .slice (some a) _ _ => some a.block
 | _ => none
theorem sblk_own (v:Value) : v.ownBlock = sblk v := by cases v <;> first | rfl | (rename_i a n c; cases a <;> rfl)
theorem add_at (b o j:Nat) : (⟨b,o,none⟩ : Addr).add j = ⟨b,o + j,none⟩ := by unfold Addr.add; split <;> simp_all
def Src (w:World) (x:Value) (size m:Nat) (cs:List Value) : Prop :=
 ∃ A c,x = .slice A m c ∧ m ≤ c ∧ cs.length = m * size ∧ (0 < m → ∃ b o,A = some ⟨b,o,none⟩ ∧ ∀ j u,cs[j]? = some u → w.cell? ⟨b,o + j,none⟩ = some u)
theorem Src.nil (w:World) (size:Nat) : Src w (.slice none 0 0) size 0 [] := ⟨none,0,rfl,Nat.le_refl _,by simp,fun h => absurd h (Nat.lt_irrefl _)⟩
theorem Src.fr {O:Nat → Prop} {w w':World} {x:Value} {size m:Nat} {cs:List Value} (h:Src w x size m cs) (hs:0 < size) (hf:Fr O w w') (hn:∀ b,sblk x = some b → ¬ O b) : Src w' x size m cs := by
 obtain ⟨A,c,rfl,hc,hl,hr⟩ := h
 refine ⟨A,c,rfl,hc,hl,fun hm => ?_⟩
 obtain ⟨b,o,rfl,hcell⟩ := hr hm
 refine ⟨b,o,rfl,fun j u hj => ?_⟩
 have hlt : b < w.heap.size := World.block_lt_of_cell? w ⟨b,o + j,none⟩ (hcell j u hj)
 rw [World.cell?_of_block (w := w) (hf.block b hlt (hn b rfl))]
 exact hcell j u hj
theorem Src.lt {w:World} {x:Value} {size m:Nat} {cs:List Value} (h:Src w x size m cs) (hs:0 < size) (hm:0 < m) {b:Nat} (hb:sblk x = some b) : b < w.heap.size := by
 obtain ⟨A,c,rfl,hc,hl,hr⟩ := h
 obtain ⟨b',o,rfl,hcell⟩ := hr hm
 have h0 : 0 < cs.length := by rw [hl]; exact Nat.mul_pos hm hs
 have := World.block_lt_of_cell? w ⟨b',o + 0,none⟩ (hcell 0 cs[0] (by simp [h0]))
 simp only [sblk,Option.some.injEq] at hb
 subst hb; exact this
theorem Src.of_own {w:World} {base size m:Nat} {e:TypeId} {v:Value} {cs:List Value} (h:w.ownsRow base e size v m cs) : Src w v size m cs := by
 have h1 := h.1
 rcases h.2 with ⟨rfl,rfl⟩ | ⟨g,cap,cur,rfl,_,hg,hn,_⟩
 ·exact ⟨none,0,rfl,Nat.le_refl _,by simpa using h1,fun h => absurd h (Nat.lt_irrefl _)⟩
 ·refine ⟨_,cap,rfl,hn,h1,fun _ => ⟨g,0,rfl,fun j u hj => ?_⟩⟩
  have := h.cells (g := g) rfl j u hj
  rwa [add_at] at this
def u8s (bs:List UInt8) : List Value := bs.map fun x => .int .u8 x.toNat
theorem u8s_length (bs:List UInt8) : (u8s bs).length = bs.length := by simp [u8s]
theorem u8s_append (a b:List UInt8) : u8s (a ++ b) = u8s a ++ u8s b := by simp [u8s]
theorem u8s_one {bs:List UInt8} : ∀ u ∈ u8s bs,u.oneCell' = true := by
 intro u hu; obtain ⟨x,_,rfl⟩ := List.mem_map.1 hu; rfl
def SBytes (w:World) (v:Value) (bs:List UInt8) : Prop := Src w v 1 bs.length (u8s bs)
theorem SBytes.fr {O:Nat → Prop} {w w':World} {v:Value} {bs:List UInt8} (h:SBytes w v bs) (hf:Fr O w w') (hn:∀ b,sblk v = some b → ¬ O b) : SBytes w' v bs := Src.fr h (by omega) hf hn
theorem SBytes.nil (w:World) : SBytes w (.slice none 0 0) [] := Src.nil w 1
theorem SBytes.form {w:World} {v:Value} {bs:List UInt8} (h:SBytes w v bs) : ∃ A c,v = .slice A bs.length c ∧ bs.length ≤ c := by
 obtain ⟨A,c,hv,hc,_⟩ := h; exact ⟨A,c,hv,hc⟩
section
variable {P:Program} {w:World} {k:KV}
theorem s_len {t ty:TypeId} {A:Option Addr} {n c:Nat} (h:P.underlying t = some (.slice (P.elem t))) (hk:k (.int .i64 n) w) : px P (bSem .len #[t] ty #[.slice A n c]) w k :=
 px_ok (run_len_slice w t ty A n c h) hk
theorem s_lens {t ty:TypeId} {s:ByteArray} (h:P.underlying t = some .string) (hk:k (.int .i64 s.size) w) : px P (bSem .len #[t] ty #[.string s]) w k := by
 refine px_ok (w' := w) ?_ hk
 simp [bSem,Builtin.len_,goInt,run_underlying h,Result.andThen]
theorem s_ix {t:TypeId} {b o n c sz:Nat} {q:IntKind} {i:Int} (h:P.underlying t = some (.slice (P.elem t))) (hs:(sizeOf (P.elem t)).run P w = .ok sz w) (h0:0 ≤ i) (h1:i < n)
    (hk:k (.pointer (some ⟨b,o + i.toNat * sz,none⟩)) w) : px P (Instr.indexAt t (.slice (some ⟨b,o,none⟩) n c) (.int q i)) w k := by
  refine px_ok (w' := w) ?_ hk
  rw [run_indexAt_slice w t _ n c q i h,if_pos ⟨h0,h1⟩,hs]
  simp [Result.andThen,add_at]
theorem s_ix_src {t:TypeId} {x:Value} {m:Nat} {cs:List Value} {q:IntKind} {i:Int} (h:P.underlying t = some (.slice (P.elem t))) {size:Nat} (hs:(sizeOf (P.elem t)).run P w = .ok size w) (hS:Src w x size m cs) (h0:0 ≤ i) (h1:i < m)
    (hk:∀ b o,(∀ j u,j < size → cs[i.toNat * size + j]? = some u → w.cell? ⟨b,o + j,none⟩ = some u) → k (.pointer (some ⟨b,o,none⟩)) w) : px P (Instr.indexAt t x (.int q i)) w k := by
  obtain ⟨A,c,rfl,hc,hl,hr⟩ := hS
  obtain ⟨b,o,rfl,hcell⟩ := hr (by omega)
  refine s_ix h hs h0 h1 (hk b _ fun j u hj hu => ?_)
  have := hcell _ u hu
  rwa [Nat.add_assoc]
theorem s_sl_h {t:TypeId} {A:Option Addr} {n c sz:Nat} {q:IntKind} {i:Int} (h:P.underlying t = some (.slice (P.elem t))) (hs:(sizeOf (P.elem t)).run P w = .ok sz w) (h0:0 ≤ i) (h1:i ≤ c) (hk:k (.slice A i.toNat c) w) :
    px P (Instr.sliceAt t (.slice A n c) none (some (.int q i)) none) w k := by
  refine px_ok (w' := w) ?_ hk
  rw [run_sliceAt_slice w t _ _ _ _ h,run_slice_h w t A n c h q i h0 (by omega),hs]
  simp only [sliced,Result.andThen,Nat.zero_mul,Nat.sub_zero]
  split
  · rfl
  · cases A <;> simp [Addr.add]
theorem s_sl_l {t:TypeId} {A:Option Addr} {n c sz:Nat} {q:IntKind} {i:Int} (h:P.underlying t = some (.slice (P.elem t))) (hs:(sizeOf (P.elem t)).run P w = .ok sz w) (h0:0 ≤ i) (h1:i ≤ n)
    (hk:k (sliced A i.toNat n c sz) w) : px P (Instr.sliceAt t (.slice A n c) (some (.int q i)) none none) w k := by
  refine px_ok (w' := w) ?_ hk
  rw [run_sliceAt_slice w t _ _ _ _ h,run_slice_l w t A n c h q i h0 (by omega),hs]
  rfl
theorem s_sl_lh {t:TypeId} {A:Option Addr} {n c sz:Nat} {q q':IntKind} {i j:Int} (h:P.underlying t = some (.slice (P.elem t))) (hs:(sizeOf (P.elem t)).run P w = .ok sz w) (h0:0 ≤ i) (h1:i ≤ j) (h2:j ≤ c)
    (hk:k (sliced A i.toNat j.toNat c sz) w) : px P (Instr.sliceAt t (.slice A n c) (some (.int q i)) (some (.int q' j)) none) w k := by
  refine px_ok (w' := w) ?_ hk
  rw [run_sliceAt_slice w t _ _ _ _ h,run_slice_lh w t A n c h q q' i j h0 h1 (by omega),hs]
  rfl
theorem Src.cut {size n:Nat} {cs:List Value} {A:Option Addr} {c:Nat} (h:Src w (.slice A n c) size n cs) {l h':Nat} (h1:l ≤ h') (h2:h' ≤ n) :
    Src w (sliced A l h' c size) size (h' - l) ((cs.drop (l * size)).take ((h' - l) * size)) := by
  obtain ⟨A',c',he,hc,hl,hr⟩ := h
  injection he with e1 e2 e3
  subst e1; subst e3
  refine ⟨_,_,rfl,by omega,?_,fun hm => ?_⟩
  · rw [List.length_take,List.length_drop,hl]
    have : (h' - l) * size ≤ n * size - l * size := by rw [← Nat.sub_mul]; exact Nat.mul_le_mul_right _ (by omega)
    omega
  · obtain ⟨b,o,rfl,hcell⟩ := hr (by omega)
    have hne : ¬ c = l := by omega
    rw [if_neg hne]
    refine ⟨b,o + l * size,by simp [add_at],fun j u hj => ?_⟩
    rw [List.getElem?_take] at hj
    split at hj
    · rw [List.getElem?_drop] at hj
      have := hcell _ u hj
      rwa [Nat.add_assoc]
    · cases hj
theorem s_lit1 {t e:TypeId} {z x:Value} (ht:(underlying t).run P w = .ok (.slice e) w) (hs:(sizeOf e).run P w = .ok 1 w) (hz:(zeroValue e).run P w = .ok z w) (hz1:z.cells = #[z]) (hx:x.cells = #[x])
    (hk:k (.slice (some ⟨w.heap.size,0,none⟩) 1 1) (w.alloc (.cells #[x] e))) : px P (Instr.buildSlice t 1 #[(0,x)]) w k := by
  refine px_ok ?_ hk
  have hr : Array.range 1 = #[0] := rfl
  simp [Instr.buildSlice,ht,hs,hz,hz1,hx,Instr.fill,newRow,newObj,Sem.run,Result.andThen,hr]
theorem s_lit0 {t e:TypeId} {sz:Nat} (ht:(underlying t).run P w = .ok (.slice e) w) (hs:(sizeOf e).run P w = .ok sz w)
    (hk:k (.slice (some ⟨w.heap.size,0,none⟩) 0 0) (w.alloc (.cells #[] e))) : px P (Instr.buildSlice t 0 #[]) w k := by
  refine px_ok ?_ hk
  have hr : Array.range 0 = #[] := rfl
  simp [Instr.buildSlice,ht,hs,Instr.fill,newRow,newObj,Sem.run,Result.andThen,hr]
theorem run_append_src {base:Nat} {t t' ty e:TypeId} {i:TypeInfo} {z:Value} {size bytes:Nat} (ht:P.underlying t = some (.slice e)) (ht':t' = t) (hi:P.info? e = some i) (hz:i.zero = some z)
    (hsize:i.size = size) (hby:i.bytes = bytes) (hzs:z.cells.size = size) (hsz:0 < size) {v x:Value} {n m:Nat} {xs cs:List Value} (HO:w.ownsRow base e size v n xs) (HS:Src w x size m cs)
    (h1:∀ u ∈ cs,u.oneCell' = true) (h63:n + m ≤ maxLen) (hb:(n + m) * bytes ≤ 140737488355328) (hbase:base ≤ w.heap.size) :
    ∃ v' w',(Builtin.append_ #[t,t'] ty #[v,x]).run P w = .ok v' w' ∧ w'.ownsRow base e size v' (n + m) (xs ++ cs) ∧ w.grownBy w' v.ownBlock ∧ (v'.ownBlock = v.ownBlock ∨ v'.ownBlock = some w.heap.size) := by
  subst ht'
  obtain ⟨A,c,rfl,hc,hl,hr⟩ := HS
  rcases Nat.eq_zero_or_pos m with h0 | h0
  · subst h0
    have hcs : cs = [] := List.eq_nil_of_length_eq_zero (by simpa using hl)
    subst hcs
    cases A with
    | none =>
      rcases HO.2 with ⟨rfl,rfl⟩ | ⟨g,cap,cur,rfl,hg,hh,hnc,rest⟩
      · refine ⟨_,w,?_,by simpa using HO,World.grownBy.refl w _,.inl rfl⟩
        simp [Builtin.append_,run_underlying ht,sizeOf,typeInfo,hi,Builtin.lenOf,Builtin.firstCells]
      · refine ⟨_,w,?_,by simpa using HO,World.grownBy.refl w _,.inl rfl⟩
        simp [Builtin.append_,run_underlying ht,sizeOf,typeInfo,hi,Builtin.lenOf,Builtin.firstCells,hnc,storeCells]
    | some a =>
      obtain ⟨v',w',hrun,h2,h3,_,h5⟩ := run_append_own_at (P := P) w base t' ty e i z size bytes ht hi hz hsize hby hzs hsz v n xs HO a 0 c [] (by simp) (by simp) (by simp) h63 hb hbase
      exact ⟨v',w',hrun,h2,h3,h5⟩
  · obtain ⟨b,o,rfl,hcell⟩ := hr h0
    obtain ⟨v',w',hrun,h2,h3,_,h5⟩ := run_append_own_at (P := P) w base t' ty e i z size bytes ht hi hz hsize hby hzs hsz v n xs HO ⟨b,o,none⟩ m c cs hl
      (fun j u hu => by rw [add_at]; exact hcell j u hu) h1 h63 hb hbase
    exact ⟨v',w',hrun,h2,h3,h5⟩
theorem s_append {base:Nat} {t t' ty e:TypeId} {i:TypeInfo} {z:Value} {size bytes:Nat} (ht:P.underlying t = some (.slice e)) (ht':t' = t) (hi:P.info? e = some i) (hz:i.zero = some z)
    (hsize:i.size = size) (hby:i.bytes = bytes) (hzs:z.cells.size = size) (hsz:0 < size) {v x:Value} {n m:Nat} {xs cs:List Value} (HO:w.ownsRow base e size v n xs) (HS:Src w x size m cs)
    (h1:∀ u ∈ cs,u.oneCell' = true) (h63:n + m ≤ maxLen) (hb:(n + m) * bytes ≤ 140737488355328) (hbase:base ≤ w.heap.size)
    (hk:∀ v' w',w'.ownsRow base e size v' (n + m) (xs ++ cs) → Fr (fun b => some b = sblk v) w w' → (sblk v' = sblk v ∨ sblk v' = some w.heap.size) → k v' w') : px P (bSem .append #[t,t'] ty #[v,x]) w k := by
  obtain ⟨v',w',hrun,h2,h3,h4⟩ := run_append_src (P := P) (w := w) ht ht' hi hz hsize hby hzs hsz HO HS h1 h63 hb hbase (ty := ty)
  rw [sblk_own] at h3 h4
  rw [sblk_own] at h4
  exact px_ok hrun (hk v' w' h2 (Fr.grown h3) h4)
theorem own_fr {O:Nat → Prop} {w':World} {base size n:Nat} {e:TypeId} {v:Value} {xs:List Value} (h:w.ownsRow base e size v n xs) (hf:Fr O w w') (hn:∀ b,sblk v = some b → ¬ O b) : w'.ownsRow base e size v n xs := by
 obtain ⟨h1,h2⟩ := h
 refine ⟨h1,?_⟩
 rcases h2 with h2 | ⟨g,cap,cur,rfl,hg,hh,rest⟩
 ·exact .inl h2
 ·exact .inr ⟨g,cap,cur,rfl,hg,hf.get hh (hn g rfl),rest⟩
theorem own_lit (w:World) (base:Nat) (e:TypeId) (size:Nat) (cs:Array Value) (n:Nat) (hb:base ≤ w.heap.size) (hm:n ≤ maxLen) (hs:cs.size = n * size) :
    (w.alloc (.cells cs e)).ownsRow base e size (.slice (some ⟨w.heap.size,0,none⟩) n n) n cs.toList := World.ownsRow_lit w cs n hb hm hs
theorem own_less {base base' size n:Nat} {e:TypeId} {v:Value} {xs:List Value} (h:w.ownsRow base e size v n xs) (hb:base' ≤ base) : w.ownsRow base' e size v n xs := by
 obtain ⟨h1,h2⟩ := h
 refine ⟨h1,?_⟩
 rcases h2 with h2 | ⟨g,cap,cur,hv,hg,rest⟩
 ·exact .inl h2
 ·exact .inr ⟨g,cap,cur,hv,Nat.le_trans hb hg,rest⟩
theorem own_blk_lt {base size n:Nat} {e:TypeId} {v:Value} {xs:List Value} (h:w.ownsRow base e size v n xs) {b:Nat} (hb:sblk v = some b) : base ≤ b ∧ b < w.heap.size := h.lt b (by rw [sblk_own]; exact hb)
end
end Go.Proofs.XSlices

namespace Go.Proofs.XCalls
open Go Go.RowKit Go.Proofs.XRed Go.Proofs.XHeap Go.Proofs.XMaps Go.Proofs.XSlices
section
variable {P:Program} {w:World} {k:KV}
theorem pFn_extern {f : FuncId} {fn : Func} {e : Array Value → Sem Value} (hf : P.funcs[f]? = some fn) (hname : (fn.name == "runtime.NumGoroutine") = false) (hb : fn.body.isNone = true) (hn : Extern.findNext fn = none) (he : Extern.find fn = some e) {args : List Value}
    (h:px P (e args.toArray) w k) : pFn P f args w k := by
  unfold pFn
  rw [run_callFunc_extern hf hname hb hn he]
  unfold px at h
  split at h
  · rename_i v w' heq; rw [heq]; exact h
  · exact h.elim
def mrow (P:Program) (t:TypeId) (name:String) : Option (Array FieldStep × Option (FuncId × Bool)) := (P.info? t).bind fun i => (i.methods.find? (·.name == name)).map fun m => (m.path,m.func)
theorem method_run {t:TypeId} {name:String} {f:FuncId} {v:Value} {d:TypeDesc} (h:mrow P t name = some (#[],some (f,false))) (hu:P.underlying t = some d) (hp:∀ e,d ≠ .pointer e) (n:Nat) :
    (method (n + 1) t v name).run P w = .ok (f,v) w := by
  unfold mrow at h
  obtain ⟨i,hi,h2⟩ := Option.bind_eq_some_iff.1 h
  obtain ⟨m,hm,h3⟩ := Option.map_eq_some_iff.1 h2
  simp only [Prod.mk.injEq] at h3
  have e1 : ∀ o,(receiverAt t (.val v) false o).run P w = .ok v w := by
    intro o
    simp only [receiverAt,Sem.run_bind,run_underlying hu,Result.andThen]
    cases d <;> first | (exact absurd rfl (hp _)) | rfl
  simp only [method,Sem.run_bind,typeInfo,Sem.run,hi,Result.andThen,hm,h3.1,h3.2,follow]
  simp [hi,hm,h3.1,h3.2,follow,Result.andThen,e1,Sem.run]
theorem s_inv {t:TypeId} {name:String} {f:FuncId} {v:Value} {args:List Value} {d:TypeDesc} (h:mrow P t name = some (#[],some (f,false))) (hu:P.underlying t = some d) (hp:∀ e,d ≠ .pointer e) (hk:pFn P f (v :: args) w k) : pInv P (.iface t v) name args w k := by
 unfold pInv
 have := method_run (w := w) (v := v) h hu hp (P.types.size + (Made.depth - 1))
 have hd : 0 < Made.depth := by decide
 have e : P.types.size + (Made.depth - 1) + 1 = P.types.size + Made.depth := by omega
 rw [e] at this
 simp only [callMethod,Sem.run_bind,run_program,Result.andThen_ok,this]
 simpa [pFn] using hk
theorem nilAhead_run {t:TypeId} {name:String} {f:FuncId} {v:Value} {d:TypeDesc} (h:mrow P t name = some (#[],some (f,false))) (hu:P.underlying t = some d) (hp:∀ e,d ≠ .pointer e) (n:Nat) :
    (nilAhead (n + 1) t v name).run P w = .ok (some false) w := by
  unfold mrow at h
  obtain ⟨i,hi,h2⟩ := Option.bind_eq_some_iff.1 h
  obtain ⟨m,hm,h3⟩ := Option.map_eq_some_iff.1 h2
  simp only [Prod.mk.injEq] at h3
  simp [nilAhead,typeInfo,hi,hm,h3.1,h3.2,followBlind,Result.andThen,run_underlying hu]
  cases d <;> first | (exact absurd rfl (hp _)) | rfl
theorem s_nil_meth {t:TypeId} {name:String} {f:FuncId} {v:Value} {cap:Array Value} {d:TypeDesc} (h:mrow P t name = some (#[],some (f,false))) (hu:P.underlying t = some d) (hp:∀ e,d ≠ .pointer e) (hk:k (.func (.method name) #[.iface t v] cap) w) :
    px P (nilSem (.func (.method name) #[.iface t v] cap)) w k := by
  refine px_ok (w' := w) ?_ hk
  have hd : 0 < Made.depth := by decide
  have e : P.types.size + Made.depth = P.types.size + (Made.depth - 1) + 1 := by omega
  simp only [nilSem]
  have := nilAhead_run (w := w) (v := v) h hu hp (P.types.size + (Made.depth - 1))
  rw [← e] at this
  simp only [List.getElem?_toArray,List.getElem?_cons_zero,Sem.run_bind,run_program,Result.andThen_ok,this]
  rfl
theorem s_mkf {fn:Fn} {first cap:Array Value} (hk:k (.func fn first cap) w) : px P (Instr.makeFunc fn first cap) w k := px_ok (w' := w) rfl hk
theorem s_eqsn {t e:TypeId} {x y:Operand} {A:Option Addr} {n c n' c':Nat} (h:P.underlying t = some (.slice e)) (hk:k (.bool A.isNone) w) : px P (binSem .eql t x y (.slice A n c) (.slice none n' c')) w k :=
 s_bin (by simp) (by simp) (Lib.run_eql_slice_nil w t e A n c n' c' h) hk
theorem s_min {ts:Array TypeId} {t:TypeId} {q:IntKind} {a b:Int} (hk:k (.int q (if b < a then b else a)) w) : px P (bSem .min ts t #[.int q a,.int q b]) w k := px_ok (w' := w) (run_min_int2 w ts t q q a b) hk
theorem s_max {ts:Array TypeId} {t:TypeId} {q:IntKind} {a b:Int} (hk:k (.int q (if b > a then b else a)) w) : px P (bSem .max ts t #[.int q a,.int q b]) w k := px_ok (w' := w) (run_max_int2 w ts t q q a b) hk
theorem s_mks {t e:TypeId} {i:TypeInfo} {z:Value} (ht:P.underlying t = some (.slice e)) (hi:P.info? e = some i) (hz:i.zero = some z) {q q':IntKind} {n:Int} (h0:0 ≤ n) (hb:(i.bytes : Int) * n ≤ 281474976710656) (h63:n ≤ 9223372036854775807)
    (hk:k (.slice (some ⟨w.heap.size,0,none⟩) n.toNat n.toNat) (w.alloc (.cells (madeCells z.cells (n.toNat * i.size)) e))) : px P (Instr.makeSlice t (.int q n) (.int q' n)) w k :=
  px_ok (run_make w t e i z ht hi hz q q' n n h0 (Int.le_refl _) hb h63) hk
theorem madeCells_one (z:Value) (hz:z.cells = #[z]) (n:Nat) : madeCells z.cells n = (List.replicate n z).toArray := by
 rw [hz]
 apply Array.ext
 ·simp [madeCells]
 ·intro i h1 h2
  simp [madeCells,Nat.mod_one]
theorem Fr.setRow {w:World} {g:Nat} {cs cur:Array Value} {t:TypeId} {fr:Nat × Nat} (hg:w.heap[g]? = some (.cells cur t fr)) : Fr (fun b => b = g) w (w.setRow g cs) :=
 ⟨rfl,rfl,rfl,by simp [World.setRow],fun b hb hn => by
  simp only [World.setRow]
  rw [Array.getElem?_modify]
  split
  ·rename_i e; exact absurd e.symm hn
  ·rfl⟩
theorem s_copy {dT sT ty e t:TypeId} {g o dLen dCap m:Nat} {x:Value} {cur:Array Value} {cs:List Value} (hu:P.underlying dT = some (.slice e)) (hs:(P.info? e).map (·.size) = some 1)
    (hg:w.heap[g]? = some (.cells cur t (0,0))) (HS:Src w x 1 m cs) (h1:∀ u ∈ cs,u.oneCell' = true) (hfit:o + min m dLen ≤ cur.size)
    (hk:∀ w',w'.heap[g]? = some (.cells (cur.toList.take o ++ cs.take dLen ++ cur.toList.drop (o + min m dLen)).toArray t (0,0)) → Fr (fun b => b = g) w w' → w'.heap.size = w.heap.size → k (.int .i64 (min m dLen:Nat)) w') :
    px P (bSem .copy #[dT,sT] ty #[.slice (some ⟨g,o,none⟩) dLen dCap,x]) w k := by
  obtain ⟨A,c,rfl,hc,hl,hr⟩ := HS
  rw [Nat.mul_one] at hl
  have hne : ∀ (A:Option Addr),m = 0 → A = none → (bSem .copy #[dT,sT] ty #[.slice (some ⟨g,o,none⟩) dLen dCap,.slice A m c]).run P w = .ok (.int .i64 0) w := by
    intro A h0 hA
    subst hA; subst h0
    cases hq : P.info? e with
    | none => simp [hq] at hs
    | some i => simp [bSem,Builtin.copy_,run_underlying hu,Builtin.lenOf,Builtin.firstCells,sizeOf,typeInfo,hq,storeCells,goInt]
  have hsame : ∀ (A:Option Addr),m = 0 → A = none → px P (bSem .copy #[dT,sT] ty #[.slice (some ⟨g,o,none⟩) dLen dCap,.slice A m c]) w k := by
    intro A h0 hA
    have hcs : cs = [] := List.eq_nil_of_length_eq_zero (by omega)
    have hrun := hne A h0 hA
    subst h0
    refine px_ok hrun ?_
    have := hk w (by subst hcs; simpa using hg) (Fr.refl _ _) rfl
    simpa using this
  have hrow : ∀ a,A = some a → (∀ j v,(cs.take dLen)[j]? = some v → w.cell? (a.add j) = some v) → px P (bSem .copy #[dT,sT] ty #[.slice (some ⟨g,o,none⟩) dLen dCap,.slice A m c]) w k := by
    intro a hA hcell
    subst hA
    have hlen : (cs.take dLen).length = min m dLen := by rw [List.length_take,hl,Nat.min_comm]
    have hrun := run_copy_row (P := P) w dT sT ty e g o dLen dCap a m c cur t (cs.take dLen) hu hs hg hlen hcell (by rw [hlen]; exact hfit) fun v hv => h1 v (List.mem_of_mem_take hv)
    rw [hlen] at hrun
    exact px_ok hrun (hk _ (setRow_heap w g cur _ t (0,0) hg) (Fr.setRow hg) (by simp [World.setRow]))
  rcases Nat.eq_zero_or_pos m with h0 | h0
  · cases A with
    | none => exact hsame none h0 rfl
    | some a =>
      refine hrow a rfl fun j v hj => ?_
      have hcs : cs = [] := List.eq_nil_of_length_eq_zero (by omega)
      subst hcs; simp at hj
  · obtain ⟨b,o',rfl,hcell⟩ := hr h0
    refine hrow _ rfl fun j v hj => ?_
    rw [add_at]
    exact hcell j v (by
      rw [List.getElem?_take] at hj
      split at hj
      · exact hj
      · cases hj)
theorem equalIn_map_nil {d:Nat} {t kt et:TypeId} {p:Option Nat} (h:P.underlying t = some (.map kt et)) : (Op.equalIn (d + 1) t (.map p) (.map none)).run P w = .ok p.isNone w := by
 cases p <;> simp [Op.equalIn,run_underlying h]
theorem s_eqmn {t kt et:TypeId} {x y:Operand} {p:Option Nat} (h:P.underlying t = some (.map kt et)) (hk:k (.bool p.isNone) w) : px P (binSem .eql t x y (.map p) (.map none)) w k := by
 refine s_bin (by simp) (by simp) ?_ hk
 simp only [binOp]
 simp [show Op.equal t (.map p) (.map none) = Op.equalIn (9999 + 1) t (.map p) (.map none) from rfl,equalIn_map_nil h]
theorem s_clonem {t:TypeId} {m:Nat} {l:List (ByteArray × Value)} (h:SMap w m l) (hk:∀ w',SMap w' w.heap.size l → Fr (fun _ => False) w w' → w'.heap.size = w.heap.size + 1 → k (.iface t (.map (some w.heap.size))) w') : px P (Extern.MapsClone.clone #[.iface t (.map (some m))]) w k := by
  obtain ⟨es,clock,hm,h2⟩ := h.copy
  refine px_ok (w' := w.alloc (.map es clock)) ?_ (hk _ h2 (Fr.alloc _ _ _) (by simp))
  have e : Extern.MapsClone.clone #[.iface t (.map (some m))] = (getObj m >>= fun o => match o with
      | .map entries clock => (newObj (.map entries clock) >>= fun n => pure (.iface t (.map (some n))))
      | _ => stuck "maps.clone: a map expected") := rfl
  rw [e]
  simp [MapKept.run_getObj_map hm,Result.andThen,newObj,Sem.run]
theorem s_ta {t xT kt et:TypeId} {v:Value} (h:P.underlying t = some (.map kt et)) (hk:k v w) : px P (Instr.typeAssert (.iface t v) xT t false) w k := by
 refine px_ok (w' := w) ?_ hk
 simp [Instr.typeAssert,run_underlying h,Result.andThen]
theorem s_stN {t b o n:Nat} {cs:Array Value} {T:TypeId} {vs:List Value} {kk:World → Prop} (hsz:(sizeOf t).run P w = .ok n w) (hn:vs.length = n) (h1:∀ v ∈ vs,v.oneCell' = true) (h:w.heap[b]? = some (.cells cs T (0,0))) (ho:o + n ≤ cs.size)
    (hk:∀ w',w'.heap[b]? = some (.cells (cs.toList.take o ++ vs ++ cs.toList.drop (o + n)).toArray T (0,0)) → Fr (fun c => c = b) w w' → w'.heap.size = w.heap.size → kk w') : pu P (Instr.storeAt t (.pointer (some ⟨b,o,none⟩)) (.agg vs.toArray)) w kk := by
  have hst := run_storeCells_at P b o T vs 0 cs w h (by simpa [hn] using ho) h1
  refine pu_ok (w' := w.setRow b (cs.toList.take o ++ vs ++ cs.toList.drop (o + n)).toArray) ?_ (hk _ (setRow_heap w b cs _ T (0,0) h) (Fr.setRow h) (by simp [World.setRow]))
  simp [Instr.storeAt,Instr.sureAddr,storeVar,hsz,Value.cells,hn,Result.andThen,hst]
end
end Go.Proofs.XCalls
