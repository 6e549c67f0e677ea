/- More of the walk by reduction: externs, methods by interface, copies, rows made. -/
import Derived.Test.YtcdcojpfealppaaXSlices
import Derived.Lib.SliceRun
import Derived.Laws.CopyRow
import Derived.Laws.MakeOwn
import Derived.Laws.Externs
import Derived.Lib.Bytealg
import Derived.Lib.IndexAny
set_option linter.unusedVariables false
set_option linter.unusedSimpArgs false
namespace Go.Proofs.XCalls
open Go Go.RowKit Go.Proofs.XRed Go.Proofs.XHeap Go.Proofs.XMaps Go.Proofs.XSlices

section
variable {P : Program} {w : World} {k : Value → World → Prop}
theorem pFn_extern {f : FuncId} {fn : Func} {e : Array Value → Sem Value} (hf : P.funcs[f]? = some fn) (hname : (fn.name == "runtime.NumGoroutine") = false) (hb : fn.body.isNone = true) (hn : Extern.findNext fn = none) (he : Extern.find fn = some e) {args : List Value}
    (h : px P (e args.toArray) w k) : pFn P f args w k := by
  unfold pFn
  rw [run_callFunc_extern hf hname hb hn he]
  unfold px at h
  split at h
  · rename_i v w' heq; rw [heq]; exact h
  · exact h.elim
/-- The row of a method in a type's table. -/
def mrow (P : Program) (t : TypeId) (name : String) : Option (Array FieldStep × Option (FuncId × Bool)) := (P.info? t).bind fun i => (i.methods.find? (·.name == name)).map fun m => (m.path, m.func)
theorem method_run {t : TypeId} {name : String} {f : FuncId} {v : Value} {d : TypeDesc} (h : mrow P t name = some (#[], some (f, false))) (hu : P.underlying t = some d) (hp : ∀ e, d ≠ .pointer e) (n : Nat) :
    (method (n + 1) t v name).run P w = .ok (f, v) w := by
  unfold mrow at h
  obtain ⟨i, hi, h2⟩ := Option.bind_eq_some_iff.1 h
  obtain ⟨m, hm, h3⟩ := Option.map_eq_some_iff.1 h2
  simp only [Prod.mk.injEq] at h3
  have e1 : ∀ o, (receiverAt t (.val v) false o).run P w = .ok v w := by
    intro o
    simp only [receiverAt, Sem.run_bind, run_underlying hu, Result.andThen]
    cases d <;> first | (exact absurd rfl (hp _)) | rfl
  simp only [method, Sem.run_bind, typeInfo, Sem.run, hi, Result.andThen, hm, h3.1, h3.2, follow]
  simp [hi, hm, h3.1, h3.2, follow, Result.andThen, e1, Sem.run]
theorem s_inv {t : TypeId} {name : String} {f : FuncId} {v : Value} {args : List Value} {d : TypeDesc} (h : mrow P t name = some (#[], some (f, false))) (hu : P.underlying t = some d) (hp : ∀ e, d ≠ .pointer e) (hk : pFn P f (v :: args) w k) : pInv P (.iface t v) name args w k := by
  unfold pInv
  have := method_run (w := w) (v := v) h hu hp (P.types.size + (Made.depth - 1))
  have hd : 0 < Made.depth := by decide
  have e : P.types.size + (Made.depth - 1) + 1 = P.types.size + Made.depth := by omega
  rw [e] at this
  simp only [callMethod, Sem.run_bind, run_program, Result.andThen_ok, this]
  simpa [pFn] using hk
theorem nilAhead_run {t : TypeId} {name : String} {f : FuncId} {v : Value} {d : TypeDesc} (h : mrow P t name = some (#[], some (f, false))) (hu : P.underlying t = some d) (hp : ∀ e, d ≠ .pointer e) (n : Nat) :
    (nilAhead (n + 1) t v name).run P w = .ok (some false) w := by
  unfold mrow at h
  obtain ⟨i, hi, h2⟩ := Option.bind_eq_some_iff.1 h
  obtain ⟨m, hm, h3⟩ := Option.map_eq_some_iff.1 h2
  simp only [Prod.mk.injEq] at h3
  simp [nilAhead, typeInfo, hi, hm, h3.1, h3.2, followBlind, Result.andThen, run_underlying hu]
  cases d <;> first | (exact absurd rfl (hp _)) | rfl
/-- A method held as a value, of an interface value that holds no pointer. -/
theorem s_nil_meth {t : TypeId} {name : String} {f : FuncId} {v : Value} {cap : Array Value} {d : TypeDesc} (h : mrow P t name = some (#[], some (f, false))) (hu : P.underlying t = some d) (hp : ∀ e, d ≠ .pointer e) (hk : k (.func (.method name) #[.iface t v] cap) w) :
    px P (nilSem (.func (.method name) #[.iface t v] cap)) w k := by
  refine px_ok (w' := w) ?_ hk
  have hd : 0 < Made.depth := by decide
  have e : P.types.size + Made.depth = P.types.size + (Made.depth - 1) + 1 := by omega
  simp only [nilSem]
  have := nilAhead_run (w := w) (v := v) h hu hp (P.types.size + (Made.depth - 1))
  rw [← e] at this
  simp only [List.getElem?_toArray, List.getElem?_cons_zero, Sem.run_bind, run_program, Result.andThen_ok, this]
  rfl
theorem s_mkf {fn : Fn} {first cap : Array Value} (hk : k (.func fn first cap) w) : px P (Instr.makeFunc fn first cap) w k := px_ok (w' := w) rfl hk
theorem s_eqsn {t e : TypeId} {x y : Operand} {A : Option Addr} {n c n' c' : Nat} (h : P.underlying t = some (.slice e)) (hk : k (.bool A.isNone) w) : px P (binSem .eql t x y (.slice A n c) (.slice none n' c')) w k :=
  s_bin (by simp) (by simp) (Lib.run_eql_slice_nil w t e A n c n' c' h) hk
theorem s_min {ts : Array TypeId} {t : TypeId} {q : IntKind} {a b : Int} (hk : k (.int q (if b < a then b else a)) w) : px P (bSem .min ts t #[.int q a, .int q b]) w k := px_ok (w' := w) (run_min_int2 w ts t q q a b) hk
theorem s_max {ts : Array TypeId} {t : TypeId} {q : IntKind} {a b : Int} (hk : k (.int q (if b > a then b else a)) w) : px P (bSem .max ts t #[.int q a, .int q b]) w k := px_ok (w' := w) (run_max_int2 w ts t q q a b) hk
theorem s_mks {t e : TypeId} {i : TypeInfo} {z : Value} (ht : P.underlying t = some (.slice e)) (hi : P.info? e = some i) (hz : i.zero = some z) {q q' : IntKind} {n : Int} (h0 : 0 ≤ n) (hb : (i.bytes : Int) * n ≤ 281474976710656) (h63 : n ≤ 9223372036854775807)
    (hk : k (.slice (some ⟨w.heap.size, 0, none⟩) n.toNat n.toNat) (w.alloc (.cells (madeCells z.cells (n.toNat * i.size)) e))) : px P (Instr.makeSlice t (.int q n) (.int q' n)) w k :=
  px_ok (run_make w t e i z ht hi hz q q' n n h0 (Int.le_refl _) hb h63) hk
theorem madeCells_one (z : Value) (hz : z.cells = #[z]) (n : Nat) : madeCells z.cells n = (List.replicate n z).toArray := by
  rw [hz]
  apply Array.ext
  · simp [madeCells]
  · intro i h1 h2
    simp [madeCells, Nat.mod_one]
theorem Fr.setRow {w : World} {g : Nat} {cs cur : Array Value} {t : TypeId} {fr : Nat × Nat} (hg : w.heap[g]? = some (.cells cur t fr)) : Fr (fun b => b = g) w (w.setRow g cs) :=
  ⟨rfl, rfl, rfl, by simp [World.setRow], fun b hb hn => by
    simp only [World.setRow]
    rw [Array.getElem?_modify]
    split
    · rename_i e; exact absurd e.symm hn
    · rfl⟩
/-- copy into a block. -/
theorem s_copy {dT sT ty e t : TypeId} {g o dLen dCap m : Nat} {x : Value} {cur : Array Value} {cs : List Value} (hu : P.underlying dT = some (.slice e)) (hs : (P.info? e).map (·.size) = some 1)
    (hg : w.heap[g]? = some (.cells cur t (0, 0))) (HS : Src w x 1 m cs) (h1 : ∀ u ∈ cs, u.oneCell' = true) (hfit : o + min m dLen ≤ cur.size)
    (hk : ∀ w', w'.heap[g]? = some (.cells (cur.toList.take o ++ cs.take dLen ++ cur.toList.drop (o + min m dLen)).toArray t (0, 0)) → Fr (fun b => b = g) w w' → w'.heap.size = w.heap.size → k (.int .i64 (min m dLen : Nat)) w') :
    px P (bSem .copy #[dT, sT] ty #[.slice (some ⟨g, o, none⟩) dLen dCap, x]) w k := by
  obtain ⟨A, c, rfl, hc, hl, hr⟩ := HS
  rw [Nat.mul_one] at hl
  have hne : ∀ (A : Option Addr), m = 0 → A = none → (bSem .copy #[dT, sT] ty #[.slice (some ⟨g, o, none⟩) dLen dCap, .slice A m c]).run P w = .ok (.int .i64 0) w := by
    intro A h0 hA
    subst hA; subst h0
    cases hq : P.info? e with
    | none => simp [hq] at hs
    | some i => simp [bSem, Builtin.copy_, run_underlying hu, Builtin.lenOf, Builtin.firstCells, sizeOf, typeInfo, hq, storeCells, goInt]
  have hsame : ∀ (A : Option Addr), m = 0 → A = none → px P (bSem .copy #[dT, sT] ty #[.slice (some ⟨g, o, none⟩) dLen dCap, .slice A m c]) w k := by
    intro A h0 hA
    have hcs : cs = [] := List.eq_nil_of_length_eq_zero (by omega)
    have hrun := hne A h0 hA
    subst h0
    refine px_ok hrun ?_
    have := hk w (by subst hcs; simpa using hg) (Fr.refl _ _) rfl
    simpa using this
  have hrow : ∀ a, A = some a → (∀ j v, (cs.take dLen)[j]? = some v → w.cell? (a.add j) = some v) → px P (bSem .copy #[dT, sT] ty #[.slice (some ⟨g, o, none⟩) dLen dCap, .slice A m c]) w k := by
    intro a hA hcell
    subst hA
    have hlen : (cs.take dLen).length = min m dLen := by rw [List.length_take, hl, Nat.min_comm]
    have hrun := run_copy_row (P := P) w dT sT ty e g o dLen dCap a m c cur t (cs.take dLen) hu hs hg hlen hcell (by rw [hlen]; exact hfit) fun v hv => h1 v (List.mem_of_mem_take hv)
    rw [hlen] at hrun
    exact px_ok hrun (hk _ (setRow_heap w g cur _ t (0, 0) hg) (Fr.setRow hg) (by simp [World.setRow]))
  rcases Nat.eq_zero_or_pos m with h0 | h0
  · cases A with
    | none => exact hsame none h0 rfl
    | some a =>
      refine hrow a rfl fun j v hj => ?_
      have hcs : cs = [] := List.eq_nil_of_length_eq_zero (by omega)
      subst hcs; simp at hj
  · obtain ⟨b, o', rfl, hcell⟩ := hr h0
    refine hrow _ rfl fun j v hj => ?_
    rw [add_at]
    exact hcell j v (by
      rw [List.getElem?_take] at hj
      split at hj
      · exact hj
      · cases hj)
theorem equalIn_map_nil {d : Nat} {t kt et : TypeId} {p : Option Nat} (h : P.underlying t = some (.map kt et)) : (Op.equalIn (d + 1) t (.map p) (.map none)).run P w = .ok p.isNone w := by
  cases p <;> simp [Op.equalIn, run_underlying h]
theorem s_eqmn {t kt et : TypeId} {x y : Operand} {p : Option Nat} (h : P.underlying t = some (.map kt et)) (hk : k (.bool p.isNone) w) : px P (binSem .eql t x y (.map p) (.map none)) w k := by
  refine s_bin (by simp) (by simp) ?_ hk
  simp only [binOp]
  simp [show Op.equal t (.map p) (.map none) = Op.equalIn (9999 + 1) t (.map p) (.map none) from rfl, equalIn_map_nil h]
theorem s_clonem {t : TypeId} {m : Nat} {l : List (ByteArray × Value)} (h : SMap w m l) (hk : ∀ w', SMap w' w.heap.size l → Fr (fun _ => False) w w' → w'.heap.size = w.heap.size + 1 → k (.iface t (.map (some w.heap.size))) w') : px P (Extern.MapsClone.clone #[.iface t (.map (some m))]) w k := by
  obtain ⟨es, clock, hm, h2⟩ := h.copy
  refine px_ok (w' := w.alloc (.map es clock)) ?_ (hk _ h2 (Fr.alloc _ _ _) (by simp))
  have e : Extern.MapsClone.clone #[.iface t (.map (some m))] = (getObj m >>= fun o => match o with
      | .map entries clock => (newObj (.map entries clock) >>= fun n => pure (.iface t (.map (some n))))
      | _ => stuck "maps.clone: a map expected") := rfl
  rw [e]
  simp [MapKept.run_getObj_map hm, Result.andThen, newObj, Sem.run]
theorem s_ta {t xT kt et : TypeId} {v : Value} (h : P.underlying t = some (.map kt et)) (hk : k v w) : px P (Instr.typeAssert (.iface t v) xT t false) w k := by
  refine px_ok (w' := w) ?_ hk
  simp [Instr.typeAssert, run_underlying h, Result.andThen]
/-- A store of more than one cell. -/
theorem s_stN {t b o n : Nat} {cs : Array Value} {T : TypeId} {vs : List Value} {kk : World → Prop} (hsz : (sizeOf t).run P w = .ok n w) (hn : vs.length = n) (h1 : ∀ v ∈ vs, v.oneCell' = true) (h : w.heap[b]? = some (.cells cs T (0, 0))) (ho : o + n ≤ cs.size)
    (hk : ∀ w', w'.heap[b]? = some (.cells (cs.toList.take o ++ vs ++ cs.toList.drop (o + n)).toArray T (0, 0)) → Fr (fun c => c = b) w w' → w'.heap.size = w.heap.size → kk w') : pu P (Instr.storeAt t (.pointer (some ⟨b, o, none⟩)) (.agg vs.toArray)) w kk := by
  have hst := run_storeCells_at P b o T vs 0 cs w h (by simpa [hn] using ho) h1
  refine pu_ok (w' := w.setRow b (cs.toList.take o ++ vs ++ cs.toList.drop (o + n)).toArray) ?_ (hk _ (setRow_heap w b cs _ T (0, 0) h) (Fr.setRow h) (by simp [World.setRow]))
  simp [Instr.storeAt, Instr.sureAddr, storeVar, hsz, Value.cells, hn, Result.andThen, hst]
end
end Go.Proofs.XCalls
