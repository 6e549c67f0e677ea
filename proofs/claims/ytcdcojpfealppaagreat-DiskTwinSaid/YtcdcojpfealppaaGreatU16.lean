/- Put together by a program (wip/tools/shake.py): XPtr. -/
import Derived.Test.YtcdcojpfealppaaGreatU2
import Derived.LaidEql
set_option linter.unusedVariables false
set_option linter.unusedSimpArgs false
namespace Go.Proofs.XPtr
open Go Go.RowKit Go.Proofs.XRed Go.Proofs.XHeap Go.Proofs.XMaps Go.MapKept
def ptrV (b : Nat) : Value := .pointer (some ⟨b, 0, none⟩)
theorem ptrV_inj {a b : Nat} (h : ptrV a = ptrV b) : a = b := by injection h with h; injection h with h; injection h
def PMap (w : World) (m : Nat) (l : List (Nat × Nat)) : Prop :=
 ∃ es clock, w.heap[m]? = some (.map es clock) ∧ Stamped es clock ∧ es.toList.map (fun e => (e.key, e.val)) = l.map fun p => (ptrV p.1, ptrV p.2)
theorem PMap.fr {O : Nat → Prop} {w w' : World} {m : Nat} {l : List (Nat × Nat)} (h : PMap w m l) (hf : Fr O w w') (hn : ¬ O m) : PMap w' m l := by
 obtain ⟨es, clock, hb, hs, hl⟩ := h; exact ⟨es, clock, hf.get hb hn, hs, hl⟩
def pGet (l : List (Nat × Nat)) (b : Nat) : Option Nat := (l.find? fun p => decide (p.1 = b)).map (·.2)
theorem pGet_none {l : List (Nat × Nat)} {b : Nat} : pGet l b = none ↔ ∀ p ∈ l, p.1 ≠ b := by
 unfold pGet
 simp [List.find?_eq_none]
theorem pGet_mem {l : List (Nat × Nat)} {b v : Nat} (h : pGet l b = some v) : (b, v) ∈ l := by
 unfold pGet at h
 obtain ⟨p, hp, rfl⟩ := Option.map_eq_some_iff.1 h
 have h1 := List.mem_of_find?_eq_some hp
 have h2 := List.find?_some hp
 simp only [decide_eq_true_eq] at h2
 subst h2; exact h1
theorem pGet_push {l : List (Nat × Nat)} {b c v : Nat} (h : pGet l b = none) : pGet (l ++ [(b, v)]) c = if c = b then some v else pGet l c := by
 unfold pGet at *
 rw [List.find?_append]
 by_cases e : c = b
 ·subst e
  rw [if_pos rfl]
  have : l.find? (fun p => decide (p.1 = c)) = none := by simpa using h
  rw [this]; simp
 ·rw [if_neg e]
  cases l.find? (fun p => decide (p.1 = c)) with
  | some q => simp
  | none => simp [Ne.symm e]
def Blk (w : World) (b : Nat) : Prop := ∃ cs T, w.heap[b]? = some (.cells cs T (0, 0))
theorem Blk.fr {O : Nat → Prop} {w w' : World} {b : Nat} (h : Blk w b) (hf : Fr O w w') (hn : ¬ O b) : Blk w' b := by
 obtain ⟨cs, T, h⟩ := h; exact ⟨cs, T, hf.get h hn⟩
section
variable {P : Program} {w : World} {m : Nat} {l : List (Nat × Nat)} {t kt et : TypeId}
theorem run_equal_ptr {a b : Nat} (hk : P.underlying kt = some (.pointer et)) {sz : Nat} (hs : (sizeOf et).run P w = .ok sz w) (h0 : sz ≠ 0) (ha : Blk w a) (hb : Blk w b) : (Op.equal kt (ptrV a) (ptrV b)).run P w = .ok (decide (a = b)) w := by
 unfold Op.equal ptrV
 rw [show Op.maxDepth = 9999 + 1 from rfl, Op.equalIn]
 simp [run_underlying hk, hs, h0, Result.andThen]
 by_cases e : a = b
 ·subst e
  rw [run_sameAddr_same]; simp
 ·obtain ⟨ca, ta, ha⟩ := ha
  obtain ⟨cb, tb, hb⟩ := hb
  rw [run_sameAddr_other w (ca := ca) (cb := cb) (ta := ta) (tb := tb) (by intro h; injection h with h; exact e h) ha hb]
  simp [e]
theorem run_asking (hk : P.underlying kt = some (.pointer et)) {sz : Nat} (hs : (sizeOf et).run P w = .ok sz w) (h0 : sz ≠ 0) {b : Nat} (hb : Blk w b) : ∀ (es : List MapEntry) (l : List (Nat × Nat)) (i : Nat), es.map (fun e => (e.key, e.val)) = (l.map fun p => (ptrV p.1, ptrV p.2)) → (∀ p ∈ l, Blk w p.1) →
    (∃ j, (Instr.findAsking kt (ptrV b) es i).run P w = .ok ((pGet l b).map fun v => (j, ptrV v)) w)
  | [], [], i, _, _ => ⟨0, rfl⟩
  | [], p :: l, i, h, _ => by simp at h
  | e :: es, [], i, h, _ => by simp at h
  | e :: es, p :: l, i, h, hl => by
    simp only [List.map_cons, List.cons.injEq, Prod.mk.injEq] at h
    obtain ⟨⟨h1, h2⟩, h3⟩ := h
    have hp := hl p List.mem_cons_self
    unfold Instr.findAsking
    rw [h1, h2]
    by_cases e' : b = p.1
    · refine ⟨i, ?_⟩
      subst e'
      simp [run_equal_ptr hk hs h0 hp hp, Result.andThen, pGet]
    · obtain ⟨j, hj⟩ := run_asking hk hs h0 hb es l (i + 1) h3 fun q hq => hl q (List.mem_cons_of_mem _ hq)
      refine ⟨j, ?_⟩
      have e2 : ¬ p.1 = b := fun h => e' h.symm
      have e3 : pGet (p :: l) b = pGet l b := by unfold pGet; rw [List.find?_cons_of_neg (by simpa using e2)]
      rw [e3]
      simp [run_equal_ptr hk hs h0 hb hp, Result.andThen, e', hj]
theorem run_find (hk : P.underlying kt = some (.pointer et)) {sz : Nat} (hs : (sizeOf et).run P w = .ok sz w) (h0 : sz ≠ 0) {b : Nat} (hb : Blk w b) {es : List MapEntry} (he : es.map (fun e => (e.key, e.val)) = (l.map fun p => (ptrV p.1, ptrV p.2))) (hl : ∀ p ∈ l, Blk w p.1) :
    (∃ j, (Instr.findKey kt (ptrV b) es).run P w = .ok ((pGet l b).map fun v => (j, ptrV v)) w) := by
  cases es with
  | nil =>
    cases l with
    | nil => exact ⟨0, by simp [Instr.findKey, run_underlying hk, Result.andThen, Instr.findNow, pGet]⟩
    | cons p l => simp at he
  | cons e es =>
    obtain ⟨j, hj⟩ := run_asking hk hs h0 hb (e :: es) l 0 he hl
    refine ⟨j, ?_⟩
    have : Instr.findNow (.pointer et) (ptrV b) (e :: es) 0 = none := by
      unfold Instr.findNow
      have : Instr.sameNow (.pointer et) (ptrV b) e.key = none := rfl
      rw [this]
    simp [Instr.findKey, run_underlying hk, Result.andThen, this, hj]
theorem run_checkPtr (hk : P.underlying kt = some (.pointer et)) (e : Bool) (n b : Nat) : (Instr.checkKey e (n + 1) kt (ptrV b)).run P w = .ok () w := by
 unfold Instr.checkKey ptrV
 simp [run_underlying hk, Result.andThen]
theorem PMap.lookup (h : PMap w m l) (ht : P.underlying t = some (.map kt kt)) (hk : P.underlying kt = some (.pointer et)) {sz : Nat} (hs : (sizeOf et).run P w = .ok sz w) (h0 : sz ≠ 0) (hz : (zeroValue kt).run P w = .ok (.pointer none) w) {b : Nat} (hb : Blk w b) (hl : ∀ p ∈ l, Blk w p.1) :
    (Instr.lookup t (.map (some m)) (ptrV b) false).run P w = .ok (match pGet l b with | some v => ptrV v | none => .pointer none) w := by
  obtain ⟨es, clock, hm, hst, he⟩ := h
  obtain ⟨j, hj⟩ := run_find hk hs h0 hb he hl
  have hck := fun e => run_checkPtr (w := w) hk e 9999 b
  simp only [Instr.lookup, run_underlying ht, MapKept.run_getObj_map hm, hck, hj, Result.andThen, Sem.run_bind, Sem.run_pure]
  cases pGet l b with
  | none => simp [hz, Result.andThen]
  | some v => simp
theorem PMap.put (h : PMap w m l) (ht : P.underlying t = some (.map kt kt)) (hk : P.underlying kt = some (.pointer et)) {sz : Nat} (hs : (sizeOf et).run P w = .ok sz w) (h0 : sz ≠ 0) {b v : Nat} (hb : Blk w b) (hl : ∀ p ∈ l, Blk w p.1) (hn : pGet l b = none) :
    ∃ w', (Instr.mapUpdate t (.map (some m)) (ptrV b) (ptrV v)).run P w = .ok () w' ∧ PMap w' m (l ++ [(b, v)]) ∧ Fr (fun c => c = m) w w' ∧ w'.heap.size = w.heap.size := by
  obtain ⟨es, clock, hm, hst, he⟩ := h
  obtain ⟨j, hj⟩ := run_find hk hs h0 hb he hl
  rw [hn] at hj
  have hck := fun e => run_checkPtr (w := w) hk e 9999 b
  have hlt := lt_of_get hm
  have hkeys : ∀ x ∈ es.toList, x.key ≠ ptrV b := by
    intro x hx e
    have : (x.key, x.val) ∈ es.toList.map fun e => (e.key, e.val) := List.mem_map.2 ⟨x, hx, rfl⟩
    rw [he] at this
    obtain ⟨p, hp, hpe⟩ := List.mem_map.1 this
    have e1 : ptrV p.1 = x.key := congrArg Prod.fst hpe
    exact pGet_none.1 hn p hp (ptrV_inj (e1.trans e))
  refine ⟨ChangeMaps.setBlock w m (.map (es.push { key := ptrV b, val := ptrV v, born := clock }) (clock + 1)), ?_, ⟨es.push { key := ptrV b, val := ptrV v, born := clock }, clock + 1, ?_, stamped_push hst hkeys, ?_⟩, Fr.setBlock _ _ _, by simp [ChangeMaps.setBlock]⟩
  · simp [Instr.mapUpdate, run_underlying ht, MapKept.run_getObj_map hm, hck, hj, MapKept.run_setObj_map _ hm, Result.andThen, ChangeMaps.setBlock]
  · simp [ChangeMaps.setBlock, hlt]
  · simp [he]
end
theorem PMap.made (w : World) : PMap (w.alloc (.map #[] 0)) w.heap.size [] := ⟨#[], 0, alloc_new _ _, stamped_empty 0, rfl⟩
end Go.Proofs.XPtr
