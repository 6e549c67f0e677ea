/- Maps with texts as keys, as lists of pairs. -/
import Derived.Test.YtcdcojpfealppaaXHeap
import Derived.Laws.IdiomRangeMap
set_option linter.unusedVariables false
set_option linter.unusedSimpArgs false
namespace Go.Proofs.XMaps
open Go Go.RowKit Go.Proofs.XRed Go.Proofs.XHeap Go.MapKept

/-! ### Lists of pairs -/
section
variable {β : Type}
def alGet (l : List (ByteArray × β)) (s : ByteArray) : Option β := (l.find? fun p => decide (p.1 = s)).map (·.2)
def alSet (l : List (ByteArray × β)) (s : ByteArray) (v : β) : List (ByteArray × β) :=
  if l.any fun p => decide (p.1 = s) then l.map fun p => if p.1 = s then (s, v) else p else l ++ [(s, v)]
def alDel (l : List (ByteArray × β)) (s : ByteArray) : List (ByteArray × β) := l.filter fun p => !decide (p.1 = s)
def alKeys (l : List (ByteArray × β)) : List ByteArray := l.map (·.1)
end

/-- Block m is a map of just these pairs, in the order of its entries. -/
def SMap (w : World) (m : Nat) (l : List (ByteArray × Value)) : Prop :=
  ∃ es clock, w.heap[m]? = some (.map es clock) ∧ Stamped es clock ∧ es.toList.map (fun e => (e.key, e.val)) = l.map fun p => (Value.string p.1, p.2)

theorem SMap.lt {w : World} {m : Nat} {l : List (ByteArray × Value)} (h : SMap w m l) : m < w.heap.size := by
  obtain ⟨es, clock, hb, _⟩ := h; exact lt_of_get hb
theorem SMap.keep {w w' : World} {m : Nat} {l : List (ByteArray × Value)} (h : SMap w m l) (he : w'.heap[m]? = w.heap[m]?) : SMap w' m l := by
  obtain ⟨es, clock, hb, hs, hl⟩ := h; exact ⟨es, clock, he.trans hb, hs, hl⟩
theorem SMap.fr {O : Nat → Prop} {w w' : World} {m : Nat} {l : List (ByteArray × Value)} (h : SMap w m l) (hf : Fr O w w') (hn : ¬ O m) : SMap w' m l := h.keep (hf.block m h.lt hn)
theorem SMap.alloc {w : World} {m : Nat} {l : List (ByteArray × Value)} (h : SMap w m l) (o : Obj) : SMap (w.alloc o) m l := h.fr (Fr.alloc (fun _ => False) w o) id
theorem SMap.nodup {w : World} {m : Nat} {l : List (ByteArray × Value)} (h : SMap w m l) : (alKeys l).Nodup := by
  obtain ⟨es, clock, hb, hs, hl⟩ := h
  have h3 := hs.2.2
  have e : es.toList.map (·.key) = (alKeys l).map Value.string := by
    have := congrArg (List.map Prod.fst) hl
    simpa [alKeys, Function.comp_def] using this
  rw [e] at h3
  exact (List.pairwise_map.1 h3).imp (fun hne e => hne (by rw [e]))
theorem SMap.keys {w : World} {m : Nat} {l : List (ByteArray × Value)} {es : Array MapEntry} (hl : es.toList.map (fun e => (e.key, e.val)) = l.map fun p => (Value.string p.1, p.2)) : ∀ x ∈ es.toList, IsKey .string x.key := by
  intro x hx
  have : (x.key, x.val) ∈ es.toList.map fun e => (e.key, e.val) := List.mem_map.2 ⟨x, hx, rfl⟩
  rw [hl] at this
  obtain ⟨p, _, hp⟩ := List.mem_map.1 this
  have : x.key = .string p.1 := (congrArg Prod.fst hp).symm
  rw [this]; trivial

theorem alGet_none {β : Type} {l : List (ByteArray × β)} {s : ByteArray} (h : ∀ p ∈ l, p.1 ≠ s) : alGet l s = none := by
  unfold alGet
  rw [List.find?_eq_none.2 (by intro p hp; simpa using h p hp)]; rfl
theorem alGet_at {β : Type} {l : List (ByteArray × β)} (hn : (alKeys l).Nodup) {j : Nat} {p : ByteArray × β} (h : l[j]? = some p) : alGet l p.1 = some p.2 := by
  induction l generalizing j with
  | nil => simp at h
  | cons a r ih =>
    simp only [alKeys, List.map_cons, List.nodup_cons] at hn
    cases j with
    | zero =>
      simp at h; subst h
      simp [alGet, List.find?_cons]
    | succ j =>
      simp at h
      have hm : p ∈ r := List.mem_of_getElem? h
      have hne : a.1 ≠ p.1 := fun e => hn.1 (by rw [e]; exact List.mem_map.2 ⟨p, hm, rfl⟩)
      have := ih hn.2 h
      simpa [alGet, List.find?_cons, hne] using this

theorem SMap.find {w : World} {m : Nat} {l : List (ByteArray × Value)} (h : SMap w m l) (s : ByteArray) : ∃ es clock, w.heap[m]? = some (.map es clock) ∧ Stamped es clock ∧ es.toList.map (fun e => (e.key, e.val)) = (l.map fun p => (Value.string p.1, p.2)) ∧
    ((Instr.findNow .string (.string s) es.toList 0 = some none ∧ (∀ x ∈ es.toList, x.key ≠ .string s) ∧ (∀ p ∈ l, p.1 ≠ s)) ∨
      ∃ (j : Nat) (e : MapEntry) (p : ByteArray × Value), Instr.findNow .string (.string s) es.toList 0 = some (some (j, e.val)) ∧ es.toList[j]? = some e ∧ e.key = .string s ∧ l[j]? = some p ∧ p.1 = s ∧ e.val = p.2) := by
  have hk := h
  obtain ⟨es, clock, hb, hs, hl⟩ := h
  refine ⟨es, clock, hb, hs, hl, ?_⟩
  rcases findNow_spec (d := .string) (k := .string s) trivial es.toList 0 (SMap.keys (w := w) (m := m) hl) with ⟨h1, h2⟩ | ⟨j, e, h1, h2, h3⟩
  · refine .inl ⟨h1, h2, fun p hp he => ?_⟩
    have : (Value.string p.1, p.2) ∈ l.map fun p => (Value.string p.1, p.2) := List.mem_map.2 ⟨p, hp, rfl⟩
    rw [← hl] at this
    obtain ⟨x, hx, hxe⟩ := List.mem_map.1 this
    exact h2 x hx (by have := congrArg Prod.fst hxe; simp only at this; rw [this, he])
  · refine .inr ?_
    have : (es.toList.map fun e => (e.key, e.val))[j]? = some (e.key, e.val) := by simp [h2]
    rw [hl] at this
    simp only [List.getElem?_map, Option.map_eq_some_iff] at this
    obtain ⟨p, hp, hpe⟩ := this
    have e1 : Value.string p.1 = e.key := congrArg Prod.fst hpe
    have e2 : p.2 = e.val := congrArg Prod.snd hpe
    rw [h3] at e1
    injection e1 with e1
    exact ⟨j, e, p, by simpa using h1, h2, h3, hp, e1, e2.symm⟩

section
variable {P : Program} {w : World} {m : Nat} {l : List (ByteArray × Value)} {t kt et : TypeId}
theorem SMap.lookup (h : SMap w m l) (ht : P.underlying t = some (.map kt et)) (hk : P.underlying kt = some .string) {z : Value} (hz : (zeroValue et).run P w = .ok z w) (s : ByteArray) :
    (Instr.lookup t (.map (some m)) (.string s) false).run P w = .ok ((alGet l s).getD z) w := by
  obtain ⟨es, clock, hb, hs, hl, hc⟩ := h.find s
  have hck := fun e => run_checkKey (P := P) (w := w) (k := .string s) hk trivial e 9999
  rcases hc with ⟨h1, _, h2⟩ | ⟨j, e, p, h1, h2, h3, h4, h5, h6⟩
  · rw [alGet_none h2]
    simp [Instr.lookup, run_underlying ht, MapKept.run_getObj_map hb, hck, run_findKey hk h1, hz, Result.andThen]
  · subst h5
    rw [alGet_at h.nodup h4]
    simp [Instr.lookup, run_underlying ht, MapKept.run_getObj_map hb, hck, run_findKey hk h1, hz, Result.andThen, h6]
theorem SMap.lookup_ok (h : SMap w m l) (ht : P.underlying t = some (.map kt et)) (hk : P.underlying kt = some .string) {z : Value} (hz : (zeroValue et).run P w = .ok z w) (s : ByteArray) :
    (Instr.lookup t (.map (some m)) (.string s) true).run P w = .ok (.tuple #[(alGet l s).getD z, .bool (alGet l s).isSome]) w := by
  obtain ⟨es, clock, hb, hs, hl, hc⟩ := h.find s
  have hck := fun e => run_checkKey (P := P) (w := w) (k := .string s) hk trivial e 9999
  rcases hc with ⟨h1, _, h2⟩ | ⟨j, e, p, h1, h2, h3, h4, h5, h6⟩
  · rw [alGet_none h2]
    simp [Instr.lookup, run_underlying ht, MapKept.run_getObj_map hb, hck, run_findKey hk h1, hz, Result.andThen]
  · subst h5
    rw [alGet_at h.nodup h4]
    simp [Instr.lookup, run_underlying ht, MapKept.run_getObj_map hb, hck, run_findKey hk h1, hz, Result.andThen, h6]

theorem any_false {β : Type} {l : List (ByteArray × β)} {s : ByteArray} (h : ∀ p ∈ l, p.1 ≠ s) : (l.any fun p => decide (p.1 = s)) = false := by
  rw [List.any_eq_false]; intro p hp; simpa using h p hp
theorem any_true {β : Type} {l : List (ByteArray × β)} {p : ByteArray × β} (h : p ∈ l) : (l.any fun q => decide (q.1 = p.1)) = true := List.any_eq_true.2 ⟨p, h, by simp⟩

/-- m[s] = v. -/
theorem SMap.update (h : SMap w m l) (ht : P.underlying t = some (.map kt et)) (hk : P.underlying kt = some .string) (s : ByteArray) (v : Value) :
    ∃ w', (Instr.mapUpdate t (.map (some m)) (.string s) v).run P w = .ok () w' ∧ SMap w' m (alSet l s v) ∧ Fr (fun b => b = m) w w' ∧ w'.heap.size = w.heap.size := by
  obtain ⟨es, clock, hb, hs, hl, hc⟩ := h.find s
  have hck := fun e => run_checkKey (P := P) (w := w) (k := .string s) hk trivial e 9999
  have hlt := lt_of_get hb
  have hks := run_keyThatStays (P := P) (w := w) (d := .string) (k := .string s) trivial
  rcases hc with ⟨h1, h1', h2⟩ | ⟨j, e, p, h1, h2, h3, h4, h5, h6⟩
  · refine ⟨ChangeMaps.setBlock w m (.map (es.push { key := .string s, val := v, born := clock }) (clock + 1)), ?_, ⟨es.push { key := .string s, val := v, born := clock }, clock + 1, ?_, stamped_push hs h1', ?_⟩, Fr.setBlock _ _ _, by simp [ChangeMaps.setBlock]⟩
    · simp [Instr.mapUpdate, run_underlying ht, MapKept.run_getObj_map hb, hck, run_findKey hk h1, MapKept.run_setObj_map _ hb, Result.andThen, ChangeMaps.setBlock]
    · simp [ChangeMaps.setBlock, hlt]
    · simp [alSet, any_false h2, hl]
  · have hj : es[j]? = some e := by simpa using h2
    have hmem : p ∈ l := List.mem_of_getElem? h4
    refine ⟨ChangeMaps.setBlock w m (.map (es.modify j fun e => { e with key := .string s, val := v }) clock), ?_, ⟨es.modify j fun e => { e with key := .string s, val := v }, clock, ?_, stamped_modify hs _ _ (fun _ _ => rfl) (fun e' _ he' => by rw [hj] at he'; cases he'; exact h3.symm), ?_⟩, Fr.setBlock _ _ _, by simp [ChangeMaps.setBlock]⟩
    · simp [Instr.mapUpdate, run_underlying ht, MapKept.run_getObj_map hb, hck, run_findKey hk h1, hj, h3, hks, MapKept.run_setObj_map _ hb, Result.andThen, ChangeMaps.setBlock]
    · simp [ChangeMaps.setBlock, hlt]
    · subst h5
      have ha : alSet l p.1 v = l.map fun q => if q.1 = p.1 then (p.1, v) else q := by
        unfold alSet; rw [if_pos (any_true hmem)]
      rw [ha]
      apply List.ext_getElem?
      intro i
      have hi := congrArg (fun L => L[i]?) hl
      simp only [List.getElem?_map] at hi
      simp only [List.getElem?_map, Array.getElem?_toList, Array.getElem?_modify]
      have hnd := h.nodup
      by_cases hij : j = i
      · subst hij
        rw [if_pos rfl, hj, h4]
        simp
      · rw [if_neg hij]
        cases hq : l[i]? with
        | none =>
          rw [hq] at hi
          simpa using hi
        | some q =>
          rw [hq] at hi
          have hne : q.1 ≠ p.1 := by
            intro he
            have hjl : j < l.length := (List.getElem?_eq_some_iff.1 h4).1
            have hil : i < l.length := (List.getElem?_eq_some_iff.1 hq).1
            have e1 : (alKeys l)[i]'(by simpa [alKeys] using hil) = (alKeys l)[j]'(by simpa [alKeys] using hjl) := by
              simp only [alKeys, List.getElem_map]
              rw [List.getElem?_eq_getElem hil] at hq
              rw [List.getElem?_eq_getElem hjl] at h4
              injection hq with hq; injection h4 with h4
              rw [hq, h4]; exact he
            exact hij ((List.getElem_inj hnd).1 e1).symm
          simpa [hne] using hi
/-- delete(m, s). -/
theorem SMap.delete {ty : TypeId} (h : SMap w m l) (ht : P.underlying t = some (.map kt et)) (hk : P.underlying kt = some .string) (s : ByteArray) :
    ∃ w', (Builtin.delete_ #[t, kt] ty #[.map (some m), .string s]).run P w = .ok (.tuple #[]) w' ∧ SMap w' m (alDel l s) ∧ Fr (fun b => b = m) w w' ∧ w'.heap.size = w.heap.size := by
  obtain ⟨es, clock, hb, hs, hl, hc⟩ := h.find s
  have hck := fun e => run_checkKey (P := P) (w := w) (k := .string s) hk trivial e 9999
  have hlt := lt_of_get hb
  rcases hc with ⟨h1, h1', h2⟩ | ⟨j, e, p, h1, h2, h3, h4, h5, h6⟩
  · refine ⟨ChangeMaps.setBlock w m (.map es clock), ?_, ⟨es, clock, ?_, hs, ?_⟩, Fr.setBlock _ _ _, by simp [ChangeMaps.setBlock]⟩
    · simp [Builtin.delete_, run_underlying ht, MapKept.run_getObj_map hb, hck, run_findKey hk h1, MapKept.run_setObj_map _ hb, Result.andThen, ChangeMaps.setBlock]
    · simp [ChangeMaps.setBlock, hlt]
    · rw [show alDel l s = l from List.filter_eq_self.2 (by intro q hq; simpa using h2 q hq)]; exact hl
  · refine ⟨ChangeMaps.setBlock w m (.map (es.eraseIdxIfInBounds j) clock), ?_, ⟨es.eraseIdxIfInBounds j, clock, ?_, stamped_erase hs j, ?_⟩, Fr.setBlock _ _ _, by simp [ChangeMaps.setBlock]⟩
    · simp [Builtin.delete_, run_underlying ht, MapKept.run_getObj_map hb, hck, run_findKey hk h1, MapKept.run_setObj_map _ hb, Result.andThen, ChangeMaps.setBlock]
    · simp [ChangeMaps.setBlock, hlt]
    · subst h5
      have hjs : j < es.size := by
        have := (List.getElem?_eq_some_iff.1 h2).1; simpa using this
      have e1 : (es.eraseIdxIfInBounds j).toList = es.toList.eraseIdx j := by
        unfold Array.eraseIdxIfInBounds; rw [dif_pos hjs, Array.toList_eraseIdx]
      have hnd := h.nodup
      have e2 : alDel l p.1 = l.eraseIdx j := by
        clear hl hs hb h2 h1 h hck e1 hjs
        induction l generalizing j with
        | nil => simp at h4
        | cons a r ih =>
          simp only [alKeys, List.map_cons, List.nodup_cons] at hnd
          cases j with
          | zero =>
            simp at h4; subst h4
            simp only [alDel, List.filter_cons, decide_true, Bool.not_true, Bool.false_eq_true, if_false, List.eraseIdx_zero, List.tail_cons]
            exact List.filter_eq_self.2 (by
              intro q hq
              have : q.1 ≠ a.1 := fun e => hnd.1 (by rw [← e]; exact List.mem_map.2 ⟨q, hq, rfl⟩)
              simpa using this)
          | succ j =>
            simp at h4
            have hne : a.1 ≠ p.1 := fun e => hnd.1 (by rw [e]; exact List.mem_map.2 ⟨p, List.mem_of_getElem? h4, rfl⟩)
            have := ih j h4 hnd.2
            simp only [alDel] at this
            simp [alDel, List.filter_cons, hne, this]
      rw [e1, e2, ChangeMaps.map_eraseIdx, hl, ← ChangeMaps.map_eraseIdx]
theorem SMap.made (w : World) : SMap (w.alloc (.map #[] 0)) w.heap.size [] := ⟨#[], 0, alloc_new _ _, stamped_empty 0, rfl⟩
/-- A copy of the map in a new block. -/
theorem SMap.copy (h : SMap w m l) : ∃ es clock, w.heap[m]? = some (.map es clock) ∧ SMap (w.alloc (.map es clock)) w.heap.size l := by
  obtain ⟨es, clock, hb, hs, hl⟩ := h
  exact ⟨es, clock, hb, es, clock, alloc_new _ _, hs, hl⟩
end
end Go.Proofs.XMaps
