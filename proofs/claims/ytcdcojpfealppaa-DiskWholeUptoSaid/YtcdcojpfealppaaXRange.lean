/- Going through a map whose keys are texts. -/
import Derived.Test.YtcdcojpfealppaaXCalls
import Derived.Maps.RangeRun
set_option linter.unusedVariables false
set_option linter.unusedSimpArgs false
namespace Go.Proofs.XRange
open Go Go.RowKit Go.Proofs.XRed Go.Proofs.XHeap Go.Proofs.XMaps Go.MapKept

def kv (p : ByteArray × Value) : Value × Value := (.string p.1, p.2)
/-- r goes through the map m, which is l; rest is still to come. -/
def Iter (w : World) (r m : Nat) (l rest : List (ByteArray × Value)) : Prop :=
  ∃ es clock seen since c0, w.heap[r]? = some (.mapIter (some m) since seen c0) ∧ w.heap[m]? = some (.map es clock) ∧ Stamped es clock ∧ (∀ x ∈ es.toList, x.born < since) ∧ since ≤ c0 ∧ since ≤ clock ∧ es.toList.map (fun e => (e.key, e.val)) = l.map kv ∧ (leftOf es seen).toList.map (fun e => (e.key, e.val)) = rest.map kv
theorem Iter.fr {O : Nat → Prop} {w w' : World} {r m : Nat} {l rest : List (ByteArray × Value)} (h : Iter w r m l rest) (hf : Fr O w w') (h1 : ¬ O r) (h2 : ¬ O m) : Iter w' r m l rest := by
  obtain ⟨es, clock, seen, since, c0, hr, hm, rest⟩ := h
  exact ⟨es, clock, seen, since, c0, hf.get hr h1, hf.get hm h2, rest⟩
theorem Iter.map {w : World} {r m : Nat} {l rest : List (ByteArray × Value)} (h : Iter w r m l rest) : SMap w m l := by
  obtain ⟨es, clock, seen, since, c0, hr, hm, hs, _, _, _, hl, _⟩ := h
  exact ⟨es, clock, hm, hs, hl⟩
theorem Iter.lt {w : World} {r m : Nat} {l rest : List (ByteArray × Value)} (h : Iter w r m l rest) : r < w.heap.size := by
  obtain ⟨es, clock, seen, since, c0, hr, _⟩ := h; exact lt_of_get hr
theorem Iter.ne {w : World} {r m : Nat} {l rest : List (ByteArray × Value)} (h : Iter w r m l rest) : r ≠ m := by
  obtain ⟨es, clock, seen, since, c0, hr, hm, _⟩ := h
  rintro rfl; rw [hr] at hm; cases hm
theorem Iter.obj {w : World} {r m : Nat} {l rest : List (ByteArray × Value)} (h : Iter w r m l rest) : ∃ a b c d, w.heap[r]? = some (.mapIter a b c d) := by
  obtain ⟨es, clock, seen, since, c0, hr, hm, _⟩ := h; exact ⟨_, _, _, _, hr⟩
theorem kv_inj {p q : ByteArray × Value} (h : kv p = kv q) : p = q := by
  simp only [kv, Prod.mk.injEq, Value.string.injEq] at h
  exact Prod.ext h.1 h.2

section
variable {P : Program} {w : World} {k : Value → World → Prop}
theorem s_range {t kt et : TypeId} {m : Nat} {l : List (ByteArray × Value)} (h : SMap w m l) (ht : P.underlying t = some (.map kt et)) (hk : ∀ w', Iter w' w.heap.size m l l → Fr (fun _ => False) w w' → w'.heap.size = w.heap.size + 1 → k (.pointer (some ⟨w.heap.size, 0, none⟩)) w') : px P (Instr.range t (.map (some m))) w k := by
  obtain ⟨es, clock, hm, hs, hl⟩ := h
  refine px_ok (run_range_map w t kt et m es clock ht hm) (hk _ ⟨es, clock, #[], clock, clock, alloc_new _ _, alloc_old _ hm, hs, hs.1, Nat.le_refl _, Nat.le_refl _, hl, ?_⟩ (Fr.alloc _ _ _) (by simp))
  have : leftOf es #[] = es := by unfold leftOf; simp
  rw [this]; exact hl
theorem s_next {r m : Nat} {ty : TypeId} {l rest : List (ByteArray × Value)} (h : Iter w r m l rest) (h0 : rest = [] → k (.tuple #[.bool false]) w)
    (h1 : ∀ p rest' w', rest.Perm (p :: rest') → Iter w' r m l rest' → Fr (fun b => b = r) w w' → w'.heap.size = w.heap.size → (∀ kk : Value → World → Prop, kk (.tuple #[.string p.1, p.2]) w' → px P (Instr.entry (.pointer (some ⟨r, 0, none⟩))) w' kk) → k (.tuple #[.bool true, .string p.1, p.2]) w') :
    px P (Instr.next (.pointer (some ⟨r, 0, none⟩)) false ty) w k := by
  have hne := h.ne
  obtain ⟨es, clock, seen, since, c0, hr, hm, hs, hold, hsc, hsk, hl, hrest⟩ := h
  rcases run_next_at (P := P) w ty r m since c0 seen es clock hr hm hold hsc with ⟨hz, hrun⟩ | ⟨e, he, w1, hw1, hrun⟩
  · refine px_ok hrun (h0 ?_)
    have : (leftOf es seen).toList = [] := List.eq_nil_of_length_eq_zero (by simpa using hz)
    rw [this] at hrest
    simp only [List.map_nil] at hrest
    exact List.map_eq_nil_iff.1 hrest.symm
  · have hmem := mem_left he
    -- which of the pairs it is
    have hin : (e.key, e.val) ∈ rest.map kv := by rw [← hrest]; exact List.mem_map_of_mem he
    obtain ⟨p, hp, hpe⟩ := List.mem_map.1 hin
    have hpk : e.key = .string p.1 ∧ e.val = p.2 := by
      have := hpe.symm
      simp only [kv, Prod.mk.injEq] at this
      exact this
    have hw1h : w1.heap = w.heap := by rcases hw1 with rfl | rfl <;> rfl
    have hl1 : r < w1.heap.size := by rw [hw1h]; exact lt_of_get hr
    have hg : (ChangeMaps.setBlock w1 r (.mapIter (some m) since (seen.push e.born) clock)).heap[r]? = some (.mapIter (some m) since (seen.push e.born) clock) := by
      simp [ChangeMaps.setBlock, hl1]
    have f1 : Fr (fun b => b = r) w (ChangeMaps.setBlock w1 r (.mapIter (some m) since (seen.push e.born) clock)) := by
      have f0 : Fr (fun _ => False) w w1 := by rcases hw1 with rfl | rfl; exact Fr.refl _ _; exact Fr.drew _ _
      exact (f0.or (Fr.setBlock w1 r _)).mono fun b hb => hb.elim (fun h => h.elim) .inl
    have hm1 := f1.get hm (fun e => hne e.symm)
    rw [hpk.1, hpk.2] at hrun
    -- the entries that are left
    have hnb : (es.toList.map (·.born)).Nodup := hs.2.1
    have hleft : (leftOf es (seen.push e.born)).toList = (leftOf es seen).toList.filter fun x => !(x.born == e.born) := by
      unfold leftOf
      simp only [Array.toList_filter, List.filter_filter]
      refine List.filter_congr fun x _ => ?_
      rw [contains_push, Bool.not_or, Bool.and_comm]
    have hnl : ((leftOf es seen).toList.map (·.born)).Nodup := by
      unfold leftOf
      rw [Array.toList_filter]
      exact hnb.sublist (List.Sublist.map _ List.filter_sublist)
    have hperm : (leftOf es seen).toList.Perm (e :: (leftOf es (seen.push e.born)).toList) := by
      rw [hleft]
      generalize (leftOf es seen).toList = L at he hnl
      clear hrest hin hleft hrun
      induction L with
      | nil => cases he
      | cons x L ih =>
        simp only [List.map_cons, List.nodup_cons] at hnl
        by_cases hx : x.born = e.born
        · have hxe : x = e := by
            cases he with
            | head => rfl
            | tail _ hm' => exact absurd (List.mem_map_of_mem (f := (·.born)) hm') (by rw [← hx]; exact hnl.1)
          subst hxe
          rw [List.filter_cons_of_neg (by simp)]
          have : L.filter (fun y => !(y.born == x.born)) = L := by
            rw [List.filter_eq_self]
            intro y hy
            have : y.born ≠ x.born := fun h => hnl.1 (by rw [← h]; exact List.mem_map_of_mem hy)
            simp [this]
          rw [this]
        · rw [List.filter_cons_of_pos (by simp [hx])]
          have he' : e ∈ L := by
            cases he with
            | head => exact absurd rfl hx
            | tail _ h => exact h
          exact (List.Perm.cons x (ih he' hnl.2)).trans (List.Perm.swap ..)
    have hperm2 := hperm.map fun e => (e.key, e.val)
    rw [hrest, List.map_cons, hpk.1, hpk.2] at hperm2
    -- .. as pairs
    let back : Value × Value → ByteArray × Value := fun q => (match q.1 with | .string s => s | _ => ByteArray.empty, q.2)
    have hback : ∀ q, back (kv q) = q := fun q => rfl
    have hall : ∀ x ∈ (leftOf es (seen.push e.born)).toList, kv (back (x.key, x.val)) = (x.key, x.val) := by
      intro x hx
      have hx' : x ∈ (leftOf es seen).toList := by rw [hleft] at hx; exact (List.mem_filter.1 hx).1
      have : (x.key, x.val) ∈ rest.map kv := by rw [← hrest]; exact List.mem_map_of_mem (f := fun e : MapEntry => (e.key, e.val)) hx'
      obtain ⟨q, _, hq⟩ := List.mem_map.1 this
      rw [← hq, hback]
    have hr2 : (leftOf es (seen.push e.born)).toList.map (fun e => (e.key, e.val)) = ((leftOf es (seen.push e.born)).toList.map fun e => back (e.key, e.val)).map kv := by
      rw [List.map_map]
      exact List.map_congr_left fun x hx => (hall x hx).symm
    refine px_ok hrun (h1 p ((leftOf es (seen.push e.born)).toList.map fun e => back (e.key, e.val)) _ ?_ ⟨es, clock, seen.push e.born, since, clock, hg, hm1, hs, hold, hsk, hsk, hl, hr2⟩ f1 (by simp [ChangeMaps.setBlock, hw1h]) ?_)
    · have h3 := hperm2.map back
      simp only [List.map_map, List.map_cons] at h3
      have h4 : rest.map (back ∘ kv) = rest := (List.map_congr_left (g := id) (fun q _ => hback q)).trans (List.map_id _)
      rw [h4] at h3
      exact h3
    · intro kk hkk
      have := run_entry_at (P := P) _ r m since seen es clock e hg hm1 hmem.1 hnb
      rw [hpk.1, hpk.2] at this
      exact px_ok this hkk
end
end Go.Proofs.XRange
