/- Put together by a program (wip/tools/shake.py): XRange,Steps. -/
import Derived.Test.YtcdcojpfealppaaGreatY3
import Derived.Maps.RangeRun
import Derived.Test.YtcdcojpfealppaaGreatProg
import Derived.Carry
set_option linter.unusedVariables false
set_option linter.unusedSimpArgs false
namespace Go.Proofs.XRange
open Go Go.RowKit Go.Proofs.XRed Go.Proofs.XHeap Go.Proofs.XMaps Go.MapKept
def kv (p:ByteArray × Value) : Value × Value := (.string p.1,p.2)
def Iter (w:World) (r m:Nat) (l rest:List (ByteArray × Value)) : Prop :=
 ∃ es clock seen since c0,w.heap[r]? = some (.mapIter (some m) since seen c0) ∧ w.heap[m]? = some (.map es clock) ∧ Stamped es clock ∧ (∀ x ∈ es.toList,x.born < since) ∧ since ≤ c0 ∧ since ≤ clock ∧ es.toList.map (fun e => (e.key,e.val)) = l.map kv ∧ (leftOf es seen).toList.map (fun e => (e.key,e.val)) = rest.map kv
theorem Iter.fr {O:Nat → Prop} {w w':World} {r m:Nat} {l rest:List (ByteArray × Value)} (h:Iter w r m l rest) (hf:Fr O w w') (h1:¬ O r) (h2:¬ O m) : Iter w' r m l rest := by
 obtain ⟨es,clock,seen,since,c0,hr,hm,rest⟩ := h
 exact ⟨es,clock,seen,since,c0,hf.get hr h1,hf.get hm h2,rest⟩
theorem Iter.ne {w:World} {r m:Nat} {l rest:List (ByteArray × Value)} (h:Iter w r m l rest) : r ≠ m := by
 obtain ⟨es,clock,seen,since,c0,hr,hm,_⟩ := h
 rintro rfl; rw [hr] at hm; cases hm
theorem Iter.obj {w:World} {r m:Nat} {l rest:List (ByteArray × Value)} (h:Iter w r m l rest) : ∃ a b c d,w.heap[r]? = some (.mapIter a b c d) := by
 obtain ⟨es,clock,seen,since,c0,hr,hm,_⟩ := h; exact ⟨_,_,_,_,hr⟩
section
variable {P:Program} {w:World} {k:KV}
theorem s_range {t kt et:TypeId} {m:Nat} {l:List (ByteArray × Value)} (h:SMap w m l) (ht:P.underlying t = some (.map kt et)) (hk:∀ w',Iter w' w.heap.size m l l → Fr (fun _ => False) w w' → w'.heap.size = w.heap.size + 1 → k (.pointer (some ⟨w.heap.size,0,none⟩)) w') : px P (Instr.range t (.map (some m))) w k := by
 obtain ⟨es,clock,hm,hs,hl⟩ := h
 refine px_ok (run_range_map w t kt et m es clock ht hm) (hk _ ⟨es,clock,#[],clock,clock,alloc_new _ _,alloc_old _ hm,hs,hs.1,Nat.le_refl _,Nat.le_refl _,hl,?_⟩ (Fr.alloc _ _ _) (by simp))
 have : leftOf es #[] = es := by unfold leftOf; simp
 rw [this]; exact hl
theorem s_next {r m:Nat} {ty:TypeId} {l rest:List (ByteArray × Value)} (h:Iter w r m l rest) (h0:rest = [] → k (.tuple #[.bool false]) w)
    (h1:∀ p rest' w',rest.Perm (p :: rest') → Iter w' r m l rest' → Fr (fun b => b = r) w w' → w'.heap.size = w.heap.size → (∀ kk : KV,kk (.tuple #[.string p.1,p.2]) w' → px P (Instr.entry (.pointer (some ⟨r,0,none⟩))) w' kk) → k (.tuple #[.bool true,.string p.1,p.2]) w') :
    px P (Instr.next (.pointer (some ⟨r,0,none⟩)) false ty) w k := by
  have hne := h.ne
  obtain ⟨es,clock,seen,since,c0,hr,hm,hs,hold,hsc,hsk,hl,hrest⟩ := h
  rcases run_next_at (P := P) w ty r m since c0 seen es clock hr hm hold hsc with ⟨hz,hrun⟩ | ⟨e,he,w1,hw1,hrun⟩
  · refine px_ok hrun (h0 ?_)
    have : (leftOf es seen).toList = [] := List.eq_nil_of_length_eq_zero (by simpa using hz)
    rw [this] at hrest
    simp only [List.map_nil] at hrest
    exact List.map_eq_nil_iff.1 hrest.symm
  · have hmem := mem_left he
    -- which of the pairs it is
    have hin : (e.key,e.val) ∈ rest.map kv := by rw [← hrest]; exact List.mem_map_of_mem he
    obtain ⟨p,hp,hpe⟩ := List.mem_map.1 hin
    have hpk : e.key = .string p.1 ∧ e.val = p.2 := by
      have := hpe.symm
      simp only [kv,Prod.mk.injEq] at this
      exact this
    have hw1h : w1.heap = w.heap := by rcases hw1 with rfl | rfl <;> rfl
    have hl1 : r < w1.heap.size := by rw [hw1h]; exact lt_of_get hr
    have hg : (ChangeMaps.setBlock w1 r (.mapIter (some m) since (seen.push e.born) clock)).heap[r]? = some (.mapIter (some m) since (seen.push e.born) clock) := by
      simp [ChangeMaps.setBlock,hl1]
    have f1 : Fr (fun b => b = r) w (ChangeMaps.setBlock w1 r (.mapIter (some m) since (seen.push e.born) clock)) := by
      have f0 : Fr (fun _ => False) w w1 := by rcases hw1 with rfl | rfl; exact Fr.refl _ _; exact Fr.drew _ _
      exact (f0.or (Fr.setBlock w1 r _)).mono fun b hb => hb.elim (fun h => h.elim) .inl
    have hm1 := f1.get hm (fun e => hne e.symm)
    rw [hpk.1,hpk.2] at hrun
    -- the entries that are left
    have hnb : (es.toList.map (·.born)).Nodup := hs.2.1
    have hleft : (leftOf es (seen.push e.born)).toList = (leftOf es seen).toList.filter fun x => !(x.born == e.born) := by
      unfold leftOf
      simp only [Array.toList_filter,List.filter_filter]
      refine List.filter_congr fun x _ => ?_
      rw [contains_push,Bool.not_or,Bool.and_comm]
    have hnl : ((leftOf es seen).toList.map (·.born)).Nodup := by
      unfold leftOf
      rw [Array.toList_filter]
      exact hnb.sublist (List.Sublist.map _ List.filter_sublist)
    have hperm : (leftOf es seen).toList.Perm (e :: (leftOf es (seen.push e.born)).toList) := by
      rw [hleft]
      generalize (leftOf es seen).toList = L at he hnl
      clear hrest hin hleft hrun
      induction L with
      | nil => cases he
      | cons x L ih =>
        simp only [List.map_cons,List.nodup_cons] at hnl
        by_cases hx : x.born = e.born
        · have hxe : x = e := by
            cases he with
            | head => rfl
            | tail _ hm' => exact absurd (List.mem_map_of_mem (f := (·.born)) hm') (by rw [← hx]; exact hnl.1)
          subst hxe
          rw [List.filter_cons_of_neg (by simp)]
          have : L.filter (fun y => !(y.born == x.born)) = L := by
            rw [List.filter_eq_self]
            intro y hy
            have : y.born ≠ x.born := fun h => hnl.1 (by rw [← h]; exact List.mem_map_of_mem hy)
            simp [this]
          rw [this]
        · rw [List.filter_cons_of_pos (by simp [hx])]
          have he' : e ∈ L := by
            cases he with
            | head => exact absurd rfl hx
            | tail _ h => exact h
          exact (List.Perm.cons x (ih he' hnl.2)).trans (List.Perm.swap ..)
    have hperm2 := hperm.map fun e => (e.key,e.val)
    rw [hrest,List.map_cons,hpk.1,hpk.2] at hperm2
    -- .. as pairs
    let back : Value × Value → ByteArray × Value := fun q => (match q.1 with | .string s => s | _ => ByteArray.empty,q.2)
    have hback : ∀ q,back (kv q) = q := fun q => rfl
    have hall : ∀ x ∈ (leftOf es (seen.push e.born)).toList,kv (back (x.key,x.val)) = (x.key,x.val) := by
      intro x hx
      have hx' : x ∈ (leftOf es seen).toList := by rw [hleft] at hx; exact (List.mem_filter.1 hx).1
      have : (x.key,x.val) ∈ rest.map kv := by rw [← hrest]; exact List.mem_map_of_mem (f := fun e : MapEntry => (e.key,e.val)) hx'
      obtain ⟨q,_,hq⟩ := List.mem_map.1 this
      rw [← hq,hback]
    have hr2 : (leftOf es (seen.push e.born)).toList.map (fun e => (e.key,e.val)) = ((leftOf es (seen.push e.born)).toList.map fun e => back (e.key,e.val)).map kv := by
      rw [List.map_map]
      exact List.map_congr_left fun x hx => (hall x hx).symm
    refine px_ok hrun (h1 p ((leftOf es (seen.push e.born)).toList.map fun e => back (e.key,e.val)) _ ?_ ⟨es,clock,seen.push e.born,since,clock,hg,hm1,hs,hold,hsk,hsk,hl,hr2⟩ f1 (by simp [ChangeMaps.setBlock,hw1h]) ?_)
    · have h3 := hperm2.map back
      simp only [List.map_map,List.map_cons] at h3
      have h4 : rest.map (back ∘ kv) = rest := (List.map_congr_left (g := id) (fun q _ => hback q)).trans (List.map_id _)
      rw [h4] at h3
      exact h3
    · intro kk hkk
      have := run_entry_at (P := P) _ r m since seen es clock e hg hm1 hmem.1 hnb
      rw [hpk.1,hpk.2] at this
      exact px_ok this hkk
end
end Go.Proofs.XRange

set_option maxRecDepth 100000
namespace Go.Proofs.YtcdcojpfealppaaGreat
open Go Go.Proofs Go.RowKit Go.Proofs.XRed Go.Proofs.XHeap Go.Proofs.XMaps Go.Proofs.XSlices Tryz
section
variable {w:World} {k:KV}
theorem fa33_0 {b o:Nat} (hk:k (.pointer (some ⟨b,o + 0,none⟩)) w) : px prog (Instr.fieldAt 33 (.pointer (some ⟨b,o,none⟩)) 0) w k :=
 s_fa 29 0 (runUnderlying33 w) (by kernel_rfl) (sizeOf29 w) (by decide) hk
theorem fa33_1 {b o:Nat} (hk:k (.pointer (some ⟨b,o + 1,none⟩)) w) : px prog (Instr.fieldAt 33 (.pointer (some ⟨b,o,none⟩)) 1) w k :=
 s_fa 30 1 (runUnderlying33 w) (by kernel_rfl) (sizeOf30 w) (by decide) hk
theorem fa33_2 {b o:Nat} (hk:k (.pointer (some ⟨b,o + 2,none⟩)) w) : px prog (Instr.fieldAt 33 (.pointer (some ⟨b,o,none⟩)) 2) w k :=
 s_fa 31 2 (runUnderlying33 w) (by kernel_rfl) (sizeOf31 w) (by decide) hk
theorem fa38_0 {b o:Nat} (hk:k (.pointer (some ⟨b,o + 0,none⟩)) w) : px prog (Instr.fieldAt 38 (.pointer (some ⟨b,o,none⟩)) 0) w k :=
 s_fa 3 0 (runUnderlying38 w) (by kernel_rfl) (sizeOf3 w) (by decide) hk
theorem fa38_1 {b o:Nat} (hk:k (.pointer (some ⟨b,o + 1,none⟩)) w) : px prog (Instr.fieldAt 38 (.pointer (some ⟨b,o,none⟩)) 1) w k :=
 s_fa 3 1 (runUnderlying38 w) (by kernel_rfl) (sizeOf3 w) (by decide) hk
theorem fa38_2 {b o:Nat} (hk:k (.pointer (some ⟨b,o + 2,none⟩)) w) : px prog (Instr.fieldAt 38 (.pointer (some ⟨b,o,none⟩)) 2) w k :=
 s_fa 3 2 (runUnderlying38 w) (by kernel_rfl) (sizeOf3 w) (by decide) hk
theorem fa41_0 {b o:Nat} (hk:k (.pointer (some ⟨b,o + 0,none⟩)) w) : px prog (Instr.fieldAt 41 (.pointer (some ⟨b,o,none⟩)) 0) w k :=
 s_fa 3 0 (runUnderlying41 w) (by kernel_rfl) (sizeOf3 w) (by decide) hk
theorem fa41_1 {b o:Nat} (hk:k (.pointer (some ⟨b,o + 1,none⟩)) w) : px prog (Instr.fieldAt 41 (.pointer (some ⟨b,o,none⟩)) 1) w k :=
 s_fa 9 1 (runUnderlying41 w) (by kernel_rfl) (sizeOf9 w) (by decide) hk
theorem fa41_2 {b o:Nat} (hk:k (.pointer (some ⟨b,o + 2,none⟩)) w) : px prog (Instr.fieldAt 41 (.pointer (some ⟨b,o,none⟩)) 2) w k :=
 s_fa 9 2 (runUnderlying41 w) (by kernel_rfl) (sizeOf9 w) (by decide) hk
theorem fa41_3 {b o:Nat} (hk:k (.pointer (some ⟨b,o + 3,none⟩)) w) : px prog (Instr.fieldAt 41 (.pointer (some ⟨b,o,none⟩)) 3) w k :=
 s_fa 3 3 (runUnderlying41 w) (by kernel_rfl) (sizeOf3 w) (by decide) hk
theorem fa41_4 {b o:Nat} (hk:k (.pointer (some ⟨b,o + 4,none⟩)) w) : px prog (Instr.fieldAt 41 (.pointer (some ⟨b,o,none⟩)) 4) w k :=
 s_fa 3 4 (runUnderlying41 w) (by kernel_rfl) (sizeOf3 w) (by decide) hk
theorem fa41_5 {b o:Nat} (hk:k (.pointer (some ⟨b,o + 5,none⟩)) w) : px prog (Instr.fieldAt 41 (.pointer (some ⟨b,o,none⟩)) 5) w k :=
 s_fa 36 5 (runUnderlying41 w) (by kernel_rfl) (sizeOf36 w) (by decide) hk
theorem fa41_6 {b o:Nat} (hk:k (.pointer (some ⟨b,o + 6,none⟩)) w) : px prog (Instr.fieldAt 41 (.pointer (some ⟨b,o,none⟩)) 6) w k :=
 s_fa 38 6 (runUnderlying41 w) (by kernel_rfl) (sizeOf38 w) (by decide) hk
theorem fa41_7 {b o:Nat} (hk:k (.pointer (some ⟨b,o + 9,none⟩)) w) : px prog (Instr.fieldAt 41 (.pointer (some ⟨b,o,none⟩)) 7) w k :=
 s_fa 39 9 (runUnderlying41 w) (by kernel_rfl) (sizeOf39 w) (by decide) hk
theorem fa51_0 {b o:Nat} (hk:k (.pointer (some ⟨b,o + 0,none⟩)) w) : px prog (Instr.fieldAt 51 (.pointer (some ⟨b,o,none⟩)) 0) w k :=
 s_fa 36 0 (runUnderlying51 w) (by kernel_rfl) (sizeOf36 w) (by decide) hk
theorem fa51_1 {b o:Nat} (hk:k (.pointer (some ⟨b,o + 1,none⟩)) w) : px prog (Instr.fieldAt 51 (.pointer (some ⟨b,o,none⟩)) 1) w k :=
 s_fa 39 1 (runUnderlying51 w) (by kernel_rfl) (sizeOf39 w) (by decide) hk
theorem fa58_0 {b o:Nat} (hk:k (.pointer (some ⟨b,o + 0,none⟩)) w) : px prog (Instr.fieldAt 58 (.pointer (some ⟨b,o,none⟩)) 0) w k :=
 s_fa 3 0 (runUnderlying58 w) (by kernel_rfl) (sizeOf3 w) (by decide) hk
theorem fa58_1 {b o:Nat} (hk:k (.pointer (some ⟨b,o + 1,none⟩)) w) : px prog (Instr.fieldAt 58 (.pointer (some ⟨b,o,none⟩)) 1) w k :=
 s_fa 54 1 (runUnderlying58 w) (by kernel_rfl) (sizeOf54 w) (by decide) hk
theorem fa58_2 {b o:Nat} (hk:k (.pointer (some ⟨b,o + 2,none⟩)) w) : px prog (Instr.fieldAt 58 (.pointer (some ⟨b,o,none⟩)) 2) w k :=
 s_fa 54 2 (runUnderlying58 w) (by kernel_rfl) (sizeOf54 w) (by decide) hk
theorem fa58_3 {b o:Nat} (hk:k (.pointer (some ⟨b,o + 3,none⟩)) w) : px prog (Instr.fieldAt 58 (.pointer (some ⟨b,o,none⟩)) 3) w k :=
 s_fa 55 3 (runUnderlying58 w) (by kernel_rfl) (sizeOf55 w) (by decide) hk
theorem fa58_4 {b o:Nat} (hk:k (.pointer (some ⟨b,o + 4,none⟩)) w) : px prog (Instr.fieldAt 58 (.pointer (some ⟨b,o,none⟩)) 4) w k :=
 s_fa 3 4 (runUnderlying58 w) (by kernel_rfl) (sizeOf3 w) (by decide) hk
theorem fa58_5 {b o:Nat} (hk:k (.pointer (some ⟨b,o + 5,none⟩)) w) : px prog (Instr.fieldAt 58 (.pointer (some ⟨b,o,none⟩)) 5) w k :=
 s_fa 38 5 (runUnderlying58 w) (by kernel_rfl) (sizeOf38 w) (by decide) hk
theorem fa58_6 {b o:Nat} (hk:k (.pointer (some ⟨b,o + 8,none⟩)) w) : px prog (Instr.fieldAt 58 (.pointer (some ⟨b,o,none⟩)) 6) w k :=
 s_fa 3 8 (runUnderlying58 w) (by kernel_rfl) (sizeOf3 w) (by decide) hk
theorem fa58_7 {b o:Nat} (hk:k (.pointer (some ⟨b,o + 9,none⟩)) w) : px prog (Instr.fieldAt 58 (.pointer (some ⟨b,o,none⟩)) 7) w k :=
 s_fa 4 9 (runUnderlying58 w) (by kernel_rfl) (sizeOf4 w) (by decide) hk
theorem fa58_8 {b o:Nat} (hk:k (.pointer (some ⟨b,o + 10,none⟩)) w) : px prog (Instr.fieldAt 58 (.pointer (some ⟨b,o,none⟩)) 8) w k :=
 s_fa 56 10 (runUnderlying58 w) (by kernel_rfl) (sizeOf56 w) (by decide) hk
theorem fa62_0 {b o:Nat} (hk:k (.pointer (some ⟨b,o + 0,none⟩)) w) : px prog (Instr.fieldAt 62 (.pointer (some ⟨b,o,none⟩)) 0) w k :=
 s_fa 4 0 (runUnderlying62 w) (by kernel_rfl) (sizeOf4 w) (by decide) hk
theorem fa62_1 {b o:Nat} (hk:k (.pointer (some ⟨b,o + 1,none⟩)) w) : px prog (Instr.fieldAt 62 (.pointer (some ⟨b,o,none⟩)) 1) w k :=
 s_fa 3 1 (runUnderlying62 w) (by kernel_rfl) (sizeOf3 w) (by decide) hk
theorem fa62_2 {b o:Nat} (hk:k (.pointer (some ⟨b,o + 2,none⟩)) w) : px prog (Instr.fieldAt 62 (.pointer (some ⟨b,o,none⟩)) 2) w k :=
 s_fa 59 2 (runUnderlying62 w) (by kernel_rfl) (sizeOf59 w) (by decide) hk
theorem fa62_3 {b o:Nat} (hk:k (.pointer (some ⟨b,o + 3,none⟩)) w) : px prog (Instr.fieldAt 62 (.pointer (some ⟨b,o,none⟩)) 3) w k :=
 s_fa 59 3 (runUnderlying62 w) (by kernel_rfl) (sizeOf59 w) (by decide) hk
theorem fa62_4 {b o:Nat} (hk:k (.pointer (some ⟨b,o + 4,none⟩)) w) : px prog (Instr.fieldAt 62 (.pointer (some ⟨b,o,none⟩)) 4) w k :=
 s_fa 60 4 (runUnderlying62 w) (by kernel_rfl) (sizeOf60 w) (by decide) hk
theorem fa62_5 {b o:Nat} (hk:k (.pointer (some ⟨b,o + 5,none⟩)) w) : px prog (Instr.fieldAt 62 (.pointer (some ⟨b,o,none⟩)) 5) w k :=
 s_fa 3 5 (runUnderlying62 w) (by kernel_rfl) (sizeOf3 w) (by decide) hk
theorem fa62_6 {b o:Nat} (hk:k (.pointer (some ⟨b,o + 6,none⟩)) w) : px prog (Instr.fieldAt 62 (.pointer (some ⟨b,o,none⟩)) 6) w k :=
 s_fa 3 6 (runUnderlying62 w) (by kernel_rfl) (sizeOf3 w) (by decide) hk
theorem fa62_7 {b o:Nat} (hk:k (.pointer (some ⟨b,o + 7,none⟩)) w) : px prog (Instr.fieldAt 62 (.pointer (some ⟨b,o,none⟩)) 7) w k :=
 s_fa 38 7 (runUnderlying62 w) (by kernel_rfl) (sizeOf38 w) (by decide) hk
theorem fa62_8 {b o:Nat} (hk:k (.pointer (some ⟨b,o + 10,none⟩)) w) : px prog (Instr.fieldAt 62 (.pointer (some ⟨b,o,none⟩)) 8) w k :=
 s_fa 56 10 (runUnderlying62 w) (by kernel_rfl) (sizeOf56 w) (by decide) hk
theorem fa83_0 {b o:Nat} (hk:k (.pointer (some ⟨b,o + 0,none⟩)) w) : px prog (Instr.fieldAt 83 (.pointer (some ⟨b,o,none⟩)) 0) w k :=
 s_fa 9 0 (runUnderlying83 w) (by kernel_rfl) (sizeOf9 w) (by decide) hk
theorem fa83_1 {b o:Nat} (hk:k (.pointer (some ⟨b,o + 1,none⟩)) w) : px prog (Instr.fieldAt 83 (.pointer (some ⟨b,o,none⟩)) 1) w k :=
 s_fa 36 1 (runUnderlying83 w) (by kernel_rfl) (sizeOf36 w) (by decide) hk
theorem fa124_0 {b o:Nat} (hk:k (.pointer (some ⟨b,o + 0,none⟩)) w) : px prog (Instr.fieldAt 124 (.pointer (some ⟨b,o,none⟩)) 0) w k :=
 s_fa 36 0 (runUnderlying124 w) (by kernel_rfl) (sizeOf36 w) (by decide) hk
theorem fa124_1 {b o:Nat} (hk:k (.pointer (some ⟨b,o + 1,none⟩)) w) : px prog (Instr.fieldAt 124 (.pointer (some ⟨b,o,none⟩)) 1) w k :=
 s_fa 36 1 (runUnderlying124 w) (by kernel_rfl) (sizeOf36 w) (by decide) hk
theorem fa124_2 {b o:Nat} (hk:k (.pointer (some ⟨b,o + 2,none⟩)) w) : px prog (Instr.fieldAt 124 (.pointer (some ⟨b,o,none⟩)) 2) w k :=
 s_fa 122 2 (runUnderlying124 w) (by kernel_rfl) (sizeOf122 w) (by decide) hk
theorem fa126_0 {b o:Nat} (hk:k (.pointer (some ⟨b,o + 0,none⟩)) w) : px prog (Instr.fieldAt 126 (.pointer (some ⟨b,o,none⟩)) 0) w k :=
 s_fa 9 0 (runUnderlying126 w) (by kernel_rfl) (sizeOf9 w) (by decide) hk
theorem fa126_1 {b o:Nat} (hk:k (.pointer (some ⟨b,o + 1,none⟩)) w) : px prog (Instr.fieldAt 126 (.pointer (some ⟨b,o,none⟩)) 1) w k :=
 s_fa 117 1 (runUnderlying126 w) (by kernel_rfl) (sizeOf117 w) (by decide) hk
theorem fa144_0 {b o:Nat} (hk:k (.pointer (some ⟨b,o + 0,none⟩)) w) : px prog (Instr.fieldAt 144 (.pointer (some ⟨b,o,none⟩)) 0) w k :=
 s_fa 9 0 (runUnderlying144 w) (by kernel_rfl) (sizeOf9 w) (by decide) hk
theorem fa144_1 {b o:Nat} (hk:k (.pointer (some ⟨b,o + 1,none⟩)) w) : px prog (Instr.fieldAt 144 (.pointer (some ⟨b,o,none⟩)) 1) w k :=
 s_fa 142 1 (runUnderlying144 w) (by kernel_rfl) (sizeOf142 w) (by decide) hk
theorem fa146_0 {b o:Nat} (hk:k (.pointer (some ⟨b,o + 0,none⟩)) w) : px prog (Instr.fieldAt 146 (.pointer (some ⟨b,o,none⟩)) 0) w k :=
 s_fa 3 0 (runUnderlying146 w) (by kernel_rfl) (sizeOf3 w) (by decide) hk
theorem fa146_1 {b o:Nat} (hk:k (.pointer (some ⟨b,o + 1,none⟩)) w) : px prog (Instr.fieldAt 146 (.pointer (some ⟨b,o,none⟩)) 1) w k :=
 s_fa 9 1 (runUnderlying146 w) (by kernel_rfl) (sizeOf9 w) (by decide) hk
theorem fa146_2 {b o:Nat} (hk:k (.pointer (some ⟨b,o + 2,none⟩)) w) : px prog (Instr.fieldAt 146 (.pointer (some ⟨b,o,none⟩)) 2) w k :=
 s_fa 9 2 (runUnderlying146 w) (by kernel_rfl) (sizeOf9 w) (by decide) hk
theorem fa146_3 {b o:Nat} (hk:k (.pointer (some ⟨b,o + 3,none⟩)) w) : px prog (Instr.fieldAt 146 (.pointer (some ⟨b,o,none⟩)) 3) w k :=
 s_fa 142 3 (runUnderlying146 w) (by kernel_rfl) (sizeOf142 w) (by decide) hk
theorem fa156_0 {b o:Nat} (hk:k (.pointer (some ⟨b,o + 0,none⟩)) w) : px prog (Instr.fieldAt 156 (.pointer (some ⟨b,o,none⟩)) 0) w k :=
 s_fa 36 0 (runUnderlying156 w) (by kernel_rfl) (sizeOf36 w) (by decide) hk
theorem fa156_1 {b o:Nat} (hk:k (.pointer (some ⟨b,o + 1,none⟩)) w) : px prog (Instr.fieldAt 156 (.pointer (some ⟨b,o,none⟩)) 1) w k :=
 s_fa 36 1 (runUnderlying156 w) (by kernel_rfl) (sizeOf36 w) (by decide) hk
theorem fa156_2 {b o:Nat} (hk:k (.pointer (some ⟨b,o + 2,none⟩)) w) : px prog (Instr.fieldAt 156 (.pointer (some ⟨b,o,none⟩)) 2) w k :=
 s_fa 154 2 (runUnderlying156 w) (by kernel_rfl) (sizeOf154 w) (by decide) hk
theorem fa172_0 {b o:Nat} (hk:k (.pointer (some ⟨b,o + 0,none⟩)) w) : px prog (Instr.fieldAt 172 (.pointer (some ⟨b,o,none⟩)) 0) w k :=
 s_fa 9 0 (runUnderlying172 w) (by kernel_rfl) (sizeOf9 w) (by decide) hk
theorem fa172_1 {b o:Nat} (hk:k (.pointer (some ⟨b,o + 1,none⟩)) w) : px prog (Instr.fieldAt 172 (.pointer (some ⟨b,o,none⟩)) 1) w k :=
 s_fa 9 1 (runUnderlying172 w) (by kernel_rfl) (sizeOf9 w) (by decide) hk
theorem fa184_0 {b o:Nat} (hk:k (.pointer (some ⟨b,o + 0,none⟩)) w) : px prog (Instr.fieldAt 184 (.pointer (some ⟨b,o,none⟩)) 0) w k :=
 s_fa 3 0 (runUnderlying184 w) (by kernel_rfl) (sizeOf3 w) (by decide) hk
theorem fa184_1 {b o:Nat} (hk:k (.pointer (some ⟨b,o + 1,none⟩)) w) : px prog (Instr.fieldAt 184 (.pointer (some ⟨b,o,none⟩)) 1) w k :=
 s_fa 36 1 (runUnderlying184 w) (by kernel_rfl) (sizeOf36 w) (by decide) hk
theorem fa186_0 {b o:Nat} (hk:k (.pointer (some ⟨b,o + 0,none⟩)) w) : px prog (Instr.fieldAt 186 (.pointer (some ⟨b,o,none⟩)) 0) w k :=
 s_fa 4 0 (runUnderlying186 w) (by kernel_rfl) (sizeOf4 w) (by decide) hk
theorem fa186_1 {b o:Nat} (hk:k (.pointer (some ⟨b,o + 1,none⟩)) w) : px prog (Instr.fieldAt 186 (.pointer (some ⟨b,o,none⟩)) 1) w k :=
 s_fa 3 1 (runUnderlying186 w) (by kernel_rfl) (sizeOf3 w) (by decide) hk
theorem fa186_2 {b o:Nat} (hk:k (.pointer (some ⟨b,o + 2,none⟩)) w) : px prog (Instr.fieldAt 186 (.pointer (some ⟨b,o,none⟩)) 2) w k :=
 s_fa 36 2 (runUnderlying186 w) (by kernel_rfl) (sizeOf36 w) (by decide) hk
theorem usl22 : prog.underlying 22 = some (.slice (prog.elem 22)) := by kernel_rfl
theorem elm22 : prog.elem 22 = 41 := by kernel_rfl
theorem sze22 (w:World) : (sizeOf (prog.elem 22)).run prog w = .ok 10 w := by rw [elm22]; exact sizeOf41 w
theorem usl36 : prog.underlying 36 = some (.slice (prog.elem 36)) := by kernel_rfl
theorem elm36 : prog.elem 36 = 5 := by kernel_rfl
theorem sze36 (w:World) : (sizeOf (prog.elem 36)).run prog w = .ok 1 w := by rw [elm36]; exact sizeOf5 w
theorem usl39 : prog.underlying 39 = some (.slice (prog.elem 39)) := by kernel_rfl
theorem elm39 : prog.elem 39 = 3 := by kernel_rfl
theorem sze39 (w:World) : (sizeOf (prog.elem 39)).run prog w = .ok 1 w := by rw [elm39]; exact sizeOf3 w
theorem usl55 : prog.underlying 55 = some (.slice (prog.elem 55)) := by kernel_rfl
theorem elm55 : prog.elem 55 = 136 := by kernel_rfl
theorem sze55 (w:World) : (sizeOf (prog.elem 55)).run prog w = .ok 1 w := by rw [elm55]; exact sizeOf136 w
theorem usl56 : prog.underlying 56 = some (.slice (prog.elem 56)) := by kernel_rfl
theorem elm56 : prog.elem 56 = 134 := by kernel_rfl
theorem sze56 (w:World) : (sizeOf (prog.elem 56)).run prog w = .ok 3 w := by rw [elm56]; exact sizeOf134 w
theorem usl59 : prog.underlying 59 = some (.slice (prog.elem 59)) := by kernel_rfl
theorem elm59 : prog.elem 59 = 144 := by kernel_rfl
theorem sze59 (w:World) : (sizeOf (prog.elem 59)).run prog w = .ok 2 w := by rw [elm59]; exact sizeOf144 w
theorem usl60 : prog.underlying 60 = some (.slice (prog.elem 60)) := by kernel_rfl
theorem elm60 : prog.elem 60 = 146 := by kernel_rfl
theorem sze60 (w:World) : (sizeOf (prog.elem 60)).run prog w = .ok 4 w := by rw [elm60]; exact sizeOf146 w
theorem usl71 : prog.underlying 71 = some (.slice (prog.elem 71)) := by kernel_rfl
theorem elm71 : prog.elem 71 = 83 := by kernel_rfl
theorem sze71 (w:World) : (sizeOf (prog.elem 71)).run prog w = .ok 2 w := by rw [elm71]; exact sizeOf83 w
theorem usl73 : prog.underlying 73 = some (.slice (prog.elem 73)) := by kernel_rfl
theorem elm73 : prog.elem 73 = 9 := by kernel_rfl
theorem sze73 (w:World) : (sizeOf (prog.elem 73)).run prog w = .ok 1 w := by rw [elm73]; exact sizeOf9 w
theorem usl93 : prog.underlying 93 = some (.slice (prog.elem 93)) := by kernel_rfl
theorem elm93 : prog.elem 93 = 36 := by kernel_rfl
theorem sze93 (w:World) : (sizeOf (prog.elem 93)).run prog w = .ok 1 w := by rw [elm93]; exact sizeOf36 w
theorem usl122 : prog.underlying 122 = some (.slice (prog.elem 122)) := by kernel_rfl
theorem elm122 : prog.elem 122 = 130 := by kernel_rfl
theorem sze122 (w:World) : (sizeOf (prog.elem 122)).run prog w = .ok 1 w := by rw [elm122]; exact sizeOf130 w
theorem usl139 : prog.underlying 139 = some (.slice (prog.elem 139)) := by kernel_rfl
theorem elm139 : prog.elem 139 = 142 := by kernel_rfl
theorem sze139 (w:World) : (sizeOf (prog.elem 139)).run prog w = .ok 1 w := by rw [elm139]; exact sizeOf142 w
theorem usl154 : prog.underlying 154 = some (.slice (prog.elem 154)) := by kernel_rfl
theorem elm154 : prog.elem 154 = 186 := by kernel_rfl
theorem sze154 (w:World) : (sizeOf (prog.elem 154)).run prog w = .ok 3 w := by rw [elm154]; exact sizeOf186 w
theorem upt29 : prog.underlying 29 = some (.pointer (prog.pointee 29)) := by kernel_rfl
theorem upt30 : prog.underlying 30 = some (.pointer (prog.pointee 30)) := by kernel_rfl
theorem upt117 : prog.underlying 117 = some (.pointer (prog.pointee 117)) := by kernel_rfl
theorem upt142 : prog.underlying 142 = some (.pointer (prog.pointee 142)) := by kernel_rfl
theorem cc54 : prog.concrete 54 = true := by kernel_rfl
theorem cc126 : prog.concrete 126 = true := by kernel_rfl
theorem cc172 : prog.concrete 172 = true := by kernel_rfl
theorem cc177 : prog.concrete 177 = true := by kernel_rfl
theorem cc184 : prog.concrete 184 = true := by kernel_rfl
theorem cc189 : prog.concrete 189 = true := by kernel_rfl
theorem lit0_36 (hk:k (.slice (some ⟨w.heap.size,0,none⟩) 0 0) (w.alloc (.cells #[] 5))) : px prog (Instr.buildSlice 36 0 #[]) w k := s_lit0 (runUnderlying36 w) (sizeOf5 w) hk
theorem lit1_55 {x:Value} (hx:x.cells = #[x]) (hk:k (.slice (some ⟨w.heap.size,0,none⟩) 1 1) (w.alloc (.cells #[x] 136))) : px prog (Instr.buildSlice 55 1 #[(0,x)]) w k := s_lit1 (runUnderlying55 w) (sizeOf136 w) (zeroValue136 w) rfl hx hk
theorem lit0_56 (hk:k (.slice (some ⟨w.heap.size,0,none⟩) 0 0) (w.alloc (.cells #[] 134))) : px prog (Instr.buildSlice 56 0 #[]) w k := s_lit0 (runUnderlying56 w) (sizeOf134 w) hk
theorem lit0_122 (hk:k (.slice (some ⟨w.heap.size,0,none⟩) 0 0) (w.alloc (.cells #[] 130))) : px prog (Instr.buildSlice 122 0 #[]) w k := s_lit0 (runUnderlying122 w) (sizeOf130 w) hk
theorem lit1_122 {x:Value} (hx:x.cells = #[x]) (hk:k (.slice (some ⟨w.heap.size,0,none⟩) 1 1) (w.alloc (.cells #[x] 130))) : px prog (Instr.buildSlice 122 1 #[(0,x)]) w k := s_lit1 (runUnderlying122 w) (sizeOf130 w) (zeroValue130 w) rfl hx hk
theorem ap36 {base n m:Nat} {v x:Value} {xs cs:List Value} (HO:w.ownsRow base 5 1 v n xs) (HS:Src w x 1 m cs) (h1:∀ u ∈ cs,u.oneCell' = true) (hb:(n + m) * 1 ≤ 140737488355328) (hbase:base ≤ w.heap.size)
    (hk:∀ v' w',w'.ownsRow base 5 1 v' (n + m) (xs ++ cs) → Fr (fun b => some b = sblk v) w w' → (sblk v' = sblk v ∨ sblk v' = some w.heap.size) → k v' w') : px prog (bSem .append #[36,36] 36 #[v,x]) w k := by
  refine s_append (P := prog) (t := 36) (e := 5) (i := t5) (z := (t5.zero).getD undef) (size := 1) (bytes := 1) (by kernel_rfl) rfl (by kernel_rfl) (by kernel_rfl) (by kernel_rfl) (by kernel_rfl) (by kernel_rfl) (by decide) HO HS h1 ?_ hb hbase hk
  unfold maxLen; omega
theorem ap55 {base n m:Nat} {v x:Value} {xs cs:List Value} (HO:w.ownsRow base 136 1 v n xs) (HS:Src w x 1 m cs) (h1:∀ u ∈ cs,u.oneCell' = true) (hb:(n + m) * 16 ≤ 140737488355328) (hbase:base ≤ w.heap.size)
    (hk:∀ v' w',w'.ownsRow base 136 1 v' (n + m) (xs ++ cs) → Fr (fun b => some b = sblk v) w w' → (sblk v' = sblk v ∨ sblk v' = some w.heap.size) → k v' w') : px prog (bSem .append #[55,55] 55 #[v,x]) w k := by
  refine s_append (P := prog) (t := 55) (e := 136) (i := t136) (z := (t136.zero).getD undef) (size := 1) (bytes := 16) (by kernel_rfl) rfl (by kernel_rfl) (by kernel_rfl) (by kernel_rfl) (by kernel_rfl) (by kernel_rfl) (by decide) HO HS h1 ?_ hb hbase hk
  unfold maxLen; omega
theorem ap56 {base n m:Nat} {v x:Value} {xs cs:List Value} (HO:w.ownsRow base 134 3 v n xs) (HS:Src w x 3 m cs) (h1:∀ u ∈ cs,u.oneCell' = true) (hb:(n + m) * 32 ≤ 140737488355328) (hbase:base ≤ w.heap.size)
    (hk:∀ v' w',w'.ownsRow base 134 3 v' (n + m) (xs ++ cs) → Fr (fun b => some b = sblk v) w w' → (sblk v' = sblk v ∨ sblk v' = some w.heap.size) → k v' w') : px prog (bSem .append #[56,56] 56 #[v,x]) w k := by
  refine s_append (P := prog) (t := 56) (e := 134) (i := t134) (z := (t134.zero).getD undef) (size := 3) (bytes := 32) (by kernel_rfl) rfl (by kernel_rfl) (by kernel_rfl) (by kernel_rfl) (by kernel_rfl) (by kernel_rfl) (by decide) HO HS h1 ?_ hb hbase hk
  unfold maxLen; omega
theorem ap59 {base n m:Nat} {v x:Value} {xs cs:List Value} (HO:w.ownsRow base 144 2 v n xs) (HS:Src w x 2 m cs) (h1:∀ u ∈ cs,u.oneCell' = true) (hb:(n + m) * 24 ≤ 140737488355328) (hbase:base ≤ w.heap.size)
    (hk:∀ v' w',w'.ownsRow base 144 2 v' (n + m) (xs ++ cs) → Fr (fun b => some b = sblk v) w w' → (sblk v' = sblk v ∨ sblk v' = some w.heap.size) → k v' w') : px prog (bSem .append #[59,59] 59 #[v,x]) w k := by
  refine s_append (P := prog) (t := 59) (e := 144) (i := t144) (z := (t144.zero).getD undef) (size := 2) (bytes := 24) (by kernel_rfl) rfl (by kernel_rfl) (by kernel_rfl) (by kernel_rfl) (by kernel_rfl) (by kernel_rfl) (by decide) HO HS h1 ?_ hb hbase hk
  unfold maxLen; omega
theorem ap60 {base n m:Nat} {v x:Value} {xs cs:List Value} (HO:w.ownsRow base 146 4 v n xs) (HS:Src w x 4 m cs) (h1:∀ u ∈ cs,u.oneCell' = true) (hb:(n + m) * 48 ≤ 140737488355328) (hbase:base ≤ w.heap.size)
    (hk:∀ v' w',w'.ownsRow base 146 4 v' (n + m) (xs ++ cs) → Fr (fun b => some b = sblk v) w w' → (sblk v' = sblk v ∨ sblk v' = some w.heap.size) → k v' w') : px prog (bSem .append #[60,60] 60 #[v,x]) w k := by
  refine s_append (P := prog) (t := 60) (e := 146) (i := t146) (z := (t146.zero).getD undef) (size := 4) (bytes := 48) (by kernel_rfl) rfl (by kernel_rfl) (by kernel_rfl) (by kernel_rfl) (by kernel_rfl) (by kernel_rfl) (by decide) HO HS h1 ?_ hb hbase hk
  unfold maxLen; omega
theorem ap71 {base n m:Nat} {v x:Value} {xs cs:List Value} (HO:w.ownsRow base 83 2 v n xs) (HS:Src w x 2 m cs) (h1:∀ u ∈ cs,u.oneCell' = true) (hb:(n + m) * 40 ≤ 140737488355328) (hbase:base ≤ w.heap.size)
    (hk:∀ v' w',w'.ownsRow base 83 2 v' (n + m) (xs ++ cs) → Fr (fun b => some b = sblk v) w w' → (sblk v' = sblk v ∨ sblk v' = some w.heap.size) → k v' w') : px prog (bSem .append #[71,71] 71 #[v,x]) w k := by
  refine s_append (P := prog) (t := 71) (e := 83) (i := t83) (z := (t83.zero).getD undef) (size := 2) (bytes := 40) (by kernel_rfl) rfl (by kernel_rfl) (by kernel_rfl) (by kernel_rfl) (by kernel_rfl) (by kernel_rfl) (by decide) HO HS h1 ?_ hb hbase hk
  unfold maxLen; omega
theorem ap73 {base n m:Nat} {v x:Value} {xs cs:List Value} (HO:w.ownsRow base 9 1 v n xs) (HS:Src w x 1 m cs) (h1:∀ u ∈ cs,u.oneCell' = true) (hb:(n + m) * 16 ≤ 140737488355328) (hbase:base ≤ w.heap.size)
    (hk:∀ v' w',w'.ownsRow base 9 1 v' (n + m) (xs ++ cs) → Fr (fun b => some b = sblk v) w w' → (sblk v' = sblk v ∨ sblk v' = some w.heap.size) → k v' w') : px prog (bSem .append #[73,73] 73 #[v,x]) w k := by
  refine s_append (P := prog) (t := 73) (e := 9) (i := t9) (z := (t9.zero).getD undef) (size := 1) (bytes := 16) (by kernel_rfl) rfl (by kernel_rfl) (by kernel_rfl) (by kernel_rfl) (by kernel_rfl) (by kernel_rfl) (by decide) HO HS h1 ?_ hb hbase hk
  unfold maxLen; omega
theorem ap93 {base n m:Nat} {v x:Value} {xs cs:List Value} (HO:w.ownsRow base 36 1 v n xs) (HS:Src w x 1 m cs) (h1:∀ u ∈ cs,u.oneCell' = true) (hb:(n + m) * 24 ≤ 140737488355328) (hbase:base ≤ w.heap.size)
    (hk:∀ v' w',w'.ownsRow base 36 1 v' (n + m) (xs ++ cs) → Fr (fun b => some b = sblk v) w w' → (sblk v' = sblk v ∨ sblk v' = some w.heap.size) → k v' w') : px prog (bSem .append #[93,93] 93 #[v,x]) w k := by
  refine s_append (P := prog) (t := 93) (e := 36) (i := t36) (z := (t36.zero).getD undef) (size := 1) (bytes := 24) (by kernel_rfl) rfl (by kernel_rfl) (by kernel_rfl) (by kernel_rfl) (by kernel_rfl) (by kernel_rfl) (by decide) HO HS h1 ?_ hb hbase hk
  unfold maxLen; omega
theorem ap122 {base n m:Nat} {v x:Value} {xs cs:List Value} (HO:w.ownsRow base 130 1 v n xs) (HS:Src w x 1 m cs) (h1:∀ u ∈ cs,u.oneCell' = true) (hb:(n + m) * 16 ≤ 140737488355328) (hbase:base ≤ w.heap.size)
    (hk:∀ v' w',w'.ownsRow base 130 1 v' (n + m) (xs ++ cs) → Fr (fun b => some b = sblk v) w w' → (sblk v' = sblk v ∨ sblk v' = some w.heap.size) → k v' w') : px prog (bSem .append #[122,122] 122 #[v,x]) w k := by
  refine s_append (P := prog) (t := 122) (e := 130) (i := t130) (z := (t130.zero).getD undef) (size := 1) (bytes := 16) (by kernel_rfl) rfl (by kernel_rfl) (by kernel_rfl) (by kernel_rfl) (by kernel_rfl) (by kernel_rfl) (by decide) HO HS h1 ?_ hb hbase hk
  unfold maxLen; omega
theorem ap139 {base n m:Nat} {v x:Value} {xs cs:List Value} (HO:w.ownsRow base 142 1 v n xs) (HS:Src w x 1 m cs) (h1:∀ u ∈ cs,u.oneCell' = true) (hb:(n + m) * 8 ≤ 140737488355328) (hbase:base ≤ w.heap.size)
    (hk:∀ v' w',w'.ownsRow base 142 1 v' (n + m) (xs ++ cs) → Fr (fun b => some b = sblk v) w w' → (sblk v' = sblk v ∨ sblk v' = some w.heap.size) → k v' w') : px prog (bSem .append #[139,139] 139 #[v,x]) w k := by
  refine s_append (P := prog) (t := 139) (e := 142) (i := t142) (z := (t142.zero).getD undef) (size := 1) (bytes := 8) (by kernel_rfl) rfl (by kernel_rfl) (by kernel_rfl) (by kernel_rfl) (by kernel_rfl) (by kernel_rfl) (by decide) HO HS h1 ?_ hb hbase hk
  unfold maxLen; omega
theorem ap154 {base n m:Nat} {v x:Value} {xs cs:List Value} (HO:w.ownsRow base 186 3 v n xs) (HS:Src w x 3 m cs) (h1:∀ u ∈ cs,u.oneCell' = true) (hb:(n + m) * 40 ≤ 140737488355328) (hbase:base ≤ w.heap.size)
    (hk:∀ v' w',w'.ownsRow base 186 3 v' (n + m) (xs ++ cs) → Fr (fun b => some b = sblk v) w w' → (sblk v' = sblk v ∨ sblk v' = some w.heap.size) → k v' w') : px prog (bSem .append #[154,154] 154 #[v,x]) w k := by
  refine s_append (P := prog) (t := 154) (e := 186) (i := t186) (z := (t186.zero).getD undef) (size := 3) (bytes := 40) (by kernel_rfl) rfl (by kernel_rfl) (by kernel_rfl) (by kernel_rfl) (by kernel_rfl) (by kernel_rfl) (by decide) HO HS h1 ?_ hb hbase hk
  unfold maxLen; omega
theorem pl36 {base n:Nat} {v x0:Value} {xs:List Value} {kk:Value → KV} (HO:w.ownsRow base 5 1 v n xs) (hx:x0.cells = #[x0]) (h1:∀ u ∈ [x0],u.oneCell' = true) (hb:(n + 1) * 1 ≤ 140737488355328) (hbase:base ≤ w.heap.size)
    (hk:∀ u v' w',w'.ownsRow base 5 1 v' (n + 1) (xs ++ [x0]) → Fr (fun b => some b = sblk v) w w' → (∀ b,sblk v' = some b → sblk v = some b ∨ (w.heap.size ≤ b ∧ b < w'.heap.size)) → kk u v' w') : px prog (Instr.buildSlice 36 1 #[(0,x0)]) w fun u w => px prog (bSem .append #[36,36] 36 #[v,u]) w (kk u) := by
  refine s_lit1 (runUnderlying36 w) (sizeOf5 w) (zeroValue5 w) rfl hx ?_
  have f1 := Fr.alloc (fun _ => False) w (.cells #[x0] 5)
  have ho := own_lit w 0 5 1 #[x0] 1 (Nat.zero_le _) (by unfold maxLen; omega) rfl
  have z1 : (w.alloc (.cells #[x0] 5)).heap.size = w.heap.size + 1 := by simp
  generalize w.alloc (.cells #[x0] 5) = w1 at *
  refine ap36 (own_fr HO f1 fun _ _ h => h) (Src.of_own ho) h1 hb (by omega) fun v' w2 h2 f2 hb2 => hk _ v' w2 h2 ((f1.or f2).mono fun b hb => .inl (hb.elim (fun h => h.elim) id)) fun b hb => ?_
  have hlt := (own_blk_lt h2 hb).2
  rcases hb2 with e | e
  · exact .inl (e ▸ hb)
  · rw [e] at hb; injection hb with hb; exact .inr (by omega)
theorem pl56 {base n:Nat} {v x0 x1 x2:Value} {xs:List Value} {kk:Value → KV} (HO:w.ownsRow base 134 3 v n xs) (h1:∀ u ∈ [x0,x1,x2],u.oneCell' = true) (hb:(n + 1) * 32 ≤ 140737488355328) (hbase:base ≤ w.heap.size)
    (hk:∀ u v' w',w'.ownsRow base 134 3 v' (n + 1) (xs ++ [x0,x1,x2]) → Fr (fun b => some b = sblk v) w w' → (∀ b,sblk v' = some b → sblk v = some b ∨ (w.heap.size ≤ b ∧ b < w'.heap.size)) → kk u v' w') : px prog (Instr.buildSlice 56 1 #[(0,.agg #[x0,x1,x2])]) w fun u w => px prog (bSem .append #[56,56] 56 #[v,u]) w (kk u) := by
  refine px_ok (w' := w.alloc (.cells #[x0,x1,x2] 134)) (v := .slice (some ⟨w.heap.size,0,none⟩) 1 1) (by kernel_rfl) ?_
  have f1 := Fr.alloc (fun _ => False) w (.cells #[x0,x1,x2] 134)
  have ho := own_lit w 0 134 3 #[x0,x1,x2] 1 (Nat.zero_le _) (by unfold maxLen; omega) rfl
  have z1 : (w.alloc (.cells #[x0,x1,x2] 134)).heap.size = w.heap.size + 1 := by simp
  generalize w.alloc (.cells #[x0,x1,x2] 134) = w1 at *
  refine ap56 (own_fr HO f1 fun _ _ h => h) (Src.of_own ho) h1 hb (by omega) fun v' w2 h2 f2 hb2 => hk _ v' w2 h2 ((f1.or f2).mono fun b hb => .inl (hb.elim (fun h => h.elim) id)) fun b hb => ?_
  have hlt := (own_blk_lt h2 hb).2
  rcases hb2 with e | e
  · exact .inl (e ▸ hb)
  · rw [e] at hb; injection hb with hb; exact .inr (by omega)
theorem pl59 {base n:Nat} {v x0 x1:Value} {xs:List Value} {kk:Value → KV} (HO:w.ownsRow base 144 2 v n xs) (h1:∀ u ∈ [x0,x1],u.oneCell' = true) (hb:(n + 1) * 24 ≤ 140737488355328) (hbase:base ≤ w.heap.size)
    (hk:∀ u v' w',w'.ownsRow base 144 2 v' (n + 1) (xs ++ [x0,x1]) → Fr (fun b => some b = sblk v) w w' → (∀ b,sblk v' = some b → sblk v = some b ∨ (w.heap.size ≤ b ∧ b < w'.heap.size)) → kk u v' w') : px prog (Instr.buildSlice 59 1 #[(0,.agg #[x0,x1])]) w fun u w => px prog (bSem .append #[59,59] 59 #[v,u]) w (kk u) := by
  refine px_ok (w' := w.alloc (.cells #[x0,x1] 144)) (v := .slice (some ⟨w.heap.size,0,none⟩) 1 1) (by kernel_rfl) ?_
  have f1 := Fr.alloc (fun _ => False) w (.cells #[x0,x1] 144)
  have ho := own_lit w 0 144 2 #[x0,x1] 1 (Nat.zero_le _) (by unfold maxLen; omega) rfl
  have z1 : (w.alloc (.cells #[x0,x1] 144)).heap.size = w.heap.size + 1 := by simp
  generalize w.alloc (.cells #[x0,x1] 144) = w1 at *
  refine ap59 (own_fr HO f1 fun _ _ h => h) (Src.of_own ho) h1 hb (by omega) fun v' w2 h2 f2 hb2 => hk _ v' w2 h2 ((f1.or f2).mono fun b hb => .inl (hb.elim (fun h => h.elim) id)) fun b hb => ?_
  have hlt := (own_blk_lt h2 hb).2
  rcases hb2 with e | e
  · exact .inl (e ▸ hb)
  · rw [e] at hb; injection hb with hb; exact .inr (by omega)
theorem pl73 {base n:Nat} {v x0:Value} {xs:List Value} {kk:Value → KV} (HO:w.ownsRow base 9 1 v n xs) (hx:x0.cells = #[x0]) (h1:∀ u ∈ [x0],u.oneCell' = true) (hb:(n + 1) * 16 ≤ 140737488355328) (hbase:base ≤ w.heap.size)
    (hk:∀ u v' w',w'.ownsRow base 9 1 v' (n + 1) (xs ++ [x0]) → Fr (fun b => some b = sblk v) w w' → (∀ b,sblk v' = some b → sblk v = some b ∨ (w.heap.size ≤ b ∧ b < w'.heap.size)) → kk u v' w') : px prog (Instr.buildSlice 73 1 #[(0,x0)]) w fun u w => px prog (bSem .append #[73,73] 73 #[v,u]) w (kk u) := by
  refine s_lit1 (runUnderlying73 w) (sizeOf9 w) (zeroValue9 w) rfl hx ?_
  have f1 := Fr.alloc (fun _ => False) w (.cells #[x0] 9)
  have ho := own_lit w 0 9 1 #[x0] 1 (Nat.zero_le _) (by unfold maxLen; omega) rfl
  have z1 : (w.alloc (.cells #[x0] 9)).heap.size = w.heap.size + 1 := by simp
  generalize w.alloc (.cells #[x0] 9) = w1 at *
  refine ap73 (own_fr HO f1 fun _ _ h => h) (Src.of_own ho) h1 hb (by omega) fun v' w2 h2 f2 hb2 => hk _ v' w2 h2 ((f1.or f2).mono fun b hb => .inl (hb.elim (fun h => h.elim) id)) fun b hb => ?_
  have hlt := (own_blk_lt h2 hb).2
  rcases hb2 with e | e
  · exact .inl (e ▸ hb)
  · rw [e] at hb; injection hb with hb; exact .inr (by omega)
theorem pl93 {base n:Nat} {v x0:Value} {xs:List Value} {kk:Value → KV} (HO:w.ownsRow base 36 1 v n xs) (hx:x0.cells = #[x0]) (h1:∀ u ∈ [x0],u.oneCell' = true) (hb:(n + 1) * 24 ≤ 140737488355328) (hbase:base ≤ w.heap.size)
    (hk:∀ u v' w',w'.ownsRow base 36 1 v' (n + 1) (xs ++ [x0]) → Fr (fun b => some b = sblk v) w w' → (∀ b,sblk v' = some b → sblk v = some b ∨ (w.heap.size ≤ b ∧ b < w'.heap.size)) → kk u v' w') : px prog (Instr.buildSlice 93 1 #[(0,x0)]) w fun u w => px prog (bSem .append #[93,93] 93 #[v,u]) w (kk u) := by
  refine s_lit1 (runUnderlying93 w) (sizeOf36 w) (zeroValue36 w) rfl hx ?_
  have f1 := Fr.alloc (fun _ => False) w (.cells #[x0] 36)
  have ho := own_lit w 0 36 1 #[x0] 1 (Nat.zero_le _) (by unfold maxLen; omega) rfl
  have z1 : (w.alloc (.cells #[x0] 36)).heap.size = w.heap.size + 1 := by simp
  generalize w.alloc (.cells #[x0] 36) = w1 at *
  refine ap93 (own_fr HO f1 fun _ _ h => h) (Src.of_own ho) h1 hb (by omega) fun v' w2 h2 f2 hb2 => hk _ v' w2 h2 ((f1.or f2).mono fun b hb => .inl (hb.elim (fun h => h.elim) id)) fun b hb => ?_
  have hlt := (own_blk_lt h2 hb).2
  rcases hb2 with e | e
  · exact .inl (e ▸ hb)
  · rw [e] at hb; injection hb with hb; exact .inr (by omega)
theorem pl139 {base n:Nat} {v x0:Value} {xs:List Value} {kk:Value → KV} (HO:w.ownsRow base 142 1 v n xs) (hx:x0.cells = #[x0]) (h1:∀ u ∈ [x0],u.oneCell' = true) (hb:(n + 1) * 8 ≤ 140737488355328) (hbase:base ≤ w.heap.size)
    (hk:∀ u v' w',w'.ownsRow base 142 1 v' (n + 1) (xs ++ [x0]) → Fr (fun b => some b = sblk v) w w' → (∀ b,sblk v' = some b → sblk v = some b ∨ (w.heap.size ≤ b ∧ b < w'.heap.size)) → kk u v' w') : px prog (Instr.buildSlice 139 1 #[(0,x0)]) w fun u w => px prog (bSem .append #[139,139] 139 #[v,u]) w (kk u) := by
  refine s_lit1 (runUnderlying139 w) (sizeOf142 w) (zeroValue142 w) rfl hx ?_
  have f1 := Fr.alloc (fun _ => False) w (.cells #[x0] 142)
  have ho := own_lit w 0 142 1 #[x0] 1 (Nat.zero_le _) (by unfold maxLen; omega) rfl
  have z1 : (w.alloc (.cells #[x0] 142)).heap.size = w.heap.size + 1 := by simp
  generalize w.alloc (.cells #[x0] 142) = w1 at *
  refine ap139 (own_fr HO f1 fun _ _ h => h) (Src.of_own ho) h1 hb (by omega) fun v' w2 h2 f2 hb2 => hk _ v' w2 h2 ((f1.or f2).mono fun b hb => .inl (hb.elim (fun h => h.elim) id)) fun b hb => ?_
  have hlt := (own_blk_lt h2 hb).2
  rcases hb2 with e | e
  · exact .inl (e ▸ hb)
  · rw [e] at hb; injection hb with hb; exact .inr (by omega)
theorem lk54 {m:Nat} {l:List (ByteArray × Value)} (h:SMap w m l) (s:ByteArray) {z:Value} (hz:(zeroValue 117).run prog w = .ok z w) (hk:k ((alGet l s).getD z) w) : px prog (Instr.lookup 54 (.map (some m)) (.string s) false) w k := px_ok (h.lookup underlying54 underlying9 hz s) hk
theorem up54 {m:Nat} {l:List (ByteArray × Value)} {kk:World → Prop} (h:SMap w m l) (s:ByteArray) (v:Value) (hk:∀ w',SMap w' m (alSet l s v) → Fr (fun b => b = m) w w' → w'.heap.size = w.heap.size → kk w') : pu prog (Instr.mapUpdate 54 (.map (some m)) (.string s) v) w kk := by
 obtain ⟨w',h1,h2,h3,h4⟩ := h.update (P := prog) underlying54 underlying9 s v
 exact pu_ok h1 (hk w' h2 h3 h4)
theorem de54 {m:Nat} {l:List (ByteArray × Value)} (h:SMap w m l) (s:ByteArray) (hk:∀ w',SMap w' m (alDel l s) → Fr (fun b => b = m) w w' → w'.heap.size = w.heap.size → k (.tuple #[]) w') : px prog (bSem .delete #[54,9] 0 #[.map (some m),.string s]) w k := by
 obtain ⟨w',h1,h2,h3,h4⟩ := h.delete (P := prog) underlying54 underlying9 s (ty := 0)
 exact px_ok h1 (hk w' h2 h3 h4)
theorem mk54 (hk:k (.map (some w.heap.size)) (w.alloc (.map #[] 0))) : px prog (Instr.makeMap 54 none) w k := px_ok (run_makeMap 54 w) hk
theorem mk127 (hk:k (.map (some w.heap.size)) (w.alloc (.map #[] 0))) : px prog (Instr.makeMap 127 none) w k := px_ok (run_makeMap 127 w) hk
end
end Go.Proofs.YtcdcojpfealppaaGreat
