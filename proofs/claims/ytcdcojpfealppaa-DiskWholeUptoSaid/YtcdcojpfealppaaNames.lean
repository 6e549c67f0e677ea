/- Names and rounds. -/
import Derived.Test.YtcdcojpfealppaaXCalls
import Derived.Test.YtcdcojpfealppaaRep
set_option linter.unusedVariables false
set_option linter.unusedSimpArgs false
set_option maxRecDepth 100000
namespace Go.Proofs.Ytcdcojpfealppaa
open Go Go.Proofs Go.RowKit Go.Proofs.XRed Go.Proofs.XHeap Go.Proofs.XMaps Go.Proofs.XSlices Go.Proofs.XDisk Go.Proofs.XCalls
section
variable {w : World} {D : Nat} {S : AD} {L : Lay} {k : Value → World → Prop}
theorem c_indexByteL (s : ByteArray) (c : Int) (hk : k (i64 (Lib.indexByte s.data.toList c.toNat.toUInt8)) w) : pFn P 88 [.string s, .int .u8 c] w k := by
  refine pFn_extern Try.func88 (by kernel_rfl) (by kernel_rfl) (by kernel_rfl) (e := Extern.BytealgIndexByte.indexByte) (by kernel_rfl) ?_
  exact px_ok (Lib.run_indexByteString s c w) hk
theorem c_indexByteM (s : ByteArray) (c : Int) (hk : k (i64 (Lib.indexByte s.data.toList c.toNat.toUInt8)) w) : pFn P 84 [.string s, .int .u8 c] w k := by
  refine F84_in _ _ _ _ ?_
  unfold F84_0
  exact c_indexByteL s c hk
theorem c_indexByte (s : ByteArray) (c : Int) (hk : k (i64 (Lib.indexByte s.data.toList c.toNat.toUInt8)) w) : pFn P 80 [.string s, .int .u8 c] w k := by
  refine F80_in _ _ _ _ ?_
  unfold F80_0
  exact c_indexByteM s c hk
theorem tmod_up (pick b : Int) (hb : 0 < b) : (if pick.tmod b < 0 then pick.tmod b + b else pick.tmod b) = pick.emod b ∧ -b < pick.tmod b ∧ pick.tmod b < b := by
  have e := @Int.tmod_eq_emod pick b
  have e1 : (b.natAbs : Int) = b := by omega
  have e2 := Int.emod_nonneg pick (show b ≠ 0 by omega)
  have e3 := Int.emod_lt_of_pos pick hb
  have e4 : pick.emod b = pick % b := rfl
  by_cases h : 0 ≤ pick ∨ b ∣ pick
  · rw [if_pos h] at e
    simp only [Int.natCast_zero, Int.sub_zero] at e
    rw [if_neg (by omega)]
    omega
  · rw [if_neg h, e1] at e
    have : pick % b ≠ 0 := fun h' => h (.inr (Int.dvd_of_emod_eq_zero h'))
    rw [if_pos (by omega)]
    omega
theorem c_round {pick most : Int} (h0 : 0 ≤ most) (h1 : most ≤ 4611686018427387904) (hk : k (i64 (pick.emod (most + 1))) w) : pFn P 55 [i64 pick, i64 most] w k := by
  refine F55_in _ _ _ _ ?_
  unfold F55_0
  obtain ⟨e, e2, e3⟩ := tmod_up pick (most + 1) (by omega)
  refine s_add_in (by omega) ?_
  refine s_rem (by omega) ?_
  refine s_lt ?_
  by_cases h : pick.tmod (most + 1) < 0
  · rw [if_pos h] at e
    rw [decide_eq_true h]
    refine pC_true ?_
    refine s_add_in (by omega) ?_
    refine s_add_in (by omega) ?_
    rw [F55_1_eq]
    unfold F55_1
    show k (i64 (pick.tmod (most + 1) + (most + 1))) w
    rw [e]; exact hk
  · rw [if_neg h] at e
    rw [decide_eq_false h]
    refine pC_false ?_
    rw [F55_1_eq]
    unfold F55_1
    show k (i64 (pick.tmod (most + 1))) w
    rw [e]; exact hk
theorem ix_ok (c : UInt8) : okByte c = ((97 ≤ c && c ≤ 122) || (48 ≤ c && c ≤ 57) || decide (0 ≤ Lib.indexByte [46, 45, 95, 43] c)) := by
  rw [← Lib.contains_iff_indexByte]
  simp [okByte, List.contains_cons, Bool.or_assoc, beq_iff_eq, Bool.beq_eq_decide_eq]
set_option maxHeartbeats 1000000 in
theorem c_isName (s : ByteArray) (hs : s.size ≤ 9223372036854775807) (hk : k (.bool (isName s)) w) : pFn P 72 [.string s] w k := by
  refine F72_in _ _ _ ?_
  unfold F72_0
  refine s_lens (by kernel_rfl) ?_
  refine F72L1_inv (m := s.size) k (fun m ρ w' => w' = w ∧ ρ 0 = .string s ∧ ρ 6 = i64 s.size ∧ ∃ i : Nat, ρ 7 = i64 i ∧ i + m = s.size ∧ ∀ j (hj : j < s.size), j < i → okByte s[j] = true) ?_ ⟨rfl, rfl, rfl, 0, rfl, by omega, fun j _ hj => absurd hj (by omega)⟩
  rintro m ρ w' ⟨rfl, h0, h6, i, h7, him, hok⟩
  rw [F72_1_eq]
  unfold F72_1
  rw [h0, h6, h7]
  refine s_lt ?_
  by_cases hi : i < s.size
  · rw [decide_eq_true (by omega)]
    refine pC_true (s_ixs (by kernel_rfl) hi ?_)
    have hix := ix_ok s[i]
    generalize hc : s[i] = c at *
    have hn : c.toNat.toUInt8 = c := by simp
    have hlt := c.toNat_lt
    have hb : okByte c = (decide (97 ≤ c.toNat ∧ c.toNat ≤ 122) || decide (48 ≤ c.toNat ∧ c.toNat ≤ 57) || decide (0 ≤ Lib.indexByte [46, 45, 95, 43] c)) := by
      rw [hix]; simp [UInt8.le_iff_toNat_le, Bool.decide_and]
    have next : okByte c = true → ∀ j (hj : j < s.size), j < i + 1 → okByte s[j] = true := by
      intro h j hj hji
      by_cases e : j = i
      · subst e; rw [hc]; exact h
      · exact hok j hj (by omega)
    have bad : okByte c = false → isName s = false := by
      intro h
      unfold isName
      have : s.data.toList.all okByte = false := by
        rw [Bool.eq_false_iff]
        intro ha
        rw [List.all_eq_true] at ha
        have := ha c (by
          rw [← hc]
          have : i < s.data.toList.length := by simpa using hi
          have e : s[i] = s.data.toList[i] := rfl
          rw [e]; exact List.getElem_mem _)
        rw [h] at this; cases this
      simp [this]
    have eb : ((c.toNat : Int).toNat).toUInt8 = c := by simp
    have el : (ByteArray.mk #[46, 45, 95, 43]).data.toList = [46, 45, 95, 43] := rfl
    by_cases a1 : (c.toNat : Int) < 97 <;> by_cases a2 : (c.toNat : Int) > 122 <;> by_cases a3 : (c.toNat : Int) < 48 <;> by_cases a4 : (c.toNat : Int) > 57
    all_goals try (exfalso; omega)
    all_goals
      repeat (first | refine pG_yes rfl ?_ | refine pG_sk ?_ | refine pG_skf ?_ | refine pG_un ?_ | refine s_lt_t (by assumption) ?_ | refine s_lt_f (by assumption) ?_ | refine s_gt_t (by assumption) ?_ | refine s_gt_f (by assumption) ?_ | refine s_pick_t ?_ | refine s_pick_f ?_ | refine pC_true ?_ | refine pC_false ?_)
    all_goals first
      | (refine s_add_in (by omega) ?_
         exact ⟨m - 1, by omega, rfl, h0, h6, i + 1, rfl, by omega, next (by rw [hb, decide_eq_true (show 97 ≤ c.toNat ∧ c.toNat ≤ 122 by omega)]; rfl)⟩)
      | (refine s_add_in (by omega) ?_
         exact ⟨m - 1, by omega, rfl, h0, h6, i + 1, rfl, by omega, next (by rw [hb, decide_eq_true (show 48 ≤ c.toNat ∧ c.toNat ≤ 57 by omega)]; simp)⟩)
      | skip
    all_goals
      refine c_indexByte _ _ ?_
      rw [eb, el]
      have hb' : okByte c = decide (0 ≤ Lib.indexByte [46, 45, 95, 43] c) := by
        rw [hb, decide_eq_false (show ¬ (97 ≤ c.toNat ∧ c.toNat ≤ 122) by omega), decide_eq_false (show ¬ (48 ≤ c.toNat ∧ c.toNat ≤ 57) by omega)]; rfl
      by_cases C : Lib.indexByte [46, 45, 95, 43] c < 0
      · repeat (first | refine pG_yes rfl ?_ | refine pG_sk ?_ | refine pG_skf ?_ | refine pG_un ?_ | refine s_lt_t (by assumption) ?_ | refine s_lt_f (by assumption) ?_ | refine s_gt_t (by assumption) ?_ | refine s_gt_f (by assumption) ?_ | refine s_pick_t ?_ | refine s_pick_f ?_ | refine pC_true ?_ | refine pC_false ?_)
        rw [bad (by rw [hb']; exact decide_eq_false (by omega))] at hk
        exact hk
      · repeat (first | refine pG_yes rfl ?_ | refine pG_sk ?_ | refine pG_skf ?_ | refine pG_un ?_ | refine s_lt_t (by assumption) ?_ | refine s_lt_f (by assumption) ?_ | refine s_gt_t (by assumption) ?_ | refine s_gt_f (by assumption) ?_ | refine s_pick_t ?_ | refine s_pick_f ?_ | refine pC_true ?_ | refine pC_false ?_)
        refine s_add_in (by omega) ?_
        exact ⟨m - 1, by omega, rfl, h0, h6, i + 1, rfl, by omega, next (by rw [hb']; exact decide_eq_true (by omega))⟩
  · rw [decide_eq_false (by omega)]
    refine pC_false ?_
    rw [F72_2_eq]
    unfold F72_2
    have hall : s.data.toList.all okByte = true := by
      rw [List.all_eq_true]
      intro c hc
      obtain ⟨j, hj, rfl⟩ := List.getElem_of_mem hc
      have hj' : j < s.size := by simpa using hj
      exact hok j hj' (by omega)
    have hfin : isName s = (decide (s ≠ ByteArray.mk #[]) && decide (s.size ≤ 112)) := by
      unfold isName
      rw [hall, Bool.true_and]
      congr 1
      have : s ≠ ByteArray.mk #[] ↔ 1 ≤ s.size := by
        constructor
        · intro h
          rcases Nat.eq_zero_or_pos s.size with h' | h'
          · exact absurd (ByteArray.ext (Array.eq_empty_of_size_eq_zero h')) h
          · exact h'
        · rintro h rfl; exact absurd h (by decide)
      exact decide_eq_decide.2 this.symm
    have h0' : put ρ 8 (.bool false) 0 = .string s := h0
    rw [h0']
    refine s_nes ?_
    by_cases e : s = ByteArray.mk #[]
    · rw [decide_eq_true e]
      refine pG_sk ?_
      refine pG_sk ?_
      refine pG_sk ?_
      refine s_pick_f ?_
      rw [hfin] at hk
      simpa [e] using hk
    · rw [decide_eq_false e]
      refine pG_yes rfl (pG_yes rfl (s_lens (by kernel_rfl) (pG_yes rfl (s_le (s_pick_t ?_)))))
      rw [hfin] at hk
      have : decide ((s.size : Int) ≤ 112) = decide (s.size ≤ 112) := decide_eq_decide.2 (by omega)
      rw [this]
      simpa [e] using hk
end
end Go.Proofs.Ytcdcojpfealppaa
