/- What a crash leaves of a thing. -/
import Derived.Test.YtcdcojpfealppaaOps4
set_option linter.unusedVariables false
set_option linter.unusedSimpArgs false
set_option maxRecDepth 100000
namespace Go.Proofs.Ytcdcojpfealppaa
open Go Go.Proofs Go.RowKit Go.Proofs.XRed Go.Proofs.XHeap Go.Proofs.XMaps Go.Proofs.XSlices Go.Proofs.XDisk Go.Proofs.XCalls Go.Proofs.XRange
section
variable {w : World} {D : Nat} {S S' : AD} {O I : Nat → Prop} {L : Lay} {k : Value → World → Prop}
theorem c_tunits {T c : Nat} {rb : Value} {x : Thg} (hT : TRep w O I T rb x) (ok : x.Ok c) (hc : c ≤ 1099511627776) (hk : ∀ w', Fr no w w' → k (i64 (unitsOf x.row)) w') : pFn P 58 [ptr T] w k := by
  refine F58_in _ _ _ ?_
  unfold F58_0
  obtain ⟨sv, hv, cs, hb, h1, h2, h3, h4⟩ := hT.ex
  have hU := ok.ok.units_at
  have hrow := ok.row
  refine s_nil (fa101_2 (s_ldb (v := rb) (Try.isAgg99 _) hb rfl ?_))
  obtain ⟨A, cap, hrb, hcap⟩ : ∃ A cap, rb = .slice A x.row.length cap ∧ x.row.length ≤ cap := by
    obtain ⟨A, cap, e, hc, _⟩ := Src.of_own h3; exact ⟨A, cap, e, hc⟩
  subst hrb
  refine s_len usl99 ?_
  refine F58L1_inv (m := x.row.length) k (fun m ρ w' => ∃ i : Nat, i + m = x.row.length ∧ Fr no w w' ∧ ρ 9 = .slice A x.row.length cap ∧ ρ 10 = i64 x.row.length ∧ ρ 11 = i64 i ∧ ρ 3 = i64 (unitsOf (x.row.take i))) ?_
    ⟨0, by omega, Fr.refl _ _, rfl, rfl, rfl, rfl⟩
  rintro m ρ w' ⟨i, him, hf, h9, h10, h11, hacc⟩
  rw [F58_1_eq]
  unfold F58_1
  rw [h9, h10, h11, hacc]
  by_cases hi : i < x.row.length
  · refine s_lt_t (by omega) (pC_true ?_)
    have hS : Src w' (.slice A x.row.length cap) 1 x.row.length cs := (Src.of_own h3).fr (by omega) hf fun _ _ h => h
    refine s_ix_src usl99 (sze99 _) hS (by omega) (by omega) fun b o hcell => ?_
    obtain ⟨v, hv', hcv⟩ := h4.at_ (i := i) (a := x.row[i]) (by simp [hi])
    refine s_ld (v := v) (Try.isAgg123 _) (by have := hcell 0 v (by omega) (by simpa using hv'); simpa using this) ?_
    have hcm : x.row[i] ∈ x.row := List.getElem_mem hi
    have hu := hU _ hcm
    have hpre : unitsOf (x.row.take i) ≤ i * 1048576 := by
      have := unitsOf_le (l := x.row.take i) fun c hc => hU c (List.mem_of_mem_take hc)
      have e : (x.row.take i).length = i := by rw [List.length_take]; omega
      rw [e] at this; exact this
    refine c_units (hcv.fr hf fun _ _ h => h) fun w2 f2 => ?_
    refine s_add_in (by omega) (s_add_in (by omega) ?_)
    refine ⟨m - 1, by omega, i + 1, by omega, (hf.or f2).mono fun b hb => hb.elim (fun h => h.elim) fun h => h.elim, h9, h10, ?_, ?_⟩
    · show i64 _ = i64 _; simp
    · show i64 _ = i64 _
      have : unitsOf (x.row.take (i + 1)) = unitsOf (x.row.take i) + x.row[i].units := by
        unfold unitsOf
        rw [List.take_succ_eq_append_getElem hi, List.map_append, List.sum_append]
        simp
      rw [this]; simp
  · refine s_lt_f (by omega) (pC_false ?_)
    rw [F58_2_eq]
    unfold F58_2
    have e : x.row.take i = x.row := List.take_of_length_le (by omega)
    rw [e] at hacc
    show k (ρ 3) w'
    rw [hacc]
    exact hk w' hf
theorem c_left {T c u : Nat} {rb : Value} {x : Thg} (hT : TRep w O I T rb x) (ok : x.Ok c) (hc : c ≤ 1099511627776) (hu : u ≤ 4611686018427387904)
    (hk : ∀ w' v', SBytes w' v' (x.left u) → (∀ b, sblk v' = some b → w.heap.size ≤ b ∧ b < w'.heap.size) → Fr no w w' → k v' w') : pFn P 57 [ptr T, i64 u] w k := by
  refine F57_in _ _ _ _ ?_
  unfold F57_0
  obtain ⟨sv, hv, cs, hb, h1, h2, h3, h4⟩ := hT.ex
  refine s_nil (fa101_0 (s_ldb (v := sv) (Try.isAgg30 _) hb rfl ?_))
  refine s_nil (fa101_2 (s_ldb (v := rb) (Try.isAgg99 _) hb rfl ?_))
  obtain ⟨A, cap, hrb, hcap⟩ : ∃ A cap, rb = .slice A x.row.length cap ∧ x.row.length ≤ cap := by
    obtain ⟨A, cap, e, hc, _⟩ := Src.of_own h3; exact ⟨A, cap, e, hc⟩
  subst hrb
  have hrow := ok.row
  refine s_len usl99 ?_
  let J : Nat → Prop := fun b => I b ∨ w.heap.size ≤ b
  refine F57L1_inv (m := x.row.length) k (fun m ρ w' => ∃ (i u' : Nat) (b : Bytes), i + m = x.row.length ∧ Fr no w w' ∧ ρ 16 = .slice A x.row.length cap ∧ ρ 17 = i64 x.row.length ∧ ρ 18 = i64 i ∧ SB w' J (ρ 5) b ∧ ρ 1 = i64 u' ∧ u' ≤ u ∧ midOk b (x.row.drop i) u' x.shown ∧ XDisk.leftOf b (x.row.drop i) u' = x.left u) ?_
    ⟨0, u, x.safe, by omega, Fr.refl _ _, rfl, rfl, rfl, ⟨h1.1, fun b hb => .inl (h1.2 b hb)⟩, rfl, Nat.le_refl _, .inl ok.ok, rfl⟩
  rintro m ρ w' ⟨i, u', b, him, hf, h16, h17, h18, h5, hu1, hule, hmid, hleft⟩
  rw [F57_1_eq]
  unfold F57_1
  rw [h16, h17, h18, hu1]
  by_cases hi : i < x.row.length
  · refine s_lt_t (by omega) (pC_true ?_)
    have hS : Src w' (.slice A x.row.length cap) 1 x.row.length cs := (Src.of_own h3).fr (by omega) hf fun _ _ h => h
    refine s_ix_src usl99 (sze99 _) hS (by omega) (by omega) fun bb o hcell => ?_
    obtain ⟨v, hv', hcv⟩ := h4.at_ (i := i) (a := x.row[i]) (by simp [hi])
    refine s_ld (v := v) (Try.isAgg123 _) (by have := hcell 0 v (by omega) (by simpa using hv'); simpa using this) ?_
    have hdrop : x.row.drop i = x.row[i] :: x.row.drop (i + 1) := List.drop_eq_getElem_cons hi
    rw [hdrop] at hmid hleft
    generalize hce : x.row[i] = ch at *
    obtain ⟨hmid', hb20, hcu, hcut, hwr⟩ := hmid.step
    have hcv' : ChgV w' J ch v := (hcv.fr hf fun _ _ h => h).mono fun b hb => .inl hb
    refine c_units hcv' fun w2 f2 => ?_
    refine s_min ?_
    have emin : (if (ch.units : Int) < (u' : Int) then (ch.units : Int) else (u' : Int)) = ((min u' ch.units : Nat) : Int) := by split <;> omega
    rw [emin]
    have f02 : Fr no w w2 := (hf.or f2).mono fun b hb => hb.elim (fun h => h.elim) fun h => h.elim
    refine c_made (hcv'.fr f2 fun _ _ h => h) (h5.fr f2 fun _ _ h => h) (Nat.min_le_right _ _) (by omega) hcut (fun a d e h0 => ?_) fun w3 v3 hv3 hi3 f3 => ?_
    · have := hwr a d e h0; omega
    have f03 : Fr no w w3 := (f02.or f3).mono fun b hb => hb.elim (fun h => h.elim) fun h => h.elim
    refine s_sub_in (by omega) (s_add_in (by omega) ?_)
    refine ⟨m - 1, by omega, i + 1, u' - min u' ch.units, ch.made b (min u' ch.units), by omega, f03, h16, h17, ?_, ⟨hv3, ?_⟩, ?_, by omega, hmid', hleft⟩
    · show i64 _ = i64 _; simp
    · intro bk hbk
      rcases hi3 bk hbk with h | h
      · exact h
      · have := f02.size; exact .inr (by omega)
    · show i64 _ = i64 _
      have : ((u' - min u' ch.units : Nat) : Int) = (u' : Int) - ((min u' ch.units : Nat) : Int) := by omega
      rw [this]
  · refine s_lt_f (by omega) (pC_false ?_)
    rw [F57_2_eq]
    unfold F57_2
    have e : x.row.drop i = [] := List.drop_of_length_le (by omega)
    rw [e] at hleft
    have hlen := hmid.len
    refine c_cloneB (v := ρ 5) h5.1 (by omega) fun w2 v2 hv2 hb2 f2 => ?_
    have el : b = x.left u := hleft
    rw [← el] at hk
    exact hk w2 v2 hv2 (fun bk hbk => by have h1 := hb2 bk hbk; have h2 := hf.size; exact ⟨by omega, h1.2⟩) ((hf.or f2).mono fun b hb => hb.elim (fun h => h.elim) fun h => h.elim)
end
end Go.Proofs.Ytcdcojpfealppaa
