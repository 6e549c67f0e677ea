/- The files. -/
import Derived.Test.YtcdcojpfealppaaSorted
set_option linter.unusedVariables false
set_option linter.unusedSimpArgs false
set_option maxRecDepth 100000
namespace Go.Proofs.Ytcdcojpfealppaa
open Go Go.Proofs Go.RowKit Go.Proofs.XRed Go.Proofs.XHeap Go.Proofs.XMaps Go.Proofs.XSlices Go.Proofs.XDisk Go.Proofs.XCalls Go.Proofs.XRange Go.Proofs.XKeys
/-- A row of files, in memory that is new from B on. -/
def FilesV (w : World) (B : Nat) (v : Value) (fs : List (ByteArray × Bytes)) : Prop :=
  ∃ ps : List (ByteArray × Value), All2 (fun f p => f.1 = p.1 ∧ SBytes w p.2 f.2 ∧ ∀ b, sblk p.2 = some b → B ≤ b ∧ b < w.heap.size ∧ sblk v ≠ some b) fs ps ∧ w.ownsRow 0 52 2 v fs.length (ps.flatMap fun p => [.string p.1, p.2]) ∧ ∀ b, sblk v = some b → B ≤ b
theorem FilesV.mono {w : World} {B B' : Nat} {v : Value} {fs : List (ByteArray × Bytes)} (h : FilesV w B v fs) (hb : B' ≤ B) : FilesV w B' v fs := by
  obtain ⟨ps, h1, h2, h3⟩ := h
  exact ⟨ps, all2_imp h1 fun f p ⟨a, b, c⟩ => ⟨a, b, fun i hi => ⟨Nat.le_trans hb (c i hi).1, (c i hi).2⟩⟩, h2, fun b hb' => Nat.le_trans hb (h3 b hb')⟩
section
variable {w : World} {D : Nat} {S S' : AD} {O I : Nat → Prop} {L : Lay} {k : Value → World → Prop}
theorem c_files (sk : SortsKeys) {c : Nat} (h : DRep w D S O I L) (ok : S.Ok c) (hs : ∀ p ∈ S.shown, p.1.size ≤ maxLen)
    (hk : ∀ w' v, FilesV w' w.heap.size v (S.files) → Fr no w w' → k v w') : pFn P 17 [ptr D] w k := by
  refine F17_in _ _ _ ?_
  unfold F17_0
  refine c_none h.disk ok.room.1 (pC_false ?_)
  refine s_nil (fa93_1 (s_ldb (v := .map (some L.sh)) (Try.isAgg90 _) h.disk rfl ?_))
  have hlen : S.shown.length ≤ 256 := ok.turns.len.1
  refine c_sorted sk h.sh h.shp ok.shown hs (by omega) fun w1 nv hnv hnb f1 => ?_
  obtain ⟨A, cap, hne, hcap⟩ : ∃ A cap, nv = .slice A S.shown.length cap ∧ S.shown.length ≤ cap := by
    obtain ⟨A, cap, e, hc, _⟩ := Src.of_own hnv; exact ⟨A, cap, e, hc⟩
  subst hne
  have hsrc := Src.of_own hnv
  refine s_len usl22 ?_
  refine F17L1_inv (m := S.shown.length) k (fun m ρ w' => ∃ (i : Nat), i + m = S.shown.length ∧ Fr no w1 w' ∧ ρ 0 = ptr D ∧ ρ 12 = .slice A S.shown.length cap ∧ ρ 13 = i64 S.shown.length ∧ ρ 14 = i64 i ∧ FilesV w' w1.heap.size (ρ 3) ((S.files).take i)) ?_
    ⟨0, by omega, Fr.refl _ _, rfl, rfl, rfl, rfl, ⟨[], .nil, ⟨rfl, .inl ⟨rfl, rfl⟩⟩, by rintro b hb; cases hb⟩⟩
  rintro m ρ w' ⟨i, him, hf, h0, h12, h13, h14, hfv⟩
  rw [F17_1_eq]
  unfold F17_1
  rw [h0, h12, h13, h14]
  have f0' : Fr no w w' := (f1.or hf).mono fun b hb => hb.elim (fun h => h.elim) fun h => h.elim
  have hR : DRep w' D S O I L := h.fr f0' fun b hb => hb.elim
  have hspl : (S.files).length = S.shown.length := by simp [AD.files, AD.safes]
  by_cases hi : i < S.shown.length
  · refine s_lt_t (by omega) (pC_true ?_)
    refine s_ix_src usl22 (sze22 _) (hsrc.fr (by omega) hf fun _ _ h => h) (by omega) (by omega) fun bb o hcell => ?_
    generalize hp : S.shown[i] = p
    have hpm : p ∈ S.shown := hp ▸ List.getElem_mem hi
    refine s_ld (v := .string p.1) (Try.isAgg9 _) (by have := hcell 0 (.string p.1) (by omega) (by simp [nameVals, hi, hp]); simpa using this) ?_
    refine s_nil (fa93_1 (s_ldb (v := .map (some L.sh)) (Try.isAgg90 _) hR.disk rfl ?_))
    refine lk90 hR.sh p.1 (Try.zeroValue94 _) ?_
    have hg : alGet (mapVals L L.lsh) p.1 = some (ptr (L.loc p.2)) := by
      rw [mapVals_get, alGet_perm h.shp h.lshn, alGet_mem ok.shown.nodup hpm]; rfl
    rw [hg]
    have hr : reach S p.2 := .inl ⟨p.1, hpm⟩
    obtain ⟨sv, hv, cs, hbT, h1, h2, _⟩ := (hR.things _ hr).ex
    refine s_nil (fa101_1 (s_ldb (v := hv) (Try.isAgg30 _) hbT rfl ?_))
    have hTok := (ok.thing _ hr).ok.len
    refine c_cloneB (h2).1 (by omega) fun w2 v2 hv2 hb2 f2 => ?_
    obtain ⟨A2, c2, e2, hc2⟩ := hv2.form
    refine px_ok (w' := w2) (v := .agg #[.string p.1, v2]) (by subst e2; kernel_rfl) ?_
    refine px_ok (w' := w2.alloc (.cells #[.string p.1, v2] 52)) (v := .slice (some ⟨w2.heap.size, 0, none⟩) 1 1) (by subst e2; kernel_rfl) ?_
    have f3 := Fr.alloc no w2 (.cells #[.string p.1, v2] 52)
    have hl := own_lit w2 0 52 2 #[.string p.1, v2] 1 (Nat.zero_le _) (by unfold maxLen; omega) rfl
    have z3 : (w2.alloc (.cells #[.string p.1, v2] 52)).heap.size = w2.heap.size + 1 := by simp
    show px P _ (w2.alloc (.cells #[.string p.1, v2] 52)) _
    generalize w2.alloc (.cells #[.string p.1, v2] 52) = w3 at *
    obtain ⟨ps, hps, hrow, hvb⟩ := hfv
    have f23 : Fr no w' w3 := (f2.or f3).mono fun b hb => hb.elim (fun h => h.elim) fun h => h.elim
    have hfl : ((S.files).take i).length = i := by rw [List.length_take]; omega
    refine ap37 (own_fr hrow f23 fun _ _ h => h) (Src.of_own hl) (by intro u hu; simp at hu; rcases hu with rfl | rfl; rfl; rw [e2]; rfl) (by rw [hfl]; omega) (Nat.zero_le _) fun v4 w4 h4 f4 hb4 => ?_
    refine s_add_in (by omega) ?_
    have hz2 := f2.size
    have hz3 := f0'.size
    have hz4 := f4.size
    have hzf := hf.size
    have hvb' : ∀ b, sblk (ρ 3) = some b → w1.heap.size ≤ b := hvb
    have f04 : Fr no w1 w4 := ((hf.or f23).or f4).mono (by
      rintro b ((hb | hb) | hb)
      · exact hb.elim
      · exact hb.elim
      · exact .inr (hvb' b hb.symm))
    have hvlt : ∀ b, sblk (ρ 3) = some b → b < w'.heap.size := fun b hb => (own_blk_lt hrow hb).2
    have hv4 : ∀ b, sblk v4 = some b → sblk (ρ 3) = some b ∨ b = w3.heap.size := by
      intro b hb
      rcases hb4 with e | e
      · left; rw [← e]; exact hb
      · right; rw [e] at hb; injection hb with hb; exact hb.symm
    have espec : (S.files).take (i + 1) = (S.files).take i ++ [(p.1, (S.things p.2).shown)] := by
      rw [List.take_succ_eq_append_getElem (by omega)]
      congr 2
      subst hp
      simp [AD.files, AD.safes]
    refine ⟨m - 1, by omega, i + 1, by omega, f04, h0, h12, h13, ?_, ?_⟩
    · show i64 _ = i64 _; simp
    show FilesV w4 w1.heap.size v4 _
    rw [espec]
    refine ⟨ps ++ [(p.1, v2)], ?_, ?_, ?_⟩
    · refine All2.snoc (all2_imp hps fun f q hfq => ?_) ?_
      · obtain ⟨e, hS, hq⟩ := hfq
        refine ⟨e, (hS.fr f23 fun _ _ h => h).fr f4 fun b hb e' => (hq b hb).2.2 e'.symm, fun b hb => ?_⟩
        obtain ⟨q1, q2, q3⟩ := hq b hb
        refine ⟨q1, by omega, fun e' => ?_⟩
        rcases hv4 b e' with h' | h'
        · exact q3 h'
        · omega
      · refine ⟨rfl, (hv2.fr f3 fun _ _ h => h).fr f4 fun b hb e' => ?_, fun b hb => ?_⟩
        · have := hb2 b hb; have := hvlt b e'.symm; omega
        · have h5 := hb2 b hb
          refine ⟨by omega, by omega, fun e' => ?_⟩
          rcases hv4 b e' with h' | h'
          · have := hvlt b h'; omega
          · omega
    · have e1 : ((S.files).take i ++ [(p.1, (S.things p.2).shown)]).length = ((S.files).take i).length + 1 := by simp
      have e2 : (ps ++ [(p.1, v2)]).flatMap (fun p => [Value.string p.1, p.2]) = (ps.flatMap fun p => [Value.string p.1, p.2]) ++ #[Value.string p.1, v2].toList := by simp
      rw [e1, e2]; exact h4
    · intro b hb
      rcases hv4 b hb with h' | h'
      · exact hvb' b h'
      · omega
  · refine s_lt_f (by omega) (pC_false ?_)
    rw [F17_2_eq]
    unfold F17_2
    have e : (S.files).take i = S.files := List.take_of_length_le (by omega)
    rw [e] at hfv
    exact hk w' (ρ 3) (hfv.mono f1.size) f0'
theorem c_safe (sk : SortsKeys) {c : Nat} (h : DRep w D S O I L) (ok : S.Ok c) (hs : ∀ p ∈ S.safe, p.1.size ≤ maxLen)
    (hk : ∀ w' v, FilesV w' w.heap.size v (S.safes) → Fr no w w' → k v w') : pFn P 27 [ptr D] w k := by
  refine F27_in _ _ _ ?_
  unfold F27_0
  refine c_none h.disk ok.room.1 (pC_false ?_)
  refine s_nil (fa93_2 (s_ldb (v := .map (some L.sf)) (Try.isAgg90 _) h.disk rfl ?_))
  have hlen : S.safe.length ≤ 256 := ok.turns.len.2
  refine c_sorted sk h.sf h.sfp ok.safe hs (by omega) fun w1 nv hnv hnb f1 => ?_
  obtain ⟨A, cap, hne, hcap⟩ : ∃ A cap, nv = .slice A S.safe.length cap ∧ S.safe.length ≤ cap := by
    obtain ⟨A, cap, e, hc, _⟩ := Src.of_own hnv; exact ⟨A, cap, e, hc⟩
  subst hne
  have hsrc := Src.of_own hnv
  refine s_len usl22 ?_
  refine F27L1_inv (m := S.safe.length) k (fun m ρ w' => ∃ (i : Nat), i + m = S.safe.length ∧ Fr no w1 w' ∧ ρ 0 = ptr D ∧ ρ 12 = .slice A S.safe.length cap ∧ ρ 13 = i64 S.safe.length ∧ ρ 14 = i64 i ∧ FilesV w' w1.heap.size (ρ 3) ((S.safes).take i)) ?_
    ⟨0, by omega, Fr.refl _ _, rfl, rfl, rfl, rfl, ⟨[], .nil, ⟨rfl, .inl ⟨rfl, rfl⟩⟩, by rintro b hb; cases hb⟩⟩
  rintro m ρ w' ⟨i, him, hf, h0, h12, h13, h14, hfv⟩
  rw [F27_1_eq]
  unfold F27_1
  rw [h0, h12, h13, h14]
  have f0' : Fr no w w' := (f1.or hf).mono fun b hb => hb.elim (fun h => h.elim) fun h => h.elim
  have hR : DRep w' D S O I L := h.fr f0' fun b hb => hb.elim
  have hspl : (S.safes).length = S.safe.length := by simp [AD.files, AD.safes]
  by_cases hi : i < S.safe.length
  · refine s_lt_t (by omega) (pC_true ?_)
    refine s_ix_src usl22 (sze22 _) (hsrc.fr (by omega) hf fun _ _ h => h) (by omega) (by omega) fun bb o hcell => ?_
    generalize hp : S.safe[i] = p
    have hpm : p ∈ S.safe := hp ▸ List.getElem_mem hi
    refine s_ld (v := .string p.1) (Try.isAgg9 _) (by have := hcell 0 (.string p.1) (by omega) (by simp [nameVals, hi, hp]); simpa using this) ?_
    refine s_nil (fa93_2 (s_ldb (v := .map (some L.sf)) (Try.isAgg90 _) hR.disk rfl ?_))
    refine lk90 hR.sf p.1 (Try.zeroValue94 _) ?_
    have hg : alGet (mapVals L L.lsf) p.1 = some (ptr (L.loc p.2)) := by
      rw [mapVals_get, alGet_perm h.sfp h.lsfn, alGet_mem ok.safe.nodup hpm]; rfl
    rw [hg]
    have hr : reach S p.2 := .inr (.inl ⟨p.1, hpm⟩)
    obtain ⟨sv, hv, cs, hbT, h1, h2, _⟩ := (hR.things _ hr).ex
    refine s_nil (fa101_0 (s_ldb (v := sv) (Try.isAgg30 _) hbT rfl ?_))
    have hTok := (ok.thing _ hr).ok.len
    refine c_cloneB (h1).1 (by omega) fun w2 v2 hv2 hb2 f2 => ?_
    obtain ⟨A2, c2, e2, hc2⟩ := hv2.form
    refine px_ok (w' := w2) (v := .agg #[.string p.1, v2]) (by subst e2; kernel_rfl) ?_
    refine px_ok (w' := w2.alloc (.cells #[.string p.1, v2] 52)) (v := .slice (some ⟨w2.heap.size, 0, none⟩) 1 1) (by subst e2; kernel_rfl) ?_
    have f3 := Fr.alloc no w2 (.cells #[.string p.1, v2] 52)
    have hl := own_lit w2 0 52 2 #[.string p.1, v2] 1 (Nat.zero_le _) (by unfold maxLen; omega) rfl
    have z3 : (w2.alloc (.cells #[.string p.1, v2] 52)).heap.size = w2.heap.size + 1 := by simp
    show px P _ (w2.alloc (.cells #[.string p.1, v2] 52)) _
    generalize w2.alloc (.cells #[.string p.1, v2] 52) = w3 at *
    obtain ⟨ps, hps, hrow, hvb⟩ := hfv
    have f23 : Fr no w' w3 := (f2.or f3).mono fun b hb => hb.elim (fun h => h.elim) fun h => h.elim
    have hfl : ((S.safes).take i).length = i := by rw [List.length_take]; omega
    refine ap37 (own_fr hrow f23 fun _ _ h => h) (Src.of_own hl) (by intro u hu; simp at hu; rcases hu with rfl | rfl; rfl; rw [e2]; rfl) (by rw [hfl]; omega) (Nat.zero_le _) fun v4 w4 h4 f4 hb4 => ?_
    refine s_add_in (by omega) ?_
    have hz2 := f2.size
    have hz3 := f0'.size
    have hz4 := f4.size
    have hzf := hf.size
    have hvb' : ∀ b, sblk (ρ 3) = some b → w1.heap.size ≤ b := hvb
    have f04 : Fr no w1 w4 := ((hf.or f23).or f4).mono (by
      rintro b ((hb | hb) | hb)
      · exact hb.elim
      · exact hb.elim
      · exact .inr (hvb' b hb.symm))
    have hvlt : ∀ b, sblk (ρ 3) = some b → b < w'.heap.size := fun b hb => (own_blk_lt hrow hb).2
    have hv4 : ∀ b, sblk v4 = some b → sblk (ρ 3) = some b ∨ b = w3.heap.size := by
      intro b hb
      rcases hb4 with e | e
      · left; rw [← e]; exact hb
      · right; rw [e] at hb; injection hb with hb; exact hb.symm
    have espec : (S.safes).take (i + 1) = (S.safes).take i ++ [(p.1, (S.things p.2).safe)] := by
      rw [List.take_succ_eq_append_getElem (by omega)]
      congr 2
      subst hp
      simp [AD.files, AD.safes]
    refine ⟨m - 1, by omega, i + 1, by omega, f04, h0, h12, h13, ?_, ?_⟩
    · show i64 _ = i64 _; simp
    show FilesV w4 w1.heap.size v4 _
    rw [espec]
    refine ⟨ps ++ [(p.1, v2)], ?_, ?_, ?_⟩
    · refine All2.snoc (all2_imp hps fun f q hfq => ?_) ?_
      · obtain ⟨e, hS, hq⟩ := hfq
        refine ⟨e, (hS.fr f23 fun _ _ h => h).fr f4 fun b hb e' => (hq b hb).2.2 e'.symm, fun b hb => ?_⟩
        obtain ⟨q1, q2, q3⟩ := hq b hb
        refine ⟨q1, by omega, fun e' => ?_⟩
        rcases hv4 b e' with h' | h'
        · exact q3 h'
        · omega
      · refine ⟨rfl, (hv2.fr f3 fun _ _ h => h).fr f4 fun b hb e' => ?_, fun b hb => ?_⟩
        · have := hb2 b hb; have := hvlt b e'.symm; omega
        · have h5 := hb2 b hb
          refine ⟨by omega, by omega, fun e' => ?_⟩
          rcases hv4 b e' with h' | h'
          · have := hvlt b h'; omega
          · omega
    · have e1 : ((S.safes).take i ++ [(p.1, (S.things p.2).safe)]).length = ((S.safes).take i).length + 1 := by simp
      have e2 : (ps ++ [(p.1, v2)]).flatMap (fun p => [Value.string p.1, p.2]) = (ps.flatMap fun p => [Value.string p.1, p.2]) ++ #[Value.string p.1, v2].toList := by simp
      rw [e1, e2]; exact h4
    · intro b hb
      rcases hv4 b hb with h' | h'
      · exact hvb' b h'
      · omega
  · refine s_lt_f (by omega) (pC_false ?_)
    rw [F27_2_eq]
    unfold F27_2
    have e : (S.safes).take i = S.safes := List.take_of_length_le (by omega)
    rw [e] at hfv
    exact hk w' (ρ 3) (hfv.mono f1.size) f0'
end
end Go.Proofs.Ytcdcojpfealppaa
