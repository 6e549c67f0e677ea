/- Put together by a program (wip/tools/shake.py): Crash3. -/
import Derived.Test.YtcdcojpfealppaaGreatM7
set_option linter.unusedVariables false
set_option linter.unusedSimpArgs false
set_option maxRecDepth 100000
namespace Go.Proofs.YtcdcojpfealppaaGreat
open Go Go.Proofs Go.RowKit Go.Proofs.XRed Go.Proofs.XHeap Go.Proofs.XMaps Go.Proofs.XSlices Go.Proofs.XDisk Go.Proofs.XCalls Go.Proofs.XRange Go.Proofs.XKeys
theorem on_from {c : Turn} {l : Names} (hc : ∀ a b, c = .give a b → alGet l a ≠ none) {n : ByteArray} {t : Nat} (h : (n, t) ∈ c.on l) : (∃ n', (n', t) ∈ l) ∨ ∃ n', c = .mk n' t := by
  cases c with
  | mk m u =>
    rcases mem_setN.1 h with h | h
    · injection h with h1 h2; subst h2; exact .inr ⟨m, rfl⟩
    · exact .inl ⟨n, h.1⟩
  | give a b =>
    rcases mem_setN.1 h with h | h
    · injection h with h1 h2
      cases hg : alGet l a with
      | none => exact absurd hg (hc a b rfl)
      | some u => rw [hg] at h2; subst h2; exact .inl ⟨a, mem_of_alGet hg⟩
    · exact .inl ⟨n, (mem_alDel.1 h.1).1⟩
  | take m => exact .inl ⟨n, (mem_alDel.1 h).1⟩
theorem fold_from {s : Names} : ∀ {r : List Turn} {l : Names}, turnsOk l r s → ∀ {n : ByteArray} {t : Nat}, (n, t) ∈ s → (∃ n', (n', t) ∈ l) ∨ ∃ n', Turn.mk n' t ∈ r
  | [], l, h, n, t, hm => by rw [h.1] at hm; exact .inl ⟨n, hm⟩
  | c :: r, l, h, n, t, hm => by
    rcases fold_from (r := r) (l := c.on l) h.2.2 hm with ⟨n', h1⟩ | ⟨n', h1⟩
    · rcases on_from h.2.1 h1 with ⟨m, h2⟩ | ⟨m, h2⟩
      · exact .inl ⟨m, h2⟩
      · exact .inr ⟨m, h2 ▸ List.mem_cons_self⟩
    · exact .inr ⟨n', List.mem_cons_of_mem _ h1⟩
theorem crash_reach {S : AD} {c : Nat} (ok : S.Ok c) (picks : List Int) : ∀ p ∈ S.crashNames picks, reach S p.2 := by
  intro p hp
  have h1 := ok.turns.take (pickA picks 0 S.row.length)
  rcases fold_from h1 (n := p.1) (t := p.2) hp with ⟨n, h⟩ | ⟨n, h⟩
  · exact .inr (.inl ⟨n, h⟩)
  · exact .inr (.inr ⟨n, List.mem_of_mem_take h⟩)
def crashThings (S : AD) (picks : List Int) : Nat → Thg := fun j => if j < S.next then S.things j else match (S.crashNames picks)[j - S.next]? with
  | some p => crashThing S picks (j - S.next) p.2
  | none => S.things j
theorem crash_after (S : AD) (picks : List Int) : S.crash picks = AD.after S (crashThings S picks) (S.next + (S.crashNames picks).length) (midNames (S.crashNames picks) S.next (S.crashNames picks).length) := by
  have e : midNames (S.crashNames picks) S.next (S.crashNames picks).length = (S.crashNames picks).zipIdx.map fun q => (q.1.1, S.next + q.2) := by
    unfold midNames
    refine List.map_congr_left fun q hq => ?_
    have := (List.mem_zipIdx hq).2.1
    rw [if_pos (by omega)]
  rw [e]; rfl
section
variable {w w0 : World} {D : Nat} {S S' : AD} {O I : Nat → Prop} {L : Lay} {k : Value → World → Prop}
theorem crash_loop2 {c : Nat} {picks : List Int} {m b3 cap : Nat} {A : Option Addr} (h : DRep w0 D S O I L) (ok : S.Ok c) (hpl : picks.length ≤ 4611686018427387904)
    (hk : ∀ w' O' I' L', Nx w0 D O I w' (S.crash picks) O' I' L' → k (.tuple #[]) w') (hnb : ∀ b, A = some b → b.block ≠ m ∧ b.block ≠ b3)
    (j : Nat) (hj : j ≤ (S.crashNames picks).length) (lst : Names) (L1 : Lay) (Ob Ib : Nat → Prop) (M : Mid w0 w S L (S.crashNames picks) m b3 picks j lst L1 Ob Ib) (hsrc : Src w (.slice A (S.crashNames picks).length cap) 1 (S.crashNames picks).length (nameVals (S.crashNames picks)))
    (ρ : Env) (h0 : ρ 0 = ptr D) (h4 : ρ 4 = .func (.func 106) #[] #[ptr b3]) (h5 : ρ 5 = .map (some m)) (h41 : ρ 41 = .slice A (S.crashNames picks).length cap) (h42 : ρ 42 = i64 (S.crashNames picks).length) (h43 : ρ 43 = i64 j) : F58L2 k ρ w := by
  generalize hN : S.crashNames picks = N at *
  have hNo : Ordered N := by rw [← hN]; exact ok.safe.fold
  have hNr : ∀ p ∈ N, reach S p.2 := by rw [← hN]; exact crash_reach ok picks
  have hNl : N.length ≤ 256 := by rw [← hN]; exact (ok.turns.take (pickA picks 0 S.row.length)).len.1
  refine F58L2_inv (m := N.length - j) k (fun n ρ w' => ∃ (j : Nat) (lst : Names) (L1 : Lay) (Ob Ib : Nat → Prop), j + n = N.length ∧ Mid w0 w' S L N m b3 picks j lst L1 Ob Ib ∧ Src w' (.slice A N.length cap) 1 N.length (nameVals N) ∧ ρ 0 = ptr D ∧ ρ 4 = .func (.func 106) #[] #[ptr b3] ∧ ρ 5 = .map (some m) ∧ ρ 41 = .slice A N.length cap ∧ ρ 42 = i64 N.length ∧ ρ 43 = i64 j) ?_
    ⟨j, lst, L1, Ob, Ib, by omega, M, hsrc, h0, h4, h5, h41, h42, h43⟩
  clear M hsrc h0 h4 h5 h41 h42 h43
  rintro n ρ w' ⟨j, lst, L1, Ob, Ib, hjn, M, hsrc, h0, h4, h5, h41, h42, h43⟩
  rw [F58_3_eq]
  unfold F58_3
  rw [h4, h5, h41, h42, h43]
  by_cases hj : j < N.length
  · refine s_lt_t (by omega) (pC_true ?_)
    refine s_ix_src usl73 (sze73 _) hsrc (by omega) (by omega) fun bb o hcell => ?_
    refine s_ld (v := .string N[j].1) (Tryz.isAgg9 _) (by have := hcell 0 (.string N[j].1) (by omega) (by simp [nameVals, hj]); simpa using this) ?_
    refine M.step (kk := fun v1 v2 v3 v4 v5 v6 v7 w => px P (binSem .add 3 (.tmp 43) (.const (.int .i64 1)) (i64 j) (.int .i64 1)) w _) h ok hNr hNo.nodup hj hpl fun w5 lst' L1' Ob' Ib' M' f5 v1 v2 v3 v4 v5 v6 v7 => ?_
    refine s_add_in (by omega) ?_
    refine ⟨n - 1, by omega, j + 1, lst', L1', Ob', Ib', by omega, M', hsrc.fr (by omega) f5 ?_, h0, h4, h5, h41, h42, ?_⟩
    · intro b hb hb'
      cases A with
      | none => cases hb
      | some a =>
        injection hb with hb
        have := hnb a rfl
        rcases hb' with e | e
        · exact this.1 (hb.trans e)
        · exact this.2 (hb.trans e)
    · show i64 _ = i64 _; simp
  · refine s_lt_f (by omega) (pC_false ?_)
    have hjN : j = N.length := by omega
    subst hjN
    rw [F58_4_eq]
    have hR : DRep w' D S O I L := h.fr M.fr fun b hb => hb.elim
    have hat : ∀ p ∈ midNames N S.next N.length, ∃ i, ∃ hi : i < N.length, p.2 = S.next + i ∧ N[i]? = some N[i] := by
      intro p hp
      obtain ⟨i, hi⟩ := List.getElem?_of_mem hp
      have hil : i < N.length := by
        rcases Nat.lt_or_ge i N.length with h' | h'
        · exact h'
        · rw [List.getElem?_eq_none (by rw [midNames_len]; omega)] at hi; cases hi
      rw [midNames_at N S.next N.length i hil, if_pos hil] at hi
      injection hi with hi
      exact ⟨i, hil, by rw [← hi], by simp [hil]⟩
    refine crash_end (ρ := put ρ 44 (.bool false)) (m := m) (lst := lst) (N := midNames N S.next N.length) (L1 := L1) (Ob := Ob) (Ib := Ib) (th := crashThings S picks) (next := S.next + N.length) hR h0 h5 M.map M.perm ?_ ?_ M.om ?_ ?_ (fun b hb => (M.new b hb).2) ?_
    · intro p hp
      obtain ⟨i, hi, e, e2⟩ := hat p hp
      rw [e]
      have := M.things i N[i] hi e2
      unfold crashThings
      rw [if_neg (by omega), hN]
      have e3 : S.next + i - S.next = i := by omega
      rw [e3, e2]; exact this
    · intro p hp q hq e
      obtain ⟨i, hi, e1, _⟩ := hat p hp
      obtain ⟨i', hi', e2, _⟩ := hat q hq
      rw [e1, e2] at e ⊢
      rw [M.inj i i' hi hi' e]
    · intro b hb
      have := (M.new b (.inl hb)).1
      exact ⟨fun ho => by have := h.lt b (.inl ho); omega, fun hi => by have := h.lt b (.inr hi); omega, M.dis b hb⟩
    · intro b hb ho
      have := (M.new b (.inr hb)).1
      have := h.lt b (.inl ho); omega
    · intro w6 O' I' L6 hR6 f6 ho hi ho' hi'
      have ec : S.crash picks = AD.after S (crashThings S picks) (S.next + N.length) (midNames N S.next N.length) := by rw [crash_after, hN]
      refine hk w6 O' I' L6 ⟨by rw [ec]; exact hR6, (M.fr.or f6).mono ?_, ho, hi, ?_, ?_⟩
      · rintro b (hb | hb)
        · exact hb.elim
        · exact .inl (hb ▸ h.oD)
      · intro b hb
        rcases ho' b hb with hb | hb | hb
        · exact .inl hb
        · exact .inr (M.new b (.inl hb)).1
        · have := M.fr.size; exact .inr (by omega)
      · intro b hb
        rcases hi' b hb with hb | hb
        · exact .inl hb
        · exact .inr (M.new b (.inr hb)).1
theorem c_crashP (sk : SortsKeys) {c : Nat} {picks : List Int} {pv : Value} (h : DRep w D S O I L) (ok : S.Ok c) (hpl : picks.length ≤ 4611686018427387904) (hpv : Src w pv 1 picks.length (picks.map i64))
    (hnm : ∀ p ∈ S.crashNames picks, p.1.size ≤ maxLen) (hk : ∀ w' O' I' L', Nx w D O I w' (S.crash picks) O' I' L' → k (.tuple #[]) w') : pFn P 58 [ptr D, pv] w k := by
  refine F58_in _ _ _ _ ?_
  unfold F58_0
  obtain ⟨Ap, cp, hpe, hcp⟩ : ∃ A c, pv = .slice A picks.length c ∧ picks.length ≤ c := by obtain ⟨A, c, e, hc, _⟩ := hpv; exact ⟨A, c, e, hc⟩
  subst hpe
  refine s_box ?_
  have f1 := Fr.alloc no w (.cells #[.slice Ap picks.length cp] 39)
  have b1 := alloc_new w (.cells #[.slice Ap picks.length cp] 39)
  have z1 : (w.alloc (.cells #[.slice Ap picks.length cp] 39)).heap.size = w.heap.size + 1 := by simp
  show pFn P _ _ (w.alloc (.cells #[.slice Ap picks.length cp] 39)) _
  generalize w.alloc (.cells #[.slice Ap picks.length cp] 39) = w1 at *
  have h1 := h.fr f1 fun b hb => hb.elim
  have pk1 : Picks w1 w.heap.size w.heap.size picks := ⟨Nat.le_refl _, _, b1, hpv.fr (by omega) f1 fun _ _ h => h, fun hp b hb => hpv.lt (by omega) hp hb⟩
  refine c_none h1.disk ok.room.1 (pC_false (s_mkf ?_))
  refine s_nil (fa58_2 (s_ldb (v := .map (some L.sf)) (Tryz.isAgg54 _) h1.disk rfl ?_))
  refine c_cloneMap h1.sf fun w2 m2 f2 z2 => ?_
  have f2d : Fr no w1 w2.drew := (f2.or (Fr.drew no w2)).mono fun b hb => hb.elim (fun h => h.elim) fun h => h.elim
  have h2 := h1.fr f2d fun b hb => hb.elim
  have pk2 := pk1.fr f2d id fun _ _ h => h
  have m2d : SMap w2.drew w1.heap.size (mapVals L L.lsf) := m2.fr (Fr.drew no w2) id
  have zd : w2.drew.heap.size = w2.heap.size := rfl
  have hrowl := ok.row
  have hsm := ok.small
  obtain ⟨Ar, cr, hre, hcr⟩ : ∃ A c, L.rowv = .slice A S.row.length c ∧ S.row.length ≤ c := by obtain ⟨A, c, e, hc, _⟩ := Src.of_own h.row; exact ⟨A, c, e, hc⟩
  refine ⟨fun w' => w'.heap[D]? = some (.cells (dcells S L) 58 (0, 0)), h2.disk, ?_⟩
  refine q_of _ (fun w_ hS => s_nil ⟨rfl, rfl⟩) ?_
  refine q_of _ (fun w_ hS => fa58_3 ⟨rfl, rfl⟩) ?_
  refine q_of L.rowv (fun w_ hS => s_ldb (Tryz.isAgg55 _) hS rfl ⟨rfl, rfl⟩) ?_
  refine q_of _ (fun w_ hS => s_nil ⟨rfl, rfl⟩) ?_
  refine q_of _ (fun w_ hS => fa58_3 ⟨rfl, rfl⟩) ?_
  refine q_of L.rowv (fun w_ hS => s_ldb (Tryz.isAgg55 _) hS rfl ⟨rfl, rfl⟩) ?_
  rw [hre]
  refine q_of _ (fun w_ hS => s_len usl55 ⟨rfl, rfl⟩) ?_
  refine c_next pk2 (by omega) hpl fun w3 pk3 f3 z3 => ?_
  have hDlt := h.lt D (.inl h.oD)
  have hd3 := f3.get h2.disk (by omega)
  refine ⟨hd3, ?_⟩
  have e0 : pickHd picks S.row.length = pickA picks 0 S.row.length := by rw [← pickHd_drop]; rfl
  have hq : pickHd picks S.row.length ≤ S.row.length := pickHd_le _ _
  rw [e0] at hq ⊢
  refine q_of (.slice Ar (pickA picks 0 S.row.length) cr) (fun w_ hS => s_sl_h usl55 (sze55 _) (by omega) (by omega) ⟨by rw [Int.toNat_natCast], rfl⟩) ?_
  refine q_of _ (fun w_ hS => s_len usl55 ⟨rfl, rfl⟩) ?_
  generalize hqe : pickA picks 0 S.row.length = q at *
  have f03 : Fr no w w3 := ((f1.or f2d).or f3).mono (by
    rintro b ((hb | hb) | hb)
    · exact hb.elim
    · exact hb.elim
    · exact .inr (by omega))
  have m3 : SMap w3 w1.heap.size (mapVals L L.lsf) := m2d.fr f3 (by omega)
  have hsrc3 : Src w3 (.slice Ar q cr) 1 q ((S.row.map (turnVal L.loc)).take q) := by
    have h5 := Src.of_own (own_fr h.row f03 fun _ _ h => h)
    rw [hre] at h5
    have h6 := Src.front h5 hq
    rwa [Nat.mul_one] at h6
  have etl : picks.tail = picks.drop 1 := by rw [List.drop_one]
  rw [etl] at pk3
  refine F58L1_inv (m := q) k (fun n ρ w' => ∃ i : Nat, i + n = q ∧ Fr no w w' ∧ Fr (fun b => b = w1.heap.size) w3 w' ∧ SMap w' w1.heap.size (mapVals L ((S.row.take i).foldl (fun l c => c.onL l) L.lsf)) ∧ ρ 0 = ptr D ∧ ρ 4 = .func (.func 106) #[] #[ptr w.heap.size] ∧ ρ 5 = .map (some w1.heap.size) ∧ ρ 30 = .slice Ar q cr ∧ ρ 31 = i64 q ∧ ρ 32 = i64 i) ?_
    ⟨0, by omega, f03, Fr.refl _ _, m3, rfl, rfl, rfl, rfl, rfl, rfl⟩
  rintro n ρ w' ⟨i, hin, hf, hf3, hm, r0, r4, r5, r30, r31, r32⟩
  rw [F58_1_eq]
  unfold F58_1
  rw [r5, r30, r31, r32]
  have hfold := onL_fold_perm (r := S.row.take i) h.sfp h.lsfn
  by_cases hi : i < q
  · refine s_lt_t (by omega) (pC_true ?_)
    have hs' : Src w' (.slice Ar q cr) 1 q ((S.row.map (turnVal L.loc)).take q) := hsrc3.fr (by omega) hf3 fun b hb e => by
      have h7 : sblk L.rowv = some b := by rw [hre]; cases Ar <;> exact hb
      have := h.lt b (.inl (h.orow b h7)); omega
    refine s_ix_src usl55 (sze55 _) hs' (by omega) (by omega) fun bb o hcell => ?_
    have hir : i < S.row.length := by omega
    refine s_ld (v := turnVal L.loc S.row[i]) (Tryz.isAgg136 _) (by have := hcell 0 (turnVal L.loc S.row[i]) (by omega) (by simp [List.getElem?_take, hi, hir]); simpa using this) ?_
    refine c_on S.row[i] (fun a b e => ?_) hm fun w5 hm5 f5 => ?_
    · rw [alGet_perm hfold.1 hfold.2]
      exact turnsOk.at_ ok.turns (i := i) (a := a) (b := b) (by rw [List.getElem?_eq_getElem hir, e])
    refine s_add_in (by omega) ?_
    refine ⟨n - 1, by omega, i + 1, by omega, (hf.or f5).mono (by rintro b (hb | hb); exact hb.elim; exact .inr (by omega)), (hf3.or f5).mono (fun b hb => hb.elim .inl .inl), ?_, r0, r4, r5, r30, r31, ?_⟩
    · rw [List.take_succ_eq_append_getElem hir, List.foldl_append]; exact hm5
    · show i64 _ = i64 _; simp
  · refine s_lt_f (by omega) (pC_false ?_)
    have hiq : i = q := by omega
    subst hiq
    rw [F58_2_eq]
    unfold F58_2
    have r5' : put ρ 33 (.bool false) 5 = .map (some w1.heap.size) := r5
    rw [r5']
    have eN : (S.row.take i).foldl (fun l c => c.on l) S.safe = S.crashNames picks := by unfold AD.crashNames; rw [hqe]
    rw [eN] at hfold
    have hNo : Ordered (S.crashNames picks) := ok.safe.fold
    have hNl : (S.crashNames picks).length ≤ 256 := (ok.turns.take (pickA picks 0 S.row.length)).len.1
    refine c_sorted sk hm hfold.1 hNo hnm (by omega) fun w5 nv hnv hnb f5 => ?_
    obtain ⟨An, cn, hne, hcn⟩ : ∃ A c, nv = .slice A (S.crashNames picks).length c ∧ (S.crashNames picks).length ≤ c := by obtain ⟨A, c, e, hc, _⟩ := Src.of_own hnv; exact ⟨A, c, e, hc⟩
    subst hne
    refine s_len usl73 ?_
    have zf3 := hf3.size
    have f05 : Fr no w w5 := (hf.or f5).mono fun b hb => hb.elim (fun h => h.elim) fun h => h.elim
    have pk5 : Picks w5 w.heap.size w.heap.size (picks.drop 1) := (pk3.fr hf3 (by omega) fun c hc => by omega).fr f5 id fun _ _ h => h
    refine crash_loop2 (m := w1.heap.size) (b3 := w.heap.size) h ok hpl hk ?_ 0 (Nat.zero_le _) _ L (fun b => b = w1.heap.size) no ⟨hm.fr f5 id, by rw [midNames_zero]; exact hfold.1, fun _ _ => rfl, pk5, fun i p hi => absurd hi (Nat.not_lt_zero _), fun i i' hi => absurd hi (Nat.not_lt_zero _), rfl, ?_, fun b _ h => h, by show ¬ w.heap.size = w1.heap.size; omega, id, f05⟩ (Src.of_own hnv) _ r0 r4 r5 rfl rfl rfl
    · intro b hb
      have := hnb b.block (by rw [hb]; rfl)
      exact ⟨by omega, by omega⟩
    · rintro b (hb | hb)
      · have := f5.size; exact ⟨by omega, by omega⟩
      · exact hb.elim
theorem c_crash (sk : SortsKeys) {c : Nat} {picks : List Int} {pv : Value} (h : DRep w D S O I L) (ok : S.Ok c) (hpl : picks.length ≤ 4611686018427387904) (hpv : Src w pv 1 picks.length (picks.map i64)) (hpb : ∀ b, sblk pv = some b → b < w.heap.size)
    (hnm : ∀ p ∈ S.crashNames picks, p.1.size ≤ maxLen) (hk : ∀ w' O' I' L', Nx w D O I w' (S.crash picks) O' I' L' → k (.tuple #[]) w') : pFn P 58 [ptr D, pv] w k := c_crashP sk h ok hpl hpv hnm hk
end
end Go.Proofs.YtcdcojpfealppaaGreat
