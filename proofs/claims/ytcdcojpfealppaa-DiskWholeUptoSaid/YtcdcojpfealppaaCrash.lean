/- Crash, its parts. -/
import Derived.Test.YtcdcojpfealppaaFiles
set_option linter.unusedVariables false
set_option linter.unusedSimpArgs false
set_option maxRecDepth 100000
namespace Go.Proofs.Ytcdcojpfealppaa
open Go Go.Proofs Go.RowKit Go.Proofs.XRed Go.Proofs.XHeap Go.Proofs.XMaps Go.Proofs.XSlices Go.Proofs.XDisk Go.Proofs.XCalls Go.Proofs.XRange Go.Proofs.XKeys
theorem turnsOk.at_ {s : Names} : ∀ {r : List Turn} {l : Names}, turnsOk l r s → ∀ {i : Nat} {a b : ByteArray}, r[i]? = some (.give a b) → alGet ((r.take i).foldl (fun l c => c.on l) l) a ≠ none
  | [], l, _, i, a, b, h => by simp at h
  | c :: r, l, ho, i, a, b, h => by
    cases i with
    | zero => simp only [List.getElem?_cons_zero, Option.some.injEq] at h; exact ho.2.1 a b h
    | succ i => exact turnsOk.at_ (r := r) (l := c.on l) ho.2.2 (by simpa using h)
theorem onL_fold_perm {r : List Turn} : ∀ {l l' : Names}, l.Perm l' → (alKeys l).Nodup → (r.foldl (fun l c => c.onL l) l).Perm (r.foldl (fun l c => c.on l) l') ∧ (alKeys (r.foldl (fun l c => c.onL l) l)).Nodup := by
  induction r with
  | nil => intro l l' h hn; exact ⟨h, hn⟩
  | cons c r ih =>
    intro l l' h hn
    have h1 := c.onL_perm h hn
    have h2 : (alKeys (c.on l')).Nodup := c.on_nodup ((alKeys_perm h).nodup_iff.1 hn)
    exact ih h1 ((alKeys_perm h1).nodup_iff.2 h2)
/-- The picks that are left, in memory from ahead of n0; the variable lies behind. -/
def Picks (w : World) (n0 b : Nat) (ps : List Int) : Prop := n0 ≤ b ∧ ∃ v, w.heap[b]? = some (.cells #[v] 57 (0, 0)) ∧ Src w v 1 ps.length (ps.map i64) ∧ (0 < ps.length → ∀ c, sblk v = some c → c < n0)
theorem src_frz {O : Nat → Prop} {w w' : World} {x : Value} {size m : Nat} {cs : List Value} (h : Src w x size m cs) (hs : 0 < size) (hf : Fr O w w') (hn : 0 < m → ∀ b, sblk x = some b → ¬ O b) : Src w' x size m cs := by
  rcases Nat.eq_zero_or_pos m with h0 | h0
  · obtain ⟨A, c, e, hc, hl, _⟩ := h
    exact ⟨A, c, e, hc, hl, fun h => absurd h (by omega)⟩
  · exact h.fr hs hf (hn h0)
theorem Picks.fr {O : Nat → Prop} {w w' : World} {n0 b : Nat} {ps : List Int} (h : Picks w n0 b ps) (hf : Fr O w w') (hb : ¬ O b) (hv : ∀ c, c < n0 → ¬ O c) : Picks w' n0 b ps := by
  obtain ⟨h0, v, h1, h2, h3⟩ := h
  exact ⟨h0, v, hf.get h1 hb, src_frz h2 (by omega) hf fun hp c hc => hv c (h3 hp c hc), h3⟩
def pickHd (ps : List Int) (most : Nat) : Nat := match ps with
  | [] => 0
  | p :: _ => roundA p most
theorem roundA_cast (p : Int) (most : Nat) : ((roundA p most : Nat) : Int) = p.emod (most + 1) := by
  unfold roundA
  exact Int.toNat_of_nonneg (Int.emod_nonneg p (by omega))
theorem roundA_le (p : Int) (most : Nat) : roundA p most ≤ most := by
  have h1 := roundA_cast p most
  have h2 : p.emod (most + 1) < most + 1 := Int.emod_lt_of_pos p (by omega)
  omega
theorem pickHd_le (ps : List Int) (most : Nat) : pickHd ps most ≤ most := by
  cases ps with
  | nil => exact Nat.zero_le _
  | cons p r => exact roundA_le p most
section
variable {w : World} {D : Nat} {S S' : AD} {O I : Nat → Prop} {L : Lay} {k : Value → World → Prop}
theorem c_next {n0 b most : Nat} {ps : List Int} (h : Picks w n0 b ps) (hm : most ≤ 4611686018427387904) (hp : ps.length ≤ 4611686018427387904)
    (hk : ∀ w', Picks w' n0 b ps.tail → Fr (fun c => c = b) w w' → w'.heap.size = w.heap.size → k (i64 (pickHd ps most)) w') : pFn P 54 [i64 most, ptr b] w k := by
  refine F54_in _ _ _ _ ?_
  unfold F54_0
  obtain ⟨hn0, v, h1, h2, h3⟩ := h
  obtain ⟨A, c, hv, hc⟩ : ∃ A c, v = .slice A ps.length c ∧ ps.length ≤ c := by obtain ⟨A, c, e, hc, _⟩ := h2; exact ⟨A, c, e, hc⟩
  subst hv
  refine s_ldb (v := .slice A ps.length c) (Try.isAgg57 _) h1 rfl (s_len usl57 ?_)
  cases ps with
  | nil => exact s_eqi_t rfl (pC_true (hk w ⟨hn0, _, h1, h2, h3⟩ (Fr.refl _ _) rfl))
  | cons p r =>
    refine s_eqi_f (by have hpr : (p :: r).length = r.length + 1 := rfl; omega) (pC_false ?_)
    refine s_ldb (v := .slice A (p :: r).length c) (Try.isAgg57 _) h1 rfl ?_
    refine s_ix_src usl57 (sze57 _) h2 (by omega) (by have hpr : (p :: r).length = r.length + 1 := rfl; omega) fun bb o hcell => ?_
    refine s_ld (v := i64 p) (Try.isAgg3 _) (by have := hcell 0 (i64 p) (by omega) (by simp); simpa using this) ?_
    refine s_ldb (v := .slice A (p :: r).length c) (Try.isAgg57 _) h1 rfl ?_
    refine s_sl_l usl57 (sze57 _) (by omega) (by have hpr : (p :: r).length = r.length + 1 := rfl; omega) ?_
    have hcut := Src.cut h2 (l := 1) (h' := (p :: r).length) (by simp) (Nat.le_refl _)
    have e1 : ((i64 p :: r.map i64).drop (1 * 1)).take (((p :: r).length - 1) * 1) = r.map i64 := by
      simp only [Nat.mul_one, List.drop_succ_cons, List.drop_zero, List.length_cons, Nat.add_sub_cancel]
      exact List.take_of_length_le (by simp)
    have e2 : (p :: r).length - 1 = r.length := by simp
    simp only [List.map_cons] at hcut
    rw [e1, e2] at hcut
    have e3 : (1 : Int).toNat = 1 := rfl
    rw [e3]
    have hbl : ∀ x, sblk (sliced A 1 (p :: r).length c 1) = some x → sblk (.slice A (p :: r).length c) = some x := by
      intro x hx
      unfold sliced at hx
      cases A with
      | none => simp at hx; cases hx
      | some a =>
        split at hx
        · exact hx
        · simp only [Option.map_some, sblk, Option.some.injEq] at hx ⊢
          rw [← hx]; unfold Addr.add; split <;> rfl
    have h1c : (sliced A 1 (p :: r).length c 1).cells = #[sliced A 1 (p :: r).length c 1] ∧ (sliced A 1 (p :: r).length c 1).oneCell' = true := ⟨rfl, rfl⟩
    refine s_st (Try.sizeOf57 _) h1c.1 h1c.2 h1 (by show 0 < 1; decide) ?_
    have hb' := set_same h1 0 (sliced A 1 (p :: r).length c 1)
    have f1 : Fr (fun x => x = b) w (w.setCell ⟨b, 0, none⟩ (sliced A 1 (p :: r).length c 1)) := Fr.setCell w ⟨b, 0, none⟩ _
    refine c_round (by omega) (by omega) ?_
    have e4 : p.emod ((most : Int) + 1) = ((pickHd (p :: r) most : Nat) : Int) := (roundA_cast p most).symm
    rw [e4]
    refine hk _ ⟨hn0, _, hb', hcut.fr (by omega) f1 fun x hx => by have := h3 (by simp) x (hbl x hx); omega, fun _ x hx => h3 (by simp) x (hbl x hx)⟩ f1 (by simp [World.setCell])
/-- The disk that a crash leaves. -/
def AD.after (S : AD) (th : Nat → Thg) (next : Nat) (N : Names) : AD := { S with things := th, next := next, shown := N, safe := N, row := [], off := false, plan := .zero, since := 0, strokes := 0 }
theorem crash_end {ρ : Env} {m : Nat} {lst N : Names} {L1 : Lay} {Ob Ib : Nat → Prop} {th : Nat → Thg} {next : Nat} (h : DRep w D S O I L) (h0 : ρ 0 = ptr D) (h5 : ρ 5 = .map (some m)) (hm : SMap w m (mapVals L1 lst)) (hp : lst.Perm N)
    (hT : ∀ p ∈ N, TRep w Ob Ib (L1.loc p.2) (.slice none 0 0) (th p.2)) (hinj : ∀ p ∈ N, ∀ q ∈ N, L1.loc p.2 = L1.loc q.2 → p.2 = q.2) (hmO : Ob m) (hdis : ∀ b, Ob b → ¬ O b ∧ ¬ I b ∧ ¬ Ib b) (hdisI : ∀ b, Ib b → ¬ O b) (hlt : ∀ b, Ob b ∨ Ib b → b < w.heap.size)
    (hk : ∀ w' O' I' L', DRep w' D (AD.after S th next N) O' I' L' → Fr (fun b => b = D) w w' → (∀ b, O b → O' b) → (∀ b, I b → I' b) → (∀ b, O' b → O b ∨ Ob b ∨ w.heap.size ≤ b) → (∀ b, I' b → I b ∨ Ib b) → k (.tuple #[]) w') : F15_4 k ρ w := by
  unfold F15_4
  rw [h0, h5]
  refine c_cloneMap hm fun w1 hm1 f1 z1 => ?_
  have hd1 := f1.get h.disk id
  refine s_nil (fa93_2 (s_st (Try.sizeOf90 _) rfl rfl hd1 (by show 2 < 11; decide) ?_))
  have hd2 := set_same hd1 2 (.map (some m))
  have f2 : Fr (fun b => b = D) w1 _ := Fr.setCell w1 ⟨D, 2, none⟩ (.map (some m))
  refine s_nil (fa93_1 (s_st (Try.sizeOf90 _) rfl rfl hd2 (by show 1 < 11; decide) ?_))
  have hd3 := set_same hd2 1 (.map (some w.heap.size))
  have f3 : Fr (fun b => b = D) _ _ := Fr.setCell (w1.setCell ⟨D, 2, none⟩ (.map (some m))) ⟨D, 1, none⟩ (.map (some w.heap.size))
  refine s_nil (fa93_3 (s_st (Try.sizeOf91 _) rfl rfl hd3 (by show 3 < 11; decide) ?_))
  have hd4 := set_same hd3 3 (.slice none 0 0)
  have f4 : Fr (fun b => b = D) _ _ := Fr.setCell ((w1.setCell ⟨D, 2, none⟩ (.map (some m))).setCell ⟨D, 1, none⟩ (.map (some w.heap.size))) ⟨D, 3, none⟩ (.slice none 0 0)
  have f24 := (f2.or f3).or f4
  generalize hw4 : (((w1.setCell ⟨D, 2, none⟩ (.map (some m))).setCell ⟨D, 1, none⟩ (.map (some w.heap.size))).setCell ⟨D, 3, none⟩ (.slice none 0 0)) = w4 at *
  have hd4' : w4.heap[D]? = some (.cells #[i64 S.room, .map (some w.heap.size), .map (some m), .slice none 0 0, i64 S.strokes, i64 S.plan.off, i64 S.plan.from_, i64 S.plan.to_, i64 S.since, .bool S.off, L.readsv] 93 (0, 0)) := hd4.trans (by kernel_rfl)
  clear hd4
  refine px_ok (w' := w4) (v := .agg #[i64 0, i64 0, i64 0]) (by kernel_rfl) ?_
  refine s_nil (fa93_7 (s_st (Try.sizeOf4 _) rfl rfl hd4' (by show 9 < 11; decide) ?_))
  have hd5 := set_same hd4' 9 (.bool false)
  have f5 : Fr (fun b => b = D) w4 (w4.setCell ⟨D, 9, none⟩ (.bool false)) := Fr.setCell w4 ⟨D, 9, none⟩ (.bool false)
  refine s_nil (fa93_5 ?_)
  refine s_stN (vs := [i64 0, i64 0, i64 0]) (Try.sizeOf46 _) rfl (by intro v hv; simp at hv; subst hv; rfl) hd5 (by show 5 + 3 ≤ 11; decide) fun w6 hd6 f6 z6 => ?_
  have hd6' : w6.heap[D]? = some (.cells #[i64 S.room, .map (some w.heap.size), .map (some m), .slice none 0 0, i64 S.strokes, i64 0, i64 0, i64 0, i64 S.since, .bool false, L.readsv] 93 (0, 0)) := hd6.trans (by kernel_rfl)
  clear hd6 hd5
  refine s_nil (fa93_6 (s_st (Try.sizeOf3 _) rfl rfl hd6' (by show 8 < 11; decide) ?_))
  have hd7 := set_same hd6' 8 (i64 0)
  have f7 : Fr (fun b => b = D) w6 (w6.setCell ⟨D, 8, none⟩ (i64 0)) := Fr.setCell w6 ⟨D, 8, none⟩ (i64 0)
  refine s_nil (fa93_4 (s_st (Try.sizeOf3 _) rfl rfl hd7 (by show 4 < 11; decide) ?_))
  have hd8 := set_same hd7 4 (i64 0)
  have f8 : Fr (fun b => b = D) _ ((w6.setCell ⟨D, 8, none⟩ (i64 0)).setCell ⟨D, 4, none⟩ (i64 0)) := Fr.setCell (w6.setCell ⟨D, 8, none⟩ (i64 0)) ⟨D, 4, none⟩ (i64 0)
  show k _ ((w6.setCell ⟨D, 8, none⟩ (i64 0)).setCell ⟨D, 4, none⟩ (i64 0))
  generalize (w6.setCell ⟨D, 8, none⟩ (i64 0)).setCell ⟨D, 4, none⟩ (i64 0) = w8 at *
  have f18 : Fr (fun b => b = D) w1 w8 := ((((f24.or f5).or f6).or f7).or f8).mono (by
    rintro b ((((((hb | hb) | hb) | hb) | hb) | hb) | hb) <;> exact .inl hb)
  have f08 : Fr (fun b => b = D) w w8 := (f1.or f18).mono fun b hb => hb.elim (fun h => h.elim) .inl
  have hDO := h.oD
  have hDlt := h.lt D (.inl hDO)
  have hmD : m ≠ D := fun e => (hdis m hmO).1 (e ▸ hDO)
  have hz8 := f08.size
  have hz18 := f18.size
  have hTD : ∀ b, Ob b → b ≠ D := fun b hb e => (hdis b hb).1 (e ▸ hDO)
  have hmlt := hlt m (.inl hmO)
  have hr : ∀ t, reach (AD.after S th next N) t → ∃ p ∈ N, p.2 = t := by
    rintro t (⟨n, h'⟩ | ⟨n, h'⟩ | ⟨n, h'⟩)
    · exact ⟨_, h', rfl⟩
    · exact ⟨_, h', rfl⟩
    · cases h'
  refine hk w8 (fun b => O b ∨ Ob b ∨ b = w.heap.size) (fun b => I b ∨ Ib b) { L with sh := w.heap.size, sf := m, lsh := lst, lsf := lst, loc := L1.loc, trow := fun _ => .slice none 0 0, rowv := .slice none 0 0 } ?_ f08 (fun b => .inl) (fun b => .inl) ?_ fun b => id
  · exact {
      disk := hd8
      sh := hm1.fr f18 (by omega)
      shp := hp
      sf := (hm.fr f1 id).fr f18 hmD
      sfp := hp
      ne := by show w.heap.size ≠ m; omega
      row := ⟨rfl, .inl ⟨rfl, rfl⟩⟩
      reads := own_fr h.reads f08 (by rintro b hb e; obtain ⟨c1, h1⟩ := own_obj h.reads hb; rw [e] at h1; exact absurd (two_types h1 h.disk) (by decide))
      things := fun t ht => by
        obtain ⟨p, hpN, rfl⟩ := hr t ht
        have h1 := hT p hpN
        have h2 := h1.fr (O' := O) f08 (fun e => hTD _ h1.own e) (by rintro b hb; cases hb) (fun b hb e => hdisI b hb (e ▸ hDO))
        exact h2.mono (O := Ob) (fun b hb => .inr (.inl hb)) fun b hb => .inr hb
      inj := fun t u ht hu e => by
        obtain ⟨p, hpN, rfl⟩ := hr t ht
        obtain ⟨q, hqN, rfl⟩ := hr u hu
        exact hinj p hpN q hqN e
      rows := by intro t u _ _ _ b hb; cases hb
      oD := .inl hDO
      osh := .inr (.inr rfl)
      osf := .inr (.inl hmO)
      orow := by rintro b hb; cases hb
      oreads := fun b hb => .inl (h.oreads b hb)
      apart := by
        rintro b (hb | hb | hb) (hi | hi)
        · exact h.apart b hb hi
        · exact hdisI b hi hb
        · exact (hdis b hb).2.1 hi
        · exact (hdis b hb).2.2 hi
        · have := h.lt b (.inr hi); omega
        · have := hlt b (.inr hi); omega
      lt := by
        rintro b ((hb | hb | hb) | (hb | hb))
        · have := h.lt b (.inl hb); omega
        · have := hlt b (.inl hb); omega
        · omega
        · have := h.lt b (.inr hb); omega
        · have := hlt b (.inr hb); omega }
  · rintro b (hb | hb | hb)
    · exact .inl hb
    · exact .inr (.inl hb)
    · exact .inr (.inr (by omega))
theorem pickHd_drop (picks : List Int) (k most : Nat) : pickHd (picks.drop k) most = pickA picks k most := by
  unfold pickA
  rw [← List.head?_drop]
  cases picks.drop k <;> rfl
theorem tail_drop (picks : List Int) (k : Nat) : (picks.drop k).tail = picks.drop (k + 1) := by rw [List.tail_drop]
/-- The names while the crash makes new things: those ahead of j lead to new ones. -/
def midNames (N : Names) (next j : Nat) : Names := N.zipIdx.map fun q => (q.1.1, if q.2 < j then next + q.2 else q.1.2)
theorem midNames_keys (N : Names) (next j : Nat) : alKeys (midNames N next j) = alKeys N := by
  unfold midNames alKeys
  rw [List.map_map]
  have : ((fun p : ByteArray × Nat => p.1) ∘ fun q : (ByteArray × Nat) × Nat => (q.1.1, if q.2 < j then next + q.2 else q.1.2)) = (fun p : ByteArray × Nat => p.1) ∘ Prod.fst := rfl
  rw [this, ← List.map_map, List.zipIdx_map_fst]
theorem midNames_len (N : Names) (next j : Nat) : (midNames N next j).length = N.length := by simp [midNames]
theorem midNames_at (N : Names) (next j i : Nat) (h : i < N.length) : (midNames N next j)[i]? = some (N[i].1, if i < j then next + i else N[i].2) := by
  simp [midNames, List.getElem?_zipIdx, h]
theorem midNames_zero (N : Names) (next : Nat) : midNames N next 0 = N := by
  apply List.ext_getElem?
  intro i
  by_cases h : i < N.length
  · rw [midNames_at N next 0 i h]; simp [h]
  · rw [List.getElem?_eq_none (by rw [midNames_len]; omega), List.getElem?_eq_none (by omega)]
theorem midNames_step (N : Names) (next j : Nat) (hn : (alKeys N).Nodup) (h : j < N.length) : alSet (midNames N next j) N[j].1 (next + j) = midNames N next (j + 1) := by
  have hmem : (N[j].1, N[j].2) ∈ midNames N next j := List.mem_of_getElem? (by rw [midNames_at N next j j h]; simp)
  unfold alSet
  rw [if_pos (List.any_eq_true.2 ⟨_, hmem, by simp⟩)]
  apply List.ext_getElem?
  intro i
  by_cases hi : i < N.length
  · rw [List.getElem?_map, midNames_at N next j i hi, midNames_at N next (j + 1) i hi]
    simp only [Option.map_some]
    by_cases e : i = j
    · subst e; simp
    · have hne : N[i].1 ≠ N[j].1 := by
        intro he
        have hli : i < (alKeys N).length := by simpa [alKeys] using hi
        have hlj : j < (alKeys N).length := by simpa [alKeys] using h
        have h1 : (alKeys N)[i] = (alKeys N)[j] := by simpa [alKeys] using he
        rcases Nat.lt_or_gt_of_ne e with hlt | hlt
        · exact (List.pairwise_iff_getElem.1 hn) i j hli hlj hlt h1
        · exact (List.pairwise_iff_getElem.1 hn) j i hlj hli hlt h1.symm
      rw [if_neg hne]
      have : (i < j + 1) ↔ (i < j) := by omega
      simp [this]
  · rw [List.getElem?_map, List.getElem?_eq_none (by rw [midNames_len]; omega), List.getElem?_eq_none (by rw [midNames_len]; omega)]; rfl
end
end Go.Proofs.Ytcdcojpfealppaa
