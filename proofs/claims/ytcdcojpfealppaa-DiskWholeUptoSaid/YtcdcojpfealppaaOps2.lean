/- Calls of a disk: SyncNames, Plan. -/
import Derived.Test.YtcdcojpfealppaaOps
set_option linter.unusedVariables false
set_option linter.unusedSimpArgs false
set_option maxRecDepth 100000
namespace Go.Proofs.Ytcdcojpfealppaa
open Go Go.Proofs Go.RowKit Go.Proofs.XRed Go.Proofs.XHeap Go.Proofs.XMaps Go.Proofs.XSlices Go.Proofs.XDisk Go.Proofs.XCalls Go.Proofs.XRange
section
variable {w : World} {D : Nat} {S S' : AD} {O I : Nat → Prop} {L : Lay} {k : Value → World → Prop}
theorem c_cloneMap {m : Nat} {l : List (ByteArray × Value)} (h : SMap w m l) (hk : ∀ w', SMap w' w.heap.size l → Fr no w w' → w'.heap.size = w.heap.size + 1 → k (.map (some w.heap.size)) w') : pFn P 50 [.map (some m)] w k := by
  refine F50_in _ _ _ ?_
  unfold F50_0
  refine s_eqmn Try.underlying90 (pC_false (s_mki cc90 ?_))
  refine pFn_extern Try.func73 (by kernel_rfl) (by kernel_rfl) (by kernel_rfl) (e := Extern.MapsClone.clone) (by kernel_rfl) ?_
  exact s_clonem h fun w' h' hf hz => s_ta Try.underlying90 (hk w' h' hf hz)
/-- The names are made safe. -/
def AD.fixed (S : AD) : AD := { S with safe := S.shown, row := [] }
theorem c_syncNamesC {b1 : Nat} (h : DRep w D S O I L) (hb1 : w.heap[b1]? = some (.cells #[ptr D] 24 (0, 0)))
    (hk : ∀ w' O' L', Nx w D O I w' (AD.fixed S) O' I L' → k (.tuple #[]) w') : pFn P 49 [ptr b1] w k := by
  refine F49_in _ _ _ ?_
  unfold F49_0
  have hbD : b1 ≠ D := by rintro rfl; exact absurd (two_types hb1 h.disk) (by decide)
  refine ⟨fun w' => w'.heap[b1]? = some (.cells #[ptr D] 24 (0, 0)) ∧ ∃ cs, w'.heap[D]? = some (.cells cs 93 (0, 0)) ∧ cs[1]? = some (.map (some L.sh)), ⟨hb1, _, h.disk, rfl⟩, ?_⟩
  refine q_of (ptr D) (fun w_ hS => s_ldb (Try.isAgg24 _) hS.1 rfl ⟨rfl, rfl⟩) ?_
  refine q_of (ptr D) (fun w_ hS => s_ldb (Try.isAgg24 _) hS.1 rfl ⟨rfl, rfl⟩) ?_
  refine q_of (ptr D) (fun w_ hS => s_ldb (Try.isAgg24 _) hS.1 rfl ⟨rfl, rfl⟩) ?_
  refine q_of _ (fun w_ hS => s_nil ⟨rfl, rfl⟩) ?_
  refine q_of _ (fun w_ hS => fa93_1 ⟨rfl, rfl⟩) ?_
  refine q_of (.map (some L.sh)) (fun w_ hS => by obtain ⟨_, cs, h1, h2⟩ := hS; exact s_ldb (Try.isAgg90 _) h1 h2 ⟨rfl, rfl⟩) ?_
  have f0 : Fr no w w.drew := Fr.drew _ _
  refine c_cloneMap (h.sh.fr f0 id) fun w1 hm f1 z1 => ?_
  have z0 : w.drew.heap.size = w.heap.size := rfl
  rw [z0] at hm z1
  have hd1 := f1.get (f0.get h.disk id) id
  have hb11 := f1.get (f0.get hb1 id) id
  refine ⟨⟨hb11, _, hd1, rfl⟩, ?_⟩
  refine q_of _ (fun w_ hS => s_nil ⟨rfl, rfl⟩) ?_
  refine q_of _ (fun w_ hS => fa93_2 ⟨rfl, rfl⟩) ?_
  refine s_st (Try.sizeOf90 _) rfl rfl hd1 (by show 2 < 11; decide) ?_
  have hd2 := set_same hd1 2 (.map (some w.heap.size))
  have f2 : Fr (fun b => b = D) w1 (w1.setCell ⟨D, 2, none⟩ (.map (some w.heap.size))) := Fr.setCell w1 ⟨D, 2, none⟩ _
  have z2 : (w1.setCell ⟨D, 2, none⟩ (.map (some w.heap.size))).heap.size = w1.heap.size := by simp [World.setCell]
  have hb12 := f2.get hb11 hbD
  show (fun w' => w'.heap[b1]? = some (.cells #[ptr D] 24 (0, 0)) ∧ ∃ cs, w'.heap[D]? = some (.cells cs 93 (0, 0)) ∧ cs[1]? = some (.map (some L.sh))) (w1.setCell ⟨D, 2, none⟩ (.map (some w.heap.size))) ∧ _
  refine ⟨⟨hb12, _, hd2, rfl⟩, ?_⟩
  refine q_of _ (fun w_ hS => s_nil ⟨rfl, rfl⟩) ?_
  refine q_of _ (fun w_ hS => fa93_3 ⟨rfl, rfl⟩) ?_
  refine s_st (Try.sizeOf91 _) rfl rfl hd2 (by show 3 < 11; decide) ?_
  have hd3 := set_same hd2 3 (.slice none 0 0)
  have f3 : Fr (fun b => b = D) (w1.setCell ⟨D, 2, none⟩ (.map (some w.heap.size))) ((w1.setCell ⟨D, 2, none⟩ (.map (some w.heap.size))).setCell ⟨D, 3, none⟩ (.slice none 0 0)) := Fr.setCell _ ⟨D, 3, none⟩ _
  have z3 : ((w1.setCell ⟨D, 2, none⟩ (.map (some w.heap.size))).setCell ⟨D, 3, none⟩ (.slice none 0 0)).heap.size = w.heap.size + 1 := by simp [World.setCell, z1]
  have hfr : Fr (fun b => b = D) w ((w1.setCell ⟨D, 2, none⟩ (.map (some w.heap.size))).setCell ⟨D, 3, none⟩ (.slice none 0 0)) := (((f0.or f1).or f2).or f3).mono (by rintro b (((hb | hb) | hb) | hb); exact hb.elim; exact hb.elim; exact .inl hb; exact .inl hb)
  have hDlt := h.lt D (.inl h.oD)
  have hm3 : SMap ((w1.setCell ⟨D, 2, none⟩ (.map (some w.heap.size))).setCell ⟨D, 3, none⟩ (.slice none 0 0)) w.heap.size (mapVals L L.lsh) := (hm.fr f2 (by omega)).fr f3 (by omega)
  show k _ ((w1.setCell ⟨D, 2, none⟩ (.map (some w.heap.size))).setCell ⟨D, 3, none⟩ (.slice none 0 0))
  generalize (w1.setCell ⟨D, 2, none⟩ (.map (some w.heap.size))).setCell ⟨D, 3, none⟩ (.slice none 0 0) = w3 at *
  have h1 := h.plain (S' := S) hfr
  have hO1 : Own L D D := .inl rfl
  have sep : ∀ {b}, Own L D b → b ≠ D → ¬ b = D := fun _ h => h
  have hne : L.sh ≠ D := by rintro e; obtain ⟨es, c1, h1⟩ := SMap.obj h.sh; rw [e, h.disk] at h1; cases h1
  have hr : ∀ t, reach (AD.fixed S) t → reach S t := by
    rintro t (⟨n, h'⟩ | ⟨n, h'⟩ | ⟨n, h'⟩)
    · exact .inl ⟨n, h'⟩
    · exact .inl ⟨n, h'⟩
    · cases h'
  refine hk w3 (fun b => O b ∨ b = w.heap.size) { L with sf := w.heap.size, lsf := L.lsh, rowv := .slice none 0 0 } ⟨?_, hfr.mono fun b hb => .inl (hb ▸ h.oD), fun b => .inl, fun b => id, ?_, fun b => .inl⟩
  · exact {
      disk := hd3
      sh := h.sh.fr hfr hne
      shp := h.shp
      sf := hm3
      sfp := h.shp
      ne := by have := h.lt L.sh (.inl h.osh); show L.sh ≠ w.heap.size; omega
      row := ⟨rfl, .inl ⟨rfl, rfl⟩⟩
      reads := own_fr h.reads hfr (by rintro b hb e; obtain ⟨c1, h1⟩ := own_obj h.reads hb; rw [e] at h1; exact absurd (two_types h1 h.disk) (by decide))
      things := fun t ht => ((h.things t (hr t ht)).stay h hfr fun b hb => .inl (.inl hb)).mono (O := O) (fun b => .inl) fun b => id
      inj := fun t u ht hu => h.inj t u (hr t ht) (hr u hu)
      rows := fun t u ht hu => h.rows t u (hr t ht) (hr u hu)
      oD := .inl h.oD
      osh := .inl h.osh
      osf := .inr rfl
      orow := by rintro b hb; cases hb
      oreads := fun b hb => .inl (h.oreads b hb)
      apart := by
        rintro b (hb | rfl) hi
        · exact h.apart b hb hi
        · exact absurd (h.lt _ (.inr hi)) (Nat.lt_irrefl _)
      lt := by
        rintro b ((hb | rfl) | hb)
        · have := h.lt b (.inl hb); omega
        · omega
        · have := h.lt b (.inr hb); omega }
  · rintro b (hb | rfl)
    · exact .inl hb
    · exact .inr (Nat.le_refl _)
theorem c_syncNames {c : Nat} (h : DRep w D S O I L) (ok : S.Ok c) (hk : ∀ w' O' I' L', Nx w D O I w' S.syncNames.2 O' I' L' → k (i64 S.syncNames.1) w') : pFn P 13 [ptr D] w k := by
  refine F13_in _ _ _ ?_
  unfold F13_0
  have hz := h.lt
  refine s_box ?_
  have f1 := Fr.alloc no w (.cells #[ptr D] 24)
  have b1 := alloc_new w (.cells #[ptr D] 24)
  have z1 : (w.alloc (.cells #[ptr D] 24)).heap.size = w.heap.size + 1 := by simp
  show px P _ (w.alloc (.cells #[ptr D] 24)) _
  generalize w.alloc (.cells #[ptr D] 24) = w1 at *
  have h1 := h.fr f1 fun b hb => hb.elim
  have hN0 : Nx w D O I w1 S O I L := Nx.from f1 (Nx.refl h1) hz
  refine s_ldb (v := ptr D) (Try.isAgg24 _) b1 rfl (c_off h1.disk ok.room.1 ?_)
  cases ho : S.off with
  | true =>
    have ec : S.syncNames = (50, S) := by unfold AD.syncNames; simp [ho]
    have := hk w1 O I L (by rw [ec]; exact hN0)
    rw [ec] at this; exact pC_true this
  | false =>
    refine pC_false (s_ldb (v := ptr D) (Try.isAgg24 _) b1 rfl (s_mkf ?_))
    have ec : S.syncNames = S.stroke 2 0 AD.fixed := by unfold AD.syncNames; simp [ho]; rfl
    refine c_stroke (act := AD.fixed) 2 0 _ h1 ⟨ok.strokes.1, by have := ok.strokes.2; have := ok.small; omega⟩ ⟨ok.since.1, by have := ok.since.2; have := ok.small; omega⟩ (fun T => rfl) ?_ ?_
    · intro _ w3 hR f3 K hK
      have g1 : w3.heap[w.heap.size]? = some (.cells #[ptr D] 24 (0, 0)) := f3.get b1 (by rintro e; exact absurd (hz D (.inl h.oD)) (by omega))
      exact c_syncNamesC hR g1 fun w' O' L' hx => hK _ w' O' _ L' hx
    · intro w' O' I' L' hx
      rw [← ec]
      exact hk w' O' I' L' (by rw [ec]; exact Nx.from f1 hx hz)
def planVal (p : PlanA) : Value := .agg #[i64 p.off, i64 p.from_, i64 p.to_]
theorem c_plan (h : DRep w D S O I L) (hr : 1 ≤ S.room) (p : PlanA) (hk : ∀ w' O' I' L', Nx w D O I w' (S.plans p) O' I' L' → k (.tuple #[]) w') : pFn P 19 [ptr D, planVal p] w k := by
  refine F19_in _ _ _ _ ?_
  unfold F19_0
  have hz := h.lt
  refine s_box ?_
  have f1 := Fr.alloc no w (.cells #[i64 p.off, i64 p.from_, i64 p.to_] 46)
  have b1 := alloc_new w (.cells #[i64 p.off, i64 p.from_, i64 p.to_] 46)
  show pFn P _ _ (w.alloc (.cells #[i64 p.off, i64 p.from_, i64 p.to_] 46)) _
  generalize w.alloc (.cells #[i64 p.off, i64 p.from_, i64 p.to_] 46) = w1 at *
  have h1 := h.fr f1 fun b hb => hb.elim
  refine c_off h1.disk hr (s_not ?_)
  cases ho : S.off with
  | true =>
    refine pC_false (hk w1 O I L ?_)
    have : S.plans p = S := by unfold AD.plans; simp [ho]
    rw [this]; exact Nx.from f1 (Nx.refl h1) hz
  | false =>
    have ec : S.plans p = { S with plan := p, since := 0 } := by unfold AD.plans; simp [ho]
    refine pC_true ?_
    refine s_ldAgg (m := 3) (Try.isAgg46 _) (Try.sizeOf46 _) b1 (by show 0 + 3 ≤ 3; decide) ?_
    refine s_nil (fa93_5 ?_)
    refine s_stN (vs := [i64 p.off, i64 p.from_, i64 p.to_]) (Try.sizeOf46 _) rfl (by intro v hv; simp at hv; rcases hv with rfl | rfl | rfl <;> rfl) h1.disk (by show 5 + 3 ≤ 11; decide) fun w2 hd2 f2 z2 => ?_
    refine s_nil (fa93_6 (s_st (Try.sizeOf3 _) rfl rfl hd2 (by show 8 < 11; decide) ?_))
    have hd3 := set_same hd2 8 (i64 0)
    have f3 : Fr (fun b => b = D) w2 (w2.setCell ⟨D, 8, none⟩ (i64 0)) := Fr.setCell w2 ⟨D, 8, none⟩ _
    refine hk _ O I L ?_
    rw [ec]
    exact Nx.from f1 (Nx.plain h1 ((f2.or f3).mono fun b hb => hb.elim .inl .inl) hd3 rfl rfl rfl rfl rfl) hz
end
end Go.Proofs.Ytcdcojpfealppaa
