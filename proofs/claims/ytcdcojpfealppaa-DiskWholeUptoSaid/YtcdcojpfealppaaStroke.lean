/- A stroke. -/
import Derived.Test.YtcdcojpfealppaaRename
set_option linter.unusedVariables false
set_option linter.unusedSimpArgs false
set_option maxRecDepth 100000
namespace Go.Proofs.Ytcdcojpfealppaa
open Go Go.Proofs Go.RowKit Go.Proofs.XRed Go.Proofs.XHeap Go.Proofs.XMaps Go.Proofs.XSlices Go.Proofs.XDisk Go.Proofs.XCalls
theorem Nx.trans {w w1 w2 : World} {D : Nat} {O I O1 I1 O2 I2 : Nat → Prop} {S1 S2 : AD} {L1 L2 : Lay} (h : Nx w D O I w1 S1 O1 I1 L1) (k : Nx w1 D O1 I1 w2 S2 O2 I2 L2) : Nx w D O I w2 S2 O2 I2 L2 where
  rep := k.rep
  fr := h.fr.trans k.fr h.on
  oo := fun b hb => k.oo b (h.oo b hb)
  ii := fun b hb => k.ii b (h.ii b hb)
  on := fun b hb => (k.on b hb).elim (h.on b) fun hb => .inr (Nat.le_trans h.fr.size hb)
  in_ := fun b hb => (k.in_ b hb).elim (h.in_ b) fun hb => .inr (Nat.le_trans h.fr.size hb)
theorem Nx.refl {w : World} {D : Nat} {O I : Nat → Prop} {S : AD} {L : Lay} (h : DRep w D S O I L) : Nx w D O I w S O I L := ⟨h, Fr.refl _ _, fun b => id, fun b => id, fun b => .inl, fun b => .inl⟩
section
variable {w : World} {D : Nat} {S S' : AD} {O I : Nat → Prop} {L : Lay} {k : Value → World → Prop}
/-- Another content of the disk's own cells. -/
theorem DRep.plain {w' : World} (h : DRep w D S O I L) (hf : Fr (fun b => b = D) w w') (hd : w'.heap[D]? = some (.cells (dcells S' L) 93 (0, 0))) (h1 : S'.shown = S.shown) (h2 : S'.safe = S.safe) (h3 : S'.row = S.row) (h4 : S'.reads = S.reads) (h5 : S'.things = S.things) :
    DRep w' D S' O I L where
  disk := hd
  sh := h.sh.fr hf (by rintro e; obtain ⟨es, c1, h1⟩ := SMap.obj h.sh; rw [e, h.disk] at h1; cases h1)
  shp := by rw [h1]; exact h.shp
  sf := h.sf.fr hf (by rintro e; obtain ⟨es, c1, h1⟩ := SMap.obj h.sf; rw [e, h.disk] at h1; cases h1)
  sfp := by rw [h2]; exact h.sfp
  ne := h.ne
  row := by rw [h3]; exact own_fr h.row hf (by rintro b hb e; obtain ⟨c1, h1⟩ := own_obj h.row hb; rw [e] at h1; exact absurd (two_types h1 h.disk) (by decide))
  reads := by rw [h4]; exact own_fr h.reads hf (by rintro b hb e; obtain ⟨c1, h1⟩ := own_obj h.reads hb; rw [e] at h1; exact absurd (two_types h1 h.disk) (by decide))
  things := fun t ht => by
    have ht' : reach S t := by unfold reach at *; rwa [h1, h2, h3] at ht
    rw [h5]
    exact (h.things t ht').stay h hf fun b hb => .inl (.inl hb)
  inj := by unfold reach; rw [h1, h2, h3]; exact h.inj
  rows := by unfold reach; rw [h1, h2, h3]; exact h.rows
  oD := h.oD
  osh := h.osh
  osf := h.osf
  orow := h.orow
  oreads := h.oreads
  apart := h.apart
  lt := fun b hb => Nat.lt_of_lt_of_le (h.lt b hb) hf.size
theorem Nx.plain {w' : World} (h : DRep w D S O I L) (hf : Fr (fun b => b = D) w w') (hd : w'.heap[D]? = some (.cells (dcells S' L) 93 (0, 0))) (h1 : S'.shown = S.shown) (h2 : S'.safe = S.safe) (h3 : S'.row = S.row) (h4 : S'.reads = S.reads) (h5 : S'.things = S.things) :
    Nx w D O I w' S' O I L := ⟨h.plain hf hd h1 h2 h3 h4 h5, hf.mono fun b hb => .inl (hb ▸ h.oD), fun b => id, fun b => id, fun b => .inl, fun b => .inl⟩
/-- What a stroke comes to, its refusal found. -/
theorem c_stroke1 {act : AD → AD} (ρ : Env) (kind r : Int) (f : Value) (h0 : ρ 0 = ptr D) (h1 : ρ 1 = i64 kind) (h2 : ρ 2 = i64 r) (h3 : ρ 3 = f) (h : DRep w D S O I L)
    (hoff : ∀ T, (act T).off = T.off)
    (hdo : r = 0 → ¬ (S.since = S.plan.off ∧ kind = 2) → ∀ w1, DRep w1 D { S with off := decide (S.since = S.plan.off) } O I L → Fr (fun b => b = D) w w1 → ∀ K : Value → World → Prop, (∀ v w' O' I' L', Nx w1 D O I w' (act { S with off := decide (S.since = S.plan.off) }) O' I' L' → K v w') → pVal P f [] w1 K)
    (hk : ∀ w' O' I' L', Nx w D O I w' (if r = 0 ∧ ¬ (S.since = S.plan.off ∧ kind = 2) then act { S with off := decide (S.since = S.plan.off) } else { S with off := decide (S.since = S.plan.off) }) O' I' L' → k (i64 (if S.since = S.plan.off then 50 else r)) w') : F45_1 k ρ w := by
  unfold F45_1
  rw [h0, h1, h2, h3]
  have hd : w.drew.heap[D]? = some (.cells (dcells S L) 93 (0, 0)) := h.disk
  refine ⟨fun w => ∃ o, w.heap[D]? = some (.cells (dcells { S with off := o } L) 93 (0, 0)), ⟨S.off, hd⟩, ?_⟩
  refine q_of _ (fun w_ hS => s_nil ⟨rfl, rfl⟩) ?_
  refine q_of _ (fun w_ hS => fa93_6 ⟨rfl, rfl⟩) ?_
  refine q_of (i64 S.since) (fun w_ hS => by obtain ⟨o, h⟩ := hS; exact s_ldb (Try.isAgg3 _) h rfl ⟨rfl, rfl⟩) ?_
  refine q_of _ (fun w_ hS => s_nil ⟨rfl, rfl⟩) ?_
  refine q_of _ (fun w_ hS => fa93_5 ⟨rfl, rfl⟩) ?_
  refine q_of _ (fun w_ hS => fa46_0 ⟨rfl, rfl⟩) ?_
  refine q_of (i64 S.plan.off) (fun w_ hS => by obtain ⟨o, h⟩ := hS; exact s_ldb (Try.isAgg3 _) h rfl ⟨rfl, rfl⟩) ?_
  refine q_of _ (fun w_ hS => s_eqi ⟨rfl, rfl⟩) ?_
  refine q_of _ (fun w_ hS => s_nil ⟨rfl, rfl⟩) ?_
  refine q_of _ (fun w_ hS => fa93_7 ⟨rfl, rfl⟩) ?_
  have eo : (S.since == S.plan.off) = decide (S.since = S.plan.off) := by rw [Bool.eq_iff_iff]; simp
  rw [eo]
  refine s_st (Try.sizeOf4 _) rfl rfl hd (by show 9 < 11; decide) ?_
  have hd1 := set_same hd 9 (.bool (decide (S.since = S.plan.off)))
  have fr1 : Fr (fun b => b = D) w (w.drew.setCell ⟨D, 9, none⟩ (.bool (decide (S.since = S.plan.off)))) := ((Fr.drew (fun _ => False) w).or (Fr.setCell w.drew ⟨D, 9, none⟩ _)).mono fun b hb => hb.elim (fun h => h.elim) .inl
  have hR : DRep _ D { S with off := decide (S.since = S.plan.off) } O I L := h.plain fr1 hd1 rfl rfl rfl rfl rfl
  have hN : Nx w D O I _ { S with off := decide (S.since = S.plan.off) } O I L := .plain h fr1 hd1 rfl rfl rfl rfl rfl
  show px P _ _ _
  generalize w.drew.setCell ⟨D, 0 + 9, none⟩ (.bool (decide (S.since = S.plan.off))) = w1 at *
  -- the last part
  have fin : ∀ {w2 : World} {S2 : AD} {O2 I2 : Nat → Prop} {L2 : Lay} (ρ' : Env), ρ' 0 = ptr D → ρ' 2 = i64 r → DRep w2 D S2 O2 I2 L2 → S2.off = decide (S.since = S.plan.off) → k (i64 (if S.since = S.plan.off then 50 else r)) w2 → F45_2 k ρ' w2 := by
    intro w2 S2 O2 I2 L2 ρ' e0 e2 hR2 hoff2 hk2
    unfold F45_2
    rw [e0, e2]
    refine s_nil (fa93_7 (s_ldb (v := .bool S2.off) (Try.isAgg4 _) hR2.disk rfl ?_))
    rw [hoff2]
    by_cases ho : S.since = S.plan.off
    · rw [if_pos ho] at hk2; rw [decide_eq_true ho]; exact hk2
    · rw [if_neg ho] at hk2; rw [decide_eq_false ho]; exact hk2
  by_cases r0 : r = 0
  · refine s_eqi_t r0 (pG_yes rfl (pG_yes rfl (s_nil (pG_yes rfl (fa93_7 (pG_yes rfl (s_ldb (v := .bool (decide (S.since = S.plan.off))) (Try.isAgg4 _) hd1 rfl (pG_yes rfl ?_))))))))
    by_cases ho : S.since = S.plan.off
    · rw [decide_eq_true ho] at *
      refine pG_yes rfl (pG_yes rfl (s_eqi (pG_yes rfl (s_pick_t (pG_yes rfl (s_not (s_pick_t ?_)))))))
      by_cases k2 : kind = 2
      · have e2 : (kind == 2) = true := by simp [k2]
        rw [e2]
        refine pC_false ?_
        rw [F45_2_eq]
        refine fin _ h0 h2 hR rfl ?_
        refine hk _ O I L ?_
        rw [if_neg (by simp [ho, k2])]; exact hN
      · have e2 : (kind == 2) = false := by simp [k2]
        rw [e2]
        refine pC_true ?_
        refine hdo r0 (by simp [k2]) _ hR fr1 _ fun v w' O' I' L' hx => ?_
        rw [F45_2_eq]
        refine fin _ h0 h2 hx.rep (hoff _) ?_
        refine hk _ O' I' L' ?_
        rw [if_pos ⟨r0, by simp [k2]⟩]; exact hN.trans hx
    · rw [decide_eq_false ho] at *
      refine pG_sk ?_
      refine pG_sk ?_
      refine pG_yes rfl ?_
      refine s_pick_f ?_
      refine pG_yes rfl ?_
      refine s_not ?_
      refine s_pick_t ?_
      refine pC_true ?_
      refine hdo r0 (by simp [ho]) _ hR fr1 _ fun v w' O' I' L' hx => ?_
      rw [F45_2_eq]
      refine fin _ h0 h2 hx.rep (hoff _) ?_
      refine hk _ O' I' L' ?_
      rw [if_pos ⟨r0, by simp [ho]⟩]; exact hN.trans hx
  · refine s_eqi_f r0 ?_
    repeat (first | refine pG_sk ?_ | refine pG_un ?_)
    refine s_pick_f ?_
    refine pC_false ?_
    rw [F45_2_eq]
    refine fin _ h0 h2 hR rfl ?_
    refine hk _ O I L ?_
    rw [if_neg (by simp [r0])]; exact hN
theorem c_stroke {act : AD → AD} (kind refused : Int) (f : Value) (h : DRep w D S O I L) (hb1 : 0 ≤ S.strokes ∧ S.strokes ≤ 4611686018427387904) (hb2 : 0 ≤ S.since ∧ S.since ≤ 4611686018427387904)
    (hoff : ∀ T, (act T).off = T.off)
    (hdo : refused = 0 → ∀ w1, DRep w1 D { S.ticked with off := decide (S.since + 1 = S.plan.off) } O I L → Fr (fun b => b = D) w w1 → ∀ K : Value → World → Prop, (∀ v w' O' I' L', Nx w1 D O I w' (act { S.ticked with off := decide (S.since + 1 = S.plan.off) }) O' I' L' → K v w') → pVal P f [] w1 K)
    (hk : ∀ w' O' I' L', Nx w D O I w' (S.stroke kind refused act).2 O' I' L' → k (i64 (S.stroke kind refused act).1) w') : pFn P 45 [ptr D, i64 kind, i64 refused, f] w k := by
  refine F45_in _ _ _ _ _ _ ?_
  unfold F45_0
  refine s_nil (fa93_4 (s_ldb (v := i64 S.strokes) (Try.isAgg3 _) h.disk rfl (s_add_in (by omega) ?_)))
  refine s_nil (fa93_4 (s_st (Try.sizeOf3 _) rfl rfl h.disk (by show 4 < 11; decide) ?_))
  have hd1 := set_same h.disk 4 (i64 (S.strokes + 1))
  have f1 : Fr (fun b => b = D) w (w.setCell ⟨D, 4, none⟩ (i64 (S.strokes + 1))) := Fr.setCell w ⟨D, 4, none⟩ _
  refine s_nil (fa93_6 (s_ldb (v := i64 S.since) (Try.isAgg3 _) hd1 rfl (s_add_in (by omega) ?_)))
  refine s_nil (fa93_6 (s_st (Try.sizeOf3 _) rfl rfl hd1 (by show 8 < 11; decide) ?_))
  have hd2 := set_same hd1 8 (i64 (S.since + 1))
  have f2 : Fr (fun b => b = D) w ((w.setCell ⟨D, 4, none⟩ (i64 (S.strokes + 1))).setCell ⟨D, 8, none⟩ (i64 (S.since + 1))) := (f1.or (Fr.setCell _ ⟨D, 8, none⟩ _)).mono fun b hb => hb.elim .inl .inl
  have hd3 : ((w.setCell ⟨D, 4, none⟩ (i64 (S.strokes + 1))).setCell ⟨D, 8, none⟩ (i64 (S.since + 1))).drew.heap[D]? = some (.cells (dcells S.ticked L) 93 (0, 0)) := hd2
  have f3 := (f2.or (Fr.drew (fun _ => False) _)).mono (O' := fun b => b = D) fun b hb => hb.elim .inl fun h => h.elim
  show ∃ S : World → Prop, _
  generalize hw : ((w.setCell ⟨D, 0 + 4, none⟩ (i64 (S.strokes + 1))).setCell ⟨D, 0 + 8, none⟩ (i64 (S.since + 1))).drew = w2 at *
  have hN : Nx w D O I w2 S.ticked O I L := Nx.plain h f3 hd3 rfl rfl rfl rfl rfl
  -- what the refusal is
  have go : ∀ (ρ : Env) (r : Int), ρ 0 = ptr D → ρ 1 = i64 kind → ρ 2 = i64 r → ρ 3 = f → r = (if refused = 0 ∧ kind = 1 ∧ S.ticked.since ≥ S.ticked.plan.from_ ∧ S.ticked.since ≤ S.ticked.plan.to_ then 55 else refused) → F45A k [1, 1, 1, 1] ρ w2 := by
    intro ρ r e0 e1 e2 e3 er
    rw [F45_1_eq]
    refine c_stroke1 (act := act) ρ kind r f e0 e1 e2 e3 hN.rep hoff ?_ ?_
    · intro hr _ w1 hR hf K hK
      have h0 : refused = 0 := by
        rw [hr] at er
        split at er
        · cases er
        · exact er.symm
      exact hdo h0 w1 hR ((f3.or hf).mono fun b hb => hb.elim .inl .inl) K hK
    · intro w' O' I' L' hx
      have e1 : (S.stroke kind refused act).1 = (if S.ticked.since = S.ticked.plan.off then 50 else r) := by
        unfold AD.stroke
        simp only [← er, decide_eq_true_eq]
      have e2 : (S.stroke kind refused act).2 = (if r = 0 ∧ ¬ (S.ticked.since = S.ticked.plan.off ∧ kind = 2) then act { S.ticked with off := decide (S.ticked.since = S.ticked.plan.off) } else { S.ticked with off := decide (S.ticked.since = S.ticked.plan.off) }) := by
        unfold AD.stroke
        simp only [← er, decide_eq_true_eq]
      rw [← e1]
      exact hk w' O' I' L' (by rw [e2]; exact hN.trans hx)
  refine ⟨fun w => w.heap[D]? = some (.cells (dcells S.ticked L) 93 (0, 0)), hd3, ?_⟩
  by_cases r0 : refused = 0
  · refine q_of _ (fun w_ hS => s_eqi_t r0 ⟨rfl, rfl⟩) ?_
    refine pGq_yes rfl ?_
    refine pGq_yes rfl ?_
    by_cases k1 : kind = 1
    · refine q_of _ (fun w_ hS => s_eqi_t k1 ⟨rfl, rfl⟩) ?_
      refine q_of _ (fun w_ hS => s_pick_t ⟨rfl, rfl⟩) ?_
      refine pGq_yes rfl (pGq_yes rfl ?_)
      refine q_of _ (fun w_ hS => s_nil ⟨rfl, rfl⟩) ?_
      refine pGq_yes rfl ?_
      refine q_of _ (fun w_ hS => fa93_6 ⟨rfl, rfl⟩) ?_
      refine pGq_yes rfl ?_
      refine q_of (i64 S.ticked.since) (fun w_ hS => s_ldb (Try.isAgg3 _) hS rfl ⟨rfl, rfl⟩) ?_
      refine pGq_yes rfl (pGq_yes rfl ?_)
      refine q_of _ (fun w_ hS => s_nil ⟨rfl, rfl⟩) ?_
      refine pGq_yes rfl ?_
      refine q_of _ (fun w_ hS => fa93_5 ⟨rfl, rfl⟩) ?_
      refine pGq_yes rfl ?_
      refine q_of _ (fun w_ hS => fa46_1 ⟨rfl, rfl⟩) ?_
      refine pGq_yes rfl ?_
      refine q_of (i64 S.ticked.plan.from_) (fun w_ hS => s_ldb (Try.isAgg3 _) hS rfl ⟨rfl, rfl⟩) ?_
      refine pGq_yes rfl ?_
      by_cases c1 : S.ticked.since ≥ S.ticked.plan.from_
      · refine q_of _ (fun w_ hS => s_ge_t c1 ⟨rfl, rfl⟩) ?_
        refine q_of _ (fun w_ hS => s_pick_t ⟨rfl, rfl⟩) ?_
        refine pGq_yes rfl (pGq_yes rfl ?_)
        refine q_of _ (fun w_ hS => s_nil ⟨rfl, rfl⟩) ?_
        refine pGq_yes rfl ?_
        refine q_of _ (fun w_ hS => fa93_6 ⟨rfl, rfl⟩) ?_
        refine pGq_yes rfl ?_
        refine q_of (i64 S.ticked.since) (fun w_ hS => s_ldb (Try.isAgg3 _) hS rfl ⟨rfl, rfl⟩) ?_
        refine pGq_yes rfl (pGq_yes rfl ?_)
        refine q_of _ (fun w_ hS => s_nil ⟨rfl, rfl⟩) ?_
        refine pGq_yes rfl ?_
        refine q_of _ (fun w_ hS => fa93_5 ⟨rfl, rfl⟩) ?_
        refine pGq_yes rfl ?_
        refine q_of _ (fun w_ hS => fa46_2 ⟨rfl, rfl⟩) ?_
        refine pGq_yes rfl ?_
        refine q_of (i64 S.ticked.plan.to_) (fun w_ hS => s_ldb (Try.isAgg3 _) hS rfl ⟨rfl, rfl⟩) ?_
        refine pGq_yes rfl ?_
        by_cases c2 : S.ticked.since ≤ S.ticked.plan.to_
        · refine q_of _ (fun w_ hS => s_le_t c2 ⟨rfl, rfl⟩) ?_
          refine q_of _ (fun w_ hS => s_pick_t ⟨rfl, rfl⟩) (pC_true ?_)
          exact go _ 55 rfl rfl rfl rfl (by rw [if_pos ⟨r0, k1, c1, c2⟩])
        · refine q_of _ (fun w_ hS => s_le_f c2 ⟨rfl, rfl⟩) ?_
          refine q_of _ (fun w_ hS => s_pick_t ⟨rfl, rfl⟩) (pC_false ?_)
          exact go _ refused rfl rfl rfl rfl (by rw [if_neg (fun h => c2 h.2.2.2)])
      · refine q_of _ (fun w_ hS => s_ge_f c1 ⟨rfl, rfl⟩) ?_
        refine q_of _ (fun w_ hS => s_pick_t ⟨rfl, rfl⟩) ?_
        repeat (first | refine pGq_sk ?_ | refine pGq_un ?_)
        refine q_of _ (fun w_ hS => s_pick_f ⟨rfl, rfl⟩) (pC_false ?_)
        exact go _ refused rfl rfl rfl rfl (by rw [if_neg (fun h => c1 h.2.2.1)])
    · refine q_of _ (fun w_ hS => s_eqi_f k1 ⟨rfl, rfl⟩) ?_
      refine q_of _ (fun w_ hS => s_pick_t ⟨rfl, rfl⟩) ?_
      repeat (first | refine pGq_sk ?_ | refine pGq_un ?_)
      refine q_of _ (fun w_ hS => s_pick_f ⟨rfl, rfl⟩) ?_
      repeat (first | refine pGq_sk ?_ | refine pGq_un ?_)
      refine q_of _ (fun w_ hS => s_pick_f ⟨rfl, rfl⟩) (pC_false ?_)
      exact go _ refused rfl rfl rfl rfl (by rw [if_neg (fun h => k1 h.2.1)])
  · refine q_of _ (fun w_ hS => s_eqi_f r0 ⟨rfl, rfl⟩) ?_
    repeat (first | refine pGq_sk ?_ | refine pGq_un ?_)
    refine q_of _ (fun w_ hS => s_pick_f ⟨rfl, rfl⟩) ?_
    repeat (first | refine pGq_sk ?_ | refine pGq_un ?_)
    refine q_of _ (fun w_ hS => s_pick_f ⟨rfl, rfl⟩) ?_
    repeat (first | refine pGq_sk ?_ | refine pGq_un ?_)
    refine q_of _ (fun w_ hS => s_pick_f ⟨rfl, rfl⟩) (pC_false ?_)
    exact go _ refused rfl rfl rfl rfl (by rw [if_neg (fun h => r0 h.1)])
end
end Go.Proofs.Ytcdcojpfealppaa
