/- Calls of a disk: WriteAt, Append. -/
import Derived.Test.YtcdcojpfealppaaOps3
set_option linter.unusedVariables false
set_option linter.unusedSimpArgs false
set_option maxRecDepth 100000
namespace Go.Proofs.Ytcdcojpfealppaa
open Go Go.Proofs Go.RowKit Go.Proofs.XRed Go.Proofs.XHeap Go.Proofs.XMaps Go.Proofs.XSlices Go.Proofs.XDisk Go.Proofs.XCalls Go.Proofs.XRange
theorem used_le {S : AD} {c : Nat} (ok : S.Ok c) : S.used ≤ 268435456 := by
  have h1 := ok.turns.len.1
  have h2 : ∀ p ∈ S.shown, (S.things p.2).shown.length ≤ 1048576 := fun p hp => (ok.thing p.2 (.inl ⟨p.1, hp⟩)).ok.len.1
  unfold AD.used
  have : ∀ (l : Names), (∀ p ∈ l, (S.things p.2).shown.length ≤ 1048576) → (l.map fun p => (S.things p.2).shown.length).sum ≤ l.length * 1048576 := by
    intro l
    induction l with
    | nil => intro _; simp
    | cons p r ih =>
      intro h
      have h3 := h p List.mem_cons_self
      have h4 := ih fun q hq => h q (List.mem_cons_of_mem _ hq)
      simp only [List.map_cons, List.sum_cons, List.length_cons]
      omega
  have := this _ h2
  omega
section
variable {w : World} {D : Nat} {S S' : AD} {O I : Nat → Prop} {L : Lay} {k : Value → World → Prop}
theorem c_writeAt {c : Nat} (h : DRep w D S O I L) (ok : S.Ok c) (name : ByteArray) (hs : name.size ≤ 9223372036854775807) (a : Int) {dv : Value} {d : Bytes} (hdv : SBytes w dv d) (hdO : ∀ b, sblk dv = some b → ¬ O b) (hdl : d.length ≤ 549755813888)
    (hk : ∀ w' O' I' L', Nx w D O I w' (S.writeAt name a d).2 O' I' L' → k (i64 (S.writeAt name a d).1) w') : pFn P 21 [ptr D, .string name, i64 a, dv] w k := by
  refine F21_in _ _ _ _ _ _ ?_
  unfold F21_0
  have hz := h.lt
  refine s_box ?_
  have f1 := Fr.alloc no w (.cells #[i64 a] 3)
  have b1 := alloc_new w (.cells #[i64 a] 3)
  have z1 : (w.alloc (.cells #[i64 a] 3)).heap.size = w.heap.size + 1 := by simp
  show px P _ (w.alloc (.cells #[i64 a] 3)) _
  generalize w.alloc (.cells #[i64 a] 3) = w1 at *
  obtain ⟨Ad, cd, rfl, hcd⟩ := hdv.form
  refine s_box ?_
  have f2 := Fr.alloc no w1 (.cells #[.slice Ad d.length cd] 30)
  have b2 := alloc_new w1 (.cells #[.slice Ad d.length cd] 30)
  have z2 : (w1.alloc (.cells #[.slice Ad d.length cd] 30)).heap.size = w1.heap.size + 1 := by simp
  show pFn P _ _ (w1.alloc (.cells #[.slice Ad d.length cd] 30)) _
  generalize w1.alloc (.cells #[.slice Ad d.length cd] 30) = w2 at *
  have f12 : Fr no w w2 := (f1.or f2).mono fun b hb => hb.elim (fun h => h.elim) fun h => h.elim
  have h2 := h.fr f12 fun b hb => hb.elim
  refine c_look h2 ok.room.1 name hs (s_ext rfl (s_ext rfl ?_))
  generalize hlv : (if S.look name = 0 then ptr (L.loc (S.of name)) else .pointer none) = lv
  refine s_alloc (Try.zeroValue94 _) ?_
  have f3 := Fr.alloc no w2 (.cells #[.pointer none] 94)
  have b3 := alloc_new w2 (.cells #[.pointer none] 94)
  have z3 : (w2.alloc (.cells #[.pointer none] 94)).heap.size = w2.heap.size + 1 := by simp
  show pu P _ (w2.alloc (.cells #[.pointer none] 94)) _
  generalize w2.alloc (.cells #[.pointer none] 94) = w3 at *
  have hl1 : lv.cells = #[lv] ∧ lv.oneCell' = true := by rw [← hlv]; split <;> exact ⟨rfl, rfl⟩
  refine s_st (Try.sizeOf94 _) hl1.1 hl1.2 b3 (by show 0 < 1; decide) ?_
  have b4 := set_same b3 0 lv
  have f4 : Fr (fun b => b = w2.heap.size) w3 (w3.setCell ⟨w2.heap.size, 0, none⟩ lv) := Fr.setCell w3 ⟨w2.heap.size, 0, none⟩ _
  have z4 : (w3.setCell ⟨w2.heap.size, 0, none⟩ lv).heap.size = w3.heap.size := by simp [World.setCell]
  have b1' := f4.get (f3.get (f2.get b1 id) id) (by omega)
  have b2' := f4.get (f3.get b2 id) (by omega)
  show px P _ (w3.setCell ⟨w2.heap.size, 0, none⟩ lv) _
  generalize w3.setCell ⟨w2.heap.size, 0, none⟩ lv = w4 at *
  have f04 : Fr no w w4 := ((f12.or f3).or f4).mono (by rintro b ((hb | hb) | hb); exact hb.elim; exact hb.elim; exact .inr (by omega))
  have h4 := h.fr f04 fun b hb => hb.elim
  have hN0 : Nx w D O I w4 S O I L := Nx.from f04 (Nx.refl h4) hz
  by_cases hl : S.look name = 0
  · have hg : alGet S.shown name = some (S.of name) := by
      rcases look_vals S name with h | h | h | h
      · rw [h] at hl; cases hl
      · rw [h] at hl; cases hl
      · rw [h] at hl; cases hl
      · exact h.2
    have hr : reach S (S.of name) := .inl ⟨name, mem_of_alGet hg⟩
    rw [if_pos hl] at hlv
    subst hlv
    rw [hl]
    refine s_nei_f rfl (pC_false ?_)
    have b3' : w4.heap[w2.heap.size]? = some (.cells #[ptr (L.loc (S.of name))] 94 (0, 0)) := b4
    have hT0 := h4.things _ hr
    obtain ⟨sv, hv, cs, hbT, _, hsh, _⟩ := hT0.ex
    obtain ⟨A, c', rfl, hc'⟩ := hsh.1.form
    have hlen := (ok.thing _ hr).ok.len.1
    have hul := used_le ok
    -- what the three variables and the thing hold
    let SS : World → Prop := fun w' : World => w'.heap[w.heap.size]? = some (.cells #[i64 a] 3 (0, 0)) ∧ w'.heap[w1.heap.size]? = some (.cells #[.slice Ad d.length cd] 30 (0, 0)) ∧ w'.heap[w2.heap.size]? = some (.cells #[ptr (L.loc (S.of name))] 94 (0, 0)) ∧ w'.heap[L.loc (S.of name)]? = some (.cells #[sv, .slice A (S.things (S.of name)).shown.length c', L.trow (S.of name)] 101 (0, 0)) ∧ w'.heap[D]? = some (.cells (dcells S L) 93 (0, 0))
    have Sok : ∀ w', Fr no w4 w' → SS w' :=
      fun w' f => ⟨f.get b1' id, f.get b2' id, f.get b3' id, f.get hbT id, f.get h4.disk id⟩
    have f5 : Fr no w4 w4.drew := Fr.drew _ _
    refine ⟨SS, Sok _ f5, ?_⟩
    refine q_of (i64 a) (fun w_ hS => s_ldb (Try.isAgg3 _) hS.1 rfl ⟨rfl, rfl⟩) ?_
    have el : ((S.bytes name).length : Int) = ((S.things (S.of name)).shown.length : Int) := rfl
    have beyond : (a < 0 ∨ a > (S.bytes name).length) → k (i64 54) w4.drew := by
      intro hbad
      have f05 : Fr no w w4.drew := (f04.or f5).mono fun b hb => hb.elim (fun h => h.elim) fun h => h.elim
      have h5 : DRep w4.drew D S O I L := h4.fr f5 fun b hb => hb.elim
      have ec : S.writeAt name a d = (54, S) := by unfold AD.writeAt; rw [if_neg (by simp [hl]), if_pos hbad]
      have := hk w4.drew O I L (by rw [ec]; exact Nx.from f05 (Nx.refl h5) hz)
      rw [ec] at this; exact this
    by_cases a0 : a < 0
    · refine q_of _ (fun w_ hS => s_lt_t a0 ⟨rfl, rfl⟩) ?_
      repeat (first | refine pGq_skf ?_ | refine pGq_un ?_)
      exact q_of _ (fun w_ hS => s_pick_t ⟨rfl, rfl⟩) (pC_true (beyond (.inl a0)))
    refine q_of _ (fun w_ hS => s_lt_f a0 ⟨rfl, rfl⟩) ?_
    refine pGq_yes rfl ?_
    refine q_of (i64 a) (fun w_ hS => s_ldb (Try.isAgg3 _) hS.1 rfl ⟨rfl, rfl⟩) ?_
    refine pGq_yes rfl ?_
    refine q_of (ptr (L.loc (S.of name))) (fun w_ hS => s_ldb (Try.isAgg94 _) hS.2.2.1 rfl ⟨rfl, rfl⟩) ?_
    refine pGq_yes rfl ?_
    refine q_of _ (fun w_ hS => s_nil ⟨rfl, rfl⟩) ?_
    refine pGq_yes rfl ?_
    refine q_of _ (fun w_ hS => fa101_1 ⟨rfl, rfl⟩) ?_
    refine pGq_yes rfl ?_
    refine q_of (.slice A (S.things (S.of name)).shown.length c') (fun w_ hS => s_ldb (Try.isAgg30 _) hS.2.2.2.1 rfl ⟨rfl, rfl⟩) ?_
    refine pGq_yes rfl ?_
    refine q_of _ (fun w_ hS => s_len usl30 ⟨rfl, rfl⟩) ?_
    refine pGq_yes rfl ?_
    by_cases a1 : a > (S.things (S.of name)).shown.length
    · refine q_of _ (fun w_ hS => s_gt_t a1 ⟨rfl, rfl⟩) ?_
      exact q_of _ (fun w_ hS => s_pick_f ⟨rfl, rfl⟩) (pC_true (beyond (.inr a1)))
    refine q_of _ (fun w_ hS => s_gt_f a1 ⟨rfl, rfl⟩) ?_
    refine q_of _ (fun w_ hS => s_pick_f ⟨rfl, rfl⟩) (pC_false ?_)
    -- more
    have f6 : Fr no w4 w4.drew.drew := (f5.or (Fr.drew no _)).mono fun b hb => hb.elim (fun h => h.elim) fun h => h.elim
    refine ⟨SS, Sok _ f6, ?_⟩
    refine q_of (i64 a) (fun w_ hS => s_ldb (Try.isAgg3 _) hS.1 rfl ⟨rfl, rfl⟩) ?_
    refine q_of (.slice Ad d.length cd) (fun w_ hS => s_ldb (Try.isAgg30 _) hS.2.1 rfl ⟨rfl, rfl⟩) ?_
    refine q_of _ (fun w_ hS => s_len usl30 ⟨rfl, rfl⟩) ?_
    refine q_of (i64 (a + d.length)) (fun w_ hS => s_add_in (by omega) ⟨rfl, rfl⟩) ?_
    refine q_of (ptr (L.loc (S.of name))) (fun w_ hS => s_ldb (Try.isAgg94 _) hS.2.2.1 rfl ⟨rfl, rfl⟩) ?_
    refine q_of _ (fun w_ hS => s_nil ⟨rfl, rfl⟩) ?_
    refine q_of _ (fun w_ hS => fa101_1 ⟨rfl, rfl⟩) ?_
    refine q_of (.slice A (S.things (S.of name)).shown.length c') (fun w_ hS => s_ldb (Try.isAgg30 _) hS.2.2.2.1 rfl ⟨rfl, rfl⟩) ?_
    refine q_of _ (fun w_ hS => s_len usl30 ⟨rfl, rfl⟩) ?_
    refine q_of (i64 (a + d.length - (S.things (S.of name)).shown.length)) (fun w_ hS => s_sub_in (by omega) ⟨rfl, rfl⟩) ?_
    generalize hm : a + d.length - (S.things (S.of name)).shown.length = more
    -- is there room
    have go : ∀ w7, Fr no w4 w7 → ∀ ρ r, ρ 0 = ptr D → ρ 6 = ptr w.heap.size → ρ 7 = ptr w1.heap.size → ρ 9 = ptr w2.heap.size → ρ 11 = i64 r → r = (if more > 0 ∧ S.used + more > S.room then 55 else 0) → F21A k [1, 1, 1, 1, 1, 1] ρ w7 := by
      intro w7 f7 ρ r e0 e6 e7 e9 e11 er
      rw [F21_1_eq]
      unfold F21_1
      rw [e0, e6, e7, e9, e11]
      refine s_mkf ?_
      have f07 : Fr no w w7 := (f04.or f7).mono fun b hb => hb.elim (fun h => h.elim) fun h => h.elim
      have h7 : DRep w7 D S O I L := h4.fr f7 fun b hb => hb.elim
      have ec : S.writeAt name a d = S.stroke 1 r (fun T => T.setThing (S.of name) ((T.things (S.of name)).add (.wr a.toNat d))) := by
        unfold AD.writeAt
        rw [if_neg (by simp [hl]), if_neg (by rw [el]; omega), el, hm, er]
      refine c_stroke (act := fun T => T.setThing (S.of name) ((T.things (S.of name)).add (.wr a.toNat d))) 1 r _ h7 ⟨ok.strokes.1, by have := ok.strokes.2; have := ok.small; omega⟩ ⟨ok.since.1, by have := ok.since.2; have := ok.small; omega⟩ (fun T => rfl) ?_ ?_
      · intro _ w8 hR f8 K hK
        have hD := hz D (.inl h.oD)
        have g1 : w8.heap[w.heap.size]? = some (.cells #[i64 a.toNat] 3 (0, 0)) := by
          have e : ((a.toNat : Nat) : Int) = a := by omega
          rw [e]; exact f8.get (f7.get b1' id) (by omega)
        have g2 := f8.get (f7.get b2' id) (by omega)
        have g3 := f8.get (f7.get b3' id) (by omega)
        have hdv8 : SBytes w8 (.slice Ad d.length cd) d := (hdv.fr f07 fun _ _ => id).fr f8 fun b hb e => hdO b hb (e ▸ h.oD)
        exact c_writeAtC (c := c) hR hr (ok.thing _ hr) ok.small (by show a.toNat ≤ (S.things (S.of name)).shown.length; omega) hdl g3 g1 g2 hdv8 fun w' O' I' L' hx => hK _ w' O' I' L' hx
      · intro w' O' I' L' hx
        rw [← ec]
        exact hk w' O' I' L' (by rw [ec]; exact Nx.from f07 hx hz)
    have f7 : Fr no w4 w4.drew.drew.drew := (f6.or (Fr.drew no _)).mono fun b hb => hb.elim (fun h => h.elim) fun h => h.elim
    refine ⟨SS, Sok _ f7, ?_⟩
    by_cases m0 : more > 0
    · refine q_of _ (fun w_ hS => s_gt_t m0 ⟨rfl, rfl⟩) ?_
      refine pGq_yes rfl (pGq_yes rfl (pGq_yes rfl (pGq_yes rfl ?_)))
      refine q_of _ (fun w_ hS => s_nil ⟨rfl, rfl⟩) ?_
      refine pGq_yes rfl ?_
      refine q_of _ (fun w_ hS => fa93_0 ⟨rfl, rfl⟩) ?_
      refine pGq_yes rfl ?_
      refine q_of (i64 S.room) (fun w_ hS => s_ldb (Try.isAgg3 _) hS.2.2.2.2 rfl ⟨rfl, rfl⟩) ?_
      refine pG_yes rfl ?_
      have h7 : DRep w4.drew.drew.drew D S O I L := h4.fr f7 fun b hb => hb.elim
      refine c_used h7 ok.room.1 (by omega) fun w8 f8 => ?_
      have f48 : Fr no w4 w8 := (f7.or f8).mono fun b hb => hb.elim (fun h => h.elim) fun h => h.elim
      refine ⟨Sok _ f48, ?_⟩
      refine pGq_yes rfl ?_
      refine q_of (i64 (S.used + more)) (fun w_ hS => s_add_in (by omega) ⟨rfl, rfl⟩) ?_
      refine pGq_yes rfl ?_
      by_cases m1 : S.used + more > S.room
      · refine q_of _ (fun w_ hS => s_gt_t m1 ⟨rfl, rfl⟩) ?_
        refine q_of _ (fun w_ hS => s_pick_t ⟨rfl, rfl⟩) (pC_true ?_)
        exact go w8 f48 _ 55 rfl rfl rfl rfl rfl (by rw [if_pos ⟨m0, m1⟩])
      · refine q_of _ (fun w_ hS => s_gt_f m1 ⟨rfl, rfl⟩) ?_
        refine q_of _ (fun w_ hS => s_pick_t ⟨rfl, rfl⟩) (pC_false ?_)
        exact go w8 f48 _ 0 rfl rfl rfl rfl rfl (by rw [if_neg (fun h => m1 h.2)])
    · refine q_of _ (fun w_ hS => s_gt_f m0 ⟨rfl, rfl⟩) ?_
      repeat (first | refine pGq_sk ?_ | refine pGq_un ?_)
      refine pG_sk ?_
      refine ⟨Sok _ f7, ?_⟩
      repeat (first | refine pGq_sk ?_ | refine pGq_un ?_)
      refine q_of _ (fun w_ hS => s_pick_f ⟨rfl, rfl⟩) (pC_false ?_)
      exact go _ f7 _ 0 rfl rfl rfl rfl rfl (by rw [if_neg (fun h => m0 h.1)])
  · have ec : S.writeAt name a d = (S.look name, S) := by unfold AD.writeAt; rw [if_pos hl]
    refine s_nei_t hl (pC_true ?_)
    have := hk w4 O I L (by rw [ec]; exact hN0)
    rw [ec] at this; exact this
theorem c_append {c : Nat} (h : DRep w D S O I L) (ok : S.Ok c) (name : ByteArray) (hs : name.size ≤ 9223372036854775807) {dv : Value} {d : Bytes} (hdv : SBytes w dv d) (hdO : ∀ b, sblk dv = some b → ¬ O b) (hdl : d.length ≤ 549755813888)
    (hk : ∀ w' O' I' L', Nx w D O I w' (S.append name d).2 O' I' L' → k (i64 (S.append name d).1) w') : pFn P 11 [ptr D, .string name, dv] w k := by
  refine F11_in _ _ _ _ _ ?_
  unfold F11_0
  refine c_look h ok.room.1 name hs (s_ext rfl (s_ext rfl ?_))
  by_cases hl : S.look name = 0
  · have hg : alGet S.shown name = some (S.of name) := by
      rcases look_vals S name with h | h | h | h
      · rw [h] at hl; cases hl
      · rw [h] at hl; cases hl
      · rw [h] at hl; cases hl
      · exact h.2
    have hr : reach S (S.of name) := .inl ⟨name, mem_of_alGet hg⟩
    rw [if_pos hl, hl]
    refine s_nei_f rfl (pC_false ?_)
    obtain ⟨sv, hv, cs, hbT, _, hsh, _⟩ := (h.things _ hr).ex
    obtain ⟨A, c', rfl, hc'⟩ := hsh.1.form
    refine s_nil (fa101_1 (s_ldb (v := .slice A (S.things (S.of name)).shown.length c') (Try.isAgg30 _) hbT rfl (s_len usl30 ?_)))
    have ec : S.append name d = S.writeAt name (S.things (S.of name)).shown.length d := by unfold AD.append; rw [if_neg (by simp [hl])]; rfl
    refine c_writeAt h ok name hs _ hdv hdO hdl fun w' O' I' L' hx => ?_
    rw [← ec] at hx ⊢
    exact hk w' O' I' L' hx
  · have ec : S.append name d = (S.look name, S) := by unfold AD.append; rw [if_pos hl]
    refine s_nei_t hl (pC_true ?_)
    have := hk w O I L (by rw [ec]; exact Nx.refl h)
    rw [ec] at this; exact this
end
end Go.Proofs.Ytcdcojpfealppaa
