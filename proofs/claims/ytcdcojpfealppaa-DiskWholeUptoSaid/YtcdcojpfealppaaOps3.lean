/- Calls of a disk: Truncate, WriteAt, Append. -/
import Derived.Test.YtcdcojpfealppaaOps2
set_option linter.unusedVariables false
set_option linter.unusedSimpArgs false
set_option maxRecDepth 100000
namespace Go.Proofs.Ytcdcojpfealppaa
open Go Go.Proofs Go.RowKit Go.Proofs.XRed Go.Proofs.XHeap Go.Proofs.XMaps Go.Proofs.XSlices Go.Proofs.XDisk Go.Proofs.XCalls Go.Proofs.XRange
section
variable {w : World} {D : Nat} {S S' : AD} {O I : Nat → Prop} {L : Lay} {k : Value → World → Prop}
theorem SBytes.none {A : Option Addr} {n c : Nat} {bs : Bytes} (h : SBytes w (.slice A n c) bs) (hA : A = none) : bs = [] := by
  obtain ⟨A', c', he, hc, hl, hr⟩ := h
  injection he with e1 e2 e3
  rcases Nat.eq_zero_or_pos bs.length with h0 | h0
  · exact List.eq_nil_of_length_eq_zero h0
  · obtain ⟨b, o, e, _⟩ := hr h0
    rw [← e1, hA] at e; cases e
theorem c_cloneB {v : Value} {bs : Bytes} (h : SBytes w v bs) (hb : bs.length ≤ 1099511627776) (hk : ∀ w' v', SBytes w' v' bs → (∀ b, sblk v' = some b → w.heap.size ≤ b ∧ b < w'.heap.size) → Fr no w w' → k v' w') : pFn P 59 [v] w k := by
  refine F59_in _ _ _ ?_
  unfold F59_0
  obtain ⟨A, c, rfl, hc⟩ := h.form
  refine s_eqsn Try.underlying30 ?_
  cases A with
  | none =>
    have := SBytes.none h rfl
    subst this
    exact pC_true (hk w _ (SBytes.nil _) (by rintro b hb; cases hb) (Fr.refl _ _))
  | some a =>
    refine pC_false (lit0_30 ?_)
    have f1 := Fr.alloc no w (.cells #[] 5)
    have ho := own_lit w 0 5 1 #[] 0 (Nat.zero_le _) (by unfold maxLen; omega) rfl
    have z1 : (w.alloc (.cells #[] 5)).heap.size = w.heap.size + 1 := by simp
    show px P _ (w.alloc (.cells #[] 5)) _
    generalize w.alloc (.cells #[] 5) = w1 at *
    refine ap30 ho (h.fr f1 fun _ _ => id) u8s_one (by omega) (Nat.zero_le _) fun v' w2 h2 f2 hb2 => ?_
    have hS := Src.of_own h2
    have hz := f2.size
    have e0 : 0 + bs.length = bs.length := Nat.zero_add _
    rw [e0] at hS
    refine hk w2 v' hS ?_ ((f1.or f2).mono ?_)
    · intro b hb'
      have := (own_blk_lt h2 hb').2
      rcases hb2 with e | e
      · rw [e] at hb'; injection hb' with hb'; have hb'' : w.heap.size = b := hb'; omega
      · rw [e] at hb'; injection hb' with hb'; omega
    · rintro b (hb' | hb')
      · exact .inl hb'
      · injection hb' with hb'; have hb'' : b = w.heap.size := hb'; exact .inr (by omega)
/-- More bytes that no disk writes into. -/
theorem DRep.moreI {I' : Nat → Prop} (h : DRep w D S O I L) (hi : ∀ b, I b → I' b) (ha : ∀ b, O b → ¬ I' b) (hl : ∀ b, I' b → b < w.heap.size) : DRep w D S O I' L :=
  { h with
    things := fun t ht => (h.things t ht).mono (O := O) (fun b => id) hi
    apart := ha
    lt := fun b hb => hb.elim (fun hb => h.lt b (.inl hb)) (hl b) }
theorem Nx.lessI {w' : World} {O' I1 I' : Nat → Prop} {L' : Lay} {w0 : World} (h : Nx w D O I1 w' S' O' I' L') (hz : w0.heap.size ≤ w.heap.size) (hf : Fr no w0 w) (h1 : ∀ b, I b → I1 b) (h2 : ∀ b, I1 b → I b ∨ w0.heap.size ≤ b) : Nx w0 D O I w' S' O' I' L' where
  rep := h.rep
  fr := (hf.or h.fr).mono fun b hb => hb.elim (fun h => h.elim) .inl
  oo := h.oo
  ii := fun b hb => h.ii b (h1 b hb)
  on := fun b hb => (h.on b hb).imp id (Nat.le_trans hz)
  in_ := fun b hb => (h.in_ b hb).elim (h2 b) fun hb => .inr (Nat.le_trans hz hb)
theorem c_truncateC {c t b1 b2 n : Nat} (h : DRep w D S O I L) (ht : reach S t) (hT : (S.things t).Ok c) (hc : c ≤ 1099511627776) (hn : n ≤ (S.things t).shown.length) (hb1 : w.heap[b1]? = some (.cells #[ptr (L.loc t)] 94 (0, 0))) (hb2 : w.heap[b2]? = some (.cells #[i64 n] 3 (0, 0)))
    (hk : ∀ w' O' I' L', Nx w D O I w' (S.setThing t ((S.things t).add (.cut n))) O' I' L' → k (.tuple #[]) w') : pFn P 61 [ptr b1, ptr b2] w k := by
  refine F61_in _ _ _ _ ?_
  unfold F61_0
  refine s_ldb (v := ptr (L.loc t)) (Try.isAgg94 _) hb1 rfl ?_
  refine s_ldb (v := i64 n) (Try.isAgg3 _) hb2 rfl ?_
  refine s_mki cc116 ?_
  have hlen := hT.ok.len.1
  exact c_add (k := fun _ w' => k (.tuple #[]) w') (c := .cut n) h ht rfl (by have := hT.row; omega) (by omega) (by intro m e; injection e with e; omega) (by intro a d e; cases e) hk
theorem c_writeAtC {c t b1 b2 b3 a : Nat} {dv : Value} {d : Bytes} (h : DRep w D S O I L) (ht : reach S t) (hT : (S.things t).Ok c) (hc : c ≤ 1099511627776) (ha : a ≤ (S.things t).shown.length) (hd : d.length ≤ 549755813888)
    (hb1 : w.heap[b1]? = some (.cells #[ptr (L.loc t)] 94 (0, 0))) (hb2 : w.heap[b2]? = some (.cells #[i64 a] 3 (0, 0))) (hb3 : w.heap[b3]? = some (.cells #[dv] 30 (0, 0))) (hdv : SBytes w dv d)
    (hk : ∀ w' O' I' L', Nx w D O I w' (S.setThing t ((S.things t).add (.wr a d))) O' I' L' → k (.tuple #[]) w') : pFn P 63 [ptr b1, ptr b2, ptr b3] w k := by
  refine F63_in _ _ _ _ _ ?_
  unfold F63_0
  refine ⟨fun w' => w'.heap[b1]? = some (.cells #[ptr (L.loc t)] 94 (0, 0)) ∧ w'.heap[b2]? = some (.cells #[i64 a] 3 (0, 0)) ∧ w'.heap[b3]? = some (.cells #[dv] 30 (0, 0)), ⟨hb1, hb2, hb3⟩, ?_⟩
  refine q_of (ptr (L.loc t)) (fun w_ hS => s_ldb (Try.isAgg94 _) hS.1 rfl ⟨rfl, rfl⟩) ?_
  refine q_of (i64 a) (fun w_ hS => s_ldb (Try.isAgg3 _) hS.2.1 rfl ⟨rfl, rfl⟩) ?_
  refine q_of dv (fun w_ hS => s_ldb (Try.isAgg30 _) hS.2.2 rfl ⟨rfl, rfl⟩) ?_
  have f0 : Fr no w w.drew := Fr.drew _ _
  refine c_cloneB (hdv.fr f0 fun _ _ => id) (by omega) fun w1 v1 h1 hb f1 => ?_
  refine ⟨⟨f1.get hb1 id, f1.get hb2 id, f1.get hb3 id⟩, ?_⟩
  have f01 : Fr no w w1 := (f0.or f1).mono fun b hb => hb.elim (fun h => h.elim) fun h => h.elim
  obtain ⟨A1, c1, hv1, _⟩ := h1.form
  refine q_of (.agg #[i64 a, v1]) (fun w_ hS => px_ok (w' := w_) (v := .agg #[i64 a, v1]) (by subst hv1; kernel_rfl) ⟨rfl, rfl⟩) ?_
  refine q_of _ (fun w_ hS => s_mki cc118 ⟨rfl, rfl⟩) ?_
  have hb' : ∀ b, sblk v1 = some b → w.heap.size ≤ b ∧ b < w1.heap.size := hb
  have hI1 : DRep w1 D S O (fun b => I b ∨ sblk v1 = some b) L := (h.fr f01 fun b hb => hb.elim).moreI (fun b => .inl) (by
    rintro b ho (hi | hi)
    · exact h.apart b ho hi
    · have := h.lt b (.inl ho); have := hb' b hi; omega) (by
    rintro b (hi | hi)
    · have := h.lt b (.inr hi); have := f01.size; omega
    · exact (hb' b hi).2)
  have hlen := hT.ok.len.1
  have hv : ChgV w1 (fun b => I b ∨ sblk v1 = some b) (.wr a d) (.iface 118 (.agg #[i64 a, v1])) := ⟨v1, rfl, h1, fun b hb => .inr hb⟩
  refine c_add (c := .wr a d) hI1 ht hv (by have := hT.row; omega) (by omega) (by intro m e; cases e) (by intro a' d' e; injection e with e1 e2; subst e1 e2; omega) fun w' O' I' L' hx => ?_
  exact hk w' O' I' L' (hx.lessI f01.size f01 (fun b => .inl) fun b hb => hb.imp id fun hb => (hb' b hb).1)
theorem c_truncate {c : Nat} (h : DRep w D S O I L) (ok : S.Ok c) (name : ByteArray) (hs : name.size ≤ 9223372036854775807) (n : Int)
    (hk : ∀ w' O' I' L', Nx w D O I w' (S.truncate name n).2 O' I' L' → k (i64 (S.truncate name n).1) w') : pFn P 20 [ptr D, .string name, i64 n] w k := by
  refine F20_in _ _ _ _ _ ?_
  unfold F20_0
  have hz := h.lt
  refine s_box ?_
  have f1 := Fr.alloc no w (.cells #[i64 n] 3)
  have b1 := alloc_new w (.cells #[i64 n] 3)
  have z1 : (w.alloc (.cells #[i64 n] 3)).heap.size = w.heap.size + 1 := by simp
  show pFn P _ _ (w.alloc (.cells #[i64 n] 3)) _
  generalize w.alloc (.cells #[i64 n] 3) = w1 at *
  have h1 := h.fr f1 fun b hb => hb.elim
  refine c_look h1 ok.room.1 name hs (s_ext rfl (s_ext rfl ?_))
  generalize hlv : (if S.look name = 0 then ptr (L.loc (S.of name)) else .pointer none) = lv
  refine s_alloc (Try.zeroValue94 _) ?_
  have f2 := Fr.alloc no w1 (.cells #[.pointer none] 94)
  have b2 := alloc_new w1 (.cells #[.pointer none] 94)
  have z2 : (w1.alloc (.cells #[.pointer none] 94)).heap.size = w1.heap.size + 1 := by simp
  show pu P _ (w1.alloc (.cells #[.pointer none] 94)) _
  generalize w1.alloc (.cells #[.pointer none] 94) = w2 at *
  have hl1 : lv.cells = #[lv] ∧ lv.oneCell' = true := by rw [← hlv]; split <;> exact ⟨rfl, rfl⟩
  refine s_st (Try.sizeOf94 _) hl1.1 hl1.2 b2 (by show 0 < 1; decide) ?_
  have b3 := set_same b2 0 lv
  have f3 : Fr (fun b => b = w1.heap.size) w2 (w2.setCell ⟨w1.heap.size, 0, none⟩ lv) := Fr.setCell w2 ⟨w1.heap.size, 0, none⟩ _
  have z3 : (w2.setCell ⟨w1.heap.size, 0, none⟩ lv).heap.size = w2.heap.size := by simp [World.setCell]
  have b1' := f3.get (f2.get b1 id) (by omega)
  show px P _ (w2.setCell ⟨w1.heap.size, 0, none⟩ lv) _
  generalize w2.setCell ⟨w1.heap.size, 0, none⟩ lv = w3 at *
  have f03 : Fr no w w3 := ((f1.or f2).or f3).mono (by rintro b ((hb | hb) | hb); exact hb.elim; exact hb.elim; exact .inr (by omega))
  have h3 := h.fr f03 fun b hb => hb.elim
  have hN0 : Nx w D O I w3 S O I L := Nx.from f03 (Nx.refl h3) hz
  by_cases hl : S.look name = 0
  · have hg : alGet S.shown name = some (S.of name) := by
      rcases look_vals S name with h | h | h | h
      · rw [h] at hl; cases hl
      · rw [h] at hl; cases hl
      · rw [h] at hl; cases hl
      · exact h.2
    have hr : reach S (S.of name) := .inl ⟨name, mem_of_alGet hg⟩
    rw [if_pos hl] at hlv
    subst hlv
    rw [hl]
    refine s_nei_f rfl (pC_false ?_)
    have b3' : w3.heap[w1.heap.size]? = some (.cells #[ptr (L.loc (S.of name))] 94 (0, 0)) := b3
    have hT0 := h3.things _ hr
    obtain ⟨sv, hv, cs, hbT, _, hsh, _⟩ := hT0.ex
    obtain ⟨A, c', rfl, hc'⟩ := hsh.1.form
    have f4 : Fr no w3 w3.drew := Fr.drew _ _
    refine ⟨fun w' => w'.heap[w.heap.size]? = some (.cells #[i64 n] 3 (0, 0)) ∧ w'.heap[w1.heap.size]? = some (.cells #[ptr (L.loc (S.of name))] 94 (0, 0)) ∧ w'.heap[L.loc (S.of name)]? = some (.cells #[sv, .slice A (S.things (S.of name)).shown.length c', L.trow (S.of name)] 101 (0, 0)), ⟨b1', b3', hbT⟩, ?_⟩
    refine q_of (i64 n) (fun w_ hS => s_ldb (Try.isAgg3 _) hS.1 rfl ⟨rfl, rfl⟩) ?_
    have f04 : Fr no w w3.drew := (f03.or f4).mono fun b hb => hb.elim (fun h => h.elim) fun h => h.elim
    have h4 : DRep w3.drew D S O I L := h3.fr f4 fun b hb => hb.elim
    have el : ((S.bytes name).length : Int) = ((S.things (S.of name)).shown.length : Int) := rfl
    have beyond : (n < 0 ∨ n > (S.bytes name).length) → k (i64 54) w3.drew := by
      intro hbad
      have ec : S.truncate name n = (54, S) := by unfold AD.truncate; rw [if_neg (by simp [hl]), if_pos hbad]
      have := hk w3.drew O I L (by rw [ec]; exact Nx.from f04 (Nx.refl h4) hz)
      rw [ec] at this; exact this
    by_cases n0 : n < 0
    · refine q_of _ (fun w_ hS => s_lt_t n0 ⟨rfl, rfl⟩) ?_
      repeat (first | refine pGq_skf ?_ | refine pGq_un ?_)
      exact q_of _ (fun w_ hS => s_pick_t ⟨rfl, rfl⟩) (pC_true (beyond (.inl n0)))
    · refine q_of _ (fun w_ hS => s_lt_f n0 ⟨rfl, rfl⟩) ?_
      refine pGq_yes rfl ?_
      refine q_of (i64 n) (fun w_ hS => s_ldb (Try.isAgg3 _) hS.1 rfl ⟨rfl, rfl⟩) ?_
      refine pGq_yes rfl ?_
      refine q_of (ptr (L.loc (S.of name))) (fun w_ hS => s_ldb (Try.isAgg94 _) hS.2.1 rfl ⟨rfl, rfl⟩) ?_
      refine pGq_yes rfl ?_
      refine q_of _ (fun w_ hS => s_nil ⟨rfl, rfl⟩) ?_
      refine pGq_yes rfl ?_
      refine q_of _ (fun w_ hS => fa101_1 ⟨rfl, rfl⟩) ?_
      refine pGq_yes rfl ?_
      refine q_of (.slice A (S.things (S.of name)).shown.length c') (fun w_ hS => s_ldb (Try.isAgg30 _) hS.2.2 rfl ⟨rfl, rfl⟩) ?_
      refine pGq_yes rfl ?_
      refine q_of _ (fun w_ hS => s_len usl30 ⟨rfl, rfl⟩) ?_
      refine pGq_yes rfl ?_
      by_cases n1 : n > (S.things (S.of name)).shown.length
      · refine q_of _ (fun w_ hS => s_gt_t n1 ⟨rfl, rfl⟩) ?_
        exact q_of _ (fun w_ hS => s_pick_f ⟨rfl, rfl⟩) (pC_true (beyond (.inr n1)))
      · refine q_of _ (fun w_ hS => s_gt_f n1 ⟨rfl, rfl⟩) ?_
        refine q_of _ (fun w_ hS => s_pick_f ⟨rfl, rfl⟩) (pC_false (s_mkf ?_))
        have ec : S.truncate name n = S.stroke 0 0 (fun T => T.setThing (S.of name) ((T.things (S.of name)).add (.cut n.toNat))) := by
          unfold AD.truncate; rw [if_neg (by simp [hl]), if_neg (by rw [el]; omega)]
        refine c_stroke (act := fun T => T.setThing (S.of name) ((T.things (S.of name)).add (.cut n.toNat))) 0 0 _ h4 ⟨ok.strokes.1, by have := ok.strokes.2; have := ok.small; omega⟩ ⟨ok.since.1, by have := ok.since.2; have := ok.small; omega⟩ (fun T => rfl) ?_ ?_
        · intro _ w5 hR f5 K hK
          have hD := hz D (.inl h.oD)
          have g1 : w5.heap[w.heap.size]? = some (.cells #[i64 n.toNat] 3 (0, 0)) := by
            have e : ((n.toNat : Nat) : Int) = n := by omega
            rw [e]; exact f5.get (f4.get b1' id) (by omega)
          have g2 := f5.get (f4.get b3' id) (by omega)
          exact c_truncateC (c := c) hR hr (ok.thing _ hr) ok.small (by show n.toNat ≤ (S.things (S.of name)).shown.length; omega) g2 g1 fun w' O' I' L' hx => hK _ w' O' I' L' hx
        · intro w' O' I' L' hx
          rw [← ec]
          exact hk w' O' I' L' (by rw [ec]; exact Nx.from f04 hx hz)
  · have ec : S.truncate name n = (S.look name, S) := by unfold AD.truncate; rw [if_pos hl]
    refine s_nei_t hl (pC_true ?_)
    have := hk w3 O I L (by rw [ec]; exact hN0)
    rw [ec] at this; exact this
end
end Go.Proofs.Ytcdcojpfealppaa
