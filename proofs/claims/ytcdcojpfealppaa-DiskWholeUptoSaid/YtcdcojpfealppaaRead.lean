/- Read, Reads. -/
import Derived.Test.YtcdcojpfealppaaCrash3
import Derived.Test.YtcdcojpfealppaaR4
set_option linter.unusedVariables false
set_option linter.unusedSimpArgs false
set_option maxRecDepth 100000
namespace Go.Proofs.Ytcdcojpfealppaa
open Go Go.Proofs Go.RowKit Go.Proofs.XRed Go.Proofs.XHeap Go.Proofs.XMaps Go.Proofs.XSlices Go.Proofs.XDisk Go.Proofs.XCalls Go.Proofs.XRange Go.Proofs.XKeys
section
variable {w w0 : World} {D : Nat} {S S' : AD} {O I : Nat → Prop} {L : Lay} {k : Value → World → Prop}
theorem c_read {c : Nat} (h : DRep w D S O I L) (ok : S.Ok c) (name : ByteArray) (hs : name.size ≤ 9223372036854775807) (a n : Int) (hn : -9223372036854775808 ≤ a ∧ a ≤ 9223372036854775807)
    (hk : ∀ w' O' I' L' v, Nx w D O I w' (S.read name a n).2.2 O' I' L' → SBytes w' v (S.read name a n).2.1 → (∀ b, sblk v = some b → w.heap.size ≤ b ∧ ¬ O' b) → k (.tuple #[v, i64 (S.read name a n).1]) w') : pFn P 42 [ptr D, .string name, i64 a, i64 n] w k := by
  refine F42_in _ _ _ _ _ _ ?_
  unfold F42_0
  refine c_look h ok.room.1 name hs (s_ext rfl (s_ext rfl ?_))
  have fail : ∀ r, S.read name a n = (r, [], S) → k (.tuple #[.slice none 0 0, i64 r]) w := by
    intro r ec
    have := hk w O I L (.slice none 0 0) (by rw [ec]; exact Nx.refl h) (by rw [ec]; exact SBytes.nil _) (by rintro b hb; cases hb)
    rw [ec] at this; exact this
  by_cases hl : S.look name = 0
  · have hg : alGet S.shown name = some (S.of name) := by
      rcases look_vals S name with h | h | h | h
      · rw [h] at hl; cases hl
      · rw [h] at hl; cases hl
      · rw [h] at hl; cases hl
      · exact h.2
    have hr : reach S (S.of name) := .inl ⟨name, mem_of_alGet hg⟩
    rw [if_pos hl, hl]
    have hlen := (ok.thing _ hr).ok.len.1
    obtain ⟨sv, hv, cs, hbT, _, hsh, _⟩ := (h.things _ hr).ex
    obtain ⟨A, c', rfl, hc'⟩ := hsh.1.form
    have el : S.bytes name = (S.things (S.of name)).shown := rfl
    have beyond : (a < 0 ∨ n < 0 ∨ a > (S.bytes name).length ∨ n > (S.bytes name).length - a) → k (.tuple #[.slice none 0 0, i64 54]) w := fun hbad =>
      fail 54 (by unfold AD.read; rw [if_neg (by simp [hl]), if_pos hbad])
    refine s_nei_f rfl (pC_false ?_)
    by_cases a0 : a < 0
    · refine s_lt_t a0 ?_
      repeat (first | refine pG_skf ?_ | refine pG_un ?_)
      refine s_pick_t ?_
      repeat (first | refine pG_skf ?_ | refine pG_un ?_)
      refine s_pick_t ?_
      repeat (first | refine pG_skf ?_ | refine pG_un ?_)
      exact s_pick_t (pC_true (beyond (.inl a0)))
    refine s_lt_f a0 (pG_yes rfl (pG_yes rfl ?_))
    by_cases n0 : n < 0
    · refine s_lt_t n0 (s_pick_f ?_)
      repeat (first | refine pG_skf ?_ | refine pG_un ?_)
      refine s_pick_t ?_
      repeat (first | refine pG_skf ?_ | refine pG_un ?_)
      exact s_pick_t (pC_true (beyond (.inr (.inl n0))))
    refine s_lt_f n0 (s_pick_f ?_)
    refine pG_yes rfl (pG_yes rfl (pG_yes rfl (s_nil (pG_yes rfl (fa101_1 (pG_yes rfl (s_ldb (v := .slice A (S.things (S.of name)).shown.length c') (Try.isAgg30 _) hbT rfl (pG_yes rfl (s_len usl30 (pG_yes rfl ?_))))))))))
    by_cases a1 : a > (S.things (S.of name)).shown.length
    · refine s_gt_t a1 (s_pick_f ?_)
      repeat (first | refine pG_skf ?_ | refine pG_un ?_)
      exact s_pick_t (pC_true (beyond (.inr (.inr (.inl a1)))))
    refine s_gt_f a1 (s_pick_f ?_)
    refine pG_yes rfl (pG_yes rfl (pG_yes rfl (s_nil (pG_yes rfl (fa101_1 (pG_yes rfl (s_ldb (v := .slice A (S.things (S.of name)).shown.length c') (Try.isAgg30 _) hbT rfl (pG_yes rfl (s_len usl30 (pG_yes rfl (pG_yes rfl (s_sub_in (by omega) (pG_yes rfl ?_)))))))))))))
    by_cases n1 : n > (S.things (S.of name)).shown.length - a
    · exact s_gt_t n1 (s_pick_f (pC_true (beyond (.inr (.inr (.inr n1))))))
    refine s_gt_f n1 (s_pick_f (pC_false ?_))
    have hreads := ok.reads
    have hsm := ok.small
    refine s_nil (fa93_8 (s_ldb (v := L.readsv) (Try.isAgg60 _) h.disk rfl ?_))
    refine px_ok (w' := w) (v := .agg #[.string name, i64 a, i64 n]) (by kernel_rfl) ?_
    refine px_ok (w' := w.alloc (.cells #[.string name, i64 a, i64 n] 86)) (v := .slice (some ⟨w.heap.size, 0, none⟩) 1 1) (by kernel_rfl) ?_
    have f1 := Fr.alloc no w (.cells #[.string name, i64 a, i64 n] 86)
    have hlit := own_lit w 0 86 3 #[.string name, i64 a, i64 n] 1 (Nat.zero_le _) (by unfold maxLen; omega) rfl
    have z1 : (w.alloc (.cells #[.string name, i64 a, i64 n] 86)).heap.size = w.heap.size + 1 := by simp
    show px P _ (w.alloc (.cells #[.string name, i64 a, i64 n] 86)) _
    generalize w.alloc (.cells #[.string name, i64 a, i64 n] 86) = w1 at *
    refine ap60 (own_fr h.reads f1 fun _ _ h => h) (Src.of_own hlit) (by intro u hu; simp at hu; rcases hu with rfl | rfl | rfl <;> rfl) (by omega) (Nat.zero_le _) fun v' w2 h2 f2 hb2 => ?_
    have hRD : ∀ {b}, sblk L.readsv = some b → b ≠ D := by
      rintro b hb rfl
      obtain ⟨c1, h1⟩ := own_obj h.reads hb
      exact absurd (two_types h1 h.disk) (by decide)
    have hd2 := f2.get (f1.get h.disk id) (fun hb => hRD hb.symm rfl)
    refine s_nil (fa93_8 (s_st (Try.sizeOf60 _) (own_one h2).1 (own_one h2).2 hd2 (by show 10 < 11; decide) ?_))
    have hd3 := set_same hd2 10 v'
    have f3 : Fr (fun b => b = D) w2 (w2.setCell ⟨D, 10, none⟩ v') := Fr.setCell w2 ⟨D, 10, none⟩ v'
    have z3 : (w2.setCell ⟨D, 10, none⟩ v').heap.size = w2.heap.size := by simp [World.setCell]
    show px P _ (w2.setCell ⟨D, 10, none⟩ v') _
    generalize w2.setCell ⟨D, 10, none⟩ v' = w3 at *
    have f13 : Fr (fun b => b = D ∨ sblk L.readsv = some b) w w3 := ((f1.or f2).or f3).mono (by
      rintro b ((hb | hb) | hb)
      · exact hb.elim
      · exact .inl (.inr hb.symm)
      · exact .inl (.inl hb))
    have hOwn : ∀ b, (b = D ∨ sblk L.readsv = some b) → Own L D b := by
      rintro b (hb | hb)
      · exact .inl hb
      · exact .inr (.inr (.inr (.inr hb)))
    have hTf : ∀ {T rb x}, TRep w O I T rb x → TRep w3 O I T rb x := fun ht => ht.stay h f13 fun b hb => .inl (hOwn b hb)
    have hnew : ∀ b, sblk v' = some b → sblk L.readsv = some b ∨ w.heap.size < b := by
      intro b hb
      rcases hb2 with e | e
      · left; rw [← e]; exact hb
      · right; rw [e] at hb; injection hb with hb; omega
    have hv'D : ∀ b, sblk v' = some b → b ≠ D := by
      rintro b hb rfl
      obtain ⟨c1, h1⟩ := own_obj h2 hb
      exact absurd (two_types h1 hd2) (by decide)
    have hv'lt : ∀ b, sblk v' = some b → b < w3.heap.size := fun b hb => by have := (own_blk_lt h2 hb).2; omega
    have hz := f13.size
    have hR3 : DRep w3 D { S with reads := S.reads ++ [⟨name, a, n⟩] } (fun b => O b ∨ sblk v' = some b) I { L with readsv := v' } := {
      disk := hd3
      sh := h.sh.fr f13 (by
        rintro (e | e)
        · obtain ⟨es, c1, h1⟩ := SMap.obj h.sh; rw [e, h.disk] at h1; cases h1
        · obtain ⟨c1, h1⟩ := own_obj h.reads e
          obtain ⟨es, c2, h3⟩ := SMap.obj h.sh
          rw [h1] at h3; cases h3)
      shp := h.shp
      sf := h.sf.fr f13 (by
        rintro (e | e)
        · obtain ⟨es, c1, h1⟩ := SMap.obj h.sf; rw [e, h.disk] at h1; cases h1
        · obtain ⟨c1, h1⟩ := own_obj h.reads e
          obtain ⟨es, c2, h3⟩ := SMap.obj h.sf
          rw [h1] at h3; cases h3)
      sfp := h.sfp
      ne := h.ne
      row := own_fr h.row f13 (by
        rintro b hb (e | e)
        · obtain ⟨c1, h1⟩ := own_obj h.row hb
          rw [e] at h1; exact absurd (two_types h1 h.disk) (by decide)
        · obtain ⟨c1, h1⟩ := own_obj h.row hb
          obtain ⟨c2, h3⟩ := own_obj h.reads e
          exact absurd (two_types h1 h3) (by decide))
      reads := by
        have h5 := own_fr h2 f3 hv'D
        simpa [spanCells, List.flatMap_append] using h5
      things := fun t ht => (hTf (h.things t ht)).mono (O := O) (fun b => .inl) fun b => id
      inj := h.inj
      rows := h.rows
      oD := .inl h.oD
      osh := .inl h.osh
      osf := .inl h.osf
      orow := fun b hb => .inl (h.orow b hb)
      oreads := fun b hb => .inr hb
      apart := by
        rintro b (hb | hb) hi
        · exact h.apart b hb hi
        · rcases hnew b hb with h1 | h1
          · exact h.apart b (h.oreads b h1) hi
          · have := h.lt b (.inr hi); omega
      lt := by
        rintro b ((hb | hb) | hb)
        · have := h.lt b (.inl hb); omega
        · exact hv'lt b hb
        · have := h.lt b (.inr hb); omega }
    obtain ⟨sv3, hv3, cs3, hbT3, _, hsh3, _⟩ := (hTf (h.things _ hr)).ex
    obtain ⟨A3, c3, rfl, hc3⟩ := hsh3.1.form
    refine s_nil (fa101_1 (s_ldb (v := .slice A3 (S.things (S.of name)).shown.length c3) (Try.isAgg30 _) hbT3 rfl (s_add_in (by omega) ?_)))
    refine s_sl_lh usl30 (sze30 _) (by omega) (by omega) (by omega) ?_
    have hcut := Src.cut (show Src w3 (.slice A3 (S.things (S.of name)).shown.length c3) 1 _ _ from hsh3.1) (l := a.toNat) (h' := (a + n).toNat) (by omega) (by omega)
    have e1 : ((u8s (S.things (S.of name)).shown).drop (a.toNat * 1)).take (((a + n).toNat - a.toNat) * 1) = u8s (((S.things (S.of name)).shown.drop a.toNat).take n.toNat) := by
      have : (a + n).toNat - a.toNat = n.toNat := by omega
      rw [this, Nat.mul_one, Nat.mul_one]
      simp [u8s, List.map_take, List.map_drop]
    have e2 : (a + n).toNat - a.toNat = (((S.things (S.of name)).shown.drop a.toNat).take n.toNat).length := by simp; omega
    rw [e1, e2] at hcut
    refine ap30 (v := .slice none 0 0) (xs := []) (n := 0) ⟨rfl, .inl ⟨rfl, rfl⟩⟩ hcut u8s_one (by rw [← e2]; omega) (Nat.zero_le _) fun v4 w4 h4 f4 hb4 => ?_
    have ec : S.read name a n = (0, ((S.things (S.of name)).shown.drop a.toNat).take n.toNat, { S with reads := S.reads ++ [⟨name, a, n⟩] }) := by
      unfold AD.read; rw [if_neg (by simp [hl]), if_neg (by rw [el]; omega)]; rfl
    have f4' : Fr no w3 w4 := f4.mono (by rintro b hb; cases hb)
    have hS4 := Src.of_own h4
    rw [Nat.zero_add] at hS4
    have := hk w4 _ _ _ v4 (by
      rw [ec]
      refine ⟨hR3.fr f4' fun b hb => hb.elim, (f13.or f4').mono ?_, fun b => .inl, fun b => id, ?_, fun b => .inl⟩
      · rintro b (hb | hb)
        · exact .inl (h.own (hOwn b hb))
        · exact hb.elim
      · rintro b (hb | hb)
        · exact .inl hb
        · rcases hnew b hb with h1 | h1
          · exact .inl (h.oreads b h1)
          · exact .inr (by omega)) (by rw [ec]; exact hS4) (by
      intro b hb
      rcases hb4 with e | e
      · rw [e] at hb; cases hb
      · rw [e] at hb; injection hb with hb
        refine ⟨by omega, ?_⟩
        rintro (ho | ho)
        · have := h.lt b (.inl ho); omega
        · have := hv'lt b ho; omega)
    rw [ec] at this; exact this
  · refine s_nei_t hl (pC_true (fail _ (by unfold AD.read; rw [if_pos hl])))
theorem c_num (v : Value) (hk : k v w) : pFn P 60 [v] w k := by
  refine F60_in _ _ _ ?_
  exact hk
/-- What is told of the reads: their number. -/
theorem c_reads {c : Nat} (h : DRep w D S O I L) (ok : S.Ok c) (hk : ∀ w' A cp, Src w' (.slice A S.reads.length cp) 3 S.reads.length (S.reads.flatMap spanCells) → (∀ b, sblk (.slice A S.reads.length cp) = some b → w.heap.size ≤ b ∧ b < w'.heap.size) → Fr no w w' → k (.slice A S.reads.length cp) w') : pFn P 28 [ptr D] w k := by
  refine F28_in _ _ _ ?_
  unfold F28_0
  have hreads := ok.reads
  have hsm := ok.small
  refine c_none h.disk ok.room.1 (pC_false ?_)
  refine s_nil (fa93_8 (s_ldb (v := L.readsv) (Try.isAgg60 _) h.disk rfl ?_))
  refine F64_in _ _ _ ?_
  unfold F64_0
  have hS := Src.of_own h.reads
  obtain ⟨A, cp, e, _⟩ : ∃ A c, L.readsv = .slice A S.reads.length c ∧ S.reads.length ≤ c := by obtain ⟨A, c, e, hc, _⟩ := hS; exact ⟨A, c, e, hc⟩
  rw [e] at hS ⊢
  refine s_eqsn Try.underlying60 ?_
  cases A with
  | none =>
    have h0 : S.reads.length = 0 := by
      obtain ⟨A', c', he, hc, hl, hr⟩ := hS
      injection he with e1 e2 e3
      rcases Nat.eq_zero_or_pos S.reads.length with h0 | h0
      · exact h0
      · obtain ⟨b, o, e', _⟩ := hr h0
        rw [← e1] at e'; cases e'
    have h1 : S.reads = [] := List.eq_nil_of_length_eq_zero h0
    refine pC_true ?_
    have := hk w none 0 (by rw [h1]; exact Src.nil w 3) (by intro b hb; cases hb) (Fr.refl _ _)
    rw [h0] at this; exact this
  | some x =>
    refine pC_false (lit0_60 ?_)
    have f1 := Fr.alloc no w (.cells #[] 86)
    have ho := own_lit w 0 86 3 #[] 0 (Nat.zero_le _) (by unfold maxLen; omega) rfl
    have z1 : (w.alloc (.cells #[] 86)).heap.size = w.heap.size + 1 := by simp
    show px P _ (w.alloc (.cells #[] 86)) _
    generalize w.alloc (.cells #[] 86) = w1 at *
    refine ap60 ho (hS.fr (by omega) f1 fun _ _ h => h) (by
      intro u hu
      obtain ⟨q, _, hq⟩ := List.mem_flatMap.1 hu
      simp [spanCells] at hq
      rcases hq with rfl | rfl | rfl <;> rfl) (by omega) (Nat.zero_le _) fun v' w2 h2 f2 hb2 => ?_
    have hS2 := Src.of_own h2
    rw [Nat.zero_add] at hS2
    obtain ⟨A2, c2, e2, _⟩ : ∃ A c, v' = .slice A S.reads.length c ∧ S.reads.length ≤ c := by obtain ⟨A, c, e, hc, _⟩ := hS2; exact ⟨A, c, e, hc⟩
    subst e2
    refine hk w2 A2 c2 hS2 (fun b hb => ?_) ((f1.or f2).mono ?_)
    · have hlt := (own_blk_lt h2 hb).2
      rcases hb2 with e | e
      · rw [e] at hb; injection hb with hb; have hb'' : w.heap.size = b := hb; omega
      · rw [e] at hb; injection hb with hb; omega
    rintro b (hb | hb)
    · exact hb.elim
    · injection hb with hb; have hb'' : b = w.heap.size := hb; exact .inr (by omega)
end
end Go.Proofs.Ytcdcojpfealppaa
