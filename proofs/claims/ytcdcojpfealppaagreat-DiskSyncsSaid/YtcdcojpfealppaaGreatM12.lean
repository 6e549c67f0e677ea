/- Put together by a program (wip/tools/shake.py): Read, Known, Shelf, Two, Do, Long, XRow, Script, XSep, XSep2, XSep3. -/
import Derived.Test.YtcdcojpfealppaaGreatM8
import Derived.Test.YtcdcojpfealppaaGreatM9
import Derived.Test.YtcdcojpfealppaaGreatM11
import Derived.Laws.IdiomStrings
import Derived.Lib.SlBytesConst
import Derived.Test.YtcdcojpfealppaaGreatM10
import Derived.Shelf.SlIter.Nil
import Derived.Shelf.SortM.Plain
import Derived.Shelf.SortM.SortNone
import Derived.Ground.GgzProg
import Derived.Ground.SlgmProg
import Derived.Test.YtcdcojpfealppaaGreatProg
import Derived.Test.YtcdcojpfealppaaGreatM7
import Derived.Test.YtcdcojpfealppaaGreatM2
import Derived.Laws.StructEq
import Derived.ProofKit
import Derived.SliceStrings
import Derived.Deep.SlicePairs
import Derived.Test.YtcdcojpfealppaaGreatRows
import Derived.JoinedCond
import Derived.Deep.Slices
import Derived.Test.YtcdcojpfealppaaGreatM1
set_option linter.unusedVariables false
set_option linter.unusedSimpArgs false
set_option maxRecDepth 100000
namespace Go.Proofs.YtcdcojpfealppaaGreat
open Go Go.Proofs Go.RowKit Go.Proofs.XRed Go.Proofs.XHeap Go.Proofs.XMaps Go.Proofs.XSlices Go.Proofs.XDisk Go.Proofs.XCalls Go.Proofs.XRange Go.Proofs.XKeys
section
variable {w w0 : World} {D : Nat} {S S' : AD} {O I : Nat → Prop} {L : Lay} {k : Value → World → Prop}
theorem c_read {c : Nat} (h : DRep w D S O I L) (ok : S.Ok c) (name : ByteArray) (hs : name.size ≤ 9223372036854775807) (a n : Int) (hn : -9223372036854775808 ≤ a ∧ a ≤ 9223372036854775807)
    (hk : ∀ w' O' I' L' v, Nx w D O I w' (S.read name a n).2.2 O' I' L' → SBytes w' v (S.read name a n).2.1 → (∀ b, sblk v = some b → w.heap.size ≤ b ∧ ¬ O' b) → k (.tuple #[v, i64 (S.read name a n).1]) w') : pFn P 32 [ptr D, .string name, i64 a, i64 n] w k := by
  refine F32_in _ _ _ _ _ _ ?_
  unfold F32_0
  refine c_look h ok.room.1 name hs (s_ext rfl (s_ext rfl ?_))
  have fail : ∀ r, S.read name a n = (r, [], S) → k (.tuple #[.slice none 0 0, i64 r]) w := by
    intro r ec
    have := hk w O I L (.slice none 0 0) (by rw [ec]; exact Nx.refl h) (by rw [ec]; exact SBytes.nil _) (by rintro b hb; cases hb)
    rw [ec] at this; exact this
  by_cases hl : S.look name = 0
  · have hg : alGet S.shown name = some (S.of name) := by
      rcases look_vals S name with h | h | h | h
      · rw [h] at hl; cases hl
      · rw [h] at hl; cases hl
      · rw [h] at hl; cases hl
      · exact h.2
    have hr : reach S (S.of name) := .inl ⟨name, mem_of_alGet hg⟩
    rw [if_pos hl, hl]
    have hlen := (ok.thing _ hr).ok.len.1
    obtain ⟨sv, hv, cs, hbT, _, hsh, _⟩ := (h.things _ hr).ex
    obtain ⟨A, c', rfl, hc'⟩ := hsh.1.form
    have el : S.bytes name = (S.things (S.of name)).shown := rfl
    have beyond : (a < 0 ∨ n < 0 ∨ a > (S.bytes name).length ∨ n > (S.bytes name).length - a) → k (.tuple #[.slice none 0 0, i64 54]) w := fun hbad =>
      fail 54 (by unfold AD.read; rw [if_neg (by simp [hl]), if_pos hbad])
    refine s_nei_f rfl (pC_false ?_)
    by_cases a0 : a < 0
    · refine s_lt_t a0 ?_
      repeat (first | refine pG_skf ?_ | refine pG_un ?_)
      refine s_pick_t ?_
      repeat (first | refine pG_skf ?_ | refine pG_un ?_)
      refine s_pick_t ?_
      repeat (first | refine pG_skf ?_ | refine pG_un ?_)
      exact s_pick_t (pC_true (beyond (.inl a0)))
    refine s_lt_f a0 (pG_yes rfl (pG_yes rfl ?_))
    by_cases n0 : n < 0
    · refine s_lt_t n0 (s_pick_f ?_)
      repeat (first | refine pG_skf ?_ | refine pG_un ?_)
      refine s_pick_t ?_
      repeat (first | refine pG_skf ?_ | refine pG_un ?_)
      exact s_pick_t (pC_true (beyond (.inr (.inl n0))))
    refine s_lt_f n0 (s_pick_f ?_)
    refine pG_yes rfl (pG_yes rfl (pG_yes rfl (s_nil (pG_yes rfl (fa124_1 (pG_yes rfl (s_ldb (v := .slice A (S.things (S.of name)).shown.length c') (Tryz.isAgg36 _) hbT rfl (pG_yes rfl (s_len usl36 (pG_yes rfl ?_))))))))))
    by_cases a1 : a > (S.things (S.of name)).shown.length
    · refine s_gt_t a1 (s_pick_f ?_)
      repeat (first | refine pG_skf ?_ | refine pG_un ?_)
      exact s_pick_t (pC_true (beyond (.inr (.inr (.inl a1)))))
    refine s_gt_f a1 (s_pick_f ?_)
    refine pG_yes rfl (pG_yes rfl (pG_yes rfl (s_nil (pG_yes rfl (fa124_1 (pG_yes rfl (s_ldb (v := .slice A (S.things (S.of name)).shown.length c') (Tryz.isAgg36 _) hbT rfl (pG_yes rfl (s_len usl36 (pG_yes rfl (pG_yes rfl (s_sub_in (by omega) (pG_yes rfl ?_)))))))))))))
    by_cases n1 : n > (S.things (S.of name)).shown.length - a
    · exact s_gt_t n1 (s_pick_f (pC_true (beyond (.inr (.inr (.inr n1))))))
    refine s_gt_f n1 (s_pick_f (pC_false ?_))
    have hreads := ok.reads
    have hsm := ok.small
    refine s_nil (fa58_8 (s_ldb (v := L.readsv) (Tryz.isAgg56 _) h.disk rfl ?_))
    refine px_ok (w' := w) (v := .agg #[.string name, i64 a, i64 n]) (by kernel_rfl) ?_
    refine px_ok (w' := w.alloc (.cells #[.string name, i64 a, i64 n] 134)) (v := .slice (some ⟨w.heap.size, 0, none⟩) 1 1) (by kernel_rfl) ?_
    have f1 := Fr.alloc no w (.cells #[.string name, i64 a, i64 n] 134)
    have hlit := own_lit w 0 134 3 #[.string name, i64 a, i64 n] 1 (Nat.zero_le _) (by unfold maxLen; omega) rfl
    have z1 : (w.alloc (.cells #[.string name, i64 a, i64 n] 134)).heap.size = w.heap.size + 1 := by simp
    show px P _ (w.alloc (.cells #[.string name, i64 a, i64 n] 134)) _
    generalize w.alloc (.cells #[.string name, i64 a, i64 n] 134) = w1 at *
    refine ap56 (own_fr h.reads f1 fun _ _ h => h) (Src.of_own hlit) (by intro u hu; simp at hu; rcases hu with rfl | rfl | rfl <;> rfl) (by omega) (Nat.zero_le _) fun v' w2 h2 f2 hb2 => ?_
    have hRD : ∀ {b}, sblk L.readsv = some b → b ≠ D := by
      rintro b hb rfl
      obtain ⟨c1, h1⟩ := own_obj h.reads hb
      exact absurd (two_types h1 h.disk) (by decide)
    have hd2 := f2.get (f1.get h.disk id) (fun hb => hRD hb.symm rfl)
    refine s_nil (fa58_8 (s_st (Tryz.sizeOf56 _) (own_one h2).1 (own_one h2).2 hd2 (by show 10 < 11; decide) ?_))
    have hd3 := set_same hd2 10 v'
    have f3 : Fr (fun b => b = D) w2 (w2.setCell ⟨D, 10, none⟩ v') := Fr.setCell w2 ⟨D, 10, none⟩ v'
    have z3 : (w2.setCell ⟨D, 10, none⟩ v').heap.size = w2.heap.size := by simp [World.setCell]
    show px P _ (w2.setCell ⟨D, 10, none⟩ v') _
    generalize w2.setCell ⟨D, 10, none⟩ v' = w3 at *
    have f13 : Fr (fun b => b = D ∨ sblk L.readsv = some b) w w3 := ((f1.or f2).or f3).mono (by
      rintro b ((hb | hb) | hb)
      · exact hb.elim
      · exact .inl (.inr hb.symm)
      · exact .inl (.inl hb))
    have hOwn : ∀ b, (b = D ∨ sblk L.readsv = some b) → Own L D b := by
      rintro b (hb | hb)
      · exact .inl hb
      · exact .inr (.inr (.inr (.inr hb)))
    have hTf : ∀ {T rb x}, TRep w O I T rb x → TRep w3 O I T rb x := fun ht => ht.stay h f13 fun b hb => .inl (hOwn b hb)
    have hnew : ∀ b, sblk v' = some b → sblk L.readsv = some b ∨ w.heap.size < b := by
      intro b hb
      rcases hb2 with e | e
      · left; rw [← e]; exact hb
      · right; rw [e] at hb; injection hb with hb; omega
    have hv'D : ∀ b, sblk v' = some b → b ≠ D := by
      rintro b hb rfl
      obtain ⟨c1, h1⟩ := own_obj h2 hb
      exact absurd (two_types h1 hd2) (by decide)
    have hv'lt : ∀ b, sblk v' = some b → b < w3.heap.size := fun b hb => by have := (own_blk_lt h2 hb).2; omega
    have hz := f13.size
    have hR3 : DRep w3 D { S with reads := S.reads ++ [⟨name, a, n⟩] } (fun b => O b ∨ sblk v' = some b) I { L with readsv := v' } := {
      disk := hd3
      sh := h.sh.fr f13 (by
        rintro (e | e)
        · obtain ⟨es, c1, h1⟩ := SMap.obj h.sh; rw [e, h.disk] at h1; cases h1
        · obtain ⟨c1, h1⟩ := own_obj h.reads e
          obtain ⟨es, c2, h3⟩ := SMap.obj h.sh
          rw [h1] at h3; cases h3)
      shp := h.shp
      sf := h.sf.fr f13 (by
        rintro (e | e)
        · obtain ⟨es, c1, h1⟩ := SMap.obj h.sf; rw [e, h.disk] at h1; cases h1
        · obtain ⟨c1, h1⟩ := own_obj h.reads e
          obtain ⟨es, c2, h3⟩ := SMap.obj h.sf
          rw [h1] at h3; cases h3)
      sfp := h.sfp
      ne := h.ne
      row := own_fr h.row f13 (by
        rintro b hb (e | e)
        · obtain ⟨c1, h1⟩ := own_obj h.row hb
          rw [e] at h1; exact absurd (two_types h1 h.disk) (by decide)
        · obtain ⟨c1, h1⟩ := own_obj h.row hb
          obtain ⟨c2, h3⟩ := own_obj h.reads e
          exact absurd (two_types h1 h3) (by decide))
      reads := by
        have h5 := own_fr h2 f3 hv'D
        simpa [spanCells, List.flatMap_append] using h5
      things := fun t ht => (hTf (h.things t ht)).mono (O := O) (fun b => .inl) fun b => id
      inj := h.inj
      rows := h.rows
      oD := .inl h.oD
      osh := .inl h.osh
      osf := .inl h.osf
      orow := fun b hb => .inl (h.orow b hb)
      oreads := fun b hb => .inr hb
      apart := by
        rintro b (hb | hb) hi
        · exact h.apart b hb hi
        · rcases hnew b hb with h1 | h1
          · exact h.apart b (h.oreads b h1) hi
          · have := h.lt b (.inr hi); omega
      lt := by
        rintro b ((hb | hb) | hb)
        · have := h.lt b (.inl hb); omega
        · exact hv'lt b hb
        · have := h.lt b (.inr hb); omega }
    obtain ⟨sv3, hv3, cs3, hbT3, _, hsh3, _⟩ := (hTf (h.things _ hr)).ex
    obtain ⟨A3, c3, rfl, hc3⟩ := hsh3.1.form
    refine s_nil (fa124_1 (s_ldb (v := .slice A3 (S.things (S.of name)).shown.length c3) (Tryz.isAgg36 _) hbT3 rfl (s_add_in (by omega) ?_)))
    refine s_sl_lh usl36 (sze36 _) (by omega) (by omega) (by omega) ?_
    have hcut := Src.cut (show Src w3 (.slice A3 (S.things (S.of name)).shown.length c3) 1 _ _ from hsh3.1) (l := a.toNat) (h' := (a + n).toNat) (by omega) (by omega)
    have e1 : ((u8s (S.things (S.of name)).shown).drop (a.toNat * 1)).take (((a + n).toNat - a.toNat) * 1) = u8s (((S.things (S.of name)).shown.drop a.toNat).take n.toNat) := by
      have : (a + n).toNat - a.toNat = n.toNat := by omega
      rw [this, Nat.mul_one, Nat.mul_one]
      simp [u8s, List.map_take, List.map_drop]
    have e2 : (a + n).toNat - a.toNat = (((S.things (S.of name)).shown.drop a.toNat).take n.toNat).length := by simp; omega
    rw [e1, e2] at hcut
    refine ap36 (v := .slice none 0 0) (xs := []) (n := 0) ⟨rfl, .inl ⟨rfl, rfl⟩⟩ hcut u8s_one (by rw [← e2]; omega) (Nat.zero_le _) fun v4 w4 h4 f4 hb4 => ?_
    have ec : S.read name a n = (0, ((S.things (S.of name)).shown.drop a.toNat).take n.toNat, { S with reads := S.reads ++ [⟨name, a, n⟩] }) := by
      unfold AD.read; rw [if_neg (by simp [hl]), if_neg (by rw [el]; omega)]; rfl
    have f4' : Fr no w3 w4 := f4.mono (by rintro b hb; cases hb)
    have hS4 := Src.of_own h4
    rw [Nat.zero_add] at hS4
    have := hk w4 _ _ _ v4 (by
      rw [ec]
      refine ⟨hR3.fr f4' fun b hb => hb.elim, (f13.or f4').mono ?_, fun b => .inl, fun b => id, ?_, fun b => .inl⟩
      · rintro b (hb | hb)
        · exact .inl (h.own (hOwn b hb))
        · exact hb.elim
      · rintro b (hb | hb)
        · exact .inl hb
        · rcases hnew b hb with h1 | h1
          · exact .inl (h.oreads b h1)
          · exact .inr (by omega)) (by rw [ec]; exact hS4) (by
      intro b hb
      rcases hb4 with e | e
      · rw [e] at hb; cases hb
      · rw [e] at hb; injection hb with hb
        refine ⟨by omega, ?_⟩
        rintro (ho | ho)
        · have := h.lt b (.inl ho); omega
        · have := hv'lt b ho; omega)
    rw [ec] at this; exact this
  · refine s_nei_t hl (pC_true (fail _ (by unfold AD.read; rw [if_pos hl])))
theorem c_num (v : Value) (hk : k v w) : pFn P 20 [v] w k := by
  refine F20_in _ _ _ ?_
  exact hk
theorem c_reads {c : Nat} (h : DRep w D S O I L) (ok : S.Ok c) (hk : ∀ w' A cp, Src w' (.slice A S.reads.length cp) 3 S.reads.length (S.reads.flatMap spanCells) → (∀ b, sblk (.slice A S.reads.length cp) = some b → w.heap.size ≤ b ∧ b < w'.heap.size) → Fr no w w' → k (.slice A S.reads.length cp) w') : pFn P 31 [ptr D] w k := by
  refine F31_in _ _ _ ?_
  unfold F31_0
  have hreads := ok.reads
  have hsm := ok.small
  refine c_none h.disk ok.room.1 (pC_false ?_)
  refine s_nil (fa58_8 (s_ldb (v := L.readsv) (Tryz.isAgg56 _) h.disk rfl ?_))
  refine F85_in _ _ _ ?_
  unfold F85_0
  have hS := Src.of_own h.reads
  obtain ⟨A, cp, e, _⟩ : ∃ A c, L.readsv = .slice A S.reads.length c ∧ S.reads.length ≤ c := by obtain ⟨A, c, e, hc, _⟩ := hS; exact ⟨A, c, e, hc⟩
  rw [e] at hS ⊢
  refine s_eqsn Tryz.underlying56 ?_
  cases A with
  | none =>
    have h0 : S.reads.length = 0 := by
      obtain ⟨A', c', he, hc, hl, hr⟩ := hS
      injection he with e1 e2 e3
      rcases Nat.eq_zero_or_pos S.reads.length with h0 | h0
      · exact h0
      · obtain ⟨b, o, e', _⟩ := hr h0
        rw [← e1] at e'; cases e'
    have h1 : S.reads = [] := List.eq_nil_of_length_eq_zero h0
    refine pC_true ?_
    have := hk w none 0 (by rw [h1]; exact Src.nil w 3) (by intro b hb; cases hb) (Fr.refl _ _)
    rw [h0] at this; exact this
  | some x =>
    refine pC_false (lit0_56 ?_)
    have f1 := Fr.alloc no w (.cells #[] 134)
    have ho := own_lit w 0 134 3 #[] 0 (Nat.zero_le _) (by unfold maxLen; omega) rfl
    have z1 : (w.alloc (.cells #[] 134)).heap.size = w.heap.size + 1 := by simp
    show px P _ (w.alloc (.cells #[] 134)) _
    generalize w.alloc (.cells #[] 134) = w1 at *
    refine ap56 ho (hS.fr (by omega) f1 fun _ _ h => h) (by
      intro u hu
      obtain ⟨q, _, hq⟩ := List.mem_flatMap.1 hu
      simp [spanCells] at hq
      rcases hq with rfl | rfl | rfl <;> rfl) (by omega) (Nat.zero_le _) fun v' w2 h2 f2 hb2 => ?_
    have hS2 := Src.of_own h2
    rw [Nat.zero_add] at hS2
    obtain ⟨A2, c2, e2, _⟩ : ∃ A c, v' = .slice A S.reads.length c ∧ S.reads.length ≤ c := by obtain ⟨A, c, e, hc, _⟩ := hS2; exact ⟨A, c, e, hc⟩
    subst e2
    refine hk w2 A2 c2 hS2 (fun b hb => ?_) ((f1.or f2).mono ?_)
    · have hlt := (own_blk_lt h2 hb).2
      rcases hb2 with e | e
      · rw [e] at hb; injection hb with hb; have hb'' : w.heap.size = b := hb; omega
      · rw [e] at hb; injection hb with hb; omega
    rintro b (hb | hb)
    · exact hb.elim
    · injection hb with hb; have hb'' : b = w.heap.size := hb; exact .inr (by omega)
end
end Go.Proofs.YtcdcojpfealppaaGreat

set_option linter.unusedVariables false
set_option linter.unusedSimpArgs false
set_option maxRecDepth 100000
namespace Go.Proofs.YtcdcojpfealppaaGreat
open Go Go.Proofs Go.RowKit Go.Proofs.XRed Go.Proofs.XHeap Go.Proofs.XMaps Go.Proofs.XSlices Go.Proofs.XDisk Go.Proofs.XCalls Go.Proofs.XRange Go.Proofs.XKeys
def nA : ByteArray := ByteArray.mk #[97]
def nB : ByteArray := ByteArray.mk #[98]
def K0 : AD := AD.new 20
def K1 : AD := (K0.create nA).2
def K2 : AD := (K1.append nA [120, 121, 122]).2
def K3 : AD := (K2.sync nA).2
def K4 : AD := K3.syncNames.2
def K5 : AD := (K4.append nA [49, 50]).2
def K6 : AD := (K5.rename nA nB).2
def K7 : AD := (K6.read nB 2 2).2.2
def K8 : AD := K7.crash [1, 1]
theorem K_res : (K0.create nA).1 = 0 ∧ (K1.append nA [120, 121, 122]).1 = 0 ∧ (K2.sync nA).1 = 0 ∧ K3.syncNames.1 = 0 ∧ (K4.append nA [49, 50]).1 = 0 ∧ (K5.rename nA nB).1 = 0 ∧ (K6.read nB 2 2).1 = 0 ∧ (K6.read nB 2 2).2.1 = [122, 49] := by
  refine ⟨?_, ?_, ?_, ?_, ?_, ?_, ?_, ?_⟩ <;> kernel_rfl
theorem K_end : K7.strokes = 6 ∧ K7.reads.length = 1 ∧ K8.files = [(nB, [120, 121, 122, 49])] ∧ (K8.remove nA).1 = 53 ∧ (K8.remove nA).2.used = 4 := by
  refine ⟨?_, ?_, ?_, ?_, ?_⟩ <;> kernel_rfl
section
variable {w : World} {D : Nat} {S S' : AD} {O I : Nat → Prop} {L : Lay} {k : Value → World → Prop}
theorem lit_const {w : World} {D : Nat} {S : AD} {O I : Nat → Prop} {L : Lay} (h : DRep w D S O I L) (bs : Bytes) {k : Value → Value → World → Prop} {parts : Array (Nat × Value)}
    (hlit : (Instr.buildSlice 36 bs.length parts).run P w = .ok (.slice (some ⟨w.heap.size, 0, none⟩) bs.length bs.length) (w.alloc (.cells (u8s bs).toArray 5)))
    (hk : ∀ w' v, Fr no w w' → SBytes w' v bs → (∀ b, sblk v = some b → ¬ O b) → DRep w' D S O I L → k v v w') :
    px P (Instr.buildSlice 36 bs.length parts) w fun v w => px P (convert 36 36 v) w (k v) := by
  refine px_ok hlit ?_
  refine px_ok (Lib.run_convert_bytes_const w 36 5 (u8s bs).toArray _ _ (by kernel_rfl) (by kernel_rfl)) ?_
  have f : Fr no w (w.alloc (.cells (u8s bs).toArray 5 ((u8s bs).toArray.size, (u8s bs).toArray.size + 1))) := Fr.alloc ..
  refine hk _ _ f (SBytes.blk (alloc_new _ _) (Nat.le_refl _)) ?_ (h.fr f fun b hb => hb.elim)
  intro b hb ho
  injection hb with hb
  have := h.lt b (.inl ho)
  have hb'' : w.heap.size = b := hb
  omega
theorem s_conv_str {v : Value} {bs : Bytes} (h : SBytes w v bs) (h0 : bs ≠ []) (hk : k (.string ⟨bs.toArray⟩) w) : px P (convert 36 9 v) w k := by
  obtain ⟨A, c, rfl, hc, hl, hr⟩ := h
  have h1 : 0 < bs.length := List.length_pos_iff.2 h0
  obtain ⟨b, o, rfl, hcell⟩ := hr h1
  refine px_ok (run_convert_bytes_back w 36 9 5 ⟨b, o, none⟩ c bs (by kernel_rfl) (by kernel_rfl) (by kernel_rfl) ?_) hk
  intro j hj
  rw [add_at]
  exact hcell j _ (by simp [u8s, hj])
theorem Nx.up {w' : World} {O' I' : Nat → Prop} {L' : Lay} {n : Nat} (hx : Nx w D O I w' S' O' I' L') (hO : ∀ b, O b → n ≤ b) (hn : n ≤ w.heap.size) : (∀ b, O' b → n ≤ b) ∧ Fr (fun b => n ≤ b) w w' ∧ n ≤ w'.heap.size :=
  ⟨fun b hb => (hx.on b hb).elim (hO b) (Nat.le_trans hn), hx.fr.mono fun b hb => .inl (hO b hb), Nat.le_trans hn hx.fr.size⟩
theorem no_up {w' : World} {n : Nat} (hf : Fr no w w') (hn : n ≤ w.heap.size) : Fr (fun b => n ≤ b) w w' ∧ n ≤ w'.heap.size := ⟨hf.mono fun b hb => hb.elim, Nat.le_trans hn hf.size⟩
theorem up_trans {w1 w2 : World} {n : Nat} (h : Fr (fun b => n ≤ b) w w1) (k : Fr (fun b => n ≤ b) w1 w2) : Fr (fun b => n ≤ b) w w2 := h.trans k fun b hb => .inl hb
theorem c_known (sk : SortsKeys) (hk : ∀ w', Fr no w w' → k (.bool true) w') : pFn P 17 [] w k := by
  refine F17_in _ _ ?_
  unfold F17_0
  obtain ⟨r1, r2, r3, r4, r5, r6, r7, r8⟩ := K_res
  obtain ⟨e1, e2, e3, e4, e5⟩ := K_end
  have ok0 : K0.Ok 0 := AD.Ok.new (by decide)
  have ok1 : K1.Ok 1 := ok0.create (by decide) nA
  have ok2 : K2.Ok 2 := ok1.append (by decide) nA _
  have ok3 : K3.Ok 3 := ok2.sync (by decide) nA
  have ok4 : K4.Ok 4 := ok3.syncNames (by decide)
  have ok5 : K5.Ok 5 := ok4.append (by decide) nA _
  have ok6 : K6.Ok 6 := ok5.rename (by decide) nA nB
  refine c_new (fun h => absurd (show (1 : Int) ≤ 20 ∧ (20 : Int) ≤ 1048576 by decide) h) fun _ w1 L0 h0 f1 => ?_
  refine s_ext rfl (s_ext rfl ?_)
  refine c_num _ (s_nei_f rfl (pG_yes rfl (pG_yes rfl ?_)))
  refine s_eqpn upt29 (s_pick_f (pC_false ?_))
  have small : nA.size ≤ 9223372036854775807 := by decide
  have smallB : nB.size ≤ 9223372036854775807 := by decide
  have g0 : DRep w1 (w.heap.size + 2) K0 (fun b => w.heap.size ≤ b ∧ b < w1.heap.size) no L0 := h0
  refine c_create g0 ok0 nA small fun w2 O2 I2 L2 h2 => ?_
  rw [r1]
  have g1 : DRep w2 (w.heap.size + 2) K1 O2 I2 L2 := h2.rep
  refine lit_const g1 [120, 121, 122] (by kernel_rfl) fun w3 dv3 f3 hd3 hO3 hR3 => ?_
  refine c_append hR3 ok1 nA small hd3 hO3 (by decide) fun w4 O4 I4 L4 h4 => ?_
  rw [r2]
  have g2 : DRep w4 (w.heap.size + 2) K2 O4 I4 L4 := h4.rep
  refine c_sync g2 ok2 nA small fun w5 O5 I5 L5 h5 => ?_
  rw [r3]
  have g3 : DRep w5 (w.heap.size + 2) K3 O5 I5 L5 := h5.rep
  refine c_syncNames g3 ok3 fun w6 O6 I6 L6 h6 => ?_
  rw [r4]
  have g4 : DRep w6 (w.heap.size + 2) K4 O6 I6 L6 := h6.rep
  refine lit_const g4 [49, 50] (by kernel_rfl) fun w7 dv7 f7 hd7 hO7 hR7 => ?_
  refine c_append hR7 ok4 nA small hd7 hO7 (by decide) fun w8 O8 I8 L8 h8 => ?_
  rw [r5]
  have g5 : DRep w8 (w.heap.size + 2) K5 O8 I8 L8 := h8.rep
  refine c_renameF g5 ok5 nA nB small smallB fun w9 O9 I9 L9 h9 => ?_
  rw [r6]
  have g6 : DRep w9 (w.heap.size + 2) K6 O9 I9 L9 := h9.rep
  refine c_read g6 ok6 nB smallB 2 2 (by decide) fun wa Oa Ia La va ha hva hvb => ?_
  rw [r7]
  rw [r8] at hva
  have g7 : DRep wa (w.heap.size + 2) K7 Oa Ia La := ha.rep
  refine s_ext rfl (s_ext rfl ?_)
  refine c_num _ (c_num _ (s_add_in (by decide) (c_num _ (s_add_in (by decide) (c_num _ (s_add_in (by decide) (c_num _ (s_add_in (by decide) (c_num _ (s_add_in (by decide) (c_num _ (s_add_in (by decide) ?_))))))))))))
  refine s_nei_f (by decide) (pG_yes rfl (pG_yes rfl ?_))
  refine s_conv_str hva (by decide) (pG_yes rfl (s_nes ?_))
  rw [show (!decide ((⟨([122, 49] : List UInt8).toArray⟩ : ByteArray) = ByteArray.mk #[122, 49])) = false from by decide]
  have okr : K7.room = 20 := by kernel_rfl
  have ok7 : K7.Ok 7 := ok6.read (by decide) nB 2 2
  refine s_pick_f (pG_yes rfl (pG_yes rfl (c_strokes g7.disk (by rw [okr]; decide) ?_)))
  rw [e1]
  refine pG_yes rfl (s_nei_f rfl (s_pick_f (pG_yes rfl (pG_yes rfl ?_))))
  refine c_reads g7 ok7 fun wb Ab cb hsb _ fb => ?_
  rw [e2]
  refine pG_yes rfl (s_len usl56 (pG_yes rfl (s_nei_f rfl (s_pick_f (pC_false ?_)))))
  have gb : DRep wb (w.heap.size + 2) K7 Oa Ia La := g7.fr fb fun b hb => hb.elim
  refine px_ok (w' := wb.alloc (.cells #[i64 1, i64 1] 3)) (v := .slice (some ⟨wb.heap.size, 0, none⟩) 2 2) (by kernel_rfl) ?_
  have fc := Fr.alloc no wb (.cells #[i64 1, i64 1] 3)
  have hl := own_lit wb 0 3 1 #[i64 1, i64 1] 2 (Nat.zero_le _) (by unfold maxLen; omega) rfl
  have zc : (wb.alloc (.cells #[i64 1, i64 1] 3)).heap.size = wb.heap.size + 1 := by simp
  show pFn P _ _ (wb.alloc (.cells #[i64 1, i64 1] 3)) _
  generalize wb.alloc (.cells #[i64 1, i64 1] 3) = wc at *
  have gc : DRep wc (w.heap.size + 2) K7 Oa Ia La := gb.fr fc fun b hb => hb.elim
  have ok8 : K8.Ok 7 := ok7.crash [1, 1]
  refine c_crash (picks := [1, 1]) sk gc ok7 (by decide) (Src.of_own hl) (by intro b hb; injection hb with hb; have hb'' : wb.heap.size = b := hb; omega) (fun p hp => by have := ok7.crashNames_small [1, 1] p hp; unfold maxLen; omega) fun wd Od Id Ld hd => ?_
  have gd : DRep wd (w.heap.size + 2) K8 Od Id Ld := hd.rep
  refine c_files sk gd ok8 (fun p hp => by have := ok8.shownNames p hp; unfold maxLen; omega) fun we ve hve fe => ?_
  rw [e3] at hve
  obtain ⟨bf, of, cf, df, rfl, hc0, hc1, hdf⟩ := files_at hve (i := 0) (by decide)
  refine s_len usl71 (s_eqi_t rfl (pG_yes rfl (pG_yes rfl ?_)))
  refine s_ix (i := 0) usl71 (sze71 _) (by decide) (by decide) (pG_yes rfl (fa83_0 (pG_yes rfl ?_)))
  refine s_ld (v := .string nB) (Tryz.isAgg9 _) (by simpa using hc0) (pG_yes rfl (s_eqs ?_))
  rw [show decide (nB = ByteArray.mk #[98]) = true from by decide]
  refine s_pick_t (pG_yes rfl (pG_yes rfl ?_))
  refine s_ix (i := 0) usl71 (sze71 _) (by decide) (by decide) (pG_yes rfl (fa83_1 (pG_yes rfl ?_)))
  refine s_ld (v := df) (Tryz.isAgg36 _) (by simpa using hc1) (pG_yes rfl (s_conv_str hdf (by decide) (pG_yes rfl (s_eqs ?_))))
  rw [show decide ((⟨([(nB, [120, 121, 122, 49])] : List (ByteArray × Bytes))[0].2.toArray⟩ : ByteArray) = ByteArray.mk #[120, 121, 122, 49]) = true from by decide]
  have ge : DRep we (w.heap.size + 2) K8 Od Id Ld := gd.fr fe fun b hb => hb.elim
  refine s_pick_t (pG_yes rfl (pG_yes rfl ?_))
  refine c_remove ge ok8 nA small fun wf Of If Lf hf => ?_
  rw [e4]
  refine pG_yes rfl (c_num _ (pG_yes rfl (s_eqi_t rfl (s_pick_t (pG_yes rfl (pG_yes rfl ?_))))))
  have ok9 : (K8.remove nA).2.Ok 8 := ok8.remove (by decide) nA
  refine c_used hf.rep ok9.room.1 (by rw [e5]; decide) fun wg fg => ?_
  rw [e5]
  refine pG_yes rfl (s_eqi_t rfl (s_pick_t ?_))
  refine hk wg ?_
  have n1 := no_up f1 (Nat.le_refl _)
  have n2 := h2.up (n := w.heap.size) (fun b hb => hb.1) n1.2
  have n3 := no_up f3 n2.2.2
  have n4 := h4.up n2.1 n3.2
  have n5 := h5.up n4.1 n4.2.2
  have n6 := h6.up n5.1 n5.2.2
  have n7 := no_up f7 n6.2.2
  have n8 := h8.up n6.1 n7.2
  have n9 := h9.up n8.1 n8.2.2
  have na := ha.up n9.1 n9.2.2
  have nb := no_up fb na.2.2
  have nc := no_up fc nb.2
  have nd := hd.up na.1 nc.2
  have ne := no_up fe nd.2.2
  have nf := hf.up nd.1 ne.2
  have ng := no_up fg nf.2.2
  have all := up_trans (up_trans (up_trans (up_trans (up_trans (up_trans (up_trans (up_trans (up_trans (up_trans (up_trans (up_trans (up_trans (up_trans (up_trans n1.1 n2.2.1) n3.1) n4.2.1) n5.2.1) n6.2.1) n7.1) n8.2.1) n9.2.1) na.2.1) nb.1) nc.1) nd.2.1) ne.1) nf.2.1) ng.1
  exact all.mono fun b hb => .inr hb
end
end Go.Proofs.YtcdcojpfealppaaGreat

set_option linter.unusedVariables false
set_option linter.unusedSimpArgs false
namespace Go.Proofs.YtcdcojpfealppaaGreat
open Go Go.Proofs Go.RowKit Go.Maps Go.Sort Go.Shelf
def Tryz.keys128_ren : Go.Shelf.Ren := ⟨fun | 7 => 128 | 10 => 139 | n => n, fun | 23 => 54 | 26 => 9 | 3 => 117 | 28 => 199 | 0 => 0 | 27 => 198 | 33 => 151 | 4 => 4 | n => n, fun | n => n⟩
theorem Tryz.keys128 : Go.Proofs.SlLaysZ.n7 Tryz.prog Tryz.keys128_ren := {
  mixed := by kernel_rfl
  f7 := ⟨Tryz.f128.name, by decide, Tryz.func128.trans (congrArg some (by kernel_rfl))⟩
  f10 := ⟨Tryz.f139.name, by decide, Tryz.func139.trans (congrArg some (by kernel_rfl))⟩
  t0 := Tryz.underlying0
  a0 := Tryz.isAgg0
  z0 := Tryz.sizeOf0
  v0 := Tryz.zeroValue0
  t4 := Tryz.underlying4
  a4 := Tryz.isAgg4
  z4 := Tryz.sizeOf4
  v4 := Tryz.zeroValue4
  t23 := Tryz.underlying54
  a23 := Tryz.isAgg54
  z23 := Tryz.sizeOf54
  v23 := Tryz.zeroValue54
  t26 := Tryz.underlying9
  a26 := Tryz.isAgg9
  z26 := Tryz.sizeOf9
  v26 := Tryz.zeroValue9
  t27 := Tryz.underlying198
  a27 := Tryz.isAgg198
  z27 := Tryz.sizeOf198
  v27 := Tryz.zeroValue198
  t28 := Tryz.underlying199
  a28 := Tryz.isAgg199
  z28 := Tryz.sizeOf199
  v28 := Tryz.zeroValue199
  t33 := Tryz.underlying151
  a33 := Tryz.isAgg151
  z33 := Tryz.sizeOf151
  v33 := Tryz.zeroValue151 }
def Tryz.sorted127_ren : Go.Shelf.Ren := ⟨fun | 6 => 127 | 8 => 137 | 9 => 138 | 11 => 141 | 13 => 143 | 12 => 142 | 23 => 154 | 24 => 155 | 14 => 145 | 15 => 146 | 16 => 147 | 17 => 148 | 18 => 149 | 19 => 150 | 20 => 151 | 21 => 152 | 22 => 153 | 25 => 156 | 26 => 157 | 27 => 158 | 28 => 159 | 29 => 160 | 30 => 161 | 31 => 162 | n => n, fun | 26 => 9 | 28 => 199 | 24 => 73 | 0 => 0 | 3 => 3 | 37 => 212 | 48 => 222 | 50 => 224 | 4 => 4 | 40 => 215 | 39 => 214 | 45 => 219 | 5 => 5 | 9 => 9 | 51 => 225 | 55 => 229 | 57 => 231 | 58 => 152 | 33 => 151 | n => n, fun | n => n⟩
theorem Tryz.sorted127 : Go.Proofs.SlLaysZ.n6 Tryz.prog Tryz.sorted127_ren := {
  mixed := by kernel_rfl
  f6 := ⟨Tryz.f127.name, by decide, Tryz.func127.trans (congrArg some (by kernel_rfl))⟩
  f8 := ⟨Tryz.f137.name, by decide, Tryz.func137.trans (congrArg some (by kernel_rfl))⟩
  f11 := ⟨Tryz.f141.name, by decide, Tryz.func141.trans (congrArg some (by kernel_rfl))⟩
  t0 := Tryz.underlying0
  a0 := Tryz.isAgg0
  z0 := Tryz.sizeOf0
  v0 := Tryz.zeroValue0
  t24 := Tryz.underlying73
  a24 := Tryz.isAgg73
  z24 := Tryz.sizeOf73
  v24 := Tryz.zeroValue73
  t26 := Tryz.underlying9
  a26 := Tryz.isAgg9
  z26 := Tryz.sizeOf9
  v26 := Tryz.zeroValue9
  t28 := Tryz.underlying199
  a28 := Tryz.isAgg199
  z28 := Tryz.sizeOf199
  v28 := Tryz.zeroValue199
  i26 := by kernel_rfl }
def Tryz.sort138_ren : Go.Shelf.Ren := ⟨fun | 6 => 138 | 8 => 143 | 9 => 142 | 19 => 154 | 20 => 155 | 21 => 145 | 22 => 146 | 23 => 147 | 24 => 148 | 25 => 149 | 26 => 150 | 27 => 151 | 28 => 152 | 29 => 153 | 36 => 156 | 31 => 157 | 32 => 158 | 37 => 159 | 38 => 160 | 39 => 161 | 41 => 162 | n => n, fun | 27 => 73 | 29 => 9 | 3 => 3 | 32 => 212 | 26 => 73 | 0 => 0 | 44 => 222 | 46 => 224 | 4 => 4 | 36 => 215 | 35 => 214 | 41 => 219 | 5 => 5 | 9 => 9 | 53 => 225 | 57 => 229 | 63 => 231 | 64 => 152 | n => n, fun | n => n⟩
theorem Tryz.sort138 : Go.Proofs.SlLaysM.n6 Tryz.prog Tryz.sort138_ren := {
  mixed := by kernel_rfl
  f6 := ⟨Tryz.f138.name, by decide, Tryz.func138.trans (congrArg some (by kernel_rfl))⟩
  f8 := Tryz.func143.trans (congrArg some (by kernel_rfl))
  f9 := ⟨Tryz.f142.name, by decide, Tryz.func142.trans (congrArg some (by kernel_rfl))⟩
  f19 := Tryz.func154.trans (congrArg some (by kernel_rfl))
  f20 := Tryz.func155.trans (congrArg some (by kernel_rfl))
  f21 := ⟨Tryz.f145.name, by decide, Tryz.func145.trans (congrArg some (by kernel_rfl))⟩
  f22 := ⟨Tryz.f146.name, by decide, Tryz.func146.trans (congrArg some (by kernel_rfl))⟩
  f23 := ⟨Tryz.f147.name, by decide, Tryz.func147.trans (congrArg some (by kernel_rfl))⟩
  f24 := ⟨Tryz.f148.name, by decide, Tryz.func148.trans (congrArg some (by kernel_rfl))⟩
  f25 := ⟨Tryz.f149.name, by decide, Tryz.func149.trans (congrArg some (by kernel_rfl))⟩
  f26 := ⟨Tryz.f150.name, by decide, Tryz.func150.trans (congrArg some (by kernel_rfl))⟩
  f27 := ⟨Tryz.f151.name, by decide, Tryz.func151.trans (congrArg some (by kernel_rfl))⟩
  f28 := ⟨Tryz.f152.name, by decide, Tryz.func152.trans (congrArg some (by kernel_rfl))⟩
  f29 := ⟨Tryz.f153.name, by decide, Tryz.func153.trans (congrArg some (by kernel_rfl))⟩
  f31 := Tryz.func157.trans (congrArg some (by kernel_rfl))
  f32 := Tryz.func158.trans (congrArg some (by kernel_rfl))
  f36 := ⟨Tryz.f156.name, by decide, Tryz.func156.trans (congrArg some (by kernel_rfl))⟩
  f37 := ⟨Tryz.f159.name, by decide, Tryz.func159.trans (congrArg some (by kernel_rfl))⟩
  f38 := ⟨Tryz.f160.name, by decide, Tryz.func160.trans (congrArg some (by kernel_rfl))⟩
  f39 := ⟨Tryz.f161.name, by decide, Tryz.func161.trans (congrArg some (by kernel_rfl))⟩
  f41 := ⟨Tryz.f162.name, by decide, Tryz.func162.trans (congrArg some (by kernel_rfl))⟩
  t0 := Tryz.underlying0
  a0 := Tryz.isAgg0
  z0 := Tryz.sizeOf0
  v0 := Tryz.zeroValue0
  t3 := Tryz.underlying3
  a3 := Tryz.isAgg3
  z3 := Tryz.sizeOf3
  v3 := Tryz.zeroValue3
  t4 := Tryz.underlying4
  a4 := Tryz.isAgg4
  z4 := Tryz.sizeOf4
  v4 := Tryz.zeroValue4
  t5 := Tryz.underlying5
  a5 := Tryz.isAgg5
  z5 := Tryz.sizeOf5
  v5 := Tryz.zeroValue5
  t9 := Tryz.underlying9
  a9 := Tryz.isAgg9
  z9 := Tryz.sizeOf9
  v9 := Tryz.zeroValue9
  t26 := Tryz.underlying73
  a26 := Tryz.isAgg73
  z26 := Tryz.sizeOf73
  v26 := Tryz.zeroValue73
  t27 := Tryz.underlying73
  a27 := Tryz.isAgg73
  z27 := Tryz.sizeOf73
  v27 := Tryz.zeroValue73
  t29 := Tryz.underlying9
  a29 := Tryz.isAgg9
  z29 := Tryz.sizeOf9
  v29 := Tryz.zeroValue9
  t32 := Tryz.underlying212
  a32 := Tryz.isAgg212
  z32 := Tryz.sizeOf212
  v32 := Tryz.zeroValue212
  t35 := Tryz.underlying214
  a35 := Tryz.isAgg214
  z35 := Tryz.sizeOf214
  v35 := Tryz.zeroValue214
  t36 := Tryz.underlying215
  a36 := Tryz.isAgg215
  z36 := Tryz.sizeOf215
  v36 := Tryz.zeroValue215
  t41 := Tryz.underlying219
  a41 := Tryz.isAgg219
  z41 := Tryz.sizeOf219
  v41 := Tryz.zeroValue219
  t44 := Tryz.underlying222
  a44 := Tryz.isAgg222
  z44 := Tryz.sizeOf222
  v44 := Tryz.zeroValue222
  t46 := Tryz.underlying224
  a46 := Tryz.isAgg224
  z46 := Tryz.sizeOf224
  v46 := Tryz.zeroValue224
  t53 := Tryz.underlying225
  a53 := Tryz.isAgg225
  z53 := Tryz.sizeOf225
  v53 := Tryz.zeroValue225
  t57 := Tryz.underlying229
  a57 := Tryz.isAgg229
  z57 := Tryz.sizeOf229
  v57 := Tryz.zeroValue229
  t63 := Tryz.underlying231
  a63 := Tryz.isAgg231
  z63 := Tryz.sizeOf231
  v63 := Tryz.zeroValue231
  t64 := Tryz.underlying152
  a64 := Tryz.isAgg152
  z64 := Tryz.sizeOf152
  v64 := Tryz.zeroValue152 }
theorem Tryz.sorts127 (m : Nat) : AnyZ.SortsIn Tryz.prog Tryz.sorted127_ren Fence.wide m :=
  ⟨fun blk off cap ss W hH hblk hsz => callsIn_wide.2 (AnyM.slices_Sort_string Tryz.sort138 blk off cap ss W hH hblk hsz),
   fun p cap W => callsIn_wide.2 (AnyM.slices_Sort_string_none Tryz.sort138 p cap W)⟩
theorem Tryz.maps_Keys_128 (mb : Option Nat) (W : World) : CallsIn Fence.wide 5 Tryz.prog 128 #[.map mb] W fun e w' => e = .returned (.func (.func 139) #[] #[.pointer (some ⟨W.heap.size, 0, none⟩)]) ∧ w' = W.alloc (.cells #[.map mb] 54) :=
  AnyZ.keys_in Tryz.keys128 Fence.wide 5 trivial rfl mb W
set_option maxHeartbeats 1000000 in
theorem Tryz.slices_Sorted_keys_127_128 {H : Type} (b nn : Nat) (D0 : DataW H) (R : Value → Option (DataW H × List MemPlace)) (w : World) (hown : w.ownsMap Tryz.prog 9 R b nn D0) (hmax : Maps.size D0 ≤ maxLen) (hbytes : Maps.size D0 * 16 ≤ 140737488355328) :
    CallsIn Fence.wide 5 Tryz.prog 127 #[.func (.func 139) #[] #[.pointer (some ⟨w.heap.size, 0, none⟩)]] (w.alloc (.cells #[.map (some b)] 54)) fun e w' => ∃ (v : Value) (ss : List (List UInt8)), e = .returned v ∧ ss.Perm (strKeys D0) ∧
      w'.ownsRow (w.alloc (.cells #[.map (some b)] 54)).heap.size 9 1 v ss.length ((ss.mergeSort (fun x y => decide (x ≤ y))).map encStr) ∧ (v = .slice none 0 0 ↔ ss = []) ∧ Below (w.alloc (.cells #[.map (some b)] 54)).heap.size (w.alloc (.cells #[.map (some b)] 54)) w' := by
  have hbl := hown.lt
  have hseq : SeqGives Fence.wide 2 Tryz.prog 139 #[.pointer (some ⟨w.heap.size, 0, none⟩)] encStr (fun ss => ss.Perm (strKeys D0)) (Maps.size D0) (w.alloc (.cells #[.map (some b)] 54)) :=
    AnyZ.keys_gives (ρ := Tryz.keys128_ren) { Tryz.keys128 with } Fence.wide _ trivial rfl (by omega) w.heap.size b nn D0 _ (by simp) (by simp) (by
      obtain ⟨es, clock, hb, Ft, hs, hD⟩ := hown
      exact ⟨es, clock, (Below.heap_alloc _ _ b hbl).trans hb, Ft, hs, hD⟩)
  exact AnyZ.sorted_in Tryz.sorted127 Fence.wide 5 trivial trivial trivial trivial rfl (by omega) (Tryz.sorts127 _) (enters_of Tryz.func138 (by kernel_rfl) rfl) 139 #[.pointer (some ⟨w.heap.size, 0, none⟩)] trivial (enters_of Tryz.func139 (by kernel_rfl) rfl) _ _ hmax hbytes _ hseq
theorem sortsKeys : SortsKeys := ⟨fun m W => callsIn_wide.1 (Tryz.maps_Keys_128 (some m) W), fun b nn D0 w h1 h2 h3 => callsIn_wide.1 (Tryz.slices_Sorted_keys_127_128 b nn D0 XKeys.R0 w h1 h2 h3)⟩
end Go.Proofs.YtcdcojpfealppaaGreat

set_option linter.unusedVariables false
set_option linter.unusedSimpArgs false
set_option maxRecDepth 100000
namespace Go.Proofs.YtcdcojpfealppaaGreat
open Go Go.Proofs Go.RowKit Go.Proofs.XRed Go.Proofs.XHeap Go.Proofs.XMaps Go.Proofs.XSlices Go.Proofs.XDisk Go.Proofs.XCalls Go.Proofs.XRange Go.Proofs.XKeys
section
variable {W w w' : World} {D Dt : Nat} {A B A' B' : AD} {K K' O I O2 I2 O' I' : Nat → Prop} {L L2 L' : Lay}
end
theorem small_name {n : ByteArray} (h : n.size ≤ maxLen) : n.size ≤ 9223372036854775807 := by unfold maxLen at h; omega
end Go.Proofs.YtcdcojpfealppaaGreat

set_option linter.unusedVariables false
set_option linter.unusedSimpArgs false
set_option maxRecDepth 100000
namespace Go.Proofs.YtcdcojpfealppaaGreat
open Go Go.Proofs Go.RowKit Go.Proofs.XRed Go.Proofs.XHeap Go.Proofs.XMaps Go.Proofs.XSlices Go.Proofs.XDisk Go.Proofs.XCalls Go.Proofs.XRange Go.Proofs.XKeys
section
variable {w : World} {D : Nat} {S S' : AD} {O I : Nat → Prop} {L : Lay} {k : Value → World → Prop}
def AD.sizeOf (S : AD) (name : ByteArray) : Int := if S.look name = 0 then (S.bytes name).length else 0
theorem c_size {c : Nat} (h : DRep w D S O I L) (ok : S.Ok c) (name : ByteArray) (hs : name.size ≤ 9223372036854775807) (hk : k (.tuple #[i64 (AD.sizeOf S name), i64 (S.look name)]) w) : pFn P 119 [ptr D, .string name] w k := by
  refine F119_in _ _ _ _ ?_
  unfold F119_0
  refine c_look h ok.room.1 name hs (s_ext rfl (s_ext rfl ?_))
  unfold AD.sizeOf at hk
  by_cases hl : S.look name = 0
  · have hg := (look0 hl).2
    have hr : reach S (S.of name) := .inl ⟨name, mem_of_alGet hg⟩
    rw [if_pos hl] at hk
    rw [if_pos hl]
    obtain ⟨sv, hv, cs, hbT, _, hsh, _⟩ := (h.things _ hr).ex
    obtain ⟨A, c', rfl, hc'⟩ := hsh.1.form
    refine s_nei_f hl (pC_false (s_nil (fa124_1 (s_ldb (v := .slice A (S.things (S.of name)).shown.length c') (Tryz.isAgg36 _) hbT rfl (s_len usl36 ?_)))))
    rw [hl] at hk; exact hk
  · rw [if_neg hl] at hk
    rw [if_neg hl]
    exact s_nei_t hl (pC_true hk)
theorem c_lookF (h : DRep w D S O I L) (hr : 1 ≤ S.room) (hk : ∀ w' O' I' L', Nx w D O I w' S.lookAway O' I' L' → k (.tuple #[]) w') : pFn P 125 [ptr D] w k := by
  refine F125_in _ _ _ ?_
  unfold F125_0
  refine c_none h.disk hr (s_not (pC_true ?_))
  refine s_nil (fa58_8 (s_st (Tryz.sizeOf56 _) rfl rfl h.disk (by show 10 < 11; decide) ?_))
  have hd3 := set_same h.disk 10 (.slice none 0 0)
  have f3 : Fr (fun b => b = D) w (w.setCell ⟨D, 10, none⟩ (.slice none 0 0)) := Fr.setCell w ⟨D, 10, none⟩ _
  have z3 : (w.setCell ⟨D, 10, none⟩ (.slice none 0 0)).heap.size = w.heap.size := by simp [World.setCell]
  show k _ (w.setCell ⟨D, 10, none⟩ (.slice none 0 0))
  generalize w.setCell ⟨D, 10, none⟩ (.slice none 0 0) = w3 at *
  have hp := h.plain (S' := S) (L := L) f3
  refine hk w3 O I { L with readsv := .slice none 0 0 } ⟨?_, f3.mono fun b hb => .inl (hb ▸ h.oD), fun b => id, fun b => id, fun b => .inl, fun b => .inl⟩
  exact {
    disk := hd3
    sh := h.sh.fr f3 (by rintro e; obtain ⟨es, c1, h1⟩ := SMap.obj h.sh; rw [e, h.disk] at h1; cases h1)
    shp := h.shp
    sf := h.sf.fr f3 (by rintro e; obtain ⟨es, c1, h1⟩ := SMap.obj h.sf; rw [e, h.disk] at h1; cases h1)
    sfp := h.sfp
    ne := h.ne
    row := own_fr h.row f3 (by rintro b hb e; obtain ⟨c1, h1⟩ := own_obj h.row hb; rw [e] at h1; exact absurd (two_types h1 h.disk) (by decide))
    reads := ⟨rfl, .inl ⟨rfl, rfl⟩⟩
    things := fun t ht => (h.things t ht).stay h f3 fun b hb => .inl (.inl hb)
    inj := h.inj
    rows := h.rows
    oD := h.oD
    osh := h.osh
    osf := h.osf
    orow := h.orow
    oreads := by rintro b hb; cases hb
    apart := h.apart
    lt := fun b hb => by rw [z3]; exact h.lt b hb }
end
def stepCells (x : StepA) (dv pv : Value) : List Value := [i64 x.kind, .string x.name, .string x.to_, i64 x.at_, i64 x.n, dv, i64 x.plan.off, i64 x.plan.from_, i64 x.plan.to_, pv]
structure StepV (W : World) (x : StepA) (dv pv : Value) : Prop where
  data : SBytes W dv x.data
  picks : Src W pv 1 x.picks.length (x.picks.map i64)
  name : x.name.size ≤ maxLen
  to_ : x.to_.size ≤ maxLen
  at_ : -9223372036854775808 ≤ x.at_ ∧ x.at_ ≤ 9223372036854775807
  dlen : x.data.length ≤ 140737488355328
  plen : x.picks.length ≤ 17592186044416
theorem StepV.fr {W w : World} {x : StepA} {dv pv : Value} (h : StepV W x dv pv) (hf : Fr no W w) : StepV w x dv pv :=
  ⟨h.data.fr hf fun _ _ h => h, h.picks.fr (by omega) hf fun _ _ h => h, h.name, h.to_, h.at_, h.dlen, h.plen⟩
section
variable {W w : World} {D : Nat} {S S' : AD} {O I : Nat → Prop} {L : Lay} {k : Value → World → Prop}
def stepVal (x : StepA) (dv pv : Value) : Value := .agg #[i64 x.kind, .string x.name, .string x.to_, i64 x.at_, i64 x.n, dv, i64 x.plan.off, i64 x.plan.from_, i64 x.plan.to_, pv]
end
end Go.Proofs.YtcdcojpfealppaaGreat

set_option linter.unusedVariables false
set_option linter.unusedSimpArgs false
set_option maxRecDepth 100000
namespace Go.Proofs.YtcdcojpfealppaaGreat
open Go Go.Proofs Go.RowKit Go.Proofs.XRed Go.Proofs.XHeap Go.Proofs.XMaps Go.Proofs.XSlices Go.Proofs.XDisk Go.Proofs.XCalls Go.Proofs.XRange Go.Proofs.XKeys
abbrev Script := List (StepA × Value × Value)
def scriptCells (l : Script) : List Value := l.flatMap fun p => stepCells p.1 p.2.1 p.2.2
structure ScriptV (W : World) (v : Value) (l : Script) : Prop where
  src : Src W v 10 l.length (scriptCells l)
  all : ∀ p ∈ l, StepV W p.1 p.2.1 p.2.2
theorem ScriptV.fr {W w : World} {v : Value} {l : Script} (h : ScriptV W v l) (hf : Fr no W w) : ScriptV w v l := ⟨h.src.fr (by omega) hf fun _ _ h => h, fun p hp => (h.all p hp).fr hf⟩
theorem ScriptV.at_ {W : World} {v : Value} {l : Script} (h : ScriptV W v l) {i : Nat} (hi : i < l.length) : ∃ b o c, v = .slice (some ⟨b, o, none⟩) l.length c ∧ ∀ j u, (stepCells l[i].1 l[i].2.1 l[i].2.2)[j]? = some u → W.cell? ⟨b, o + i * 10 + j, none⟩ = some u := by
  obtain ⟨b, o, c, e, hc⟩ := h.src.place hi (by omega)
  refine ⟨b, o, c, e, fun j u hj => ?_⟩
  have hlt : j < 10 := (List.getElem?_eq_some_iff.1 hj).1
  refine hc j u hlt ?_
  have := flatAt (f := fun p : StepA × Value × Value => stepCells p.1 p.2.1 p.2.2) (n := 10) (fun _ => rfl) (l := l) (i := i) (j := j) (a := l[i]) (by simp [hi]) hlt
  unfold scriptCells
  rw [this]; exact hj
section
variable {W w : World} {D : Nat} {S S' : AD} {O I : Nat → Prop} {L : Lay} {k : Value → World → Prop}
theorem c_long {v : Value} {l : Script} (h : ScriptV W v l) (hk : ∀ (b : Bool) w', Fr no W w' → (b = false → l.length ≤ 300 ∧ ∀ p ∈ l, p.1.data.length ≤ 100000 ∧ p.1.picks.length ≤ 12500) → k (.bool b) w') : pFn P 15 [v] W k := by
  refine F15_in _ _ _ ?_
  unfold F15_0
  refine s_lenS usl22 h.src ?_
  by_cases hl : l.length > 300
  · exact s_gt_t (by omega) (pC_true (hk true W (Fr.refl _ _) (fun h => by cases h)))
  refine s_gt_f (by omega) (pC_false ?_)
  refine F15L1_inv (m := l.length) k (fun m ρ w => ∃ (i : Nat) (n : Int), i + m = l.length ∧ Fr no W w ∧ ρ 0 = v ∧ ρ 3 = i64 n ∧ ρ 4 = i64 i ∧ 0 ≤ n ∧ n ≤ 100000 ∧ ∀ p ∈ l.take i, p.1.data.length ≤ 100000 ∧ p.1.picks.length ≤ 12500) ?_
    ⟨0, 0, by omega, Fr.refl _ _, rfl, rfl, rfl, by omega, by omega, fun p hp => by simp at hp⟩
  rintro m ρ w ⟨i, n, him, hf, e0, e3, e4, hn0, hn1, hall⟩
  rw [F15_1_eq]
  unfold F15_1
  rw [e0, e3, e4]
  refine s_lenS usl22 (h.fr hf).src ?_
  by_cases hi : i < l.length
  · refine s_lt_t (by omega) (pC_true ?_)
    have fd : Fr no w w.drew := Fr.drew _ _
    have ff : Fr no W w.drew := hf.trans fd fun b hb => .inl hb
    have hv := h.fr ff
    obtain ⟨b, o, c, ev, hc⟩ := hv.at_ hi
    have hs := hv.all _ (List.getElem_mem hi)
    have h5 := hc 5 _ rfl
    have h9 := hc 9 _ rfl
    have hdl := hs.dlen
    have hpl := hs.plen
    refine ⟨fun w' => w'.cell? ⟨b, o + i * 10 + 5, none⟩ = some l[i].2.1 ∧ w'.cell? ⟨b, o + i * 10 + 9, none⟩ = some l[i].2.2, ⟨h5, h9⟩, ?_⟩
    obtain ⟨A5, c5, ed, _⟩ := hs.data.form
    obtain ⟨A9, c9, ep, _⟩ : ∃ A c, l[i].2.2 = .slice A l[i].1.picks.length c ∧ l[i].1.picks.length ≤ c := by obtain ⟨A, c, e, hc, _⟩ := hs.picks; exact ⟨A, c, e, hc⟩
    rw [ev]
    refine q_of (.pointer (some ⟨b, o + i * 10, none⟩)) (fun w_ hS => s_ix (i := (i : Int)) usl22 (sze22 _) (by omega) (by omega) ⟨by simp, rfl⟩) ?_
    refine q_of _ (fun w_ hS => fa41_5 ⟨rfl, rfl⟩) (q_of l[i].2.1 (fun w_ hS => s_ld (Tryz.isAgg36 _) hS.1 ⟨rfl, rfl⟩) ?_)
    rw [ed]
    refine q_of _ (fun w_ hS => s_len usl36 ⟨rfl, rfl⟩) ?_
    refine q_of _ (fun w_ hS => s_add_in (by omega) ⟨rfl, rfl⟩) ?_
    refine q_of (.pointer (some ⟨b, o + i * 10, none⟩)) (fun w_ hS => s_ix (i := (i : Int)) usl22 (sze22 _) (by omega) (by omega) ⟨by simp, rfl⟩) ?_
    refine q_of _ (fun w_ hS => fa41_7 ⟨rfl, rfl⟩) (q_of l[i].2.2 (fun w_ hS => s_ld (Tryz.isAgg39 _) hS.2 ⟨rfl, rfl⟩) ?_)
    rw [ep]
    refine q_of _ (fun w_ hS => s_len usl39 ⟨rfl, rfl⟩) ?_
    refine q_of (i64 (8 * (l[i].1.picks.length : Int))) (fun w_ hS => s_mul (by rw [wrap_in (by omega)]; exact ⟨rfl, rfl⟩)) ?_
    refine q_of _ (fun w_ hS => s_add_in (by omega) ⟨rfl, rfl⟩) ?_
    by_cases hbig : n + l[i].1.data.length + 8 * (l[i].1.picks.length : Int) > 100000
    · exact s_gt_t hbig (pC_true (hk true _ ff (fun h => by cases h)))
    refine s_gt_f hbig (pC_false (s_add_in (by omega) ?_))
    refine ⟨m - 1, by omega, i + 1, _, by omega, ff, e0.trans ev, rfl, ?_, by omega, by omega, fun p hp => ?_⟩
    · show i64 _ = i64 _; simp
    · rw [List.take_succ_eq_append_getElem hi] at hp
      rcases List.mem_append.1 hp with hp | hp
      · exact hall p hp
      · rw [List.mem_singleton] at hp; subst hp; omega
  · refine s_lt_f (by omega) (pC_false ?_)
    rw [F15_2_eq]
    refine hk false w hf (fun _ => ⟨by omega, fun p hp => hall p ?_⟩)
    rw [List.take_of_length_le (by omega)]; exact hp
theorem run_eqSpan (x y : SpanA) (w : World) : (Op.equalIn 10000 134 (.agg (spanCells x).toArray) (.agg (spanCells y).toArray)).run P w = .ok (decide (x.name = y.name ∧ x.at_ = y.at_ ∧ x.n = y.n)) w := by
  have u3 := Tryz.underlying3
  have a3 := Tryz.isAgg3
  have z3 := Tryz.sizeOf3
  have u9 := Tryz.underlying9
  have a9 := Tryz.isAgg9
  have z9 := Tryz.sizeOf9
  have hS : Tryz.prog.underlying 134 = some (.struct (Tryz.prog.fieldsOf 134)) := by kernel_rfl
  rw [show (10000 : Nat) = 9999 + 1 from rfl, run_equalIn_agg w 9999 134 _ _ hS (by kernel_rfl)]
  simp only [Program.fieldsOf, Tryz.underlying134]
  unfold spanCells
  go_simp
  have e : x.name.toList = y.name.toList ↔ x.name = y.name := by
    have h := str_beq x.name y.name
    rw [Bool.eq_iff_iff] at h
    simpa using h
  simp only [e]
  by_cases h1 : x.name = y.name <;> by_cases h2 : x.at_ = y.at_ <;> by_cases h3 : x.n = y.n <;> simp [h1, h2, h3]
theorem s_neSpan {x y : SpanA} {p q : Operand} (hk : k (.bool (!decide (x.name = y.name ∧ x.at_ = y.at_ ∧ x.n = y.n))) w) : px P (binSem .neq 134 p q (.agg (spanCells x).toArray) (.agg (spanCells y).toArray)) w k := by
  refine px_ok (w' := w) ?_ hk
  have hg : (eqGuard .neq 134 p q (.agg (spanCells x).toArray) (.agg (spanCells y).toArray)).run P w = .ok () w := by kernel_rfl
  simp [binSem, hg, run_neq_struct, run_eqSpan, Result.andThen]
theorem SpanA.ext' {x y : SpanA} (h1 : x.name = y.name) (h2 : x.at_ = y.at_) (h3 : x.n = y.n) : x = y := by
  cases x; cases y; simp only at h1 h2 h3; subst h1; subst h2; subst h3; rfl
theorem c_spansEq {v1 v2 : Value} {x y : List SpanA} (hx : Src W v1 3 x.length (x.flatMap spanCells)) (hy : Src W v2 3 y.length (y.flatMap spanCells)) (hl : x.length ≤ 4611686018427387904) (hk : ∀ (b : Bool) w', Fr no W w' → (b = true ↔ x = y) → k (.bool b) w') : pFn P 45 [v1, v2] W k := by
  refine F45_in _ _ _ _ ?_
  unfold F45_0
  refine s_lenS usl56 hx (s_lenS usl56 hy ?_)
  by_cases hlen : x.length = y.length
  · refine s_nei_f (by omega) (pC_false ?_)
    refine F45L1_inv (m := x.length) k (fun m ρ w' => ∃ i : Nat, i + m = x.length ∧ Fr no W w' ∧ ρ 0 = v1 ∧ ρ 1 = v2 ∧ ρ 5 = i64 i ∧ x.take i = y.take i) ?_
      ⟨0, by omega, Fr.refl _ _, rfl, rfl, rfl, rfl⟩
    rintro m ρ w' ⟨i, him, hf, e0, e1, e5, heq⟩
    rw [F45_1_eq]
    unfold F45_1
    rw [e0, e1, e5]
    have hx' := hx.fr (by omega) hf fun _ _ h => h
    have hy' := hy.fr (by omega) hf fun _ _ h => h
    refine s_lenS usl56 hx' ?_
    by_cases hi : i < x.length
    · refine s_lt_t (by omega) (pC_true ?_)
      have fd : Fr no w' w'.drew := Fr.drew _ _
      have ff : Fr no W w'.drew := hf.trans fd fun b hb => .inl hb
      have hiy : i < y.length := by omega
      obtain ⟨b1, o1, c1, f1, g1⟩ := (hx'.fr (by omega) fd fun _ _ h => h).place hi (by omega)
      obtain ⟨b2, o2, c2, f2, g2⟩ := (hy'.fr (by omega) fd fun _ _ h => h).place hiy (by omega)
      have at1 : ∀ j u, j < 3 → (spanCells x[i])[j]? = some u → w'.drew.cell? ⟨b1, o1 + i * 3 + j, none⟩ = some u := fun j u hj hu => g1 j u hj (by rw [flatAt (n := 3) (fun _ => rfl) (a := x[i]) (by simp [hi]) hj]; exact hu)
      have at2 : ∀ j u, j < 3 → (spanCells y[i])[j]? = some u → w'.drew.cell? ⟨b2, o2 + i * 3 + j, none⟩ = some u := fun j u hj hu => g2 j u hj (by rw [flatAt (n := 3) (fun _ => rfl) (a := y[i]) (by simp [hiy]) hj]; exact hu)
      refine ⟨fun w' => (∀ j u, j < 3 → (spanCells x[i])[j]? = some u → w'.cell? ⟨b1, o1 + i * 3 + j, none⟩ = some u) ∧ ∀ j u, j < 3 → (spanCells y[i])[j]? = some u → w'.cell? ⟨b2, o2 + i * 3 + j, none⟩ = some u, ⟨at1, at2⟩, ?_⟩
      rw [f1, f2]
      have ld : ∀ (w_ : World) (b o : Nat) (s : SpanA), (∀ j u, j < 3 → (spanCells s)[j]? = some u → w_.cell? ⟨b, o + j, none⟩ = some u) → (Instr.loadAt 134 (.pointer (some ⟨b, o, none⟩))).run P w_ = .ok (.agg (spanCells s).toArray) w_ := by
        intro w_ b o s h
        have := run_loadCells_list (P := P) w_ ⟨b, o, none⟩ (spanCells s) (fun j v hj => by
          rw [add_at]
          exact h j v (List.getElem?_eq_some_iff.1 hj).1 hj)
        have e : (spanCells s).length = 3 := rfl
        rw [e] at this
        simp [Instr.loadAt, Instr.sureAddr, loadVar, Tryz.isAgg134, Tryz.sizeOf134, this, Result.andThen]
      refine q_of (.pointer (some ⟨b1, o1 + i * 3, none⟩)) (fun w_ hS => s_ix (i := (i : Int)) usl56 (sze56 _) (by omega) (by omega) ⟨by simp, rfl⟩) ?_
      refine q_of (.agg (spanCells x[i]).toArray) (fun w_ hS => px_ok (ld w_ _ _ _ hS.1) ⟨rfl, rfl⟩) ?_
      refine q_of (.pointer (some ⟨b2, o2 + i * 3, none⟩)) (fun w_ hS => s_ix (i := (i : Int)) usl56 (sze56 _) (by omega) (by omega) ⟨by simp, rfl⟩) ?_
      refine q_of (.agg (spanCells y[i]).toArray) (fun w_ hS => px_ok (ld w_ _ _ _ hS.2) ⟨rfl, rfl⟩) ?_
      refine q_of _ (fun w_ hS => s_neSpan ⟨rfl, rfl⟩) ?_
      by_cases he : x[i].name = y[i].name ∧ x[i].at_ = y[i].at_ ∧ x[i].n = y[i].n
      · rw [decide_eq_true he]
        refine pC_false (s_add_in (by omega) ?_)
        refine ⟨m - 1, by omega, i + 1, by omega, ff, e0.trans f1, e1.trans f2, ?_, ?_⟩
        · show i64 _ = i64 _; simp
        · rw [List.take_succ_eq_append_getElem hi, List.take_succ_eq_append_getElem hiy, heq, SpanA.ext' he.1 he.2.1 he.2.2]
      · rw [decide_eq_false he]
        refine pC_true (hk false _ ff ⟨(fun h => by cases h), fun h => absurd ?_ he⟩)
        subst h; exact ⟨rfl, rfl, rfl⟩
    · refine s_lt_f (by omega) (pC_false ?_)
      rw [F45_2_eq]
      refine hk true w' hf ⟨fun _ => ?_, fun _ => rfl⟩
      have a1 := List.take_of_length_le (l := x) (i := i) (by omega)
      have a2 := List.take_of_length_le (l := y) (i := i) (by omega)
      rw [← a1, heq, a2]
  · exact s_nei_t (by omega) (pC_true (hk false W (Fr.refl _ _) ⟨(fun h => by cases h), fun h => absurd (by rw [h]) hlen⟩))
end
end Go.Proofs.YtcdcojpfealppaaGreat

set_option linter.unusedVariables false
set_option linter.unusedSimpArgs false
namespace Go.Proofs.XRow
open Go Go.ChangeShapes Go.WideShapes Go.ChangeAt Go.RowKit Go.Proofs.XRed Go.Proofs.XHeap Go.Proofs.XSlices
section
variable {H : Type} {enc : TypeId × Value → H} {P : Program}
theorem post_of_below {f : Func} {s : ChangeSpec} {apart fresh handsOn again : Bool} {W W' : World} {args : Array Value} {v : Value} {ds gs : List (DataW H)} {before pa pv : List MemPlace}
    (hW : DataW.Whole enc P f.params.toList s.vars apart W args.toList ds gs before) (hb : Below W.heap.size W W')
    (hres : ∀ (b : Nat) (sp : Nat → Bool) (hd : Bool), DataW.TrodAll enc P W' b sp hd f.resultTypes.toList (v.resultList f.resultTypes.size) (s.fn H (ds ++ gs)).results [])
    (hargs : ∀ sp : Nat → Bool, (∀ p ∈ before, sp p.block = true) → DataW.TrodAll enc P W' 0 sp true f.params.toList args.toList (s.fn H (ds ++ gs)).args pa)
    (hvars : ∀ sp : Nat → Bool, (∀ p ∈ before, sp p.block = true) → DataW.TrodVars enc P W' sp s.vars (s.fn H (ds ++ gs)).vars pv)
    (hps : before = pa ++ pv)
    (hok : ∀ (j : Nat) (t : TypeId) (r : Value), f.resultTypes[j]? = some t → (v.resultList f.resultTypes.size)[j]? = some r → Value.okWide P W' .any 0 t r) :
    s.post enc P f apart fresh handsOn again W args v W' := by
  have hold : ∀ p ∈ before, (fun b => decide (b < W.heap.size)) p.block = true := fun p hp => by simpa using hW.lt p hp
  refine ⟨ds, gs, before, [], pa, pv, hW, hres _ _ _, hargs _ hold, hvars _ hold, hb.frame _, fun _ => ?_⟩
  have hlt := hW.lt
  obtain ⟨_, _, _, _, _, hz, hn⟩ := hW
  refine ⟨hok, _, _, ([] ++ pa) ++ pv, ⟨[] ++ pa, pv, trodAll_append (hargs _ (fun _ _ => rfl)) (hres _ _ _), hvars _ (fun _ _ => rfl), rfl, ?_, ?_⟩, ?_⟩
  · intro b off hp
    have hp' : MemPlace.cell b off ∈ before := by rw [hps]; simpa using hp
    have h1 := hz b off hp'
    have h2 : b < W.heap.size := hlt _ hp'
    unfold World.frozen? at *
    rw [hb.block _ h2]
    exact h1
  · intro ha
    have := hn ha
    rw [hps] at this
    simpa using this
  · intro p hp _
    rw [hps]
    simpa using hp
theorem stays {t : TypeId} (hl : laidOutB P = true) (hr : P.readableRec t = true) (hrow : t < P.types.size) {W W' : World} {v : Value} {d : DataW H} {ps : List MemPlace} {sp : Nat → Bool}
    (h : DataW.Trod enc P W 0 (fun _ => true) true t v d ps) (hb : Below W.heap.size W W') (hlt : ∀ x ∈ ps, x.block < W.heap.size) (hs : ∀ x ∈ ps, sp x.block = true) : DataW.Trod enc P W' 0 sp true t v d ps :=
  WideElems.Trod_stays hl hr hrow h (fun x hx => hb.same (hlt x hx)) hs
def Fine (W : World) (v : Value) (w' : World) : Prop := v = .bool true ∧ Below W.heap.size W w'
theorem fine {O : Nat → Prop} {W : World} (hO : ∀ b, O b → W.heap.size ≤ b) : ∀ w', Fr O W w' → Fine W (.bool true) w' := fun w' hf => ⟨rfl, hf.to_below hO (Nat.le_refl _)⟩
theorem calls_true {f : FuncId} {fn : Func} (hf : P.funcs[f]? = some fn) (hname : (fn.name == "runtime.NumGoroutine") = false) (hbody : fn.body.isNone = false) {args : List Value} {W : World} (h : pFn P f args W (Fine W)) :
    Calls P f args.toArray W fun e w' => e = .returned (.bool true) ∧ Below W.heap.size W w' := by
  refine (calls_of_pFn hf hname hbody h).mono ?_
  rintro e w' ⟨v, rfl, rfl, hb⟩
  exact ⟨rfl, hb⟩
end
end Go.Proofs.XRow

set_option linter.unusedVariables false
set_option linter.unusedSimpArgs false
set_option maxRecDepth 100000
namespace Go.Proofs.YtcdcojpfealppaaGreat
open Go Go.ChangeShapes Go.WideShapes Go.ChangeAt Go.RowKit Go.Proofs Go.Proofs.XRed Go.Proofs.XHeap Go.Proofs.XSlices Go.Proofs.XRow Go.Proofs.XDisk
section
variable {H : Type} {enc : TypeId × Value → H}
variable {W : World}
def Len (d : DataW H) (n : Nat) : Prop := n = 0 ∨ ∃ e s, d = .slice e s ∧ e.length = n
theorem open_bytes {fuel : Nat} {cs : List Value} {x : DataW H × List MemPlace} (h : DataW.trod enc Tryz.prog W 0 (fun _ => true) true fuel 36 cs = some x) : ∃ (dv : Value) (d : Bytes), cs = [dv] ∧ SBytes W dv d ∧ Len x.1 d.length := by
  rcases open_ints Tryz.underlying36 Tryz.underlying5 (by kernel_rfl) h with ⟨rfl, rfl⟩ | ⟨a, len, cap, zs, rfl, _, hl, hm, hz, rfl, hcell, hwf⟩
  · exact ⟨_, [], rfl, SBytes.nil _, .inl rfl⟩
  · simp only [if_true] at hz
    have hbyte : ∀ z ∈ zs, ((UInt8.ofNat z.toNat).toNat : Int) = z := by
      intro z hz
      have hb := hwf z hz
      simp only [Lit.wf, IntKind.min, IntKind.max, IntKind.signed, IntKind.bits] at hb
      simp at hb
      have : (UInt8.ofNat z.toNat).toNat = z.toNat := by simp; omega
      rw [this]; omega
    have hlen : ((zs.take len).map fun z => UInt8.ofNat z.toNat).length = len := by simp; omega
    refine ⟨_, (zs.take len).map fun z => UInt8.ofNat z.toNat, rfl, ?_, ?_⟩
    · unfold SBytes
      rw [hlen]
      obtain ⟨b, off, spot⟩ := a
      refine ⟨some ⟨b, off, spot⟩, cap, rfl, hl, by simp [u8s]; omega, fun h0 => ?_⟩
      have hspot : spot = none := by simpa [Addr.add] using World.cell?_spot (hcell 0 (by omega))
      subst hspot
      refine ⟨b, off, rfl, fun j u hj => ?_⟩
      unfold u8s at hj
      rw [List.map_map, List.getElem?_map] at hj
      obtain ⟨z, hz', rfl⟩ := Option.map_eq_some_iff.1 hj
      have hjl : j < len := by
        have := (List.getElem?_eq_some_iff.1 hz').1
        simp at this; omega
      rw [List.getElem?_take_of_lt hjl] at hz'
      have := hcell j (by omega)
      rw [add_at, List.getD, hz'] at this
      rw [this]
      show some (Value.int .u8 z) = some (Value.int .u8 ((UInt8.ofNat z.toNat).toNat : Int))
      rw [hbyte z (List.mem_of_getElem? hz')]
    · rw [hlen]
      exact .inr ⟨lits .u8 (zs.take len), lits .u8 (zs.drop len), rfl, by simp [lits]; omega⟩
theorem open_intsV {fuel : Nat} {cs : List Value} {x : DataW H × List MemPlace} (h : DataW.trod enc Tryz.prog W 0 (fun _ => true) true fuel 39 cs = some x) : ∃ (dv : Value) (d : List Int), cs = [dv] ∧ Src W dv 1 d.length (d.map fun n => .int .i64 n) ∧ Len x.1 d.length := by
  rcases open_ints Tryz.underlying39 Tryz.underlying3 (by kernel_rfl) h with ⟨rfl, rfl⟩ | ⟨a, len, cap, zs, rfl, _, hl, hm, hz, rfl, hcell, hwf⟩
  · exact ⟨_, [], rfl, Src.nil _ _, .inl rfl⟩
  · simp only [if_true] at hz
    have hlen : (zs.take len).length = len := by simp; omega
    refine ⟨_, zs.take len, rfl, ?_, ?_⟩
    · rw [hlen]
      obtain ⟨b, off, spot⟩ := a
      refine ⟨some ⟨b, off, spot⟩, cap, rfl, hl, by simp; omega, fun h0 => ?_⟩
      have hspot : spot = none := by simpa [Addr.add] using World.cell?_spot (hcell 0 (by omega))
      subst hspot
      refine ⟨b, off, rfl, fun j u hj => ?_⟩
      rw [List.getElem?_map] at hj
      obtain ⟨z, hz', rfl⟩ := Option.map_eq_some_iff.1 hj
      have hjl : j < len := by
        have := (List.getElem?_eq_some_iff.1 hz').1
        simp at this; omega
      rw [List.getElem?_take_of_lt hjl] at hz'
      have := hcell j (by omega)
      rw [add_at, List.getD, hz'] at this
      exact this
    · rw [hlen]
      exact .inr ⟨lits .i64 (zs.take len), lits .i64 (zs.drop len), rfl, by simp [lits]; omega⟩
theorem i64_wf {n : Int} (h : (Lit.int .i64 n).wf = true) : -9223372036854775808 ≤ n ∧ n ≤ 9223372036854775807 := by
  simp only [Lit.wf, IntKind.min, IntKind.max, IntKind.signed, IntKind.bits] at h
  simp at h
  omega
def StepFits (d : DataW H) : Prop := ∀ parts, d = .agg parts → (∀ q n, parts[5]? = some q → Len q n → n ≤ 140737488355328) ∧ ∀ q n, parts[7]? = some q → Len q n → n ≤ 17592186044416
theorem open_step {fuel : Nat} {cs : List Value} {x : DataW H × List MemPlace} (hb : StepFits x.1) (h : DataW.trod enc Tryz.prog W 0 (fun _ => true) true fuel 41 cs = some x) : ∃ (s : StepA) (dv pv : Value), cs = stepCells s dv pv ∧ StepV W s dv pv := by
  obtain ⟨xs, k, rfl, rfl, hlen, hxl, hf⟩ := DataW.trod_struct Tryz.underlying41 h
  have c10 : Tryz.prog.cellsOf 41 = 10 := by kernel_rfl
  rw [c10] at hlen
  match cs, hlen with
  | [c0, c1, c2, c3, c4, c5, c6, c7, c8, c9], _ =>
  match xs, hxl with
  | [x0, x1, x2, x3, x4, x5, x6, x7], _ =>
  have g0 : DataW.trod enc Tryz.prog W 0 (fun _ => true) true k 3 (([c0, c1, c2, c3, c4, c5, c6, c7, c8, c9].drop 0).take (Tryz.prog.cellsOf 3)) = some x0 := hf 0 _ rfl
  have g1 : DataW.trod enc Tryz.prog W 0 (fun _ => true) true k 9 (([c0, c1, c2, c3, c4, c5, c6, c7, c8, c9].drop 1).take (Tryz.prog.cellsOf 9)) = some x1 := hf 1 _ rfl
  have g2 : DataW.trod enc Tryz.prog W 0 (fun _ => true) true k 9 (([c0, c1, c2, c3, c4, c5, c6, c7, c8, c9].drop 2).take (Tryz.prog.cellsOf 9)) = some x2 := hf 2 _ rfl
  have g3 : DataW.trod enc Tryz.prog W 0 (fun _ => true) true k 3 (([c0, c1, c2, c3, c4, c5, c6, c7, c8, c9].drop 3).take (Tryz.prog.cellsOf 3)) = some x3 := hf 3 _ rfl
  have g4 : DataW.trod enc Tryz.prog W 0 (fun _ => true) true k 3 (([c0, c1, c2, c3, c4, c5, c6, c7, c8, c9].drop 4).take (Tryz.prog.cellsOf 3)) = some x4 := hf 4 _ rfl
  have g5 : DataW.trod enc Tryz.prog W 0 (fun _ => true) true k 36 (([c0, c1, c2, c3, c4, c5, c6, c7, c8, c9].drop 5).take (Tryz.prog.cellsOf 36)) = some x5 := hf 5 _ rfl
  have g6 : DataW.trod enc Tryz.prog W 0 (fun _ => true) true k 38 (([c0, c1, c2, c3, c4, c5, c6, c7, c8, c9].drop 6).take (Tryz.prog.cellsOf 38)) = some x6 := hf 6 _ rfl
  have g7 : DataW.trod enc Tryz.prog W 0 (fun _ => true) true k 39 (([c0, c1, c2, c3, c4, c5, c6, c7, c8, c9].drop 9).take (Tryz.prog.cellsOf 39)) = some x7 := hf 7 _ rfl
  have k3 : Tryz.prog.cellsOf 3 = 1 := by kernel_rfl
  have k9 : Tryz.prog.cellsOf 9 = 1 := by kernel_rfl
  have k30 : Tryz.prog.cellsOf 36 = 1 := by kernel_rfl
  have k46 : Tryz.prog.cellsOf 38 = 3 := by kernel_rfl
  have k57 : Tryz.prog.cellsOf 39 = 1 := by kernel_rfl
  simp only [k3, k9, k30, k46, k57, List.drop_zero, List.drop_succ_cons, List.take_succ_cons, List.take_zero, List.getElem?_cons_zero, List.getElem?_cons_succ] at g0 g1 g2 g3 g4 g5 g6 g7
  obtain ⟨n0, e0, r0, w0⟩ := DataW.trod_int Tryz.underlying3 g0
  obtain ⟨s1, e1, r1, w1⟩ := DataW.trod_string Tryz.underlying9 g1
  obtain ⟨s2, e2, r2, w2⟩ := DataW.trod_string Tryz.underlying9 g2
  obtain ⟨n3, e3, r3, w3⟩ := DataW.trod_int Tryz.underlying3 g3
  obtain ⟨n4, e4, r4, w4⟩ := DataW.trod_int Tryz.underlying3 g4
  obtain ⟨dv, d5, e5, s5, l5⟩ := open_bytes g5
  obtain ⟨pv, d7, e7, s7, l7⟩ := open_intsV g7
  obtain ⟨ys, k', hk', hx6, hlen6, hyl, hf6⟩ := DataW.trod_struct Tryz.underlying38 g6
  match ys, hyl with
  | [y0, y1, y2], _ =>
  have p0 : DataW.trod enc Tryz.prog W 0 (fun _ => true) true k' 3 (([c6, c7, c8].drop 0).take (Tryz.prog.cellsOf 3)) = some y0 := hf6 0 _ rfl
  have p1 : DataW.trod enc Tryz.prog W 0 (fun _ => true) true k' 3 (([c6, c7, c8].drop 1).take (Tryz.prog.cellsOf 3)) = some y1 := hf6 1 _ rfl
  have p2 : DataW.trod enc Tryz.prog W 0 (fun _ => true) true k' 3 (([c6, c7, c8].drop 2).take (Tryz.prog.cellsOf 3)) = some y2 := hf6 2 _ rfl
  simp only [k3, List.drop_zero, List.drop_succ_cons, List.take_succ_cons, List.take_zero, List.getElem?_cons_zero, List.getElem?_cons_succ] at p0 p1 p2
  obtain ⟨m0, q0, _, _⟩ := DataW.trod_int Tryz.underlying3 p0
  obtain ⟨m1, q1, _, _⟩ := DataW.trod_int Tryz.underlying3 p1
  obtain ⟨m2, q2, _, _⟩ := DataW.trod_int Tryz.underlying3 p2
  simp only [List.cons.injEq, and_true] at e0 e1 e2 e3 e4 e5 e7 q0 q1 q2
  subst e0 e1 e2 e3 e4 e5 e7 q0 q1 q2
  obtain ⟨hb5, hb7⟩ := hb _ rfl
  exact ⟨⟨n0, s1, s2, n3, n4, d5, ⟨m0, m1, m2⟩, d7⟩, c5, c9, rfl, ⟨s5, s7, w1, w2, i64_wf w3, hb5 _ _ rfl l5, hb7 _ _ rfl l7⟩⟩
theorem open_script {v : Value} {d : DataW H} {ps : List MemPlace} (hb : ∀ elems spare, d = .slice elems spare → ∀ e ∈ elems, StepFits e) (hv : Value.okWide Tryz.prog W .any 0 22 v) (h : DataW.Trod enc Tryz.prog W 0 (fun _ => true) true 22 v d ps) : ∃ l : Script, ScriptV W v l := by
  obtain ⟨a0, len, cap, rfl⟩ := okWide_slice Tryz.underlying22 hv
  obtain ⟨fuel, hf⟩ := h
  have c10 : Tryz.prog.cellsOf 41 = 10 := by kernel_rfl
  rcases Go.Deep.open_slice Tryz.underlying22 hf with ⟨hcs, hx⟩ | ⟨a, len', cap', m, n, Ds, Pl, hcs, _, hl, hm, hmm, hx, hcell⟩
  · simp [Value.cells] at hcs
    obtain ⟨rfl, rfl, rfl⟩ := hcs
    exact ⟨[], Src.nil _ _, fun p hp => by cases hp⟩
  · simp [Value.cells] at hcs
    obtain ⟨rfl, rfl, rfl⟩ := hcs
    simp only [if_true] at hmm
    rw [c10] at hcell
    injection hx with hx _
    have each : ∀ i, i < len → ∃ p : StepA × Value × Value, StepV W p.1 p.2.1 p.2.2 ∧ ∀ j u, (stepCells p.1 p.2.1 p.2.2)[j]? = some u → W.cell? ((a.add (i * 10)).add j) = some u := by
      intro i hi
      obtain ⟨cs', h1, h2⟩ := hcell i (by omega)
      obtain ⟨_, hlen, hc⟩ := World.cells?_some h1
      have hD : StepFits (Ds i) := hb _ _ hx _ (List.mem_map.2 ⟨i, List.mem_range.2 hi, rfl⟩)
      obtain ⟨s, dv, pv, rfl, hs⟩ := open_step (x := (Ds i, Pl i)) hD h2
      refine ⟨(s, dv, pv), hs, fun j u hj => ?_⟩
      rw [hc j (List.getElem?_eq_some_iff.1 hj).1]; exact hj
    have hS : ∃ g : Nat → StepA × Value × Value, ∀ i, i < len → StepV W (g i).1 (g i).2.1 (g i).2.2 ∧ ∀ j u, (stepCells (g i).1 (g i).2.1 (g i).2.2)[j]? = some u → W.cell? ((a.add (i * 10)).add j) = some u := by
      classical
      refine ⟨fun i => if h : i < len then Classical.choose (each i h) else (⟨0, .empty, .empty, 0, 0, [], ⟨0, 0, 0⟩, []⟩, undef, undef), fun i hi => ?_⟩
      simp only [dif_pos hi]
      exact Classical.choose_spec (each i hi)
    obtain ⟨g, hg⟩ := hS
    refine ⟨(List.range len).map g, ?_, ?_⟩
    · rw [List.length_map, List.length_range]
      have hfl : (scriptCells ((List.range len).map g)).length = len * 10 := by
        have : ∀ l : Script, (scriptCells l).length = l.length * 10 := by
          intro l
          induction l with
          | nil => rfl
          | cons p r ih => unfold scriptCells at *; rw [List.flatMap_cons, List.length_append, ih]; simp [stepCells]; omega
        rw [this]; simp
      obtain ⟨b, off, spot⟩ := a
      refine ⟨some ⟨b, off, spot⟩, cap, rfl, hl, hfl, fun hpos => ?_⟩
      have h00 := (hg 0 hpos).2 0 _ rfl
      have hspot : spot = none := by simpa [Addr.add] using World.cell?_spot h00
      subst hspot
      refine ⟨b, off, rfl, fun j u hj => ?_⟩
      have hjl : j < len * 10 := by have := (List.getElem?_eq_some_iff.1 hj).1; rw [hfl] at this; exact this
      have hi : j / 10 < len := by omega
      have hgi : ((List.range len).map g)[j / 10]? = some (g (j / 10)) := by simp [hi]
      have hfa := flatAt (f := fun p : StepA × Value × Value => stepCells p.1 p.2.1 p.2.2) (n := 10) (fun _ => rfl) (l := (List.range len).map g) (i := j / 10) (j := j % 10) hgi (Nat.mod_lt _ (by omega))
      have e : j / 10 * 10 + j % 10 = j := by omega
      rw [e] at hfa
      unfold scriptCells at hj
      rw [hfa] at hj
      have := (hg (j / 10) hi).2 (j % 10) u hj
      rw [add_at, add_at] at this
      have e2 : off + j / 10 * 10 + j % 10 = off + j := by omega
      rw [e2] at this
      exact this
    · intro p hp
      obtain ⟨i, hi, rfl⟩ := List.mem_map.1 hp
      exact (hg i (List.mem_range.1 hi)).1
theorem weights_all {P : Program} {t : TypeId} {d : DataW H} : ∀ {l : List (DataW H)}, d ∈ l → ∀ n ∈ d.weights P t, n ∈ DataW.weightsAll P t l
  | a :: r, h, n, hn => by
    simp only [DataW.weightsAll, List.mem_append]
    rcases List.mem_cons.1 h with rfl | h
    · exact Or.inl hn
    · exact Or.inr (weights_all h n hn)
theorem len_weight {P : Program} {t e : TypeId} {d : DataW H} {n b : Nat} (ht : P.underlying t = some (.slice e)) (hb : P.bytesOf e = b) (hl : Len d n) (hw : ∀ m ∈ d.weights P t, m ≤ reachBytes) : n * b ≤ reachBytes := by
  rcases hl with rfl | ⟨el, sp, rfl, rfl⟩
  · rw [Nat.zero_mul]; exact Nat.zero_le _
  · have := hw ((el.length + sp.length) * P.bytesOf e) (by simp [DataW.weights, ht])
    rw [hb] at this
    exact Nat.le_trans (Nat.mul_le_mul_right _ (by omega)) this
theorem stepFits_weights {d : DataW H} (hw : ∀ m ∈ d.weights Tryz.prog 41, m ≤ reachBytes) : StepFits d := by
  have hr : reachBytes ≤ 140737488355328 := by decide
  rintro parts rfl
  have hu := Tryz.underlying41
  have hwe : DataW.weights Tryz.prog 41 (.agg parts) = DataW.weightsEach Tryz.prog [3, 9, 9, 3, 3, 36, 38, 39] parts := by
    simp only [DataW.weights, hu]
    rfl
  have sub : ∀ (j : Nat) (q : DataW H) (t : TypeId), parts[j]? = some q → [3, 9, 9, 3, 3, 36, 38, 39][j]? = some t → ∀ m ∈ q.weights Tryz.prog t, m ≤ reachBytes := by
    intro j q t hq ht m hm
    refine hw m ?_
    rw [hwe]
    exact DataW.weights_mem_each ht hq m hm
  refine ⟨fun q n hq hl => ?_, fun q n hq hl => ?_⟩
  · have := len_weight (b := 1) Tryz.underlying36 (by kernel_rfl) hl (sub 5 q 36 hq rfl)
    omega
  · have := len_weight (b := 8) Tryz.underlying39 (by kernel_rfl) hl (sub 7 q 39 hq rfl)
    omega
theorem script_weights {d : DataW H} (hw : ∀ m ∈ d.weights Tryz.prog 22, m ≤ reachBytes) : ∀ elems spare, d = .slice elems spare → ∀ e ∈ elems, StepFits e := by
  rintro elems spare rfl e he
  refine stepFits_weights fun m hm => hw m ?_
  simp only [DataW.weights, Tryz.underlying22, List.mem_cons, List.mem_append]
  exact Or.inr (Or.inl (weights_all he m hm))
end
end Go.Proofs.YtcdcojpfealppaaGreat

set_option linter.unusedVariables false
namespace Go.Proofs.XSep
open Go Go.RowKit Go.Proofs.XRed Go.Proofs.XHeap
abbrev Blks := Nat → Prop
structure Asrt where
  h : World → Blks → Blks → Prop
  fr : ∀ {w w' : World} {O I M : Blks}, h w O I → Fr M w w' → (∀ b, M b → ¬ O b ∧ ¬ I b) → h w' O I
  lt : ∀ {w : World} {O I : Blks}, h w O I → ∀ b, O b ∨ I b → b < w.heap.size
  ap : ∀ {w : World} {O I : Blks}, h w O I → ∀ b, O b → ¬ I b
structure Nxt (w : World) (O J : Blks) (w' : World) (O' I' : Blks) : Prop where
  fr : Fr O w w'
  on : ∀ b, O' b → O b ∨ w.heap.size ≤ b
  in_ : ∀ b, I' b → J b ∨ w.heap.size ≤ b
def Apart (O1 I1 O2 I2 : Blks) : Prop := (∀ b, O1 b → ¬ O2 b ∧ ¬ I2 b) ∧ ∀ b, O2 b → ¬ O1 b ∧ ¬ I1 b
def Seps : List Asrt → World → Blks → Blks → Prop
  | [], _, O, I => (∀ b, ¬ O b) ∧ ∀ b, ¬ I b
  | a :: l, w, O, I => ∃ O1 I1 O2 I2, a.h w O1 I1 ∧ Seps l w O2 I2 ∧ Apart O1 I1 O2 I2 ∧ (∀ b, O b ↔ O1 b ∨ O2 b) ∧ ∀ b, I b ↔ I1 b ∨ I2 b
def Sep (l : List Asrt) (w : World) : Prop := ∃ O I, Seps l w O I
theorem Seps.fr {w w' : World} {M : Blks} (hf : Fr M w w') : ∀ {l : List Asrt} {O I : Blks}, Seps l w O I → (∀ b, M b → ¬ O b ∧ ¬ I b) → Seps l w' O I
  | [], _, _, h, _ => h
  | a :: l, O, I, ⟨O1, I1, O2, I2, h1, h2, h3, h4, h5⟩, hm => ⟨O1, I1, O2, I2, a.fr h1 hf fun b hb => ⟨fun h => (hm b hb).1 ((h4 b).2 (.inl h)), fun h => (hm b hb).2 ((h5 b).2 (.inl h))⟩,
      Seps.fr hf h2 (fun b hb => ⟨fun h => (hm b hb).1 ((h4 b).2 (.inr h)), fun h => (hm b hb).2 ((h5 b).2 (.inr h))⟩), h3, h4, h5⟩
theorem Seps.lt {w : World} : ∀ {l : List Asrt} {O I : Blks}, Seps l w O I → ∀ b, O b ∨ I b → b < w.heap.size
  | [], _, _, h, b, hb => hb.elim (fun h' => absurd h' (h.1 b)) fun h' => absurd h' (h.2 b)
  | a :: l, O, I, ⟨O1, I1, O2, I2, h1, h2, h3, h4, h5⟩, b, hb => by
    rcases hb with hb | hb
    · exact ((h4 b).1 hb).elim (fun h => a.lt h1 b (.inl h)) fun h => Seps.lt h2 b (.inl h)
    · exact ((h5 b).1 hb).elim (fun h => a.lt h1 b (.inr h)) fun h => Seps.lt h2 b (.inr h)
theorem Seps.ap {w : World} : ∀ {l : List Asrt} {O I : Blks}, Seps l w O I → ∀ b, O b → ¬ I b
  | [], _, _, h, b, hb => absurd hb (h.1 b)
  | a :: l, O, I, ⟨O1, I1, O2, I2, h1, h2, h3, h4, h5⟩, b, hb => fun hi => by
    rcases (h4 b).1 hb with h | h <;> rcases (h5 b).1 hi with k | k
    · exact a.ap h1 b h k
    · exact (h3.1 b h).2 k
    · exact (h3.2 b h).2 k
    · exact Seps.ap h2 b h k
theorem Seps.at_ {w : World} {J : Blks} {a : Asrt} : ∀ {l : List Asrt} {i : Nat} {O I : Blks}, Seps l w O I → (∀ b, O b → ¬ J b) → l[i]? = some a →
    ∃ O1 I1, a.h w O1 I1 ∧ (∀ b, O1 b → O b) ∧ (∀ b, I1 b → I b) ∧ ∀ c w' O' I', c.h w' O' I' → Nxt w O1 J w' O' I' → ∃ O2 I2, Seps (l.set i c) w' O2 I2 ∧ Fr O w w' ∧ (∀ b, O2 b → O b ∨ w.heap.size ≤ b) ∧ ∀ b, I2 b → I b ∨ J b ∨ w.heap.size ≤ b
  | [], _, _, _, _, _, h => by simp at h
  | x :: l, 0, O, I, ⟨O1, I1, O2, I2, h1, h2, h3, h4, h5⟩, hJ, hi => by
    simp at hi; subst hi
    refine ⟨O1, I1, h1, fun b hb => (h4 b).2 (.inl hb), fun b hb => (h5 b).2 (.inl hb), fun c w' O' I' hc hn => ?_⟩
    refine ⟨fun b => O' b ∨ O2 b, fun b => I' b ∨ I2 b, ⟨O', I', O2, I2, hc, Seps.fr hn.fr h2 h3.1, ⟨fun b hb => ?_, fun b hb => ?_⟩, fun _ => Iff.rfl, fun _ => Iff.rfl⟩, ?_, ?_, ?_⟩
    · rcases hn.on b hb with h | h
      · exact h3.1 b h
      · exact ⟨fun h' => absurd (h2.lt b (.inl h')) (by omega), fun h' => absurd (h2.lt b (.inr h')) (by omega)⟩
    · have hlt := h2.lt b (.inl hb)
      refine ⟨fun h => ?_, fun h => ?_⟩
      · rcases hn.on b h with h | h
        · exact (h3.1 b h).1 hb
        · omega
      · rcases hn.in_ b h with h | h
        · exact hJ b ((h4 b).2 (.inr hb)) h
        · omega
    · exact hn.fr.mono fun b hb => .inl ((h4 b).2 (.inl hb))
    · rintro b (hb | hb)
      · exact (hn.on b hb).imp (fun h => (h4 b).2 (.inl h)) id
      · exact .inl ((h4 b).2 (.inr hb))
    · rintro b (hb | hb)
      · exact .inr (hn.in_ b hb)
      · exact .inl ((h5 b).2 (.inr hb))
  | x :: l, i + 1, O, I, ⟨O1, I1, O2, I2, h1, h2, h3, h4, h5⟩, hJ, hi => by
    obtain ⟨Oa, Ia, ha, ho, hi2, hs⟩ := Seps.at_ (J := J) (i := i) h2 (fun b hb => hJ b ((h4 b).2 (.inr hb))) (by simpa using hi)
    refine ⟨Oa, Ia, ha, fun b hb => (h4 b).2 (.inr (ho b hb)), fun b hb => (h5 b).2 (.inr (hi2 b hb)), fun c w' O' I' hc hn => ?_⟩
    obtain ⟨O3, I3, hs3, hf, hon, hin⟩ := hs c w' O' I' hc hn
    refine ⟨fun b => O1 b ∨ O3 b, fun b => I1 b ∨ I3 b, ⟨O1, I1, O3, I3, x.fr h1 hf h3.2, hs3, ⟨fun b hb => ?_, fun b hb => ?_⟩, fun _ => Iff.rfl, fun _ => Iff.rfl⟩, ?_, ?_, ?_⟩
    · have hlt := x.lt h1 b (.inl hb)
      refine ⟨fun h => ?_, fun h => ?_⟩
      · rcases hon b h with h | h
        · exact (h3.1 b hb).1 h
        · omega
      · rcases hin b h with h | h | h
        · exact (h3.1 b hb).2 h
        · exact hJ b ((h4 b).2 (.inl hb)) h
        · omega
    · rcases hon b hb with h | h
      · exact h3.2 b h
      · exact ⟨fun h' => absurd (x.lt h1 b (.inl h')) (by omega), fun h' => absurd (x.lt h1 b (.inr h')) (by omega)⟩
    · exact hf.mono fun b hb => .inl ((h4 b).2 (.inr hb))
    · rintro b (hb | hb)
      · exact .inl ((h4 b).2 (.inl hb))
      · exact (hon b hb).imp (fun h => (h4 b).2 (.inr h)) id
    · rintro b (hb | hb)
      · exact .inl ((h5 b).2 (.inl hb))
      · rcases hin b hb with h | h
        · exact .inl ((h5 b).2 (.inr h))
        · exact .inr h
theorem Sep.at_ {l : List Asrt} {w : World} (h : Sep l w) (i : Nat) {a : Asrt} (hi : l[i]? = some a) :
    ∃ O I J, a.h w O I ∧ (∀ b, I b → J b) ∧ (∀ b, O b → ¬ J b) ∧ ∀ c w' O' I', c.h w' O' I' → Nxt w O J w' O' I' → Sep (l.set i c) w' := by
  obtain ⟨O, I, hs⟩ := h
  obtain ⟨O1, I1, h1, h2, h3, h4⟩ := hs.at_ (J := I) hs.ap hi
  refine ⟨O1, I1, I, h1, h3, fun b hb => hs.ap b (h2 b hb), fun c w' O' I' hc hn => ?_⟩
  obtain ⟨O2, I2, h5, -⟩ := h4 c w' O' I' hc hn
  exact ⟨O2, I2, h5⟩
theorem Sep.get {l : List Asrt} {w : World} (h : Sep l w) (i : Nat) {a : Asrt} (hi : l[i]? = some a) : ∃ O I, a.h w O I := by
  obtain ⟨O, I, J, h, -⟩ := h.at_ i hi; exact ⟨O, I, h⟩
theorem Sep.quiet {l : List Asrt} {w w' : World} {M : Blks} (h : Sep l w) (hf : Fr M w w') (hm : ∀ b, M b → w.heap.size ≤ b) : Sep l w' := by
  obtain ⟨O, I, hs⟩ := h
  exact ⟨O, I, hs.fr hf fun b hb => ⟨fun h' => absurd (hs.lt b (.inl h')) (by have := hm b hb; omega), fun h' => absurd (hs.lt b (.inr h')) (by have := hm b hb; omega)⟩⟩
theorem Sep.q {l : List Asrt} {w w' : World} (h : Sep l w) (hf : Fr (fun _ => False) w w') : Sep l w' := h.quiet hf fun b hb => hb.elim
theorem Sep.new {l : List Asrt} {w w' : World} {M : Blks} {a : Asrt} {O' I' : Blks} (h : Sep l w) (hf : Fr M w w') (hm : ∀ b, M b → w.heap.size ≤ b) (ha : a.h w' O' I') (ho : ∀ b, O' b → w.heap.size ≤ b) (hi : ∀ b, I' b → w.heap.size ≤ b) : Sep (a :: l) w' := by
  obtain ⟨O, I, hs⟩ := h
  refine ⟨_, _, O', I', O, I, ha, hs.fr hf fun b hb => ⟨fun h' => absurd (hs.lt b (.inl h')) (by have := hm b hb; omega), fun h' => absurd (hs.lt b (.inr h')) (by have := hm b hb; omega)⟩, ⟨fun b hb => ?_, fun b hb => ?_⟩, fun _ => Iff.rfl, fun _ => Iff.rfl⟩
  · have := ho b hb
    exact ⟨fun h' => absurd (hs.lt b (.inl h')) (by omega), fun h' => absurd (hs.lt b (.inr h')) (by omega)⟩
  · have := hs.lt b (.inl hb)
    exact ⟨fun h' => absurd (ho b h') (by omega), fun h' => absurd (hi b h') (by omega)⟩
theorem Seps.perm {w : World} {l l' : List Asrt} (hp : l.Perm l') : ∀ {O I : Blks}, Seps l w O I → Seps l' w O I := by
  induction hp with
  | nil => exact fun h => h
  | cons a _ ih => exact fun ⟨O1, I1, O2, I2, h1, h2, h3⟩ => ⟨O1, I1, O2, I2, h1, ih h2, h3⟩
  | trans _ _ ih1 ih2 => exact fun h => ih2 (ih1 h)
  | swap a b l =>
    rintro O I ⟨O1, I1, O2, I2, h1, ⟨O3, I3, O4, I4, k1, k2, k3, k4, k5⟩, h3, h4, h5⟩
    refine ⟨O3, I3, fun b => O1 b ∨ O4 b, fun b => I1 b ∨ I4 b, k1, ⟨O1, I1, O4, I4, h1, k2, ⟨fun b hb => ?_, fun b hb => ?_⟩, fun _ => Iff.rfl, fun _ => Iff.rfl⟩, ⟨fun b hb => ?_, fun b hb => ?_⟩, fun b => ?_, fun b => ?_⟩
    · exact ⟨fun h => (h3.1 b hb).1 ((k4 b).2 (.inr h)), fun h => (h3.1 b hb).2 ((k5 b).2 (.inr h))⟩
    · exact h3.2 b ((k4 b).2 (.inr hb))
    · have e := h3.2 b ((k4 b).2 (.inl hb))
      exact ⟨fun h => h.elim e.1 (k3.1 b hb).1, fun h => h.elim e.2 (k3.1 b hb).2⟩
    · rcases hb with hb | hb
      · exact ⟨fun h => (h3.1 b hb).1 ((k4 b).2 (.inl h)), fun h => (h3.1 b hb).2 ((k5 b).2 (.inl h))⟩
      · exact k3.2 b hb
    · rw [h4, k4]; exact ⟨fun h => h.elim (fun h => .inr (.inl h)) fun h => h.elim .inl fun h => .inr (.inr h), fun h => h.elim (fun h => .inr (.inl h)) fun h => h.elim .inl fun h => .inr (.inr h)⟩
    · rw [h5, k5]; exact ⟨fun h => h.elim (fun h => .inr (.inl h)) fun h => h.elim .inl fun h => .inr (.inr h), fun h => h.elim (fun h => .inr (.inl h)) fun h => h.elim .inl fun h => .inr (.inr h)⟩
theorem Sep.perm {w : World} {l l' : List Asrt} (h : Sep l w) (hp : l.Perm l') : Sep l' w := by obtain ⟨O, I, h⟩ := h; exact ⟨O, I, h.perm hp⟩
theorem Sep.drop {w : World} {l : List Asrt} {a : Asrt} (h : Sep (a :: l) w) : Sep l w := by obtain ⟨O, I, O1, I1, O2, I2, h1, h2, _⟩ := h; exact ⟨_, _, h2⟩
def star (a b : Asrt) : Asrt where
  h w O I := ∃ O1 I1 O2 I2, a.h w O1 I1 ∧ b.h w O2 I2 ∧ Apart O1 I1 O2 I2 ∧ (∀ b, O b ↔ O1 b ∨ O2 b) ∧ ∀ b, I b ↔ I1 b ∨ I2 b
  fr := fun ⟨O1, I1, O2, I2, h1, h2, h3, h4, h5⟩ hf hm => ⟨O1, I1, O2, I2, a.fr h1 hf fun b hb => ⟨fun h => (hm b hb).1 ((h4 b).2 (.inl h)), fun h => (hm b hb).2 ((h5 b).2 (.inl h))⟩,
    b.fr h2 hf (fun b hb => ⟨fun h => (hm b hb).1 ((h4 b).2 (.inr h)), fun h => (hm b hb).2 ((h5 b).2 (.inr h))⟩), h3, h4, h5⟩
  lt := fun ⟨O1, I1, O2, I2, h1, h2, h3, h4, h5⟩ x hx => by
    rcases hx with hx | hx
    · exact ((h4 x).1 hx).elim (fun h => a.lt h1 x (.inl h)) fun h => b.lt h2 x (.inl h)
    · exact ((h5 x).1 hx).elim (fun h => a.lt h1 x (.inr h)) fun h => b.lt h2 x (.inr h)
  ap := fun ⟨O1, I1, O2, I2, h1, h2, h3, h4, h5⟩ x hx hi => by
    rcases (h4 x).1 hx with h | h <;> rcases (h5 x).1 hi with k | k
    · exact a.ap h1 x h k
    · exact (h3.1 x h).2 k
    · exact (h3.2 x h).2 k
    · exact b.ap h2 x h k
theorem Sep.unstar {w : World} {l : List Asrt} {a b : Asrt} (h : Sep (star a b :: l) w) : Sep (a :: b :: l) w := by
  obtain ⟨O, I, O1, I1, O2, I2, ⟨O3, I3, O4, I4, k1, k2, k3, k4, k5⟩, h2, h3, h4, h5⟩ := h
  refine ⟨O, I, O3, I3, fun x => O4 x ∨ O2 x, fun x => I4 x ∨ I2 x, k1, ⟨O4, I4, O2, I2, k2, h2, ⟨fun x hx => h3.1 x ((k4 x).2 (.inr hx)), fun x hx => ⟨fun h => (h3.2 x hx).1 ((k4 x).2 (.inr h)), fun h => (h3.2 x hx).2 ((k5 x).2 (.inr h))⟩⟩, fun _ => Iff.rfl, fun _ => Iff.rfl⟩, ⟨fun x hx => ?_, fun x hx => ?_⟩, fun x => ?_, fun x => ?_⟩
  · have e := h3.1 x ((k4 x).2 (.inl hx))
    exact ⟨fun h => h.elim (k3.1 x hx).1 e.1, fun h => h.elim (k3.1 x hx).2 e.2⟩
  · rcases hx with hx | hx
    · exact k3.2 x hx
    · exact ⟨fun h => (h3.2 x hx).1 ((k4 x).2 (.inl h)), fun h => (h3.2 x hx).2 ((k5 x).2 (.inl h))⟩
  · rw [h4, k4]; exact or_assoc
  · rw [h5, k5]; exact or_assoc
def Base (W : World) : Asrt where
  h w O I := Fr (fun _ => False) W w ∧ (∀ b, ¬ O b) ∧ ∀ b, I b ↔ b < W.heap.size
  fr := fun ⟨h1, h2, h3⟩ hf hm => ⟨h1.trans hf fun b hb => .inr (by have := (hm b hb).2; rw [h3] at this; omega), h2, h3⟩
  lt := fun ⟨h1, h2, h3⟩ b hb => hb.elim (fun h => absurd h (h2 b)) fun h => Nat.lt_of_lt_of_le ((h3 b).1 h) h1.size
  ap := fun ⟨h1, h2, h3⟩ b hb => absurd hb (h2 b)
theorem Sep.base (W : World) : Sep [Base W] W :=
  ⟨fun _ => False, fun b => b < W.heap.size, fun _ => False, fun b => b < W.heap.size, fun _ => False, fun _ => False, ⟨Fr.refl _ _, fun _ h => h, fun _ => Iff.rfl⟩, ⟨fun _ h => h, fun _ h => h⟩, ⟨fun b h => h.elim, fun b h => h.elim⟩, fun b => by simp, fun b => by simp⟩
theorem Sep.base_at {W w : World} {l : List Asrt} (h : Sep l w) (i : Nat) (hi : l[i]? = some (Base W)) : Fr (fun _ => False) W w := by
  obtain ⟨O, I, h⟩ := h.get i hi; exact h.1
def Cells (b : Nat) (cs : Array Value) (t : TypeId) : Asrt where
  h w O I := w.heap[b]? = some (.cells cs t (0, 0)) ∧ (∀ x, O x ↔ x = b) ∧ ∀ x, ¬ I x
  fr := fun ⟨h1, h2, h3⟩ hf hm => ⟨hf.get h1 fun h => (hm b h).1 ((h2 b).2 rfl), h2, h3⟩
  lt := fun ⟨h1, h2, h3⟩ x hx => hx.elim (fun h => (h2 x).1 h ▸ lt_of_get h1) fun h => absurd h (h3 x)
  ap := fun ⟨h1, h2, h3⟩ x _ => h3 x
theorem Sep.cells {w : World} {l : List Asrt} (h : Sep l w) (i : Nat) {b : Nat} {cs : Array Value} {t : TypeId} (hi : l[i]? = some (Cells b cs t)) : w.heap[b]? = some (.cells cs t (0, 0)) := by
  obtain ⟨O, I, h, _⟩ := h.get i hi; exact h
theorem Sep.set {w : World} {l : List Asrt} (h : Sep l w) (i : Nat) {b : Nat} {cs : Array Value} {t : TypeId} (hi : l[i]? = some (Cells b cs t)) (j : Nat) (u : Value) : Sep (l.set i (Cells b (cs.setIfInBounds j u) t)) (w.setCell ⟨b, j, none⟩ u) := by
  obtain ⟨O, I, J, ⟨h1, h2, h3⟩, -, -, hs⟩ := h.at_ i hi
  exact hs _ _ O I ⟨set_same h1 j u, h2, h3⟩ ⟨(Fr.setCell w ⟨b, j, none⟩ u).mono fun x hx => .inl ((h2 x).2 hx), fun x => .inl, fun x hx => absurd hx (h3 x)⟩
theorem Sep.cell {w : World} {l : List Asrt} (h : Sep l w) (cs : Array Value) (t : TypeId) : Sep (Cells w.heap.size cs t :: l) (w.alloc (.cells cs t)) :=
  h.new (Fr.alloc (fun _ => False) w _) (fun b hb => hb.elim) (O' := fun x => x = w.heap.size) (I' := fun _ => False) ⟨alloc_new _ _, fun _ => Iff.rfl, fun _ h => h⟩ (fun b hb => by omega) fun b hb => hb.elim
end Go.Proofs.XSep

set_option linter.unusedVariables false
namespace Go.Proofs.XSep
open Go Go.RowKit Go.Proofs.XRed Go.Proofs.XHeap
theorem Seps.at2 {w : World} {J : Blks} {a b : Asrt} : ∀ {l : List Asrt} {i j : Nat} {O I : Blks}, Seps l w O I → (∀ b, O b → ¬ J b) → i ≠ j → l[i]? = some a → l[j]? = some b →
    ∃ O1 I1 O2 I2, a.h w O1 I1 ∧ b.h w O2 I2 ∧ (∀ x, O1 x → ¬ O2 x ∧ ¬ I2 x) ∧ (∀ x, O2 x → ¬ O1 x ∧ ¬ I1 x) ∧ (∀ b, O1 b → O b) ∧ (∀ b, I1 b → I b) ∧ ∀ c w' O' I', c.h w' O' I' → Nxt w O1 J w' O' I' → ∃ O3 I3, Seps (l.set i c) w' O3 I3 ∧ Fr O w w' ∧ (∀ b, O3 b → O b ∨ w.heap.size ≤ b) ∧ ∀ b, I3 b → I b ∨ J b ∨ w.heap.size ≤ b
  | [], _, _, _, _, _, _, _, h, _ => by simp at h
  | x :: l, 0, 0, _, _, _, _, h, _, _ => absurd rfl h
  | x :: l, 0, j + 1, O, I, hs, hJ, _, hi, hj => by
    have hs0 := hs
    obtain ⟨Oa, Ia, Ob, Ib, h1, h2, h3, h4, h5⟩ := hs
    simp at hi; subst hi
    obtain ⟨O2, I2, g1, g2, g3, _⟩ := h2.at_ (J := fun _ => False) (i := j) (a := b) (fun _ _ h => h) (by simpa using hj)
    refine ⟨Oa, Ia, O2, I2, h1, g1, fun x hx => ⟨fun h => (h3.1 x hx).1 (g2 x h), fun h => (h3.1 x hx).2 (g3 x h)⟩, fun x hx => h3.2 x (g2 x hx), fun b hb => (h4 b).2 (.inl hb), fun b hb => (h5 b).2 (.inl hb), fun c w' O' I' hc hn => ?_⟩
    refine ⟨fun b => O' b ∨ Ob b, fun b => I' b ∨ Ib b, ⟨O', I', Ob, Ib, hc, Seps.fr hn.fr h2 h3.1, ⟨fun b hb => ?_, fun b hb => ?_⟩, fun _ => Iff.rfl, fun _ => Iff.rfl⟩, ?_, ?_, ?_⟩
    · rcases hn.on b hb with h | h
      · exact h3.1 b h
      · exact ⟨fun h' => absurd (h2.lt b (.inl h')) (by omega), fun h' => absurd (h2.lt b (.inr h')) (by omega)⟩
    · have hlt := h2.lt b (.inl hb)
      refine ⟨fun h => ?_, fun h => ?_⟩
      · rcases hn.on b h with h | h
        · exact (h3.1 b h).1 hb
        · omega
      · rcases hn.in_ b h with h | h
        · exact hJ b ((h4 b).2 (.inr hb)) h
        · omega
    · exact hn.fr.mono fun b hb => .inl ((h4 b).2 (.inl hb))
    · rintro b (hb | hb)
      · exact (hn.on b hb).imp (fun h => (h4 b).2 (.inl h)) id
      · exact .inl ((h4 b).2 (.inr hb))
    · rintro b (hb | hb)
      · exact .inr (hn.in_ b hb)
      · exact .inl ((h5 b).2 (.inr hb))
  | x :: l, i + 1, j, O, I, ⟨O1, I1, O2, I2, h1, h2, h3, h4, h5⟩, hJ, hij, hi, hj => by
    have main : ∀ Oa Ia, a.h w Oa Ia → (∀ b, Oa b → O2 b) → (∀ b, Ia b → I2 b) → (∀ c w' O' I', c.h w' O' I' → Nxt w Oa J w' O' I' → ∃ O3 I3, Seps (l.set i c) w' O3 I3 ∧ Fr O2 w w' ∧ (∀ b, O3 b → O2 b ∨ w.heap.size ≤ b) ∧ ∀ b, I3 b → I2 b ∨ J b ∨ w.heap.size ≤ b) →
        ∀ c w' O' I', c.h w' O' I' → Nxt w Oa J w' O' I' → ∃ O3 I3, Seps ((x :: l).set (i + 1) c) w' O3 I3 ∧ Fr O w w' ∧ (∀ b, O3 b → O b ∨ w.heap.size ≤ b) ∧ ∀ b, I3 b → I b ∨ J b ∨ w.heap.size ≤ b := by
      intro Oa Ia ha ho hi2 hs c w' O' I' hc hn
      obtain ⟨O3, I3, hs3, hf, hon, hin⟩ := hs c w' O' I' hc hn
      refine ⟨fun b => O1 b ∨ O3 b, fun b => I1 b ∨ I3 b, ⟨O1, I1, O3, I3, x.fr h1 hf h3.2, hs3, ⟨fun b hb => ?_, fun b hb => ?_⟩, fun _ => Iff.rfl, fun _ => Iff.rfl⟩, ?_, ?_, ?_⟩
      · have hlt := x.lt h1 b (.inl hb)
        refine ⟨fun h => ?_, fun h => ?_⟩
        · rcases hon b h with h | h
          · exact (h3.1 b hb).1 h
          · omega
        · rcases hin b h with h | h | h
          · exact (h3.1 b hb).2 h
          · exact hJ b ((h4 b).2 (.inl hb)) h
          · omega
      · rcases hon b hb with h | h
        · exact h3.2 b h
        · exact ⟨fun h' => absurd (x.lt h1 b (.inl h')) (by omega), fun h' => absurd (x.lt h1 b (.inr h')) (by omega)⟩
      · exact hf.mono fun b hb => .inl ((h4 b).2 (.inr hb))
      · rintro b (hb | hb)
        · exact .inl ((h4 b).2 (.inl hb))
        · exact (hon b hb).imp (fun h => (h4 b).2 (.inr h)) id
      · rintro b (hb | hb)
        · exact .inl ((h5 b).2 (.inl hb))
        · rcases hin b hb with h | h
          · exact .inl ((h5 b).2 (.inr h))
          · exact .inr h
    cases j with
    | zero =>
      simp at hj; subst hj
      obtain ⟨Oa, Ia, ha, ho, hi2, hs⟩ := h2.at_ (J := J) (i := i) (a := a) (fun b hb => hJ b ((h4 b).2 (.inr hb))) (by simpa using hi)
      exact ⟨Oa, Ia, O1, I1, ha, h1, fun y hy => h3.2 y (ho y hy), fun y hy => ⟨fun h => (h3.1 y hy).1 (ho y h), fun h => (h3.1 y hy).2 (hi2 y h)⟩, fun b hb => (h4 b).2 (.inr (ho b hb)), fun b hb => (h5 b).2 (.inr (hi2 b hb)), main Oa Ia ha ho hi2 hs⟩
    | succ j =>
      obtain ⟨Oa, Ia, Oc, Ic, ha, hc, g1, g2, ho, hi2, hs⟩ := Seps.at2 (J := J) (i := i) (j := j) h2 (fun b hb => hJ b ((h4 b).2 (.inr hb))) (by omega) (by simpa using hi) (by simpa using hj)
      exact ⟨Oa, Ia, Oc, Ic, ha, hc, g1, g2, fun b hb => (h4 b).2 (.inr (ho b hb)), fun b hb => (h5 b).2 (.inr (hi2 b hb)), main Oa Ia ha ho hi2 hs⟩
theorem Sep.at2 {l : List Asrt} {w : World} (h : Sep l w) (i j : Nat) {a b : Asrt} (hij : i ≠ j) (hi : l[i]? = some a) (hj : l[j]? = some b) :
    ∃ O I O2 I2 J, a.h w O I ∧ b.h w O2 I2 ∧ (∀ x, O x → ¬ O2 x ∧ ¬ I2 x) ∧ (∀ x, O2 x → ¬ O x ∧ ¬ I x) ∧ (∀ b, I b → J b) ∧ (∀ b, O b → ¬ J b) ∧ ∀ c w' O' I', c.h w' O' I' → Nxt w O J w' O' I' → Sep (l.set i c) w' := by
  obtain ⟨O, I, hs⟩ := h
  obtain ⟨O1, I1, O2, I2, h1, h2, g1, g2, h3, h4, h5⟩ := hs.at2 (J := I) hs.ap hij hi hj
  refine ⟨O1, I1, O2, I2, I, h1, h2, g1, g2, h4, fun b hb => hs.ap b (h3 b hb), fun c w' O' I' hc hn => ?_⟩
  obtain ⟨O3, I3, h6, -⟩ := h5 c w' O' I' hc hn
  exact ⟨O3, I3, h6⟩
end Go.Proofs.XSep

set_option linter.unusedVariables false
namespace Go.Proofs.XSep
open Go Go.RowKit Go.Proofs.XRed Go.Proofs.XHeap
theorem perm_front {α : Type} : ∀ {l : List α} {i : Nat} {a : α}, l[i]? = some a → l.Perm (a :: l.eraseIdx i)
  | [], _, _, h => by simp at h
  | x :: l, 0, a, h => by simp at h; subst h; exact .refl _
  | x :: l, i + 1, a, h => (List.Perm.cons x (perm_front (l := l) (i := i) (by simpa using h))).trans (List.Perm.swap _ _ _)
theorem Sep.front {w : World} {l : List Asrt} (h : Sep l w) (i : Nat) {a : Asrt} (hi : l[i]? = some a) : Sep (a :: l.eraseIdx i) w := h.perm (perm_front hi)
theorem Sep.erase {w : World} {l : List Asrt} (h : Sep l w) (i : Nat) {a : Asrt} (hi : l[i]? = some a) : Sep (l.eraseIdx i) w := (h.front i hi).drop
theorem Sep.left {w : World} {l : List Asrt} (h : Sep l w) (i : Nat) {a b : Asrt} (hi : l[i]? = some (star a b)) : Sep (l.set i a) w := by
  obtain ⟨O, I, J, ⟨O1, I1, O2, I2, h1, h2, h3, h4, h5⟩, g1, g2, g3⟩ := h.at_ i hi
  exact g3 a w O1 I1 h1 ⟨Fr.refl _ _, fun b hb => .inl ((h4 b).2 (.inl hb)), fun b hb => .inl (g1 b ((h5 b).2 (.inl hb)))⟩
theorem Sep.right {w : World} {l : List Asrt} (h : Sep l w) (i : Nat) {a b : Asrt} (hi : l[i]? = some (star a b)) : ∃ O I, b.h w O I := by
  obtain ⟨O, I, ⟨O1, I1, O2, I2, h1, h2, _⟩⟩ := h.get i hi
  exact ⟨O2, I2, h2⟩
end Go.Proofs.XSep
