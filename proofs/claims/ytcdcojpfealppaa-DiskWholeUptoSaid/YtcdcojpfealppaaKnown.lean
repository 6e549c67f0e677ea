/- known: the law's small example. -/
import Derived.Laws.IdiomStrings
import Derived.Lib.SlBytesConst
import Derived.Test.YtcdcojpfealppaaLaw
import Derived.Test.YtcdcojpfealppaaRead
set_option linter.unusedVariables false
set_option linter.unusedSimpArgs false
set_option maxRecDepth 100000
namespace Go.Proofs.Ytcdcojpfealppaa
open Go Go.Proofs Go.RowKit Go.Proofs.XRed Go.Proofs.XHeap Go.Proofs.XMaps Go.Proofs.XSlices Go.Proofs.XDisk Go.Proofs.XCalls Go.Proofs.XRange Go.Proofs.XKeys
def nA : ByteArray := ByteArray.mk #[97]
def nB : ByteArray := ByteArray.mk #[98]
def K0 : AD := AD.new 20
def K1 : AD := (K0.create nA).2
def K2 : AD := (K1.append nA [120, 121, 122]).2
def K3 : AD := (K2.sync nA).2
def K4 : AD := K3.syncNames.2
def K5 : AD := (K4.append nA [49, 50]).2
def K6 : AD := (K5.rename nA nB).2
def K7 : AD := (K6.read nB 2 2).2.2
def K8 : AD := K7.crash [1, 1]
theorem K_res : (K0.create nA).1 = 0 ∧ (K1.append nA [120, 121, 122]).1 = 0 ∧ (K2.sync nA).1 = 0 ∧ K3.syncNames.1 = 0 ∧ (K4.append nA [49, 50]).1 = 0 ∧ (K5.rename nA nB).1 = 0 ∧ (K6.read nB 2 2).1 = 0 ∧ (K6.read nB 2 2).2.1 = [122, 49] := by
  refine ⟨?_, ?_, ?_, ?_, ?_, ?_, ?_, ?_⟩ <;> kernel_rfl
theorem K_end : K7.strokes = 6 ∧ K7.reads.length = 1 ∧ K8.files = [(nB, [120, 121, 122, 49])] ∧ (K8.remove nA).1 = 53 ∧ (K8.remove nA).2.used = 4 := by
  refine ⟨?_, ?_, ?_, ?_, ?_⟩ <;> kernel_rfl
section
variable {w : World} {D : Nat} {S S' : AD} {O I : Nat → Prop} {L : Lay} {k : Value → World → Prop}
/-- A constant row of bytes: the literal, and its conversion to its own type. -/
theorem lit_const {w : World} {D : Nat} {S : AD} {O I : Nat → Prop} {L : Lay} (h : DRep w D S O I L) (bs : Bytes) {k : Value → Value → World → Prop} {parts : Array (Nat × Value)}
    (hlit : (Instr.buildSlice 30 bs.length parts).run P w = .ok (.slice (some ⟨w.heap.size, 0, none⟩) bs.length bs.length) (w.alloc (.cells (u8s bs).toArray 5)))
    (hk : ∀ w' v, Fr no w w' → SBytes w' v bs → (∀ b, sblk v = some b → ¬ O b) → DRep w' D S O I L → k v v w') :
    px P (Instr.buildSlice 30 bs.length parts) w fun v w => px P (convert 30 30 v) w (k v) := by
  refine px_ok hlit ?_
  refine px_ok (Lib.run_convert_bytes_const w 30 5 (u8s bs).toArray _ _ (by kernel_rfl) (by kernel_rfl)) ?_
  have f : Fr no w (w.alloc (.cells (u8s bs).toArray 5 ((u8s bs).toArray.size, (u8s bs).toArray.size + 1))) := Fr.alloc ..
  refine hk _ _ f (SBytes.blk (alloc_new _ _) (Nat.le_refl _)) ?_ (h.fr f fun b hb => hb.elim)
  intro b hb ho
  injection hb with hb
  have := h.lt b (.inl ho)
  have hb'' : w.heap.size = b := hb
  omega
theorem s_conv_str {v : Value} {bs : Bytes} (h : SBytes w v bs) (h0 : bs ≠ []) (hk : k (.string ⟨bs.toArray⟩) w) : px P (convert 30 9 v) w k := by
  obtain ⟨A, c, rfl, hc, hl, hr⟩ := h
  have h1 : 0 < bs.length := List.length_pos_iff.2 h0
  obtain ⟨b, o, rfl, hcell⟩ := hr h1
  refine px_ok (run_convert_bytes_back w 30 9 5 ⟨b, o, none⟩ c bs (by kernel_rfl) (by kernel_rfl) (by kernel_rfl) ?_) hk
  intro j hj
  rw [add_at]
  exact hcell j _ (by simp [u8s, hj])
theorem Nx.up {w' : World} {O' I' : Nat → Prop} {L' : Lay} {n : Nat} (hx : Nx w D O I w' S' O' I' L') (hO : ∀ b, O b → n ≤ b) (hn : n ≤ w.heap.size) : (∀ b, O' b → n ≤ b) ∧ Fr (fun b => n ≤ b) w w' ∧ n ≤ w'.heap.size :=
  ⟨fun b hb => (hx.on b hb).elim (hO b) (Nat.le_trans hn), hx.fr.mono fun b hb => .inl (hO b hb), Nat.le_trans hn hx.fr.size⟩
theorem no_up {w' : World} {n : Nat} (hf : Fr no w w') (hn : n ≤ w.heap.size) : Fr (fun b => n ≤ b) w w' ∧ n ≤ w'.heap.size := ⟨hf.mono fun b hb => hb.elim, Nat.le_trans hn hf.size⟩
theorem up_trans {w1 w2 : World} {n : Nat} (h : Fr (fun b => n ≤ b) w w1) (k : Fr (fun b => n ≤ b) w1 w2) : Fr (fun b => n ≤ b) w w2 := h.trans k fun b hb => .inl hb
theorem c_known (sk : SortsKeys) (hk : ∀ w', Fr no w w' → k (.bool true) w') : pFn P 18 [] w k := by
  refine F18_in _ _ ?_
  unfold F18_0
  obtain ⟨r1, r2, r3, r4, r5, r6, r7, r8⟩ := K_res
  obtain ⟨e1, e2, e3, e4, e5⟩ := K_end
  have ok0 : K0.Ok 0 := AD.Ok.new (by decide)
  have ok1 : K1.Ok 1 := ok0.create (by decide) nA
  have ok2 : K2.Ok 2 := ok1.append (by decide) nA _
  have ok3 : K3.Ok 3 := ok2.sync (by decide) nA
  have ok4 : K4.Ok 4 := ok3.syncNames (by decide)
  have ok5 : K5.Ok 5 := ok4.append (by decide) nA _
  have ok6 : K6.Ok 6 := ok5.rename (by decide) nA nB
  refine c_new (fun h => absurd (show (1 : Int) ≤ 20 ∧ (20 : Int) ≤ 1048576 by decide) h) fun _ w1 L0 h0 f1 => ?_
  refine s_ext rfl (s_ext rfl ?_)
  refine c_num _ (s_nei_f rfl (pG_yes rfl (pG_yes rfl ?_)))
  refine s_eqpn upt24 (s_pick_f (pC_false ?_))
  have small : nA.size ≤ 9223372036854775807 := by decide
  have smallB : nB.size ≤ 9223372036854775807 := by decide
  have g0 : DRep w1 (w.heap.size + 2) K0 (fun b => w.heap.size ≤ b ∧ b < w1.heap.size) no L0 := h0
  refine c_create g0 ok0 nA small fun w2 O2 I2 L2 h2 => ?_
  rw [r1]
  have g1 : DRep w2 (w.heap.size + 2) K1 O2 I2 L2 := h2.rep
  refine lit_const g1 [120, 121, 122] (by kernel_rfl) fun w3 dv3 f3 hd3 hO3 hR3 => ?_
  refine c_append hR3 ok1 nA small hd3 hO3 (by decide) fun w4 O4 I4 L4 h4 => ?_
  rw [r2]
  have g2 : DRep w4 (w.heap.size + 2) K2 O4 I4 L4 := h4.rep
  refine c_sync g2 ok2 nA small fun w5 O5 I5 L5 h5 => ?_
  rw [r3]
  have g3 : DRep w5 (w.heap.size + 2) K3 O5 I5 L5 := h5.rep
  refine c_syncNames g3 ok3 fun w6 O6 I6 L6 h6 => ?_
  rw [r4]
  have g4 : DRep w6 (w.heap.size + 2) K4 O6 I6 L6 := h6.rep
  refine lit_const g4 [49, 50] (by kernel_rfl) fun w7 dv7 f7 hd7 hO7 hR7 => ?_
  refine c_append hR7 ok4 nA small hd7 hO7 (by decide) fun w8 O8 I8 L8 h8 => ?_
  rw [r5]
  have g5 : DRep w8 (w.heap.size + 2) K5 O8 I8 L8 := h8.rep
  refine c_renameF g5 ok5 nA nB small smallB fun w9 O9 I9 L9 h9 => ?_
  rw [r6]
  have g6 : DRep w9 (w.heap.size + 2) K6 O9 I9 L9 := h9.rep
  refine c_read g6 ok6 nB smallB 2 2 (by decide) fun wa Oa Ia La va ha hva hvb => ?_
  rw [r7]
  rw [r8] at hva
  have g7 : DRep wa (w.heap.size + 2) K7 Oa Ia La := ha.rep
  refine s_ext rfl (s_ext rfl ?_)
  refine c_num _ (c_num _ (s_add_in (by decide) (c_num _ (s_add_in (by decide) (c_num _ (s_add_in (by decide) (c_num _ (s_add_in (by decide) (c_num _ (s_add_in (by decide) (c_num _ (s_add_in (by decide) ?_))))))))))))
  refine s_nei_f (by decide) (pG_yes rfl (pG_yes rfl ?_))
  refine s_conv_str hva (by decide) (pG_yes rfl (s_nes ?_))
  rw [show (!decide ((⟨([122, 49] : List UInt8).toArray⟩ : ByteArray) = ByteArray.mk #[122, 49])) = false from by decide]
  have okr : K7.room = 20 := by kernel_rfl
  have ok7 : K7.Ok 7 := ok6.read (by decide) nB 2 2
  refine s_pick_f (pG_yes rfl (pG_yes rfl (c_strokes g7.disk (by rw [okr]; decide) ?_)))
  rw [e1]
  refine pG_yes rfl (s_nei_f rfl (s_pick_f (pG_yes rfl (pG_yes rfl ?_))))
  refine c_reads g7 ok7 fun wb Ab cb hsb _ fb => ?_
  rw [e2]
  refine pG_yes rfl (s_len usl60 (pG_yes rfl (s_nei_f rfl (s_pick_f (pC_false ?_)))))
  have gb : DRep wb (w.heap.size + 2) K7 Oa Ia La := g7.fr fb fun b hb => hb.elim
  refine px_ok (w' := wb.alloc (.cells #[i64 1, i64 1] 3)) (v := .slice (some ⟨wb.heap.size, 0, none⟩) 2 2) (by kernel_rfl) ?_
  have fc := Fr.alloc no wb (.cells #[i64 1, i64 1] 3)
  have hl := own_lit wb 0 3 1 #[i64 1, i64 1] 2 (Nat.zero_le _) (by unfold maxLen; omega) rfl
  have zc : (wb.alloc (.cells #[i64 1, i64 1] 3)).heap.size = wb.heap.size + 1 := by simp
  show pFn P _ _ (wb.alloc (.cells #[i64 1, i64 1] 3)) _
  generalize wb.alloc (.cells #[i64 1, i64 1] 3) = wc at *
  have gc : DRep wc (w.heap.size + 2) K7 Oa Ia La := gb.fr fc fun b hb => hb.elim
  have ok8 : K8.Ok 7 := ok7.crash [1, 1]
  refine c_crash (picks := [1, 1]) sk gc ok7 (by decide) (Src.of_own hl) (by intro b hb; injection hb with hb; have hb'' : wb.heap.size = b := hb; omega) (fun p hp => by have := ok7.crashNames_small [1, 1] p hp; unfold maxLen; omega) fun wd Od Id Ld hd => ?_
  have gd : DRep wd (w.heap.size + 2) K8 Od Id Ld := hd.rep
  refine c_files sk gd ok8 (fun p hp => by have := ok8.shownNames p hp; unfold maxLen; omega) fun we ve hve fe => ?_
  rw [e3] at hve
  obtain ⟨bf, of, cf, df, rfl, hc0, hc1, hdf⟩ := files_at hve (i := 0) (by decide)
  refine s_len usl37 (s_eqi_t rfl (pG_yes rfl (pG_yes rfl ?_)))
  refine s_ix (i := 0) usl37 (sze37 _) (by decide) (by decide) (pG_yes rfl (fa52_0 (pG_yes rfl ?_)))
  refine s_ld (v := .string nB) (Try.isAgg9 _) (by simpa using hc0) (pG_yes rfl (s_eqs ?_))
  rw [show decide (nB = ByteArray.mk #[98]) = true from by decide]
  refine s_pick_t (pG_yes rfl (pG_yes rfl ?_))
  refine s_ix (i := 0) usl37 (sze37 _) (by decide) (by decide) (pG_yes rfl (fa52_1 (pG_yes rfl ?_)))
  refine s_ld (v := df) (Try.isAgg30 _) (by simpa using hc1) (pG_yes rfl (s_conv_str hdf (by decide) (pG_yes rfl (s_eqs ?_))))
  rw [show decide ((⟨([(nB, [120, 121, 122, 49])] : List (ByteArray × Bytes))[0].2.toArray⟩ : ByteArray) = ByteArray.mk #[120, 121, 122, 49]) = true from by decide]
  have ge : DRep we (w.heap.size + 2) K8 Od Id Ld := gd.fr fe fun b hb => hb.elim
  refine s_pick_t (pG_yes rfl (pG_yes rfl ?_))
  refine c_remove ge ok8 nA small fun wf Of If Lf hf => ?_
  rw [e4]
  refine pG_yes rfl (c_num _ (pG_yes rfl (s_eqi_t rfl (s_pick_t (pG_yes rfl (pG_yes rfl ?_))))))
  have ok9 : (K8.remove nA).2.Ok 8 := ok8.remove (by decide) nA
  refine c_used hf.rep ok9.room.1 (by rw [e5]; decide) fun wg fg => ?_
  rw [e5]
  refine pG_yes rfl (s_eqi_t rfl (s_pick_t ?_))
  refine hk wg ?_
  have n1 := no_up f1 (Nat.le_refl _)
  have n2 := h2.up (n := w.heap.size) (fun b hb => hb.1) n1.2
  have n3 := no_up f3 n2.2.2
  have n4 := h4.up n2.1 n3.2
  have n5 := h5.up n4.1 n4.2.2
  have n6 := h6.up n5.1 n5.2.2
  have n7 := no_up f7 n6.2.2
  have n8 := h8.up n6.1 n7.2
  have n9 := h9.up n8.1 n8.2.2
  have na := ha.up n9.1 n9.2.2
  have nb := no_up fb na.2.2
  have nc := no_up fc nb.2
  have nd := hd.up na.1 nc.2
  have ne := no_up fe nd.2.2
  have nf := hf.up nd.1 ne.2
  have ng := no_up fg nf.2.2
  have all := up_trans (up_trans (up_trans (up_trans (up_trans (up_trans (up_trans (up_trans (up_trans (up_trans (up_trans (up_trans (up_trans (up_trans (up_trans n1.1 n2.2.1) n3.1) n4.2.1) n5.2.1) n6.2.1) n7.1) n8.2.1) n9.2.1) na.2.1) nb.1) nc.1) nd.2.1) ne.1) nf.2.1) ng.1
  exact all.mono fun b hb => .inr hb
end
end Go.Proofs.Ytcdcojpfealppaa
