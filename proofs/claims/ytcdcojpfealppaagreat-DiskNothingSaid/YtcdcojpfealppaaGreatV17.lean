/- Put together by a program (wip/tools/shake.py): Nothing2. -/
import Derived.Test.YtcdcojpfealppaaGreatV16
set_option linter.unusedVariables false
set_option linter.unusedSimpArgs false
set_option maxRecDepth 100000
namespace Go.Proofs.YtcdcojpfealppaaGreat
open Go Go.Proofs Go.RowKit Go.Proofs.XRed Go.Proofs.XHeap Go.Proofs.XMaps Go.Proofs.XSlices Go.Proofs.XDisk Go.Proofs.XCalls Go.Proofs.XSep Tryz
section
variable {w w0 : World} {k : Value → World → Prop}
variable {W : World} {xb Pb K c : Nat} {dp ep : Option Addr} {bv pv : Value} {bb : Bytes} {pp : List Int} {l : List Asrt}
abbrev PairAtN (Pb : Nat) (dp ep : Option Addr) (K : Nat) (w : World) : Prop := w.heap[Pb]? = some (.cells #[.pointer dp, .pointer ep, ptr K] 33 (0, 0))
theorem gN_disk {rest : Value → Prop} (h : rest (.pointer dp)) : pGq (.bool true) true (fun k => k (ptr Pb)) fun a => pGq (.bool true) true (fun k => pq P (PairAtN Pb dp ep K) (nilSem a) k) fun b => pGq (.bool true) true (fun k => pq P (PairAtN Pb dp ep K) (Instr.fieldAt 33 b 0) k) fun c => pGq (.bool true) true (fun k => pq P (PairAtN Pb dp ep K) (Instr.loadAt 29 c) k) rest :=
 pGq_yes rfl (pGq_yes rfl (q_of _ (fun w_ hS => s_nil ⟨rfl, rfl⟩) (pGq_yes rfl (q_of _ (fun w_ hS => fa33_0 ⟨rfl, rfl⟩) (pGq_yes rfl (q_of (.pointer dp) (fun w_ hS => s_ldb (isAgg29 _) hS rfl ⟨rfl, rfl⟩) h))))))
theorem gN_ref {rest : Value → Prop} (h : rest (.pointer ep)) : pGq (.bool true) true (fun k => k (ptr Pb)) fun a => pGq (.bool true) true (fun k => pq P (PairAtN Pb dp ep K) (nilSem a) k) fun b => pGq (.bool true) true (fun k => pq P (PairAtN Pb dp ep K) (Instr.fieldAt 33 b 1) k) fun c => pGq (.bool true) true (fun k => pq P (PairAtN Pb dp ep K) (Instr.loadAt 30 c) k) rest :=
 pGq_yes rfl (pGq_yes rfl (q_of _ (fun w_ hS => s_nil ⟨rfl, rfl⟩) (pGq_yes rfl (q_of _ (fun w_ hS => fa33_1 ⟨rfl, rfl⟩) (pGq_yes rfl (q_of (.pointer ep) (fun w_ hS => s_ldb (isAgg30 _) hS rfl ⟨rfl, rfl⟩) h))))))
theorem PairAtN.of {l : List Asrt} (h : Sep (Cells Pb #[.pointer dp, .pointer ep, ptr K] 33 :: l) w) : PairAtN Pb dp ep K w := h.cells 0 rfl
set_option maxHeartbeats 1000000 in
theorem nst_stands (hS : Sep (PairN Pb dp ep K bv pv bb pp l) w) (hk : ∀ w', Sep (PairN Pb dp ep K bv pv bb pp l) w' → k (.bool true) w') : pFn P 19 [ptr Pb] w k := by
 refine F19_in _ _ _ ?_
 unfold F19_0
 replace hS := hS.q (Fr.drew _ _)
 refine ⟨PairAtN Pb dp ep K, .of hS, ?_⟩
 refine q_of _ (fun w_ hS => s_nil ⟨rfl, rfl⟩) (q_of _ (fun w_ hS => fa33_0 ⟨rfl, rfl⟩) (q_of (.pointer dp) (fun w_ hS => s_ldb (isAgg29 _) hS rfl ⟨rfl, rfl⟩) ?_))
 refine q_of _ (fun w_ hS => s_nil ⟨rfl, rfl⟩) (q_of _ (fun w_ hS => fa33_1 ⟨rfl, rfl⟩) (q_of (.pointer ep) (fun w_ hS => s_ldb (isAgg30 _) hS rfl ⟨rfl, rfl⟩) ?_))
 refine n_off (Sep.nd hS 1 rfl) ⟨.of hS, ?_⟩
 refine nr_off (Sep.nr hS 2 rfl) ⟨.of hS, q_of (.bool true) (fun w_ hS => s_eqb rfl ⟨rfl, rfl⟩) ?_⟩
 refine gN_disk (gN_ref ?_)
 refine pG_yes rfl (n_strokes (Sep.nd hS 1 rfl) ⟨.of hS, ?_⟩)
 refine pG_yes rfl (nr_strokes (Sep.nr hS 2 rfl) ⟨.of hS, pGq_yes rfl (q_of (.bool true) (fun w_ hS => s_eqi_t rfl ⟨rfl, rfl⟩) (q_of (.bool true) (fun w_ hS => s_pick_t ⟨rfl, rfl⟩) ?_))⟩)
 refine gN_disk (gN_ref ?_)
 refine pG_yes rfl (n_used (Sep.nd hS 1 rfl) ⟨.of hS, ?_⟩)
 refine pG_yes rfl (nr_used (Sep.nr hS 2 rfl) ⟨.of hS, pGq_yes rfl (q_of (.bool true) (fun w_ hS => s_eqi_t rfl ⟨rfl, rfl⟩) (q_of (.bool true) (fun w_ hS => s_pick_t ⟨rfl, rfl⟩) ?_))⟩)
 refine gN_disk (gN_ref ?_)
 refine pG_yes rfl (n_room (Sep.nd hS 1 rfl) ⟨.of hS, ?_⟩)
 refine pG_yes rfl (nr_room (Sep.nr hS 2 rfl) ⟨.of hS, pGq_yes rfl (q_of (.bool true) (fun w_ hS => s_eqi_t rfl ⟨rfl, rfl⟩) (q_of (.bool true) (fun w_ hS => s_pick_t ⟨rfl, rfl⟩) ?_))⟩)
 refine gN_disk (gN_ref ?_)
 refine pG_yes rfl (n_files (Sep.nd hS 1 rfl) ⟨.of hS, ?_⟩)
 refine pG_yes rfl (nr_files (Sep.nr hS 2 rfl) ⟨.of hS, pG_yes rfl (c_filesEq (B1 := 0) (B2 := 0) (x := []) (y := []) FilesV.none FilesV.none (by simp) (by simp) fun w2 f2 => ?_)⟩)
 rw [decide_eq_true rfl]
 replace hS := hS.q f2
 refine ⟨.of hS, q_of (.bool true) (fun w_ hS => s_pick_t ⟨rfl, rfl⟩) ?_⟩
 refine gN_disk (gN_ref ?_)
 refine pG_yes rfl (n_safe (Sep.nd hS 1 rfl) ⟨.of hS, ?_⟩)
 refine pG_yes rfl (nr_safe (Sep.nr hS 2 rfl) ⟨.of hS, pG_yes rfl (c_filesEq (B1 := 0) (B2 := 0) (x := []) (y := []) FilesV.none FilesV.none (by simp) (by simp) fun w2 f2 => ?_)⟩)
 rw [decide_eq_true rfl]
 replace hS := hS.q f2
 refine ⟨.of hS, q_of (.bool true) (fun w_ hS => s_pick_t ⟨rfl, rfl⟩) ?_⟩
 refine gN_disk (gN_ref ?_)
 refine pG_yes rfl (n_reads (Sep.nd hS 1 rfl) ⟨.of hS, ?_⟩)
 refine pG_yes rfl (nr_reads (Sep.nr hS 2 rfl) fun w3 v3 g3 f3 => ?_)
 replace hS := hS.q f3
 refine ⟨.of hS, pG_yes rfl (c_spansEq (x := []) (y := []) (Src.nil _ 3) g3 (by simp) fun b w4 f4 hb => ?_)⟩
 rw [hb.2 rfl]
 replace hS := hS.q f4
 refine ⟨.of hS, q_of (.bool true) (fun w_ hS => s_pick_t ⟨rfl, rfl⟩) ?_⟩
 refine gN_disk (gN_ref ?_)
 refine pG_yes rfl (n_list (Sep.nd hS 1 rfl) fun w5 f5 => ?_)
 replace hS := hS.q f5
 refine ⟨.of hS, ?_⟩
 refine pG_yes rfl (nr_list (Sep.nr hS 2 rfl) ⟨.of hS, pG_yes rfl (c_namesEq (x := []) (y := []) (Src.nil _ 1) (Src.nil _ 1) (by simp) fun b w6 f6 hb => ?_)⟩)
 rw [hb.2 rfl]
 replace hS := hS.q f6
 refine ⟨.of hS, q_of (.bool true) (fun w_ hS => s_pick_t ⟨rfl, rfl⟩) ?_⟩
 exact hk _ hS
structure Zero2 (W : World) (Pb Pk Zb Zk : Nat) (dp ep dz ez : Option Addr) (w : World) : Prop where
 ex : ∃ bv pv bb pp bv' pv' bb' pp', Sep (PairN Pb dp ep Pk bv pv bb pp (Base W :: PairN Zb dz ez Zk bv' pv' bb' pp' [])) w ∧ bb.length ≤ 1000000 ∧ bb'.length ≤ 1000000
variable {Pk Zb Zk : Nat} {dz ez : Option Addr}
theorem Zero2.fr (h : Zero2 W Pb Pk Zb Zk dp ep dz ez w) : Fr no W w := by
 obtain ⟨bv, pv, bb, pp, bv', pv', bb', pp', hS, _⟩ := h.ex
 exact hS.base_at 4 rfl
theorem Zero2.swap (h : Zero2 W Pb Pk Zb Zk dp ep dz ez w) : Zero2 W Zb Zk Pb Pk dz ez dp ep w := by
 obtain ⟨bv, pv, bb, pp, bv', pv', bb', pp', hS, h1, h2⟩ := h.ex
 have h3 : Sep (PairN Pb dp ep Pk bv pv bb pp [] ++ Base W :: PairN Zb dz ez Zk bv' pv' bb' pp' []) w := hS
 exact ⟨bv', pv', bb', pp', bv, pv, bb, pp, h3.perm (List.perm_middle.trans ((List.Perm.cons _ List.perm_append_comm).trans List.perm_middle.symm)), h2, h1⟩
theorem z_step {v : Value} {s : Script} {i : Nat} (h : Zero2 W Pb Pk Zb Zk dp ep dz ez w) (hv : ScriptV W v s) (hi : i < s.length) (hbd : ∀ p ∈ s, p.1.data.length ≤ 100000 ∧ p.1.picks.length ≤ 12500) (hn : s[i].1.kind ≠ 14) (hk : ∀ w', Zero2 W Pb Pk Zb Zk dp ep dz ez w' → k (.bool true) w') : pFn P 18 [ptr Pb, stepVal s[i].1 s[i].2.1 s[i].2.2] w k := by
 obtain ⟨bv, pv, bb, pp, bv', pv', bb', pp', hS, h1, h2⟩ := h.ex
 have hm : s[i] ∈ s := List.getElem_mem hi
 exact nst_step hS (hv.all _ hm) (hbd _ hm).1 (by have := (hbd _ hm).2; omega) h1 (fun w' _ _ _ _ hS' hb => hk w' ⟨_, _, _, _, _, _, _, _, hS', hb, h2⟩) hn
theorem z_stands (h : Zero2 W Pb Pk Zb Zk dp ep dz ez w) (hk : ∀ w', Zero2 W Pb Pk Zb Zk dp ep dz ez w' → k (.bool true) w') : pFn P 19 [ptr Pb] w k := by
 obtain ⟨bv, pv, bb, pp, bv', pv', bb', pp', hS, h1, h2⟩ := h.ex
 exact nst_stands hS fun w' hS' => hk w' ⟨_, _, _, _, _, _, _, _, hS', h1, h2⟩
theorem Zero2.q {w' : World} (h : Zero2 W Pb Pk Zb Zk dp ep dz ez w) (hf : Fr no w w') : Zero2 W Pb Pk Zb Zk dp ep dz ez w' := by
 obtain ⟨bv, pv, bb, pp, bv', pv', bb', pp', hS, h1, h2⟩ := h.ex
 exact ⟨_, _, _, _, _, _, _, _, hS.q hf, h1, h2⟩
theorem s_stepF {v : Value} {s : Script} {i : Nat} (h : ScriptV w v s) (hi : i < s.length) {want : Bool} {kk : Value → Value → World → Prop} (hk : ∀ p, kk p (stepVal s[i].1 s[i].2.1 s[i].2.2) w) :
    pG (.bool want) want (fun k => px P (Instr.indexAt 22 v (i64 i)) w k) (fun p w => pG (.bool want) want (fun k => px P (Instr.loadAt 41 p) w k) (kk p) w) w := by
  obtain ⟨b, o, c, ev, hc⟩ := h.at_ hi
  rw [ev]
  refine pG_yes rfl (s_ix (i := (i : Int)) usl22 (sze22 _) (by omega) (by omega) (pG_yes rfl ?_))
  exact px_ok (run_ldStep (x := s[i].1) (dv := s[i].2.1) (pv := s[i].2.2) (fun j u hj => by have := hc j u hj; simpa using this)) (hk _)
set_option maxHeartbeats 1000000 in
theorem w_nothing1 {v : Value} {s : Script} (hv : ScriptV W v s) (hl : s.length ≤ 300) (hbd : ∀ p ∈ s, p.1.data.length ≤ 100000 ∧ p.1.picks.length ≤ 12500) (hk : ∀ w', Fr no W w' → k (.bool true) w')
    {ρ : Env} {w : World} (e0 : ρ 0 = v) (e3 : ρ 3 = ptr Pb) (e4 : ρ 4 = ptr Zb) (e5 : ρ 5 = i64 0) (h : Zero2 W Pb Pk Zb Zk dp ep dz ez w) : F11L1 k ρ w := by
  refine F11L1_inv (m := s.length) k (fun m ρ w => ∃ i : Nat, i + m = s.length ∧ ρ 0 = v ∧ ρ 3 = ptr Pb ∧ ρ 4 = ptr Zb ∧ ρ 5 = i64 i ∧ Zero2 W Pb Pk Zb Zk dp ep dz ez w) ?_
    ⟨0, by omega, e0, e3, e4, e5, h⟩
  rintro m ρ w ⟨i, him, e0, e3, e4, e5, h⟩
  rw [F11_1_eq]
  unfold F11_1
  have hvw := hv.fr h.fr
  rw [e0, e3, e4, e5]
  refine s_lenS usl22 hvw.src ?_
  by_cases hi : i < s.length
  · refine s_lt_t (by omega) (pC_true ?_)
    have go : ∀ (ρ2 : Env) (w2 : World), ρ2 0 = v → ρ2 3 = ptr Pb → ρ2 4 = ptr Zb → ρ2 5 = i64 i → Zero2 W Pb Pk Zb Zk dp ep dz ez w2 → F11A1 k (fun ρ' w' => ∃ m', m' < m ∧ ∃ i : Nat, i + m' = s.length ∧ ρ' 0 = v ∧ ρ' 3 = ptr Pb ∧ ρ' 4 = ptr Zb ∧ ρ' 5 = i64 i ∧ Zero2 W Pb Pk Zb Zk dp ep dz ez w') [1, 1] ρ2 w2 := by
      intro ρ2 w2 g0 g3 g4 g5 h2
      rw [F11_2_eq]
      unfold F11_2
      rw [g5]
      refine s_add_in (by omega) ⟨m - 1, by omega, i + 1, by omega, g0, g3, g4, ?_, h2⟩
      show i64 _ = i64 _; simp
    obtain ⟨b, o, c, ev, hc⟩ := hvw.at_ hi
    have hcw : (w.cell? ⟨b, o + i * 10, none⟩) = some (i64 s[i].1.kind) := hc 0 _ rfl
    have hsv := hvw
    rw [ev]
    refine s_ix (i := (i : Int)) usl22 (sze22 _) (by omega) (by omega) ?_
    rw [← ev]
    refine fa41_0 (s_ld (v := i64 s[i].1.kind) (isAgg3 _) (by simpa using hcw) ?_)
    by_cases hk14 : s[i].1.kind = 14
    · refine s_eqi_t hk14 (pC_true ?_)
      obtain ⟨bv, pv, bb, pp, bv', pv', bb', pp', hS, h1, h2⟩ := id h
      refine s_nil (fa33_0 (s_ldb (v := .pointer dp) (isAgg29 _) (hS.cells 0 rfl) rfl ?_))
      refine n_twin (Sep.nd hS 1 rfl) fun w2 b2 hb2 f2 => ?_
      have hS2 := hS.q f2
      refine s_nil (fa33_0 (s_ldb (v := .pointer dz) (isAgg29 _) (hS2.cells 5 rfl) rfl ?_))
      refine n_twin (Sep.nd hS2 6 rfl) fun w3 b3 hb3 f3 => ?_
      have hb2' := hb2.fr f3
      unfold ptr
      refine s_eqpn upt29 (pG_yes rfl (pG_yes rfl (s_eqpn upt29 (s_pick_f (pG_yes rfl (pG_yes rfl (n_off hb2' (pG_yes rfl (s_not (s_pick_f (pG_yes rfl (pG_yes rfl (n_off hb3 (pG_yes rfl (s_not (s_pick_f (pG_yes rfl (pG_yes rfl (n_room hb2' (pG_yes rfl (s_nei_f rfl (s_pick_f (pC_false ?_)))))))))))))))))))))))
      exact go _ _ e0 e3 e4 e5 ((h.q f2).q f3)
    · refine s_eqi_f hk14 (pC_false ?_)
      refine s_step hsv hi fun p => ?_
      refine z_step h hv hi hbd hk14 fun w2 h2 => ?_
      have hv2 := hv.fr h2.fr
      refine s_not (pG_yes rfl (pG_yes rfl (pG_yes rfl (s_stepF hv2 hi fun p => pG_yes rfl ?_))))
      refine z_step h2.swap hv hi hbd hk14 fun w3 h3 => ?_
      refine pG_yes rfl (s_not (s_pick_f (pG_yes rfl (pG_yes rfl ?_))))
      refine z_stands h3.swap fun w4 h4 => pG_yes rfl (s_not (s_pick_f (pG_yes rfl (pG_yes rfl ?_))))
      refine z_stands h4.swap fun w5 h5 => pG_yes rfl (s_not (s_pick_f (pC_false ?_)))
      exact go _ _ e0 e3 e4 e5 h5.swap
  · refine s_lt_f (by omega) (pC_false ?_)
    rw [F11_3_eq]
    unfold F11_3
    show pFn P _ [ρ 3] _ _
    rw [e3]
    refine z_stands h fun w2 h2 => pG_yes rfl (pG_yes rfl ?_)
    show pFn P _ [ρ 4] _ _
    rw [e4]
    exact z_stands h2.swap fun w3 h3 => s_pick_t (pG_yes rfl (c_known sortsKeys fun w4 f4 => s_pick_t (hk w4 (h3.fr.trans f4 fun b hb => hb.elim))))
set_option maxHeartbeats 1000000 in
theorem w_nothing {v : Value} {s : Script} (hv : ScriptV W v s) (hk : ∀ w', Fr no W w' → k (.bool true) w') : pFn P 11 [v] W k := by
 refine F11_in _ _ _ ?_
 unfold F11_0
 refine c_long hv fun b w1 f1 hb => ?_
 cases b with
 | true => exact pC_true (hk w1 f1)
 | false =>
  obtain ⟨hl, hbd⟩ := hb rfl
  refine pC_false ?_
  have hS0 : Sep [Base W] w1 := (Sep.base W).q f1
  refine px_ok (w' := w1) (v := .agg #[.slice none 0 0, .slice none 0 0]) (by kernel_rfl) (s_box ?_)
  rw [show Value.cells (.agg #[.slice none 0 0, .slice none 0 0]) = #[.slice none 0 0, .slice none 0 0] from rfl]
  have hS1 : Sep [DeskA w1.heap.size (.slice none 0 0) (.slice none 0 0) [] [], Base W] (w1.alloc (.cells #[.slice none 0 0, .slice none 0 0] 51)) := hS0.new (Fr.alloc no w1 _) (fun b hb => hb.elim) (DeskA.none (alloc_new _ _)) (fun b hb => by omega) fun b hb => hb.elim
  generalize w1.heap.size = Pk at *
  generalize w1.alloc (.cells #[.slice none 0 0, .slice none 0 0] 51) = w2 at *
  refine px_ok (w' := w2) (v := .agg #[.pointer none, .pointer none, ptr Pk]) (by kernel_rfl) (s_box ?_)
  rw [show Value.cells (.agg #[.pointer none, .pointer none, ptr Pk]) = #[.pointer none, .pointer none, ptr Pk] from rfl]
  have hS2 := hS1.cell #[.pointer none, .pointer none, ptr Pk] 33
  generalize w2.heap.size = Pb at *
  generalize w2.alloc (.cells #[.pointer none, .pointer none, ptr Pk] 33) = w3 at *
  refine px_ok (w' := w3) (v := zDisk) (by kernel_rfl) (s_box ?_)
  have hS3 : Sep [ND (some ⟨w3.heap.size, 0, none⟩), Cells Pb #[.pointer none, .pointer none, ptr Pk] 33, DeskA Pk (.slice none 0 0) (.slice none 0 0) [] [], Base W] (w3.alloc (.cells zDisk.cells 58)) :=
   hS2.new (O' := fun x => x = w3.heap.size) (I' := fun _ => False) (Fr.alloc no w3 _) (fun b hb => hb.elim) ⟨.inr ⟨_, _, rfl, alloc_new _ _, rfl⟩, fun x => ⟨fun h => by rw [h], fun h => by injection h with h; injection h with h; exact h.symm⟩, fun _ h => h⟩ (fun b hb => by omega) fun b hb => hb.elim
  generalize w3.heap.size = Db at *
  generalize w3.alloc (.cells zDisk.cells 58) = w4 at *
  refine px_ok (w' := w4) (v := .agg zR) (by kernel_rfl) (s_box ?_)
  have hS4 : Sep [NR (some ⟨w4.heap.size, 0, none⟩), ND (some ⟨Db, 0, none⟩), Cells Pb #[.pointer none, .pointer none, ptr Pk] 33, DeskA Pk (.slice none 0 0) (.slice none 0 0) [] [], Base W] (w4.alloc (.cells (Value.cells (.agg zR)) 62)) :=
   hS3.new (O' := fun x => x = w4.heap.size) (I' := fun _ => False) (Fr.alloc no w4 _) (fun b hb => hb.elim) ⟨.inr ⟨_, rfl, alloc_new _ _⟩, fun x => ⟨fun h => by rw [h], fun h => by injection h with h; injection h with h; exact h.symm⟩, fun _ h => h⟩ (fun b hb => by omega) fun b hb => hb.elim
  generalize w4.heap.size = Eb at *
  generalize w4.alloc (.cells (Value.cells (.agg zR)) 62) = w5 at *
  refine px_ok (w' := w5) (v := .agg #[.slice none 0 0, .slice none 0 0]) (by kernel_rfl) (s_box ?_)
  rw [show Value.cells (.agg #[.slice none 0 0, .slice none 0 0]) = #[.slice none 0 0, .slice none 0 0] from rfl]
  have hS5 := hS4.new (Fr.alloc no w5 (.cells #[.slice none 0 0, .slice none 0 0] 51)) (fun b hb => hb.elim) (DeskA.none (alloc_new _ _)) (fun b hb => by omega) fun b hb => hb.elim
  generalize w5.heap.size = Zk at *
  generalize w5.alloc (.cells #[.slice none 0 0, .slice none 0 0] 51) = w6 at *
  refine px_ok (w' := w6) (v := .agg #[ptr Db, ptr Eb, ptr Zk]) (by kernel_rfl) (s_box ?_)
  rw [show Value.cells (.agg #[ptr Db, ptr Eb, ptr Zk]) = #[ptr Db, ptr Eb, ptr Zk] from rfl]
  have hS6 := hS5.cell #[ptr Db, ptr Eb, ptr Zk] 33
  have hS7 : Sep [Cells w6.heap.size #[ptr Db, ptr Eb, ptr Zk] 33, DeskA Zk (.slice none 0 0) (.slice none 0 0) [] [], NR (some ⟨Eb, 0, none⟩), ND (some ⟨Db, 0, none⟩), Cells Pb #[.pointer none, .pointer none, ptr Pk] 33, DeskA Pk (.slice none 0 0) (.slice none 0 0) [] [], Base W, ND none, NR none] (w6.alloc (.cells #[ptr Db, ptr Eb, ptr Zk] 33)) := by
   have ha : Sep (NR none :: ND none :: _) _ := (hS6.new (a := ND none) (O' := fun _ => False) (I' := fun _ => False) (Fr.refl no _) (fun b hb => hb.elim) ⟨.inl rfl, fun x => ⟨fun h => h.elim, fun h => by cases h⟩, fun _ h => h⟩ (fun b hb => hb.elim) fun b hb => hb.elim).new (a := NR none) (O' := fun _ => False) (I' := fun _ => False) (Fr.refl no _) (fun b hb => hb.elim) ⟨.inl rfl, fun x => ⟨fun h => h.elim, fun h => by cases h⟩, fun _ h => h⟩ (fun b hb => hb.elim) fun b hb => hb.elim
   have hb := (ha.front 1 rfl).perm (List.perm_append_comm (l₁ := [ND none, NR none]))
   exact hb
  have g1 := hS7.front 1 rfl
  have g2 := g1.front 2 rfl
  have g3 := g2.front 3 rfl
  have g4 := g3.front 3 rfl
  have g5 := g4.front 6 rfl
  have g6 := g5.front 6 rfl
  have g7 := g6.front 8 rfl
  have g8 := g7.front 8 rfl
  have g9 := g8.front 8 rfl
  exact w_nothing1 hv hl hbd hk rfl rfl rfl rfl ⟨_, _, _, _, _, _, _, _, g9, by simp, by simp⟩
end
end Go.Proofs.YtcdcojpfealppaaGreat
