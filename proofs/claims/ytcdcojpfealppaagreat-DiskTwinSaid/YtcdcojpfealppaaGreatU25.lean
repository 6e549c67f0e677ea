/- Put together by a program (wip/tools/shake.py): Pair2, Pair3, NmEq, Pair4, Pair5, Pair6, XBig. -/
import Derived.Test.YtcdcojpfealppaaGreatU24
import Derived.Test.YtcdcojpfealppaaGreatU15
import Derived.Test.YtcdcojpfealppaaGreatU14
import Derived.Test.YtcdcojpfealppaaGreatU3
import Derived.Sort.Walk0
import Derived.Test.YtcdcojpfealppaaGreatU1
set_option linter.unusedVariables false
set_option linter.unusedSimpArgs false
set_option maxRecDepth 100000
namespace Go.Proofs.YtcdcojpfealppaaGreat
open Go Go.Proofs Go.RowKit Go.Proofs.XRed Go.Proofs.XHeap Go.Proofs.XMaps Go.Proofs.XSlices Go.Proofs.XDisk Go.Proofs.XCalls Go.Proofs.XSep Tryz
section
variable {w w0 : World} {k : Value → World → Prop}
variable {W : World} {xb Pb D E K c : Nat} {x : StepA} {dv pv' bv pv : Value} {S T : AD} {bb : Bytes} {pp : List Int} {l : List Asrt}
theorem st_laid {n : Nat} (hS : Sep (StepL xb x dv pv' Pb D E K S T bv pv (x.data ++ List.replicate n 171) pp (Base W :: l)) w) (hv : StepV W x dv pv') (hd : x.data.length ≤ 100000) (hn : x.data.length + n ≤ 1099511627776)
    (hk : ∀ w' bv' m, Sep (StepL xb x dv pv' Pb D E K S T bv' pv (List.replicate m 171) pp (Base W :: l)) w' → m ≤ max (x.data.length + n) 40 → k (.bool true) w') : pFn P 65 [ptr Pb, stepVal x dv pv'] w k := by
  obtain ⟨Ad, cd, ed, _⟩ := hv.data.form
  refine F65_in _ _ _ _ ?_
  unfold F65_0
  refine s_box ?_
  have hS1 : Sep (Cells w.heap.size (stepCells x dv pv').toArray 41 :: StepL xb x dv pv' Pb D E K S T bv pv (x.data ++ List.replicate n 171) pp (Base W :: l)) (w.alloc (.cells (stepCells x dv pv').toArray 41)) := hS.cell _ _
  rw [show (stepVal x dv pv').cells = (stepCells x dv pv').toArray from rfl]
  generalize w.alloc (.cells (stepCells x dv pv').toArray 41) = w1 at *
  generalize w.heap.size = x2 at *
  have hS1 := hS1.q (Fr.drew _ _)
  refine ⟨fun u => u.heap[x2]? = some (.cells (stepCells x dv pv').toArray 41 (0, 0)) ∧ u.heap[Pb]? = some (.cells #[ptr D, ptr E, ptr K] 33 (0, 0)), ⟨hS1.cells 0 rfl, hS1.cells 2 rfl⟩, ?_⟩
  refine q_of _ (fun w_ hS => s_nil ⟨rfl, rfl⟩) (q_of _ (fun w_ hS => fa33_2 ⟨rfl, rfl⟩) (q_of (ptr K) (fun w_ hS => s_ldb (isAgg31 _) hS.2 rfl ⟨rfl, rfl⟩) ?_))
  refine q_of _ (fun w_ hS => fa41_5 ⟨rfl, rfl⟩) (q_of dv (fun w_ hS => s_ldb (isAgg36 _) hS.1 rfl ⟨rfl, rfl⟩) ?_)
  obtain ⟨O, I, ⟨h1, h2, _⟩⟩ := hS1.get 5 rfl
  have hdw := (hv.fr (hS1.base_at 6 rfl)).data
  refine c_lies (n := n) h1 (by simpa using h2) hdw hn fun w3 f3 => ?_
  have hS3 := hS1.q f3
  refine ⟨⟨hS3.cells 0 rfl, hS3.cells 2 rfl⟩, ?_⟩
  refine s_nil (fa33_2 (s_ldb (v := ptr K) (isAgg31 _) (hS3.cells 2 rfl) rfl ?_))
  refine s_lay (d := []) hS3 (i := 5) (j := 6) (by decide) rfl rfl (SBytes.nil W) (by simp; omega) (by simp) fun w4 bv' v m hS4 hm _ _ => ?_
  have hS5 : Sep (Cells x2 (stepCells x dv pv').toArray 41 :: StepL xb x dv pv' Pb D E K S T bv' pv (List.replicate m 171) pp (Base W :: l)) w4 := hS4
  exact hk w4 bv' m hS5.drop (by simpa using hm)
theorem s_ldStep {a : Nat} {w : World} {k : Value → World → Prop} (ha : w.heap[a]? = some (.cells (stepCells x dv pv').toArray 41 (0, 0))) (hk : k (stepVal x dv pv') w) : px P (Instr.loadAt 41 (ptr a)) w k :=
 s_ldAgg (m := 10) (isAgg41 _) (sizeOf41 _) ha (by show 0 + 10 ≤ 10; decide) hk
set_option maxHeartbeats 1000000 in
theorem st_writeAt {o1 o2 : Operand} (hS : Sep (StepL xb x dv pv' Pb D E K S S bv pv bb pp (Base W :: l)) w) (ok : S.Ok c) (hv : StepV W x dv pv') (hd : x.data.length ≤ 100000) (hbb : bb.length ≤ 1000000)
    (hk : ∀ w' bv' bb', Sep (StepL xb x dv pv' Pb D E K (S.writeAt x.name x.at_ x.data).2 (S.writeAt x.name x.at_ x.data).2 bv' pv bb' pp (Base W :: l)) w' → bb'.length ≤ 1000000 → k (.bool true) w') :
    ∃ S_ : World → Prop, S_ w.drew ∧ (fun w =>
      pq P S_ (nilSem (ptr Pb)) fun v28 =>
      pq P S_ (Instr.fieldAt 33 v28 0) fun v29 =>
      pq P S_ (Instr.loadAt 29 v29) fun v30 =>
      pq P S_ (Instr.fieldAt 41 (ptr xb) 1) fun v31 =>
      pq P S_ (Instr.loadAt 9 v31) fun v32 =>
      pq P S_ (Instr.fieldAt 41 (ptr xb) 3) fun v33 =>
      pq P S_ (Instr.loadAt 3 v33) fun v34 =>
      pq P S_ (nilSem (ptr Pb)) fun v36 =>
      pq P S_ (Instr.fieldAt 33 v36 2) fun v37 =>
      pq P S_ (Instr.loadAt 31 v37) fun v38 =>
      pq P S_ (Instr.fieldAt 41 (ptr xb) 5) fun v39 =>
      pq P S_ (Instr.loadAt 36 v39) fun v40 =>
      pq P S_ (nilSem (ptr Pb)) fun v45 =>
      pq P S_ (Instr.fieldAt 33 v45 1) fun v46 =>
      pq P S_ (Instr.loadAt 30 v46) fun v47 =>
      pq P S_ (Instr.fieldAt 41 (ptr xb) 1) fun v48 =>
      pq P S_ (Instr.loadAt 9 v48) fun v49 =>
      pq P S_ (Instr.fieldAt 41 (ptr xb) 3) fun v50 =>
      pq P S_ (Instr.loadAt 3 v50) fun v51 =>
      pq P S_ (Instr.fieldAt 41 (ptr xb) 5) fun v52 =>
      pq P S_ (Instr.loadAt 36 v52) fun v53 =>
      pFn P 63 [v38, v40] w fun v41 w => S_ w ∧ (
      pFn P 62 [v30, v32, v34, v41] w fun v42 w => S_ w ∧ (
      pFn P 20 [v42] w fun v43 w => S_ w ∧ (
      pFn P 64 [v47, v49, v51, v53] w fun v54 w => S_ w ∧ (
      pq P S_ (binSem BinOp.eql 3 o1 o2 v43 v54) fun v55 =>
      pGq v55 true (fun k => k (ptr Pb)) (next := fun v57 =>
      pGq v55 true (fun k => pq P S_ (Instr.loadAt 41 (ptr xb)) k) (next := fun v58 =>
      pG v55 true (fun k => pFn P 65 [v57, v58] w k) (w := w) (next := fun v59 w => S_ w ∧ (
      pq P S_ (pickSem v55 v59 (.bool false)) fun v60 =>
      k v60 w))))))))) w.drew := by
  have hS := hS.q (Fr.drew _ _)
  refine ⟨Seen xb x dv pv' Pb D E K, seen hS, ?_⟩
  refine q_of _ (fun w_ hS => s_nil ⟨rfl, rfl⟩) (q_of _ (fun w_ hS => fa33_0 ⟨rfl, rfl⟩) (q_of (ptr D) (fun w_ hS => s_ldb (isAgg29 _) hS.2 rfl ⟨rfl, rfl⟩) ?_))
  refine q_of _ (fun w_ hS => fa41_1 ⟨rfl, rfl⟩) (q_of (.string x.name) (fun w_ hS => s_ldb (isAgg9 _) hS.1 rfl ⟨rfl, rfl⟩) ?_)
  refine q_of _ (fun w_ hS => fa41_3 ⟨rfl, rfl⟩) (q_of (i64 x.at_) (fun w_ hS => s_ldb (isAgg3 _) hS.1 rfl ⟨rfl, rfl⟩) ?_)
  refine q_of _ (fun w_ hS => s_nil ⟨rfl, rfl⟩) (q_of _ (fun w_ hS => fa33_2 ⟨rfl, rfl⟩) (q_of (ptr K) (fun w_ hS => s_ldb (isAgg31 _) hS.2 rfl ⟨rfl, rfl⟩) ?_))
  refine q_of _ (fun w_ hS => fa41_5 ⟨rfl, rfl⟩) (q_of dv (fun w_ hS => s_ldb (isAgg36 _) hS.1 rfl ⟨rfl, rfl⟩) ?_)
  refine q_of _ (fun w_ hS => s_nil ⟨rfl, rfl⟩) (q_of _ (fun w_ hS => fa33_1 ⟨rfl, rfl⟩) (q_of (ptr E) (fun w_ hS => s_ldb (isAgg30 _) hS.2 rfl ⟨rfl, rfl⟩) ?_))
  refine q_of _ (fun w_ hS => fa41_1 ⟨rfl, rfl⟩) (q_of (.string x.name) (fun w_ hS => s_ldb (isAgg9 _) hS.1 rfl ⟨rfl, rfl⟩) ?_)
  refine q_of _ (fun w_ hS => fa41_3 ⟨rfl, rfl⟩) (q_of (i64 x.at_) (fun w_ hS => s_ldb (isAgg3 _) hS.1 rfl ⟨rfl, rfl⟩) ?_)
  refine q_of _ (fun w_ hS => fa41_5 ⟨rfl, rfl⟩) (q_of dv (fun w_ hS => s_ldb (isAgg36 _) hS.1 rfl ⟨rfl, rfl⟩) ?_)
  refine s_lay hS (i := 4) (j := 5) (by decide) rfl rfl hv.data (by omega) (by omega) fun w1 bv1 v n hS1 hlen hv1 hvb => ?_
  replace hS1 : Sep (StepL xb x dv pv' Pb D E K S S bv1 pv (x.data ++ List.replicate n 171) pp (Base W :: l)) w1 := hS1
  refine ⟨seen hS1, ?_⟩
  obtain ⟨O, I, O2, I2, J, ⟨L, hdr⟩, ⟨_, _, _, hO2, _⟩, g1, g2, g3, g4, nx⟩ := hS1.at2 2 4 (by decide) rfl rfl
  refine c_writeAt hdr ok x.name (one_small hv.name) x.at_ hv1 (fun b hb ho => (g1 b ho).1 ((hO2 b).2 (.inr (.inl (hvb b hb))))) (by omega) fun w2 O' I' L' hx => ?_
  have hS2 : Sep (StepL xb x dv pv' Pb D E K (S.writeAt x.name x.at_ x.data).2 S bv1 pv (x.data ++ List.replicate n 171) pp (Base W :: l)) w2 := nx _ w2 O' I' ⟨L', hx.rep⟩ (hx.nxt g3)
  refine ⟨seen hS2, c_num _ ⟨seen hS2, ?_⟩⟩
  obtain ⟨O, I, L, hr, hlow, nr⟩ := ref_low hS2 3 5 (by decide) rfl rfl
  have hdw := (hv.fr (hS2.base_at 5 rfl)).data
  refine r_writeAt hr ok x.name x.at_ hv.at_ hdw (fun h0 b hb ho => by have := data_low hv.data h0 b hb; have := hlow b ho; omega) (by omega) fun w3 O3 I3 L3 hx3 => ?_
  have hS3 : Sep (StepL xb x dv pv' Pb D E K (S.writeAt x.name x.at_ x.data).2 (S.writeAt x.name x.at_ x.data).2 bv1 pv (x.data ++ List.replicate n 171) pp (Base W :: l)) w3 := nr _ _ _ _ _ hx3
  refine ⟨seen hS3, q_of (.bool true) (fun w_ hS => s_eqi_t rfl ⟨rfl, rfl⟩) (pGq_yes rfl (pGq_yes rfl ?_))⟩
  refine q_of (stepVal x dv pv') (fun w_ hS => s_ldStep hS.1 ⟨rfl, rfl⟩) (pG_yes rfl ?_)
  rw [List.length_append, List.length_replicate] at hlen
  refine st_laid hS3 hv hd (by omega) fun w4 bv4 m hS4 hm => ⟨seen hS4, q_of (.bool true) (fun w_ hS => s_pick_t ⟨rfl, rfl⟩) (hk w4 bv4 _ hS4 (by rw [List.length_replicate]; omega))⟩
set_option maxHeartbeats 1000000 in
theorem st_append {o1 o2 : Operand} (hS : Sep (StepL xb x dv pv' Pb D E K S S bv pv bb pp (Base W :: l)) w) (ok : S.Ok c) (hv : StepV W x dv pv') (hd : x.data.length ≤ 100000) (hbb : bb.length ≤ 1000000)
    (hk : ∀ w' bv' bb', Sep (StepL xb x dv pv' Pb D E K (S.append x.name x.data).2 (S.append x.name x.data).2 bv' pv bb' pp (Base W :: l)) w' → bb'.length ≤ 1000000 → k (.bool true) w') :
    ∃ S_ : World → Prop, S_ w.drew ∧ (fun w =>
      pq P S_ (nilSem (ptr Pb)) fun v28 =>
      pq P S_ (Instr.fieldAt 33 v28 0) fun v29 =>
      pq P S_ (Instr.loadAt 29 v29) fun v30 =>
      pq P S_ (Instr.fieldAt 41 (ptr xb) 1) fun v31 =>
      pq P S_ (Instr.loadAt 9 v31) fun v32 =>
      pq P S_ (nilSem (ptr Pb)) fun v36 =>
      pq P S_ (Instr.fieldAt 33 v36 2) fun v37 =>
      pq P S_ (Instr.loadAt 31 v37) fun v38 =>
      pq P S_ (Instr.fieldAt 41 (ptr xb) 5) fun v39 =>
      pq P S_ (Instr.loadAt 36 v39) fun v40 =>
      pq P S_ (nilSem (ptr Pb)) fun v45 =>
      pq P S_ (Instr.fieldAt 33 v45 1) fun v46 =>
      pq P S_ (Instr.loadAt 30 v46) fun v47 =>
      pq P S_ (Instr.fieldAt 41 (ptr xb) 1) fun v48 =>
      pq P S_ (Instr.loadAt 9 v48) fun v49 =>
      pq P S_ (Instr.fieldAt 41 (ptr xb) 5) fun v52 =>
      pq P S_ (Instr.loadAt 36 v52) fun v53 =>
      pFn P 63 [v38, v40] w fun v41 w => S_ w ∧ (
      pFn P 23 [v30, v32, v41] w fun v42 w => S_ w ∧ (
      pFn P 20 [v42] w fun v43 w => S_ w ∧ (
      pFn P 66 [v47, v49, v53] w fun v54 w => S_ w ∧ (
      pq P S_ (binSem BinOp.eql 3 o1 o2 v43 v54) fun v55 =>
      pGq v55 true (fun k => k (ptr Pb)) (next := fun v57 =>
      pGq v55 true (fun k => pq P S_ (Instr.loadAt 41 (ptr xb)) k) (next := fun v58 =>
      pG v55 true (fun k => pFn P 65 [v57, v58] w k) (w := w) (next := fun v59 w => S_ w ∧ (
      pq P S_ (pickSem v55 v59 (.bool false)) fun v60 =>
      k v60 w))))))))) w.drew := by
  have hS := hS.q (Fr.drew _ _)
  refine ⟨Seen xb x dv pv' Pb D E K, seen hS, ?_⟩
  refine q_of _ (fun w_ hS => s_nil ⟨rfl, rfl⟩) (q_of _ (fun w_ hS => fa33_0 ⟨rfl, rfl⟩) (q_of (ptr D) (fun w_ hS => s_ldb (isAgg29 _) hS.2 rfl ⟨rfl, rfl⟩) ?_))
  refine q_of _ (fun w_ hS => fa41_1 ⟨rfl, rfl⟩) (q_of (.string x.name) (fun w_ hS => s_ldb (isAgg9 _) hS.1 rfl ⟨rfl, rfl⟩) ?_)
  refine q_of _ (fun w_ hS => s_nil ⟨rfl, rfl⟩) (q_of _ (fun w_ hS => fa33_2 ⟨rfl, rfl⟩) (q_of (ptr K) (fun w_ hS => s_ldb (isAgg31 _) hS.2 rfl ⟨rfl, rfl⟩) ?_))
  refine q_of _ (fun w_ hS => fa41_5 ⟨rfl, rfl⟩) (q_of dv (fun w_ hS => s_ldb (isAgg36 _) hS.1 rfl ⟨rfl, rfl⟩) ?_)
  refine q_of _ (fun w_ hS => s_nil ⟨rfl, rfl⟩) (q_of _ (fun w_ hS => fa33_1 ⟨rfl, rfl⟩) (q_of (ptr E) (fun w_ hS => s_ldb (isAgg30 _) hS.2 rfl ⟨rfl, rfl⟩) ?_))
  refine q_of _ (fun w_ hS => fa41_1 ⟨rfl, rfl⟩) (q_of (.string x.name) (fun w_ hS => s_ldb (isAgg9 _) hS.1 rfl ⟨rfl, rfl⟩) ?_)
  refine q_of _ (fun w_ hS => fa41_5 ⟨rfl, rfl⟩) (q_of dv (fun w_ hS => s_ldb (isAgg36 _) hS.1 rfl ⟨rfl, rfl⟩) ?_)
  refine s_lay hS (i := 4) (j := 5) (by decide) rfl rfl hv.data (by omega) (by omega) fun w1 bv1 v n hS1 hlen hv1 hvb => ?_
  replace hS1 : Sep (StepL xb x dv pv' Pb D E K S S bv1 pv (x.data ++ List.replicate n 171) pp (Base W :: l)) w1 := hS1
  refine ⟨seen hS1, ?_⟩
  obtain ⟨O, I, O2, I2, J, ⟨L, hdr⟩, ⟨_, _, _, hO2, _⟩, g1, g2, g3, g4, nx⟩ := hS1.at2 2 4 (by decide) rfl rfl
  refine c_append hdr ok x.name (one_small hv.name) hv1 (fun b hb ho => (g1 b ho).1 ((hO2 b).2 (.inr (.inl (hvb b hb))))) (by omega) fun w2 O' I' L' hx => ?_
  have hS2 : Sep (StepL xb x dv pv' Pb D E K (S.append x.name x.data).2 S bv1 pv (x.data ++ List.replicate n 171) pp (Base W :: l)) w2 := nx _ w2 O' I' ⟨L', hx.rep⟩ (hx.nxt g3)
  refine ⟨seen hS2, c_num _ ⟨seen hS2, ?_⟩⟩
  obtain ⟨O, I, L, hr, hlow, nr⟩ := ref_low hS2 3 5 (by decide) rfl rfl
  have hdw := (hv.fr (hS2.base_at 5 rfl)).data
  refine r_append hr ok x.name hdw (fun h0 b hb ho => by have := data_low hv.data h0 b hb; have := hlow b ho; omega) (by omega) fun w3 O3 I3 L3 hx3 => ?_
  have hS3 : Sep (StepL xb x dv pv' Pb D E K (S.append x.name x.data).2 (S.append x.name x.data).2 bv1 pv (x.data ++ List.replicate n 171) pp (Base W :: l)) w3 := nr _ _ _ _ _ hx3
  refine ⟨seen hS3, q_of (.bool true) (fun w_ hS => s_eqi_t rfl ⟨rfl, rfl⟩) (pGq_yes rfl (pGq_yes rfl ?_))⟩
  refine q_of (stepVal x dv pv') (fun w_ hS => s_ldStep hS.1 ⟨rfl, rfl⟩) (pG_yes rfl ?_)
  rw [List.length_append, List.length_replicate] at hlen
  refine st_laid hS3 hv hd (by omega) fun w4 bv4 m hS4 hm => ⟨seen hS4, q_of (.bool true) (fun w_ hS => s_pick_t ⟨rfl, rfl⟩) (hk w4 bv4 _ hS4 (by rw [List.length_replicate]; omega))⟩
end
end Go.Proofs.YtcdcojpfealppaaGreat

set_option linter.unusedVariables false
set_option linter.unusedSimpArgs false
set_option maxRecDepth 100000
namespace Go.Proofs.YtcdcojpfealppaaGreat
open Go Go.Proofs Go.RowKit Go.Proofs.XRed Go.Proofs.XHeap Go.Proofs.XMaps Go.Proofs.XSlices Go.Proofs.XDisk Go.Proofs.XCalls Go.Proofs.XSep Tryz
section
variable {w w0 : World} {k : Value → World → Prop}
variable {W : World} {xb Pb D E K c : Nat} {x : StepA} {dv pv' bv pv : Value} {S T : AD} {bb : Bytes} {pp : List Int} {l : List Asrt}
theorem BytesA.mk {w : World} {v : Value} {bs : Bytes} (h : SBytes w v bs) : (BytesA v bs).h w (fun _ => False) (fun b => 0 < bs.length ∧ sblk v = some b) :=
 ⟨h, fun h0 b hb => ⟨h0, hb⟩, fun _ h => h, fun b hb => Src.lt (size := 1) h (by omega) hb.1 hb.2⟩
theorem s_read {l : List Asrt} {i : Nat} {D : Nat} {S : AD} {c : Nat} (hS : Sep l w) (hi : l[i]? = some (Dk D S)) (ok : S.Ok c) (name : ByteArray) (hs : name.size ≤ 9223372036854775807) (a n : Int) (hn : -9223372036854775808 ≤ a ∧ a ≤ 9223372036854775807)
    (hk : ∀ w' v, Sep (l.set i (star (Dk D (S.read name a n).2.2) (BytesA v (S.read name a n).2.1))) w' → k (.tuple #[v, i64 (S.read name a n).1]) w') : pFn P 32 [ptr D, .string name, i64 a, i64 n] w k := by
  obtain ⟨O, I, J, ⟨L, h1⟩, g1, g2, nx⟩ := hS.at_ i hi
  refine c_read h1 ok name hs a n hn fun w' O' I' L' v hx hv hb => hk w' v (nx _ w' O' (fun b => I' b ∨ (0 < (S.read name a n).2.1.length ∧ sblk v = some b)) ⟨O', I', _, _, ⟨L', hx.rep⟩, BytesA.mk hv, ⟨fun b hb' => ⟨id, fun e => (hb b e.2).2 hb'⟩, fun b hb' => hb'.elim⟩, fun b => by simp, fun b => Iff.rfl⟩ ⟨hx.fr, hx.on, fun b hb' => ?_⟩)
  rcases hb' with hb' | hb'
  · exact (hx.in_ b hb').imp (g1 b) id
  · exact .inr (hb b hb'.2).1
theorem s_rread {l : List Asrt} {i : Nat} {D : Nat} {S : AD} {c : Nat} (hS : Sep l w) (hi : l[i]? = some (Rk D S)) (ok : S.Ok c) (name : ByteArray) (a n : Int) (hn : -9223372036854775808 ≤ a ∧ a ≤ 9223372036854775807)
    (hk : ∀ w' v, Sep (l.set i (star (Rk D (S.read name a n).2.2) (BytesA v (S.read name a n).2.1))) w' → k (.tuple #[v, i64 (S.read name a n).1]) w') : pFn P 34 [ptr D, .string name, i64 a, i64 n] w k := by
  obtain ⟨O, I, J, ⟨L, h1⟩, g1, g2, nx⟩ := hS.at_ i hi
  refine r_read h1 ok name a n hn fun w' O' I' L' v hx hv hb => hk w' v (nx _ w' O' (fun b => I' b ∨ (0 < (S.read name a n).2.1.length ∧ sblk v = some b)) ⟨O', I', _, _, ⟨L', hx.rep⟩, BytesA.mk hv, ⟨fun b hb' => ⟨id, fun e => (hb b e.2).2.2 hb'⟩, fun b hb' => hb'.elim⟩, fun b => by simp, fun b => Iff.rfl⟩ ⟨hx.fr, hx.on, fun b hb' => ?_⟩)
  rcases hb' with hb' | hb'
  · exact (hx.in_ b hb').imp (g1 b) id
  · exact .inr (hb b hb'.2).1
theorem read_len {S : AD} {c : Nat} (ok : S.Ok c) (name : ByteArray) (a n : Int) : (S.read name a n).2.1.length ≤ 1048576 := by
 unfold AD.read
 split
 ·simp
 ·split
  ·simp
  ·rename_i h _
   have hl : S.look name = 0 := by simpa using h
   have hre : reach S (S.of name) := .inl ⟨name, mem_of_alGet (look0 hl).2⟩
   have := (ok.thing _ hre).ok.len.1
   have e : S.bytes name = (S.things (S.of name)).shown := rfl
   simp only [List.length_take, List.length_drop, e]
   omega
theorem names_len (S : AD) {c : Nat} (ok : S.Ok c) (p : ByteArray) : (AD.listA S p).length ≤ 256 := by
 unfold AD.listA
 split
 ·simp
 ·refine Nat.le_trans (List.length_filter_le _ _) ?_
  rw [List.length_map]; exact ok.turns.len.1
theorem crash_names {S : AD} {c : Nat} (ok : S.Ok c) (picks : List Int) : ∀ p ∈ S.crashNames picks, p.1.size ≤ maxLen := fun p hp => by have := ok.crashNames_small picks p hp; unfold maxLen; omega
abbrev nZ : ByteArray := ByteArray.mk #[122, 122]
theorem s_old {i : Nat} {l : List Asrt} {kk : Value → Value → Value → Value → Value → Value → Value → Value → Value → World → Prop} (hS : Sep l w) (hi : l[i]? = some (Dk D S)) (ok : S.Ok c) (hc : c ≤ 1000000) (hk : ∀ w' S', Sep (l.set i (Dk D S')) w' → ∀ x1 x2 x3 x4 x5 x6 x7 x8 x9, kk x1 x2 x3 x4 x5 x6 x7 x8 x9 w') :
    pFn P 21 [ptr D, .string nZ] w fun v193 w => px P (Instr.buildSlice 36 1 #[(0, (.int .u8 119))]) w fun v195 w => px P (convert 36 36 v195) w fun v196 w => pFn P 23 [ptr D, .string nZ, v196] w fun v197 w => pFn P 55 [ptr D] w fun v199 w => pFn P 125 [ptr D] w fun v201 w =>
      px P (Instr.build 38 #[(0, (i64 1))]) w fun v203 w => pFn P 22 [ptr D, v203] w fun v204 w => pFn P 59 [ptr D, .string nZ] w fun v206 w => kk v193 v195 v196 v197 v199 v201 v203 v204 v206 w := by
  have hlt : ∀ {S1 S2 : AD} (l : List Asrt), (l.set i (Dk D S1)).set i (Dk D S2) = l.set i (Dk D S2) := fun l => by rw [List.set_set]
  have hat : ∀ {S1 : AD}, (l.set i (Dk D S1))[i]? = some (Dk D S1) := by
    intro S1
    have := (List.getElem?_eq_some_iff.1 hi).1
    simp [this]
  have hz : nZ.size ≤ 9223372036854775807 := by decide
  obtain ⟨O, I, L, hd, nx⟩ := Sep.disk hS i hi
  refine c_create hd ok nZ hz fun w1 O1 I1 L1 hx => ?_
  have hS1 := nx _ _ _ _ _ hx
  have ok1 := ok.create (by omega) nZ
  generalize (S.create nZ).2 = S1 at *
  generalize (S.create nZ).1 = e1 at *
  obtain ⟨O, I, L, hd, nx⟩ := Sep.disk hS1 i hat
  refine lit_const hd [119] (by kernel_rfl) fun w2 v f hv hO hR => ?_
  refine c_append hR ok1 nZ hz hv hO (by decide) fun w3 O3 I3 L3 hx => ?_
  have hS3 := nx _ _ _ _ _ (Nx.from f hx hd.lt)
  rw [hlt] at hS3
  have ok3 := ok1.append (by omega) nZ [119]
  generalize (S1.append nZ [119]).2 = S3 at *
  generalize (S1.append nZ [119]).1 = e3 at *
  obtain ⟨O, I, L, hd, nx⟩ := Sep.disk hS3 i hat
  refine c_syncNames hd ok3 fun w4 O4 I4 L4 hx => ?_
  have hS4 := nx _ _ _ _ _ hx
  rw [hlt] at hS4
  have ok4 := ok3.syncNames (by omega)
  generalize S3.syncNames.2 = S4 at *
  generalize S3.syncNames.1 = e4 at *
  obtain ⟨O, I, L, hd, nx⟩ := Sep.disk hS4 i hat
  refine c_lookF hd ok4.room.1 fun w5 O5 I5 L5 hx => ?_
  have hS5 := nx _ _ _ _ _ hx
  rw [hlt] at hS5
  have ok5 := ok4.lookAway
  generalize S4.lookAway = S5 at *
  refine px_ok (w' := w5) (v := planVal ⟨1, 0, 0⟩) (by kernel_rfl) ?_
  obtain ⟨O, I, L, hd, nx⟩ := Sep.disk hS5 i hat
  refine c_plan hd ok5.room.1 ⟨1, 0, 0⟩ fun w6 O6 I6 L6 hx => ?_
  have hS6 := nx _ _ _ _ _ hx
  rw [hlt] at hS6
  have ok6 := ok5.plans ⟨1, 0, 0⟩
  generalize S5.plans ⟨1, 0, 0⟩ = S6 at *
  obtain ⟨O, I, L, hd, nx⟩ := Sep.disk hS6 i hat
  refine c_remove hd ok6 nZ hz fun w7 O7 I7 L7 hx => ?_
  have hS7 := nx _ _ _ _ _ hx
  rw [hlt] at hS7
  exact hk w7 _ hS7 _ _ _ _ _ _ _ _ _
end
end Go.Proofs.YtcdcojpfealppaaGreat

set_option linter.unusedVariables false
set_option linter.unusedSimpArgs false
set_option maxRecDepth 100000
namespace Go.Proofs.YtcdcojpfealppaaGreat
open Go Go.Proofs Go.RowKit Go.Proofs.XRed Go.Proofs.XHeap Go.Proofs.XMaps Go.Proofs.XSlices Go.Proofs.XDisk Go.Proofs.XCalls Tryz
section
variable {W w : World} {D : Nat} {S S' : AD} {O I : Nat → Prop} {L : Lay} {k : Value → World → Prop}
theorem run_ldStep {b o : Nat} {x : StepA} {dv pv : Value} (h : ∀ j u, (stepCells x dv pv)[j]? = some u → w.cell? ⟨b, o + j, none⟩ = some u) : (Instr.loadAt 41 (.pointer (some ⟨b, o, none⟩))).run P w = .ok (stepVal x dv pv) w := by
 have := run_loadCells_list (P := P) w ⟨b, o, none⟩ (stepCells x dv pv) (fun j v hj => by rw [add_at]; exact h j v hj)
 have e : (stepCells x dv pv).length = 10 := rfl
 rw [e] at this
 have hr : (Instr.loadAt 41 (.pointer (some ⟨b, o, none⟩))).run P w = .ok (.agg (stepCells x dv pv).toArray) w := by
  simp [Instr.loadAt, Instr.sureAddr, loadVar, isAgg41, sizeOf41, this, Result.andThen]
 exact hr
theorem safes_small {c : Nat} {S : AD} (ok : S.Ok c) : S.safes.length ≤ 4611686018427387904 ∧ ∀ f ∈ S.safes, f.2.length ≤ 4611686018427387904 := by
 refine ⟨?_, fun f hf => ?_⟩
 ·have := ok.turns.len.2
  unfold AD.safes
  rw [List.length_map]; omega
 ·obtain ⟨p, hp, rfl⟩ := List.mem_map.1 hf
  have := (ok.thing p.2 (.inr (.inl ⟨p.1, hp⟩))).ok.len.2
  show (S.things p.2).safe.length ≤ _
  omega
theorem files_small {c : Nat} {S : AD} (ok : S.Ok c) : S.files.length ≤ 4611686018427387904 ∧ ∀ f ∈ S.files, f.2.length ≤ 4611686018427387904 := by
 refine ⟨?_, fun f hf => ?_⟩
 ·have := ok.turns.len.1
  unfold AD.files
  rw [List.length_map]; omega
 ·obtain ⟨p, hp, rfl⟩ := List.mem_map.1 hf
  have := (ok.thing p.2 (.inl ⟨p.1, hp⟩)).ok.len.1
  show (S.things p.2).shown.length ≤ _
  omega
theorem shownMax {c : Nat} {S : AD} (ok : S.Ok c) : ∀ p ∈ S.shown, p.1.size ≤ maxLen := fun p hp => by have := ok.shownNames p hp; unfold maxLen; omega
theorem safeMax {c : Nat} {S : AD} (ok : S.Ok c) : ∀ p ∈ S.safe, p.1.size ≤ maxLen := fun p hp => by have := ok.sn p hp; unfold maxLen; omega
theorem used_small {c : Nat} {S : AD} (ok : S.Ok c) : S.used ≤ 256 * 1048576 := by
 have h1 := ok.turns.len.1
 have h2 : ∀ l : Names, (∀ p ∈ l, (S.things p.2).shown.length ≤ 1048576) → (l.map fun p => (S.things p.2).shown.length).sum ≤ l.length * 1048576 := by
  intro l
  induction l with
  | nil => intro _; exact Nat.zero_le _
  | cons p r ih =>
   intro h
   have a := h p List.mem_cons_self
   have b := ih fun q hq => h q (List.mem_cons_of_mem _ hq)
   simp only [List.map_cons, List.sum_cons, List.length_cons]
   omega
 have h3 := h2 S.shown fun p hp => (ok.thing p.2 (.inl ⟨p.1, hp⟩)).ok.len.1
 exact Nat.le_trans h3 (Nat.mul_le_mul_right _ h1)
theorem c_namesEq {v1 v2 : Value} {x y : List ByteArray} (hx : Src W v1 1 x.length (x.map .string)) (hy : Src W v2 1 y.length (y.map .string)) (hl : x.length ≤ 4611686018427387904) (hk : ∀ (b : Bool) w', Fr no W w' → (b = true ↔ x = y) → k (.bool b) w') : pFn P 43 [v1, v2] W k := by
 refine F43_in _ _ _ _ ?_
 unfold F43_0
 refine s_lenS usl73 hx (s_lenS usl73 hy ?_)
 by_cases hlen : x.length = y.length
 ·refine s_nei_f (by omega) (pC_false ?_)
  refine F43L1_inv (m := x.length) k (fun m ρ w' => ∃ i : Nat, i + m = x.length ∧ Fr no W w' ∧ ρ 0 = v1 ∧ ρ 1 = v2 ∧ ρ 5 = i64 i ∧ x.take i = y.take i) ?_
   ⟨0, by omega, Fr.refl _ _, rfl, rfl, rfl, rfl⟩
  rintro m ρ w' ⟨i, him, hf, e0, e1, e5, heq⟩
  rw [F43_1_eq]
  unfold F43_1
  rw [e0, e1, e5]
  have hx' := hx.fr (by omega) hf fun _ _ h => h
  have hy' := hy.fr (by omega) hf fun _ _ h => h
  refine s_lenS usl73 hx' ?_
  by_cases hi : i < x.length
  ·refine s_lt_t (by omega) (pC_true ?_)
   have fd : Fr no w' w'.drew := Fr.drew _ _
   have ff : Fr no W w'.drew := hf.trans fd fun b hb => .inl hb
   have hiy : i < y.length := by omega
   obtain ⟨b1, o1, c1, f1, g1⟩ := (hx'.fr (by omega) fd fun _ _ h => h).place hi (by omega)
   obtain ⟨b2, o2, c2, f2, g2⟩ := (hy'.fr (by omega) fd fun _ _ h => h).place hiy (by omega)
   have a1 := g1 0 (.string x[i]) (by omega) (by simp [hi])
   have a2 := g2 0 (.string y[i]) (by omega) (by simp [hiy])
   simp only [Nat.mul_one, Nat.add_zero] at a1 a2
   refine ⟨fun w' => w'.cell? ⟨b1, o1 + i, none⟩ = some (.string x[i]) ∧ w'.cell? ⟨b2, o2 + i, none⟩ = some (.string y[i]), ⟨a1, a2⟩, ?_⟩
   rw [f1, f2]
   refine q_of (.pointer (some ⟨b1, o1 + i, none⟩)) (fun w_ hS => s_ix (i := (i : Int)) usl73 (sze73 _) (by omega) (by omega) ⟨by simp, rfl⟩) ?_
   refine q_of (.string x[i]) (fun w_ hS => s_ld (isAgg9 _) hS.1 ⟨rfl, rfl⟩) ?_
   refine q_of (.pointer (some ⟨b2, o2 + i, none⟩)) (fun w_ hS => s_ix (i := (i : Int)) usl73 (sze73 _) (by omega) (by omega) ⟨by simp, rfl⟩) ?_
   refine q_of (.string y[i]) (fun w_ hS => s_ld (isAgg9 _) hS.2 ⟨rfl, rfl⟩) ?_
   refine q_of _ (fun w_ hS => s_nes ⟨rfl, rfl⟩) ?_
   by_cases he : x[i] = y[i]
   ·rw [decide_eq_true he]
    refine pC_false (s_add_in (by omega) ?_)
    refine ⟨m - 1, by omega, i + 1, by omega, ff, e0.trans f1, e1.trans f2, ?_, ?_⟩
    ·show i64 _ = i64 _; simp
    ·rw [List.take_succ_eq_append_getElem hi, List.take_succ_eq_append_getElem hiy, heq, he]
   ·rw [decide_eq_false he]
    refine pC_true (hk false _ ff ⟨(fun h => by cases h), fun h => absurd ?_ he⟩)
    subst h; rfl
  ·refine s_lt_f (by omega) (pC_false ?_)
   rw [F43_2_eq]
   refine hk true w' hf ⟨fun _ => ?_, fun _ => rfl⟩
   have a1 := List.take_of_length_le (l := x) (i := i) (by omega)
   have a2 := List.take_of_length_le (l := y) (i := i) (by omega)
   rw [← a1, heq, a2]
 ·exact s_nei_t (by omega) (pC_true (hk false W (Fr.refl _ _) ⟨(fun h => by cases h), fun h => absurd (by rw [h]) hlen⟩))
end
end Go.Proofs.YtcdcojpfealppaaGreat

set_option linter.unusedVariables false
set_option linter.unusedSimpArgs false
set_option maxRecDepth 100000
namespace Go.Proofs.YtcdcojpfealppaaGreat
open Go Go.Proofs Go.RowKit Go.Proofs.XRed Go.Proofs.XHeap Go.Proofs.XMaps Go.Proofs.XSlices Go.Proofs.XDisk Go.Proofs.XCalls Go.Proofs.XSep Tryz
section
variable {w w0 : World} {k : Value → World → Prop}
variable {W : World} {xb Pb D E K c : Nat} {x : StepA} {dv pv' bv pv : Value} {S T : AD} {bb : Bytes} {pp : List Int} {l : List Asrt}
abbrev StepEnd (W : World) (Pb K : Nat) (S' : AD) (l : List Asrt) (k : Value → World → Prop) : Prop := ∀ w' D' E' bv' pv'' bb' pp', Sep (PairL Pb D' E' K S' bv' pv'' bb' pp' (Base W :: l)) w' → bb'.length ≤ 1000000 → k (.bool true) w'
set_option maxHeartbeats 1000000 in
theorem st_read (hS : Sep (StepL xb x dv pv' Pb D E K S S bv pv bb pp (Base W :: l)) w) (ok : S.Ok c) (hv : StepV W x dv pv') (hbb : bb.length ≤ 1000000) (hk : StepEnd W Pb K (S.read x.name x.at_ x.n).2.2 l k) {o1 o2 : Operand} :
      ∃ S_ : World → Prop, S_ w.drew ∧ (fun w =>
      pq P S_ (nilSem (ptr Pb)) fun v22 =>
      pq P S_ (Instr.fieldAt 33 v22 0) fun v23 =>
      pq P S_ (Instr.loadAt 29 v23) fun v24 =>
      pq P S_ (Instr.fieldAt 41 (ptr xb) 1) fun v25 =>
      pq P S_ (Instr.loadAt 9 v25) fun v26 =>
      pq P S_ (Instr.fieldAt 41 (ptr xb) 3) fun v27 =>
      pq P S_ (Instr.loadAt 3 v27) fun v28 =>
      pq P S_ (Instr.fieldAt 41 (ptr xb) 4) fun v29 =>
      pq P S_ (Instr.loadAt 3 v29) fun v30 =>
      pFn P 32 [v24, v26, v28, v30] w fun v31 w => S_ w ∧ (
      pq P S_ (Instr.extract v31 0) fun v32 =>
      pq P S_ (Instr.extract v31 1) fun v33 =>
      ∃ S_2 : World → Prop, S_2 w.drew ∧ (fun w =>
      pq P S_2 (nilSem (ptr Pb)) fun v36 =>
      pq P S_2 (Instr.fieldAt 33 v36 1) fun v37 =>
      pq P S_2 (Instr.loadAt 30 v37) fun v38 =>
      pq P S_2 (Instr.fieldAt 41 (ptr xb) 1) fun v39 =>
      pq P S_2 (Instr.loadAt 9 v39) fun v40 =>
      pq P S_2 (Instr.fieldAt 41 (ptr xb) 3) fun v41 =>
      pq P S_2 (Instr.loadAt 3 v41) fun v42 =>
      pq P S_2 (Instr.fieldAt 41 (ptr xb) 4) fun v43 =>
      pq P S_2 (Instr.loadAt 3 v43) fun v44 =>
      pFn P 34 [v38, v40, v42, v44] w fun v45 w => S_2 w ∧ (
      pq P S_2 (Instr.extract v45 0) fun v46 =>
      pq P S_2 (Instr.extract v45 1) fun v47 =>
      pFn P 20 [v33] w fun v49 w =>
      px P (binSem BinOp.eql 3 o1 o2 v49 v47) w fun v51 w =>
      pG v51 true (fun k => k v32 w) (w := w) (next := fun v53 w =>
      pG v51 true (fun k => k v46 w) (w := w) (next := fun v54 w =>
      pG v51 true (fun k => pFn P 35 [v53, v54] w k) (w := w) (next := fun v55 w =>
      px P (pickSem v51 v55 (.bool false)) w fun v56 w =>
      k v56 w))))) w.drew)) w.drew := by
  have hS := hS.q (Fr.drew _ _)
  refine ⟨Seen xb x dv pv' Pb D E K, seen hS, ?_⟩
  refine q_of _ (fun w_ hS => s_nil ⟨rfl, rfl⟩) (q_of _ (fun w_ hS => fa33_0 ⟨rfl, rfl⟩) (q_of (ptr D) (fun w_ hS => s_ldb (isAgg29 _) hS.2 rfl ⟨rfl, rfl⟩) ?_))
  refine q_of _ (fun w_ hS => fa41_1 ⟨rfl, rfl⟩) (q_of (.string x.name) (fun w_ hS => s_ldb (isAgg9 _) hS.1 rfl ⟨rfl, rfl⟩) ?_)
  refine q_of _ (fun w_ hS => fa41_3 ⟨rfl, rfl⟩) (q_of (i64 x.at_) (fun w_ hS => s_ldb (isAgg3 _) hS.1 rfl ⟨rfl, rfl⟩) ?_)
  refine q_of _ (fun w_ hS => fa41_4 ⟨rfl, rfl⟩) (q_of (i64 x.n) (fun w_ hS => s_ldb (isAgg3 _) hS.1 rfl ⟨rfl, rfl⟩) ?_)
  refine s_read hS (i := 2) rfl ok x.name (one_small hv.name) x.at_ x.n hv.at_ fun w1 v1 hS1 => ?_
  replace hS1 : Sep (Cells xb (stepCells x dv pv').toArray 41 :: Cells Pb #[ptr D, ptr E, ptr K] 33 :: star (Dk D (S.read x.name x.at_ x.n).2.2) (BytesA v1 (S.read x.name x.at_ x.n).2.1) :: Rk E S :: DeskA K bv pv bb pp :: Base W :: l) w1 := hS1
  refine ⟨seen hS1, q_of _ (fun w_ hS => s_ext rfl ⟨rfl, rfl⟩) (q_of _ (fun w_ hS => s_ext rfl ⟨rfl, rfl⟩) ?_)⟩
  have hS1 := hS1.q (Fr.drew _ _)
  refine ⟨Seen xb x dv pv' Pb D E K, seen hS1, ?_⟩
  refine q_of _ (fun w_ hS => s_nil ⟨rfl, rfl⟩) (q_of _ (fun w_ hS => fa33_1 ⟨rfl, rfl⟩) (q_of (ptr E) (fun w_ hS => s_ldb (isAgg30 _) hS.2 rfl ⟨rfl, rfl⟩) ?_))
  refine q_of _ (fun w_ hS => fa41_1 ⟨rfl, rfl⟩) (q_of (.string x.name) (fun w_ hS => s_ldb (isAgg9 _) hS.1 rfl ⟨rfl, rfl⟩) ?_)
  refine q_of _ (fun w_ hS => fa41_3 ⟨rfl, rfl⟩) (q_of (i64 x.at_) (fun w_ hS => s_ldb (isAgg3 _) hS.1 rfl ⟨rfl, rfl⟩) ?_)
  refine q_of _ (fun w_ hS => fa41_4 ⟨rfl, rfl⟩) (q_of (i64 x.n) (fun w_ hS => s_ldb (isAgg3 _) hS.1 rfl ⟨rfl, rfl⟩) ?_)
  refine s_rread hS1 (i := 3) rfl ok x.name x.at_ x.n hv.at_ fun w2 v2 hS2 => ?_
  have hlen := read_len ok x.name x.at_ x.n
  generalize hR : S.read x.name x.at_ x.n = R at *
  replace hS2 : Sep (Cells xb (stepCells x dv pv').toArray 41 :: Cells Pb #[ptr D, ptr E, ptr K] 33 :: star (Dk D R.2.2) (BytesA v1 R.2.1) :: star (Rk E R.2.2) (BytesA v2 R.2.1) :: DeskA K bv pv bb pp :: Base W :: l) w2 := hS2
  refine ⟨seen hS2, q_of _ (fun w_ hS => s_ext rfl ⟨rfl, rfl⟩) (q_of _ (fun w_ hS => s_ext rfl ⟨rfl, rfl⟩) ?_)⟩
  refine c_num _ (s_eqi_t rfl (pG_yes rfl (pG_yes rfl (pG_yes rfl ?_))))
  obtain ⟨O1, I1, h1, _⟩ := hS2.right 2 rfl
  obtain ⟨O2, I2, h2, _⟩ := hS2.right 3 rfl
  refine c_bytes h1 h2 (by omega) fun w3 f3 => ?_
  rw [decide_eq_true rfl]
  have hS3 := (((hS2.q f3).left 2 rfl).left 3 rfl).drop
  exact s_pick_t (hk w3 D E bv pv bb pp hS3 hbb)
set_option maxHeartbeats 2000000 in
theorem st_other (hS : Sep (PairL Pb D E K S bv pv bb pp (Base W :: l)) w) (ok : S.Ok c) (hc : c ≤ 100000) (hv : StepV W x dv pv') (hpk : x.picks.length ≤ 100000) (hn : ∀ j : Int, 1 ≤ j ∧ j ≤ 8 → x.kind ≠ j) (hbb : bb.length ≤ 1000000) (hk : StepEnd W Pb K (S.doStep x).2 l k) : pFn P 73 [ptr Pb, stepVal x dv pv'] w k := by
 have h1 := hn 1 (by omega)
 have h2 := hn 2 (by omega)
 have h3 := hn 3 (by omega)
 have h4 := hn 4 (by omega)
 have h5 := hn 5 (by omega)
 have h6 := hn 6 (by omega)
 have h7 := hn 7 (by omega)
 have h8 := hn 8 (by omega)
 have hdo : (S.doStep x).2 = if x.kind = 9 then (S.read x.name x.at_ x.n).2.2 else if x.kind = 10 then S else if x.kind = 11 then S.plans x.plan else if x.kind = 12 then S.crash x.picks else if x.kind = 13 then S.lookAway else S := by
  unfold AD.doStep
  rw [if_neg h1, if_neg h2, if_neg h3, if_neg h4, if_neg h5, if_neg h6, if_neg h7, if_neg h8]
  split
  ·rfl
  ·split
   ·rfl
   ·split
    ·rfl
    ·split
     ·rfl
     ·split <;> rfl
 rw [hdo] at hk
 clear hdo h1 h2 h3 h4 h5 h6 h7 h8 hn
 refine F73_in _ _ _ _ ?_
 unfold F73_0
 refine s_box ?_
 replace hS : Sep (StepL w.heap.size x dv pv' Pb D E K S S bv pv bb pp (Base W :: l)) (w.alloc (.cells (stepCells x dv pv').toArray 41)) := hS.cell _ _
 rw [show (stepVal x dv pv').cells = (stepCells x dv pv').toArray from rfl]
 generalize w.alloc (.cells (stepCells x dv pv').toArray 41) = w1 at *
 show px P (Instr.fieldAt 41 (ptr w.heap.size) 0) w1 _
 generalize w.heap.size = xb at *
 refine fa41_0 (s_ldb (v := i64 x.kind) (isAgg3 _) (hS.cells 0 rfl) rfl ?_)
 by_cases k9 : x.kind = 9
 ·rw [if_pos k9] at hk
  refine s_eqi_t k9 (pC_true ?_)
  exact st_read hS ok hv hbb hk
 rw [if_neg k9] at hk
 refine s_eqi_f k9 (pC_false ?_)
 by_cases k10 : x.kind = 10
 ·rw [if_pos k10] at hk
  refine s_eqi_t k10 (pC_true ?_)
  replace hS := hS.q (Fr.drew _ _)
  refine ⟨Seen xb x dv pv' Pb D E K, seen hS, ?_⟩
  refine q_of _ (fun w_ hS => s_nil ⟨rfl, rfl⟩) (q_of _ (fun w_ hS => fa33_0 ⟨rfl, rfl⟩) (q_of (ptr D) (fun w_ hS => s_ldb (isAgg29 _) hS.2 rfl ⟨rfl, rfl⟩) ?_))
  refine q_of _ (fun w_ hS => fa41_1 ⟨rfl, rfl⟩) (q_of (.string x.name) (fun w_ hS => s_ldb (isAgg9 _) hS.1 rfl ⟨rfl, rfl⟩) ?_)
  obtain ⟨O, I, L, hd, nx⟩ := Sep.disk hS 2 rfl
  refine c_size hd ok x.name (one_small hv.name) ⟨seen hS, q_of _ (fun w_ hS => s_ext rfl ⟨rfl, rfl⟩) (q_of _ (fun w_ hS => s_ext rfl ⟨rfl, rfl⟩) ?_)⟩
  replace hS := hS.q (Fr.drew _ _)
  refine ⟨Seen xb x dv pv' Pb D E K, seen hS, ?_⟩
  refine q_of _ (fun w_ hS => s_nil ⟨rfl, rfl⟩) (q_of _ (fun w_ hS => fa33_1 ⟨rfl, rfl⟩) (q_of (ptr E) (fun w_ hS => s_ldb (isAgg30 _) hS.2 rfl ⟨rfl, rfl⟩) ?_))
  refine q_of _ (fun w_ hS => fa41_1 ⟨rfl, rfl⟩) (q_of (.string x.name) (fun w_ hS => s_ldb (isAgg9 _) hS.1 rfl ⟨rfl, rfl⟩) ?_)
  obtain ⟨O, I, L, hr, nr⟩ := Sep.ref hS 3 rfl
  refine r_size hr ok x.name ⟨seen hS, q_of _ (fun w_ hS => s_ext rfl ⟨rfl, rfl⟩) (q_of _ (fun w_ hS => s_ext rfl ⟨rfl, rfl⟩) ?_)⟩
  replace hS := hS.q (Fr.drew _ _)
  refine ⟨Seen xb x dv pv' Pb D E K, seen hS, c_num _ ⟨seen hS, q_of (.bool true) (fun w_ hS => s_eqi_t rfl ⟨rfl, rfl⟩) (pGq_yes rfl (pGq_yes rfl (pGq_yes rfl (q_of (.bool true) (fun w_ hS => s_eqi_t rfl ⟨rfl, rfl⟩) (q_of (.bool true) (fun w_ hS => s_pick_t ⟨rfl, rfl⟩) ?_)))))⟩⟩
  refine pGq_yes rfl (pGq_yes rfl (q_of _ (fun w_ hS => s_nil ⟨rfl, rfl⟩) (pGq_yes rfl (q_of _ (fun w_ hS => fa33_0 ⟨rfl, rfl⟩) (pGq_yes rfl (q_of (ptr D) (fun w_ hS => s_ldb (isAgg29 _) hS.2 rfl ⟨rfl, rfl⟩) (pGq_yes rfl ?_)))))))
  refine q_of _ (fun w_ hS => fa41_1 ⟨rfl, rfl⟩) (pGq_yes rfl (q_of (.string x.name) (fun w_ hS => s_ldb (isAgg9 _) hS.1 rfl ⟨rfl, rfl⟩) ?_))
  refine pGq_yes rfl (pGq_yes rfl (q_of _ (fun w_ hS => s_nil ⟨rfl, rfl⟩) (pGq_yes rfl (q_of _ (fun w_ hS => fa33_1 ⟨rfl, rfl⟩) (pGq_yes rfl (q_of (ptr E) (fun w_ hS => s_ldb (isAgg30 _) hS.2 rfl ⟨rfl, rfl⟩) (pGq_yes rfl ?_)))))))
  refine q_of _ (fun w_ hS => fa41_1 ⟨rfl, rfl⟩) (pGq_yes rfl (q_of (.string x.name) (fun w_ hS => s_ldb (isAgg9 _) hS.1 rfl ⟨rfl, rfl⟩) ?_))
  obtain ⟨O, I, L, hd, nx⟩ := Sep.disk hS 2 rfl
  refine pG_yes rfl (c_list hd ok x.name fun w2 v2 g2 b2 f2 => ?_)
  have hS2 := hS.q f2
  refine ⟨seen hS2, ?_⟩
  obtain ⟨O, I, L, hr, nr⟩ := Sep.ref hS2 3 rfl
  refine pG_yes rfl (r_list hr ok x.name fun w3 v3 g3 b3 f3 => ?_)
  have hS3 := hS2.q f3
  refine ⟨seen hS3, pG_yes rfl (c_namesEq (g2.fr (by omega) f3 fun _ _ h => h) g3 (by have := names_len S ok x.name; omega) fun b w4 f4 hb => ?_)⟩
  rw [hb.2 rfl]
  have hS4 := hS3.q f4
  exact ⟨seen hS4, q_of (.bool true) (fun w_ hS => s_pick_t ⟨rfl, rfl⟩) (hk w4 D E bv pv bb pp hS4.drop hbb)⟩
 rw [if_neg k10] at hk
 refine s_eqi_f k10 (pC_false ?_)
 by_cases k11 : x.kind = 11
 ·rw [if_pos k11] at hk
  refine s_eqi_t k11 (pC_true ?_)
  replace hS := hS.q (Fr.drew _ _)
  refine ⟨Seen xb x dv pv' Pb D E K, seen hS, ?_⟩
  refine q_of _ (fun w_ hS => s_nil ⟨rfl, rfl⟩) (q_of _ (fun w_ hS => fa33_0 ⟨rfl, rfl⟩) (q_of (ptr D) (fun w_ hS => s_ldb (isAgg29 _) hS.2 rfl ⟨rfl, rfl⟩) ?_))
  refine q_of _ (fun w_ hS => fa41_6 ⟨rfl, rfl⟩) (q_of (planVal x.plan) (fun w_ hS => s_ldAgg (m := 3) (isAgg38 _) (sizeOf38 _) hS.1 (by show 0 + 6 + 3 ≤ 10; decide) ⟨rfl, rfl⟩) ?_)
  obtain ⟨O, I, L, hd, nx⟩ := Sep.disk hS 2 rfl
  refine c_plan hd ok.room.1 x.plan fun w2 O2 I2 L2 hx => ?_
  replace hS : Sep (StepL xb x dv pv' Pb D E K (S.plans x.plan) S bv pv bb pp (Base W :: l)) w2 := nx _ _ _ _ _ hx
  replace hS := hS.q (Fr.drew _ _)
  refine ⟨Seen xb x dv pv' Pb D E K, seen hS, ?_⟩
  refine q_of _ (fun w_ hS => s_nil ⟨rfl, rfl⟩) (q_of _ (fun w_ hS => fa33_1 ⟨rfl, rfl⟩) (q_of (ptr E) (fun w_ hS => s_ldb (isAgg30 _) hS.2 rfl ⟨rfl, rfl⟩) ?_))
  refine q_of _ (fun w_ hS => fa41_6 ⟨rfl, rfl⟩) (q_of (planVal x.plan) (fun w_ hS => s_ldAgg (m := 3) (isAgg38 _) (sizeOf38 _) hS.1 (by show 0 + 6 + 3 ≤ 10; decide) ⟨rfl, rfl⟩) ?_)
  obtain ⟨O, I, L, hr, nr⟩ := Sep.ref hS 3 rfl
  refine r_plan hr x.plan fun w3 hx => ?_
  replace hS : Sep (StepL xb x dv pv' Pb D E K (S.plans x.plan) (S.plans x.plan) bv pv bb pp (Base W :: l)) w3 := nr _ _ _ _ _ hx
  rw [F73_1_eq]
  exact hk w3 D E bv pv bb pp hS.drop hbb
 rw [if_neg k11] at hk
 refine s_eqi_f k11 (pC_false ?_)
 by_cases k12 : x.kind = 12
 ·rw [if_pos k12] at hk
  refine s_eqi_t k12 (pC_true ?_)
  replace hS := hS.q (Fr.drew _ _)
  refine ⟨Seen xb x dv pv' Pb D E K, seen hS, ?_⟩
  refine q_of _ (fun w_ hS => s_nil ⟨rfl, rfl⟩) (q_of _ (fun w_ hS => fa33_0 ⟨rfl, rfl⟩) (q_of (ptr D) (fun w_ hS => s_ldb (isAgg29 _) hS.2 rfl ⟨rfl, rfl⟩) ?_))
  refine q_of _ (fun w_ hS => s_nil ⟨rfl, rfl⟩) (q_of _ (fun w_ hS => fa33_2 ⟨rfl, rfl⟩) (q_of (ptr K) (fun w_ hS => s_ldb (isAgg31 _) hS.2 rfl ⟨rfl, rfl⟩) ?_))
  refine q_of _ (fun w_ hS => fa41_7 ⟨rfl, rfl⟩) (q_of (pv') (fun w_ hS => s_ldb (isAgg39 _) hS.1 rfl ⟨rfl, rfl⟩) ?_)
  refine s_picks (d := x.picks) hS (i := 4) (j := 5) (by decide) rfl rfl hv.picks (by omega) fun w2 pv2 v2 hS2 g2 b2 => ?_
  replace hS2 : Sep (StepL xb x dv pv' Pb D E K S S bv pv2 bb (x.picks ++ List.replicate 3 77) (Base W :: l)) w2 := hS2
  refine ⟨seen hS2, ?_⟩
  obtain ⟨O, I, L, hd, nx⟩ := Sep.disk hS2 2 rfl
  refine c_crashP sortsKeys hd ok (by omega) g2 (crash_names ok x.picks) fun w3 O3 I3 L3 hx => ?_
  replace hS : Sep (StepL xb x dv pv' Pb D E K (S.crash x.picks) S bv pv2 bb (x.picks ++ List.replicate 3 77) (Base W :: l)) w3 := nx _ _ _ _ _ hx
  replace hS := hS.q (Fr.drew _ _)
  refine ⟨Seen xb x dv pv' Pb D E K, seen hS, ?_⟩
  refine q_of _ (fun w_ hS => s_nil ⟨rfl, rfl⟩) (q_of _ (fun w_ hS => fa33_1 ⟨rfl, rfl⟩) (q_of (ptr E) (fun w_ hS => s_ldb (isAgg30 _) hS.2 rfl ⟨rfl, rfl⟩) ?_))
  refine q_of _ (fun w_ hS => fa41_7 ⟨rfl, rfl⟩) (q_of (pv') (fun w_ hS => s_ldb (isAgg39 _) hS.1 rfl ⟨rfl, rfl⟩) ?_)
  obtain ⟨O, I, L, hr, nr⟩ := Sep.ref hS 3 rfl
  refine r_crash hr ok (hv.fr (hS.base_at 5 rfl)).picks fun w4 O4 I4 L4 hx => ?_
  replace hS : Sep (StepL xb x dv pv' Pb D E K (S.crash x.picks) (S.crash x.picks) bv pv2 bb (x.picks ++ List.replicate 3 77) (Base W :: l)) w4 := nr _ _ _ _ _ hx
  replace hS := hS.q (Fr.drew _ _)
  refine ⟨Seen xb x dv pv' Pb D E K, seen hS, ?_⟩
  refine q_of _ (fun w_ hS => s_nil ⟨rfl, rfl⟩) (q_of _ (fun w_ hS => fa33_2 ⟨rfl, rfl⟩) (q_of (ptr K) (fun w_ hS => s_ldb (isAgg31 _) hS.2 rfl ⟨rfl, rfl⟩) ?_))
  refine q_of _ (fun w_ hS => fa41_7 ⟨rfl, rfl⟩) (q_of (pv') (fun w_ hS => s_ldb (isAgg39 _) hS.1 rfl ⟨rfl, rfl⟩) ?_)
  obtain ⟨O, I, ⟨g1, g3, g4, _⟩⟩ := hS.get 4 rfl
  refine c_picked (n := 3) g1 (by simpa using g4) (hv.fr (hS.base_at 5 rfl)).picks (by omega) fun w5 f5 => ?_
  replace hS := hS.q f5
  refine ⟨seen hS, s_nil (fa33_2 (s_ldb (v := ptr K) (isAgg31 _) (hS.cells 1 rfl) rfl ?_))⟩
  refine s_picks (d := []) hS (i := 4) (j := 5) (by decide) rfl rfl (Src.nil W 1) (by simp) fun w6 pv6 v6 hS6 _ _ => ?_
  exact hk w6 D E bv pv6 bb _ (Sep.drop (a := Cells xb (stepCells x dv pv').toArray 41) hS6) hbb
 rw [if_neg k12] at hk
 refine s_eqi_f k12 (pC_false ?_)
 by_cases k13 : x.kind = 13
 ·rw [if_pos k13] at hk
  refine s_eqi_t k13 (pC_true (s_nil (fa33_0 (s_ldb (v := ptr D) (isAgg29 _) (hS.cells 1 rfl) rfl ?_))))
  obtain ⟨O, I, L, hd, nx⟩ := Sep.disk hS 2 rfl
  refine c_lookF hd ok.room.1 fun w2 O2 I2 L2 hx => ?_
  replace hS : Sep (StepL xb x dv pv' Pb D E K S.lookAway S bv pv bb pp (Base W :: l)) w2 := nx _ _ _ _ _ hx
  refine s_nil (fa33_1 (s_ldb (v := ptr E) (isAgg30 _) (hS.cells 1 rfl) rfl ?_))
  obtain ⟨O, I, L, hr, nr⟩ := Sep.ref hS 3 rfl
  refine r_look hr fun w3 L3 hx => ?_
  replace hS : Sep (StepL xb x dv pv' Pb D E K S.lookAway S.lookAway bv pv bb pp (Base W :: l)) w3 := nr _ _ _ _ _ hx
  rw [F73_1_eq]
  exact hk w3 D E bv pv bb pp hS.drop hbb
 rw [if_neg k13] at hk
 refine s_eqi_f k13 (pC_false ?_)
 by_cases k14 : x.kind = 14
 ·refine s_eqi_t k14 (pC_true (s_nil (fa33_0 (s_ldb (v := ptr D) (isAgg29 _) (hS.cells 1 rfl) rfl ?_))))
  replace hS : Sep (Dk D S :: Cells xb (stepCells x dv pv').toArray 41 :: Cells Pb #[ptr D, ptr E, ptr K] 33 :: Rk E S :: DeskA K bv pv bb pp :: Base W :: l) w1 := hS.front 2 rfl
  obtain ⟨O, I, L, hd, nx⟩ := Sep.disk2 hS
  refine c_twin hd ok fun w2 D' L' hx f2 => ?_
  replace hS := nx w2 D' L' hx f2
  unfold ptr
  refine s_eqpn upt29 (pC_false (s_nil (fa33_0 (s_ldb (v := ptr D) (isAgg29 _) (hS.cells 3 rfl) rfl (s_nil (fa33_0 ?_))))))
  refine s_st (sizeOf29 _) rfl rfl (hS.cells 3 rfl) (by show 0 < 3; decide) ?_
  replace hS : Sep (Dk D S :: Dk D' S :: Cells xb (stepCells x dv pv').toArray 41 :: Cells Pb #[ptr D', ptr E, ptr K] 33 :: Rk E S :: DeskA K bv pv bb pp :: Base W :: l) (w2.setCell ⟨Pb, 0, none⟩ (ptr D')) := hS.set 3 rfl 0 (ptr D')
  show px P _ (w2.setCell ⟨Pb, 0, none⟩ (ptr D')) _
  generalize w2.setCell ⟨Pb, 0, none⟩ (ptr D') = w3 at *
  refine s_nil (fa33_1 (s_ldb (v := ptr E) (isAgg30 _) (hS.cells 3 rfl) rfl ?_))
  obtain ⟨O, I, L, hr, nr⟩ := Sep.ref hS 4 rfl
  refine r_twin hr ok (by omega) fun w4 E' O' I' L' hx hlow f4 => ?_
  replace hS : Sep (Rk E' S :: Dk D S :: Dk D' S :: Cells xb (stepCells x dv pv').toArray 41 :: Cells Pb #[ptr D', ptr E, ptr K] 33 :: Rk E S :: DeskA K bv pv bb pp :: Base W :: l) w4 := hS.new f4 (fun b hb => hb.elim) ⟨L', hx⟩ (fun b hb => hlow b (.inl hb)) fun b hb => hlow b (.inr hb)
  refine s_nil (fa33_1 (s_st (sizeOf30 _) rfl rfl (hS.cells 4 rfl) (by show 1 < 3; decide) ?_))
  replace hS : Sep (Rk E' S :: Dk D S :: Dk D' S :: Cells xb (stepCells x dv pv').toArray 41 :: Cells Pb #[ptr D', ptr E', ptr K] 33 :: Rk E S :: DeskA K bv pv bb pp :: Base W :: l) (w4.setCell ⟨Pb, 1, none⟩ (ptr E')) := hS.set 4 rfl 1 (ptr E')
  show pFn P _ _ (w4.setCell ⟨Pb, 1, none⟩ (ptr E')) _
  generalize w4.setCell ⟨Pb, 1, none⟩ (ptr E') = w5 at *
  refine s_old hS (i := 1) rfl ok (by omega) fun w6 S6 hS6 => ?_
  intros
  rw [F73_1_eq]
  replace hS6 : Sep (Rk E' S :: Dk D S6 :: Dk D' S :: Cells xb (stepCells x dv pv').toArray 41 :: Cells Pb #[ptr D', ptr E', ptr K] 33 :: Rk E S :: DeskA K bv pv bb pp :: Base W :: l) w6 := hS6
  have h1 : Sep (Rk E' S :: Dk D' S :: Cells Pb #[ptr D', ptr E', ptr K] 33 :: DeskA K bv pv bb pp :: Base W :: l) w6 := ((hS6.erase 5 rfl).erase 3 rfl).erase 1 rfl
  have h2 : Sep (Dk D' S :: Rk E' S :: Cells Pb #[ptr D', ptr E', ptr K] 33 :: DeskA K bv pv bb pp :: Base W :: l) w6 := h1.front 1 rfl
  exact hk w6 D' E' bv pv bb pp (h2.front 2 rfl) hbb
 refine s_eqi_f k14 (pC_false ?_)
 rw [F73_1_eq]
 exact hk w1 D E bv pv bb pp hS.drop hbb
end
end Go.Proofs.YtcdcojpfealppaaGreat

set_option linter.unusedVariables false
set_option linter.unusedSimpArgs false
set_option maxRecDepth 100000
namespace Go.Proofs.YtcdcojpfealppaaGreat
open Go Go.Proofs Go.RowKit Go.Proofs.XRed Go.Proofs.XHeap Go.Proofs.XMaps Go.Proofs.XSlices Go.Proofs.XDisk Go.Proofs.XCalls Go.Proofs.XSep Tryz
section
variable {w w0 : World} {k : Value → World → Prop}
variable {W : World} {xb Pb D E K c : Nat} {x : StepA} {dv pv' bv pv : Value} {S T : AD} {bb : Bytes} {pp : List Int} {l : List Asrt}
set_option maxHeartbeats 2000000 in
theorem st_step (hS : Sep (PairL Pb D E K S bv pv bb pp (Base W :: l)) w) (ok : S.Ok c) (hc : c ≤ 100000) (hv : StepV W x dv pv') (hd : x.data.length ≤ 100000) (hpk : x.picks.length ≤ 100000) (hbb : bb.length ≤ 1000000) (hk : StepEnd W Pb K (S.doStep x).2 l k) : pFn P 18 [ptr Pb, stepVal x dv pv'] w k := by
 refine F18_in _ _ _ _ ?_
 unfold F18_0
 refine s_box ?_
 have hS0 := hS
 replace hS : Sep (StepL w.heap.size x dv pv' Pb D E K S S bv pv bb pp (Base W :: l)) (w.alloc (.cells (stepCells x dv pv').toArray 41)) := hS.cell _ _
 rw [show (stepVal x dv pv').cells = (stepCells x dv pv').toArray from rfl]
 generalize w.alloc (.cells (stepCells x dv pv').toArray 41) = w1 at *
 show px P (Instr.fieldAt 41 (ptr w.heap.size) 0) w1 _
 generalize w.heap.size = xb at *
 refine fa41_0 (s_ldb (v := i64 x.kind) (isAgg3 _) (hS.cells 0 rfl) rfl ?_)
 by_cases k1 : x.kind = 1
 ·have hdo : (S.doStep x).2 = (S.create x.name).2 := by unfold AD.doStep; rw [if_pos k1]
  rw [hdo] at hk
  refine s_eqi_t k1 (pC_true ?_)
  exact st_create hS ok hv fun w' h => hk w' D E bv pv bb pp h.drop hbb
 refine s_eqi_f k1 (pC_false ?_)
 by_cases k2 : x.kind = 2
 ·have hdo : (S.doStep x).2 = (S.writeAt x.name x.at_ x.data).2 := by unfold AD.doStep; rw [if_neg k1, if_pos k2]
  rw [hdo] at hk
  refine s_eqi_t k2 (pC_true ?_)
  exact st_writeAt hS ok hv hd hbb fun w' bv' bb' h hb => hk w' D E bv' pv bb' pp h.drop hb
 refine s_eqi_f k2 (pC_false ?_)
 by_cases k3 : x.kind = 3
 ·have hdo : (S.doStep x).2 = (S.append x.name x.data).2 := by unfold AD.doStep; rw [if_neg k1, if_neg k2, if_pos k3]
  rw [hdo] at hk
  refine s_eqi_t k3 (pC_true ?_)
  exact st_append hS ok hv hd hbb fun w' bv' bb' h hb => hk w' D E bv' pv bb' pp h.drop hb
 refine s_eqi_f k3 (pC_false ?_)
 by_cases k4 : x.kind = 4
 ·have hdo : (S.doStep x).2 = (S.truncate x.name x.n).2 := by unfold AD.doStep; rw [if_neg k1, if_neg k2, if_neg k3, if_pos k4]
  rw [hdo] at hk
  refine s_eqi_t k4 (pC_true ?_)
  exact st_truncate hS ok hv fun w' h => hk w' D E bv pv bb pp h.drop hbb
 refine s_eqi_f k4 (pC_false ?_)
 by_cases k5 : x.kind = 5
 ·have hdo : (S.doStep x).2 = (S.rename x.name x.to_).2 := by unfold AD.doStep; rw [if_neg k1, if_neg k2, if_neg k3, if_neg k4, if_pos k5]
  rw [hdo] at hk
  refine s_eqi_t k5 (pC_true ?_)
  exact st_rename hS ok hv fun w' h => hk w' D E bv pv bb pp h.drop hbb
 refine s_eqi_f k5 (pC_false ?_)
 by_cases k6 : x.kind = 6
 ·have hdo : (S.doStep x).2 = (S.remove x.name).2 := by unfold AD.doStep; rw [if_neg k1, if_neg k2, if_neg k3, if_neg k4, if_neg k5, if_pos k6]
  rw [hdo] at hk
  refine s_eqi_t k6 (pC_true ?_)
  exact st_remove hS ok hv fun w' h => hk w' D E bv pv bb pp h.drop hbb
 refine s_eqi_f k6 (pC_false ?_)
 by_cases k7 : x.kind = 7
 ·have hdo : (S.doStep x).2 = (S.sync x.name).2 := by unfold AD.doStep; rw [if_neg k1, if_neg k2, if_neg k3, if_neg k4, if_neg k5, if_neg k6, if_pos k7]
  rw [hdo] at hk
  refine s_eqi_t k7 (pC_true ?_)
  exact st_sync hS ok hv fun w' h => hk w' D E bv pv bb pp h.drop hbb
 refine s_eqi_f k7 (pC_false ?_)
 by_cases k8 : x.kind = 8
 ·have hdo : (S.doStep x).2 = S.syncNames.2 := by unfold AD.doStep; rw [if_neg k1, if_neg k2, if_neg k3, if_neg k4, if_neg k5, if_neg k6, if_neg k7, if_pos k8]
  rw [hdo] at hk
  refine s_eqi_t k8 (pC_true ?_)
  exact st_syncNames hS ok hv fun w' h => hk w' D E bv pv bb pp h.drop hbb
 refine s_eqi_f k8 (pC_false ?_)
 refine s_ldStep (hS.cells 0 rfl) ?_
 refine st_other hS.drop ok hc hv hpk ?_ hbb hk
 intro j hj he
 have : j = 1 ∨ j = 2 ∨ j = 3 ∨ j = 4 ∨ j = 5 ∨ j = 6 ∨ j = 7 ∨ j = 8 := by omega
 rcases this with rfl | rfl | rfl | rfl | rfl | rfl | rfl | rfl <;> contradiction
end
end Go.Proofs.YtcdcojpfealppaaGreat

set_option linter.unusedVariables false
set_option linter.unusedSimpArgs false
set_option maxRecDepth 100000
namespace Go.Proofs.YtcdcojpfealppaaGreat
open Go Go.Proofs Go.RowKit Go.Proofs.XRed Go.Proofs.XHeap Go.Proofs.XMaps Go.Proofs.XSlices Go.Proofs.XDisk Go.Proofs.XCalls Go.Proofs.XSep Tryz
section
variable {w w0 : World} {k : Value → World → Prop}
variable {W : World} {xb Pb D E K c : Nat} {x : StepA} {dv pv' bv pv : Value} {S T : AD} {bb : Bytes} {pp : List Int} {l : List Asrt}
theorem DeskA.none {K : Nat} {w : World} (h : w.heap[K]? = some (.cells #[.slice none 0 0, .slice none 0 0] 51 (0, 0))) : (DeskA K (.slice none 0 0) (.slice none 0 0) [] []).h w (fun b => b = K) (fun _ => False) :=
 ⟨h, ⟨rfl, .inl ⟨rfl, rfl⟩⟩, ⟨rfl, .inl ⟨rfl, rfl⟩⟩, fun b => ⟨.inl, fun h => h.elim id fun h => h.elim (fun h => by cases h) fun h => by cases h⟩, fun _ h => h⟩
theorem st_made {room : Int} (hS0 : Sep l w) (hb : ¬ (1 ≤ room ∧ room ≤ 1048576) → ∀ w' p K, Sep (Cells p #[.pointer none, .pointer none, ptr K] 33 :: l) w' → Fr no w w' → k (.tuple #[ptr p, .bool true]) w')
    (hk : 1 ≤ room ∧ room ≤ 1048576 → ∀ w' Pb D E K, Sep (PairL Pb D E K (AD.new room) (.slice none 0 0) (.slice none 0 0) [] [] l) w' → k (.tuple #[ptr Pb, .bool true]) w') : pFn P 16 [i64 room] w k := by
  refine F16_in _ _ _ ?_
  unfold F16_0
  refine c_new ?_ ?_
  · intro hr
    refine s_ext rfl (s_ext rfl ?_)
    refine r_new (fun _ => ?_) fun h => absurd h hr
    refine s_ext rfl (s_ext rfl ?_)
    refine px_ok (w' := w) (v := .agg #[.slice none 0 0, .slice none 0 0]) (by kernel_rfl) ?_
    refine s_box ?_
    rw [show Value.cells (.agg #[.slice none 0 0, .slice none 0 0]) = #[.slice none 0 0, .slice none 0 0] from rfl]
    have f1 := Fr.alloc no w (.cells #[.slice none 0 0, .slice none 0 0] 51)
    generalize w.heap.size = K at *
    generalize w.alloc (.cells #[.slice none 0 0, .slice none 0 0] 51) = w1 at *
    refine px_ok (w' := w1) (v := .agg #[.pointer none, .pointer none, ptr K]) (by kernel_rfl) ?_
    refine s_box ?_
    have h2 : Sep (Cells w1.heap.size #[.pointer none, .pointer none, ptr K] 33 :: l) (w1.alloc (.cells #[.pointer none, .pointer none, ptr K] 33)) := (hS0.q f1).cell _ _
    have f2 := f1.trans (Fr.alloc no w1 (.cells #[.pointer none, .pointer none, ptr K] 33)) fun b hb => .inl hb
    show pFn P _ _ (w1.alloc (.cells #[.pointer none, .pointer none, ptr K] 33)) _
    generalize w1.alloc (.cells #[.pointer none, .pointer none, ptr K] 33) = w2 at *
    refine c_num _ (s_eqi_t rfl (pG_yes rfl (pG_yes rfl (px_ok (w' := w2) (v := .bool true) (by kernel_rfl) (pG_yes rfl (pG_yes rfl (s_nei_t (by decide) (pG_yes rfl (px_ok (w' := w2) (v := .bool true) (by kernel_rfl) (s_pick_t ?_))))))))))
    exact hb hr _ _ K h2 f2
  · intro hr w1 L1 d1 f1
    refine s_ext rfl (s_ext rfl ?_)
    have hS1 : Sep (Dk (w.heap.size + 2) (AD.new room) :: l) w1 := hS0.new f1 (fun b hb => hb.elim) ⟨L1, d1⟩ (fun b hb => hb.1) fun b hb => hb.elim
    generalize w.heap.size + 2 = D at *
    refine r_new (fun h => absurd hr h) fun _ w2 L2 d2 f2 hz => ?_
    refine s_ext rfl (s_ext rfl ?_)
    have hS2 : Sep (Rk w1.heap.size (AD.new room) :: Dk D (AD.new room) :: l) w2 := hS1.new f2 (fun b hb => hb.elim) ⟨L2, d2⟩ (fun b hb => by omega) fun b hb => hb.elim
    generalize w1.heap.size = E at *
    refine px_ok (w' := w2) (v := .agg #[.slice none 0 0, .slice none 0 0]) (by kernel_rfl) ?_
    refine s_box ?_
    rw [show Value.cells (.agg #[.slice none 0 0, .slice none 0 0]) = #[.slice none 0 0, .slice none 0 0] from rfl]
    have hS3 : Sep (DeskA w2.heap.size (.slice none 0 0) (.slice none 0 0) [] [] :: Rk E (AD.new room) :: Dk D (AD.new room) :: l) (w2.alloc (.cells #[.slice none 0 0, .slice none 0 0] 51)) :=
      hS2.new (Fr.alloc no w2 _) (fun b hb => hb.elim) (DeskA.none (alloc_new _ _)) (fun b hb => by omega) fun b hb => hb.elim
    generalize w2.heap.size = K at *
    generalize w2.alloc (.cells #[.slice none 0 0, .slice none 0 0] 51) = w3 at *
    refine px_ok (w' := w3) (v := .agg #[ptr D, ptr E, ptr K]) (by kernel_rfl) ?_
    refine s_box ?_
    have hS4 : Sep (Cells w3.heap.size #[ptr D, ptr E, ptr K] 33 :: DeskA K (.slice none 0 0) (.slice none 0 0) [] [] :: Rk E (AD.new room) :: Dk D (AD.new room) :: l) (w3.alloc (.cells #[ptr D, ptr E, ptr K] 33)) := hS3.cell _ _
    show pFn P _ _ (w3.alloc (.cells #[ptr D, ptr E, ptr K] 33)) _
    generalize w3.alloc (.cells #[ptr D, ptr E, ptr K] 33) = w4 at *
    have hS5 : Sep (PairL w3.heap.size D E K (AD.new room) (.slice none 0 0) (.slice none 0 0) [] [] l) w4 :=
      hS4.perm (.cons _ ((List.Perm.swap _ _ _).trans (((List.Perm.swap _ _ _).cons _).trans ((List.Perm.swap _ _ _)))))
    refine c_num _ (s_eqi_t rfl (pG_yes rfl (pG_yes rfl ?_)))
    unfold ptr
    refine s_eqpn upt29 (pG_yes rfl (pG_yes rfl (s_nei_f rfl (pG_yes rfl (px_ok (w' := w4) (v := .bool true) (by kernel_rfl) (s_pick_t ?_))))))
    exact hk hr _ _ D E K hS5
end
end Go.Proofs.YtcdcojpfealppaaGreat

set_option linter.unusedVariables false
namespace Go.Proofs.XRed
open Go Go.Proofs
def drawPre (ops : Array Oper) : Array Bool → List Nat → Bool
 | _, [] => true
 | listed, i :: rest =>
  (Region.ready .any ops listed).contains i &&
  (if quietOp (ops.getD i default).op then Region.free .any ops listed i else Region.ready .any ops listed == [i]) &&
  drawPre ops (listed.setIfInBounds i true) rest
def listedAt (listed : Array Bool) : List Nat → Array Bool
 | [] => listed
 | i :: r => listedAt (listed.setIfInBounds i true) r
theorem drawOk_pre {ops : Array Oper} : ∀ {o1 : List Nat} {listed : Array Bool} {fuel : Nat} {o2 : List Nat}, drawPre ops listed o1 = true → drawOk ops fuel (listedAt listed o1) o2 = true → drawOk ops (fuel + o1.length) listed (o1 ++ o2) = true
 | [], _, _, _, _, h => h
 | i :: r, listed, fuel, o2, h, h2 => by
  simp only [drawPre, Bool.and_eq_true] at h
  show drawOk ops (fuel + r.length + 1) listed (i :: (r ++ o2)) = true
  simp only [drawOk, Bool.and_eq_true]
  exact ⟨h.1, drawOk_pre h.2 h2⟩
def opsOf : Code → Array Oper
 | .region _ ops _ => ops
 | _ => #[]
def isDrawn : Code → Bool
 | .region _ _ d => d
 | _ => false
def isSeq : Code → Bool
 | .seq _ _ => true
 | _ => false
theorem fits_seq {n : Nat} {B : Code} (hB : isSeq B = true) (h1 : Code.fits n (sub B [0]) = true) (h2 : Code.fits n (sub B [1]) = true) : Code.fits n B = true := by
 cases B with
 | seq x y =>
  have h1' : Code.fits n (sub x []) = true := h1
  have h2' : Code.fits n (sub y []) = true := h2
  have e1 : sub x [] = x := by cases x <;> rfl
  have e2 : sub y [] = y := by cases y <;> rfl
  rw [e1] at h1'; rw [e2] at h2'
  simp only [Code.fits, Bool.and_eq_true]
  exact ⟨h1', h2'⟩
 | _ => cases hB
theorem fits_drawn {n : Nat} {c : Code} (hd : isDrawn c = true) (hw : wfOps n (opsOf c).toList = true) (hs : Region.noSelect (opsOf c) = true) {ord : List Nat}
    (ho : drawOrder (opsOf c) (opsOf c).size (Array.replicate (opsOf c).size false) = ord)
    (hk : drawOk (opsOf c) (opsOf c).size (Array.replicate (opsOf c).size false) ord = true) : Code.fits n c = true := by
  cases c with
  | region id ops draw =>
    have hd' : draw = true := hd
    subst hd'
    have hw' : wfOps n ops.toList = true := hw
    have hs' : Region.noSelect ops = true := hs
    have ho' : drawOrder ops ops.size (Array.replicate ops.size false) = ord := ho
    have hk' : drawOk ops ops.size (Array.replicate ops.size false) ord = true := hk
    simp only [Code.fits, Bool.and_eq_true]
    refine ⟨hw', ?_⟩
    rw [ho']
    simp [hs', hk']
  | _ => cases hd
end Go.Proofs.XRed
