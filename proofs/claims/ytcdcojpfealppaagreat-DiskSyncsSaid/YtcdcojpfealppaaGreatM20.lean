/- Put together by a program (wip/tools/shake.py): R5, Pair7, Only. -/
import Derived.Test.YtcdcojpfealppaaGreatM19
import Derived.Test.YtcdcojpfealppaaGreatProg
import Derived.Test.YtcdcojpfealppaaGreatMix
set_option linter.unusedVariables false
set_option maxRecDepth 100000
namespace Go.Proofs.YtcdcojpfealppaaGreat
open Go Go.Proofs Go.Proofs.XRed
noncomputable def F19B : Code := bodyOf Tryz.f19
def F19A (k : Value → World → Prop) (q : List Nat) (ρ : Env) (w : World) : Prop := At Tryz.prog 105 F19B (retQ Tryz.prog Tryz.f19.results.toList k) q ρ w
def F19_0 (p0 : Value) (w : World) (k : Value → World → Prop) : Prop :=
 ∃ S : World → Prop, S w.drew ∧ (fun w =>
 pq Tryz.prog S (nilSem p0) fun v4 =>
 pq Tryz.prog S (Instr.fieldAt 33 v4 0) fun v5 =>
 pq Tryz.prog S (Instr.loadAt 29 v5) fun v6 =>
 pq Tryz.prog S (nilSem p0) fun v9 =>
 pq Tryz.prog S (Instr.fieldAt 33 v9 1) fun v10 =>
 pq Tryz.prog S (Instr.loadAt 30 v10) fun v11 =>
 pFn Tryz.prog 26 [v6] w fun v7 w => S w ∧ (
 pFn Tryz.prog 74 [v11] w fun v12 w => S w ∧ (
 pq Tryz.prog S (binSem .eql 4 (.tmp 7) (.tmp 12) v7 v12) fun v13 =>
 pGq v13 true (fun k => k p0) (next := fun v15 =>
 pGq v13 true (fun k => pq Tryz.prog S (nilSem v15) k) (next := fun v16 =>
 pGq v13 true (fun k => pq Tryz.prog S (Instr.fieldAt 33 v16 0) k) (next := fun v17 =>
 pGq v13 true (fun k => pq Tryz.prog S (Instr.loadAt 29 v17) k) (next := fun v18 =>
 pGq v13 true (fun k => k p0) (next := fun v20 =>
 pGq v13 true (fun k => pq Tryz.prog S (nilSem v20) k) (next := fun v21 =>
 pGq v13 true (fun k => pq Tryz.prog S (Instr.fieldAt 33 v21 1) k) (next := fun v22 =>
 pGq v13 true (fun k => pq Tryz.prog S (Instr.loadAt 30 v22) k) (next := fun v23 =>
 pG v13 true (fun k => pFn Tryz.prog 57 [v18] w k) (w := w) (next := fun v19 w => S w ∧ (
 pG v13 true (fun k => pFn Tryz.prog 75 [v23] w k) (w := w) (next := fun v24 w => S w ∧ (
 pGq v13 true (fun k => pq Tryz.prog S (binSem .eql 3 (.tmp 19) (.tmp 24) v19 v24) k) (next := fun v25 =>
 pq Tryz.prog S (pickSem v13 v25 (.bool false)) fun v26 =>
 pGq v26 true (fun k => k p0) (next := fun v28 =>
 pGq v26 true (fun k => pq Tryz.prog S (nilSem v28) k) (next := fun v29 =>
 pGq v26 true (fun k => pq Tryz.prog S (Instr.fieldAt 33 v29 0) k) (next := fun v30 =>
 pGq v26 true (fun k => pq Tryz.prog S (Instr.loadAt 29 v30) k) (next := fun v31 =>
 pGq v26 true (fun k => k p0) (next := fun v33 =>
 pGq v26 true (fun k => pq Tryz.prog S (nilSem v33) k) (next := fun v34 =>
 pGq v26 true (fun k => pq Tryz.prog S (Instr.fieldAt 33 v34 1) k) (next := fun v35 =>
 pGq v26 true (fun k => pq Tryz.prog S (Instr.loadAt 30 v35) k) (next := fun v36 =>
 pG v26 true (fun k => pFn Tryz.prog 60 [v31] w k) (w := w) (next := fun v32 w => S w ∧ (
 pG v26 true (fun k => pFn Tryz.prog 76 [v36] w k) (w := w) (next := fun v37 w => S w ∧ (
 pGq v26 true (fun k => pq Tryz.prog S (binSem .eql 3 (.tmp 32) (.tmp 37) v32 v37) k) (next := fun v38 =>
 pq Tryz.prog S (pickSem v26 v38 (.bool false)) fun v39 =>
 pGq v39 true (fun k => k p0) (next := fun v41 =>
 pGq v39 true (fun k => pq Tryz.prog S (nilSem v41) k) (next := fun v42 =>
 pGq v39 true (fun k => pq Tryz.prog S (Instr.fieldAt 33 v42 0) k) (next := fun v43 =>
 pGq v39 true (fun k => pq Tryz.prog S (Instr.loadAt 29 v43) k) (next := fun v44 =>
 pGq v39 true (fun k => k p0) (next := fun v46 =>
 pGq v39 true (fun k => pq Tryz.prog S (nilSem v46) k) (next := fun v47 =>
 pGq v39 true (fun k => pq Tryz.prog S (Instr.fieldAt 33 v47 1) k) (next := fun v48 =>
 pGq v39 true (fun k => pq Tryz.prog S (Instr.loadAt 30 v48) k) (next := fun v49 =>
 pG v39 true (fun k => pFn Tryz.prog 27 [v44] w k) (w := w) (next := fun v45 w => S w ∧ (
 pG v39 true (fun k => pFn Tryz.prog 77 [v49] w k) (w := w) (next := fun v50 w => S w ∧ (
 pGq v39 true (fun k => pq Tryz.prog S (binSem .eql 3 (.tmp 45) (.tmp 50) v45 v50) k) (next := fun v51 =>
 pq Tryz.prog S (pickSem v39 v51 (.bool false)) fun v52 =>
 pGq v52 true (fun k => k p0) (next := fun v54 =>
 pGq v52 true (fun k => pq Tryz.prog S (nilSem v54) k) (next := fun v55 =>
 pGq v52 true (fun k => pq Tryz.prog S (Instr.fieldAt 33 v55 0) k) (next := fun v56 =>
 pGq v52 true (fun k => pq Tryz.prog S (Instr.loadAt 29 v56) k) (next := fun v57 =>
 pGq v52 true (fun k => k p0) (next := fun v59 =>
 pGq v52 true (fun k => pq Tryz.prog S (nilSem v59) k) (next := fun v60 =>
 pGq v52 true (fun k => pq Tryz.prog S (Instr.fieldAt 33 v60 1) k) (next := fun v61 =>
 pGq v52 true (fun k => pq Tryz.prog S (Instr.loadAt 30 v61) k) (next := fun v62 =>
 pG v52 true (fun k => pFn Tryz.prog 28 [v57] w k) (w := w) (next := fun v58 w => S w ∧ (
 pG v52 true (fun k => pFn Tryz.prog 41 [v62] w k) (w := w) (next := fun v63 w => S w ∧ (
 pG v52 true (fun k => pFn Tryz.prog 40 [v58, v63] w k) (w := w) (next := fun v64 w => S w ∧ (
 pq Tryz.prog S (pickSem v52 v64 (.bool false)) fun v65 =>
 pGq v65 true (fun k => k p0) (next := fun v67 =>
 pGq v65 true (fun k => pq Tryz.prog S (nilSem v67) k) (next := fun v68 =>
 pGq v65 true (fun k => pq Tryz.prog S (Instr.fieldAt 33 v68 0) k) (next := fun v69 =>
 pGq v65 true (fun k => pq Tryz.prog S (Instr.loadAt 29 v69) k) (next := fun v70 =>
 pGq v65 true (fun k => k p0) (next := fun v72 =>
 pGq v65 true (fun k => pq Tryz.prog S (nilSem v72) k) (next := fun v73 =>
 pGq v65 true (fun k => pq Tryz.prog S (Instr.fieldAt 33 v73 1) k) (next := fun v74 =>
 pGq v65 true (fun k => pq Tryz.prog S (Instr.loadAt 30 v74) k) (next := fun v75 =>
 pG v65 true (fun k => pFn Tryz.prog 29 [v70] w k) (w := w) (next := fun v71 w => S w ∧ (
 pG v65 true (fun k => pFn Tryz.prog 42 [v75] w k) (w := w) (next := fun v76 w => S w ∧ (
 pG v65 true (fun k => pFn Tryz.prog 40 [v71, v76] w k) (w := w) (next := fun v77 w => S w ∧ (
 pq Tryz.prog S (pickSem v65 v77 (.bool false)) fun v78 =>
 pGq v78 true (fun k => k p0) (next := fun v80 =>
 pGq v78 true (fun k => pq Tryz.prog S (nilSem v80) k) (next := fun v81 =>
 pGq v78 true (fun k => pq Tryz.prog S (Instr.fieldAt 33 v81 0) k) (next := fun v82 =>
 pGq v78 true (fun k => pq Tryz.prog S (Instr.loadAt 29 v82) k) (next := fun v83 =>
 pGq v78 true (fun k => k p0) (next := fun v85 =>
 pGq v78 true (fun k => pq Tryz.prog S (nilSem v85) k) (next := fun v86 =>
 pGq v78 true (fun k => pq Tryz.prog S (Instr.fieldAt 33 v86 1) k) (next := fun v87 =>
 pGq v78 true (fun k => pq Tryz.prog S (Instr.loadAt 30 v87) k) (next := fun v88 =>
 pG v78 true (fun k => pFn Tryz.prog 31 [v83] w k) (w := w) (next := fun v84 w => S w ∧ (
 pG v78 true (fun k => pFn Tryz.prog 33 [v88] w k) (w := w) (next := fun v89 w => S w ∧ (
 pG v78 true (fun k => pFn Tryz.prog 45 [v84, v89] w k) (w := w) (next := fun v90 w => S w ∧ (
 pq Tryz.prog S (pickSem v78 v90 (.bool false)) fun v91 =>
 pGq v91 true (fun k => k p0) (next := fun v93 =>
 pGq v91 true (fun k => pq Tryz.prog S (nilSem v93) k) (next := fun v94 =>
 pGq v91 true (fun k => pq Tryz.prog S (Instr.fieldAt 33 v94 0) k) (next := fun v95 =>
 pGq v91 true (fun k => pq Tryz.prog S (Instr.loadAt 29 v95) k) (next := fun v96 =>
 pGq v91 true (fun k => k p0) (next := fun v98 =>
 pGq v91 true (fun k => pq Tryz.prog S (nilSem v98) k) (next := fun v99 =>
 pGq v91 true (fun k => pq Tryz.prog S (Instr.fieldAt 33 v99 1) k) (next := fun v100 =>
 pGq v91 true (fun k => pq Tryz.prog S (Instr.loadAt 30 v100) k) (next := fun v101 =>
 pG v91 true (fun k => pFn Tryz.prog 30 [v96, (.string (ByteArray.mk #[]))] w k) (w := w) (next := fun v97 w => S w ∧ (
 pG v91 true (fun k => pFn Tryz.prog 44 [v101, (.string (ByteArray.mk #[]))] w k) (w := w) (next := fun v102 w => S w ∧ (
 pG v91 true (fun k => pFn Tryz.prog 43 [v97, v102] w k) (w := w) (next := fun v103 w => S w ∧ (
 pq Tryz.prog S (pickSem v91 v103 (.bool false)) fun v104 =>
 k v104 w)))))))))))))))))))))))))))))))))))))))))))))))))))))))))))))))))))))))))))))))))))))))))))))))))) w.drew
theorem F19_0_eq (p0 : Value) (w : World) (k : Value → World → Prop) : F19A k [] (argEnv [p0]) w = F19_0 p0 w k := by kernel_rfl
noncomputable abbrev F19O : Array Oper := opsOf (sub F19B [1, 0])
def F19l0 : Array Bool := #[false, false, false, false, false, false, false, false, false, false, false, false, false, false, false, false, false, false, false, false, false, false, false, false, false, false, false, false, false, false, false, false, false, false, false, false, false, false, false, false, false, false, false, false, false, false, false, false, false, false, false, false, false, false, false, false, false, false, false, false, false, false, false, false, false, false, false, false, false, false, false, false, false, false, false, false, false, false, false, false, false, false, false, false, false, false, false, false, false, false, false, false, false, false, false, false, false, false, false, false, false, false, false]
def F19l1 : Array Bool := #[true, true, true, true, true, true, true, true, true, true, true, true, true, false, false, false, false, false, false, false, false, false, false, false, false, false, false, false, false, false, false, false, false, false, false, false, false, false, false, false, false, false, false, false, false, false, false, false, false, false, false, false, false, false, false, false, false, false, false, false, false, false, false, false, false, false, false, false, false, false, false, false, false, false, false, false, false, false, false, false, false, false, false, false, false, false, false, false, false, false, false, false, false, false, false, false, false, false, false, false, false, false, false]
def F19l2 : Array Bool := #[true, true, true, true, true, true, true, true, true, true, true, true, true, true, true, true, true, true, true, true, true, true, true, true, true, true, false, false, false, false, false, false, false, false, false, false, false, false, false, false, false, false, false, false, false, false, false, false, false, false, false, false, false, false, false, false, false, false, false, false, false, false, false, false, false, false, false, false, false, false, false, false, false, false, false, false, false, false, false, false, false, false, false, false, false, false, false, false, false, false, false, false, false, false, false, false, false, false, false, false, false, false, false]
def F19l3 : Array Bool := #[true, true, true, true, true, true, true, true, true, true, true, true, true, true, true, true, true, true, true, true, true, true, true, true, true, true, true, true, true, true, true, true, true, true, true, true, true, true, true, false, false, false, false, false, false, false, false, false, false, false, false, false, false, false, false, false, false, false, false, false, false, false, false, false, false, false, false, false, false, false, false, false, false, false, false, false, false, false, false, false, false, false, false, false, false, false, false, false, false, false, false, false, false, false, false, false, false, false, false, false, false, false, false]
def F19l4 : Array Bool := #[true, true, true, true, true, true, true, true, true, true, true, true, true, true, true, true, true, true, true, true, true, true, true, true, true, true, true, true, true, true, true, true, true, true, true, true, true, true, true, true, true, true, true, true, true, true, true, true, true, true, true, true, false, false, false, false, false, false, false, false, false, false, false, false, false, false, false, false, false, false, false, false, false, false, false, false, false, false, false, false, false, false, false, false, false, false, false, false, false, false, false, false, false, false, false, false, false, false, false, false, false, false, false]
def F19l5 : Array Bool := #[true, true, true, true, true, true, true, true, true, true, true, true, true, true, true, true, true, true, true, true, true, true, true, true, true, true, true, true, true, true, true, true, true, true, true, true, true, true, true, true, true, true, true, true, true, true, true, true, true, true, true, true, true, true, true, true, true, true, true, true, true, true, true, true, true, false, false, false, false, false, false, false, false, false, false, false, false, false, false, false, false, false, false, false, false, false, false, false, false, false, false, false, false, false, false, false, false, false, false, false, false, false, false]
def F19l6 : Array Bool := #[true, true, true, true, true, true, true, true, true, true, true, true, true, true, true, true, true, true, true, true, true, true, true, true, true, true, true, true, true, true, true, true, true, true, true, true, true, true, true, true, true, true, true, true, true, true, true, true, true, true, true, true, true, true, true, true, true, true, true, true, true, true, true, true, true, true, true, true, true, true, true, true, true, true, true, true, true, true, false, false, false, false, false, false, false, false, false, false, false, false, false, false, false, false, false, false, false, false, false, false, false, false, false]
def F19l7 : Array Bool := #[true, true, true, true, true, true, true, true, true, true, true, true, true, true, true, true, true, true, true, true, true, true, true, true, true, true, true, true, true, true, true, true, true, true, true, true, true, true, true, true, true, true, true, true, true, true, true, true, true, true, true, true, true, true, true, true, true, true, true, true, true, true, true, true, true, true, true, true, true, true, true, true, true, true, true, true, true, true, true, true, true, true, true, true, true, true, true, true, true, true, true, false, false, false, false, false, false, false, false, false, false, false, false]
def F19l8 : Array Bool := #[true, true, true, true, true, true, true, true, true, true, true, true, true, true, true, true, true, true, true, true, true, true, true, true, true, true, true, true, true, true, true, true, true, true, true, true, true, true, true, true, true, true, true, true, true, true, true, true, true, true, true, true, true, true, true, true, true, true, true, true, true, true, true, true, true, true, true, true, true, true, true, true, true, true, true, true, true, true, true, true, true, true, true, true, true, true, true, true, true, true, true, true, true, true, true, true, true, true, true, true, true, true, true]
theorem F19c0 : drawPre F19O F19l0 [0, 1, 2, 3, 5, 6, 7, 8, 4, 9, 10, 11, 12] = true := by kernel_rfl
theorem F19a0 : listedAt F19l0 [0, 1, 2, 3, 5, 6, 7, 8, 4, 9, 10, 11, 12] = F19l1 := by kernel_rfl
theorem F19c1 : drawPre F19O F19l1 [13, 14, 15, 17, 18, 19, 20, 16, 21, 22, 23, 24, 25] = true := by kernel_rfl
theorem F19a1 : listedAt F19l1 [13, 14, 15, 17, 18, 19, 20, 16, 21, 22, 23, 24, 25] = F19l2 := by kernel_rfl
theorem F19c2 : drawPre F19O F19l2 [26, 27, 28, 30, 31, 32, 33, 29, 34, 35, 36, 37, 38] = true := by kernel_rfl
theorem F19a2 : listedAt F19l2 [26, 27, 28, 30, 31, 32, 33, 29, 34, 35, 36, 37, 38] = F19l3 := by kernel_rfl
theorem F19c3 : drawPre F19O F19l3 [39, 40, 41, 43, 44, 45, 46, 42, 47, 48, 49, 50, 51] = true := by kernel_rfl
theorem F19a3 : listedAt F19l3 [39, 40, 41, 43, 44, 45, 46, 42, 47, 48, 49, 50, 51] = F19l4 := by kernel_rfl
theorem F19c4 : drawPre F19O F19l4 [52, 53, 54, 56, 57, 58, 59, 55, 60, 61, 62, 63, 64] = true := by kernel_rfl
theorem F19a4 : listedAt F19l4 [52, 53, 54, 56, 57, 58, 59, 55, 60, 61, 62, 63, 64] = F19l5 := by kernel_rfl
theorem F19c5 : drawPre F19O F19l5 [65, 66, 67, 69, 70, 71, 72, 68, 73, 74, 75, 76, 77] = true := by kernel_rfl
theorem F19a5 : listedAt F19l5 [65, 66, 67, 69, 70, 71, 72, 68, 73, 74, 75, 76, 77] = F19l6 := by kernel_rfl
theorem F19c6 : drawPre F19O F19l6 [78, 79, 80, 82, 83, 84, 85, 81, 86, 87, 88, 89, 90] = true := by kernel_rfl
theorem F19a6 : listedAt F19l6 [78, 79, 80, 82, 83, 84, 85, 81, 86, 87, 88, 89, 90] = F19l7 := by kernel_rfl
theorem F19c7 : drawPre F19O F19l7 [91, 92, 93, 95, 96, 97, 98, 94, 99, 100, 101, 102] = true := by kernel_rfl
theorem F19a7 : listedAt F19l7 [91, 92, 93, 95, 96, 97, 98, 94, 99, 100, 101, 102] = F19l8 := by kernel_rfl
theorem F19e : drawOk F19O 0 F19l8 [] = true := by kernel_rfl
theorem F19k7 : drawOk F19O 12 F19l7 [91, 92, 93, 95, 96, 97, 98, 94, 99, 100, 101, 102] = true := drawOk_pre (fuel := 0) (o1 := [91, 92, 93, 95, 96, 97, 98, 94, 99, 100, 101, 102]) F19c7 (by rw [F19a7]; exact F19e)
theorem F19k6 : drawOk F19O 25 F19l6 [78, 79, 80, 82, 83, 84, 85, 81, 86, 87, 88, 89, 90, 91, 92, 93, 95, 96, 97, 98, 94, 99, 100, 101, 102] = true := drawOk_pre (fuel := 12) (o1 := [78, 79, 80, 82, 83, 84, 85, 81, 86, 87, 88, 89, 90]) F19c6 (by rw [F19a6]; exact F19k7)
theorem F19k5 : drawOk F19O 38 F19l5 [65, 66, 67, 69, 70, 71, 72, 68, 73, 74, 75, 76, 77, 78, 79, 80, 82, 83, 84, 85, 81, 86, 87, 88, 89, 90, 91, 92, 93, 95, 96, 97, 98, 94, 99, 100, 101, 102] = true := drawOk_pre (fuel := 25) (o1 := [65, 66, 67, 69, 70, 71, 72, 68, 73, 74, 75, 76, 77]) F19c5 (by rw [F19a5]; exact F19k6)
theorem F19k4 : drawOk F19O 51 F19l4 [52, 53, 54, 56, 57, 58, 59, 55, 60, 61, 62, 63, 64, 65, 66, 67, 69, 70, 71, 72, 68, 73, 74, 75, 76, 77, 78, 79, 80, 82, 83, 84, 85, 81, 86, 87, 88, 89, 90, 91, 92, 93, 95, 96, 97, 98, 94, 99, 100, 101, 102] = true := drawOk_pre (fuel := 38) (o1 := [52, 53, 54, 56, 57, 58, 59, 55, 60, 61, 62, 63, 64]) F19c4 (by rw [F19a4]; exact F19k5)
theorem F19k3 : drawOk F19O 64 F19l3 [39, 40, 41, 43, 44, 45, 46, 42, 47, 48, 49, 50, 51, 52, 53, 54, 56, 57, 58, 59, 55, 60, 61, 62, 63, 64, 65, 66, 67, 69, 70, 71, 72, 68, 73, 74, 75, 76, 77, 78, 79, 80, 82, 83, 84, 85, 81, 86, 87, 88, 89, 90, 91, 92, 93, 95, 96, 97, 98, 94, 99, 100, 101, 102] = true := drawOk_pre (fuel := 51) (o1 := [39, 40, 41, 43, 44, 45, 46, 42, 47, 48, 49, 50, 51]) F19c3 (by rw [F19a3]; exact F19k4)
theorem F19k2 : drawOk F19O 77 F19l2 [26, 27, 28, 30, 31, 32, 33, 29, 34, 35, 36, 37, 38, 39, 40, 41, 43, 44, 45, 46, 42, 47, 48, 49, 50, 51, 52, 53, 54, 56, 57, 58, 59, 55, 60, 61, 62, 63, 64, 65, 66, 67, 69, 70, 71, 72, 68, 73, 74, 75, 76, 77, 78, 79, 80, 82, 83, 84, 85, 81, 86, 87, 88, 89, 90, 91, 92, 93, 95, 96, 97, 98, 94, 99, 100, 101, 102] = true := drawOk_pre (fuel := 64) (o1 := [26, 27, 28, 30, 31, 32, 33, 29, 34, 35, 36, 37, 38]) F19c2 (by rw [F19a2]; exact F19k3)
theorem F19k1 : drawOk F19O 90 F19l1 [13, 14, 15, 17, 18, 19, 20, 16, 21, 22, 23, 24, 25, 26, 27, 28, 30, 31, 32, 33, 29, 34, 35, 36, 37, 38, 39, 40, 41, 43, 44, 45, 46, 42, 47, 48, 49, 50, 51, 52, 53, 54, 56, 57, 58, 59, 55, 60, 61, 62, 63, 64, 65, 66, 67, 69, 70, 71, 72, 68, 73, 74, 75, 76, 77, 78, 79, 80, 82, 83, 84, 85, 81, 86, 87, 88, 89, 90, 91, 92, 93, 95, 96, 97, 98, 94, 99, 100, 101, 102] = true := drawOk_pre (fuel := 77) (o1 := [13, 14, 15, 17, 18, 19, 20, 16, 21, 22, 23, 24, 25]) F19c1 (by rw [F19a1]; exact F19k2)
theorem F19k0 : drawOk F19O 103 F19l0 [0, 1, 2, 3, 5, 6, 7, 8, 4, 9, 10, 11, 12, 13, 14, 15, 17, 18, 19, 20, 16, 21, 22, 23, 24, 25, 26, 27, 28, 30, 31, 32, 33, 29, 34, 35, 36, 37, 38, 39, 40, 41, 43, 44, 45, 46, 42, 47, 48, 49, 50, 51, 52, 53, 54, 56, 57, 58, 59, 55, 60, 61, 62, 63, 64, 65, 66, 67, 69, 70, 71, 72, 68, 73, 74, 75, 76, 77, 78, 79, 80, 82, 83, 84, 85, 81, 86, 87, 88, 89, 90, 91, 92, 93, 95, 96, 97, 98, 94, 99, 100, 101, 102] = true := drawOk_pre (fuel := 90) (o1 := [0, 1, 2, 3, 5, 6, 7, 8, 4, 9, 10, 11, 12]) F19c0 (by rw [F19a0]; exact F19k1)
theorem F19z : F19O.size = 103 := by kernel_rfl
theorem F19rp : Array.replicate 103 false = F19l0 := by kernel_rfl
theorem F19ord : drawOrder F19O 103 F19l0 = [0, 1, 2, 3, 5, 6, 7, 8, 4, 9, 10, 11, 12, 13, 14, 15, 17, 18, 19, 20, 16, 21, 22, 23, 24, 25, 26, 27, 28, 30, 31, 32, 33, 29, 34, 35, 36, 37, 38, 39, 40, 41, 43, 44, 45, 46, 42, 47, 48, 49, 50, 51, 52, 53, 54, 56, 57, 58, 59, 55, 60, 61, 62, 63, 64, 65, 66, 67, 69, 70, 71, 72, 68, 73, 74, 75, 76, 77, 78, 79, 80, 82, 83, 84, 85, 81, 86, 87, 88, 89, 90, 91, 92, 93, 95, 96, 97, 98, 94, 99, 100, 101, 102] := by kernel_rfl
theorem F19wf : wfOps Tryz.f19.ntmps F19O.toList = true := by kernel_rfl
theorem F19ns : Region.noSelect F19O = true := by kernel_rfl
theorem F19fd : Code.fits Tryz.f19.ntmps (sub F19B [1, 0]) = true := fits_drawn (c := sub F19B [1, 0]) (by kernel_rfl) F19wf F19ns (ord := [0, 1, 2, 3, 5, 6, 7, 8, 4, 9, 10, 11, 12, 13, 14, 15, 17, 18, 19, 20, 16, 21, 22, 23, 24, 25, 26, 27, 28, 30, 31, 32, 33, 29, 34, 35, 36, 37, 38, 39, 40, 41, 43, 44, 45, 46, 42, 47, 48, 49, 50, 51, 52, 53, 54, 56, 57, 58, 59, 55, 60, 61, 62, 63, 64, 65, 66, 67, 69, 70, 71, 72, 68, 73, 74, 75, 76, 77, 78, 79, 80, 82, 83, 84, 85, 81, 86, 87, 88, 89, 90, 91, 92, 93, 95, 96, 97, 98, 94, 99, 100, 101, 102]) (by show drawOrder F19O F19O.size (Array.replicate F19O.size false) = _; rw [F19z, F19rp]; exact F19ord) (by show drawOk F19O F19O.size (Array.replicate F19O.size false) _ = true; rw [F19z, F19rp]; exact F19k0)
theorem F19fit : Code.fits Tryz.f19.ntmps (bodyOf Tryz.f19) = true := fits_seq (B := bodyOf Tryz.f19) (by kernel_rfl) (by kernel_rfl) (fits_seq (B := sub (bodyOf Tryz.f19) [1]) (by kernel_rfl) F19fd (by kernel_rfl))
theorem F19_in (p0 : Value) (w : World) (k : Value → World → Prop) (h : F19_0 p0 w k) : pFn Tryz.prog 19 [p0] w k :=
 pFn_of_at Tryz.mixed Tryz.func19 (by kernel_rfl) (by kernel_rfl) rfl F19fit (by kernel_rfl) (by simp) ((F19_0_eq p0 w k).mpr h)
end Go.Proofs.YtcdcojpfealppaaGreat

set_option linter.unusedVariables false
set_option linter.unusedSimpArgs false
set_option maxRecDepth 100000
namespace Go.Proofs.YtcdcojpfealppaaGreat
open Go Go.Proofs Go.RowKit Go.Proofs.XRed Go.Proofs.XHeap Go.Proofs.XMaps Go.Proofs.XSlices Go.Proofs.XDisk Go.Proofs.XCalls Go.Proofs.XSep
section
variable {w w0 : World} {k : Value → World → Prop}
variable {W : World} {xb Pb D E K c : Nat} {x : StepA} {dv pv' bv pv : Value} {S T : AD} {bb : Bytes} {pp : List Int} {l : List Asrt}
abbrev PairAt (Pb D E K : Nat) (w : World) : Prop := w.heap[Pb]? = some (.cells #[ptr D, ptr E, ptr K] 33 (0, 0))
theorem g_disk {rest : Value → Prop} (h : rest (ptr D)) : pGq (.bool true) true (fun k => k (ptr Pb)) fun a => pGq (.bool true) true (fun k => pq P (PairAt Pb D E K) (nilSem a) k) fun b => pGq (.bool true) true (fun k => pq P (PairAt Pb D E K) (Instr.fieldAt 33 b 0) k) fun c => pGq (.bool true) true (fun k => pq P (PairAt Pb D E K) (Instr.loadAt 29 c) k) rest :=
  pGq_yes rfl (pGq_yes rfl (q_of _ (fun w_ hS => s_nil ⟨rfl, rfl⟩) (pGq_yes rfl (q_of _ (fun w_ hS => fa33_0 ⟨rfl, rfl⟩) (pGq_yes rfl (q_of (ptr D) (fun w_ hS => s_ldb (Tryz.isAgg29 _) hS rfl ⟨rfl, rfl⟩) h))))))
theorem g_ref {rest : Value → Prop} (h : rest (ptr E)) : pGq (.bool true) true (fun k => k (ptr Pb)) fun a => pGq (.bool true) true (fun k => pq P (PairAt Pb D E K) (nilSem a) k) fun b => pGq (.bool true) true (fun k => pq P (PairAt Pb D E K) (Instr.fieldAt 33 b 1) k) fun c => pGq (.bool true) true (fun k => pq P (PairAt Pb D E K) (Instr.loadAt 30 c) k) rest :=
  pGq_yes rfl (pGq_yes rfl (q_of _ (fun w_ hS => s_nil ⟨rfl, rfl⟩) (pGq_yes rfl (q_of _ (fun w_ hS => fa33_1 ⟨rfl, rfl⟩) (pGq_yes rfl (q_of (ptr E) (fun w_ hS => s_ldb (Tryz.isAgg30 _) hS rfl ⟨rfl, rfl⟩) h))))))
theorem FilesV.fr0 {w w' : World} {B : Nat} {v : Value} {fs : List (ByteArray × Bytes)} (h : FilesV w B v fs) (hf : Fr no w w') : FilesV w' B v fs := by
  obtain ⟨ps, h1, h2, h3⟩ := h
  have z := hf.size
  exact ⟨ps, all2_imp h1 fun f p ⟨a, b, c⟩ => ⟨a, b.fr hf fun _ _ h => h, fun x hx => ⟨(c x hx).1, by have := (c x hx).2.1; omega, (c x hx).2.2⟩⟩, own_fr h2 hf fun _ _ h => h, h3⟩
theorem s_eqb {a b : Bool} {w : World} {x y : Operand} {k : Value → World → Prop} (h : a = b) (hk : k (.bool true) w) : px P (binSem .eql 4 x y (.bool a) (.bool b)) w k := by
  subst h
  exact s_bin (by simp) (by simp) (run_eql_bool w 4 a a Tryz.underlying4) (by simpa using hk)
theorem PairAt.of {l : List Asrt} (h : Sep (Cells Pb #[ptr D, ptr E, ptr K] 33 :: l) w) : PairAt Pb D E K w := h.cells 0 rfl
set_option maxHeartbeats 1000000 in
theorem st_stands (hS : Sep (PairL Pb D E K S bv pv bb pp l) w) (ok : S.Ok c) (hk : ∀ w', Sep (PairL Pb D E K S bv pv bb pp l) w' → k (.bool true) w') : pFn P 19 [ptr Pb] w k := by
  refine F19_in _ _ _ ?_
  unfold F19_0
  replace hS := hS.q (Fr.drew _ _)
  refine ⟨PairAt Pb D E K, .of hS, ?_⟩
  refine q_of _ (fun w_ hS => s_nil ⟨rfl, rfl⟩) (q_of _ (fun w_ hS => fa33_0 ⟨rfl, rfl⟩) (q_of (ptr D) (fun w_ hS => s_ldb (Tryz.isAgg29 _) hS rfl ⟨rfl, rfl⟩) ?_))
  refine q_of _ (fun w_ hS => s_nil ⟨rfl, rfl⟩) (q_of _ (fun w_ hS => fa33_1 ⟨rfl, rfl⟩) (q_of (ptr E) (fun w_ hS => s_ldb (Tryz.isAgg30 _) hS rfl ⟨rfl, rfl⟩) ?_))
  have hus := used_small ok
  have hsl := ok.turns.len.1
  obtain ⟨O, I, L, d, -⟩ := Sep.disk hS 1 rfl
  refine c_off d.disk ok.room.1 ⟨.of hS, ?_⟩
  obtain ⟨O, I, L, r, -⟩ := Sep.ref hS 2 rfl
  refine r_off r ⟨.of hS, q_of (.bool true) (fun w_ hS => s_eqb rfl ⟨rfl, rfl⟩) ?_⟩
  refine g_disk (g_ref ?_)
  obtain ⟨O, I, L, d, -⟩ := Sep.disk hS 1 rfl
  refine pG_yes rfl (c_strokes d.disk ok.room.1 ⟨.of hS, ?_⟩)
  obtain ⟨O, I, L, r, -⟩ := Sep.ref hS 2 rfl
  refine pG_yes rfl (r_strokes r ⟨.of hS, pGq_yes rfl (q_of (.bool true) (fun w_ hS => s_eqi_t rfl ⟨rfl, rfl⟩) (q_of (.bool true) (fun w_ hS => s_pick_t ⟨rfl, rfl⟩) ?_))⟩)
  refine g_disk (g_ref ?_)
  obtain ⟨O, I, L, d, -⟩ := Sep.disk hS 1 rfl
  refine pG_yes rfl (c_used d ok.room.1 (by omega) fun w1 f1 => ?_)
  replace hS := hS.q f1
  refine ⟨.of hS, ?_⟩
  obtain ⟨O, I, L, r, -⟩ := Sep.ref hS 2 rfl
  refine pG_yes rfl (r_used r (by omega) (by omega) ⟨.of hS, pGq_yes rfl (q_of (.bool true) (fun w_ hS => s_eqi_t rfl ⟨rfl, rfl⟩) (q_of (.bool true) (fun w_ hS => s_pick_t ⟨rfl, rfl⟩) ?_))⟩)
  refine g_disk (g_ref ?_)
  obtain ⟨O, I, L, d, -⟩ := Sep.disk hS 1 rfl
  refine pG_yes rfl (c_room d.disk ok.room.1 ⟨.of hS, ?_⟩)
  obtain ⟨O, I, L, r, -⟩ := Sep.ref hS 2 rfl
  refine pG_yes rfl (r_room r ⟨.of hS, pGq_yes rfl (q_of (.bool true) (fun w_ hS => s_eqi_t rfl ⟨rfl, rfl⟩) (q_of (.bool true) (fun w_ hS => s_pick_t ⟨rfl, rfl⟩) ?_))⟩)
  refine g_disk (g_ref ?_)
  obtain ⟨O, I, L, d, -⟩ := Sep.disk hS 1 rfl
  refine pG_yes rfl (c_files sortsKeys d ok (shownMax ok) fun w2 v2 g2  f2 => ?_)
  replace hS := hS.q f2
  refine ⟨.of hS, ?_⟩
  obtain ⟨O, I, L, r, -⟩ := Sep.ref hS 2 rfl
  refine pG_yes rfl (r_files r ok fun w3 v3 g3  f3 => ?_)
  replace hS := hS.q f3
  refine ⟨.of hS, pG_yes rfl (c_filesEq (g2.fr0 f3) g3 (files_small ok).1 (files_small ok).2 fun  w4 f4  => ?_)⟩
  rw [decide_eq_true rfl]
  replace hS := hS.q f4
  refine ⟨.of hS, q_of (.bool true) (fun w_ hS => s_pick_t ⟨rfl, rfl⟩) ?_⟩
  refine g_disk (g_ref ?_)
  obtain ⟨O, I, L, d, -⟩ := Sep.disk hS 1 rfl
  refine pG_yes rfl (c_safe sortsKeys d ok (safeMax ok) fun w5 v5 g5  f5 => ?_)
  replace hS := hS.q f5
  refine ⟨.of hS, ?_⟩
  obtain ⟨O, I, L, r, -⟩ := Sep.ref hS 2 rfl
  refine pG_yes rfl (r_safe r ok fun w6 v6 g6  f6 => ?_)
  replace hS := hS.q f6
  refine ⟨.of hS, pG_yes rfl (c_filesEq (g5.fr0 f6) g6 (safes_small ok).1 (safes_small ok).2 fun  w7 f7  => ?_)⟩
  rw [decide_eq_true rfl]
  replace hS := hS.q f7
  refine ⟨.of hS, q_of (.bool true) (fun w_ hS => s_pick_t ⟨rfl, rfl⟩) ?_⟩
  refine g_disk (g_ref ?_)
  obtain ⟨O, I, L, d, -⟩ := Sep.disk hS 1 rfl
  refine pG_yes rfl (c_reads d ok fun w8 A8 c8 g8 b8 f8 => ?_)
  replace hS := hS.q f8
  refine ⟨.of hS, ?_⟩
  obtain ⟨O, I, L, r, -⟩ := Sep.ref hS 2 rfl
  refine pG_yes rfl (r_reads r ok fun w9 v9 g9 b9 f9 => ?_)
  replace hS := hS.q f9
  refine ⟨.of hS, pG_yes rfl (c_spansEq (g8.fr (by omega) f9 fun _ _ h => h) g9 (by have := ok.reads; have := ok.small; omega) fun bo8 w10 f10 hb8 => ?_)⟩
  rw [hb8.2 rfl]
  replace hS := hS.q f10
  refine ⟨.of hS, q_of (.bool true) (fun w_ hS => s_pick_t ⟨rfl, rfl⟩) ?_⟩
  refine g_disk (g_ref ?_)
  obtain ⟨O, I, L, d, -⟩ := Sep.disk hS 1 rfl
  refine pG_yes rfl (c_list d ok _ fun w11 v11 g11 b11 f11 => ?_)
  replace hS := hS.q f11
  refine ⟨.of hS, ?_⟩
  obtain ⟨O, I, L, r, -⟩ := Sep.ref hS 2 rfl
  refine pG_yes rfl (r_list r ok _ fun w12 v12 g12 b12 f12 => ?_)
  replace hS := hS.q f12
  refine ⟨.of hS, pG_yes rfl (c_namesEq (g11.fr (by omega) f12 fun _ _ h => h) g12 (by have := names_len S ok (ByteArray.mk #[]); omega) fun bo11 w13 f13 hb11 => ?_)⟩
  rw [hb11.2 rfl]
  replace hS := hS.q f13
  refine ⟨.of hS, q_of (.bool true) (fun w_ hS => s_pick_t ⟨rfl, rfl⟩) ?_⟩
  exact hk _ hS
end
end Go.Proofs.YtcdcojpfealppaaGreat

set_option linter.unusedVariables false
set_option linter.unusedSimpArgs false
set_option maxRecDepth 100000
namespace Go.Proofs.YtcdcojpfealppaaGreat
open Go Go.Proofs Go.RowKit Go.Proofs.XRed Go.Proofs.XHeap Go.Proofs.XMaps Go.Proofs.XSlices Go.Proofs.XDisk Go.Proofs.XCalls Go.Proofs.XSep
section
variable {w w0 : World} {k : Value → World → Prop}
variable {W : World} {Pb D E K c : Nat} {S T : AD} {l : List Asrt}
structure Both (W : World) (l : List Asrt) (Pb K : Nat) (S : AD) (c : Nat) (w : World) : Prop where
  ex : ∃ D E bv pv bb pp, Sep (PairL Pb D E K S bv pv bb pp (Base W :: l)) w ∧ bb.length ≤ 1000000
  ok : S.Ok c
theorem Both.fr (h : Both W l Pb K S c w) : Fr no W w := by
  obtain ⟨⟨D, E, bv, pv, bb, pp, hS, _⟩, _⟩ := h
  exact hS.base_at 4 rfl
theorem Both.new {room : Int} (hr : 1 ≤ room ∧ room ≤ 1048576) (hS : Sep (PairL Pb D E K (AD.new room) (.slice none 0 0) (.slice none 0 0) [] [] (Base W :: l)) w) : Both W l Pb K (AD.new room) 0 w :=
  ⟨⟨D, E, _, _, _, _, hS, by simp⟩, AD.Ok.new hr⟩
theorem b_step {v : Value} {s : Script} {i : Nat} (h : Both W l Pb K S c w) (hc : c ≤ 100000) (hv : ScriptV W v s) (hi : i < s.length) (hbd : ∀ p ∈ s, p.1.data.length ≤ 100000 ∧ p.1.picks.length ≤ 12500) (hk : ∀ w', Both W l Pb K (S.doStep s[i].1).2 (c + 1) w' → k (.bool true) w') : pFn P 18 [ptr Pb, stepVal s[i].1 s[i].2.1 s[i].2.2] w k := by
  obtain ⟨⟨D, E, bv, pv, bb, pp, hS, hbb⟩, ok⟩ := h
  have hm : s[i] ∈ s := List.getElem_mem hi
  refine st_step hS ok hc (hv.all _ hm) (hbd _ hm).1 (by have := (hbd _ hm).2; omega) hbb fun w' D' E' bv' pv'' bb' pp' hS' hb' => ?_
  exact hk w' ⟨⟨D', E', bv', pv'', bb', pp', hS', hb'⟩, ok.doStep (by omega) _⟩
theorem b_stands (h : Both W l Pb K S c w) (hk : ∀ w', Both W l Pb K S c w' → k (.bool true) w') : pFn P 19 [ptr Pb] w k := by
  obtain ⟨⟨D, E, bv, pv, bb, pp, hS, hbb⟩, ok⟩ := h
  exact st_stands hS ok fun w' hS' => hk w' ⟨⟨D, E, bv, pv, bb, pp, hS', hbb⟩, ok⟩
theorem w_only1 {v : Value} {s : Script} (hv : ScriptV W v s) (hl : s.length ≤ 300) (hbd : ∀ p ∈ s, p.1.data.length ≤ 100000 ∧ p.1.picks.length ≤ 12500) (hk : ∀ w', Fr no W w' → k (.bool true) w')
    {ρ : Env} {w : World} (e1 : ρ 1 = v) (e9 : ρ 9 = ptr Pb) (e11 : ρ 11 = i64 0) (h : Both W [] Pb K S 0 w) : F14L1 k ρ w := by
  refine F14L1_inv (m := s.length) k (fun m ρ w => ∃ (i : Nat) (S : AD), i + m = s.length ∧ ρ 1 = v ∧ ρ 9 = ptr Pb ∧ ρ 11 = i64 i ∧ Both W [] Pb K S i w) ?_
    ⟨0, S, by omega, e1, e9, e11, h⟩
  rintro m ρ w ⟨i, S, him, e1, e9, e11, h⟩
  rw [F14_1_eq]
  unfold F14_1
  have hvw := hv.fr h.fr
  rw [e1, e9, e11]
  refine s_lenS usl22 hvw.src ?_
  by_cases hi : i < s.length
  · refine s_lt_t (by omega) (pC_true (s_step hvw hi fun p => ?_))
    refine b_step h (by omega) hv hi hbd fun w2 h2 => ?_
    refine s_not ?_
    repeat (first | refine pG_sk ?_ | refine pG_un ?_)
    refine s_pick_f ?_
    repeat (first | refine pG_sk ?_ | refine pG_un ?_)
    refine s_pick_f (pC_false (s_not (pC_false (s_add_in (by omega) ?_))))
    refine ⟨m - 1, by omega, i + 1, _, by omega, e1, e9, ?_, h2⟩
    show i64 _ = i64 _; simp
  · refine s_lt_f (by omega) (pC_false ?_)
    rw [F14_2_eq]
    unfold F14_2
    show pFn P _ [ρ 9] _ _
    rw [e9]
    refine b_stands h fun w2 h2 => pG_yes rfl (c_known sortsKeys fun w3 f3 => s_pick_t (hk w3 (h2.fr.trans f3 fun b hb => hb.elim)))
theorem w_only {v : Value} {s : Script} {room lo hi : Int} (hv : ScriptV W v s) (hk : ∀ w', Fr no W w' → k (.bool true) w') : pFn P 14 [i64 room, v, i64 lo, i64 hi] W k := by
  refine F14_in _ _ _ _ _ _ ?_
  unfold F14_0
  refine c_long hv fun b w1 f1 hb => ?_
  cases b with
  | true => exact pC_true (hk w1 f1)
  | false =>
    obtain ⟨hl, hbd⟩ := hb rfl
    refine pC_false (st_made ((Sep.base W).q f1) ?_ ?_)
    · intro hr w2 p K hS f2
      refine s_ext rfl (s_ext rfl (s_not (pG_yes rfl (pG_yes rfl (s_nil (pG_yes rfl (fa33_0 (pG_yes rfl (s_ldb (v := .pointer none) (Tryz.isAgg29 _) (hS.cells 0 rfl) rfl (pG_yes rfl (px_ok (w' := w2) (v := .bool true) (by kernel_rfl) (s_pick_f ?_))))))))))))
      refine pC_true ?_
      refine pG_yes rfl ?_
      refine c_known sortsKeys fun w3 f3 => s_pick_t (hk w3 (((f1.trans f2 fun b hb => hb.elim)).trans f3 fun b hb => hb.elim))
    · intro hr w2 Pb D E K hS
      have h2 := Both.new hr hS
      refine s_ext rfl (s_ext rfl (s_not (pG_yes rfl (pG_yes rfl (s_nil (pG_yes rfl (fa33_0 (pG_yes rfl (s_ldb (v := ptr D) (Tryz.isAgg29 _) (hS.cells 0 rfl) rfl (pG_yes rfl ?_))))))))))
      unfold ptr
      refine s_eqpn upt29 (s_pick_f (pC_false ?_))
      exact w_only1 hv hl hbd hk rfl rfl rfl h2
theorem w_plays1 {v : Value} {s : Script} (hv : ScriptV W v s) (hl : s.length ≤ 300) (hbd : ∀ p ∈ s, p.1.data.length ≤ 100000 ∧ p.1.picks.length ≤ 12500) (hk : ∀ w', Fr no W w' → k (.bool true) w')
    {ρ : Env} {w : World} (e1 : ρ 1 = v) (e9 : ρ 5 = ptr Pb) (e11 : ρ 7 = i64 0) (h : Both W [] Pb K S 0 w) : F8L1 k ρ w := by
  refine F8L1_inv (m := s.length) k (fun m ρ w => ∃ (i : Nat) (S : AD), i + m = s.length ∧ ρ 1 = v ∧ ρ 5 = ptr Pb ∧ ρ 7 = i64 i ∧ Both W [] Pb K S i w) ?_
    ⟨0, S, by omega, e1, e9, e11, h⟩
  rintro m ρ w ⟨i, S, him, e1, e9, e11, h⟩
  rw [F8_1_eq]
  unfold F8_1
  have hvw := hv.fr h.fr
  rw [e1, e9, e11]
  refine s_lenS usl22 hvw.src ?_
  by_cases hi : i < s.length
  · refine s_lt_t (by omega) (pC_true (s_step hvw hi fun p => ?_))
    refine b_step h (by omega) hv hi hbd fun w2 h2 => ?_
    refine s_not (pG_yes rfl (pG_yes rfl (b_stands h2 fun w3 h3 => pG_yes rfl (s_not (s_pick_f (pC_false (s_add_in (by omega) ?_)))))))
    refine ⟨m - 1, by omega, i + 1, _, by omega, e1, e9, ?_, h3⟩
    show i64 _ = i64 _; simp
  · refine s_lt_f (by omega) (pC_false ?_)
    rw [F8_2_eq]
    unfold F8_2
    show pFn P _ [ρ 5] _ _
    rw [e9]
    refine b_stands h fun w2 h2 => pG_yes rfl (c_known sortsKeys fun w3 f3 => s_pick_t (hk w3 (h2.fr.trans f3 fun b hb => hb.elim)))
theorem w_plays {v : Value} {s : Script} {room : Int} (hv : ScriptV W v s) (hk : ∀ w', Fr no W w' → k (.bool true) w') : pFn P 8 [i64 room, v] W k := by
  refine F8_in _ _ _ _ ?_
  unfold F8_0
  refine c_long hv fun b w1 f1 hb => ?_
  cases b with
  | true => exact pC_true (hk w1 f1)
  | false =>
    obtain ⟨hl, hbd⟩ := hb rfl
    refine pC_false (st_made ((Sep.base W).q f1) ?_ ?_)
    · intro hr w2 p K hS f2
      refine s_ext rfl (s_ext rfl (s_not (pG_yes rfl (pG_yes rfl (s_nil (pG_yes rfl (fa33_0 (pG_yes rfl (s_ldb (v := .pointer none) (Tryz.isAgg29 _) (hS.cells 0 rfl) rfl (pG_yes rfl (px_ok (w' := w2) (v := .bool true) (by kernel_rfl) (s_pick_f ?_))))))))))))
      refine pC_true ?_
      refine pG_yes rfl ?_
      refine c_known sortsKeys fun w3 f3 => s_pick_t (hk w3 (((f1.trans f2 fun b hb => hb.elim)).trans f3 fun b hb => hb.elim))
    · intro hr w2 Pb D E K hS
      have h2 := Both.new hr hS
      refine s_ext rfl (s_ext rfl (s_not (pG_yes rfl (pG_yes rfl (s_nil (pG_yes rfl (fa33_0 (pG_yes rfl (s_ldb (v := ptr D) (Tryz.isAgg29 _) (hS.cells 0 rfl) rfl (pG_yes rfl ?_))))))))))
      unfold ptr
      refine s_eqpn upt29 (s_pick_f (pC_false ?_))
      exact w_plays1 hv hl hbd hk rfl rfl rfl h2
theorem w_creates {v : Value} {s : Script} {room : Int} (hv : ScriptV W v s) (hk : ∀ w', Fr no W w' → k (.bool true) w') : pFn P 3 [i64 room, v] W k := by
  refine F3_in _ _ _ _ ?_
  unfold F3_0
  exact w_only hv hk
theorem w_writes {v : Value} {s : Script} {room : Int} (hv : ScriptV W v s) (hk : ∀ w', Fr no W w' → k (.bool true) w') : pFn P 4 [i64 room, v] W k := by
  refine F4_in _ _ _ _ ?_
  unfold F4_0
  exact w_only hv hk
theorem w_names {v : Value} {s : Script} {room : Int} (hv : ScriptV W v s) (hk : ∀ w', Fr no W w' → k (.bool true) w') : pFn P 5 [i64 room, v] W k := by
  refine F5_in _ _ _ _ ?_
  unfold F5_0
  exact w_only hv hk
theorem w_syncs {v : Value} {s : Script} {room : Int} (hv : ScriptV W v s) (hk : ∀ w', Fr no W w' → k (.bool true) w') : pFn P 6 [i64 room, v] W k := by
  refine F6_in _ _ _ _ ?_
  unfold F6_0
  exact w_only hv hk
theorem w_reads {v : Value} {s : Script} {room : Int} (hv : ScriptV W v s) (hk : ∀ w', Fr no W w' → k (.bool true) w') : pFn P 7 [i64 room, v] W k := by
  refine F7_in _ _ _ _ ?_
  unfold F7_0
  exact w_only hv hk
end
end Go.Proofs.YtcdcojpfealppaaGreat
