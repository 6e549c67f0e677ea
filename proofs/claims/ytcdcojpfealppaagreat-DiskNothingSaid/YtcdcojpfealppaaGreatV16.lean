/- Put together by a program (wip/tools/shake.py): R5, Pair7, Nothing, Only. -/
import Derived.Test.YtcdcojpfealppaaGreatV15
import Derived.Test.YtcdcojpfealppaaGreatProg
import Derived.Test.YtcdcojpfealppaaGreatMix
import Derived.Test.YtcdcojpfealppaaGreatV14
set_option linter.unusedVariables false
set_option maxRecDepth 100000
namespace Go.Proofs.YtcdcojpfealppaaGreat
open Go Go.Proofs Go.Proofs.XRed Tryz
noncomputable def F19B : Code := bodyOf f19
def F19A (k : Value → World → Prop) (q : List Nat) (ρ : Env) (w : World) : Prop := At prog 105 F19B (retQ prog f19.results.toList k) q ρ w
def F19_0 (p0 : Value) (w : World) (k : Value → World → Prop) : Prop :=
 ∃ S : World → Prop, S w.drew ∧ (fun w =>
 pq prog S (nilSem p0) fun v4 =>
 pq prog S (Instr.fieldAt 33 v4 0) fun v5 =>
 pq prog S (Instr.loadAt 29 v5) fun v6 =>
 pq prog S (nilSem p0) fun v9 =>
 pq prog S (Instr.fieldAt 33 v9 1) fun v10 =>
 pq prog S (Instr.loadAt 30 v10) fun v11 =>
 pFn prog 26 [v6] w fun v7 w => S w ∧ (
 pFn prog 74 [v11] w fun v12 w => S w ∧ (
 pq prog S (binSem .eql 4 (.tmp 7) (.tmp 12) v7 v12) fun v13 =>
 pGq v13 true (fun k => k p0) (next := fun v15 =>
 pGq v13 true (fun k => pq prog S (nilSem v15) k) (next := fun v16 =>
 pGq v13 true (fun k => pq prog S (Instr.fieldAt 33 v16 0) k) (next := fun v17 =>
 pGq v13 true (fun k => pq prog S (Instr.loadAt 29 v17) k) (next := fun v18 =>
 pGq v13 true (fun k => k p0) (next := fun v20 =>
 pGq v13 true (fun k => pq prog S (nilSem v20) k) (next := fun v21 =>
 pGq v13 true (fun k => pq prog S (Instr.fieldAt 33 v21 1) k) (next := fun v22 =>
 pGq v13 true (fun k => pq prog S (Instr.loadAt 30 v22) k) (next := fun v23 =>
 pG v13 true (fun k => pFn prog 57 [v18] w k) (w := w) (next := fun v19 w => S w ∧ (
 pG v13 true (fun k => pFn prog 75 [v23] w k) (w := w) (next := fun v24 w => S w ∧ (
 pGq v13 true (fun k => pq prog S (binSem .eql 3 (.tmp 19) (.tmp 24) v19 v24) k) (next := fun v25 =>
 pq prog S (pickSem v13 v25 (.bool false)) fun v26 =>
 pGq v26 true (fun k => k p0) (next := fun v28 =>
 pGq v26 true (fun k => pq prog S (nilSem v28) k) (next := fun v29 =>
 pGq v26 true (fun k => pq prog S (Instr.fieldAt 33 v29 0) k) (next := fun v30 =>
 pGq v26 true (fun k => pq prog S (Instr.loadAt 29 v30) k) (next := fun v31 =>
 pGq v26 true (fun k => k p0) (next := fun v33 =>
 pGq v26 true (fun k => pq prog S (nilSem v33) k) (next := fun v34 =>
 pGq v26 true (fun k => pq prog S (Instr.fieldAt 33 v34 1) k) (next := fun v35 =>
 pGq v26 true (fun k => pq prog S (Instr.loadAt 30 v35) k) (next := fun v36 =>
 pG v26 true (fun k => pFn prog 60 [v31] w k) (w := w) (next := fun v32 w => S w ∧ (
 pG v26 true (fun k => pFn prog 76 [v36] w k) (w := w) (next := fun v37 w => S w ∧ (
 pGq v26 true (fun k => pq prog S (binSem .eql 3 (.tmp 32) (.tmp 37) v32 v37) k) (next := fun v38 =>
 pq prog S (pickSem v26 v38 (.bool false)) fun v39 =>
 pGq v39 true (fun k => k p0) (next := fun v41 =>
 pGq v39 true (fun k => pq prog S (nilSem v41) k) (next := fun v42 =>
 pGq v39 true (fun k => pq prog S (Instr.fieldAt 33 v42 0) k) (next := fun v43 =>
 pGq v39 true (fun k => pq prog S (Instr.loadAt 29 v43) k) (next := fun v44 =>
 pGq v39 true (fun k => k p0) (next := fun v46 =>
 pGq v39 true (fun k => pq prog S (nilSem v46) k) (next := fun v47 =>
 pGq v39 true (fun k => pq prog S (Instr.fieldAt 33 v47 1) k) (next := fun v48 =>
 pGq v39 true (fun k => pq prog S (Instr.loadAt 30 v48) k) (next := fun v49 =>
 pG v39 true (fun k => pFn prog 27 [v44] w k) (w := w) (next := fun v45 w => S w ∧ (
 pG v39 true (fun k => pFn prog 77 [v49] w k) (w := w) (next := fun v50 w => S w ∧ (
 pGq v39 true (fun k => pq prog S (binSem .eql 3 (.tmp 45) (.tmp 50) v45 v50) k) (next := fun v51 =>
 pq prog S (pickSem v39 v51 (.bool false)) fun v52 =>
 pGq v52 true (fun k => k p0) (next := fun v54 =>
 pGq v52 true (fun k => pq prog S (nilSem v54) k) (next := fun v55 =>
 pGq v52 true (fun k => pq prog S (Instr.fieldAt 33 v55 0) k) (next := fun v56 =>
 pGq v52 true (fun k => pq prog S (Instr.loadAt 29 v56) k) (next := fun v57 =>
 pGq v52 true (fun k => k p0) (next := fun v59 =>
 pGq v52 true (fun k => pq prog S (nilSem v59) k) (next := fun v60 =>
 pGq v52 true (fun k => pq prog S (Instr.fieldAt 33 v60 1) k) (next := fun v61 =>
 pGq v52 true (fun k => pq prog S (Instr.loadAt 30 v61) k) (next := fun v62 =>
 pG v52 true (fun k => pFn prog 28 [v57] w k) (w := w) (next := fun v58 w => S w ∧ (
 pG v52 true (fun k => pFn prog 41 [v62] w k) (w := w) (next := fun v63 w => S w ∧ (
 pG v52 true (fun k => pFn prog 40 [v58, v63] w k) (w := w) (next := fun v64 w => S w ∧ (
 pq prog S (pickSem v52 v64 (.bool false)) fun v65 =>
 pGq v65 true (fun k => k p0) (next := fun v67 =>
 pGq v65 true (fun k => pq prog S (nilSem v67) k) (next := fun v68 =>
 pGq v65 true (fun k => pq prog S (Instr.fieldAt 33 v68 0) k) (next := fun v69 =>
 pGq v65 true (fun k => pq prog S (Instr.loadAt 29 v69) k) (next := fun v70 =>
 pGq v65 true (fun k => k p0) (next := fun v72 =>
 pGq v65 true (fun k => pq prog S (nilSem v72) k) (next := fun v73 =>
 pGq v65 true (fun k => pq prog S (Instr.fieldAt 33 v73 1) k) (next := fun v74 =>
 pGq v65 true (fun k => pq prog S (Instr.loadAt 30 v74) k) (next := fun v75 =>
 pG v65 true (fun k => pFn prog 29 [v70] w k) (w := w) (next := fun v71 w => S w ∧ (
 pG v65 true (fun k => pFn prog 42 [v75] w k) (w := w) (next := fun v76 w => S w ∧ (
 pG v65 true (fun k => pFn prog 40 [v71, v76] w k) (w := w) (next := fun v77 w => S w ∧ (
 pq prog S (pickSem v65 v77 (.bool false)) fun v78 =>
 pGq v78 true (fun k => k p0) (next := fun v80 =>
 pGq v78 true (fun k => pq prog S (nilSem v80) k) (next := fun v81 =>
 pGq v78 true (fun k => pq prog S (Instr.fieldAt 33 v81 0) k) (next := fun v82 =>
 pGq v78 true (fun k => pq prog S (Instr.loadAt 29 v82) k) (next := fun v83 =>
 pGq v78 true (fun k => k p0) (next := fun v85 =>
 pGq v78 true (fun k => pq prog S (nilSem v85) k) (next := fun v86 =>
 pGq v78 true (fun k => pq prog S (Instr.fieldAt 33 v86 1) k) (next := fun v87 =>
 pGq v78 true (fun k => pq prog S (Instr.loadAt 30 v87) k) (next := fun v88 =>
 pG v78 true (fun k => pFn prog 31 [v83] w k) (w := w) (next := fun v84 w => S w ∧ (
 pG v78 true (fun k => pFn prog 33 [v88] w k) (w := w) (next := fun v89 w => S w ∧ (
 pG v78 true (fun k => pFn prog 45 [v84, v89] w k) (w := w) (next := fun v90 w => S w ∧ (
 pq prog S (pickSem v78 v90 (.bool false)) fun v91 =>
 pGq v91 true (fun k => k p0) (next := fun v93 =>
 pGq v91 true (fun k => pq prog S (nilSem v93) k) (next := fun v94 =>
 pGq v91 true (fun k => pq prog S (Instr.fieldAt 33 v94 0) k) (next := fun v95 =>
 pGq v91 true (fun k => pq prog S (Instr.loadAt 29 v95) k) (next := fun v96 =>
 pGq v91 true (fun k => k p0) (next := fun v98 =>
 pGq v91 true (fun k => pq prog S (nilSem v98) k) (next := fun v99 =>
 pGq v91 true (fun k => pq prog S (Instr.fieldAt 33 v99 1) k) (next := fun v100 =>
 pGq v91 true (fun k => pq prog S (Instr.loadAt 30 v100) k) (next := fun v101 =>
 pG v91 true (fun k => pFn prog 30 [v96, (.string (ByteArray.mk #[]))] w k) (w := w) (next := fun v97 w => S w ∧ (
 pG v91 true (fun k => pFn prog 44 [v101, (.string (ByteArray.mk #[]))] w k) (w := w) (next := fun v102 w => S w ∧ (
 pG v91 true (fun k => pFn prog 43 [v97, v102] w k) (w := w) (next := fun v103 w => S w ∧ (
 pq prog S (pickSem v91 v103 (.bool false)) fun v104 =>
 k v104 w)))))))))))))))))))))))))))))))))))))))))))))))))))))))))))))))))))))))))))))))))))))))))))))))))) w.drew
theorem F19_0_eq (p0 : Value) (w : World) (k : Value → World → Prop) : F19A k [] (argEnv [p0]) w = F19_0 p0 w k := by kernel_rfl
noncomputable abbrev F19O : Array Oper := opsOf (sub F19B [1, 0])
def F19l0 : Array Bool := #[false, false, false, false, false, false, false, false, false, false, false, false, false, false, false, false, false, false, false, false, false, false, false, false, false, false, false, false, false, false, false, false, false, false, false, false, false, false, false, false, false, false, false, false, false, false, false, false, false, false, false, false, false, false, false, false, false, false, false, false, false, false, false, false, false, false, false, false, false, false, false, false, false, false, false, false, false, false, false, false, false, false, false, false, false, false, false, false, false, false, false, false, false, false, false, false, false, false, false, false, false, false, false]
def F19l1 : Array Bool := #[true, true, true, true, true, true, true, true, true, true, true, true, true, false, false, false, false, false, false, false, false, false, false, false, false, false, false, false, false, false, false, false, false, false, false, false, false, false, false, false, false, false, false, false, false, false, false, false, false, false, false, false, false, false, false, false, false, false, false, false, false, false, false, false, false, false, false, false, false, false, false, false, false, false, false, false, false, false, false, false, false, false, false, false, false, false, false, false, false, false, false, false, false, false, false, false, false, false, false, false, false, false, false]
def F19l2 : Array Bool := #[true, true, true, true, true, true, true, true, true, true, true, true, true, true, true, true, true, true, true, true, true, true, true, true, true, true, false, false, false, false, false, false, false, false, false, false, false, false, false, false, false, false, false, false, false, false, false, false, false, false, false, false, false, false, false, false, false, false, false, false, false, false, false, false, false, false, false, false, false, false, false, false, false, false, false, false, false, false, false, false, false, false, false, false, false, false, false, false, false, false, false, false, false, false, false, false, false, false, false, false, false, false, false]
def F19l3 : Array Bool := #[true, true, true, true, true, true, true, true, true, true, true, true, true, true, true, true, true, true, true, true, true, true, true, true, true, true, true, true, true, true, true, true, true, true, true, true, true, true, true, false, false, false, false, false, false, false, false, false, false, false, false, false, false, false, false, false, false, false, false, false, false, false, false, false, false, false, false, false, false, false, false, false, false, false, false, false, false, false, false, false, false, false, false, false, false, false, false, false, false, false, false, false, false, false, false, false, false, false, false, false, false, false, false]
def F19l4 : Array Bool := #[true, true, true, true, true, true, true, true, true, true, true, true, true, true, true, true, true, true, true, true, true, true, true, true, true, true, true, true, true, true, true, true, true, true, true, true, true, true, true, true, true, true, true, true, true, true, true, true, true, true, true, true, false, false, false, false, false, false, false, false, false, false, false, false, false, false, false, false, false, false, false, false, false, false, false, false, false, false, false, false, false, false, false, false, false, false, false, false, false, false, false, false, false, false, false, false, false, false, false, false, false, false, false]
def F19l5 : Array Bool := #[true, true, true, true, true, true, true, true, true, true, true, true, true, true, true, true, true, true, true, true, true, true, true, true, true, true, true, true, true, true, true, true, true, true, true, true, true, true, true, true, true, true, true, true, true, true, true, true, true, true, true, true, true, true, true, true, true, true, true, true, true, true, true, true, true, false, false, false, false, false, false, false, false, false, false, false, false, false, false, false, false, false, false, false, false, false, false, false, false, false, false, false, false, false, false, false, false, false, false, false, false, false, false]
def F19l6 : Array Bool := #[true, true, true, true, true, true, true, true, true, true, true, true, true, true, true, true, true, true, true, true, true, true, true, true, true, true, true, true, true, true, true, true, true, true, true, true, true, true, true, true, true, true, true, true, true, true, true, true, true, true, true, true, true, true, true, true, true, true, true, true, true, true, true, true, true, true, true, true, true, true, true, true, true, true, true, true, true, true, false, false, false, false, false, false, false, false, false, false, false, false, false, false, false, false, false, false, false, false, false, false, false, false, false]
def F19l7 : Array Bool := #[true, true, true, true, true, true, true, true, true, true, true, true, true, true, true, true, true, true, true, true, true, true, true, true, true, true, true, true, true, true, true, true, true, true, true, true, true, true, true, true, true, true, true, true, true, true, true, true, true, true, true, true, true, true, true, true, true, true, true, true, true, true, true, true, true, true, true, true, true, true, true, true, true, true, true, true, true, true, true, true, true, true, true, true, true, true, true, true, true, true, true, false, false, false, false, false, false, false, false, false, false, false, false]
def F19l8 : Array Bool := #[true, true, true, true, true, true, true, true, true, true, true, true, true, true, true, true, true, true, true, true, true, true, true, true, true, true, true, true, true, true, true, true, true, true, true, true, true, true, true, true, true, true, true, true, true, true, true, true, true, true, true, true, true, true, true, true, true, true, true, true, true, true, true, true, true, true, true, true, true, true, true, true, true, true, true, true, true, true, true, true, true, true, true, true, true, true, true, true, true, true, true, true, true, true, true, true, true, true, true, true, true, true, true]
theorem F19c0 : drawPre F19O F19l0 [0, 1, 2, 3, 5, 6, 7, 8, 4, 9, 10, 11, 12] = true := by kernel_rfl
theorem F19a0 : listedAt F19l0 [0, 1, 2, 3, 5, 6, 7, 8, 4, 9, 10, 11, 12] = F19l1 := by kernel_rfl
theorem F19c1 : drawPre F19O F19l1 [13, 14, 15, 17, 18, 19, 20, 16, 21, 22, 23, 24, 25] = true := by kernel_rfl
theorem F19a1 : listedAt F19l1 [13, 14, 15, 17, 18, 19, 20, 16, 21, 22, 23, 24, 25] = F19l2 := by kernel_rfl
theorem F19c2 : drawPre F19O F19l2 [26, 27, 28, 30, 31, 32, 33, 29, 34, 35, 36, 37, 38] = true := by kernel_rfl
theorem F19a2 : listedAt F19l2 [26, 27, 28, 30, 31, 32, 33, 29, 34, 35, 36, 37, 38] = F19l3 := by kernel_rfl
theorem F19c3 : drawPre F19O F19l3 [39, 40, 41, 43, 44, 45, 46, 42, 47, 48, 49, 50, 51] = true := by kernel_rfl
theorem F19a3 : listedAt F19l3 [39, 40, 41, 43, 44, 45, 46, 42, 47, 48, 49, 50, 51] = F19l4 := by kernel_rfl
theorem F19c4 : drawPre F19O F19l4 [52, 53, 54, 56, 57, 58, 59, 55, 60, 61, 62, 63, 64] = true := by kernel_rfl
theorem F19a4 : listedAt F19l4 [52, 53, 54, 56, 57, 58, 59, 55, 60, 61, 62, 63, 64] = F19l5 := by kernel_rfl
theorem F19c5 : drawPre F19O F19l5 [65, 66, 67, 69, 70, 71, 72, 68, 73, 74, 75, 76, 77] = true := by kernel_rfl
theorem F19a5 : listedAt F19l5 [65, 66, 67, 69, 70, 71, 72, 68, 73, 74, 75, 76, 77] = F19l6 := by kernel_rfl
theorem F19c6 : drawPre F19O F19l6 [78, 79, 80, 82, 83, 84, 85, 81, 86, 87, 88, 89, 90] = true := by kernel_rfl
theorem F19a6 : listedAt F19l6 [78, 79, 80, 82, 83, 84, 85, 81, 86, 87, 88, 89, 90] = F19l7 := by kernel_rfl
theorem F19c7 : drawPre F19O F19l7 [91, 92, 93, 95, 96, 97, 98, 94, 99, 100, 101, 102] = true := by kernel_rfl
theorem F19a7 : listedAt F19l7 [91, 92, 93, 95, 96, 97, 98, 94, 99, 100, 101, 102] = F19l8 := by kernel_rfl
theorem F19e : drawOk F19O 0 F19l8 [] = true := by kernel_rfl
theorem F19k7 : drawOk F19O 12 F19l7 [91, 92, 93, 95, 96, 97, 98, 94, 99, 100, 101, 102] = true := drawOk_pre (fuel := 0) (o1 := [91, 92, 93, 95, 96, 97, 98, 94, 99, 100, 101, 102]) F19c7 (by rw [F19a7]; exact F19e)
theorem F19k6 : drawOk F19O 25 F19l6 [78, 79, 80, 82, 83, 84, 85, 81, 86, 87, 88, 89, 90, 91, 92, 93, 95, 96, 97, 98, 94, 99, 100, 101, 102] = true := drawOk_pre (fuel := 12) (o1 := [78, 79, 80, 82, 83, 84, 85, 81, 86, 87, 88, 89, 90]) F19c6 (by rw [F19a6]; exact F19k7)
theorem F19k5 : drawOk F19O 38 F19l5 [65, 66, 67, 69, 70, 71, 72, 68, 73, 74, 75, 76, 77, 78, 79, 80, 82, 83, 84, 85, 81, 86, 87, 88, 89, 90, 91, 92, 93, 95, 96, 97, 98, 94, 99, 100, 101, 102] = true := drawOk_pre (fuel := 25) (o1 := [65, 66, 67, 69, 70, 71, 72, 68, 73, 74, 75, 76, 77]) F19c5 (by rw [F19a5]; exact F19k6)
theorem F19k4 : drawOk F19O 51 F19l4 [52, 53, 54, 56, 57, 58, 59, 55, 60, 61, 62, 63, 64, 65, 66, 67, 69, 70, 71, 72, 68, 73, 74, 75, 76, 77, 78, 79, 80, 82, 83, 84, 85, 81, 86, 87, 88, 89, 90, 91, 92, 93, 95, 96, 97, 98, 94, 99, 100, 101, 102] = true := drawOk_pre (fuel := 38) (o1 := [52, 53, 54, 56, 57, 58, 59, 55, 60, 61, 62, 63, 64]) F19c4 (by rw [F19a4]; exact F19k5)
theorem F19k3 : drawOk F19O 64 F19l3 [39, 40, 41, 43, 44, 45, 46, 42, 47, 48, 49, 50, 51, 52, 53, 54, 56, 57, 58, 59, 55, 60, 61, 62, 63, 64, 65, 66, 67, 69, 70, 71, 72, 68, 73, 74, 75, 76, 77, 78, 79, 80, 82, 83, 84, 85, 81, 86, 87, 88, 89, 90, 91, 92, 93, 95, 96, 97, 98, 94, 99, 100, 101, 102] = true := drawOk_pre (fuel := 51) (o1 := [39, 40, 41, 43, 44, 45, 46, 42, 47, 48, 49, 50, 51]) F19c3 (by rw [F19a3]; exact F19k4)
theorem F19k2 : drawOk F19O 77 F19l2 [26, 27, 28, 30, 31, 32, 33, 29, 34, 35, 36, 37, 38, 39, 40, 41, 43, 44, 45, 46, 42, 47, 48, 49, 50, 51, 52, 53, 54, 56, 57, 58, 59, 55, 60, 61, 62, 63, 64, 65, 66, 67, 69, 70, 71, 72, 68, 73, 74, 75, 76, 77, 78, 79, 80, 82, 83, 84, 85, 81, 86, 87, 88, 89, 90, 91, 92, 93, 95, 96, 97, 98, 94, 99, 100, 101, 102] = true := drawOk_pre (fuel := 64) (o1 := [26, 27, 28, 30, 31, 32, 33, 29, 34, 35, 36, 37, 38]) F19c2 (by rw [F19a2]; exact F19k3)
theorem F19k1 : drawOk F19O 90 F19l1 [13, 14, 15, 17, 18, 19, 20, 16, 21, 22, 23, 24, 25, 26, 27, 28, 30, 31, 32, 33, 29, 34, 35, 36, 37, 38, 39, 40, 41, 43, 44, 45, 46, 42, 47, 48, 49, 50, 51, 52, 53, 54, 56, 57, 58, 59, 55, 60, 61, 62, 63, 64, 65, 66, 67, 69, 70, 71, 72, 68, 73, 74, 75, 76, 77, 78, 79, 80, 82, 83, 84, 85, 81, 86, 87, 88, 89, 90, 91, 92, 93, 95, 96, 97, 98, 94, 99, 100, 101, 102] = true := drawOk_pre (fuel := 77) (o1 := [13, 14, 15, 17, 18, 19, 20, 16, 21, 22, 23, 24, 25]) F19c1 (by rw [F19a1]; exact F19k2)
theorem F19k0 : drawOk F19O 103 F19l0 [0, 1, 2, 3, 5, 6, 7, 8, 4, 9, 10, 11, 12, 13, 14, 15, 17, 18, 19, 20, 16, 21, 22, 23, 24, 25, 26, 27, 28, 30, 31, 32, 33, 29, 34, 35, 36, 37, 38, 39, 40, 41, 43, 44, 45, 46, 42, 47, 48, 49, 50, 51, 52, 53, 54, 56, 57, 58, 59, 55, 60, 61, 62, 63, 64, 65, 66, 67, 69, 70, 71, 72, 68, 73, 74, 75, 76, 77, 78, 79, 80, 82, 83, 84, 85, 81, 86, 87, 88, 89, 90, 91, 92, 93, 95, 96, 97, 98, 94, 99, 100, 101, 102] = true := drawOk_pre (fuel := 90) (o1 := [0, 1, 2, 3, 5, 6, 7, 8, 4, 9, 10, 11, 12]) F19c0 (by rw [F19a0]; exact F19k1)
theorem F19z : F19O.size = 103 := by kernel_rfl
theorem F19rp : Array.replicate 103 false = F19l0 := by kernel_rfl
theorem F19ord : drawOrder F19O 103 F19l0 = [0, 1, 2, 3, 5, 6, 7, 8, 4, 9, 10, 11, 12, 13, 14, 15, 17, 18, 19, 20, 16, 21, 22, 23, 24, 25, 26, 27, 28, 30, 31, 32, 33, 29, 34, 35, 36, 37, 38, 39, 40, 41, 43, 44, 45, 46, 42, 47, 48, 49, 50, 51, 52, 53, 54, 56, 57, 58, 59, 55, 60, 61, 62, 63, 64, 65, 66, 67, 69, 70, 71, 72, 68, 73, 74, 75, 76, 77, 78, 79, 80, 82, 83, 84, 85, 81, 86, 87, 88, 89, 90, 91, 92, 93, 95, 96, 97, 98, 94, 99, 100, 101, 102] := by kernel_rfl
theorem F19wf : wfOps f19.ntmps F19O.toList = true := by kernel_rfl
theorem F19ns : Region.noSelect F19O = true := by kernel_rfl
theorem F19fd : Code.fits f19.ntmps (sub F19B [1, 0]) = true := fits_drawn (c := sub F19B [1, 0]) (by kernel_rfl) F19wf F19ns (ord := [0, 1, 2, 3, 5, 6, 7, 8, 4, 9, 10, 11, 12, 13, 14, 15, 17, 18, 19, 20, 16, 21, 22, 23, 24, 25, 26, 27, 28, 30, 31, 32, 33, 29, 34, 35, 36, 37, 38, 39, 40, 41, 43, 44, 45, 46, 42, 47, 48, 49, 50, 51, 52, 53, 54, 56, 57, 58, 59, 55, 60, 61, 62, 63, 64, 65, 66, 67, 69, 70, 71, 72, 68, 73, 74, 75, 76, 77, 78, 79, 80, 82, 83, 84, 85, 81, 86, 87, 88, 89, 90, 91, 92, 93, 95, 96, 97, 98, 94, 99, 100, 101, 102]) (by show drawOrder F19O F19O.size (Array.replicate F19O.size false) = _; rw [F19z, F19rp]; exact F19ord) (by show drawOk F19O F19O.size (Array.replicate F19O.size false) _ = true; rw [F19z, F19rp]; exact F19k0)
theorem F19fit : Code.fits f19.ntmps (bodyOf f19) = true := fits_seq (B := bodyOf f19) (by kernel_rfl) (by kernel_rfl) (fits_seq (B := sub (bodyOf f19) [1]) (by kernel_rfl) F19fd (by kernel_rfl))
theorem F19_in (p0 : Value) (w : World) (k : Value → World → Prop) (h : F19_0 p0 w k) : pFn prog 19 [p0] w k :=
 pFn_of_at mixed func19 (by kernel_rfl) (by kernel_rfl) rfl F19fit (by kernel_rfl) (by simp) ((F19_0_eq p0 w k).mpr h)
end Go.Proofs.YtcdcojpfealppaaGreat

set_option linter.unusedVariables false
set_option linter.unusedSimpArgs false
set_option maxRecDepth 100000
namespace Go.Proofs.YtcdcojpfealppaaGreat
open Go Go.Proofs Go.RowKit Go.Proofs.XRed Go.Proofs.XHeap Go.Proofs.XMaps Go.Proofs.XSlices Go.Proofs.XDisk Go.Proofs.XCalls Go.Proofs.XSep Tryz
section
variable {w w0 : World} {k : Value → World → Prop}
variable {W : World} {xb Pb D E K c : Nat} {x : StepA} {dv pv' bv pv : Value} {S T : AD} {bb : Bytes} {pp : List Int} {l : List Asrt}
theorem s_eqb {a b : Bool} {w : World} {x y : Operand} {k : Value → World → Prop} (h : a = b) (hk : k (.bool true) w) : px P (binSem .eql 4 x y (.bool a) (.bool b)) w k := by
 subst h
 exact s_bin (by simp) (by simp) (run_eql_bool w 4 a a underlying4) (by simpa using hk)
end
end Go.Proofs.YtcdcojpfealppaaGreat

set_option linter.unusedVariables false
set_option linter.unusedSimpArgs false
set_option maxRecDepth 100000
namespace Go.Proofs.YtcdcojpfealppaaGreat
open Go Go.Proofs Go.RowKit Go.Proofs.XRed Go.Proofs.XHeap Go.Proofs.XMaps Go.Proofs.XSlices Go.Proofs.XDisk Go.Proofs.XCalls Go.Proofs.XSep Tryz
def ND (p : Option Addr) : Asrt where
 h w O I := NilD w p ∧ (∀ x, O x ↔ p = some ⟨x, 0, none⟩) ∧ ∀ x, ¬ I x
 fr := fun ⟨h1, h2, h3⟩ hf hm => ⟨h1.imp id fun ⟨b, cs, e, g, z⟩ => ⟨b, cs, e, hf.get g fun h => (hm b h).1 ((h2 b).2 e), z⟩, h2, h3⟩
 lt := fun ⟨h1, h2, h3⟩ x hx => by
  rcases hx with hx | hx
  ·rcases h1 with rfl | ⟨b, cs, rfl, g, _⟩
   ·have := (h2 x).1 hx; cases this
   ·have := (h2 x).1 hx
    injection this with this; injection this with this
    exact this ▸ lt_of_get g
  ·exact absurd hx (h3 x)
 ap := fun ⟨h1, h2, h3⟩ x _ => h3 x
def NR (p : Option Addr) : Asrt where
 h w O I := NilR w p ∧ (∀ x, O x ↔ p = some ⟨x, 0, none⟩) ∧ ∀ x, ¬ I x
 fr := fun ⟨h1, h2, h3⟩ hf hm => ⟨h1.imp id fun ⟨b, e, g⟩ => ⟨b, e, hf.get g fun h => (hm b h).1 ((h2 b).2 e)⟩, h2, h3⟩
 lt := fun ⟨h1, h2, h3⟩ x hx => by
  rcases hx with hx | hx
  ·rcases h1 with rfl | ⟨b, rfl, g⟩
   ·have := (h2 x).1 hx; cases this
   ·have := (h2 x).1 hx
    injection this with this; injection this with this
    exact this ▸ lt_of_get g
  ·exact absurd hx (h3 x)
 ap := fun ⟨h1, h2, h3⟩ x _ => h3 x
theorem Sep.nd {l : List Asrt} {w : World} {p : Option Addr} (h : Sep l w) (i : Nat) (hi : l[i]? = some (ND p)) : NilD w p := by
 obtain ⟨O, I, h, _⟩ := h.get i hi; exact h
theorem Sep.nr {l : List Asrt} {w : World} {p : Option Addr} (h : Sep l w) (i : Nat) (hi : l[i]? = some (NR p)) : NilR w p := by
 obtain ⟨O, I, h, _⟩ := h.get i hi; exact h
section
variable {w w0 : World} {k : Value → World → Prop}
abbrev PairN (Pb : Nat) (dp ep : Option Addr) (K : Nat) (bv pv : Value) (bb : Bytes) (pp : List Int) (l : List Asrt) : List Asrt :=
 Cells Pb #[.pointer dp, .pointer ep, ptr K] 33 :: ND dp :: NR ep :: DeskA K bv pv bb pp :: l
abbrev StepN (xb : Nat) (x : StepA) (dv pv' : Value) (Pb : Nat) (dp ep : Option Addr) (K : Nat) (bv pv : Value) (bb : Bytes) (pp : List Int) (l : List Asrt) : List Asrt :=
 Cells xb (stepCells x dv pv').toArray 41 :: Cells Pb #[.pointer dp, .pointer ep, ptr K] 33 :: ND dp :: NR ep :: DeskA K bv pv bb pp :: l
abbrev SeenN (xb : Nat) (x : StepA) (dv pv' : Value) (Pb : Nat) (dp ep : Option Addr) (K : Nat) (w : World) : Prop :=
 w.heap[xb]? = some (.cells (stepCells x dv pv').toArray 41 (0, 0)) ∧ w.heap[Pb]? = some (.cells #[.pointer dp, .pointer ep, ptr K] 33 (0, 0))
theorem seenN {xb : Nat} {x : StepA} {dv pv' : Value} {Pb : Nat} {dp ep : Option Addr} {K : Nat} {l : List Asrt} (h : Sep (Cells xb (stepCells x dv pv').toArray 41 :: Cells Pb #[.pointer dp, .pointer ep, ptr K] 33 :: l) w) : SeenN xb x dv pv' Pb dp ep K w := ⟨h.cells 0 rfl, h.cells 1 rfl⟩
variable {W : World} {xb Pb K c : Nat} {dp ep : Option Addr} {x : StepA} {dv pv' bv pv : Value} {bb : Bytes} {pp : List Int} {l : List Asrt}
theorem nst_laid {n : Nat} (hS : Sep (StepN xb x dv pv' Pb dp ep K bv pv (x.data ++ List.replicate n 171) pp (Base W :: l)) w) (hv : StepV W x dv pv') (hd : x.data.length ≤ 100000) (hn : x.data.length + n ≤ 1099511627776)
    (hk : ∀ w' bv' m, Sep (StepN xb x dv pv' Pb dp ep K bv' pv (List.replicate m 171) pp (Base W :: l)) w' → m ≤ max (x.data.length + n) 40 → k (.bool true) w') : pFn P 65 [ptr Pb, stepVal x dv pv'] w k := by
  obtain ⟨Ad, cd, ed, _⟩ := hv.data.form
  refine F65_in _ _ _ _ ?_
  unfold F65_0
  refine s_box ?_
  have hS1 : Sep (Cells w.heap.size (stepCells x dv pv').toArray 41 :: StepN xb x dv pv' Pb dp ep K bv pv (x.data ++ List.replicate n 171) pp (Base W :: l)) (w.alloc (.cells (stepCells x dv pv').toArray 41)) := hS.cell _ _
  rw [show (stepVal x dv pv').cells = (stepCells x dv pv').toArray from rfl]
  generalize w.alloc (.cells (stepCells x dv pv').toArray 41) = w1 at *
  generalize w.heap.size = x2 at *
  have hS1 := hS1.q (Fr.drew _ _)
  refine ⟨fun u => u.heap[x2]? = some (.cells (stepCells x dv pv').toArray 41 (0, 0)) ∧ u.heap[Pb]? = some (.cells #[.pointer dp, .pointer ep, ptr K] 33 (0, 0)), ⟨hS1.cells 0 rfl, hS1.cells 2 rfl⟩, ?_⟩
  refine q_of _ (fun w_ hS => s_nil ⟨rfl, rfl⟩) (q_of _ (fun w_ hS => fa33_2 ⟨rfl, rfl⟩) (q_of (ptr K) (fun w_ hS => s_ldb (isAgg31 _) hS.2 rfl ⟨rfl, rfl⟩) ?_))
  refine q_of _ (fun w_ hS => fa41_5 ⟨rfl, rfl⟩) (q_of dv (fun w_ hS => s_ldb (isAgg36 _) hS.1 rfl ⟨rfl, rfl⟩) ?_)
  obtain ⟨O, I, ⟨h1, h2, _⟩⟩ := hS1.get 5 rfl
  have hdw := (hv.fr (hS1.base_at 6 rfl)).data
  refine c_lies (n := n) h1 (by simpa using h2) hdw hn fun w3 f3 => ?_
  have hS3 := hS1.q f3
  refine ⟨⟨hS3.cells 0 rfl, hS3.cells 2 rfl⟩, ?_⟩
  refine s_nil (fa33_2 (s_ldb (v := ptr K) (isAgg31 _) (hS3.cells 2 rfl) rfl ?_))
  refine s_lay (d := []) hS3 (i := 5) (j := 6) (by decide) rfl rfl (SBytes.nil W) (by simp; omega) (by simp) fun w4 bv' v m hS4 hm _ _ => ?_
  have hS5 : Sep (Cells x2 (stepCells x dv pv').toArray 41 :: StepN xb x dv pv' Pb dp ep K bv' pv (List.replicate m 171) pp (Base W :: l)) w4 := hS4
  exact hk w4 bv' m hS5.drop (by simpa using hm)
abbrev StepEndN (W : World) (Pb : Nat) (dp ep : Option Addr) (K : Nat) (l : List Asrt) (k : Value → World → Prop) : Prop := ∀ w' bv' pv'' bb' pp', Sep (PairN Pb dp ep K bv' pv'' bb' pp' (Base W :: l)) w' → bb'.length ≤ 1000000 → k (.bool true) w'
set_option maxHeartbeats 2000000 in
theorem nst_other (hS : Sep (PairN Pb dp ep K bv pv bb pp (Base W :: l)) w) (hv : StepV W x dv pv') (hd : x.data.length ≤ 100000) (hpk : x.picks.length ≤ 100000) (hbb : bb.length ≤ 1000000) (hk : StepEndN W Pb dp ep K l k) (hn : x.kind ≠ 14) : pFn P 73 [ptr Pb, stepVal x dv pv'] w k := by
 refine F73_in _ _ _ _ ?_
 unfold F73_0
 refine s_box ?_
 replace hS : Sep (StepN w.heap.size x dv pv' Pb dp ep K bv pv bb pp (Base W :: l)) (w.alloc (.cells (stepCells x dv pv').toArray 41)) := hS.cell _ _
 rw [show (stepVal x dv pv').cells = (stepCells x dv pv').toArray from rfl]
 generalize w.alloc (.cells (stepCells x dv pv').toArray 41) = w1 at *
 show px P (Instr.fieldAt 41 (ptr w.heap.size) 0) w1 _
 generalize w.heap.size = xb at *
 refine fa41_0 (s_ldb (v := i64 x.kind) (isAgg3 _) (hS.cells 0 rfl) rfl ?_)
 by_cases k9 : x.kind = 9
 ·refine s_eqi_t k9 (pC_true ?_)
  replace hS := hS.q (Fr.drew _ _)
  refine ⟨SeenN xb x dv pv' Pb dp ep K, seenN hS, ?_⟩
  refine q_of _ (fun w_ hS => s_nil ⟨rfl, rfl⟩) (q_of _ (fun w_ hS => fa33_0 ⟨rfl, rfl⟩) (q_of (.pointer dp) (fun w_ hS => s_ldb (isAgg29 _) hS.2 rfl ⟨rfl, rfl⟩) ?_))
  refine q_of _ (fun w_ hS => fa41_1 ⟨rfl, rfl⟩) (q_of (.string x.name) (fun w_ hS => s_ldb (isAgg9 _) hS.1 rfl ⟨rfl, rfl⟩) ?_)
  refine q_of _ (fun w_ hS => fa41_3 ⟨rfl, rfl⟩) (q_of (i64 x.at_) (fun w_ hS => s_ldb (isAgg3 _) hS.1 rfl ⟨rfl, rfl⟩) ?_)
  refine q_of _ (fun w_ hS => fa41_4 ⟨rfl, rfl⟩) (q_of (i64 x.n) (fun w_ hS => s_ldb (isAgg3 _) hS.1 rfl ⟨rfl, rfl⟩) ?_)
  refine n_read (Sep.nd hS 2 rfl) ⟨seenN hS, q_of _ (fun w_ hS => s_ext rfl ⟨rfl, rfl⟩) (q_of _ (fun w_ hS => s_ext rfl ⟨rfl, rfl⟩) ?_)⟩
  replace hS := hS.q (Fr.drew _ _)
  refine ⟨SeenN xb x dv pv' Pb dp ep K, seenN hS, ?_⟩
  refine q_of _ (fun w_ hS => s_nil ⟨rfl, rfl⟩) (q_of _ (fun w_ hS => fa33_1 ⟨rfl, rfl⟩) (q_of (.pointer ep) (fun w_ hS => s_ldb (isAgg30 _) hS.2 rfl ⟨rfl, rfl⟩) ?_))
  refine q_of _ (fun w_ hS => fa41_1 ⟨rfl, rfl⟩) (q_of (.string x.name) (fun w_ hS => s_ldb (isAgg9 _) hS.1 rfl ⟨rfl, rfl⟩) ?_)
  refine q_of _ (fun w_ hS => fa41_3 ⟨rfl, rfl⟩) (q_of (i64 x.at_) (fun w_ hS => s_ldb (isAgg3 _) hS.1 rfl ⟨rfl, rfl⟩) ?_)
  refine q_of _ (fun w_ hS => fa41_4 ⟨rfl, rfl⟩) (q_of (i64 x.n) (fun w_ hS => s_ldb (isAgg3 _) hS.1 rfl ⟨rfl, rfl⟩) ?_)
  refine nr_read (Sep.nr hS 3 rfl) ⟨seenN hS, q_of _ (fun w_ hS => s_ext rfl ⟨rfl, rfl⟩) (q_of _ (fun w_ hS => s_ext rfl ⟨rfl, rfl⟩) ?_)⟩
  refine c_num _ (s_eqi_t rfl (pG_yes rfl (pG_yes rfl (pG_yes rfl ?_))))
  refine c_bytes (SBytes.nil _) (SBytes.nil _) (by simp) fun w3 f3 => ?_
  rw [decide_eq_true rfl]
  exact s_pick_t (hk w3 bv pv bb pp (hS.q f3).drop hbb)
 refine s_eqi_f k9 (pC_false ?_)
 by_cases k10 : x.kind = 10
 ·refine s_eqi_t k10 (pC_true ?_)
  replace hS := hS.q (Fr.drew _ _)
  refine ⟨SeenN xb x dv pv' Pb dp ep K, seenN hS, ?_⟩
  refine q_of _ (fun w_ hS => s_nil ⟨rfl, rfl⟩) (q_of _ (fun w_ hS => fa33_0 ⟨rfl, rfl⟩) (q_of (.pointer dp) (fun w_ hS => s_ldb (isAgg29 _) hS.2 rfl ⟨rfl, rfl⟩) ?_))
  refine q_of _ (fun w_ hS => fa41_1 ⟨rfl, rfl⟩) (q_of (.string x.name) (fun w_ hS => s_ldb (isAgg9 _) hS.1 rfl ⟨rfl, rfl⟩) ?_)
  refine n_size (Sep.nd hS 2 rfl) ⟨seenN hS, q_of _ (fun w_ hS => s_ext rfl ⟨rfl, rfl⟩) (q_of _ (fun w_ hS => s_ext rfl ⟨rfl, rfl⟩) ?_)⟩
  replace hS := hS.q (Fr.drew _ _)
  refine ⟨SeenN xb x dv pv' Pb dp ep K, seenN hS, ?_⟩
  refine q_of _ (fun w_ hS => s_nil ⟨rfl, rfl⟩) (q_of _ (fun w_ hS => fa33_1 ⟨rfl, rfl⟩) (q_of (.pointer ep) (fun w_ hS => s_ldb (isAgg30 _) hS.2 rfl ⟨rfl, rfl⟩) ?_))
  refine q_of _ (fun w_ hS => fa41_1 ⟨rfl, rfl⟩) (q_of (.string x.name) (fun w_ hS => s_ldb (isAgg9 _) hS.1 rfl ⟨rfl, rfl⟩) ?_)
  refine nr_size (Sep.nr hS 3 rfl) ⟨seenN hS, q_of _ (fun w_ hS => s_ext rfl ⟨rfl, rfl⟩) (q_of _ (fun w_ hS => s_ext rfl ⟨rfl, rfl⟩) ?_)⟩
  replace hS := hS.q (Fr.drew _ _)
  refine ⟨SeenN xb x dv pv' Pb dp ep K, seenN hS, c_num _ ⟨seenN hS, q_of (.bool true) (fun w_ hS => s_eqi_t rfl ⟨rfl, rfl⟩) (pGq_yes rfl (pGq_yes rfl (pGq_yes rfl (q_of (.bool true) (fun w_ hS => s_eqi_t rfl ⟨rfl, rfl⟩) (q_of (.bool true) (fun w_ hS => s_pick_t ⟨rfl, rfl⟩) ?_)))))⟩⟩
  refine pGq_yes rfl (pGq_yes rfl (q_of _ (fun w_ hS => s_nil ⟨rfl, rfl⟩) (pGq_yes rfl (q_of _ (fun w_ hS => fa33_0 ⟨rfl, rfl⟩) (pGq_yes rfl (q_of (.pointer dp) (fun w_ hS => s_ldb (isAgg29 _) hS.2 rfl ⟨rfl, rfl⟩) (pGq_yes rfl ?_)))))))
  refine q_of _ (fun w_ hS => fa41_1 ⟨rfl, rfl⟩) (pGq_yes rfl (q_of (.string x.name) (fun w_ hS => s_ldb (isAgg9 _) hS.1 rfl ⟨rfl, rfl⟩) ?_))
  refine pGq_yes rfl (pGq_yes rfl (q_of _ (fun w_ hS => s_nil ⟨rfl, rfl⟩) (pGq_yes rfl (q_of _ (fun w_ hS => fa33_1 ⟨rfl, rfl⟩) (pGq_yes rfl (q_of (.pointer ep) (fun w_ hS => s_ldb (isAgg30 _) hS.2 rfl ⟨rfl, rfl⟩) (pGq_yes rfl ?_)))))))
  refine q_of _ (fun w_ hS => fa41_1 ⟨rfl, rfl⟩) (pGq_yes rfl (q_of (.string x.name) (fun w_ hS => s_ldb (isAgg9 _) hS.1 rfl ⟨rfl, rfl⟩) ?_))
  refine pG_yes rfl (n_list (Sep.nd hS 2 rfl) fun w2 f2 => ?_)
  replace hS := hS.q f2
  refine ⟨seenN hS, pG_yes rfl (nr_list (Sep.nr hS 3 rfl) ⟨seenN hS, pG_yes rfl (c_namesEq (x := []) (y := []) (Src.nil _ 1) (Src.nil _ 1) (by simp) fun b w4 f4 hb => ?_)⟩)⟩
  rw [hb.2 rfl]
  replace hS := hS.q f4
  exact ⟨seenN hS, q_of (.bool true) (fun w_ hS => s_pick_t ⟨rfl, rfl⟩) (hk w4 bv pv bb pp hS.drop hbb)⟩
 refine s_eqi_f k10 (pC_false ?_)
 by_cases k11 : x.kind = 11
 ·refine s_eqi_t k11 (pC_true ?_)
  replace hS := hS.q (Fr.drew _ _)
  refine ⟨SeenN xb x dv pv' Pb dp ep K, seenN hS, ?_⟩
  refine q_of _ (fun w_ hS => s_nil ⟨rfl, rfl⟩) (q_of _ (fun w_ hS => fa33_0 ⟨rfl, rfl⟩) (q_of (.pointer dp) (fun w_ hS => s_ldb (isAgg29 _) hS.2 rfl ⟨rfl, rfl⟩) ?_))
  refine q_of _ (fun w_ hS => fa41_6 ⟨rfl, rfl⟩) (q_of (planVal x.plan) (fun w_ hS => s_ldAgg (m := 3) (isAgg38 _) (sizeOf38 _) hS.1 (by show 0 + 6 + 3 ≤ 10; decide) ⟨rfl, rfl⟩) ?_)
  refine n_plan (Sep.nd hS 2 rfl) fun w2 f2 => ?_
  replace hS := hS.q f2
  replace hS := hS.q (Fr.drew _ _)
  refine ⟨SeenN xb x dv pv' Pb dp ep K, seenN hS, ?_⟩
  refine q_of _ (fun w_ hS => s_nil ⟨rfl, rfl⟩) (q_of _ (fun w_ hS => fa33_1 ⟨rfl, rfl⟩) (q_of (.pointer ep) (fun w_ hS => s_ldb (isAgg30 _) hS.2 rfl ⟨rfl, rfl⟩) ?_))
  refine q_of _ (fun w_ hS => fa41_6 ⟨rfl, rfl⟩) (q_of (planVal x.plan) (fun w_ hS => s_ldAgg (m := 3) (isAgg38 _) (sizeOf38 _) hS.1 (by show 0 + 6 + 3 ≤ 10; decide) ⟨rfl, rfl⟩) ?_)
  refine nr_plan (Sep.nr hS 3 rfl) fun w3 f3 => ?_
  rw [F73_1_eq]
  exact hk w3 bv pv bb pp (hS.q f3).drop hbb
 refine s_eqi_f k11 (pC_false ?_)
 by_cases k12 : x.kind = 12
 ·refine s_eqi_t k12 (pC_true ?_)
  replace hS := hS.q (Fr.drew _ _)
  refine ⟨SeenN xb x dv pv' Pb dp ep K, seenN hS, ?_⟩
  refine q_of _ (fun w_ hS => s_nil ⟨rfl, rfl⟩) (q_of _ (fun w_ hS => fa33_0 ⟨rfl, rfl⟩) (q_of (.pointer dp) (fun w_ hS => s_ldb (isAgg29 _) hS.2 rfl ⟨rfl, rfl⟩) ?_))
  refine q_of _ (fun w_ hS => s_nil ⟨rfl, rfl⟩) (q_of _ (fun w_ hS => fa33_2 ⟨rfl, rfl⟩) (q_of (ptr K) (fun w_ hS => s_ldb (isAgg31 _) hS.2 rfl ⟨rfl, rfl⟩) ?_))
  refine q_of _ (fun w_ hS => fa41_7 ⟨rfl, rfl⟩) (q_of (pv') (fun w_ hS => s_ldb (isAgg39 _) hS.1 rfl ⟨rfl, rfl⟩) ?_)
  refine s_picks (d := x.picks) hS (i := 4) (j := 5) (by decide) rfl rfl hv.picks (by omega) fun w2 pv2 v2 hS2 g2 b2 => ?_
  replace hS2 : Sep (StepN xb x dv pv' Pb dp ep K bv pv2 bb (x.picks ++ List.replicate 3 77) (Base W :: l)) w2 := hS2
  refine ⟨seenN hS2, n_crash (Sep.nd hS2 2 rfl) fun w3 f3 => ?_⟩
  replace hS := hS2.q f3
  replace hS := hS.q (Fr.drew _ _)
  refine ⟨SeenN xb x dv pv' Pb dp ep K, seenN hS, ?_⟩
  refine q_of _ (fun w_ hS => s_nil ⟨rfl, rfl⟩) (q_of _ (fun w_ hS => fa33_1 ⟨rfl, rfl⟩) (q_of (.pointer ep) (fun w_ hS => s_ldb (isAgg30 _) hS.2 rfl ⟨rfl, rfl⟩) ?_))
  refine q_of _ (fun w_ hS => fa41_7 ⟨rfl, rfl⟩) (q_of (pv') (fun w_ hS => s_ldb (isAgg39 _) hS.1 rfl ⟨rfl, rfl⟩) ?_)
  refine nr_crash (Sep.nr hS 3 rfl) ?_
  replace hS := hS.q (Fr.drew _ _)
  refine ⟨SeenN xb x dv pv' Pb dp ep K, seenN hS, ?_⟩
  refine q_of _ (fun w_ hS => s_nil ⟨rfl, rfl⟩) (q_of _ (fun w_ hS => fa33_2 ⟨rfl, rfl⟩) (q_of (ptr K) (fun w_ hS => s_ldb (isAgg31 _) hS.2 rfl ⟨rfl, rfl⟩) ?_))
  refine q_of _ (fun w_ hS => fa41_7 ⟨rfl, rfl⟩) (q_of (pv') (fun w_ hS => s_ldb (isAgg39 _) hS.1 rfl ⟨rfl, rfl⟩) ?_)
  obtain ⟨O, I, ⟨g1, g3, g4, _⟩⟩ := hS.get 4 rfl
  refine c_picked (n := 3) g1 (by simpa using g4) (hv.fr (hS.base_at 5 rfl)).picks (by omega) fun w5 f5 => ?_
  replace hS := hS.q f5
  refine ⟨seenN hS, s_nil (fa33_2 (s_ldb (v := ptr K) (isAgg31 _) (hS.cells 1 rfl) rfl ?_))⟩
  refine s_picks (d := []) hS (i := 4) (j := 5) (by decide) rfl rfl (Src.nil W 1) (by simp) fun w6 pv6 v6 hS6 _ _ => ?_
  exact hk w6 bv pv6 bb _ (Sep.drop (a := Cells xb (stepCells x dv pv').toArray 41) hS6) hbb
 refine s_eqi_f k12 (pC_false ?_)
 by_cases k13 : x.kind = 13
 ·refine s_eqi_t k13 (pC_true (s_nil (fa33_0 (s_ldb (v := .pointer dp) (isAgg29 _) (hS.cells 1 rfl) rfl ?_))))
  refine n_lookF (Sep.nd hS 2 rfl) (s_nil (fa33_1 (s_ldb (v := .pointer ep) (isAgg30 _) (hS.cells 1 rfl) rfl ?_)))
  refine nr_look (Sep.nr hS 3 rfl) fun w2 hw => ?_
  rw [F73_1_eq]
  rcases hw with ⟨rfl, rfl⟩ | ⟨b, rfl, rfl⟩
  ·exact hk w2 bv pv bb pp hS.drop hbb
  ·refine hk _ bv pv bb pp ?_ hbb
   obtain ⟨O, I, J, ⟨h1, h2, h3⟩, -, -, nx⟩ := hS.at_ 3 rfl
   have hn := (nx (NR (some ⟨b, 0, none⟩)) (w1.setCell ⟨b, 10, none⟩ (.slice none 0 0)) O I ⟨?_, h2, h3⟩ ⟨(Fr.setCell w1 ⟨b, 10, none⟩ _).mono fun y hy => .inl ((h2 y).2 (by rw [show y = b from hy])), fun y => .inl, fun y hy => absurd hy (h3 y)⟩)
   ·exact Sep.drop (a := Cells xb (stepCells x dv pv').toArray 41) hn
   ·rcases h1 with h1 | ⟨b', e, g⟩
    ·cases h1
    ·injection e with e; injection e with e; subst e
     exact .inr ⟨b, rfl, set_same g 10 (.slice none 0 0)⟩
 refine s_eqi_f k13 (pC_false ?_)
 refine s_eqi_f hn (pC_false ?_)
 rw [F73_1_eq]
 exact hk w1 bv pv bb pp hS.drop hbb
set_option maxHeartbeats 2000000 in
theorem nst_step (hS : Sep (PairN Pb dp ep K bv pv bb pp (Base W :: l)) w) (hv : StepV W x dv pv') (hd : x.data.length ≤ 100000) (hpk : x.picks.length ≤ 100000) (hbb : bb.length ≤ 1000000) (hk : StepEndN W Pb dp ep K l k) (hn : x.kind ≠ 14) : pFn P 18 [ptr Pb, stepVal x dv pv'] w k := by
 refine F18_in _ _ _ _ ?_
 unfold F18_0
 refine s_box ?_
 replace hS : Sep (StepN w.heap.size x dv pv' Pb dp ep K bv pv bb pp (Base W :: l)) (w.alloc (.cells (stepCells x dv pv').toArray 41)) := hS.cell _ _
 rw [show (stepVal x dv pv').cells = (stepCells x dv pv').toArray from rfl]
 generalize w.alloc (.cells (stepCells x dv pv').toArray 41) = w1 at *
 show px P (Instr.fieldAt 41 (ptr w.heap.size) 0) w1 _
 generalize w.heap.size = xb at *
 refine fa41_0 (s_ldb (v := i64 x.kind) (isAgg3 _) (hS.cells 0 rfl) rfl ?_)
 by_cases k1 : x.kind = 1
 ·refine s_eqi_t k1 (pC_true ?_)
  replace hS := hS.q (Fr.drew _ _)
  refine ⟨SeenN xb x dv pv' Pb dp ep K, seenN hS, ?_⟩
  refine q_of _ (fun w_ hS => s_nil ⟨rfl, rfl⟩) (q_of _ (fun w_ hS => fa33_0 ⟨rfl, rfl⟩) (q_of (.pointer dp) (fun w_ hS => s_ldb (isAgg29 _) hS.2 rfl ⟨rfl, rfl⟩) ?_))
  refine q_of _ (fun w_ hS => fa41_1 ⟨rfl, rfl⟩) (q_of (.string x.name) (fun w_ hS => s_ldb (isAgg9 _) hS.1 rfl ⟨rfl, rfl⟩) ?_)
  refine q_of _ (fun w_ hS => s_nil ⟨rfl, rfl⟩) (q_of _ (fun w_ hS => fa33_1 ⟨rfl, rfl⟩) (q_of (.pointer ep) (fun w_ hS => s_ldb (isAgg30 _) hS.2 rfl ⟨rfl, rfl⟩) ?_))
  refine q_of _ (fun w_ hS => fa41_1 ⟨rfl, rfl⟩) (q_of (.string x.name) (fun w_ hS => s_ldb (isAgg9 _) hS.1 rfl ⟨rfl, rfl⟩) ?_)
  refine n_create (Sep.nd hS 2 rfl) fun w2 f2 => ?_
  replace hS := hS.q f2
  exact ⟨seenN hS, c_num _ ⟨seenN hS, nr_create (Sep.nr hS 3 rfl) ⟨seenN hS, q_of (.bool true) (fun w_ hS => s_eqi_t rfl ⟨rfl, rfl⟩) (hk _ bv pv bb pp hS.drop hbb)⟩⟩⟩
 refine s_eqi_f k1 (pC_false ?_)
 by_cases k2 : x.kind = 2
 ·refine s_eqi_t k2 (pC_true ?_)
  replace hS := hS.q (Fr.drew _ _)
  refine ⟨SeenN xb x dv pv' Pb dp ep K, seenN hS, ?_⟩
  refine q_of _ (fun w_ hS => s_nil ⟨rfl, rfl⟩) (q_of _ (fun w_ hS => fa33_0 ⟨rfl, rfl⟩) (q_of (.pointer dp) (fun w_ hS => s_ldb (isAgg29 _) hS.2 rfl ⟨rfl, rfl⟩) ?_))
  refine q_of _ (fun w_ hS => fa41_1 ⟨rfl, rfl⟩) (q_of (.string x.name) (fun w_ hS => s_ldb (isAgg9 _) hS.1 rfl ⟨rfl, rfl⟩) ?_)
  refine q_of _ (fun w_ hS => fa41_3 ⟨rfl, rfl⟩) (q_of (i64 x.at_) (fun w_ hS => s_ldb (isAgg3 _) hS.1 rfl ⟨rfl, rfl⟩) ?_)
  refine q_of _ (fun w_ hS => s_nil ⟨rfl, rfl⟩) (q_of _ (fun w_ hS => fa33_2 ⟨rfl, rfl⟩) (q_of (ptr K) (fun w_ hS => s_ldb (isAgg31 _) hS.2 rfl ⟨rfl, rfl⟩) ?_))
  refine q_of _ (fun w_ hS => fa41_5 ⟨rfl, rfl⟩) (q_of (dv) (fun w_ hS => s_ldb (isAgg36 _) hS.1 rfl ⟨rfl, rfl⟩) ?_)
  refine q_of _ (fun w_ hS => s_nil ⟨rfl, rfl⟩) (q_of _ (fun w_ hS => fa33_1 ⟨rfl, rfl⟩) (q_of (.pointer ep) (fun w_ hS => s_ldb (isAgg30 _) hS.2 rfl ⟨rfl, rfl⟩) ?_))
  refine q_of _ (fun w_ hS => fa41_1 ⟨rfl, rfl⟩) (q_of (.string x.name) (fun w_ hS => s_ldb (isAgg9 _) hS.1 rfl ⟨rfl, rfl⟩) ?_)
  refine q_of _ (fun w_ hS => fa41_3 ⟨rfl, rfl⟩) (q_of (i64 x.at_) (fun w_ hS => s_ldb (isAgg3 _) hS.1 rfl ⟨rfl, rfl⟩) ?_)
  refine q_of _ (fun w_ hS => fa41_5 ⟨rfl, rfl⟩) (q_of (dv) (fun w_ hS => s_ldb (isAgg36 _) hS.1 rfl ⟨rfl, rfl⟩) ?_)
  refine s_lay hS (i := 4) (j := 5) (by decide) rfl rfl hv.data (by omega) (by omega) fun w1 bv1 v n hS1 hlen hv1 hvb => ?_
  replace hS1 : Sep (StepN xb x dv pv' Pb dp ep K bv1 pv (x.data ++ List.replicate n 171) pp (Base W :: l)) w1 := hS1
  obtain ⟨A, cc, rfl, _⟩ := hv1.form
  refine ⟨seenN hS1, n_writeAt (Sep.nd hS1 2 rfl) rfl fun w2 f2 => ?_⟩
  replace hS1 := hS1.q f2
  refine ⟨seenN hS1, c_num _ ⟨seenN hS1, nr_writeAt (Sep.nr hS1 3 rfl) ⟨seenN hS1, q_of (.bool true) (fun w_ hS => s_eqi_t rfl ⟨rfl, rfl⟩) (pGq_yes rfl (pGq_yes rfl ?_))⟩⟩⟩
  refine q_of (stepVal x dv pv') (fun w_ hS => s_ldStep hS.1 ⟨rfl, rfl⟩) (pG_yes rfl ?_)
  rw [List.length_append, List.length_replicate] at hlen
  exact nst_laid hS1 hv hd (by omega) fun w4 bv4 m hS4 hm => ⟨seenN hS4, q_of (.bool true) (fun w_ hS => s_pick_t ⟨rfl, rfl⟩) (hk w4 bv4 pv _ pp hS4.drop (by rw [List.length_replicate]; omega))⟩
 refine s_eqi_f k2 (pC_false ?_)
 by_cases k3 : x.kind = 3
 ·refine s_eqi_t k3 (pC_true ?_)
  replace hS := hS.q (Fr.drew _ _)
  refine ⟨SeenN xb x dv pv' Pb dp ep K, seenN hS, ?_⟩
  refine q_of _ (fun w_ hS => s_nil ⟨rfl, rfl⟩) (q_of _ (fun w_ hS => fa33_0 ⟨rfl, rfl⟩) (q_of (.pointer dp) (fun w_ hS => s_ldb (isAgg29 _) hS.2 rfl ⟨rfl, rfl⟩) ?_))
  refine q_of _ (fun w_ hS => fa41_1 ⟨rfl, rfl⟩) (q_of (.string x.name) (fun w_ hS => s_ldb (isAgg9 _) hS.1 rfl ⟨rfl, rfl⟩) ?_)
  refine q_of _ (fun w_ hS => s_nil ⟨rfl, rfl⟩) (q_of _ (fun w_ hS => fa33_2 ⟨rfl, rfl⟩) (q_of (ptr K) (fun w_ hS => s_ldb (isAgg31 _) hS.2 rfl ⟨rfl, rfl⟩) ?_))
  refine q_of _ (fun w_ hS => fa41_5 ⟨rfl, rfl⟩) (q_of (dv) (fun w_ hS => s_ldb (isAgg36 _) hS.1 rfl ⟨rfl, rfl⟩) ?_)
  refine q_of _ (fun w_ hS => s_nil ⟨rfl, rfl⟩) (q_of _ (fun w_ hS => fa33_1 ⟨rfl, rfl⟩) (q_of (.pointer ep) (fun w_ hS => s_ldb (isAgg30 _) hS.2 rfl ⟨rfl, rfl⟩) ?_))
  refine q_of _ (fun w_ hS => fa41_1 ⟨rfl, rfl⟩) (q_of (.string x.name) (fun w_ hS => s_ldb (isAgg9 _) hS.1 rfl ⟨rfl, rfl⟩) ?_)
  refine q_of _ (fun w_ hS => fa41_5 ⟨rfl, rfl⟩) (q_of (dv) (fun w_ hS => s_ldb (isAgg36 _) hS.1 rfl ⟨rfl, rfl⟩) ?_)
  refine s_lay hS (i := 4) (j := 5) (by decide) rfl rfl hv.data (by omega) (by omega) fun w1 bv1 v n hS1 hlen hv1 hvb => ?_
  replace hS1 : Sep (StepN xb x dv pv' Pb dp ep K bv1 pv (x.data ++ List.replicate n 171) pp (Base W :: l)) w1 := hS1
  obtain ⟨A, cc, rfl, _⟩ := hv1.form
  refine ⟨seenN hS1, n_append (Sep.nd hS1 2 rfl) ?_⟩
  refine ⟨seenN hS1, c_num _ ⟨seenN hS1, nr_append (Sep.nr hS1 3 rfl) ⟨seenN hS1, q_of (.bool true) (fun w_ hS => s_eqi_t rfl ⟨rfl, rfl⟩) (pGq_yes rfl (pGq_yes rfl ?_))⟩⟩⟩
  refine q_of (stepVal x dv pv') (fun w_ hS => s_ldStep hS.1 ⟨rfl, rfl⟩) (pG_yes rfl ?_)
  rw [List.length_append, List.length_replicate] at hlen
  exact nst_laid hS1 hv hd (by omega) fun w4 bv4 m hS4 hm => ⟨seenN hS4, q_of (.bool true) (fun w_ hS => s_pick_t ⟨rfl, rfl⟩) (hk w4 bv4 pv _ pp hS4.drop (by rw [List.length_replicate]; omega))⟩
 refine s_eqi_f k3 (pC_false ?_)
 by_cases k4 : x.kind = 4
 ·refine s_eqi_t k4 (pC_true ?_)
  replace hS := hS.q (Fr.drew _ _)
  refine ⟨SeenN xb x dv pv' Pb dp ep K, seenN hS, ?_⟩
  refine q_of _ (fun w_ hS => s_nil ⟨rfl, rfl⟩) (q_of _ (fun w_ hS => fa33_0 ⟨rfl, rfl⟩) (q_of (.pointer dp) (fun w_ hS => s_ldb (isAgg29 _) hS.2 rfl ⟨rfl, rfl⟩) ?_))
  refine q_of _ (fun w_ hS => fa41_1 ⟨rfl, rfl⟩) (q_of (.string x.name) (fun w_ hS => s_ldb (isAgg9 _) hS.1 rfl ⟨rfl, rfl⟩) ?_)
  refine q_of _ (fun w_ hS => fa41_4 ⟨rfl, rfl⟩) (q_of (i64 x.n) (fun w_ hS => s_ldb (isAgg3 _) hS.1 rfl ⟨rfl, rfl⟩) ?_)
  refine q_of _ (fun w_ hS => s_nil ⟨rfl, rfl⟩) (q_of _ (fun w_ hS => fa33_1 ⟨rfl, rfl⟩) (q_of (.pointer ep) (fun w_ hS => s_ldb (isAgg30 _) hS.2 rfl ⟨rfl, rfl⟩) ?_))
  refine q_of _ (fun w_ hS => fa41_1 ⟨rfl, rfl⟩) (q_of (.string x.name) (fun w_ hS => s_ldb (isAgg9 _) hS.1 rfl ⟨rfl, rfl⟩) ?_)
  refine q_of _ (fun w_ hS => fa41_4 ⟨rfl, rfl⟩) (q_of (i64 x.n) (fun w_ hS => s_ldb (isAgg3 _) hS.1 rfl ⟨rfl, rfl⟩) ?_)
  refine n_truncate (Sep.nd hS 2 rfl) fun w2 f2 => ?_
  replace hS := hS.q f2
  exact ⟨seenN hS, c_num _ ⟨seenN hS, nr_truncate (Sep.nr hS 3 rfl) ⟨seenN hS, q_of (.bool true) (fun w_ hS => s_eqi_t rfl ⟨rfl, rfl⟩) (hk _ bv pv bb pp hS.drop hbb)⟩⟩⟩
 refine s_eqi_f k4 (pC_false ?_)
 by_cases k5 : x.kind = 5
 ·refine s_eqi_t k5 (pC_true ?_)
  replace hS := hS.q (Fr.drew _ _)
  refine ⟨SeenN xb x dv pv' Pb dp ep K, seenN hS, ?_⟩
  refine q_of _ (fun w_ hS => s_nil ⟨rfl, rfl⟩) (q_of _ (fun w_ hS => fa33_0 ⟨rfl, rfl⟩) (q_of (.pointer dp) (fun w_ hS => s_ldb (isAgg29 _) hS.2 rfl ⟨rfl, rfl⟩) ?_))
  refine q_of _ (fun w_ hS => fa41_1 ⟨rfl, rfl⟩) (q_of (.string x.name) (fun w_ hS => s_ldb (isAgg9 _) hS.1 rfl ⟨rfl, rfl⟩) ?_)
  refine q_of _ (fun w_ hS => fa41_2 ⟨rfl, rfl⟩) (q_of (.string x.to_) (fun w_ hS => s_ldb (isAgg9 _) hS.1 rfl ⟨rfl, rfl⟩) ?_)
  refine q_of _ (fun w_ hS => s_nil ⟨rfl, rfl⟩) (q_of _ (fun w_ hS => fa33_1 ⟨rfl, rfl⟩) (q_of (.pointer ep) (fun w_ hS => s_ldb (isAgg30 _) hS.2 rfl ⟨rfl, rfl⟩) ?_))
  refine q_of _ (fun w_ hS => fa41_1 ⟨rfl, rfl⟩) (q_of (.string x.name) (fun w_ hS => s_ldb (isAgg9 _) hS.1 rfl ⟨rfl, rfl⟩) ?_)
  refine q_of _ (fun w_ hS => fa41_2 ⟨rfl, rfl⟩) (q_of (.string x.to_) (fun w_ hS => s_ldb (isAgg9 _) hS.1 rfl ⟨rfl, rfl⟩) ?_)
  refine n_rename (Sep.nd hS 2 rfl) fun w2 f2 => ?_
  replace hS := hS.q f2
  exact ⟨seenN hS, c_num _ ⟨seenN hS, nr_rename (Sep.nr hS 3 rfl) ⟨seenN hS, q_of (.bool true) (fun w_ hS => s_eqi_t rfl ⟨rfl, rfl⟩) (hk _ bv pv bb pp hS.drop hbb)⟩⟩⟩
 refine s_eqi_f k5 (pC_false ?_)
 by_cases k6 : x.kind = 6
 ·refine s_eqi_t k6 (pC_true ?_)
  replace hS := hS.q (Fr.drew _ _)
  refine ⟨SeenN xb x dv pv' Pb dp ep K, seenN hS, ?_⟩
  refine q_of _ (fun w_ hS => s_nil ⟨rfl, rfl⟩) (q_of _ (fun w_ hS => fa33_0 ⟨rfl, rfl⟩) (q_of (.pointer dp) (fun w_ hS => s_ldb (isAgg29 _) hS.2 rfl ⟨rfl, rfl⟩) ?_))
  refine q_of _ (fun w_ hS => fa41_1 ⟨rfl, rfl⟩) (q_of (.string x.name) (fun w_ hS => s_ldb (isAgg9 _) hS.1 rfl ⟨rfl, rfl⟩) ?_)
  refine q_of _ (fun w_ hS => s_nil ⟨rfl, rfl⟩) (q_of _ (fun w_ hS => fa33_1 ⟨rfl, rfl⟩) (q_of (.pointer ep) (fun w_ hS => s_ldb (isAgg30 _) hS.2 rfl ⟨rfl, rfl⟩) ?_))
  refine q_of _ (fun w_ hS => fa41_1 ⟨rfl, rfl⟩) (q_of (.string x.name) (fun w_ hS => s_ldb (isAgg9 _) hS.1 rfl ⟨rfl, rfl⟩) ?_)
  refine n_remove (Sep.nd hS 2 rfl) fun w2 f2 => ?_
  replace hS := hS.q f2
  exact ⟨seenN hS, c_num _ ⟨seenN hS, nr_remove (Sep.nr hS 3 rfl) ⟨seenN hS, q_of (.bool true) (fun w_ hS => s_eqi_t rfl ⟨rfl, rfl⟩) (hk _ bv pv bb pp hS.drop hbb)⟩⟩⟩
 refine s_eqi_f k6 (pC_false ?_)
 by_cases k7 : x.kind = 7
 ·refine s_eqi_t k7 (pC_true ?_)
  replace hS := hS.q (Fr.drew _ _)
  refine ⟨SeenN xb x dv pv' Pb dp ep K, seenN hS, ?_⟩
  refine q_of _ (fun w_ hS => s_nil ⟨rfl, rfl⟩) (q_of _ (fun w_ hS => fa33_0 ⟨rfl, rfl⟩) (q_of (.pointer dp) (fun w_ hS => s_ldb (isAgg29 _) hS.2 rfl ⟨rfl, rfl⟩) ?_))
  refine q_of _ (fun w_ hS => fa41_1 ⟨rfl, rfl⟩) (q_of (.string x.name) (fun w_ hS => s_ldb (isAgg9 _) hS.1 rfl ⟨rfl, rfl⟩) ?_)
  refine q_of _ (fun w_ hS => s_nil ⟨rfl, rfl⟩) (q_of _ (fun w_ hS => fa33_1 ⟨rfl, rfl⟩) (q_of (.pointer ep) (fun w_ hS => s_ldb (isAgg30 _) hS.2 rfl ⟨rfl, rfl⟩) ?_))
  refine q_of _ (fun w_ hS => fa41_1 ⟨rfl, rfl⟩) (q_of (.string x.name) (fun w_ hS => s_ldb (isAgg9 _) hS.1 rfl ⟨rfl, rfl⟩) ?_)
  refine n_sync (Sep.nd hS 2 rfl) ?_
  exact ⟨seenN hS, c_num _ ⟨seenN hS, nr_sync (Sep.nr hS 3 rfl) ⟨seenN hS, q_of (.bool true) (fun w_ hS => s_eqi_t rfl ⟨rfl, rfl⟩) (hk _ bv pv bb pp hS.drop hbb)⟩⟩⟩
 refine s_eqi_f k7 (pC_false ?_)
 by_cases k8 : x.kind = 8
 ·refine s_eqi_t k8 (pC_true ?_)
  replace hS := hS.q (Fr.drew _ _)
  refine ⟨SeenN xb x dv pv' Pb dp ep K, seenN hS, ?_⟩
  refine q_of _ (fun w_ hS => s_nil ⟨rfl, rfl⟩) (q_of _ (fun w_ hS => fa33_0 ⟨rfl, rfl⟩) (q_of (.pointer dp) (fun w_ hS => s_ldb (isAgg29 _) hS.2 rfl ⟨rfl, rfl⟩) ?_))
  refine q_of _ (fun w_ hS => s_nil ⟨rfl, rfl⟩) (q_of _ (fun w_ hS => fa33_1 ⟨rfl, rfl⟩) (q_of (.pointer ep) (fun w_ hS => s_ldb (isAgg30 _) hS.2 rfl ⟨rfl, rfl⟩) ?_))
  refine n_syncNames (Sep.nd hS 2 rfl) fun w2 f2 => ?_
  replace hS := hS.q f2
  exact ⟨seenN hS, c_num _ ⟨seenN hS, nr_syncNames (Sep.nr hS 3 rfl) ⟨seenN hS, q_of (.bool true) (fun w_ hS => s_eqi_t rfl ⟨rfl, rfl⟩) (hk _ bv pv bb pp hS.drop hbb)⟩⟩⟩
 refine s_eqi_f k8 (pC_false ?_)
 refine s_ldStep (hS.cells 0 rfl) ?_
 exact nst_other hS.drop hv hd hpk hbb hk hn
end
end Go.Proofs.YtcdcojpfealppaaGreat

set_option linter.unusedVariables false
set_option linter.unusedSimpArgs false
set_option maxRecDepth 100000
namespace Go.Proofs.YtcdcojpfealppaaGreat
open Go Go.Proofs Go.RowKit Go.Proofs.XRed Go.Proofs.XHeap Go.Proofs.XMaps Go.Proofs.XSlices Go.Proofs.XDisk Go.Proofs.XCalls Go.Proofs.XSep Tryz
section
variable {w w0 : World} {k : Value → World → Prop}
variable {W : World} {Pb D E K c : Nat} {S T : AD} {l : List Asrt}
end
end Go.Proofs.YtcdcojpfealppaaGreat
