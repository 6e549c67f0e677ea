/- Put together by a program (wip/tools/shake.py): R5, Pair7, Only, Twos, XRedT. -/
import Derived.Test.YtcdcojpfealppaaGreatU25
import Derived.Test.YtcdcojpfealppaaGreatProg
import Derived.Test.YtcdcojpfealppaaGreatMix
import Derived.Test.YtcdcojpfealppaaGreatU1
set_option linter.unusedVariables false
set_option maxRecDepth 100000
namespace Go.Proofs.YtcdcojpfealppaaGreat
open Go Go.Proofs Go.Proofs.XRed Tryz
noncomputable def F19B : Code := bodyOf f19
def F19A (k : Value → World → Prop) (q : List Nat) (ρ : Env) (w : World) : Prop := At prog 105 F19B (retQ prog f19.results.toList k) q ρ w
def F19_0 (p0 : Value) (w : World) (k : Value → World → Prop) : Prop :=
 ∃ S : World → Prop, S w.drew ∧ (fun w =>
 pq prog S (nilSem p0) fun v4 =>
 pq prog S (Instr.fieldAt 33 v4 0) fun v5 =>
 pq prog S (Instr.loadAt 29 v5) fun v6 =>
 pq prog S (nilSem p0) fun v9 =>
 pq prog S (Instr.fieldAt 33 v9 1) fun v10 =>
 pq prog S (Instr.loadAt 30 v10) fun v11 =>
 pFn prog 26 [v6] w fun v7 w => S w ∧ (
 pFn prog 74 [v11] w fun v12 w => S w ∧ (
 pq prog S (binSem .eql 4 (.tmp 7) (.tmp 12) v7 v12) fun v13 =>
 pGq v13 true (fun k => k p0) (next := fun v15 =>
 pGq v13 true (fun k => pq prog S (nilSem v15) k) (next := fun v16 =>
 pGq v13 true (fun k => pq prog S (Instr.fieldAt 33 v16 0) k) (next := fun v17 =>
 pGq v13 true (fun k => pq prog S (Instr.loadAt 29 v17) k) (next := fun v18 =>
 pGq v13 true (fun k => k p0) (next := fun v20 =>
 pGq v13 true (fun k => pq prog S (nilSem v20) k) (next := fun v21 =>
 pGq v13 true (fun k => pq prog S (Instr.fieldAt 33 v21 1) k) (next := fun v22 =>
 pGq v13 true (fun k => pq prog S (Instr.loadAt 30 v22) k) (next := fun v23 =>
 pG v13 true (fun k => pFn prog 57 [v18] w k) (w := w) (next := fun v19 w => S w ∧ (
 pG v13 true (fun k => pFn prog 75 [v23] w k) (w := w) (next := fun v24 w => S w ∧ (
 pGq v13 true (fun k => pq prog S (binSem .eql 3 (.tmp 19) (.tmp 24) v19 v24) k) (next := fun v25 =>
 pq prog S (pickSem v13 v25 (.bool false)) fun v26 =>
 pGq v26 true (fun k => k p0) (next := fun v28 =>
 pGq v26 true (fun k => pq prog S (nilSem v28) k) (next := fun v29 =>
 pGq v26 true (fun k => pq prog S (Instr.fieldAt 33 v29 0) k) (next := fun v30 =>
 pGq v26 true (fun k => pq prog S (Instr.loadAt 29 v30) k) (next := fun v31 =>
 pGq v26 true (fun k => k p0) (next := fun v33 =>
 pGq v26 true (fun k => pq prog S (nilSem v33) k) (next := fun v34 =>
 pGq v26 true (fun k => pq prog S (Instr.fieldAt 33 v34 1) k) (next := fun v35 =>
 pGq v26 true (fun k => pq prog S (Instr.loadAt 30 v35) k) (next := fun v36 =>
 pG v26 true (fun k => pFn prog 60 [v31] w k) (w := w) (next := fun v32 w => S w ∧ (
 pG v26 true (fun k => pFn prog 76 [v36] w k) (w := w) (next := fun v37 w => S w ∧ (
 pGq v26 true (fun k => pq prog S (binSem .eql 3 (.tmp 32) (.tmp 37) v32 v37) k) (next := fun v38 =>
 pq prog S (pickSem v26 v38 (.bool false)) fun v39 =>
 pGq v39 true (fun k => k p0) (next := fun v41 =>
 pGq v39 true (fun k => pq prog S (nilSem v41) k) (next := fun v42 =>
 pGq v39 true (fun k => pq prog S (Instr.fieldAt 33 v42 0) k) (next := fun v43 =>
 pGq v39 true (fun k => pq prog S (Instr.loadAt 29 v43) k) (next := fun v44 =>
 pGq v39 true (fun k => k p0) (next := fun v46 =>
 pGq v39 true (fun k => pq prog S (nilSem v46) k) (next := fun v47 =>
 pGq v39 true (fun k => pq prog S (Instr.fieldAt 33 v47 1) k) (next := fun v48 =>
 pGq v39 true (fun k => pq prog S (Instr.loadAt 30 v48) k) (next := fun v49 =>
 pG v39 true (fun k => pFn prog 27 [v44] w k) (w := w) (next := fun v45 w => S w ∧ (
 pG v39 true (fun k => pFn prog 77 [v49] w k) (w := w) (next := fun v50 w => S w ∧ (
 pGq v39 true (fun k => pq prog S (binSem .eql 3 (.tmp 45) (.tmp 50) v45 v50) k) (next := fun v51 =>
 pq prog S (pickSem v39 v51 (.bool false)) fun v52 =>
 pGq v52 true (fun k => k p0) (next := fun v54 =>
 pGq v52 true (fun k => pq prog S (nilSem v54) k) (next := fun v55 =>
 pGq v52 true (fun k => pq prog S (Instr.fieldAt 33 v55 0) k) (next := fun v56 =>
 pGq v52 true (fun k => pq prog S (Instr.loadAt 29 v56) k) (next := fun v57 =>
 pGq v52 true (fun k => k p0) (next := fun v59 =>
 pGq v52 true (fun k => pq prog S (nilSem v59) k) (next := fun v60 =>
 pGq v52 true (fun k => pq prog S (Instr.fieldAt 33 v60 1) k) (next := fun v61 =>
 pGq v52 true (fun k => pq prog S (Instr.loadAt 30 v61) k) (next := fun v62 =>
 pG v52 true (fun k => pFn prog 28 [v57] w k) (w := w) (next := fun v58 w => S w ∧ (
 pG v52 true (fun k => pFn prog 41 [v62] w k) (w := w) (next := fun v63 w => S w ∧ (
 pG v52 true (fun k => pFn prog 40 [v58, v63] w k) (w := w) (next := fun v64 w => S w ∧ (
 pq prog S (pickSem v52 v64 (.bool false)) fun v65 =>
 pGq v65 true (fun k => k p0) (next := fun v67 =>
 pGq v65 true (fun k => pq prog S (nilSem v67) k) (next := fun v68 =>
 pGq v65 true (fun k => pq prog S (Instr.fieldAt 33 v68 0) k) (next := fun v69 =>
 pGq v65 true (fun k => pq prog S (Instr.loadAt 29 v69) k) (next := fun v70 =>
 pGq v65 true (fun k => k p0) (next := fun v72 =>
 pGq v65 true (fun k => pq prog S (nilSem v72) k) (next := fun v73 =>
 pGq v65 true (fun k => pq prog S (Instr.fieldAt 33 v73 1) k) (next := fun v74 =>
 pGq v65 true (fun k => pq prog S (Instr.loadAt 30 v74) k) (next := fun v75 =>
 pG v65 true (fun k => pFn prog 29 [v70] w k) (w := w) (next := fun v71 w => S w ∧ (
 pG v65 true (fun k => pFn prog 42 [v75] w k) (w := w) (next := fun v76 w => S w ∧ (
 pG v65 true (fun k => pFn prog 40 [v71, v76] w k) (w := w) (next := fun v77 w => S w ∧ (
 pq prog S (pickSem v65 v77 (.bool false)) fun v78 =>
 pGq v78 true (fun k => k p0) (next := fun v80 =>
 pGq v78 true (fun k => pq prog S (nilSem v80) k) (next := fun v81 =>
 pGq v78 true (fun k => pq prog S (Instr.fieldAt 33 v81 0) k) (next := fun v82 =>
 pGq v78 true (fun k => pq prog S (Instr.loadAt 29 v82) k) (next := fun v83 =>
 pGq v78 true (fun k => k p0) (next := fun v85 =>
 pGq v78 true (fun k => pq prog S (nilSem v85) k) (next := fun v86 =>
 pGq v78 true (fun k => pq prog S (Instr.fieldAt 33 v86 1) k) (next := fun v87 =>
 pGq v78 true (fun k => pq prog S (Instr.loadAt 30 v87) k) (next := fun v88 =>
 pG v78 true (fun k => pFn prog 31 [v83] w k) (w := w) (next := fun v84 w => S w ∧ (
 pG v78 true (fun k => pFn prog 33 [v88] w k) (w := w) (next := fun v89 w => S w ∧ (
 pG v78 true (fun k => pFn prog 45 [v84, v89] w k) (w := w) (next := fun v90 w => S w ∧ (
 pq prog S (pickSem v78 v90 (.bool false)) fun v91 =>
 pGq v91 true (fun k => k p0) (next := fun v93 =>
 pGq v91 true (fun k => pq prog S (nilSem v93) k) (next := fun v94 =>
 pGq v91 true (fun k => pq prog S (Instr.fieldAt 33 v94 0) k) (next := fun v95 =>
 pGq v91 true (fun k => pq prog S (Instr.loadAt 29 v95) k) (next := fun v96 =>
 pGq v91 true (fun k => k p0) (next := fun v98 =>
 pGq v91 true (fun k => pq prog S (nilSem v98) k) (next := fun v99 =>
 pGq v91 true (fun k => pq prog S (Instr.fieldAt 33 v99 1) k) (next := fun v100 =>
 pGq v91 true (fun k => pq prog S (Instr.loadAt 30 v100) k) (next := fun v101 =>
 pG v91 true (fun k => pFn prog 30 [v96, (.string (ByteArray.mk #[]))] w k) (w := w) (next := fun v97 w => S w ∧ (
 pG v91 true (fun k => pFn prog 44 [v101, (.string (ByteArray.mk #[]))] w k) (w := w) (next := fun v102 w => S w ∧ (
 pG v91 true (fun k => pFn prog 43 [v97, v102] w k) (w := w) (next := fun v103 w => S w ∧ (
 pq prog S (pickSem v91 v103 (.bool false)) fun v104 =>
 k v104 w)))))))))))))))))))))))))))))))))))))))))))))))))))))))))))))))))))))))))))))))))))))))))))))))))) w.drew
theorem F19_0_eq (p0 : Value) (w : World) (k : Value → World → Prop) : F19A k [] (argEnv [p0]) w = F19_0 p0 w k := by kernel_rfl
noncomputable abbrev F19O : Array Oper := opsOf (sub F19B [1, 0])
def F19l0 : Array Bool := #[false, false, false, false, false, false, false, false, false, false, false, false, false, false, false, false, false, false, false, false, false, false, false, false, false, false, false, false, false, false, false, false, false, false, false, false, false, false, false, false, false, false, false, false, false, false, false, false, false, false, false, false, false, false, false, false, false, false, false, false, false, false, false, false, false, false, false, false, false, false, false, false, false, false, false, false, false, false, false, false, false, false, false, false, false, false, false, false, false, false, false, false, false, false, false, false, false, false, false, false, false, false, false]
def F19l1 : Array Bool := #[true, true, true, true, true, true, true, true, true, true, true, true, true, false, false, false, false, false, false, false, false, false, false, false, false, false, false, false, false, false, false, false, false, false, false, false, false, false, false, false, false, false, false, false, false, false, false, false, false, false, false, false, false, false, false, false, false, false, false, false, false, false, false, false, false, false, false, false, false, false, false, false, false, false, false, false, false, false, false, false, false, false, false, false, false, false, false, false, false, false, false, false, false, false, false, false, false, false, false, false, false, false, false]
def F19l2 : Array Bool := #[true, true, true, true, true, true, true, true, true, true, true, true, true, true, true, true, true, true, true, true, true, true, true, true, true, true, false, false, false, false, false, false, false, false, false, false, false, false, false, false, false, false, false, false, false, false, false, false, false, false, false, false, false, false, false, false, false, false, false, false, false, false, false, false, false, false, false, false, false, false, false, false, false, false, false, false, false, false, false, false, false, false, false, false, false, false, false, false, false, false, false, false, false, false, false, false, false, false, false, false, false, false, false]
def F19l3 : Array Bool := #[true, true, true, true, true, true, true, true, true, true, true, true, true, true, true, true, true, true, true, true, true, true, true, true, true, true, true, true, true, true, true, true, true, true, true, true, true, true, true, false, false, false, false, false, false, false, false, false, false, false, false, false, false, false, false, false, false, false, false, false, false, false, false, false, false, false, false, false, false, false, false, false, false, false, false, false, false, false, false, false, false, false, false, false, false, false, false, false, false, false, false, false, false, false, false, false, false, false, false, false, false, false, false]
def F19l4 : Array Bool := #[true, true, true, true, true, true, true, true, true, true, true, true, true, true, true, true, true, true, true, true, true, true, true, true, true, true, true, true, true, true, true, true, true, true, true, true, true, true, true, true, true, true, true, true, true, true, true, true, true, true, true, true, false, false, false, false, false, false, false, false, false, false, false, false, false, false, false, false, false, false, false, false, false, false, false, false, false, false, false, false, false, false, false, false, false, false, false, false, false, false, false, false, false, false, false, false, false, false, false, false, false, false, false]
def F19l5 : Array Bool := #[true, true, true, true, true, true, true, true, true, true, true, true, true, true, true, true, true, true, true, true, true, true, true, true, true, true, true, true, true, true, true, true, true, true, true, true, true, true, true, true, true, true, true, true, true, true, true, true, true, true, true, true, true, true, true, true, true, true, true, true, true, true, true, true, true, false, false, false, false, false, false, false, false, false, false, false, false, false, false, false, false, false, false, false, false, false, false, false, false, false, false, false, false, false, false, false, false, false, false, false, false, false, false]
def F19l6 : Array Bool := #[true, true, true, true, true, true, true, true, true, true, true, true, true, true, true, true, true, true, true, true, true, true, true, true, true, true, true, true, true, true, true, true, true, true, true, true, true, true, true, true, true, true, true, true, true, true, true, true, true, true, true, true, true, true, true, true, true, true, true, true, true, true, true, true, true, true, true, true, true, true, true, true, true, true, true, true, true, true, false, false, false, false, false, false, false, false, false, false, false, false, false, false, false, false, false, false, false, false, false, false, false, false, false]
def F19l7 : Array Bool := #[true, true, true, true, true, true, true, true, true, true, true, true, true, true, true, true, true, true, true, true, true, true, true, true, true, true, true, true, true, true, true, true, true, true, true, true, true, true, true, true, true, true, true, true, true, true, true, true, true, true, true, true, true, true, true, true, true, true, true, true, true, true, true, true, true, true, true, true, true, true, true, true, true, true, true, true, true, true, true, true, true, true, true, true, true, true, true, true, true, true, true, false, false, false, false, false, false, false, false, false, false, false, false]
def F19l8 : Array Bool := #[true, true, true, true, true, true, true, true, true, true, true, true, true, true, true, true, true, true, true, true, true, true, true, true, true, true, true, true, true, true, true, true, true, true, true, true, true, true, true, true, true, true, true, true, true, true, true, true, true, true, true, true, true, true, true, true, true, true, true, true, true, true, true, true, true, true, true, true, true, true, true, true, true, true, true, true, true, true, true, true, true, true, true, true, true, true, true, true, true, true, true, true, true, true, true, true, true, true, true, true, true, true, true]
theorem F19c0 : drawPre F19O F19l0 [0, 1, 2, 3, 5, 6, 7, 8, 4, 9, 10, 11, 12] = true := by kernel_rfl
theorem F19a0 : listedAt F19l0 [0, 1, 2, 3, 5, 6, 7, 8, 4, 9, 10, 11, 12] = F19l1 := by kernel_rfl
theorem F19c1 : drawPre F19O F19l1 [13, 14, 15, 17, 18, 19, 20, 16, 21, 22, 23, 24, 25] = true := by kernel_rfl
theorem F19a1 : listedAt F19l1 [13, 14, 15, 17, 18, 19, 20, 16, 21, 22, 23, 24, 25] = F19l2 := by kernel_rfl
theorem F19c2 : drawPre F19O F19l2 [26, 27, 28, 30, 31, 32, 33, 29, 34, 35, 36, 37, 38] = true := by kernel_rfl
theorem F19a2 : listedAt F19l2 [26, 27, 28, 30, 31, 32, 33, 29, 34, 35, 36, 37, 38] = F19l3 := by kernel_rfl
theorem F19c3 : drawPre F19O F19l3 [39, 40, 41, 43, 44, 45, 46, 42, 47, 48, 49, 50, 51] = true := by kernel_rfl
theorem F19a3 : listedAt F19l3 [39, 40, 41, 43, 44, 45, 46, 42, 47, 48, 49, 50, 51] = F19l4 := by kernel_rfl
theorem F19c4 : drawPre F19O F19l4 [52, 53, 54, 56, 57, 58, 59, 55, 60, 61, 62, 63, 64] = true := by kernel_rfl
theorem F19a4 : listedAt F19l4 [52, 53, 54, 56, 57, 58, 59, 55, 60, 61, 62, 63, 64] = F19l5 := by kernel_rfl
theorem F19c5 : drawPre F19O F19l5 [65, 66, 67, 69, 70, 71, 72, 68, 73, 74, 75, 76, 77] = true := by kernel_rfl
theorem F19a5 : listedAt F19l5 [65, 66, 67, 69, 70, 71, 72, 68, 73, 74, 75, 76, 77] = F19l6 := by kernel_rfl
theorem F19c6 : drawPre F19O F19l6 [78, 79, 80, 82, 83, 84, 85, 81, 86, 87, 88, 89, 90] = true := by kernel_rfl
theorem F19a6 : listedAt F19l6 [78, 79, 80, 82, 83, 84, 85, 81, 86, 87, 88, 89, 90] = F19l7 := by kernel_rfl
theorem F19c7 : drawPre F19O F19l7 [91, 92, 93, 95, 96, 97, 98, 94, 99, 100, 101, 102] = true := by kernel_rfl
theorem F19a7 : listedAt F19l7 [91, 92, 93, 95, 96, 97, 98, 94, 99, 100, 101, 102] = F19l8 := by kernel_rfl
theorem F19e : drawOk F19O 0 F19l8 [] = true := by kernel_rfl
theorem F19k7 : drawOk F19O 12 F19l7 [91, 92, 93, 95, 96, 97, 98, 94, 99, 100, 101, 102] = true := drawOk_pre (fuel := 0) (o1 := [91, 92, 93, 95, 96, 97, 98, 94, 99, 100, 101, 102]) F19c7 (by rw [F19a7]; exact F19e)
theorem F19k6 : drawOk F19O 25 F19l6 [78, 79, 80, 82, 83, 84, 85, 81, 86, 87, 88, 89, 90, 91, 92, 93, 95, 96, 97, 98, 94, 99, 100, 101, 102] = true := drawOk_pre (fuel := 12) (o1 := [78, 79, 80, 82, 83, 84, 85, 81, 86, 87, 88, 89, 90]) F19c6 (by rw [F19a6]; exact F19k7)
theorem F19k5 : drawOk F19O 38 F19l5 [65, 66, 67, 69, 70, 71, 72, 68, 73, 74, 75, 76, 77, 78, 79, 80, 82, 83, 84, 85, 81, 86, 87, 88, 89, 90, 91, 92, 93, 95, 96, 97, 98, 94, 99, 100, 101, 102] = true := drawOk_pre (fuel := 25) (o1 := [65, 66, 67, 69, 70, 71, 72, 68, 73, 74, 75, 76, 77]) F19c5 (by rw [F19a5]; exact F19k6)
theorem F19k4 : drawOk F19O 51 F19l4 [52, 53, 54, 56, 57, 58, 59, 55, 60, 61, 62, 63, 64, 65, 66, 67, 69, 70, 71, 72, 68, 73, 74, 75, 76, 77, 78, 79, 80, 82, 83, 84, 85, 81, 86, 87, 88, 89, 90, 91, 92, 93, 95, 96, 97, 98, 94, 99, 100, 101, 102] = true := drawOk_pre (fuel := 38) (o1 := [52, 53, 54, 56, 57, 58, 59, 55, 60, 61, 62, 63, 64]) F19c4 (by rw [F19a4]; exact F19k5)
theorem F19k3 : drawOk F19O 64 F19l3 [39, 40, 41, 43, 44, 45, 46, 42, 47, 48, 49, 50, 51, 52, 53, 54, 56, 57, 58, 59, 55, 60, 61, 62, 63, 64, 65, 66, 67, 69, 70, 71, 72, 68, 73, 74, 75, 76, 77, 78, 79, 80, 82, 83, 84, 85, 81, 86, 87, 88, 89, 90, 91, 92, 93, 95, 96, 97, 98, 94, 99, 100, 101, 102] = true := drawOk_pre (fuel := 51) (o1 := [39, 40, 41, 43, 44, 45, 46, 42, 47, 48, 49, 50, 51]) F19c3 (by rw [F19a3]; exact F19k4)
theorem F19k2 : drawOk F19O 77 F19l2 [26, 27, 28, 30, 31, 32, 33, 29, 34, 35, 36, 37, 38, 39, 40, 41, 43, 44, 45, 46, 42, 47, 48, 49, 50, 51, 52, 53, 54, 56, 57, 58, 59, 55, 60, 61, 62, 63, 64, 65, 66, 67, 69, 70, 71, 72, 68, 73, 74, 75, 76, 77, 78, 79, 80, 82, 83, 84, 85, 81, 86, 87, 88, 89, 90, 91, 92, 93, 95, 96, 97, 98, 94, 99, 100, 101, 102] = true := drawOk_pre (fuel := 64) (o1 := [26, 27, 28, 30, 31, 32, 33, 29, 34, 35, 36, 37, 38]) F19c2 (by rw [F19a2]; exact F19k3)
theorem F19k1 : drawOk F19O 90 F19l1 [13, 14, 15, 17, 18, 19, 20, 16, 21, 22, 23, 24, 25, 26, 27, 28, 30, 31, 32, 33, 29, 34, 35, 36, 37, 38, 39, 40, 41, 43, 44, 45, 46, 42, 47, 48, 49, 50, 51, 52, 53, 54, 56, 57, 58, 59, 55, 60, 61, 62, 63, 64, 65, 66, 67, 69, 70, 71, 72, 68, 73, 74, 75, 76, 77, 78, 79, 80, 82, 83, 84, 85, 81, 86, 87, 88, 89, 90, 91, 92, 93, 95, 96, 97, 98, 94, 99, 100, 101, 102] = true := drawOk_pre (fuel := 77) (o1 := [13, 14, 15, 17, 18, 19, 20, 16, 21, 22, 23, 24, 25]) F19c1 (by rw [F19a1]; exact F19k2)
theorem F19k0 : drawOk F19O 103 F19l0 [0, 1, 2, 3, 5, 6, 7, 8, 4, 9, 10, 11, 12, 13, 14, 15, 17, 18, 19, 20, 16, 21, 22, 23, 24, 25, 26, 27, 28, 30, 31, 32, 33, 29, 34, 35, 36, 37, 38, 39, 40, 41, 43, 44, 45, 46, 42, 47, 48, 49, 50, 51, 52, 53, 54, 56, 57, 58, 59, 55, 60, 61, 62, 63, 64, 65, 66, 67, 69, 70, 71, 72, 68, 73, 74, 75, 76, 77, 78, 79, 80, 82, 83, 84, 85, 81, 86, 87, 88, 89, 90, 91, 92, 93, 95, 96, 97, 98, 94, 99, 100, 101, 102] = true := drawOk_pre (fuel := 90) (o1 := [0, 1, 2, 3, 5, 6, 7, 8, 4, 9, 10, 11, 12]) F19c0 (by rw [F19a0]; exact F19k1)
theorem F19z : F19O.size = 103 := by kernel_rfl
theorem F19rp : Array.replicate 103 false = F19l0 := by kernel_rfl
theorem F19ord : drawOrder F19O 103 F19l0 = [0, 1, 2, 3, 5, 6, 7, 8, 4, 9, 10, 11, 12, 13, 14, 15, 17, 18, 19, 20, 16, 21, 22, 23, 24, 25, 26, 27, 28, 30, 31, 32, 33, 29, 34, 35, 36, 37, 38, 39, 40, 41, 43, 44, 45, 46, 42, 47, 48, 49, 50, 51, 52, 53, 54, 56, 57, 58, 59, 55, 60, 61, 62, 63, 64, 65, 66, 67, 69, 70, 71, 72, 68, 73, 74, 75, 76, 77, 78, 79, 80, 82, 83, 84, 85, 81, 86, 87, 88, 89, 90, 91, 92, 93, 95, 96, 97, 98, 94, 99, 100, 101, 102] := by kernel_rfl
theorem F19wf : wfOps f19.ntmps F19O.toList = true := by kernel_rfl
theorem F19ns : Region.noSelect F19O = true := by kernel_rfl
theorem F19fd : Code.fits f19.ntmps (sub F19B [1, 0]) = true := fits_drawn (c := sub F19B [1, 0]) (by kernel_rfl) F19wf F19ns (ord := [0, 1, 2, 3, 5, 6, 7, 8, 4, 9, 10, 11, 12, 13, 14, 15, 17, 18, 19, 20, 16, 21, 22, 23, 24, 25, 26, 27, 28, 30, 31, 32, 33, 29, 34, 35, 36, 37, 38, 39, 40, 41, 43, 44, 45, 46, 42, 47, 48, 49, 50, 51, 52, 53, 54, 56, 57, 58, 59, 55, 60, 61, 62, 63, 64, 65, 66, 67, 69, 70, 71, 72, 68, 73, 74, 75, 76, 77, 78, 79, 80, 82, 83, 84, 85, 81, 86, 87, 88, 89, 90, 91, 92, 93, 95, 96, 97, 98, 94, 99, 100, 101, 102]) (by show drawOrder F19O F19O.size (Array.replicate F19O.size false) = _; rw [F19z, F19rp]; exact F19ord) (by show drawOk F19O F19O.size (Array.replicate F19O.size false) _ = true; rw [F19z, F19rp]; exact F19k0)
theorem F19fit : Code.fits f19.ntmps (bodyOf f19) = true := fits_seq (B := bodyOf f19) (by kernel_rfl) (by kernel_rfl) (fits_seq (B := sub (bodyOf f19) [1]) (by kernel_rfl) F19fd (by kernel_rfl))
theorem F19_in (p0 : Value) (w : World) (k : Value → World → Prop) (h : F19_0 p0 w k) : pFn prog 19 [p0] w k :=
 pFn_of_at mixed func19 (by kernel_rfl) (by kernel_rfl) rfl F19fit (by kernel_rfl) (by simp) ((F19_0_eq p0 w k).mpr h)
end Go.Proofs.YtcdcojpfealppaaGreat

set_option linter.unusedVariables false
set_option linter.unusedSimpArgs false
set_option maxRecDepth 100000
namespace Go.Proofs.YtcdcojpfealppaaGreat
open Go Go.Proofs Go.RowKit Go.Proofs.XRed Go.Proofs.XHeap Go.Proofs.XMaps Go.Proofs.XSlices Go.Proofs.XDisk Go.Proofs.XCalls Go.Proofs.XSep Tryz
section
variable {w w0 : World} {k : Value → World → Prop}
variable {W : World} {xb Pb D E K c : Nat} {x : StepA} {dv pv' bv pv : Value} {S T : AD} {bb : Bytes} {pp : List Int} {l : List Asrt}
abbrev PairAt (Pb D E K : Nat) (w : World) : Prop := w.heap[Pb]? = some (.cells #[ptr D, ptr E, ptr K] 33 (0, 0))
theorem g_disk {rest : Value → Prop} (h : rest (ptr D)) : pGq (.bool true) true (fun k => k (ptr Pb)) fun a => pGq (.bool true) true (fun k => pq P (PairAt Pb D E K) (nilSem a) k) fun b => pGq (.bool true) true (fun k => pq P (PairAt Pb D E K) (Instr.fieldAt 33 b 0) k) fun c => pGq (.bool true) true (fun k => pq P (PairAt Pb D E K) (Instr.loadAt 29 c) k) rest :=
 pGq_yes rfl (pGq_yes rfl (q_of _ (fun w_ hS => s_nil ⟨rfl, rfl⟩) (pGq_yes rfl (q_of _ (fun w_ hS => fa33_0 ⟨rfl, rfl⟩) (pGq_yes rfl (q_of (ptr D) (fun w_ hS => s_ldb (isAgg29 _) hS rfl ⟨rfl, rfl⟩) h))))))
theorem g_ref {rest : Value → Prop} (h : rest (ptr E)) : pGq (.bool true) true (fun k => k (ptr Pb)) fun a => pGq (.bool true) true (fun k => pq P (PairAt Pb D E K) (nilSem a) k) fun b => pGq (.bool true) true (fun k => pq P (PairAt Pb D E K) (Instr.fieldAt 33 b 1) k) fun c => pGq (.bool true) true (fun k => pq P (PairAt Pb D E K) (Instr.loadAt 30 c) k) rest :=
 pGq_yes rfl (pGq_yes rfl (q_of _ (fun w_ hS => s_nil ⟨rfl, rfl⟩) (pGq_yes rfl (q_of _ (fun w_ hS => fa33_1 ⟨rfl, rfl⟩) (pGq_yes rfl (q_of (ptr E) (fun w_ hS => s_ldb (isAgg30 _) hS rfl ⟨rfl, rfl⟩) h))))))
theorem FilesV.fr0 {w w' : World} {B : Nat} {v : Value} {fs : List (ByteArray × Bytes)} (h : FilesV w B v fs) (hf : Fr no w w') : FilesV w' B v fs := by
 obtain ⟨ps, h1, h2, h3⟩ := h
 have z := hf.size
 exact ⟨ps, all2_imp h1 fun f p ⟨a, b, c⟩ => ⟨a, b.fr hf fun _ _ h => h, fun x hx => ⟨(c x hx).1, by have := (c x hx).2.1; omega, (c x hx).2.2⟩⟩, own_fr h2 hf fun _ _ h => h, h3⟩
theorem s_eqb {a b : Bool} {w : World} {x y : Operand} {k : Value → World → Prop} (h : a = b) (hk : k (.bool true) w) : px P (binSem .eql 4 x y (.bool a) (.bool b)) w k := by
 subst h
 exact s_bin (by simp) (by simp) (run_eql_bool w 4 a a underlying4) (by simpa using hk)
theorem PairAt.of {l : List Asrt} (h : Sep (Cells Pb #[ptr D, ptr E, ptr K] 33 :: l) w) : PairAt Pb D E K w := h.cells 0 rfl
set_option maxHeartbeats 1000000 in
theorem st_stands (hS : Sep (PairL Pb D E K S bv pv bb pp l) w) (ok : S.Ok c) (hk : ∀ w', Sep (PairL Pb D E K S bv pv bb pp l) w' → k (.bool true) w') : pFn P 19 [ptr Pb] w k := by
 refine F19_in _ _ _ ?_
 unfold F19_0
 replace hS := hS.q (Fr.drew _ _)
 refine ⟨PairAt Pb D E K, .of hS, ?_⟩
 refine q_of _ (fun w_ hS => s_nil ⟨rfl, rfl⟩) (q_of _ (fun w_ hS => fa33_0 ⟨rfl, rfl⟩) (q_of (ptr D) (fun w_ hS => s_ldb (isAgg29 _) hS rfl ⟨rfl, rfl⟩) ?_))
 refine q_of _ (fun w_ hS => s_nil ⟨rfl, rfl⟩) (q_of _ (fun w_ hS => fa33_1 ⟨rfl, rfl⟩) (q_of (ptr E) (fun w_ hS => s_ldb (isAgg30 _) hS rfl ⟨rfl, rfl⟩) ?_))
 have hus := used_small ok
 have hsl := ok.turns.len.1
 obtain ⟨O, I, L, d, -⟩ := Sep.disk hS 1 rfl
 refine c_off d.disk ok.room.1 ⟨.of hS, ?_⟩
 obtain ⟨O, I, L, r, -⟩ := Sep.ref hS 2 rfl
 refine r_off r ⟨.of hS, q_of (.bool true) (fun w_ hS => s_eqb rfl ⟨rfl, rfl⟩) ?_⟩
 refine g_disk (g_ref ?_)
 obtain ⟨O, I, L, d, -⟩ := Sep.disk hS 1 rfl
 refine pG_yes rfl (c_strokes d.disk ok.room.1 ⟨.of hS, ?_⟩)
 obtain ⟨O, I, L, r, -⟩ := Sep.ref hS 2 rfl
 refine pG_yes rfl (r_strokes r ⟨.of hS, pGq_yes rfl (q_of (.bool true) (fun w_ hS => s_eqi_t rfl ⟨rfl, rfl⟩) (q_of (.bool true) (fun w_ hS => s_pick_t ⟨rfl, rfl⟩) ?_))⟩)
 refine g_disk (g_ref ?_)
 obtain ⟨O, I, L, d, -⟩ := Sep.disk hS 1 rfl
 refine pG_yes rfl (c_used d ok.room.1 (by omega) fun w1 f1 => ?_)
 replace hS := hS.q f1
 refine ⟨.of hS, ?_⟩
 obtain ⟨O, I, L, r, -⟩ := Sep.ref hS 2 rfl
 refine pG_yes rfl (r_used r (by omega) (by omega) ⟨.of hS, pGq_yes rfl (q_of (.bool true) (fun w_ hS => s_eqi_t rfl ⟨rfl, rfl⟩) (q_of (.bool true) (fun w_ hS => s_pick_t ⟨rfl, rfl⟩) ?_))⟩)
 refine g_disk (g_ref ?_)
 obtain ⟨O, I, L, d, -⟩ := Sep.disk hS 1 rfl
 refine pG_yes rfl (c_room d.disk ok.room.1 ⟨.of hS, ?_⟩)
 obtain ⟨O, I, L, r, -⟩ := Sep.ref hS 2 rfl
 refine pG_yes rfl (r_room r ⟨.of hS, pGq_yes rfl (q_of (.bool true) (fun w_ hS => s_eqi_t rfl ⟨rfl, rfl⟩) (q_of (.bool true) (fun w_ hS => s_pick_t ⟨rfl, rfl⟩) ?_))⟩)
 refine g_disk (g_ref ?_)
 obtain ⟨O, I, L, d, -⟩ := Sep.disk hS 1 rfl
 refine pG_yes rfl (c_files sortsKeys d ok (shownMax ok) fun w2 v2 g2  f2 => ?_)
 replace hS := hS.q f2
 refine ⟨.of hS, ?_⟩
 obtain ⟨O, I, L, r, -⟩ := Sep.ref hS 2 rfl
 refine pG_yes rfl (r_files r ok fun w3 v3 g3  f3 => ?_)
 replace hS := hS.q f3
 refine ⟨.of hS, pG_yes rfl (c_filesEq (g2.fr0 f3) g3 (files_small ok).1 (files_small ok).2 fun  w4 f4  => ?_)⟩
 rw [decide_eq_true rfl]
 replace hS := hS.q f4
 refine ⟨.of hS, q_of (.bool true) (fun w_ hS => s_pick_t ⟨rfl, rfl⟩) ?_⟩
 refine g_disk (g_ref ?_)
 obtain ⟨O, I, L, d, -⟩ := Sep.disk hS 1 rfl
 refine pG_yes rfl (c_safe sortsKeys d ok (safeMax ok) fun w5 v5 g5  f5 => ?_)
 replace hS := hS.q f5
 refine ⟨.of hS, ?_⟩
 obtain ⟨O, I, L, r, -⟩ := Sep.ref hS 2 rfl
 refine pG_yes rfl (r_safe r ok fun w6 v6 g6  f6 => ?_)
 replace hS := hS.q f6
 refine ⟨.of hS, pG_yes rfl (c_filesEq (g5.fr0 f6) g6 (safes_small ok).1 (safes_small ok).2 fun  w7 f7  => ?_)⟩
 rw [decide_eq_true rfl]
 replace hS := hS.q f7
 refine ⟨.of hS, q_of (.bool true) (fun w_ hS => s_pick_t ⟨rfl, rfl⟩) ?_⟩
 refine g_disk (g_ref ?_)
 obtain ⟨O, I, L, d, -⟩ := Sep.disk hS 1 rfl
 refine pG_yes rfl (c_reads d ok fun w8 A8 c8 g8 b8 f8 => ?_)
 replace hS := hS.q f8
 refine ⟨.of hS, ?_⟩
 obtain ⟨O, I, L, r, -⟩ := Sep.ref hS 2 rfl
 refine pG_yes rfl (r_reads r ok fun w9 v9 g9 b9 f9 => ?_)
 replace hS := hS.q f9
 refine ⟨.of hS, pG_yes rfl (c_spansEq (g8.fr (by omega) f9 fun _ _ h => h) g9 (by have := ok.reads; have := ok.small; omega) fun bo8 w10 f10 hb8 => ?_)⟩
 rw [hb8.2 rfl]
 replace hS := hS.q f10
 refine ⟨.of hS, q_of (.bool true) (fun w_ hS => s_pick_t ⟨rfl, rfl⟩) ?_⟩
 refine g_disk (g_ref ?_)
 obtain ⟨O, I, L, d, -⟩ := Sep.disk hS 1 rfl
 refine pG_yes rfl (c_list d ok _ fun w11 v11 g11 b11 f11 => ?_)
 replace hS := hS.q f11
 refine ⟨.of hS, ?_⟩
 obtain ⟨O, I, L, r, -⟩ := Sep.ref hS 2 rfl
 refine pG_yes rfl (r_list r ok _ fun w12 v12 g12 b12 f12 => ?_)
 replace hS := hS.q f12
 refine ⟨.of hS, pG_yes rfl (c_namesEq (g11.fr (by omega) f12 fun _ _ h => h) g12 (by have := names_len S ok (ByteArray.mk #[]); omega) fun bo11 w13 f13 hb11 => ?_)⟩
 rw [hb11.2 rfl]
 replace hS := hS.q f13
 refine ⟨.of hS, q_of (.bool true) (fun w_ hS => s_pick_t ⟨rfl, rfl⟩) ?_⟩
 exact hk _ hS
end
end Go.Proofs.YtcdcojpfealppaaGreat

set_option linter.unusedVariables false
set_option linter.unusedSimpArgs false
set_option maxRecDepth 100000
namespace Go.Proofs.YtcdcojpfealppaaGreat
open Go Go.Proofs Go.RowKit Go.Proofs.XRed Go.Proofs.XHeap Go.Proofs.XMaps Go.Proofs.XSlices Go.Proofs.XDisk Go.Proofs.XCalls Go.Proofs.XSep Tryz
section
variable {w w0 : World} {k : Value → World → Prop}
variable {W : World} {Pb D E K c : Nat} {S T : AD} {l : List Asrt}
structure Both (W : World) (l : List Asrt) (Pb K : Nat) (S : AD) (c : Nat) (w : World) : Prop where
 ex : ∃ D E bv pv bb pp, Sep (PairL Pb D E K S bv pv bb pp (Base W :: l)) w ∧ bb.length ≤ 1000000
 ok : S.Ok c
theorem Both.fr (h : Both W l Pb K S c w) : Fr no W w := by
 obtain ⟨⟨D, E, bv, pv, bb, pp, hS, _⟩, _⟩ := h
 exact hS.base_at 4 rfl
theorem Both.new {room : Int} (hr : 1 ≤ room ∧ room ≤ 1048576) (hS : Sep (PairL Pb D E K (AD.new room) (.slice none 0 0) (.slice none 0 0) [] [] (Base W :: l)) w) : Both W l Pb K (AD.new room) 0 w :=
 ⟨⟨D, E, _, _, _, _, hS, by simp⟩, AD.Ok.new hr⟩
theorem b_step {v : Value} {s : Script} {i : Nat} (h : Both W l Pb K S c w) (hc : c ≤ 100000) (hv : ScriptV W v s) (hi : i < s.length) (hbd : ∀ p ∈ s, p.1.data.length ≤ 100000 ∧ p.1.picks.length ≤ 12500) (hk : ∀ w', Both W l Pb K (S.doStep s[i].1).2 (c + 1) w' → k (.bool true) w') : pFn P 18 [ptr Pb, stepVal s[i].1 s[i].2.1 s[i].2.2] w k := by
 obtain ⟨⟨D, E, bv, pv, bb, pp, hS, hbb⟩, ok⟩ := h
 have hm : s[i] ∈ s := List.getElem_mem hi
 refine st_step hS ok hc (hv.all _ hm) (hbd _ hm).1 (by have := (hbd _ hm).2; omega) hbb fun w' D' E' bv' pv'' bb' pp' hS' hb' => ?_
 exact hk w' ⟨⟨D', E', bv', pv'', bb', pp', hS', hb'⟩, ok.doStep (by omega) _⟩
theorem b_stands (h : Both W l Pb K S c w) (hk : ∀ w', Both W l Pb K S c w' → k (.bool true) w') : pFn P 19 [ptr Pb] w k := by
 obtain ⟨⟨D, E, bv, pv, bb, pp, hS, hbb⟩, ok⟩ := h
 exact st_stands hS ok fun w' hS' => hk w' ⟨⟨D, E, bv, pv, bb, pp, hS', hbb⟩, ok⟩
end
end Go.Proofs.YtcdcojpfealppaaGreat

set_option linter.unusedVariables false
set_option linter.unusedSimpArgs false
set_option maxRecDepth 100000
namespace Go.Proofs.YtcdcojpfealppaaGreat
open Go Go.Proofs Go.RowKit Go.Proofs.XRed Go.Proofs.XHeap Go.Proofs.XMaps Go.Proofs.XSlices Go.Proofs.XDisk Go.Proofs.XCalls Go.Proofs.XSep Tryz
section
variable {w w0 : World} {k : Value → World → Prop}
variable {W : World} {Pb D E K Qb c : Nat} {S T : AD} {l : List Asrt}
theorem lists_swap {α : Type} {A B : List α} {b : α} : (A ++ b :: B).Perm (B ++ b :: A) :=
 List.perm_middle.trans ((List.Perm.cons b List.perm_append_comm).trans List.perm_middle.symm)
structure Twos (W : World) (Pb Pk Qb Qk : Nat) (S T : AD) (c : Nat) (w : World) : Prop where
 ex : ∃ D E bv pv bb pp D' E' bv' pv' bb' pp', Sep (PairL Pb D E Pk S bv pv bb pp (Base W :: PairL Qb D' E' Qk T bv' pv' bb' pp' [])) w ∧ bb.length ≤ 1000000 ∧ bb'.length ≤ 1000000
 ok : S.Ok c
 ok' : T.Ok c
variable {Pk Qk : Nat}
theorem Twos.fr (h : Twos W Pb Pk Qb Qk S T c w) : Fr no W w := by
 obtain ⟨⟨D, E, bv, pv, bb, pp, D', E', bv', pv', bb', pp', hS, _⟩, _⟩ := h
 exact hS.base_at 4 rfl
theorem Twos.swap (h : Twos W Pb Pk Qb Qk S T c w) : Twos W Qb Qk Pb Pk T S c w := by
 obtain ⟨⟨D, E, bv, pv, bb, pp, D', E', bv', pv', bb', pp', hS, h1, h2⟩, ok, ok'⟩ := h
 refine ⟨⟨D', E', bv', pv', bb', pp', D, E, bv, pv, bb, pp, ?_, h2, h1⟩, ok', ok⟩
 have h3 : Sep (PairL Pb D E Pk S bv pv bb pp [] ++ Base W :: PairL Qb D' E' Qk T bv' pv' bb' pp' []) w := hS
 exact h3.perm lists_swap
theorem Twos.both (h : Twos W Pb Pk Qb Qk S T c w) : ∃ D' E' bv' pv' bb' pp', bb'.length ≤ 1000000 ∧ T.Ok c ∧ Both W (PairL Qb D' E' Qk T bv' pv' bb' pp' []) Pb Pk S c w := by
 obtain ⟨⟨D, E, bv, pv, bb, pp, D', E', bv', pv', bb', pp', hS, h1, h2⟩, ok, ok'⟩ := h
 exact ⟨D', E', bv', pv', bb', pp', h2, ok', ⟨D, E, bv, pv, bb, pp, hS, h1⟩, ok⟩
theorem Twos.of {c' : Nat} {D' E' : Nat} {bv' pv' : Value} {bb' : Bytes} {pp' : List Int} (h : Both W (PairL Qb D' E' Qk T bv' pv' bb' pp' []) Pb Pk S c w) (hb : bb'.length ≤ 1000000) (ok : T.Ok c) : Twos W Pb Pk Qb Qk S T c w := by
 obtain ⟨⟨D, E, bv, pv, bb, pp, hS, h1⟩, ok2⟩ := h
 exact ⟨⟨D, E, bv, pv, bb, pp, D', E', bv', pv', bb', pp', hS, h1, hb⟩, ok2, ok⟩
theorem t_step {v : Value} {s : Script} {i : Nat} (h : Twos W Pb Pk Qb Qk S T c w) (hc : c ≤ 100000) (hv : ScriptV W v s) (hi : i < s.length) (hbd : ∀ p ∈ s, p.1.data.length ≤ 100000 ∧ p.1.picks.length ≤ 12500) (hk : ∀ w', Twos W Pb Pk Qb Qk (S.doStep s[i].1).2 T (c + 1) w' → k (.bool true) w') : pFn P 18 [ptr Pb, stepVal s[i].1 s[i].2.1 s[i].2.2] w k := by
 obtain ⟨D', E', bv', pv', bb', pp', hb, ok', h⟩ := h.both
 exact b_step h hc hv hi hbd fun w' h' => hk w' (.of (c' := 0) h' hb (ok'.mono (by omega) (by omega)))
theorem t_stands (h : Twos W Pb Pk Qb Qk S T c w) (hk : ∀ w', Twos W Pb Pk Qb Qk S T c w' → k (.bool true) w') : pFn P 19 [ptr Pb] w k := by
 obtain ⟨D', E', bv', pv', bb', pp', hb, ok', h⟩ := h.both
 exact b_stands h fun w' h' => hk w' (.of (c' := 0) h' hb ok')
theorem s_stepG {v : Value} {s : Script} {i : Nat} (h : ScriptV w v s) (hi : i < s.length) {kk : Value → Value → World → Prop} (hk : ∀ p, kk p (stepVal s[i].1 s[i].2.1 s[i].2.2) w) :
    pG (.bool true) true (fun k => px P (Instr.indexAt 22 v (i64 i)) w k) (fun p w => pG (.bool true) true (fun k => px P (Instr.loadAt 41 p) w k) (kk p) w) w := by
  obtain ⟨b, o, c, ev, hc⟩ := h.at_ hi
  rw [ev]
  refine pG_yes rfl (s_ix (i := (i : Int)) usl22 (sze22 _) (by omega) (by omega) (pG_yes rfl ?_))
  exact px_ok (run_ldStep (x := s[i].1) (dv := s[i].2.1) (pv := s[i].2.2) (fun j u hj => by have := hc j u hj; simpa using this)) (hk _)
end
end Go.Proofs.YtcdcojpfealppaaGreat

set_option linter.unusedVariables false
set_option linter.unusedSimpArgs false
namespace Go.Proofs.XRed
open Go Go.Proofs
inductive Tre where
 | done
 | one (i : Nat) (t : Tre)
 | two (i j : Nat) (t u : Tre)
def redStep (P : Program) (ops : List Oper) (S : World → Prop) (i : Nat) (N : Env → World → Prop) (ρ : Env) (w : World) : Prop :=
 match ops[i]? with
 | none => False
 | some o =>
  match quietOp o.op, o.guard with
  | true, none => cq P S o.op o.type ρ fun v => N (putO ρ o.dst v) w
  | true, some (j, want) => pGq (gVal ops ρ j) want (cq P S o.op o.type ρ) fun v => N (putO ρ o.dst v) w
  | false, none => cp P o.op o.type ρ w fun v w => S w ∧ N (putO ρ o.dst v) w
  | false, some (j, want) => pG (gVal ops ρ j) want (cp P o.op o.type ρ w) (fun v w => S w ∧ N (putO ρ o.dst v) w) w
def redTree (P : Program) (ops : List Oper) (S : World → Prop) (K : Env → World → Prop) : Tre → Env → World → Prop
 | .done, ρ, w => K ρ w
 | .one i t, ρ, w => redStep P ops S i (redTree P ops S K t) ρ w
 | .two i j t u, ρ, w => redStep P ops S i (redTree P ops S K t) ρ w ∧ redStep P ops S j (redTree P ops S K u) ρ w
def drawTree (ops : Array Oper) : Nat → Array Bool → Tre
 | 0, _ => .done
 | fuel + 1, listed =>
  let r := Region.ready .any ops listed
  match r.find? fun i => quietOp (ops.getD i default).op with
  | some i => .one i (drawTree ops fuel (listed.setIfInBounds i true))
  | none => match r with
   | [i] => .one i (drawTree ops fuel (listed.setIfInBounds i true))
   | [i, j] => .two i j (drawTree ops fuel (listed.setIfInBounds i true)) (drawTree ops fuel (listed.setIfInBounds j true))
   | _ => .done
def treeOk (ops : Array Oper) : Nat → Array Bool → Tre → Bool
 | _, listed, .done => (Region.ready .any ops listed).isEmpty
 | 0, _, _ => false
 | fuel + 1, listed, .one i t =>
  (Region.ready .any ops listed).contains i &&
  (if quietOp (ops.getD i default).op then Region.free .any ops listed i else Region.ready .any ops listed == [i]) &&
  treeOk ops fuel (listed.setIfInBounds i true) t
 | fuel + 1, listed, .two i j t u =>
  Region.ready .any ops listed == [i, j] && !quietOp (ops.getD i default).op && !quietOp (ops.getD j default).op &&
  treeOk ops fuel (listed.setIfInBounds i true) t && treeOk ops fuel (listed.setIfInBounds j true) u
noncomputable def redT (P : Program) (n : Nat) (c : Code) : (Xt → Env → World → Prop) → Env → World → Prop :=
 @Code.rec (fun _ => (Xt → Env → World → Prop) → Env → World → Prop)
  (fun Q ρ w => Q .normal ρ w)
  (fun _ ops draw Q ρ w =>
   bif draw then ∃ S : World → Prop, S w.drew ∧ redTree P ops.toList S (Q .normal) (drawTree ops ops.size (Array.replicate ops.size false)) ρ w.drew
   else redOps P ops.toList (Q .normal) ops.toList ρ w)
  (fun _ y ihx ihy Q ρ w => ihx (thenE (Pt y ihy Q) Q) ρ w)
  (fun c _ _ ihx ihy Q ρ w => pC (ev ρ c) (ihx Q ρ w) (ihy Q ρ w))
  (fun id _ ih Q ρ w => ih (inBlockE id Q) ρ w)
  (fun c _ Q ρ w => pRaw P n (.loop c) Q ρ w)
  (fun _ _ _ _ _ _ _ _ _ => False)
  (fun id Q ρ w => Q (.exit id) ρ w)
  (fun c _ Q ρ w => pRaw P n (.scope c) Q ρ w)
  (fun _ Q ρ w => Q .normal ρ w)
  (fun l Q ρ w => Q (.goto l) ρ w)
  (fun Q ρ w => Q .ret ρ w)
  (fun _ _ _ _ => False) c
def Code.fitsT (n : Nat) : Code → Bool
 | .region _ ops draw => wfOps n ops.toList && (!draw || (Region.noSelect ops && treeOk ops ops.size (Array.replicate ops.size false) (drawTree ops ops.size (Array.replicate ops.size false))))
 | .seq x y | .cond _ x y => Code.fitsT n x && Code.fitsT n y
 | .block _ c => Code.fitsT n c
 | _ => true
noncomputable def contAtT (P : Program) (n : Nat) : Code → (Xt → Env → World → Prop) → List Nat → Xt → Env → World → Prop
 | _, Q, [] => Q
 | .seq x y, Q, 0 :: p => contAtT P n x (thenE (Pt y (redT P n y) Q) Q) p
 | .seq _ y, Q, (_ + 1) :: p => contAtT P n y Q p
 | .cond _ x _, Q, 0 :: p => contAtT P n x Q p
 | .cond _ _ y, Q, (_ + 1) :: p => contAtT P n y Q p
 | .block id c, Q, _ :: p => contAtT P n c (inBlockE id Q) p
 | _, Q, _ :: _ => Q
def AtT (P : Program) (n : Nat) (B : Code) (Q : Xt → Env → World → Prop) (q : List Nat) (ρ : Env) (w : World) : Prop := Pt (sub B q) (redT P n (sub B q)) (contAtT P n B Q q) ρ w
def LoopAtT (P : Program) (n : Nat) (B : Code) (Q : Xt → Env → World → Prop) (p : List Nat) (ρ : Env) (w : World) : Prop := pRaw P n (sub B p) (contAtT P n B Q p) ρ w
section
variable {P : Program} {n : Nat}
section
variable {ops : Array Oper} {Q : Exit → Act → World → Prop} {S : World → Prop}
theorem getD_of {i : Nat} {o : Oper} (ho : ops[i]? = some o) : ops.getD i default = o := by
 have hi : i < ops.size := (Array.getElem?_eq_some_iff.1 ho).1
 have : ops[i] = o := by simpa [Array.getElem?_eq_getElem hi] using ho
 simp [Array.getD, hi, this]
theorem redStep_quiet (hw : wfOps n ops.toList = true) {i : Nat} {o : Oper} (ho : ops[i]? = some o) (hqo : quietOp o.op = true) {N : Env → World → Prop} {ρ : Env} {a : Act} {w : World} (hs : Sim n ρ a) (h : redStep P ops.toList S i N ρ w) :
    ∃ v, YieldsIf P ops S o v a ∧ N (putO ρ o.dst v) w := by
  simp only [redStep, Array.getElem?_toList, ho] at h
  cases hg : o.guard with
  | none =>
    have hwant : Region.wanted o (yielded ops a.tmps) = true := by simp [Region.wanted, hg]
    simp only [hqo, hg] at h
    exact cq_yields hs hqo hwant h
  | some g =>
    obtain ⟨j, want⟩ := g
    have hy := hs.yielded ops hw j
    simp only [hqo, hg] at h
    unfold pGq at h
    split at h
    · rename_i b hb
      rw [hb] at hy
      cases hbw : (b == want) with
      | true =>
        simp only [hbw, cond_true] at h
        exact cq_yields hs hqo (by simp only [Region.wanted, hg, hy]; simpa using hbw) h
      | false =>
        simp only [hbw, cond_false] at h
        exact ⟨_, .inr ⟨by simp only [Region.wanted, hg, hy]; simpa using hbw, rfl⟩, h⟩
    · rename_i hb
      have hn : yielded ops a.tmps j = none := by
        rw [hy]
        split
        · rename_i b hb'; exact absurd hb' (hb b)
        · rfl
      exact ⟨_, .inr ⟨by simp [Region.wanted, hg, hn], rfl⟩, h⟩
theorem redStep_loud (hw : wfOps n ops.toList = true) {i : Nat} {o : Oper} (ho : ops[i]? = some o) (hqo : quietOp o.op = false) {N : Env → World → Prop} {ρ : Env} {a : Act} {w : World} (hs : Sim n ρ a) (h : redStep P ops.toList S i N ρ w)
    {G : Act → World → Prop} (hN : ∀ (ρ' : Env) (a' : Act) (w' : World), Sim n ρ' a' → S w' → N ρ' w' → G a' w') {z : Nat} : wpOp P ops Q i (fun a' w' => (i ≠ z → S w') ∧ G a' w') a w := by
  have hmem : o ∈ ops.toList := by rw [Array.mem_toList_iff]; exact Array.mem_of_getElem? ho
  have hd := wfOps_at hw hmem
  simp only [redStep, Array.getElem?_toList, ho] at h
  unfold wpOp
  simp only [ho]
  cases hg : o.guard with
  | none =>
    have hwant : Region.wanted o (yielded ops a.tmps) = true := by simp [Region.wanted, hg]
    simp only [hqo, hg] at h
    rw [if_pos hwant]
    exact .inl (cp_sound hs (fun v w hk => ⟨fun _ => hk.1, hN _ _ _ (hs.putO hd v) hk.1 hk.2⟩) h)
  | some g =>
    obtain ⟨j, want⟩ := g
    have hy := hs.yielded ops hw j
    simp only [hqo, hg] at h
    unfold pG at h
    split at h
    · rename_i b hb
      rw [hb] at hy
      cases hbw : (b == want) with
      | true =>
        simp only [hbw, cond_true] at h
        rw [if_pos (by simp only [Region.wanted, hg, hy]; simpa using hbw)]
        exact .inl (cp_sound hs (fun v w hk => ⟨fun _ => hk.1, hN _ _ _ (hs.putO hd v) hk.1 hk.2⟩) h)
      | false =>
        simp only [hbw, cond_false] at h
        rw [if_neg (by simp only [Region.wanted, hg, hy]; simpa using hbw)]
        exact ⟨fun _ => h.1, hN _ _ _ (hs.putO hd _) h.1 h.2⟩
    · rename_i hb
      have hn : yielded ops a.tmps j = none := by
        rw [hy]
        split
        · rename_i b hb'; exact absurd hb' (hb b)
        · rfl
      rw [if_neg (by simp [Region.wanted, hg, hn])]
      exact ⟨fun _ => h.1, hN _ _ _ (hs.putO hd _) h.1 h.2⟩
end
theorem redTree_sound {ops : Array Oper} (hw : wfOps n ops.toList = true) (hsel : Region.noSelect ops = true) {S : World → Prop} {K : Env → World → Prop} {Q : Exit → Act → World → Prop}
    (hK : ∀ ρ a w, Sim n ρ a → K ρ w → Q .normal a w) (hQ : ∀ c a w, ¬ Q (.panic c) a w) :
    ∀ (fuel : Nat) (t : Tre) (listed : Array Bool) (ρ : Env) (a : Act) (w : World), treeOk ops fuel listed t = true → closedL ops listed → Sim n ρ a → S w → redTree P ops.toList S K t ρ w →
      anyZ P ops Q S ops.size fuel listed a w := by
  have at_ : ∀ {i : Nat} {listed : Array Bool}, i ∈ Region.ready .any ops listed → ∃ o, ops[i]? = some o := fun h => by obtain ⟨_, o, ho, _⟩ := mem_ready.1 h; exact ⟨o, ho⟩
  intro fuel
  induction fuel with
  | zero =>
    intro t listed ρ a w hok hcl hs hS h
    cases t with
    | done =>
      simp only [treeOk, List.isEmpty_iff] at hok
      exact anyZ_done hok (hK _ _ _ hs h) _
    | one i t => simp only [treeOk, Bool.false_eq_true] at hok
    | two i j t u => simp only [treeOk, Bool.false_eq_true] at hok
  | succ fuel ih =>
    intro t listed ρ a w hok hcl hs hS h
    cases t with
    | done =>
      simp only [treeOk, List.isEmpty_iff] at hok
      exact anyZ_done hok (hK _ _ _ hs h) _
    | one i t =>
      simp only [treeOk, Bool.and_eq_true] at hok
      obtain ⟨⟨hcont, hq⟩, hok⟩ := hok
      simp only [redTree] at h
      have hmem : i ∈ Region.ready .any ops listed := by simpa using hcont
      obtain ⟨o, ho⟩ := at_ hmem
      rw [getD_of ho] at hq
      have hd := wfOps_at hw (show o ∈ ops.toList by rw [Array.mem_toList_iff]; exact Array.mem_of_getElem? ho)
      cases hqo : quietOp o.op with
      | true =>
        rw [if_pos hqo] at hq
        obtain ⟨v, hy, hr⟩ := redStep_quiet hw ho hqo hs h
        exact anyZ_take (.inr (Nat.le_refl _)) hcl ho hsel hq hcont hQ hy hS (ih _ _ _ _ _ hok (hcl.step hmem) (hs.putO hd v) hS hr)
      | false =>
        rw [if_neg (by simp [hqo])] at hq
        have hq' : Region.ready .any ops listed = [i] := by simpa using hq
        exact anyZ_one hq' (redStep_loud hw ho hqo hs h fun ρ' a' w' hs' hS' hr => ih _ _ _ _ _ hok (hcl.step hmem) hs' hS' hr)
    | two i j t u =>
      simp only [treeOk, Bool.and_eq_true] at hok
      obtain ⟨⟨⟨⟨hr, hi⟩, hj⟩, ok1⟩, ok2⟩ := hok
      simp only [redTree] at h
      have hr' : Region.ready .any ops listed = [i, j] := by simpa using hr
      have mi : i ∈ Region.ready .any ops listed := by rw [hr']; simp
      have mj : j ∈ Region.ready .any ops listed := by rw [hr']; simp
      obtain ⟨oi, hoi⟩ := at_ mi
      obtain ⟨oj, hoj⟩ := at_ mj
      rw [getD_of hoi] at hi
      rw [getD_of hoj] at hj
      refine ⟨fun h0 => by rw [hr'] at h0; simp at h0, fun k hk => ?_⟩
      rw [hr'] at hk
      rcases List.mem_cons.1 hk with rfl | hk
      · exact redStep_loud hw hoi (by simpa using hi) hs h.1 fun ρ' a' w' hs' hS' hr => ih _ _ _ _ _ ok1 (hcl.step mi) hs' hS' hr
      · obtain rfl := List.mem_singleton.1 hk
        exact redStep_loud hw hoj (by simpa using hj) hs h.2 fun ρ' a' w' hs' hS' hr => ih _ _ _ _ _ ok2 (hcl.step mj) hs' hS' hr
theorem redT_sound (hm : P.follows .mixedOrders = true) : ∀ (c : Code), Code.fitsT n c = true → ∀ (Q : Xt → Env → World → Prop) (ρ : Env) (a : Act) (w : World), Sim n ρ a → redT P n c Q ρ w → c.wp P (lift n Q) a w := by
 intro c
 induction c with
 | skip => intro _ Q ρ a w hs h; exact wp_skip ⟨ρ, hs, h⟩
 | region id ops draw =>
  intro hf Q ρ a w hs h
  replace h : bif draw then ∃ S : World → Prop, S w.drew ∧ redTree P ops.toList S (Q .normal) (drawTree ops ops.size (Array.replicate ops.size false)) ρ w.drew else redOps P ops.toList (Q .normal) ops.toList ρ w := h
  simp only [Code.fitsT, Bool.and_eq_true] at hf
  cases draw with
  | false =>
   simp only [cond_false] at h
   exact wp_region_list (redOps_sound hf.1 (Q := lift n Q) (fun ρ a w hs h => ⟨ρ, hs, h⟩) _ (fun o ho => ho) _ _ _ hs h)
  | true =>
   simp only [cond_true] at h
   obtain ⟨S, hS, h⟩ := h
   have hf2 := hf.2
   simp only [Bool.not_true, Bool.false_or, Bool.and_eq_true] at hf2
   exact wp_region_any hm (any_of_Z (z := ops.size) _ _ _ _ (redTree_sound hf.1 hf2.1 (Q := lift n Q) (fun ρ a w hs h => ⟨ρ, hs, h⟩) (fun c a w h => h) _ _ _ _ _ _ hf2.2 (closedL.start _) hs hS h))
 | seq x y ihx ihy =>
  intro hf Q ρ a w hs h
  simp only [Code.fitsT, Bool.and_eq_true] at hf
  replace h : redT P n x (thenE (redT P n y Q) Q) ρ w := h
  refine wp_seq (wp_mono (ihx hf.1 _ _ _ _ hs h) ?_)
  intro e a w hq
  cases e with
  | normal => obtain ⟨ρ, hs, hq⟩ := hq; exact ihy hf.2 _ _ _ _ hs hq
  | exit i => exact hq
  | goto l => exact hq
  | ret => exact hq
  | panic c => exact hq
  | outgrown => exact hq
 | cond c x y ihx ihy =>
  intro hf Q ρ a w hs h
  simp only [Code.fitsT, Bool.and_eq_true] at hf
  replace h : pC (ev ρ c) (redT P n x Q ρ w) (redT P n y Q ρ w) := h
  simp only [pC] at h
  split at h
  ·rename_i b hb
   refine wp_cond (t := b) (by rw [hs.eval]; exact hb) ?_
   cases b with
   | true => exact ihx hf.1 _ _ _ _ hs h
   | false => exact ihy hf.2 _ _ _ _ hs h
  ·exact h.elim
 | block id c ih =>
  intro hf Q ρ a w hs h
  simp only [Code.fitsT] at hf
  replace h : redT P n c (inBlockE id Q) ρ w := h
  refine wp_block (wp_mono (ih hf _ _ _ _ hs h) ?_)
  intro e a w hq
  cases e with
  | normal => exact hq
  | exit i =>
   obtain ⟨ρ, hs, hq⟩ := hq
   simp only [inBlockE] at hq
   by_cases hi : i = id
   ·subst hi
    simp only [Exit.inBlock, if_true]
    simp only [Nat.beq_refl, cond_true] at hq
    exact ⟨ρ, hs, hq⟩
   ·simp only [Exit.inBlock, hi, if_false]
    have hb : i.beq id = false := by
     cases hb : i.beq id with
     | false => rfl
     | true => exact absurd (Nat.eq_of_beq_eq_true hb) hi
    rw [hb] at hq
    exact ⟨ρ, hs, hq⟩
  | goto l => exact hq
  | ret => exact hq
  | panic c => exact hq
  | outgrown => exact hq
 | loop c ih => intro _ Q ρ a w hs h; exact h a hs
 | scope c ih => intro _ Q ρ a w hs h; exact h a hs
 | rangeFunc f ps x y ihx ihy => intro _ Q ρ a w hs h; exact h.elim
 | exit id => intro _ Q ρ a w hs h; exact wp_exit ⟨ρ, hs, h⟩
 | label l => intro _ Q ρ a w hs h; exact wp_label ⟨ρ, hs, h⟩
 | goto l => intro _ Q ρ a w hs h; exact wp_goto ⟨ρ, hs, h⟩
 | ret => intro _ Q ρ a w hs h; exact wp_ret ⟨ρ, hs, h⟩
 | refuse why => intro _ Q ρ a w hs h; exact h.elim
theorem pRaw_loopT (hm : P.follows .mixedOrders = true) {c : Code} (hf : Code.fitsT n c = true) {Q : Xt → Env → World → Prop} (I : Nat → Env → World → Prop)
    (round : ∀ m ρ w, I m ρ w → redT P n c (thenE (fun ρ' w' => ∃ m', m' < m ∧ I m' ρ' w') Q) ρ w) {m : Nat} {ρ : Env} {w : World} (h : I m ρ w) : pRaw P n (.loop c) Q ρ w := by
  intro a hs
  refine wp_loop_rel (fun m a w => ∃ ρ, Sim n ρ a ∧ I m ρ w) ?_ m a w ⟨ρ, hs, h⟩
  rintro m a w ⟨ρ, hs, hI⟩
  refine wp_mono (redT_sound hm c hf _ _ _ _ hs (round m ρ w hI)) ?_
  intro e a w hq
  cases e with
  | normal => obtain ⟨ρ, hs, m', hlt, hI⟩ := hq; exact ⟨m', hlt, ρ, hs, hI⟩
  | exit i => exact hq
  | goto l => exact hq
  | ret => exact hq
  | panic c => exact hq
  | outgrown => exact hq
theorem LoopAtT_inv (hm : P.follows .mixedOrders = true) {B : Code} {Q : Xt → Env → World → Prop} {p : List Nat} (hf : Code.fitsT n (sub B (p ++ [0])) = true) (hl : sub B p = .loop (sub B (p ++ [0])))
    (I : Nat → Env → World → Prop) (round : ∀ m ρ w, I m ρ w → AtT P n (sub B (p ++ [0])) (thenE (fun ρ' w' => ∃ m', m' < m ∧ I m' ρ' w') (contAtT P n B Q p)) [] ρ w)
    {m : Nat} {ρ : Env} {w : World} (h : I m ρ w) : LoopAtT P n B Q p ρ w := by
  unfold LoopAtT
  rw [hl]
  refine pRaw_loopT hm hf I (fun m ρ w hI => ?_) h
  have := round m ρ w hI
  unfold AtT Pt at this
  have e1 : sub (sub B (p ++ [0])) [] = sub B (p ++ [0]) := by generalize sub B (p ++ [0]) = c; cases c <;> rfl
  have e2 : ∀ Q', contAtT P n (sub B (p ++ [0])) Q' [] = Q' := by intro Q'; generalize sub B (p ++ [0]) = c; cases c <;> rfl
  rw [e1, e2] at this
  exact this
theorem Calls_of_redT (hm : P.follows .mixedOrders = true) {f : FuncId} {fn : Func} {c : Code} (hf : P.funcs[f]? = some fn) (hb : fn.body = some c) (hfit : Code.fitsT fn.ntmps c = true)
    (hrs : fn.results.all (fun r => match r with | .tmp _ => true | _ => false) = true) {args : List Value} (hn : args.length ≤ fn.ntmps) {w : World} {k : Value → World → Prop}
    (h : redT P fn.ntmps c (retQ P fn.results.toList k) (argEnv args) w) : Calls P f args.toArray w fun e w' => ∃ v, e = .returned v ∧ k v w' := by
  have hsim : Sim fn.ntmps (argEnv args) { tmps := args.toArray ++ Array.replicate (fn.ntmps - args.toArray.size) undef, defers := [] } := by
    refine ⟨rfl, by simp; omega, fun t => ?_⟩
    simp only [argEnv]
    rcases Nat.lt_or_ge t args.length with h | h
    · simp [Array.getElem?_append, h, List.getD_eq_getElem?_getD]
    · have e : args.getD t undef = undef := by simp [List.getD_eq_getElem?_getD, List.getElem?_eq_none h]
      rw [e]
      rcases Nat.lt_or_ge (t - args.length) (fn.ntmps - args.length) with h2 | h2
      · simp [Array.getElem?_append, Nat.not_lt.2 h, Array.getElem?_replicate, h2]
      · simp [Array.getElem?_append, Nat.not_lt.2 h, Array.getElem?_replicate, Nat.not_lt.2 h2]
  refine calls_of_wp hf hb (wp_mono (redT_sound hm c hfit _ _ _ _ hsim h) ?_)
  have done : ∀ (a : Act) (w : World) (ρ : Env), Sim fn.ntmps ρ a → retV (P := P) fn.results.toList ρ w k → a.defers = [] ∧ ∃ v, (results fn a.tmps).run P w = .ok v w ∧ ∃ u, Ending.returned v = .returned u ∧ k u w := by
    intro a w ρ hs hr
    refine ⟨hs.1, ?_⟩
    obtain ⟨rs, hrl⟩ : ∃ rs, fn.results = rs.toArray := ⟨fn.results.toList, by simp⟩
    unfold retV at hr
    have hsd : ∀ t, a.tmps.getD t undef = ρ t := hs.2.2
    split at hr
    · rename_i t ht
      refine ⟨ρ t, ?_, _, rfl, hr⟩
      have : fn.results = #[.tmp t] := by apply Array.ext'; simpa using ht
      simp only [results, this]; rw [← hsd]; simp
    · rename_i t u ht
      refine ⟨_, ?_, _, rfl, hr⟩
      have : fn.results = #[.tmp t, .tmp u] := by apply Array.ext'; simpa using ht
      simp only [results, this]; rw [← hsd, ← hsd]; simp
    · rename_i t u v ht
      refine ⟨_, ?_, _, rfl, hr⟩
      have : fn.results = #[.tmp t, .tmp u, .tmp v] := by apply Array.ext'; simpa using ht
      simp only [results, this]; rw [← hsd, ← hsd, ← hsd]; simp
    · rename_i t u ht
      have : fn.results = #[.cell t u] := by apply Array.ext'; simpa using ht
      rw [this] at hrs; simp at hrs
    · rename_i ht
      refine ⟨_, ?_, _, rfl, hr⟩
      have : fn.results = #[] := by apply Array.ext'; simpa using ht
      simp only [results, this]; simp
    · exact hr.elim
  intro e a w hq
  cases e with
  | normal => obtain ⟨ρ, hs, hr⟩ := hq; exact done a w ρ hs hr
  | ret => obtain ⟨ρ, hs, hr⟩ := hq; exact done a w ρ hs hr
  | exit i => obtain ⟨ρ, hs, hr⟩ := hq; exact hr.elim
  | goto l => obtain ⟨ρ, hs, hr⟩ := hq; exact hr.elim
  | panic c => exact hq.elim
  | outgrown => exact hq.elim
theorem pFn_of_atT (hm : P.follows .mixedOrders = true) {f : FuncId} {fn : Func} (hf : P.funcs[f]? = some fn) (hname : (fn.name == "runtime.NumGoroutine") = false) (hb : fn.body = some (bodyOf fn)) {n : Nat} (hn : fn.ntmps = n) (hfit : Code.fitsT n (bodyOf fn) = true)
    (hrs : fn.results.all (fun r => match r with | .tmp _ => true | _ => false) = true) {args : List Value} (hlen : args.length ≤ n) {w : World} {k : Value → World → Prop}
    (h : AtT P n (bodyOf fn) (retQ P fn.results.toList k) [] (argEnv args) w) : pFn P f args w k := by
  subst hn
  refine pFn_of_calls hf hname (by rw [hb]; rfl) (Calls_of_redT hm hf hb hfit hrs hlen ?_)
  unfold AtT Pt at h
  have e1 : sub (bodyOf fn) [] = bodyOf fn := by generalize bodyOf fn = c; cases c <;> rfl
  have e2 : ∀ Q', contAtT P fn.ntmps (bodyOf fn) Q' [] = Q' := by intro Q'; generalize bodyOf fn = c; cases c <;> rfl
  rw [e1, e2] at h
  exact h
end
end Go.Proofs.XRed
