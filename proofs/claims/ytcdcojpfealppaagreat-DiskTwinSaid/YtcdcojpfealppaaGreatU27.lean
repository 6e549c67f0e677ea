/- Put together by a program (wip/tools/shake.py): R6, TwinL, TwinL2. -/
import Derived.Test.YtcdcojpfealppaaGreatU26
import Derived.Test.YtcdcojpfealppaaGreatProg
import Derived.Test.YtcdcojpfealppaaGreatMix
set_option linter.unusedVariables false
set_option maxRecDepth 100000
namespace Go.Proofs.YtcdcojpfealppaaGreat
open Go Go.Proofs Go.Proofs.XRed Tryz
noncomputable def F10B : Code := bodyOf f10
def F10A (k : Value → World → Prop) (q : List Nat) (ρ : Env) (w : World) : Prop := AtT prog 117 F10B (retQ prog f10.results.toList k) q ρ w
noncomputable def F10B1 : Code := sub F10B [1, 1, 1, 1, 1, 0, 1, 0, 0]
def F10Q1 (k : Value → World → Prop) (N1 : Env → World → Prop) : Xt → Env → World → Prop := thenE N1 (contAtT prog 117 F10B (retQ prog f10.results.toList k) [1, 1, 1, 1, 1, 0, 1, 0])
def F10A1 (k : Value → World → Prop) (N1 : Env → World → Prop) (q : List Nat) (ρ : Env) (w : World) : Prop := AtT prog 117 F10B1 (F10Q1 k N1) q ρ w
def F10L1 (k : Value → World → Prop) (ρ : Env) (w : World) : Prop := LoopAtT prog 117 F10B (retQ prog f10.results.toList k) [1, 1, 1, 1, 1, 0, 1, 0] ρ w
theorem F10L1_inv (k : Value → World → Prop) (I : Nat → Env → World → Prop) (round : ∀ m ρ w, I m ρ w → F10A1 k (fun ρ' w' => ∃ m', m' < m ∧ I m' ρ' w') [] ρ w) {m : Nat} {ρ : Env} {w : World} (h : I m ρ w) : F10L1 k ρ w :=
 LoopAtT_inv mixed (B := F10B) (Q := (retQ prog f10.results.toList k)) (p := [1, 1, 1, 1, 1, 0, 1, 0]) (by kernel_rfl) (by kernel_rfl) I round h
def F10_0 (room0 : Value) (script1 : Value) (at2 : Value) (others3 : Value) (w : World) (k : Value → World → Prop) : Prop :=
 pFn prog 15 [script1] w fun v14 w =>
 pG v14 false (fun k => k others3 w) (w := w) (next := fun v16 w =>
 pG v14 false (fun k => pFn prog 15 [v16] w k) (w := w) (next := fun v17 w =>
 px prog (pickSem v14 (.bool true) v17) w fun v18 w =>
 pC v18 (
 k (.bool true) w)
 (
 pFn prog 16 [room0] w fun v21 w =>
 px prog (Instr.extract v21 0) w fun v22 w =>
 px prog (Instr.extract v21 1) w fun v23 w =>
 px prog (Op.unary .not v23) w fun v25 w =>
 pG v25 false (fun k => k v22 w) (w := w) (next := fun v27 w =>
 pG v25 false (fun k => px prog (nilSem v27) w k) (w := w) (next := fun v28 w =>
 pG v25 false (fun k => px prog (Instr.fieldAt 33 v28 0) w k) (w := w) (next := fun v29 w =>
 pG v25 false (fun k => px prog (Instr.loadAt 29 v29) w k) (w := w) (next := fun v30 w =>
 pG v25 false (fun k => px prog (binSem .eql 29 (.tmp 30) (.const (.pointer none)) v30 (.pointer none)) w k) (w := w) (next := fun v31 w =>
 px prog (pickSem v25 (.bool true) v31) w fun v32 w =>
 pC v32 (
 pG v23 true (fun k => pFn prog 17 [] w k) (w := w) (next := fun v35 w =>
 px prog (pickSem v23 v35 (.bool false)) w fun v36 w =>
 k v36 w))
 (
 F10L1 k (put (put (put (put (put (put (put (put (put (put (put (put (put (put (put (put (put (put (put (put (put (put (put (put (put (argEnv [room0, script1, at2, others3]) 8 (.bool false)) 13 script1) 14 v14) 15 v14) 16 v16) 17 v17) 18 v18) 20 room0) 21 v21) 19 v21) 22 v22) 23 v23) 9 v22) 10 v23) 24 v23) 25 v25) 26 v25) 27 v27) 28 v28) 29 v29) 30 v30) 31 v31) 32 v32) 11 (.pointer none)) 12 (.int .i64 0)) w)))))))))
theorem F10_0_eq (room0 : Value) (script1 : Value) (at2 : Value) (others3 : Value) (w : World) (k : Value → World → Prop) : F10A k [] (argEnv [room0, script1, at2, others3]) w = F10_0 room0 script1 at2 others3 w k := by kernel_rfl
def F10_1 (k : Value → World → Prop) (N1 : Env → World → Prop) (ρ : Env) (w : World) : Prop :=
 px prog (bSem .len #[22] 3 #[(ρ 1)]) w fun v39 w =>
 px prog (binSem .leq 3 (.tmp 37) (.tmp 39) (ρ 12) v39) w fun v40 w =>
 pC v40 (
 px prog (binSem .eql 3 (.tmp 43) (.tmp 44) (ρ 12) (ρ 2)) w fun v45 w =>
 pC v45 (
 ∃ S : World → Prop, S w.drew ∧ (fun w =>
 pq prog S (nilSem (ρ 9)) fun v47 =>
 pq prog S (Instr.fieldAt 33 v47 0) fun v48 =>
 pq prog S (Instr.loadAt 29 v48) fun v49 =>
 pq prog S (nilSem (ρ 9)) fun v52 =>
 pq prog S (Instr.fieldAt 33 v52 1) fun v53 =>
 pq prog S (Instr.loadAt 30 v53) fun v54 =>
 pq prog S (Instr.build 51 #[]) fun v56 =>
 (
 pFn prog 24 [v49] w fun v50 w => S w ∧ (
 (
 pFn prog 25 [v54] w fun v55 w => S w ∧ (
 px prog (Instr.box 51 v56) w fun v57 w => S w ∧ (
 pq prog S (Instr.build 33 #[(0, v50), (1, v55), (2, v57)]) fun v58 =>
 px prog (Instr.box 33 v58) w fun v59 w => S w ∧ (
 F10A1 k N1 [1, 0, 0, 0, 1, 0, 1] (put (put (put (put (put (put (put (put (put (put (put (put (put (put (put (put (put (put (put (put (put (put ρ 37 (ρ 12)) 38 (ρ 1)) 39 v39) 40 v40) 43 (ρ 12)) 44 (ρ 2)) 45 v45) 46 (ρ 9)) 47 v47) 48 v48) 49 v49) 51 (ρ 9)) 52 v52) 53 v53) 54 v54) 56 v56) 50 v50) 55 v55) 57 v57) 58 v58) 59 v59) 11 v59) w)))) ∧ (
 px prog (Instr.box 51 v56) w fun v57_1 w => S w ∧ (
 pFn prog 25 [v54] w fun v55_1 w => S w ∧ (
 pq prog S (Instr.build 33 #[(0, v50), (1, v55_1), (2, v57_1)]) fun v58_1 =>
 px prog (Instr.box 33 v58_1) w fun v59_1 w => S w ∧ (
 F10A1 k N1 [1, 0, 0, 0, 1, 0, 1] (put (put (put (put (put (put (put (put (put (put (put (put (put (put (put (put (put (put (put (put (put (put ρ 37 (ρ 12)) 38 (ρ 1)) 39 v39) 40 v40) 43 (ρ 12)) 44 (ρ 2)) 45 v45) 46 (ρ 9)) 47 v47) 48 v48) 49 v49) 51 (ρ 9)) 52 v52) 53 v53) 54 v54) 56 v56) 50 v50) 57 v57_1) 55 v55_1) 58 v58_1) 59 v59_1) 11 v59_1) w)))))) ∧ (
 px prog (Instr.box 51 v56) w fun v57_2 w => S w ∧ (
 pFn prog 24 [v49] w fun v50_1 w => S w ∧ (
 pFn prog 25 [v54] w fun v55_2 w => S w ∧ (
 pq prog S (Instr.build 33 #[(0, v50_1), (1, v55_2), (2, v57_2)]) fun v58_2 =>
 px prog (Instr.box 33 v58_2) w fun v59_2 w => S w ∧ (
 F10A1 k N1 [1, 0, 0, 0, 1, 0, 1] (put (put (put (put (put (put (put (put (put (put (put (put (put (put (put (put (put (put (put (put (put (put ρ 37 (ρ 12)) 38 (ρ 1)) 39 v39) 40 v40) 43 (ρ 12)) 44 (ρ 2)) 45 v45) 46 (ρ 9)) 47 v47) 48 v48) 49 v49) 51 (ρ 9)) 52 v52) 53 v53) 54 v54) 56 v56) 57 v57_2) 50 v50_1) 55 v55_2) 58 v58_2) 59 v59_2) 11 v59_2) w)))))) w.drew)
 (
 F10A1 k N1 [1, 0, 0, 1] (put (put (put (put (put (put (put ρ 37 (ρ 12)) 38 (ρ 1)) 39 v39) 40 v40) 43 (ρ 12)) 44 (ρ 2)) 45 v45) w))
 (
 F10A k [1, 1, 1, 1, 1, 1] (put (put (put (put ρ 37 (ρ 12)) 38 (ρ 1)) 39 v39) 40 v40) w)
theorem F10_1_eq (k : Value → World → Prop) (N1 : Env → World → Prop) (ρ : Env) (w : World) : F10A1 k N1 [] ρ w = F10_1 k N1 ρ w := by kernel_rfl
def F10_2 (k : Value → World → Prop) (N1 : Env → World → Prop) (ρ : Env) (w : World) : Prop :=
 px prog (nilSem (ρ 11)) w fun v61 w =>
 px prog (Instr.fieldAt 33 v61 0) w fun v62 w =>
 px prog (Instr.loadAt 29 v62) w fun v63 w =>
 px prog (binSem .eql 29 (.tmp 63) (.const (.pointer none)) v63 (.pointer none)) w fun v64 w =>
 pG v64 false (fun k => k (ρ 11) w) (w := w) (next := fun v66 w =>
 pG v64 false (fun k => pFn prog 19 [v66] w k) (w := w) (next := fun v67 w =>
 pG v64 false (fun k => px prog (Op.unary .not v67) w k) (w := w) (next := fun v68 w =>
 px prog (pickSem v64 (.bool true) v68) w fun v69 w =>
 pC v69 (
 k (.bool false) w)
 (
 px prog (bSem .len #[22] 3 #[(ρ 1)]) w fun v72 w =>
 px prog (binSem .lss 3 (.tmp 70) (.tmp 72) (ρ 12) v72) w fun v73 w =>
 pG v73 true (fun k => k (ρ 9) w) (w := w) (next := fun v75 w =>
 pG v73 true (fun k => k (ρ 1) w) (w := w) (next := fun v76 w =>
 pG v73 true (fun k => k (ρ 12) w) (w := w) (next := fun v77 w =>
 pG v73 true (fun k => px prog (Instr.indexAt 22 v76 v77) w k) (w := w) (next := fun v78 w =>
 pG v73 true (fun k => px prog (Instr.loadAt 41 v78) w k) (w := w) (next := fun v79 w =>
 pG v73 true (fun k => pFn prog 18 [v75, v79] w k) (w := w) (next := fun v80 w =>
 pG v73 true (fun k => px prog (Op.unary .not v80) w k) (w := w) (next := fun v81 w =>
 px prog (pickSem v73 v81 (.bool false)) w fun v82 w =>
 pC v82 (
 k (.bool false) w)
 (
 px prog (binSem .neq 26 (.tmp 83) (.const (.pointer none)) (ρ 11) (.pointer none)) w fun v84 w =>
 pG v84 true (fun k => k (ρ 12) w) (w := w) (next := fun v86 w =>
 pG v84 true (fun k => k (ρ 2) w) (w := w) (next := fun v87 w =>
 pG v84 true (fun k => px prog (binSem .sub 3 (.tmp 86) (.tmp 87) v86 v87) w k) (w := w) (next := fun v88 w =>
 pG v84 true (fun k => k (ρ 3) w) (w := w) (next := fun v89 w =>
 pG v84 true (fun k => px prog (bSem .len #[22] 3 #[v89]) w k) (w := w) (next := fun v90 w =>
 pG v84 true (fun k => px prog (binSem .lss 3 (.tmp 88) (.tmp 90) v88 v90) w k) (w := w) (next := fun v91 w =>
 px prog (pickSem v84 v91 (.bool false)) w fun v92 w =>
 pG v92 true (fun k => k (ρ 11) w) (w := w) (next := fun v94 w =>
 pG v92 true (fun k => k (ρ 3) w) (w := w) (next := fun v95 w =>
 pG v92 true (fun k => k (ρ 12) w) (w := w) (next := fun v96 w =>
 pG v92 true (fun k => k (ρ 2) w) (w := w) (next := fun v97 w =>
 pG v92 true (fun k => px prog (binSem .sub 3 (.tmp 96) (.tmp 97) v96 v97) w k) (w := w) (next := fun v98 w =>
 pG v92 true (fun k => px prog (Instr.indexAt 22 v95 v98) w k) (w := w) (next := fun v99 w =>
 pG v92 true (fun k => px prog (Instr.loadAt 41 v99) w k) (w := w) (next := fun v100 w =>
 pG v92 true (fun k => pFn prog 18 [v94, v100] w k) (w := w) (next := fun v101 w =>
 pG v92 true (fun k => px prog (Op.unary .not v101) w k) (w := w) (next := fun v102 w =>
 px prog (pickSem v92 v102 (.bool false)) w fun v103 w =>
 pC v103 (
 k (.bool false) w)
 (
 px prog (binSem .add 3 (.tmp 41) (.const (.int .i64 1)) (ρ 12) (.int .i64 1)) w fun v42 w =>
 N1 (put (put (put (put (put (put (put (put (put (put (put (put (put (put (put (put (put (put (put (put (put (put (put (put (put (put (put (put (put (put (put (put (put (put (put (put (put (put (put (put (put (put (put (put (put (put (put ρ 60 (ρ 11)) 61 v61) 62 v62) 63 v63) 64 v64) 65 v64) 66 v66) 67 v67) 68 v68) 69 v69) 70 (ρ 12)) 71 (ρ 1)) 72 v72) 73 v73) 74 v73) 75 v75) 76 v76) 77 v77) 78 v78) 79 v79) 80 v80) 81 v81) 82 v82) 83 (ρ 11)) 84 v84) 85 v84) 86 v86) 87 v87) 88 v88) 89 v89) 90 v90) 91 v91) 92 v92) 93 v92) 94 v94) 95 v95) 96 v96) 97 v97) 98 v98) 99 v99) 100 v100) 101 v101) 102 v102) 103 v103) 41 (ρ 12)) 42 v42) 12 v42) w))))))))))))))))))))))))))))
theorem F10_2_eq (k : Value → World → Prop) (N1 : Env → World → Prop) (ρ : Env) (w : World) : F10A1 k N1 [1, 0, 0, 0, 1, 0, 1] ρ w = F10_2 k N1 ρ w := by kernel_rfl
def F10_3 (k : Value → World → Prop) (N1 : Env → World → Prop) (ρ : Env) (w : World) : Prop :=
 px prog (bSem .len #[22] 3 #[(ρ 1)]) w fun v72 w =>
 px prog (binSem .lss 3 (.tmp 70) (.tmp 72) (ρ 12) v72) w fun v73 w =>
 pG v73 true (fun k => k (ρ 9) w) (w := w) (next := fun v75 w =>
 pG v73 true (fun k => k (ρ 1) w) (w := w) (next := fun v76 w =>
 pG v73 true (fun k => k (ρ 12) w) (w := w) (next := fun v77 w =>
 pG v73 true (fun k => px prog (Instr.indexAt 22 v76 v77) w k) (w := w) (next := fun v78 w =>
 pG v73 true (fun k => px prog (Instr.loadAt 41 v78) w k) (w := w) (next := fun v79 w =>
 pG v73 true (fun k => pFn prog 18 [v75, v79] w k) (w := w) (next := fun v80 w =>
 pG v73 true (fun k => px prog (Op.unary .not v80) w k) (w := w) (next := fun v81 w =>
 px prog (pickSem v73 v81 (.bool false)) w fun v82 w =>
 pC v82 (
 k (.bool false) w)
 (
 px prog (binSem .neq 26 (.tmp 83) (.const (.pointer none)) (ρ 11) (.pointer none)) w fun v84 w =>
 pG v84 true (fun k => k (ρ 12) w) (w := w) (next := fun v86 w =>
 pG v84 true (fun k => k (ρ 2) w) (w := w) (next := fun v87 w =>
 pG v84 true (fun k => px prog (binSem .sub 3 (.tmp 86) (.tmp 87) v86 v87) w k) (w := w) (next := fun v88 w =>
 pG v84 true (fun k => k (ρ 3) w) (w := w) (next := fun v89 w =>
 pG v84 true (fun k => px prog (bSem .len #[22] 3 #[v89]) w k) (w := w) (next := fun v90 w =>
 pG v84 true (fun k => px prog (binSem .lss 3 (.tmp 88) (.tmp 90) v88 v90) w k) (w := w) (next := fun v91 w =>
 px prog (pickSem v84 v91 (.bool false)) w fun v92 w =>
 pG v92 true (fun k => k (ρ 11) w) (w := w) (next := fun v94 w =>
 pG v92 true (fun k => k (ρ 3) w) (w := w) (next := fun v95 w =>
 pG v92 true (fun k => k (ρ 12) w) (w := w) (next := fun v96 w =>
 pG v92 true (fun k => k (ρ 2) w) (w := w) (next := fun v97 w =>
 pG v92 true (fun k => px prog (binSem .sub 3 (.tmp 96) (.tmp 97) v96 v97) w k) (w := w) (next := fun v98 w =>
 pG v92 true (fun k => px prog (Instr.indexAt 22 v95 v98) w k) (w := w) (next := fun v99 w =>
 pG v92 true (fun k => px prog (Instr.loadAt 41 v99) w k) (w := w) (next := fun v100 w =>
 pG v92 true (fun k => pFn prog 18 [v94, v100] w k) (w := w) (next := fun v101 w =>
 pG v92 true (fun k => px prog (Op.unary .not v101) w k) (w := w) (next := fun v102 w =>
 px prog (pickSem v92 v102 (.bool false)) w fun v103 w =>
 pC v103 (
 k (.bool false) w)
 (
 px prog (binSem .add 3 (.tmp 41) (.const (.int .i64 1)) (ρ 12) (.int .i64 1)) w fun v42 w =>
 N1 (put (put (put (put (put (put (put (put (put (put (put (put (put (put (put (put (put (put (put (put (put (put (put (put (put (put (put (put (put (put (put (put (put (put (put (put (put ρ 70 (ρ 12)) 71 (ρ 1)) 72 v72) 73 v73) 74 v73) 75 v75) 76 v76) 77 v77) 78 v78) 79 v79) 80 v80) 81 v81) 82 v82) 83 (ρ 11)) 84 v84) 85 v84) 86 v86) 87 v87) 88 v88) 89 v89) 90 v90) 91 v91) 92 v92) 93 v92) 94 v94) 95 v95) 96 v96) 97 v97) 98 v98) 99 v99) 100 v100) 101 v101) 102 v102) 103 v103) 41 (ρ 12)) 42 v42) 12 v42) w))))))))))))))))))))))))
theorem F10_3_eq (k : Value → World → Prop) (N1 : Env → World → Prop) (ρ : Env) (w : World) : F10A1 k N1 [1, 0, 0, 1] ρ w = F10_3 k N1 ρ w := by kernel_rfl
def F10_4 (k : Value → World → Prop) (ρ : Env) (w : World) : Prop :=
 pFn prog 19 [(ρ 9)] w fun v105 w =>
 pG v105 true (fun k => k (ρ 11) w) (w := w) (next := fun v107 w =>
 pG v105 true (fun k => px prog (binSem .eql 26 (.tmp 107) (.const (.pointer none)) v107 (.pointer none)) w k) (w := w) (next := fun v108 w =>
 pG v105 true (fun k => k v108 w) (w := w) (next := fun v109 w =>
 pG v109 false (fun k => k (ρ 11) w) (w := w) (next := fun v110 w =>
 pG v109 false (fun k => pFn prog 19 [v110] w k) (w := w) (next := fun v111 w =>
 pG v105 true (fun k => px prog (pickSem v109 (.bool true) v111) w k) (w := w) (next := fun v112 w =>
 px prog (pickSem v105 v112 (.bool false)) w fun v113 w =>
 pG v113 true (fun k => pFn prog 17 [] w k) (w := w) (next := fun v115 w =>
 px prog (pickSem v113 v115 (.bool false)) w fun v116 w =>
 k v116 w)))))))
theorem F10_4_eq (k : Value → World → Prop) (ρ : Env) (w : World) : F10A k [1, 1, 1, 1, 1, 1] ρ w = F10_4 k ρ w := by kernel_rfl
theorem F10_in (room0 : Value) (script1 : Value) (at2 : Value) (others3 : Value) (w : World) (k : Value → World → Prop) (h : F10_0 room0 script1 at2 others3 w k) : pFn prog 10 [room0, script1, at2, others3] w k :=
 pFn_of_atT mixed func10 (by kernel_rfl) (by kernel_rfl) ntmps10 (by kernel_rfl) (by kernel_rfl) (by simp) ((F10_0_eq room0 script1 at2 others3 w k).mpr h)
end Go.Proofs.YtcdcojpfealppaaGreat

set_option linter.unusedVariables false
set_option linter.unusedSimpArgs false
set_option maxRecDepth 100000
namespace Go.Proofs.YtcdcojpfealppaaGreat
open Go Go.Proofs Go.RowKit Go.Proofs.XRed Go.Proofs.XHeap Go.Proofs.XMaps Go.Proofs.XSlices Go.Proofs.XDisk Go.Proofs.XCalls Go.Proofs.XSep Tryz
section
variable {w w0 : World} {k : Value → World → Prop}
variable {W : World} {Pb Pk Qb Qk K c : Nat} {S T : AD} {l : List Asrt}
theorem Both.mono {c' : Nat} (h : Both W l Pb K S c w) (h1 : c ≤ c') (h2 : c' ≤ 100000) : Both W l Pb K S c' w := ⟨h.ex, h.ok.mono h1 (by omega)⟩
theorem Twos.mono {c' : Nat} (h : Twos W Pb Pk Qb Qk S T c w) (h1 : c ≤ c') (h2 : c' ≤ 100000) : Twos W Pb Pk Qb Qk S T c' w := ⟨h.ex, h.ok.mono h1 (by omega), h.ok'.mono h1 (by omega)⟩
def TwS (W : World) (Pb Pk : Nat) (qv : Value) (at_ : Int) (S : AD) (i : Nat) (w : World) : Prop :=
 (qv = .pointer none ∧ Both W [] Pb Pk S (2 * i) w ∧ ∀ j : Nat, j < i → (j : Int) ≠ at_) ∨ ∃ Qb Qk T, ∃ a : Nat, qv = ptr Qb ∧ at_ = a ∧ a < i ∧ Twos W Pb Pk Qb Qk S T (2 * i) w
theorem TwS.fr {qv : Value} {at_ : Int} {i : Nat} (h : TwS W Pb Pk qv at_ S i w) : Fr no W w := by
 rcases h with ⟨_, h, _⟩ | ⟨_, _, _, _, _, _, _, h⟩
 ·exact h.fr
 ·exact h.fr
abbrev TwN (W : World) (s : Script) (v v3 : Value) (at_ : Int) (Pb Pk i : Nat) (N1 : Env → World → Prop) : Prop :=
 ∀ (ρ' : Env) w' S' qv, ρ' 1 = v → ρ' 2 = i64 at_ → ρ' 3 = v3 → ρ' 9 = ptr Pb → ρ' 11 = qv → ρ' 12 = i64 (i + 1) → TwS W Pb Pk qv at_ S' (i + 1) w' → N1 ρ' w'
set_option maxHeartbeats 1000000 in
theorem w_twn {v v3 : Value} {s o : Script} {at_ : Int} {i : Nat} {N1 : Env → World → Prop} (hv : ScriptV W v s) (ho : ScriptV W v3 o) (hi0 : i ≤ s.length) (hl : s.length ≤ 300) (hlo : o.length ≤ 300) (hbd : ∀ p ∈ s, p.1.data.length ≤ 100000 ∧ p.1.picks.length ≤ 12500) (hbo : ∀ p ∈ o, p.1.data.length ≤ 100000 ∧ p.1.picks.length ≤ 12500)
    {ρ : Env} {w : World} (e1 : ρ 1 = v) (e2 : ρ 2 = i64 at_) (e3 : ρ 3 = v3) (e9 : ρ 9 = ptr Pb) (e11 : ρ 11 = .pointer none) (e12 : ρ 12 = i64 i) (h : Both W [] Pb Pk S (2 * i) w) (hat : ∀ j : Nat, j < i → (j : Int) ≠ at_) (hne : (i : Int) ≠ at_)
    (hN : TwN W s v v3 at_ Pb Pk i N1) : F10_3 k N1 ρ w := by
  unfold F10_3
  have hvw := hv.fr h.fr
  have hat2 : ∀ j : Nat, j < i + 1 → (j : Int) ≠ at_ := fun j hj => if hlt : j < i then hat j hlt else (show j = i by omega) ▸ hne
  rw [e1, e9, e11, e12]
  refine s_lenS usl22 hvw.src ?_
  by_cases hi : i < s.length
  · refine s_lt_t (by omega) (pG_yes rfl (pG_yes rfl (pG_yes rfl (s_stepG hvw hi fun p => pG_yes rfl ?_))))
    refine b_step h (by omega) hv hi hbd fun w2 h2 => ?_
    refine pG_yes rfl (s_not (s_pick_t (pC_false ?_)))
    refine s_nepn upt26 ?_
    repeat (first | refine pG_sk ?_ | refine pG_un ?_)
    refine s_pick_f ?_
    repeat (first | refine pG_sk ?_ | refine pG_un ?_)
    refine s_pick_f (pC_false (s_add_in (by omega) ?_))
    refine hN _ _ _ _ e1 e2 e3 e9 e11 ?_ (.inl ⟨rfl, h2.mono (by omega) (by omega), hat2⟩)
    show i64 _ = i64 _; simp
  · refine s_lt_f (by omega) ?_
    repeat (first | refine pG_sk ?_ | refine pG_un ?_)
    refine s_pick_f (pC_false ?_)
    refine s_nepn upt26 ?_
    repeat (first | refine pG_sk ?_ | refine pG_un ?_)
    refine s_pick_f ?_
    repeat (first | refine pG_sk ?_ | refine pG_un ?_)
    refine s_pick_f (pC_false (s_add_in (by omega) ?_))
    refine hN _ _ _ _ e1 e2 e3 e9 e11 ?_ (.inl ⟨rfl, h.mono (by omega) (by omega), hat2⟩)
    show i64 _ = i64 _; simp
set_option maxHeartbeats 1000000 in
theorem w_twq3 {v v3 : Value} {s o : Script} {i : Nat} {N1 : Env → World → Prop} (hv : ScriptV W v s) (ho : ScriptV W v3 o) (hi0 : i ≤ s.length) (hl : s.length ≤ 300) (hlo : o.length ≤ 300) (hbd : ∀ p ∈ s, p.1.data.length ≤ 100000 ∧ p.1.picks.length ≤ 12500) (hbo : ∀ p ∈ o, p.1.data.length ≤ 100000 ∧ p.1.picks.length ≤ 12500)
    {a : Nat} {ρ : Env} {w : World} (e1 : ρ 1 = v) (e2 : ρ 2 = i64 a) (e3 : ρ 3 = v3) (e9 : ρ 9 = ptr Pb) (e11 : ρ 11 = ptr Qb) (e12 : ρ 12 = i64 i) (ha : a ≤ i) (h : Twos W Pb Pk Qb Qk S T (2 * i) w)
    (hN : TwN W s v v3 a Pb Pk i N1) : F10_3 k N1 ρ w := by
  unfold F10_3
  have hvw := hv.fr h.fr
  rw [e1, e2, e3, e9, e11, e12]
  refine s_lenS usl22 hvw.src ?_
  by_cases hi : i < s.length
  · refine s_lt_t (by omega) (pG_yes rfl (pG_yes rfl (pG_yes rfl (s_stepG hvw hi fun p => pG_yes rfl ?_))))
    refine t_step h (by omega) hv hi hbd fun w2 h2 => ?_
    refine pG_yes rfl (s_not (s_pick_t (pC_false ?_)))
    have hov := ho.fr h2.fr
    refine s_nepn upt26 ?_
    refine pG_yes rfl (pG_yes rfl (pG_yes rfl (s_sub_in (by omega) (pG_yes rfl (pG_yes rfl (s_lenS usl22 hov.src (pG_yes rfl ?_)))))))
    by_cases hj : i - a < o.length
    · refine s_lt_t (by omega) (s_pick_t ?_)
      refine pG_yes rfl (pG_yes rfl (pG_yes rfl (pG_yes rfl (pG_yes rfl (s_sub_in (by omega) ?_)))))
      rw [show ((i : Int) - (a : Int)) = ((i - a : Nat) : Int) from by omega]
      refine s_stepG hov hj fun p => pG_yes rfl ?_
      refine t_step h2.swap (by omega) ho hj hbo fun w3 h3 => ?_
      refine pG_yes rfl (s_not (s_pick_t (pC_false (s_add_in (by omega) ?_))))
      refine hN _ _ _ _ e1 e2 e3 e9 e11 ?_ (.inr ⟨_, _, _, a, rfl, rfl, by omega, h3.swap.mono (by omega) (by omega)⟩)
      show i64 _ = i64 _; simp
    · refine s_lt_f (by omega) (s_pick_t ?_)
      repeat (first | refine pG_sk ?_ | refine pG_un ?_)
      refine s_pick_f (pC_false (s_add_in (by omega) ?_))
      refine hN _ _ _ _ e1 e2 e3 e9 e11 ?_ (.inr ⟨_, _, _, a, rfl, rfl, by omega, h2.mono (by omega) (by omega)⟩)
      show i64 _ = i64 _; simp
  · refine s_lt_f (by omega) ?_
    repeat (first | refine pG_sk ?_ | refine pG_un ?_)
    refine s_pick_f (pC_false ?_)
    have hov := ho.fr h.fr
    refine s_nepn upt26 ?_
    refine pG_yes rfl (pG_yes rfl (pG_yes rfl (s_sub_in (by omega) (pG_yes rfl (pG_yes rfl (s_lenS usl22 hov.src (pG_yes rfl ?_)))))))
    by_cases hj : i - a < o.length
    · refine s_lt_t (by omega) (s_pick_t ?_)
      refine pG_yes rfl (pG_yes rfl (pG_yes rfl (pG_yes rfl (pG_yes rfl (s_sub_in (by omega) ?_)))))
      rw [show ((i : Int) - (a : Int)) = ((i - a : Nat) : Int) from by omega]
      refine s_stepG hov hj fun p => pG_yes rfl ?_
      refine t_step h.swap (by omega) ho hj hbo fun w3 h3 => ?_
      refine pG_yes rfl (s_not (s_pick_t (pC_false (s_add_in (by omega) ?_))))
      refine hN _ _ _ _ e1 e2 e3 e9 e11 ?_ (.inr ⟨_, _, _, a, rfl, rfl, by omega, h3.swap.mono (by omega) (by omega)⟩)
      show i64 _ = i64 _; simp
    · refine s_lt_f (by omega) (s_pick_t ?_)
      repeat (first | refine pG_sk ?_ | refine pG_un ?_)
      refine s_pick_f (pC_false (s_add_in (by omega) ?_))
      refine hN _ _ _ _ e1 e2 e3 e9 e11 ?_ (.inr ⟨_, _, _, a, rfl, rfl, by omega, h.mono (by omega) (by omega)⟩)
      show i64 _ = i64 _; simp
set_option maxHeartbeats 1000000 in
theorem w_twq2 {v v3 : Value} {s o : Script} {i : Nat} {N1 : Env → World → Prop} (hv : ScriptV W v s) (ho : ScriptV W v3 o) (hi0 : i ≤ s.length) (hl : s.length ≤ 300) (hlo : o.length ≤ 300) (hbd : ∀ p ∈ s, p.1.data.length ≤ 100000 ∧ p.1.picks.length ≤ 12500) (hbo : ∀ p ∈ o, p.1.data.length ≤ 100000 ∧ p.1.picks.length ≤ 12500)
    {ρ : Env} {w : World} (e1 : ρ 1 = v) (e2 : ρ 2 = i64 i) (e3 : ρ 3 = v3) (e9 : ρ 9 = ptr Pb) (e11 : ρ 11 = ptr Qb) (e12 : ρ 12 = i64 i) (h : Twos W Pb Pk Qb Qk S T (2 * i) w)
    (hN : TwN W s v v3 i Pb Pk i N1) : F10_2 k N1 ρ w := by
  unfold F10_2
  rw [e1, e2, e3, e9, e11, e12]
  obtain ⟨⟨D, E, bv, pv, bb, pp, D', E', bv', pv', bb', pp', hS, _⟩, _⟩ := id h
  refine s_nil (fa33_0 (s_ldb (v := ptr D') (isAgg29 _) (hS.cells 5 rfl) rfl ?_))
  clear hS
  unfold ptr
  refine s_eqpn upt29 (pG_yes rfl (pG_yes rfl (t_stands h.swap fun w1 h1 => pG_yes rfl (s_not (s_pick_f (pC_false ?_))))))
  replace h := h1.swap
  have hvw := hv.fr h.fr
  obtain ⟨a, rfl⟩ : ∃ a, a = i := ⟨i, rfl⟩
  refine s_lenS usl22 hvw.src ?_
  by_cases hi : a < s.length
  · refine s_lt_t (by omega) (pG_yes rfl (pG_yes rfl (pG_yes rfl (s_stepG hvw hi fun p => pG_yes rfl ?_))))
    refine t_step h (by omega) hv hi hbd fun w2 h2 => ?_
    refine pG_yes rfl (s_not (s_pick_t (pC_false ?_)))
    have hov := ho.fr h2.fr
    refine s_nepn upt26 ?_
    refine pG_yes rfl (pG_yes rfl (pG_yes rfl (s_sub_in (by omega) (pG_yes rfl (pG_yes rfl (s_lenS usl22 hov.src (pG_yes rfl ?_)))))))
    by_cases hj : a - a < o.length
    · refine s_lt_t (by omega) (s_pick_t ?_)
      refine pG_yes rfl (pG_yes rfl (pG_yes rfl (pG_yes rfl (pG_yes rfl (s_sub_in (by omega) ?_)))))
      rw [show ((a : Int) - (a : Int)) = ((a - a : Nat) : Int) from by omega]
      refine s_stepG hov hj fun p => pG_yes rfl ?_
      refine t_step h2.swap (by omega) ho hj hbo fun w3 h3 => ?_
      refine pG_yes rfl (s_not (s_pick_t (pC_false (s_add_in (by omega) ?_))))
      refine hN _ _ _ _ e1 e2 e3 e9 e11 ?_ (.inr ⟨_, _, _, a, rfl, rfl, by omega, h3.swap.mono (by omega) (by omega)⟩)
      show i64 _ = i64 _; simp
    · refine s_lt_f (by omega) (s_pick_t ?_)
      repeat (first | refine pG_sk ?_ | refine pG_un ?_)
      refine s_pick_f (pC_false (s_add_in (by omega) ?_))
      refine hN _ _ _ _ e1 e2 e3 e9 e11 ?_ (.inr ⟨_, _, _, a, rfl, rfl, by omega, h2.mono (by omega) (by omega)⟩)
      show i64 _ = i64 _; simp
  · refine s_lt_f (by omega) ?_
    repeat (first | refine pG_sk ?_ | refine pG_un ?_)
    refine s_pick_f (pC_false ?_)
    have hov := ho.fr h.fr
    refine s_nepn upt26 ?_
    refine pG_yes rfl (pG_yes rfl (pG_yes rfl (s_sub_in (by omega) (pG_yes rfl (pG_yes rfl (s_lenS usl22 hov.src (pG_yes rfl ?_)))))))
    by_cases hj : a - a < o.length
    · refine s_lt_t (by omega) (s_pick_t ?_)
      refine pG_yes rfl (pG_yes rfl (pG_yes rfl (pG_yes rfl (pG_yes rfl (s_sub_in (by omega) ?_)))))
      rw [show ((a : Int) - (a : Int)) = ((a - a : Nat) : Int) from by omega]
      refine s_stepG hov hj fun p => pG_yes rfl ?_
      refine t_step h.swap (by omega) ho hj hbo fun w3 h3 => ?_
      refine pG_yes rfl (s_not (s_pick_t (pC_false (s_add_in (by omega) ?_))))
      refine hN _ _ _ _ e1 e2 e3 e9 e11 ?_ (.inr ⟨_, _, _, a, rfl, rfl, by omega, h3.swap.mono (by omega) (by omega)⟩)
      show i64 _ = i64 _; simp
    · refine s_lt_f (by omega) (s_pick_t ?_)
      repeat (first | refine pG_sk ?_ | refine pG_un ?_)
      refine s_pick_f (pC_false (s_add_in (by omega) ?_))
      refine hN _ _ _ _ e1 e2 e3 e9 e11 ?_ (.inr ⟨_, _, _, a, rfl, rfl, by omega, h.mono (by omega) (by omega)⟩)
      show i64 _ = i64 _; simp
end
end Go.Proofs.YtcdcojpfealppaaGreat

set_option linter.unusedVariables false
set_option linter.unusedSimpArgs false
set_option maxRecDepth 100000
namespace Go.Proofs.YtcdcojpfealppaaGreat
open Go Go.Proofs Go.RowKit Go.Proofs.XRed Go.Proofs.XHeap Go.Proofs.XMaps Go.Proofs.XSlices Go.Proofs.XDisk Go.Proofs.XCalls Go.Proofs.XSep Tryz
section
variable {w w0 : World} {k : Value → World → Prop}
variable {W : World} {Pb Pk Qb Qk K c : Nat} {S T : AD} {l : List Asrt}
abbrev nilS : Value := .slice none 0 0
theorem tw_fin {D E D' E' : Nat} {bv pv : Value} {bb : Bytes} {pp : List Int} (h : Sep [Cells Qb #[ptr D', ptr E', ptr Qk] 33, DeskA Qk nilS nilS [] [], Rk E' S, Dk D S, Dk D' S, Cells Pb #[ptr D, ptr E, ptr Pk] 33, Rk E S, DeskA Pk bv pv bb pp, Base W] w) (hb : bb.length ≤ 1000000) (ok : S.Ok c) : Twos W Pb Pk Qb Qk S S c w := by
 have h1 := h.front 1 rfl
 have h2 := h1.front 2 rfl
 have h3 := h2.front 4 rfl
 have h4 := h3.front 3 rfl
 have h5 := h4.front 8 rfl
 have h6 := h5.front 8 rfl
 have h7 := h6.front 8 rfl
 have h8 := h7.front 7 rfl
 have h9 := h8.front 8 rfl
 exact ⟨⟨D, E, bv, pv, bb, pp, D', E', _, _, _, _, h9, hb, by simp⟩, ok, ok⟩
theorem tw_desk {l : List Asrt} {w : World} (h : Sep l w) : Sep (DeskA w.heap.size nilS nilS [] [] :: l) (w.alloc (.cells #[.slice none 0 0, .slice none 0 0] 51)) :=
 h.new (Fr.alloc no w _) (fun b hb => hb.elim) (DeskA.none (alloc_new _ _)) (fun b hb => by omega) fun b hb => hb.elim
set_option maxHeartbeats 2000000 in
theorem w_twin1 {v v3 : Value} {s o : Script} {at_ : Int} (hv : ScriptV W v s) (ho : ScriptV W v3 o) (hl : s.length ≤ 300) (hlo : o.length ≤ 300) (hbd : ∀ p ∈ s, p.1.data.length ≤ 100000 ∧ p.1.picks.length ≤ 12500) (hbo : ∀ p ∈ o, p.1.data.length ≤ 100000 ∧ p.1.picks.length ≤ 12500) (hk : ∀ w', Fr no W w' → k (.bool true) w')
    {ρ : Env} {w : World} (e1 : ρ 1 = v) (e2 : ρ 2 = i64 at_) (e3 : ρ 3 = v3) (e9 : ρ 9 = ptr Pb) (e11 : ρ 11 = .pointer none) (e12 : ρ 12 = i64 0) (h : Both W [] Pb Pk S 0 w) : F10L1 k ρ w := by
  refine F10L1_inv (m := s.length + 1) k (fun m ρ w => ∃ (i : Nat) (S : AD) (qv : Value), i + m = s.length + 1 ∧ ρ 1 = v ∧ ρ 2 = i64 at_ ∧ ρ 3 = v3 ∧ ρ 9 = ptr Pb ∧ ρ 11 = qv ∧ ρ 12 = i64 i ∧ TwS W Pb Pk qv at_ S i w) ?_
    ⟨0, S, _, by omega, e1, e2, e3, e9, e11, e12, .inl ⟨rfl, h, fun j hj => absurd hj (by omega)⟩⟩
  rintro m ρ w ⟨i, S, qv, him, e1, e2, e3, e9, e11, e12, h⟩
  rw [F10_1_eq]
  unfold F10_1
  have hvw := hv.fr h.fr
  rw [e1, e2, e9, e12]
  refine s_lenS usl22 hvw.src ?_
  have hN : i ≤ s.length → TwN W s v v3 at_ Pb Pk i (fun ρ' w' => ∃ m', m' < m ∧ ∃ (i : Nat) (S : AD) (qv : Value), i + m' = s.length + 1 ∧ ρ' 1 = v ∧ ρ' 2 = i64 at_ ∧ ρ' 3 = v3 ∧ ρ' 9 = ptr Pb ∧ ρ' 11 = qv ∧ ρ' 12 = i64 i ∧ TwS W Pb Pk qv at_ S i w') :=
    fun hi ρ' w' S' qv g1 g2 g3 g9 g11 g12 hS => ⟨m - 1, by omega, i + 1, S', qv, by omega, g1, g2, g3, g9, g11, by rw [g12]; simp, hS⟩
  by_cases hi : i ≤ s.length
  · refine s_le_t (by omega) (pC_true ?_)
    by_cases he : (i : Int) = at_
    · refine s_eqi_t he (pC_true ?_)
      rcases h with ⟨rfl, h, hat⟩ | ⟨Qb, Qk, T, a, rfl, hta, hai, h⟩
      · obtain ⟨⟨D, E, bv, pv, bb, pp, hS, hbb⟩, ok⟩ := h
        subst he
        have hN := hN hi
        replace hS := hS.q (Fr.drew _ _)
        have go : ∀ (ρ2 : Env) (w2 : World) (Qb Qk : Nat), ρ2 1 = v → ρ2 2 = i64 i → ρ2 3 = v3 → ρ2 9 = ptr Pb → ρ2 11 = ptr Qb → ρ2 12 = i64 i → Twos W Pb Pk Qb Qk S S (2 * i) w2 → F10A1 k (fun ρ' w' => ∃ m', m' < m ∧ ∃ (i_1 : Nat) (S : AD) (qv : Value), i_1 + m' = s.length + 1 ∧ ρ' 1 = v ∧ ρ' 2 = i64 i ∧ ρ' 3 = v3 ∧ ρ' 9 = ptr Pb ∧ ρ' 11 = qv ∧ ρ' 12 = i64 i_1 ∧ TwS W Pb Pk qv i S i_1 w') [1, 0, 0, 0, 1, 0, 1] ρ2 w2 := by
          intro ρ2 w2 Qb Qk g1 g2 g3 g9 g11 g12 h2
          rw [F10_2_eq]
          exact w_twq2 hv ho hi hl hlo hbd hbo g1 g2 g3 g9 g11 g12 h2 hN
        refine ⟨PairAt Pb D E Pk, .of hS, ?_⟩
        refine q_of _ (fun w_ hS => s_nil ⟨rfl, rfl⟩) (q_of _ (fun w_ hS => fa33_0 ⟨rfl, rfl⟩) (q_of (ptr D) (fun w_ hS => s_ldb (isAgg29 _) hS rfl ⟨rfl, rfl⟩) ?_))
        refine q_of _ (fun w_ hS => s_nil ⟨rfl, rfl⟩) (q_of _ (fun w_ hS => fa33_1 ⟨rfl, rfl⟩) (q_of (ptr E) (fun w_ hS => s_ldb (isAgg30 _) hS rfl ⟨rfl, rfl⟩) ?_))
        refine q_of (.agg #[.slice none 0 0, .slice none 0 0]) (fun w_ hS => px_ok (w' := w_) (by kernel_rfl) ⟨rfl, rfl⟩) ⟨?_, ?_⟩
        · have hS1 : Sep [Dk D S, Cells Pb #[ptr D, ptr E, ptr Pk] 33, Rk E S, DeskA Pk bv pv bb pp, Base W] w.drew := hS.front 1 rfl
          obtain ⟨O, I, L, hd, nx⟩ := Sep.disk2 hS1
          refine c_twin hd ok fun w2 D' L' hx f2 => ?_
          have hS2 : Sep [Dk D S, Dk D' S, Cells Pb #[ptr D, ptr E, ptr Pk] 33, Rk E S, DeskA Pk bv pv bb pp, Base W] w2 := nx w2 D' L' hx f2
          clear hx nx hd hS1
          refine ⟨hS2.cells 2 rfl, ?_, ?_⟩
          · obtain ⟨O, I, L, hr, -⟩ := Sep.ref hS2 3 rfl
            refine r_twin hr ok (by omega) fun w4 E' O' I' L' hx hlow f4 => ?_
            have hS4 : Sep [Rk E' S, Dk D S, Dk D' S, Cells Pb #[ptr D, ptr E, ptr Pk] 33, Rk E S, DeskA Pk bv pv bb pp, Base W] w4 := hS2.new f4 (fun b hb => hb.elim) ⟨L', hx⟩ (fun b hb => hlow b (.inl hb)) fun b hb => hlow b (.inr hb)
            clear hx
            refine ⟨hS4.cells 3 rfl, s_box ?_⟩
            have hS5 := tw_desk hS4
            rw [show Value.cells (.agg #[.slice none 0 0, .slice none 0 0]) = #[.slice none 0 0, .slice none 0 0] from rfl]
            generalize w4.heap.size = K at *
            generalize w4.alloc (.cells #[.slice none 0 0, .slice none 0 0] 51) = w5 at *
            refine ⟨hS5.cells 4 rfl, ?_⟩
            refine q_of (.agg #[ptr D', ptr E', ptr K]) (fun w_ hS => px_ok (w' := w_) (by kernel_rfl) ⟨rfl, rfl⟩) (s_box ?_)
            have hS6 := hS5.cell #[ptr D', ptr E', ptr K] 33
            rw [show Value.cells (.agg #[ptr D', ptr E', ptr K]) = #[ptr D', ptr E', ptr K] from rfl]
            exact ⟨hS6.cells 5 rfl, go _ _ w5.heap.size K e1 e2 e3 e9 rfl e12 (tw_fin hS6 hbb ok)⟩
          · refine s_box ?_
            have hS3 := tw_desk hS2
            rw [show Value.cells (.agg #[.slice none 0 0, .slice none 0 0]) = #[.slice none 0 0, .slice none 0 0] from rfl]
            generalize w2.heap.size = K at *
            generalize w2.alloc (.cells #[.slice none 0 0, .slice none 0 0] 51) = w3 at *
            refine ⟨hS3.cells 3 rfl, ?_⟩
            obtain ⟨O, I, L, hr, -⟩ := Sep.ref hS3 4 rfl
            refine r_twin hr ok (by omega) fun w4 E' O' I' L' hx hlow f4 => ?_
            have hS4 : Sep [Rk E' S, DeskA K nilS nilS [] [], Dk D S, Dk D' S, Cells Pb #[ptr D, ptr E, ptr Pk] 33, Rk E S, DeskA Pk bv pv bb pp, Base W] w4 := hS3.new f4 (fun b hb => hb.elim) ⟨L', hx⟩ (fun b hb => hlow b (.inl hb)) fun b hb => hlow b (.inr hb)
            clear hx
            refine ⟨hS4.cells 4 rfl, ?_⟩
            refine q_of (.agg #[ptr D', ptr E', ptr K]) (fun w_ hS => px_ok (w' := w_) (by kernel_rfl) ⟨rfl, rfl⟩) (s_box ?_)
            have hS6 := hS4.cell #[ptr D', ptr E', ptr K] 33
            rw [show Value.cells (.agg #[ptr D', ptr E', ptr K]) = #[ptr D', ptr E', ptr K] from rfl]
            have hS7 := hS6.front 2 rfl
            have hS8 := hS7.front 1 rfl
            exact ⟨hS6.cells 5 rfl, go _ _ w4.heap.size K e1 e2 e3 e9 rfl e12 (tw_fin hS8 hbb ok)⟩
        · refine s_box ?_
          have hS1 := tw_desk hS
          rw [show Value.cells (.agg #[.slice none 0 0, .slice none 0 0]) = #[.slice none 0 0, .slice none 0 0] from rfl]
          generalize w.drew.heap.size = K at *
          generalize w.drew.alloc (.cells #[.slice none 0 0, .slice none 0 0] 51) = w1 at *
          refine ⟨hS1.cells 1 rfl, ?_⟩
          have hS2 : Sep [Dk D S, DeskA K nilS nilS [] [], Cells Pb #[ptr D, ptr E, ptr Pk] 33, Rk E S, DeskA Pk bv pv bb pp, Base W] w1 := hS1.front 2 rfl
          obtain ⟨O, I, L, hd, nx⟩ := Sep.disk2 hS2
          refine c_twin hd ok fun w2 D' L' hx f2 => ?_
          have hS3 : Sep [Dk D S, Dk D' S, DeskA K nilS nilS [] [], Cells Pb #[ptr D, ptr E, ptr Pk] 33, Rk E S, DeskA Pk bv pv bb pp, Base W] w2 := nx w2 D' L' hx f2
          clear hx nx hd hS2
          refine ⟨hS3.cells 3 rfl, ?_⟩
          obtain ⟨O, I, L, hr, -⟩ := Sep.ref hS3 4 rfl
          refine r_twin hr ok (by omega) fun w4 E' O' I' L' hx hlow f4 => ?_
          have hS4 : Sep [Rk E' S, Dk D S, Dk D' S, DeskA K nilS nilS [] [], Cells Pb #[ptr D, ptr E, ptr Pk] 33, Rk E S, DeskA Pk bv pv bb pp, Base W] w4 := hS3.new f4 (fun b hb => hb.elim) ⟨L', hx⟩ (fun b hb => hlow b (.inl hb)) fun b hb => hlow b (.inr hb)
          clear hx
          refine ⟨hS4.cells 4 rfl, ?_⟩
          refine q_of (.agg #[ptr D', ptr E', ptr K]) (fun w_ hS => px_ok (w' := w_) (by kernel_rfl) ⟨rfl, rfl⟩) (s_box ?_)
          have hS6 := hS4.cell #[ptr D', ptr E', ptr K] 33
          rw [show Value.cells (.agg #[ptr D', ptr E', ptr K]) = #[ptr D', ptr E', ptr K] from rfl]
          have hS7 := hS6.front 4 rfl
          have hS8 := hS7.front 1 rfl
          exact ⟨hS6.cells 5 rfl, go _ _ w4.heap.size K e1 e2 e3 e9 rfl e12 (tw_fin hS8 hbb ok)⟩
      · exact absurd hai (by omega)
    · refine s_eqi_f he (pC_false ?_)
      rw [F10_3_eq]
      rcases h with ⟨rfl, h, hat⟩ | ⟨Qb, Qk, T, a, rfl, rfl, hai, h⟩
      · exact w_twn hv ho hi hl hlo hbd hbo e1 e2 e3 e9 e11 e12 h hat he (hN hi)
      · exact w_twq3 hv ho hi hl hlo hbd hbo e1 e2 e3 e9 e11 e12 (by omega) h (hN hi)
  · refine s_le_f (by omega) (pC_false ?_)
    rw [F10_4_eq]
    unfold F10_4
    show pFn P _ [ρ 9] _ _
    rw [e9]
    rcases h with ⟨rfl, h, hat⟩ | ⟨Qb, Qk, T, a, rfl, hta, hai, h⟩
    · refine b_stands h fun w2 h2 => pG_yes rfl (pG_yes rfl ?_)
      show px P (binSem _ _ _ _ (ρ 11) _) _ _
      rw [e11]
      refine px_ok (w' := w2) (v := .bool true) (by kernel_rfl) (pG_yes rfl ?_)
      repeat (first | refine pG_skf ?_ | refine pG_un ?_)
      refine pG_yes rfl (s_pick_t (s_pick_t (pG_yes rfl (c_known sortsKeys fun w4 f4 => s_pick_t (hk w4 (h2.fr.trans f4 fun b hb => hb.elim))))))
    · refine t_stands h fun w2 h2 => pG_yes rfl (pG_yes rfl ?_)
      show px P (binSem _ _ _ _ (ρ 11) _) _ _
      rw [e11]
      unfold ptr
      refine s_eqpn upt26 (pG_yes rfl (pG_yes rfl (pG_yes rfl ?_)))
      show pFn P _ [ρ 11] _ _
      rw [e11]
      refine t_stands h2.swap fun w3 h3 => pG_yes rfl (s_pick_f (s_pick_t (pG_yes rfl (c_known sortsKeys fun w4 f4 => s_pick_t (hk w4 (h3.fr.trans f4 fun b hb => hb.elim))))))
set_option maxHeartbeats 1000000 in
theorem w_twin {v v3 : Value} {s o : Script} {room at_ : Int} (hv : ScriptV W v s) (ho : ScriptV W v3 o) (hk : ∀ w', Fr no W w' → k (.bool true) w') : pFn P 10 [i64 room, v, i64 at_, v3] W k := by
 refine F10_in _ _ _ _ _ _ ?_
 unfold F10_0
 refine c_long hv fun b w1 f1 hb => ?_
 cases b with
 | true =>
  refine pG_skf ?_
  repeat (first | refine pG_skf ?_ | refine pG_un ?_)
  exact s_pick_t (pC_true (hk w1 f1))
 | false =>
  obtain ⟨hl, hbd⟩ := hb rfl
  refine pG_yes rfl (pG_yes rfl (c_long (ho.fr f1) fun b w2 f2 hb2 => ?_))
  have f2' := fr_up f1 f2 fun b hb => hb.elim
  cases b with
  | true => exact s_pick_f (pC_true (hk w2 f2'))
  | false =>
   obtain ⟨hlo, hbo⟩ := hb2 rfl
   refine s_pick_f (pC_false (st_made ((Sep.base W).q f2') ?_ ?_))
   ·intro hr w2 p K hS f2
    have f3 : Fr no W w2 := hS.base_at 1 rfl
    refine s_ext rfl (s_ext rfl (s_not (pG_yes rfl (pG_yes rfl (s_nil (pG_yes rfl (fa33_0 (pG_yes rfl (s_ldb (v := .pointer none) (isAgg29 _) (hS.cells 0 rfl) rfl (pG_yes rfl (px_ok (w' := w2) (v := .bool true) (by kernel_rfl) (s_pick_f ?_))))))))))))
    refine pC_true ?_
    refine pG_yes rfl ?_
    refine c_known sortsKeys fun w3 f4 => s_pick_t (hk w3 (f3.trans f4 fun b hb => hb.elim))
   ·intro hr w2 Pb D E K hS
    have h2 := Both.new hr hS
    refine s_ext rfl (s_ext rfl (s_not (pG_yes rfl (pG_yes rfl (s_nil (pG_yes rfl (fa33_0 (pG_yes rfl (s_ldb (v := ptr D) (isAgg29 _) (hS.cells 0 rfl) rfl (pG_yes rfl ?_))))))))))
    unfold ptr
    refine s_eqpn upt29 (s_pick_f (pC_false ?_))
    exact w_twin1 hv ho hl hlo hbd hbo hk rfl rfl rfl rfl rfl rfl h2
end
end Go.Proofs.YtcdcojpfealppaaGreat
