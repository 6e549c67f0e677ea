/- Put together by a program (wip/tools/shake.py): R4. -/
import Derived.Test.YtcdcojpfealppaaGreatY1
import Derived.Test.YtcdcojpfealppaaGreatProg
import Derived.Test.YtcdcojpfealppaaGreatMix
set_option linter.unusedVariables false
set_option maxRecDepth 100000
namespace Go.Proofs.YtcdcojpfealppaaGreat
open Go Go.Proofs Go.Proofs.XRed Tryz
open Go.Instr (fieldAt loadAt storeAt indexAt sliceAt extract)
noncomputable def F25B : Code := bodyOf f25
def F25A (k:KV) (q:List Nat) (ρ:Env) (w:World) : Prop := At prog 202 F25B (retQ prog f25.results.toList k) q ρ w
noncomputable def F25B1 : Code := sub F25B [1,1,1,1,1,1,1,1,1,0,1,0,0]
def F25Q1 (k:KV) (N1:KE) : Xt → KE := thenE N1 (contAt prog 202 F25B (retQ prog f25.results.toList k) [1,1,1,1,1,1,1,1,1,0,1,0])
def F25A1 (k:KV) (N1:KE) (q:List Nat) (ρ:Env) (w:World) : Prop := At prog 202 F25B1 (F25Q1 k N1) q ρ w
def F25L1 (k:KV) (ρ:Env) (w:World) : Prop := LoopAt prog 202 F25B (retQ prog f25.results.toList k) [1,1,1,1,1,1,1,1,1,0,1,0] ρ w
theorem F25L1_inv (k:KV) (I:Nat → KE) (round:∀ m ρ w,I m ρ w → F25A1 k (fun ρ' w' => ∃ m',m' < m ∧ I m' ρ' w') [] ρ w) {m:Nat} {ρ:Env} {w:World} (h:I m ρ w) : F25L1 k ρ w :=
 LoopAt_inv mixed (B := F25B) (Q := (retQ prog f25.results.toList k)) (p := [1,1,1,1,1,1,1,1,1,0,1,0]) (by kernel_rfl) (by kernel_rfl) I round h
noncomputable def F25B2 : Code := sub F25B [1,1,1,1,1,1,1,1,1,1,0,1,0,0]
def F25Q2 (k:KV) (N2:KE) : Xt → KE := thenE N2 (contAt prog 202 F25B (retQ prog f25.results.toList k) [1,1,1,1,1,1,1,1,1,1,0,1,0])
def F25A2 (k:KV) (N2:KE) (q:List Nat) (ρ:Env) (w:World) : Prop := At prog 202 F25B2 (F25Q2 k N2) q ρ w
def F25L2 (k:KV) (ρ:Env) (w:World) : Prop := LoopAt prog 202 F25B (retQ prog f25.results.toList k) [1,1,1,1,1,1,1,1,1,1,0,1,0] ρ w
theorem F25L2_inv (k:KV) (I:Nat → KE) (round:∀ m ρ w,I m ρ w → F25A2 k (fun ρ' w' => ∃ m',m' < m ∧ I m' ρ' w') [] ρ w) {m:Nat} {ρ:Env} {w:World} (h:I m ρ w) : F25L2 k ρ w :=
 LoopAt_inv mixed (B := F25B) (Q := (retQ prog f25.results.toList k)) (p := [1,1,1,1,1,1,1,1,1,1,0,1,0]) (by kernel_rfl) (by kernel_rfl) I round h
noncomputable def F25B3 : Code := sub F25B [1,1,1,1,1,1,1,1,1,1,1,0,1,0,0]
def F25Q3 (k:KV) (N3:KE) : Xt → KE := thenE N3 (contAt prog 202 F25B (retQ prog f25.results.toList k) [1,1,1,1,1,1,1,1,1,1,1,0,1,0])
def F25A3 (k:KV) (N3:KE) (q:List Nat) (ρ:Env) (w:World) : Prop := At prog 202 F25B3 (F25Q3 k N3) q ρ w
def F25L3 (k:KV) (ρ:Env) (w:World) : Prop := LoopAt prog 202 F25B (retQ prog f25.results.toList k) [1,1,1,1,1,1,1,1,1,1,1,0,1,0] ρ w
theorem F25L3_inv (k:KV) (I:Nat → KE) (round:∀ m ρ w,I m ρ w → F25A3 k (fun ρ' w' => ∃ m',m' < m ∧ I m' ρ' w') [] ρ w) {m:Nat} {ρ:Env} {w:World} (h:I m ρ w) : F25L3 k ρ w :=
 LoopAt_inv mixed (B := F25B) (Q := (retQ prog f25.results.toList k)) (p := [1,1,1,1,1,1,1,1,1,1,1,0,1,0]) (by kernel_rfl) (by kernel_rfl) I round h
noncomputable def F25B4 : Code := sub F25B [1,1,1,1,1,1,1,1,1,1,1,1,0,1,0,0]
def F25Q4 (k:KV) (N4:KE) : Xt → KE := thenE N4 (contAt prog 202 F25B (retQ prog f25.results.toList k) [1,1,1,1,1,1,1,1,1,1,1,1,0,1,0])
def F25A4 (k:KV) (N4:KE) (q:List Nat) (ρ:Env) (w:World) : Prop := At prog 202 F25B4 (F25Q4 k N4) q ρ w
def F25L4 (k:KV) (ρ:Env) (w:World) : Prop := LoopAt prog 202 F25B (retQ prog f25.results.toList k) [1,1,1,1,1,1,1,1,1,1,1,1,0,1,0] ρ w
theorem F25L4_inv (k:KV) (I:Nat → KE) (round:∀ m ρ w,I m ρ w → F25A4 k (fun ρ' w' => ∃ m',m' < m ∧ I m' ρ' w') [] ρ w) {m:Nat} {ρ:Env} {w:World} (h:I m ρ w) : F25L4 k ρ w :=
 LoopAt_inv mixed (B := F25B) (Q := (retQ prog f25.results.toList k)) (p := [1,1,1,1,1,1,1,1,1,1,1,1,0,1,0]) (by kernel_rfl) (by kernel_rfl) I round h
noncomputable def F25B5 : Code := sub F25B [1,1,1,1,1,1,1,1,1,1,1,1,1,0,1,0,0]
def F25Q5 (k:KV) (N5:KE) : Xt → KE := thenE N5 (contAt prog 202 F25B (retQ prog f25.results.toList k) [1,1,1,1,1,1,1,1,1,1,1,1,1,0,1,0])
def F25A5 (k:KV) (N5:KE) (q:List Nat) (ρ:Env) (w:World) : Prop := At prog 202 F25B5 (F25Q5 k N5) q ρ w
def F25L5 (k:KV) (ρ:Env) (w:World) : Prop := LoopAt prog 202 F25B (retQ prog f25.results.toList k) [1,1,1,1,1,1,1,1,1,1,1,1,1,0,1,0] ρ w
theorem F25L5_inv (k:KV) (I:Nat → KE) (round:∀ m ρ w,I m ρ w → F25A5 k (fun ρ' w' => ∃ m',m' < m ∧ I m' ρ' w') [] ρ w) {m:Nat} {ρ:Env} {w:World} (h:I m ρ w) : F25L5 k ρ w :=
 LoopAt_inv mixed (B := F25B) (Q := (retQ prog f25.results.toList k)) (p := [1,1,1,1,1,1,1,1,1,1,1,1,1,0,1,0]) (by kernel_rfl) (by kernel_rfl) I round h
noncomputable def F25B6 : Code := sub F25B [1,1,1,1,1,1,1,1,1,1,1,1,1,1,0,1,0,0]
def F25Q6 (k:KV) (N6:KE) : Xt → KE := thenE N6 (contAt prog 202 F25B (retQ prog f25.results.toList k) [1,1,1,1,1,1,1,1,1,1,1,1,1,1,0,1,0])
def F25A6 (k:KV) (N6:KE) (q:List Nat) (ρ:Env) (w:World) : Prop := At prog 202 F25B6 (F25Q6 k N6) q ρ w
def F25L6 (k:KV) (ρ:Env) (w:World) : Prop := LoopAt prog 202 F25B (retQ prog f25.results.toList k) [1,1,1,1,1,1,1,1,1,1,1,1,1,1,0,1,0] ρ w
theorem F25L6_inv (k:KV) (I:Nat → KE) (round:∀ m ρ w,I m ρ w → F25A6 k (fun ρ' w' => ∃ m',m' < m ∧ I m' ρ' w') [] ρ w) {m:Nat} {ρ:Env} {w:World} (h:I m ρ w) : F25L6 k ρ w :=
 LoopAt_inv mixed (B := F25B) (Q := (retQ prog f25.results.toList k)) (p := [1,1,1,1,1,1,1,1,1,1,1,1,1,1,0,1,0]) (by kernel_rfl) (by kernel_rfl) I round h
def F25_0 (d0:Value) (w:World) (k:KV) : Prop :=
 px prog (binSem .eql 30 (.tmp 13) (.const (.pointer none)) d0 (.pointer none)) w fun v14 w =>
 pG v14 false (fun k => k d0 w) (w := w) (next := fun v16 w =>
 pG v14 false (fun k => px prog (nilSem v16) w k) (w := w) (next := fun v17 w =>
 pG v14 false (fun k => px prog (fieldAt 62 v17 1) w k) (w := w) (next := fun v18 w =>
 pG v14 false (fun k => px prog (loadAt 3 v18) w k) (w := w) (next := fun v19 w =>
 pG v14 false (fun k => px prog (binSem .eql 3 (.tmp 19) (.const (.int .i64 0)) v19 (.int .i64 0)) w k) (w := w) (next := fun v20 w =>
 px prog (pickSem v14 (.bool true) v20) w fun v21 w =>
 pC v21 (
 px prog (Instr.build 62 #[]) w fun v22 w =>
 px prog (Instr.box 62 v22) w fun v23 w =>
 k v23 w)
 (
 px prog (nilSem d0) w fun v25 w =>
 px prog (loadAt 62 v25) w fun v26 w =>
 px prog (Instr.alloc 62 true (.tuple #[])) w fun v3 w =>
 pu prog (storeAt 62 v3 v26) w fun w =>
 px prog (fieldAt 62 v3 2) w fun v27 w =>
 pu prog (storeAt 59 v27 (.slice none 0 0)) w fun w =>
 px prog (fieldAt 62 v3 3) w fun v28 w =>
 pu prog (storeAt 59 v28 (.slice none 0 0)) w fun w =>
 px prog (fieldAt 62 v3 4) w fun v29 w =>
 pu prog (storeAt 60 v29 (.slice none 0 0)) w fun w =>
 px prog (Instr.buildSlice 56 0 #[]) w fun v30 w =>
 px prog (nilSem d0) w fun v32 w =>
 px prog (fieldAt 62 v32 8) w fun v33 w =>
 px prog (loadAt 56 v33) w fun v34 w =>
 px prog (bSem .append #[56,56] 56 #[v30,v34]) w fun v35 w =>
 px prog (fieldAt 62 v3 8) w fun v36 w =>
 pu prog (storeAt 56 v36 v35) w fun w =>
 F25L1 k (put (put (put (put (put (put (put (put (put (put (put (put (put (put (put (put (put (put (put (put (put (put (put (put (put (put (put (argEnv [d0]) 2 (.pointer none)) 13 d0) 14 v14) 15 v14) 16 v16) 17 v17) 18 v18) 19 v19) 20 v20) 21 v21) 24 d0) 25 v25) 26 v26) 3 v3) 27 v27) 28 v28) 29 v29) 30 v30) 31 d0) 32 v32) 33 v33) 34 v34) 35 v35) 36 v36) 4 (.slice none 0 0)) 5 (.slice none 0 0)) 6 (.int .i64 0)) w))))))
theorem F25_0_eq (d0:Value) (w:World) (k:KV) : F25A k [] (argEnv [d0]) w = F25_0 d0 w k := by kernel_rfl
def F25_1 (k:KV) (N1:KE) (ρ:Env) (w:World) : Prop :=
 px prog (nilSem (ρ 0)) w fun v39 w =>
 px prog (fieldAt 62 v39 2) w fun v40 w =>
 px prog (loadAt 59 v40) w fun v41 w =>
 px prog (bSem .len #[59] 3 #[v41]) w fun v42 w =>
 px prog (binSem .lss 3 (.tmp 37) (.tmp 42) (ρ 6) v42) w fun v43 w =>
 pC v43 (
 px prog (nilSem (ρ 0)) w fun v50 w =>
 px prog (fieldAt 62 v50 2) w fun v51 w =>
 px prog (loadAt 59 v51) w fun v52 w =>
 px prog (indexAt 59 v52 (ρ 6)) w fun v54 w =>
 px prog (fieldAt 144 v54 1) w fun v55 w =>
 px prog (loadAt 142 v55) w fun v56 w =>
 pFn prog 86 [(ρ 4),(ρ 5),v56] w fun v57 w =>
 px prog (extract v57 0) w fun v58 w =>
 px prog (extract v57 1) w fun v59 w =>
 px prog (binSem .add 3 (.tmp 44) (.const (.int .i64 1)) (ρ 6) (.int .i64 1)) w fun v45 w =>
 N1 (put (put (put (put (put (put (put (put (put (put (put (put (put (put (put (put (put (put (put (put (put (put (put (put (put (put ρ 37 (ρ 6)) 38 (ρ 0)) 39 v39) 40 v40) 41 v41) 42 v42) 43 v43) 47 (ρ 4)) 48 (ρ 5)) 49 (ρ 0)) 50 v50) 51 v51) 52 v52) 53 (ρ 6)) 54 v54) 55 v55) 56 v56) 57 v57) 46 v57) 58 v58) 59 v59) 4 v58) 5 v59) 44 (ρ 6)) 45 v45) 6 v45) w)
 (
 F25A k [1,1,1,1,1,1,1,1,1,1] (put (put (put (put (put (put (put ρ 37 (ρ 6)) 38 (ρ 0)) 39 v39) 40 v40) 41 v41) 42 v42) 43 v43) w)
theorem F25_1_eq (k:KV) (N1:KE) (ρ:Env) (w:World) : F25A1 k N1 [] ρ w = F25_1 k N1 ρ w := by kernel_rfl
def F25_2 (k:KV) (ρ:Env) (w:World) : Prop :=
 F25L2 k (put ρ 7 (.int .i64 0)) w
theorem F25_2_eq (k:KV) (ρ:Env) (w:World) : F25A k [1,1,1,1,1,1,1,1,1,1] ρ w = F25_2 k ρ w := by kernel_rfl
def F25_3 (k:KV) (N2:KE) (ρ:Env) (w:World) : Prop :=
 px prog (nilSem (ρ 0)) w fun v62 w =>
 px prog (fieldAt 62 v62 3) w fun v63 w =>
 px prog (loadAt 59 v63) w fun v64 w =>
 px prog (bSem .len #[59] 3 #[v64]) w fun v65 w =>
 px prog (binSem .lss 3 (.tmp 60) (.tmp 65) (ρ 7) v65) w fun v66 w =>
 pC v66 (
 px prog (nilSem (ρ 0)) w fun v73 w =>
 px prog (fieldAt 62 v73 3) w fun v74 w =>
 px prog (loadAt 59 v74) w fun v75 w =>
 px prog (indexAt 59 v75 (ρ 7)) w fun v77 w =>
 px prog (fieldAt 144 v77 1) w fun v78 w =>
 px prog (loadAt 142 v78) w fun v79 w =>
 pFn prog 86 [(ρ 4),(ρ 5),v79] w fun v80 w =>
 px prog (extract v80 0) w fun v81 w =>
 px prog (extract v80 1) w fun v82 w =>
 px prog (binSem .add 3 (.tmp 67) (.const (.int .i64 1)) (ρ 7) (.int .i64 1)) w fun v68 w =>
 N2 (put (put (put (put (put (put (put (put (put (put (put (put (put (put (put (put (put (put (put (put (put (put (put (put (put (put ρ 60 (ρ 7)) 61 (ρ 0)) 62 v62) 63 v63) 64 v64) 65 v65) 66 v66) 70 (ρ 4)) 71 (ρ 5)) 72 (ρ 0)) 73 v73) 74 v74) 75 v75) 76 (ρ 7)) 77 v77) 78 v78) 79 v79) 80 v80) 69 v80) 81 v81) 82 v82) 4 v81) 5 v82) 67 (ρ 7)) 68 v68) 7 v68) w)
 (
 F25A k [1,1,1,1,1,1,1,1,1,1,1] (put (put (put (put (put (put (put ρ 60 (ρ 7)) 61 (ρ 0)) 62 v62) 63 v63) 64 v64) 65 v65) 66 v66) w)
theorem F25_3_eq (k:KV) (N2:KE) (ρ:Env) (w:World) : F25A2 k N2 [] ρ w = F25_3 k N2 ρ w := by kernel_rfl
def F25_4 (k:KV) (ρ:Env) (w:World) : Prop :=
 F25L3 k (put ρ 8 (.int .i64 0)) w
theorem F25_4_eq (k:KV) (ρ:Env) (w:World) : F25A k [1,1,1,1,1,1,1,1,1,1,1] ρ w = F25_4 k ρ w := by kernel_rfl
def F25_5 (k:KV) (N3:KE) (ρ:Env) (w:World) : Prop :=
 px prog (nilSem (ρ 0)) w fun v85 w =>
 px prog (fieldAt 62 v85 4) w fun v86 w =>
 px prog (loadAt 60 v86) w fun v87 w =>
 px prog (bSem .len #[60] 3 #[v87]) w fun v88 w =>
 px prog (binSem .lss 3 (.tmp 83) (.tmp 88) (ρ 8) v88) w fun v89 w =>
 pC v89 (
 px prog (nilSem (ρ 0)) w fun v96 w =>
 px prog (fieldAt 62 v96 4) w fun v97 w =>
 px prog (loadAt 60 v97) w fun v98 w =>
 px prog (indexAt 60 v98 (ρ 8)) w fun v100 w =>
 px prog (fieldAt 146 v100 3) w fun v101 w =>
 px prog (loadAt 142 v101) w fun v102 w =>
 pFn prog 86 [(ρ 4),(ρ 5),v102] w fun v103 w =>
 px prog (extract v103 0) w fun v104 w =>
 px prog (extract v103 1) w fun v105 w =>
 px prog (binSem .add 3 (.tmp 90) (.const (.int .i64 1)) (ρ 8) (.int .i64 1)) w fun v91 w =>
 N3 (put (put (put (put (put (put (put (put (put (put (put (put (put (put (put (put (put (put (put (put (put (put (put (put (put (put ρ 83 (ρ 8)) 84 (ρ 0)) 85 v85) 86 v86) 87 v87) 88 v88) 89 v89) 93 (ρ 4)) 94 (ρ 5)) 95 (ρ 0)) 96 v96) 97 v97) 98 v98) 99 (ρ 8)) 100 v100) 101 v101) 102 v102) 103 v103) 92 v103) 104 v104) 105 v105) 4 v104) 5 v105) 90 (ρ 8)) 91 v91) 8 v91) w)
 (
 F25A k [1,1,1,1,1,1,1,1,1,1,1,1] (put (put (put (put (put (put (put ρ 83 (ρ 8)) 84 (ρ 0)) 85 v85) 86 v86) 87 v87) 88 v88) 89 v89) w)
theorem F25_5_eq (k:KV) (N3:KE) (ρ:Env) (w:World) : F25A3 k N3 [] ρ w = F25_5 k N3 ρ w := by kernel_rfl
def F25_6 (k:KV) (ρ:Env) (w:World) : Prop :=
 F25L4 k (put ρ 9 (.int .i64 0)) w
theorem F25_6_eq (k:KV) (ρ:Env) (w:World) : F25A k [1,1,1,1,1,1,1,1,1,1,1,1] ρ w = F25_6 k ρ w := by kernel_rfl
def F25_7 (k:KV) (N4:KE) (ρ:Env) (w:World) : Prop :=
 px prog (nilSem (ρ 0)) w fun v108 w =>
 px prog (fieldAt 62 v108 2) w fun v109 w =>
 px prog (loadAt 59 v109) w fun v110 w =>
 px prog (bSem .len #[59] 3 #[v110]) w fun v111 w =>
 px prog (binSem .lss 3 (.tmp 106) (.tmp 111) (ρ 9) v111) w fun v112 w =>
 pC v112 (
 ∃ S : World → Prop,S w.drew ∧ (fun w =>
 pq prog S (fieldAt 62 (ρ 3) 2) fun v115 =>
 pq prog S (loadAt 59 v115) fun v116 =>
 pq prog S (nilSem (ρ 0)) fun v118 =>
 pq prog S (fieldAt 62 v118 2) fun v119 =>
 pq prog S (loadAt 59 v119) fun v120 =>
 pq prog S (indexAt 59 v120 (ρ 9)) fun v122 =>
 pq prog S (fieldAt 144 v122 0) fun v123 =>
 pq prog S (loadAt 9 v123) fun v124 =>
 pq prog S (nilSem (ρ 0)) fun v128 =>
 pq prog S (fieldAt 62 v128 2) fun v129 =>
 pq prog S (loadAt 59 v129) fun v130 =>
 pq prog S (indexAt 59 v130 (ρ 9)) fun v132 =>
 pq prog S (fieldAt 144 v132 1) fun v133 =>
 pq prog S (loadAt 142 v133) fun v134 =>
 pFn prog 87 [(ρ 4),(ρ 5),v134] w fun v135 w => S w ∧ (
 pq prog S (Instr.build 144 #[(0,v124),(1,v135)]) fun v136 =>
 px prog (Instr.buildSlice 59 1 #[(0,v136)]) w fun v137 w => S w ∧ (
 px prog (bSem .append #[59,59] 59 #[v116,v137]) w fun v138 w => S w ∧ (
 pq prog S (fieldAt 62 (ρ 3) 2) fun v139 =>
 pu prog (storeAt 59 v139 v138) w fun w => (
 px prog (binSem .add 3 (.tmp 113) (.const (.int .i64 1)) (ρ 9) (.int .i64 1)) w fun v114 w =>
 N4 (put (put (put (put (put (put (put (put (put (put (put (put (put (put (put (put (put (put (put (put (put (put (put (put (put (put (put (put (put (put (put (put (put (put (put ρ 106 (ρ 9)) 107 (ρ 0)) 108 v108) 109 v109) 110 v110) 111 v111) 112 v112) 115 v115) 116 v116) 117 (ρ 0)) 118 v118) 119 v119) 120 v120) 121 (ρ 9)) 122 v122) 123 v123) 124 v124) 125 (ρ 4)) 126 (ρ 5)) 127 (ρ 0)) 128 v128) 129 v129) 130 v130) 131 (ρ 9)) 132 v132) 133 v133) 134 v134) 135 v135) 136 v136) 137 v137) 138 v138) 139 v139) 113 (ρ 9)) 114 v114) 9 v114) w))))) w.drew)
 (
 F25A k [1,1,1,1,1,1,1,1,1,1,1,1,1] (put (put (put (put (put (put (put ρ 106 (ρ 9)) 107 (ρ 0)) 108 v108) 109 v109) 110 v110) 111 v111) 112 v112) w)
theorem F25_7_eq (k:KV) (N4:KE) (ρ:Env) (w:World) : F25A4 k N4 [] ρ w = F25_7 k N4 ρ w := by kernel_rfl
def F25_8 (k:KV) (ρ:Env) (w:World) : Prop :=
 F25L5 k (put ρ 10 (.int .i64 0)) w
theorem F25_8_eq (k:KV) (ρ:Env) (w:World) : F25A k [1,1,1,1,1,1,1,1,1,1,1,1,1] ρ w = F25_8 k ρ w := by kernel_rfl
def F25_9 (k:KV) (N5:KE) (ρ:Env) (w:World) : Prop :=
 px prog (nilSem (ρ 0)) w fun v142 w =>
 px prog (fieldAt 62 v142 3) w fun v143 w =>
 px prog (loadAt 59 v143) w fun v144 w =>
 px prog (bSem .len #[59] 3 #[v144]) w fun v145 w =>
 px prog (binSem .lss 3 (.tmp 140) (.tmp 145) (ρ 10) v145) w fun v146 w =>
 pC v146 (
 ∃ S : World → Prop,S w.drew ∧ (fun w =>
 pq prog S (fieldAt 62 (ρ 3) 3) fun v149 =>
 pq prog S (loadAt 59 v149) fun v150 =>
 pq prog S (nilSem (ρ 0)) fun v152 =>
 pq prog S (fieldAt 62 v152 3) fun v153 =>
 pq prog S (loadAt 59 v153) fun v154 =>
 pq prog S (indexAt 59 v154 (ρ 10)) fun v156 =>
 pq prog S (fieldAt 144 v156 0) fun v157 =>
 pq prog S (loadAt 9 v157) fun v158 =>
 pq prog S (nilSem (ρ 0)) fun v162 =>
 pq prog S (fieldAt 62 v162 3) fun v163 =>
 pq prog S (loadAt 59 v163) fun v164 =>
 pq prog S (indexAt 59 v164 (ρ 10)) fun v166 =>
 pq prog S (fieldAt 144 v166 1) fun v167 =>
 pq prog S (loadAt 142 v167) fun v168 =>
 pFn prog 87 [(ρ 4),(ρ 5),v168] w fun v169 w => S w ∧ (
 pq prog S (Instr.build 144 #[(0,v158),(1,v169)]) fun v170 =>
 px prog (Instr.buildSlice 59 1 #[(0,v170)]) w fun v171 w => S w ∧ (
 px prog (bSem .append #[59,59] 59 #[v150,v171]) w fun v172 w => S w ∧ (
 pq prog S (fieldAt 62 (ρ 3) 3) fun v173 =>
 pu prog (storeAt 59 v173 v172) w fun w => (
 px prog (binSem .add 3 (.tmp 147) (.const (.int .i64 1)) (ρ 10) (.int .i64 1)) w fun v148 w =>
 N5 (put (put (put (put (put (put (put (put (put (put (put (put (put (put (put (put (put (put (put (put (put (put (put (put (put (put (put (put (put (put (put (put (put (put (put ρ 140 (ρ 10)) 141 (ρ 0)) 142 v142) 143 v143) 144 v144) 145 v145) 146 v146) 149 v149) 150 v150) 151 (ρ 0)) 152 v152) 153 v153) 154 v154) 155 (ρ 10)) 156 v156) 157 v157) 158 v158) 159 (ρ 4)) 160 (ρ 5)) 161 (ρ 0)) 162 v162) 163 v163) 164 v164) 165 (ρ 10)) 166 v166) 167 v167) 168 v168) 169 v169) 170 v170) 171 v171) 172 v172) 173 v173) 147 (ρ 10)) 148 v148) 10 v148) w))))) w.drew)
 (
 F25A k [1,1,1,1,1,1,1,1,1,1,1,1,1,1] (put (put (put (put (put (put (put ρ 140 (ρ 10)) 141 (ρ 0)) 142 v142) 143 v143) 144 v144) 145 v145) 146 v146) w)
theorem F25_9_eq (k:KV) (N5:KE) (ρ:Env) (w:World) : F25A5 k N5 [] ρ w = F25_9 k N5 ρ w := by kernel_rfl
def F25_10 (k:KV) (ρ:Env) (w:World) : Prop :=
 F25L6 k (put ρ 11 (.int .i64 0)) w
theorem F25_10_eq (k:KV) (ρ:Env) (w:World) : F25A k [1,1,1,1,1,1,1,1,1,1,1,1,1,1] ρ w = F25_10 k ρ w := by kernel_rfl
def F25_11 (k:KV) (N6:KE) (ρ:Env) (w:World) : Prop :=
 px prog (nilSem (ρ 0)) w fun v176 w =>
 px prog (fieldAt 62 v176 4) w fun v177 w =>
 px prog (loadAt 60 v177) w fun v178 w =>
 px prog (bSem .len #[60] 3 #[v178]) w fun v179 w =>
 px prog (binSem .lss 3 (.tmp 174) (.tmp 179) (ρ 11) v179) w fun v180 w =>
 pC v180 (
 px prog (nilSem (ρ 0)) w fun v184 w =>
 px prog (fieldAt 62 v184 4) w fun v185 w =>
 px prog (loadAt 60 v185) w fun v186 w =>
 px prog (indexAt 60 v186 (ρ 11)) w fun v188 w =>
 px prog (loadAt 146 v188) w fun v189 w =>
 px prog (Instr.alloc 146 true (.tuple #[])) w fun v12 w =>
 pu prog (storeAt 146 v12 v189) w fun w =>
 px prog (fieldAt 146 v12 3) w fun v192 w =>
 px prog (loadAt 142 v192) w fun v193 w =>
 pFn prog 87 [(ρ 4),(ρ 5),v193] w fun v194 w =>
 px prog (fieldAt 146 v12 3) w fun v195 w =>
 pu prog (storeAt 142 v195 v194) w fun w =>
 px prog (fieldAt 62 (ρ 3) 4) w fun v196 w =>
 px prog (loadAt 60 v196) w fun v197 w =>
 px prog (loadAt 146 v12) w fun v198 w =>
 px prog (Instr.buildSlice 60 1 #[(0,v198)]) w fun v199 w =>
 px prog (bSem .append #[60,60] 60 #[v197,v199]) w fun v200 w =>
 px prog (fieldAt 62 (ρ 3) 4) w fun v201 w =>
 pu prog (storeAt 60 v201 v200) w fun w =>
 px prog (binSem .add 3 (.tmp 181) (.const (.int .i64 1)) (ρ 11) (.int .i64 1)) w fun v182 w =>
 N6 (put (put (put (put (put (put (put (put (put (put (put (put (put (put (put (put (put (put (put (put (put (put (put (put (put (put (put (put (put (put ρ 174 (ρ 11)) 175 (ρ 0)) 176 v176) 177 v177) 178 v178) 179 v179) 180 v180) 183 (ρ 0)) 184 v184) 185 v185) 186 v186) 187 (ρ 11)) 188 v188) 189 v189) 12 v12) 190 (ρ 4)) 191 (ρ 5)) 192 v192) 193 v193) 194 v194) 195 v195) 196 v196) 197 v197) 198 v198) 199 v199) 200 v200) 201 v201) 181 (ρ 11)) 182 v182) 11 v182) w)
 (
 F25A k [1,1,1,1,1,1,1,1,1,1,1,1,1,1,1] (put (put (put (put (put (put (put ρ 174 (ρ 11)) 175 (ρ 0)) 176 v176) 177 v177) 178 v178) 179 v179) 180 v180) w)
theorem F25_11_eq (k:KV) (N6:KE) (ρ:Env) (w:World) : F25A6 k N6 [] ρ w = F25_11 k N6 ρ w := by kernel_rfl
def F25_12 (k:KV) (ρ:Env) (w:World) : Prop :=
 k (ρ 3) w
theorem F25_12_eq (k:KV) (ρ:Env) (w:World) : F25A k [1,1,1,1,1,1,1,1,1,1,1,1,1,1,1] ρ w = F25_12 k ρ w := by kernel_rfl
theorem F25_in (d0:Value) (w:World) (k:KV) (h:F25_0 d0 w k) : pFn prog 25 [d0] w k :=
 pFn_of_at mixed func25 (by kernel_rfl) (by kernel_rfl) ntmps25 (by kernel_rfl) (by kernel_rfl) (by simp) ((F25_0_eq d0 w k).mpr h)
noncomputable def F33B : Code := bodyOf f33
def F33A (k:KV) (q:List Nat) (ρ:Env) (w:World) : Prop := At prog 11 F33B (retQ prog f33.results.toList k) q ρ w
def F33_0 (d0:Value) (w:World) (k:KV) : Prop :=
 px prog (binSem .eql 30 (.tmp 3) (.const (.pointer none)) d0 (.pointer none)) w fun v4 w =>
 pC v4 (
 k (.slice none 0 0) w)
 (
 px prog (Instr.buildSlice 56 0 #[]) w fun v5 w =>
 px prog (nilSem d0) w fun v7 w =>
 px prog (fieldAt 62 v7 8) w fun v8 w =>
 px prog (loadAt 56 v8) w fun v9 w =>
 px prog (bSem .append #[56,56] 56 #[v5,v9]) w fun v10 w =>
 k v10 w)
theorem F33_0_eq (d0:Value) (w:World) (k:KV) : F33A k [] (argEnv [d0]) w = F33_0 d0 w k := by kernel_rfl
theorem F33_in (d0:Value) (w:World) (k:KV) (h:F33_0 d0 w k) : pFn prog 33 [d0] w k :=
 pFn_of_at mixed func33 (by kernel_rfl) (by kernel_rfl) ntmps33 (by kernel_rfl) (by kernel_rfl) (by simp) ((F33_0_eq d0 w k).mpr h)
noncomputable def F34B : Code := bodyOf f34
def F34A (k:KV) (q:List Nat) (ρ:Env) (w:World) : Prop := At prog 73 F34B (retQ prog f34.results.toList k) q ρ w
def F34_0 (d0:Value) (name1:Value) (at2:Value) (n3:Value) (w:World) (k:KV) : Prop :=
 pFn prog 93 [d0,name1] w fun v16 w =>
 px prog (extract v16 0) w fun v17 w =>
 px prog (extract v16 1) w fun v18 w =>
 px prog (binSem .neq 3 (.tmp 19) (.const (.int .i64 0)) v18 (.int .i64 0)) w fun v20 w =>
 pC v20 (
 k (.tuple #[(.slice none 0 0),v18]) w)
 (
 px prog (nilSem d0) w fun v23 w =>
 px prog (fieldAt 62 v23 2) w fun v24 w =>
 px prog (loadAt 59 v24) w fun v25 w =>
 px prog (indexAt 59 v25 v17) w fun v27 w =>
 px prog (fieldAt 144 v27 1) w fun v28 w =>
 px prog (loadAt 142 v28) w fun v29 w =>
 px prog (nilSem v29) w fun v30 w =>
 px prog (fieldAt 156 v30 1) w fun v31 w =>
 px prog (loadAt 36 v31) w fun v32 w =>
 px prog (binSem .lss 3 (.tmp 33) (.const (.int .i64 0)) at2 (.int .i64 0)) w fun v34 w =>
 pG v34 false (fun k => k n3 w) (w := w) (next := fun v36 w =>
 pG v34 false (fun k => px prog (binSem .lss 3 (.tmp 36) (.const (.int .i64 0)) v36 (.int .i64 0)) w k) (w := w) (next := fun v37 w =>
 px prog (pickSem v34 (.bool true) v37) w fun v38 w =>
 pG v38 false (fun k => k at2 w) (w := w) (next := fun v40 w =>
 pG v38 false (fun k => k v32 w) (w := w) (next := fun v41 w =>
 pG v38 false (fun k => px prog (bSem .len #[36] 3 #[v41]) w k) (w := w) (next := fun v42 w =>
 pG v38 false (fun k => px prog (binSem .gtr 3 (.tmp 40) (.tmp 42) v40 v42) w k) (w := w) (next := fun v43 w =>
 px prog (pickSem v38 (.bool true) v43) w fun v44 w =>
 pG v44 false (fun k => k n3 w) (w := w) (next := fun v46 w =>
 pG v44 false (fun k => k v32 w) (w := w) (next := fun v47 w =>
 pG v44 false (fun k => px prog (bSem .len #[36] 3 #[v47]) w k) (w := w) (next := fun v48 w =>
 pG v44 false (fun k => k at2 w) (w := w) (next := fun v49 w =>
 pG v44 false (fun k => px prog (binSem .sub 3 (.tmp 48) (.tmp 49) v48 v49) w k) (w := w) (next := fun v50 w =>
 pG v44 false (fun k => px prog (binSem .gtr 3 (.tmp 46) (.tmp 50) v46 v50) w k) (w := w) (next := fun v51 w =>
 px prog (pickSem v44 (.bool true) v51) w fun v52 w =>
 pC v52 (
 k (.tuple #[(.slice none 0 0),(.int .i64 54)]) w)
 (
 px prog (nilSem d0) w fun v55 w =>
 px prog (fieldAt 62 v55 8) w fun v56 w =>
 px prog (loadAt 56 v56) w fun v57 w =>
 px prog (Instr.build 134 #[(0,name1),(1,at2),(2,n3)]) w fun v61 w =>
 px prog (Instr.buildSlice 56 1 #[(0,v61)]) w fun v62 w =>
 px prog (bSem .append #[56,56] 56 #[v57,v62]) w fun v63 w =>
 px prog (nilSem d0) w fun v64 w =>
 px prog (fieldAt 62 v64 8) w fun v65 w =>
 pu prog (storeAt 56 v65 v63) w fun w =>
 px prog (binSem .add 3 (.tmp 68) (.tmp 69) at2 n3) w fun v70 w =>
 px prog (sliceAt 36 v32 (some at2) (some v70) none) w fun v71 w =>
 pFn prog 94 [v71] w fun v72 w =>
 k (.tuple #[v72,(.int .i64 0)]) w))))))))))))))
theorem F34_0_eq (d0:Value) (name1:Value) (at2:Value) (n3:Value) (w:World) (k:KV) : F34A k [] (argEnv [d0,name1,at2,n3]) w = F34_0 d0 name1 at2 n3 w k := by kernel_rfl
theorem F34_in (d0:Value) (name1:Value) (at2:Value) (n3:Value) (w:World) (k:KV) (h:F34_0 d0 name1 at2 n3 w k) : pFn prog 34 [d0,name1,at2,n3] w k :=
 pFn_of_at mixed func34 (by kernel_rfl) (by kernel_rfl) ntmps34 (by kernel_rfl) (by kernel_rfl) (by simp) ((F34_0_eq d0 name1 at2 n3 w k).mpr h)
noncomputable def F41B : Code := bodyOf f41
def F41A (k:KV) (q:List Nat) (ρ:Env) (w:World) : Prop := At prog 41 F41B (retQ prog f41.results.toList k) q ρ w
noncomputable def F41B1 : Code := sub F41B [1,1,1,0,1,0,0]
def F41Q1 (k:KV) (N1:KE) : Xt → KE := thenE N1 (contAt prog 41 F41B (retQ prog f41.results.toList k) [1,1,1,0,1,0])
def F41A1 (k:KV) (N1:KE) (q:List Nat) (ρ:Env) (w:World) : Prop := At prog 41 F41B1 (F41Q1 k N1) q ρ w
def F41L1 (k:KV) (ρ:Env) (w:World) : Prop := LoopAt prog 41 F41B (retQ prog f41.results.toList k) [1,1,1,0,1,0] ρ w
theorem F41L1_inv (k:KV) (I:Nat → KE) (round:∀ m ρ w,I m ρ w → F41A1 k (fun ρ' w' => ∃ m',m' < m ∧ I m' ρ' w') [] ρ w) {m:Nat} {ρ:Env} {w:World} (h:I m ρ w) : F41L1 k ρ w :=
 LoopAt_inv mixed (B := F41B) (Q := (retQ prog f41.results.toList k)) (p := [1,1,1,0,1,0]) (by kernel_rfl) (by kernel_rfl) I round h
def F41_0 (d0:Value) (w:World) (k:KV) : Prop :=
 px prog (binSem .eql 30 (.tmp 5) (.const (.pointer none)) d0 (.pointer none)) w fun v6 w =>
 pC v6 (
 k (.slice none 0 0) w)
 (
 F41L1 k (put (put (put (put (put (argEnv [d0]) 2 (.slice none 0 0)) 3 (.slice none 0 0)) 5 d0) 6 v6) 4 (.int .i64 0)) w)
theorem F41_0_eq (d0:Value) (w:World) (k:KV) : F41A k [] (argEnv [d0]) w = F41_0 d0 w k := by kernel_rfl
def F41_1 (k:KV) (N1:KE) (ρ:Env) (w:World) : Prop :=
 px prog (nilSem (ρ 0)) w fun v9 w =>
 px prog (fieldAt 62 v9 2) w fun v10 w =>
 px prog (loadAt 59 v10) w fun v11 w =>
 px prog (bSem .len #[59] 3 #[v11]) w fun v12 w =>
 px prog (binSem .lss 3 (.tmp 7) (.tmp 12) (ρ 4) v12) w fun v13 w =>
 pC v13 (
 ∃ S : World → Prop,S w.drew ∧ (fun w =>
 pq prog S (nilSem (ρ 0)) fun v18 =>
 pq prog S (fieldAt 62 v18 2) fun v19 =>
 pq prog S (loadAt 59 v19) fun v20 =>
 pq prog S (indexAt 59 v20 (ρ 4)) fun v22 =>
 pq prog S (fieldAt 144 v22 0) fun v23 =>
 pq prog S (loadAt 9 v23) fun v24 =>
 pq prog S (nilSem (ρ 0)) fun v26 =>
 pq prog S (fieldAt 62 v26 2) fun v27 =>
 pq prog S (loadAt 59 v27) fun v28 =>
 pq prog S (indexAt 59 v28 (ρ 4)) fun v30 =>
 pq prog S (fieldAt 144 v30 1) fun v31 =>
 pq prog S (loadAt 142 v31) fun v32 =>
 pq prog S (nilSem v32) fun v33 =>
 pq prog S (fieldAt 156 v33 1) fun v34 =>
 pq prog S (loadAt 36 v34) fun v35 =>
 pFn prog 94 [v35] w fun v36 w => S w ∧ (
 pq prog S (Instr.build 83 #[(0,v24),(1,v36)]) fun v37 =>
 px prog (Instr.buildSlice 71 1 #[(0,v37)]) w fun v38 w => S w ∧ (
 px prog (bSem .append #[71,71] 71 #[(ρ 3),v38]) w fun v39 w => S w ∧ (
 px prog (binSem .add 3 (.tmp 14) (.const (.int .i64 1)) (ρ 4) (.int .i64 1)) w fun v15 w =>
 N1 (put (put (put (put (put (put (put (put (put (put (put (put (put (put (put (put (put (put (put (put (put (put (put (put (put (put (put (put (put (put (put (put (put (put (put ρ 7 (ρ 4)) 8 (ρ 0)) 9 v9) 10 v10) 11 v11) 12 v12) 13 v13) 16 (ρ 3)) 17 (ρ 0)) 18 v18) 19 v19) 20 v20) 21 (ρ 4)) 22 v22) 23 v23) 24 v24) 25 (ρ 0)) 26 v26) 27 v27) 28 v28) 29 (ρ 4)) 30 v30) 31 v31) 32 v32) 33 v33) 34 v34) 35 v35) 36 v36) 37 v37) 38 v38) 39 v39) 3 v39) 14 (ρ 4)) 15 v15) 4 v15) w)))) w.drew)
 (
 F41A k [1,1,1,1] (put (put (put (put (put (put (put ρ 7 (ρ 4)) 8 (ρ 0)) 9 v9) 10 v10) 11 v11) 12 v12) 13 v13) w)
theorem F41_1_eq (k:KV) (N1:KE) (ρ:Env) (w:World) : F41A1 k N1 [] ρ w = F41_1 k N1 ρ w := by kernel_rfl
def F41_2 (k:KV) (ρ:Env) (w:World) : Prop :=
 k (ρ 3) w
theorem F41_2_eq (k:KV) (ρ:Env) (w:World) : F41A k [1,1,1,1] ρ w = F41_2 k ρ w := by kernel_rfl
theorem F41_in (d0:Value) (w:World) (k:KV) (h:F41_0 d0 w k) : pFn prog 41 [d0] w k :=
 pFn_of_at mixed func41 (by kernel_rfl) (by kernel_rfl) ntmps41 (by kernel_rfl) (by kernel_rfl) (by simp) ((F41_0_eq d0 w k).mpr h)
noncomputable def F42B : Code := bodyOf f42
def F42A (k:KV) (q:List Nat) (ρ:Env) (w:World) : Prop := At prog 41 F42B (retQ prog f42.results.toList k) q ρ w
noncomputable def F42B1 : Code := sub F42B [1,1,1,0,1,0,0]
def F42Q1 (k:KV) (N1:KE) : Xt → KE := thenE N1 (contAt prog 41 F42B (retQ prog f42.results.toList k) [1,1,1,0,1,0])
def F42A1 (k:KV) (N1:KE) (q:List Nat) (ρ:Env) (w:World) : Prop := At prog 41 F42B1 (F42Q1 k N1) q ρ w
def F42L1 (k:KV) (ρ:Env) (w:World) : Prop := LoopAt prog 41 F42B (retQ prog f42.results.toList k) [1,1,1,0,1,0] ρ w
theorem F42L1_inv (k:KV) (I:Nat → KE) (round:∀ m ρ w,I m ρ w → F42A1 k (fun ρ' w' => ∃ m',m' < m ∧ I m' ρ' w') [] ρ w) {m:Nat} {ρ:Env} {w:World} (h:I m ρ w) : F42L1 k ρ w :=
 LoopAt_inv mixed (B := F42B) (Q := (retQ prog f42.results.toList k)) (p := [1,1,1,0,1,0]) (by kernel_rfl) (by kernel_rfl) I round h
def F42_0 (d0:Value) (w:World) (k:KV) : Prop :=
 px prog (binSem .eql 30 (.tmp 5) (.const (.pointer none)) d0 (.pointer none)) w fun v6 w =>
 pC v6 (
 k (.slice none 0 0) w)
 (
 F42L1 k (put (put (put (put (put (argEnv [d0]) 2 (.slice none 0 0)) 3 (.slice none 0 0)) 5 d0) 6 v6) 4 (.int .i64 0)) w)
theorem F42_0_eq (d0:Value) (w:World) (k:KV) : F42A k [] (argEnv [d0]) w = F42_0 d0 w k := by kernel_rfl
def F42_1 (k:KV) (N1:KE) (ρ:Env) (w:World) : Prop :=
 px prog (nilSem (ρ 0)) w fun v9 w =>
 px prog (fieldAt 62 v9 3) w fun v10 w =>
 px prog (loadAt 59 v10) w fun v11 w =>
 px prog (bSem .len #[59] 3 #[v11]) w fun v12 w =>
 px prog (binSem .lss 3 (.tmp 7) (.tmp 12) (ρ 4) v12) w fun v13 w =>
 pC v13 (
 ∃ S : World → Prop,S w.drew ∧ (fun w =>
 pq prog S (nilSem (ρ 0)) fun v18 =>
 pq prog S (fieldAt 62 v18 3) fun v19 =>
 pq prog S (loadAt 59 v19) fun v20 =>
 pq prog S (indexAt 59 v20 (ρ 4)) fun v22 =>
 pq prog S (fieldAt 144 v22 0) fun v23 =>
 pq prog S (loadAt 9 v23) fun v24 =>
 pq prog S (nilSem (ρ 0)) fun v26 =>
 pq prog S (fieldAt 62 v26 3) fun v27 =>
 pq prog S (loadAt 59 v27) fun v28 =>
 pq prog S (indexAt 59 v28 (ρ 4)) fun v30 =>
 pq prog S (fieldAt 144 v30 1) fun v31 =>
 pq prog S (loadAt 142 v31) fun v32 =>
 pq prog S (nilSem v32) fun v33 =>
 pq prog S (fieldAt 156 v33 0) fun v34 =>
 pq prog S (loadAt 36 v34) fun v35 =>
 pFn prog 94 [v35] w fun v36 w => S w ∧ (
 pq prog S (Instr.build 83 #[(0,v24),(1,v36)]) fun v37 =>
 px prog (Instr.buildSlice 71 1 #[(0,v37)]) w fun v38 w => S w ∧ (
 px prog (bSem .append #[71,71] 71 #[(ρ 3),v38]) w fun v39 w => S w ∧ (
 px prog (binSem .add 3 (.tmp 14) (.const (.int .i64 1)) (ρ 4) (.int .i64 1)) w fun v15 w =>
 N1 (put (put (put (put (put (put (put (put (put (put (put (put (put (put (put (put (put (put (put (put (put (put (put (put (put (put (put (put (put (put (put (put (put (put (put ρ 7 (ρ 4)) 8 (ρ 0)) 9 v9) 10 v10) 11 v11) 12 v12) 13 v13) 16 (ρ 3)) 17 (ρ 0)) 18 v18) 19 v19) 20 v20) 21 (ρ 4)) 22 v22) 23 v23) 24 v24) 25 (ρ 0)) 26 v26) 27 v27) 28 v28) 29 (ρ 4)) 30 v30) 31 v31) 32 v32) 33 v33) 34 v34) 35 v35) 36 v36) 37 v37) 38 v38) 39 v39) 3 v39) 14 (ρ 4)) 15 v15) 4 v15) w)))) w.drew)
 (
 F42A k [1,1,1,1] (put (put (put (put (put (put (put ρ 7 (ρ 4)) 8 (ρ 0)) 9 v9) 10 v10) 11 v11) 12 v12) 13 v13) w)
theorem F42_1_eq (k:KV) (N1:KE) (ρ:Env) (w:World) : F42A1 k N1 [] ρ w = F42_1 k N1 ρ w := by kernel_rfl
def F42_2 (k:KV) (ρ:Env) (w:World) : Prop :=
 k (ρ 3) w
theorem F42_2_eq (k:KV) (ρ:Env) (w:World) : F42A k [1,1,1,1] ρ w = F42_2 k ρ w := by kernel_rfl
theorem F42_in (d0:Value) (w:World) (k:KV) (h:F42_0 d0 w k) : pFn prog 42 [d0] w k :=
 pFn_of_at mixed func42 (by kernel_rfl) (by kernel_rfl) ntmps42 (by kernel_rfl) (by kernel_rfl) (by simp) ((F42_0_eq d0 w k).mpr h)
noncomputable def F44B : Code := bodyOf f44
def F44A (k:KV) (q:List Nat) (ρ:Env) (w:World) : Prop := At prog 45 F44B (retQ prog f44.results.toList k) q ρ w
noncomputable def F44B1 : Code := sub F44B [1,1,1,0,1,0,0]
def F44Q1 (k:KV) (N1:KE) : Xt → KE := thenE N1 (contAt prog 45 F44B (retQ prog f44.results.toList k) [1,1,1,0,1,0])
def F44A1 (k:KV) (N1:KE) (q:List Nat) (ρ:Env) (w:World) : Prop := At prog 45 F44B1 (F44Q1 k N1) q ρ w
def F44L1 (k:KV) (ρ:Env) (w:World) : Prop := LoopAt prog 45 F44B (retQ prog f44.results.toList k) [1,1,1,0,1,0] ρ w
theorem F44L1_inv (k:KV) (I:Nat → KE) (round:∀ m ρ w,I m ρ w → F44A1 k (fun ρ' w' => ∃ m',m' < m ∧ I m' ρ' w') [] ρ w) {m:Nat} {ρ:Env} {w:World} (h:I m ρ w) : F44L1 k ρ w :=
 LoopAt_inv mixed (B := F44B) (Q := (retQ prog f44.results.toList k)) (p := [1,1,1,0,1,0]) (by kernel_rfl) (by kernel_rfl) I round h
def F44_0 (d0:Value) (prefix1:Value) (w:World) (k:KV) : Prop :=
 pFn prog 74 [d0] w fun v9 w =>
 pC v9 (
 k (.slice none 0 0) w)
 (
 F44L1 k (put (put (put (put (put (argEnv [d0,prefix1]) 4 (.slice none 0 0)) 5 (.slice none 0 0)) 8 d0) 9 v9) 6 (.int .i64 0)) w)
theorem F44_0_eq (d0:Value) (prefix1:Value) (w:World) (k:KV) : F44A k [] (argEnv [d0,prefix1]) w = F44_0 d0 prefix1 w k := by kernel_rfl
def F44_1 (k:KV) (N1:KE) (ρ:Env) (w:World) : Prop :=
 px prog (nilSem (ρ 0)) w fun v12 w =>
 px prog (fieldAt 62 v12 2) w fun v13 w =>
 px prog (loadAt 59 v13) w fun v14 w =>
 px prog (bSem .len #[59] 3 #[v14]) w fun v15 w =>
 px prog (binSem .lss 3 (.tmp 10) (.tmp 15) (ρ 6) v15) w fun v16 w =>
 pC v16 (
 px prog (nilSem (ρ 0)) w fun v20 w =>
 px prog (fieldAt 62 v20 2) w fun v21 w =>
 px prog (loadAt 59 v21) w fun v22 w =>
 px prog (indexAt 59 v22 (ρ 6)) w fun v24 w =>
 px prog (fieldAt 144 v24 0) w fun v25 w =>
 px prog (loadAt 9 v25) w fun v26 w =>
 px prog (bSem .len #[9] 3 #[v26]) w fun v28 w =>
 px prog (bSem .len #[9] 3 #[(ρ 1)]) w fun v30 w =>
 px prog (binSem .geq 3 (.tmp 28) (.tmp 30) v28 v30) w fun v31 w =>
 pG v31 true (fun k => k v26 w) (w := w) (next := fun v33 w =>
 pG v31 true (fun k => k (ρ 1) w) (w := w) (next := fun v34 w =>
 pG v31 true (fun k => px prog (bSem .len #[9] 3 #[v34]) w k) (w := w) (next := fun v35 w =>
 pG v31 true (fun k => px prog (sliceAt 9 v33 none (some v35) none) w k) (w := w) (next := fun v36 w =>
 pG v31 true (fun k => k (ρ 1) w) (w := w) (next := fun v37 w =>
 pG v31 true (fun k => px prog (binSem .eql 9 (.tmp 36) (.tmp 37) v36 v37) w k) (w := w) (next := fun v38 w =>
 px prog (pickSem v31 v38 (.bool false)) w fun v39 w =>
 pC v39 (
 px prog (Instr.buildSlice 73 1 #[(0,v26)]) w fun v42 w =>
 px prog (bSem .append #[73,73] 73 #[(ρ 5),v42]) w fun v43 w =>
 F44A1 k N1 [1,1] (put (put (put (put (put (put (put (put (put (put (put (put (put (put (put (put (put (put (put (put (put (put (put (put (put (put (put (put (put (put (put (put (put (put ρ 10 (ρ 6)) 11 (ρ 0)) 12 v12) 13 v13) 14 v14) 15 v15) 16 v16) 19 (ρ 0)) 20 v20) 21 v21) 22 v22) 23 (ρ 6)) 24 v24) 25 v25) 26 v26) 7 v26) 27 v26) 28 v28) 29 (ρ 1)) 30 v30) 31 v31) 32 v31) 33 v33) 34 v34) 35 v35) 36 v36) 37 v37) 38 v38) 39 v39) 40 (ρ 5)) 41 v26) 42 v42) 43 v43) 5 v43) w)
 (
 F44A1 k N1 [1,1] (put (put (put (put (put (put (put (put (put (put (put (put (put (put (put (put (put (put (put (put (put (put (put (put (put (put (put (put (put ρ 10 (ρ 6)) 11 (ρ 0)) 12 v12) 13 v13) 14 v14) 15 v15) 16 v16) 19 (ρ 0)) 20 v20) 21 v21) 22 v22) 23 (ρ 6)) 24 v24) 25 v25) 26 v26) 7 v26) 27 v26) 28 v28) 29 (ρ 1)) 30 v30) 31 v31) 32 v31) 33 v33) 34 v34) 35 v35) 36 v36) 37 v37) 38 v38) 39 v39) w))))))))
 (
 F44A k [1,1,1,1] (put (put (put (put (put (put (put ρ 10 (ρ 6)) 11 (ρ 0)) 12 v12) 13 v13) 14 v14) 15 v15) 16 v16) w)
theorem F44_1_eq (k:KV) (N1:KE) (ρ:Env) (w:World) : F44A1 k N1 [] ρ w = F44_1 k N1 ρ w := by kernel_rfl
def F44_2 (k:KV) (N1:KE) (ρ:Env) (w:World) : Prop :=
 px prog (binSem .add 3 (.tmp 17) (.const (.int .i64 1)) (ρ 6) (.int .i64 1)) w fun v18 w =>
 N1 (put (put (put ρ 17 (ρ 6)) 18 v18) 6 v18) w
theorem F44_2_eq (k:KV) (N1:KE) (ρ:Env) (w:World) : F44A1 k N1 [1,1] ρ w = F44_2 k N1 ρ w := by kernel_rfl
def F44_3 (k:KV) (ρ:Env) (w:World) : Prop :=
 k (ρ 5) w
theorem F44_3_eq (k:KV) (ρ:Env) (w:World) : F44A k [1,1,1,1] ρ w = F44_3 k ρ w := by kernel_rfl
theorem F44_in (d0:Value) (prefix1:Value) (w:World) (k:KV) (h:F44_0 d0 prefix1 w k) : pFn prog 44 [d0,prefix1] w k :=
 pFn_of_at mixed func44 (by kernel_rfl) (by kernel_rfl) ntmps44 (by kernel_rfl) (by kernel_rfl) (by simp) ((F44_0_eq d0 prefix1 w k).mpr h)
noncomputable def F50B : Code := bodyOf f50
def F50A (k:KV) (q:List Nat) (ρ:Env) (w:World) : Prop := At prog 100 F50B (retQ prog f50.results.toList k) q ρ w
noncomputable def F50B1 : Code := sub F50B [1,1,1,1,0,1,0,0]
def F50Q1 (k:KV) (N1:KE) : Xt → KE := thenE N1 (contAt prog 100 F50B (retQ prog f50.results.toList k) [1,1,1,1,0,1,0])
def F50A1 (k:KV) (N1:KE) (q:List Nat) (ρ:Env) (w:World) : Prop := At prog 100 F50B1 (F50Q1 k N1) q ρ w
def F50L1 (k:KV) (ρ:Env) (w:World) : Prop := LoopAt prog 100 F50B (retQ prog f50.results.toList k) [1,1,1,1,0,1,0] ρ w
theorem F50L1_inv (k:KV) (I:Nat → KE) (round:∀ m ρ w,I m ρ w → F50A1 k (fun ρ' w' => ∃ m',m' < m ∧ I m' ρ' w') [] ρ w) {m:Nat} {ρ:Env} {w:World} (h:I m ρ w) : F50L1 k ρ w :=
 LoopAt_inv mixed (B := F50B) (Q := (retQ prog f50.results.toList k)) (p := [1,1,1,1,0,1,0]) (by kernel_rfl) (by kernel_rfl) I round h
noncomputable def F50B2 : Code := sub F50B [1,1,1,1,1,1,0,1,0,0]
def F50Q2 (k:KV) (N2:KE) : Xt → KE := thenE N2 (contAt prog 100 F50B (retQ prog f50.results.toList k) [1,1,1,1,1,1,0,1,0])
def F50A2 (k:KV) (N2:KE) (q:List Nat) (ρ:Env) (w:World) : Prop := At prog 100 F50B2 (F50Q2 k N2) q ρ w
def F50L2 (k:KV) (ρ:Env) (w:World) : Prop := LoopAt prog 100 F50B (retQ prog f50.results.toList k) [1,1,1,1,1,1,0,1,0] ρ w
theorem F50L2_inv (k:KV) (I:Nat → KE) (round:∀ m ρ w,I m ρ w → F50A2 k (fun ρ' w' => ∃ m',m' < m ∧ I m' ρ' w') [] ρ w) {m:Nat} {ρ:Env} {w:World} (h:I m ρ w) : F50L2 k ρ w :=
 LoopAt_inv mixed (B := F50B) (Q := (retQ prog f50.results.toList k)) (p := [1,1,1,1,1,1,0,1,0]) (by kernel_rfl) (by kernel_rfl) I round h
def F50_0 (room0:Value) (files1:Value) (w:World) (k:KV) : Prop :=
 pFn prog 53 [room0] w fun v14 w =>
 px prog (extract v14 0) w fun v15 w =>
 px prog (extract v14 1) w fun v16 w =>
 px prog (binSem .neq 3 (.tmp 17) (.const (.int .i64 0)) v16 (.int .i64 0)) w fun v18 w =>
 pC v18 (
 k (.tuple #[(.pointer none),v16]) w)
 (
 px prog (bSem .len #[71] 3 #[files1]) w fun v21 w =>
 px prog (binSem .gtr 3 (.tmp 21) (.const (.int .i64 256)) v21 (.int .i64 256)) w fun v22 w =>
 pC v22 (
 k (.tuple #[(.pointer none),(.int .i64 56)]) w)
 (
 F50L1 k (put (put (put (put (put (put (put (put (put (put (put (put (put (put (put (argEnv [room0,files1]) 4 (.pointer none)) 5 (.int .i64 0)) 13 room0) 14 v14) 12 v14) 15 v15) 16 v16) 6 v15) 7 v16) 17 v16) 18 v18) 20 files1) 21 v21) 22 v22) 8 (.int .i64 0)) w))
theorem F50_0_eq (room0:Value) (files1:Value) (w:World) (k:KV) : F50A k [] (argEnv [room0,files1]) w = F50_0 room0 files1 w k := by kernel_rfl
def F50_1 (k:KV) (N1:KE) (ρ:Env) (w:World) : Prop :=
 px prog (bSem .len #[71] 3 #[(ρ 1)]) w fun v25 w =>
 px prog (binSem .lss 3 (.tmp 23) (.tmp 25) (ρ 8) v25) w fun v26 w =>
 pC v26 (
 px prog (indexAt 71 (ρ 1) (ρ 8)) w fun v31 w =>
 px prog (fieldAt 83 v31 0) w fun v32 w =>
 px prog (loadAt 9 v32) w fun v33 w =>
 pFn prog 99 [v33] w fun v34 w =>
 px prog (Op.unary .not v34) w fun v35 w =>
 pC v35 (
 k (.tuple #[(.pointer none),(.int .i64 51)]) w)
 (
 px prog (binSem .add 3 (.tmp 27) (.const (.int .i64 1)) (ρ 8) (.int .i64 1)) w fun v28 w =>
 N1 (put (put (put (put (put (put (put (put (put (put (put (put (put (put ρ 23 (ρ 8)) 24 (ρ 1)) 25 v25) 26 v26) 29 (ρ 1)) 30 (ρ 8)) 31 v31) 32 v32) 33 v33) 34 v34) 35 v35) 27 (ρ 8)) 28 v28) 8 v28) w))
 (
 F50A k [1,1,1,1,1] (put (put (put (put ρ 23 (ρ 8)) 24 (ρ 1)) 25 v25) 26 v26) w)
theorem F50_1_eq (k:KV) (N1:KE) (ρ:Env) (w:World) : F50A1 k N1 [] ρ w = F50_1 k N1 ρ w := by kernel_rfl
def F50_2 (k:KV) (ρ:Env) (w:World) : Prop :=
 F50L2 k (put (put ρ 9 (.int .i64 0)) 10 (.int .i64 0)) w
theorem F50_2_eq (k:KV) (ρ:Env) (w:World) : F50A k [1,1,1,1,1] ρ w = F50_2 k ρ w := by kernel_rfl
def F50_3 (k:KV) (N2:KE) (ρ:Env) (w:World) : Prop :=
 px prog (bSem .len #[71] 3 #[(ρ 1)]) w fun v38 w =>
 px prog (binSem .lss 3 (.tmp 36) (.tmp 38) (ρ 10) v38) w fun v39 w =>
 pC v39 (
 ∃ S : World → Prop,S w.drew ∧ (fun w =>
 pq prog S (nilSem (ρ 6)) fun v43 =>
 pq prog S (fieldAt 62 v43 2) fun v44 =>
 pq prog S (loadAt 59 v44) fun v45 =>
 pq prog S (indexAt 71 (ρ 1) (ρ 10)) fun v48 =>
 pq prog S (fieldAt 83 v48 0) fun v49 =>
 pq prog S (loadAt 9 v49) fun v50 =>
 pFn prog 100 [v45,v50] w fun v51 w => S w ∧ (
 pq prog S (binSem .geq 3 (.tmp 51) (.const (.int .i64 0)) v51 (.int .i64 0)) fun v52 =>
 pC v52 (
 k (.tuple #[(.pointer none),(.int .i64 52)]) w)
 (
 ∃ S : World → Prop,S w.drew ∧ (fun w =>
 pq prog S (indexAt 71 (ρ 1) (ρ 10)) fun v55 =>
 pq prog S (fieldAt 83 v55 1) fun v56 =>
 pq prog S (loadAt 36 v56) fun v57 =>
 pq prog S (indexAt 71 (ρ 1) (ρ 10)) fun v61 =>
 pq prog S (fieldAt 83 v61 1) fun v62 =>
 pq prog S (loadAt 36 v62) fun v63 =>
 pFn prog 94 [v57] w fun v58 w => S w ∧ (
 pFn prog 94 [v63] w fun v64 w => S w ∧ (
 pq prog S (Instr.build 156 #[(0,v58),(1,v64)]) fun v65 =>
 px prog (Instr.box 156 v65) w fun v66 w => S w ∧ (
 ∃ S : World → Prop,S w.drew ∧ (fun w =>
 pq prog S (nilSem (ρ 6)) fun v69 =>
 pq prog S (fieldAt 62 v69 2) fun v70 =>
 pq prog S (loadAt 59 v70) fun v71 =>
 pq prog S (indexAt 71 (ρ 1) (ρ 10)) fun v74 =>
 pq prog S (fieldAt 83 v74 0) fun v75 =>
 pq prog S (loadAt 9 v75) fun v76 =>
 pFn prog 101 [v71,v76,v66] w fun v78 w => S w ∧ (
 pq prog S (nilSem (ρ 6)) fun v79 =>
 pq prog S (fieldAt 62 v79 2) fun v80 =>
 pu prog (storeAt 59 v80 v78) w fun w => (
 px prog (indexAt 71 (ρ 1) (ρ 10)) w fun v84 w =>
 px prog (fieldAt 83 v84 1) w fun v85 w =>
 px prog (loadAt 36 v85) w fun v86 w =>
 px prog (bSem .len #[36] 3 #[v86]) w fun v87 w =>
 px prog (binSem .add 3 (.tmp 81) (.tmp 87) (ρ 9) v87) w fun v88 w =>
 px prog (binSem .add 3 (.tmp 40) (.const (.int .i64 1)) (ρ 10) (.int .i64 1)) w fun v41 w =>
 N2 (put (put (put (put (put (put (put (put (put (put (put (put (put (put (put (put (put (put (put (put (put (put (put (put (put (put (put (put (put (put (put (put (put (put (put (put (put (put (put (put (put (put (put (put (put (put (put (put (put (put (put (put (put (put (put (put ρ 36 (ρ 10)) 37 (ρ 1)) 38 v38) 39 v39) 42 (ρ 6)) 43 v43) 44 v44) 45 v45) 46 (ρ 1)) 47 (ρ 10)) 48 v48) 49 v49) 50 v50) 51 v51) 52 v52) 53 (ρ 1)) 54 (ρ 10)) 55 v55) 56 v56) 57 v57) 59 (ρ 1)) 60 (ρ 10)) 61 v61) 62 v62) 63 v63) 58 v58) 64 v64) 65 v65) 66 v66) 11 v66) 67 (ρ 6)) 68 (ρ 6)) 69 v69) 70 v70) 71 v71) 72 (ρ 1)) 73 (ρ 10)) 74 v74) 75 v75) 76 v76) 77 v66) 78 v78) 79 v79) 80 v80) 81 (ρ 9)) 82 (ρ 1)) 83 (ρ 10)) 84 v84) 85 v85) 86 v86) 87 v87) 88 v88) 9 v88) 40 (ρ 10)) 41 v41) 10 v41) w))) w.drew)))) w.drew))) w.drew)
 (
 F50A k [1,1,1,1,1,1,1] (put (put (put (put ρ 36 (ρ 10)) 37 (ρ 1)) 38 v38) 39 v39) w)
theorem F50_3_eq (k:KV) (N2:KE) (ρ:Env) (w:World) : F50A2 k N2 [] ρ w = F50_3 k N2 ρ w := by kernel_rfl
def F50_4 (k:KV) (ρ:Env) (w:World) : Prop :=
 px prog (binSem .gtr 3 (.tmp 89) (.tmp 90) (ρ 9) (ρ 0)) w fun v91 w =>
 pC v91 (
 k (.tuple #[(.pointer none),(.int .i64 55)]) w)
 (
 px prog (nilSem (ρ 6)) w fun v94 w =>
 px prog (fieldAt 62 v94 2) w fun v95 w =>
 px prog (loadAt 59 v95) w fun v96 w =>
 px prog (nilSem (ρ 6)) w fun v97 w =>
 px prog (fieldAt 62 v97 3) w fun v98 w =>
 pu prog (storeAt 59 v98 v96) w fun w =>
 k (.tuple #[(ρ 6),(.int .i64 0)]) w)
theorem F50_4_eq (k:KV) (ρ:Env) (w:World) : F50A k [1,1,1,1,1,1,1] ρ w = F50_4 k ρ w := by kernel_rfl
theorem F50_in (room0:Value) (files1:Value) (w:World) (k:KV) (h:F50_0 room0 files1 w k) : pFn prog 50 [room0,files1] w k :=
 pFn_of_at mixed func50 (by kernel_rfl) (by kernel_rfl) ntmps50 (by kernel_rfl) (by kernel_rfl) (by simp) ((F50_0_eq room0 files1 w k).mpr h)
noncomputable def F53B : Code := bodyOf f53
def F53A (k:KV) (q:List Nat) (ρ:Env) (w:World) : Prop := At prog 13 F53B (retQ prog f53.results.toList k) q ρ w
def F53_0 (room0:Value) (w:World) (k:KV) : Prop :=
 px prog (binSem .lss 3 (.tmp 4) (.const (.int .i64 1)) room0 (.int .i64 1)) w fun v5 w =>
 pG v5 false (fun k => k room0 w) (w := w) (next := fun v7 w =>
 pG v5 false (fun k => px prog (binSem .gtr 3 (.tmp 7) (.const (.int .i64 1048576)) v7 (.int .i64 1048576)) w k) (w := w) (next := fun v8 w =>
 px prog (pickSem v5 (.bool true) v8) w fun v9 w =>
 pC v9 (
 k (.tuple #[(.pointer none),(.int .i64 1)]) w)
 (
 px prog (Instr.build 62 #[(0,(.bool true)),(1,room0)]) w fun v11 w =>
 px prog (Instr.box 62 v11) w fun v12 w =>
 k (.tuple #[v12,(.int .i64 0)]) w)))
theorem F53_0_eq (room0:Value) (w:World) (k:KV) : F53A k [] (argEnv [room0]) w = F53_0 room0 w k := by kernel_rfl
theorem F53_in (room0:Value) (w:World) (k:KV) (h:F53_0 room0 w k) : pFn prog 53 [room0] w k :=
 pFn_of_at mixed func53 (by kernel_rfl) (by kernel_rfl) ntmps53 (by kernel_rfl) (by kernel_rfl) (by simp) ((F53_0_eq room0 w k).mpr h)
noncomputable def F61B : Code := bodyOf f61
def F61A (k:KV) (q:List Nat) (ρ:Env) (w:World) : Prop := At prog 64 F61B (retQ prog f61.results.toList k) q ρ w
def F61_0 (d0:Value) (name1:Value) (w:World) (k:KV) : Prop :=
 pFn prog 74 [d0] w fun v9 w =>
 pC v9 (
 k (.int .i64 50) w)
 (
 pFn prog 99 [name1] w fun v11 w =>
 px prog (Op.unary .not v11) w fun v12 w =>
 pC v12 (
 k (.int .i64 51) w)
 (
 px prog (nilSem d0) w fun v14 w =>
 px prog (fieldAt 62 v14 2) w fun v15 w =>
 px prog (loadAt 59 v15) w fun v16 w =>
 pFn prog 100 [v16,name1] w fun v18 w =>
 px prog (binSem .geq 3 (.tmp 18) (.const (.int .i64 0)) v18 (.int .i64 0)) w fun v19 w =>
 pC v19 (
 k (.int .i64 52) w)
 (
 pFn prog 111 [d0] w fun v22 w =>
 px prog (extract v22 0) w fun v23 w =>
 px prog (extract v22 1) w fun v24 w =>
 px prog (nilSem d0) w fun v26 w =>
 px prog (fieldAt 62 v26 2) w fun v27 w =>
 px prog (loadAt 59 v27) w fun v28 w =>
 px prog (bSem .len #[59] 3 #[v28]) w fun v29 w =>
 px prog (binSem .geq 3 (.tmp 29) (.const (.int .i64 256)) v29 (.int .i64 256)) w fun v30 w =>
 pC v30 (
 pFn prog 112 [d0,v24,(.int .i64 56)] w fun v33 w =>
 k v33 w)
 (
 pC v23 (
 pFn prog 112 [d0,v24,(.int .i64 55)] w fun v37 w =>
 k v37 w)
 (
 px prog (Instr.build 156 #[]) w fun v39 w =>
 px prog (Instr.box 156 v39) w fun v40 w =>
 px prog (Instr.build 146 #[(0,(.int .i64 1)),(1,name1),(3,v40)]) w fun v41 w =>
 px prog (Instr.alloc 146 true (.tuple #[])) w fun v7 w =>
 pu prog (storeAt 146 v7 v41) w fun w =>
 ∃ S : World → Prop,S w.drew ∧ (fun w =>
 pq prog S (nilSem d0) fun v44 =>
 pq prog S (fieldAt 62 v44 2) fun v45 =>
 pq prog S (loadAt 59 v45) fun v46 =>
 pq prog S (loadAt 146 v7) fun v47 =>
 pFn prog 113 [v46,v47] w fun v48 w => S w ∧ (
 pq prog S (nilSem d0) fun v49 =>
 pq prog S (fieldAt 62 v49 2) fun v50 =>
 pu prog (storeAt 59 v50 v48) w fun w => (
 ∃ S : World → Prop,S w.drew ∧ (fun w =>
 pq prog S (nilSem d0) fun v53 =>
 pq prog S (fieldAt 62 v53 4) fun v54 =>
 pq prog S (loadAt 60 v54) fun v55 =>
 pq prog S (loadAt 146 v7) fun v56 =>
 px prog (Instr.buildSlice 60 1 #[(0,v56)]) w fun v57 w => S w ∧ (
 px prog (bSem .append #[60,60] 60 #[v55,v57]) w fun v58 w => S w ∧ (
 pq prog S (nilSem d0) fun v59 =>
 pq prog S (fieldAt 62 v59 4) fun v60 =>
 pu prog (storeAt 60 v60 v58) w fun w => (
 pFn prog 112 [d0,v24,(.int .i64 0)] w fun v63 w =>
 k v63 w)))) w.drew))) w.drew)))))
theorem F61_0_eq (d0:Value) (name1:Value) (w:World) (k:KV) : F61A k [] (argEnv [d0,name1]) w = F61_0 d0 name1 w k := by kernel_rfl
theorem F61_in (d0:Value) (name1:Value) (w:World) (k:KV) (h:F61_0 d0 name1 w k) : pFn prog 61 [d0,name1] w k :=
 pFn_of_at mixed func61 (by kernel_rfl) (by kernel_rfl) ntmps61 (by kernel_rfl) (by kernel_rfl) (by simp) ((F61_0_eq d0 name1 w k).mpr h)
noncomputable def F64B : Code := bodyOf f64
def F64A (k:KV) (q:List Nat) (ρ:Env) (w:World) : Prop := At prog 106 F64B (retQ prog f64.results.toList k) q ρ w
def F64_0 (d0:Value) (name1:Value) (at2:Value) (data3:Value) (w:World) (k:KV) : Prop :=
 pFn prog 93 [d0,name1] w fun v19 w =>
 px prog (extract v19 0) w fun v20 w =>
 px prog (extract v19 1) w fun v21 w =>
 px prog (binSem .neq 3 (.tmp 22) (.const (.int .i64 0)) v21 (.int .i64 0)) w fun v23 w =>
 pC v23 (
 k v21 w)
 (
 px prog (nilSem d0) w fun v26 w =>
 px prog (fieldAt 62 v26 2) w fun v27 w =>
 px prog (loadAt 59 v27) w fun v28 w =>
 px prog (indexAt 59 v28 v20) w fun v30 w =>
 px prog (fieldAt 144 v30 1) w fun v31 w =>
 px prog (loadAt 142 v31) w fun v32 w =>
 px prog (binSem .lss 3 (.tmp 33) (.const (.int .i64 0)) at2 (.int .i64 0)) w fun v34 w =>
 pG v34 false (fun k => k at2 w) (w := w) (next := fun v36 w =>
 pG v34 false (fun k => k v32 w) (w := w) (next := fun v37 w =>
 pG v34 false (fun k => px prog (nilSem v37) w k) (w := w) (next := fun v38 w =>
 pG v34 false (fun k => px prog (fieldAt 156 v38 1) w k) (w := w) (next := fun v39 w =>
 pG v34 false (fun k => px prog (loadAt 36 v39) w k) (w := w) (next := fun v40 w =>
 pG v34 false (fun k => px prog (bSem .len #[36] 3 #[v40]) w k) (w := w) (next := fun v41 w =>
 pG v34 false (fun k => px prog (binSem .gtr 3 (.tmp 36) (.tmp 41) v36 v41) w k) (w := w) (next := fun v42 w =>
 px prog (pickSem v34 (.bool true) v42) w fun v43 w =>
 pC v43 (
 k (.int .i64 54) w)
 (
 pFn prog 111 [d0] w fun v46 w =>
 px prog (extract v46 0) w fun v47 w =>
 px prog (extract v46 1) w fun v48 w =>
 px prog (bSem .len #[36] 3 #[data3]) w fun v51 w =>
 px prog (binSem .add 3 (.tmp 49) (.tmp 51) at2 v51) w fun v52 w =>
 px prog (nilSem v32) w fun v54 w =>
 px prog (fieldAt 156 v54 1) w fun v55 w =>
 px prog (loadAt 36 v55) w fun v56 w =>
 px prog (bSem .len #[36] 3 #[v56]) w fun v57 w =>
 px prog (binSem .sub 3 (.tmp 52) (.tmp 57) v52 v57) w fun v58 w =>
 ∃ S : World → Prop,S w.drew ∧ (fun w =>
 pGq v47 false (fun k => k v58) (next := fun v61 =>
 pGq v47 false (fun k => pq prog S (binSem .gtr 3 (.tmp 61) (.const (.int .i64 0)) v61 (.int .i64 0)) k) (next := fun v62 =>
 pGq v47 false (fun k => k v62) (next := fun v63 =>
 pGq v63 true (fun k => k d0) (next := fun v64 =>
 pGq v63 true (fun k => k v58) (next := fun v66 =>
 pGq v63 true (fun k => k d0) (next := fun v68 =>
 pGq v63 true (fun k => pq prog S (nilSem v68) k) (next := fun v69 =>
 pGq v63 true (fun k => pq prog S (fieldAt 62 v69 1) k) (next := fun v70 =>
 pGq v63 true (fun k => pq prog S (loadAt 3 v70) k) (next := fun v71 =>
 pG v63 true (fun k => pFn prog 76 [v64] w k) (w := w) (next := fun v65 w => S w ∧ (
 pGq v63 true (fun k => pq prog S (binSem .add 3 (.tmp 65) (.tmp 66) v65 v66) k) (next := fun v67 =>
 pGq v63 true (fun k => pq prog S (binSem .gtr 3 (.tmp 67) (.tmp 71) v67 v71) k) (next := fun v72 =>
 pGq v47 false (fun k => pq prog S (pickSem v63 v72 (.bool false)) k) (next := fun v73 =>
 pq prog S (pickSem v47 (.bool true) v73) fun v74 =>
 pC v74 (
 pFn prog 112 [d0,v48,(.int .i64 55)] w fun v77 w =>
 k v77 w)
 (
 pFn prog 94 [data3] w fun v80 w =>
 px prog (Instr.build 186 #[(1,at2),(2,v80)]) w fun v81 w =>
 px prog (Instr.alloc 186 true (.tuple #[])) w fun v15 w =>
 pu prog (storeAt 186 v15 v81) w fun w =>
 ∃ S : World → Prop,S w.drew ∧ (fun w =>
 pq prog S (nilSem v32) fun v84 =>
 pq prog S (fieldAt 156 v84 1) fun v85 =>
 pq prog S (loadAt 36 v85) fun v86 =>
 pq prog S (loadAt 186 v15) fun v87 =>
 pq prog S (bSem .len #[36] 3 #[data3]) fun v89 =>
 pFn prog 116 [v86,v87,v89] w fun v90 w => S w ∧ (
 pq prog S (nilSem v32) fun v91 =>
 pq prog S (fieldAt 156 v91 1) fun v92 =>
 pu prog (storeAt 36 v92 v90) w fun w => (
 ∃ S : World → Prop,S w.drew ∧ (fun w =>
 pq prog S (nilSem v32) fun v95 =>
 pq prog S (fieldAt 156 v95 2) fun v96 =>
 pq prog S (loadAt 154 v96) fun v97 =>
 pq prog S (loadAt 186 v15) fun v98 =>
 px prog (Instr.buildSlice 154 1 #[(0,v98)]) w fun v99 w => S w ∧ (
 px prog (bSem .append #[154,154] 154 #[v97,v99]) w fun v100 w => S w ∧ (
 pq prog S (nilSem v32) fun v101 =>
 pq prog S (fieldAt 156 v101 2) fun v102 =>
 pu prog (storeAt 154 v102 v100) w fun w => (
 pFn prog 112 [d0,v48,(.int .i64 0)] w fun v105 w =>
 k v105 w)))) w.drew))) w.drew)))))))))))))))) w.drew)))))))))
theorem F64_0_eq (d0:Value) (name1:Value) (at2:Value) (data3:Value) (w:World) (k:KV) : F64A k [] (argEnv [d0,name1,at2,data3]) w = F64_0 d0 name1 at2 data3 w k := by kernel_rfl
theorem F64_in (d0:Value) (name1:Value) (at2:Value) (data3:Value) (w:World) (k:KV) (h:F64_0 d0 name1 at2 data3 w k) : pFn prog 64 [d0,name1,at2,data3] w k :=
 pFn_of_at mixed func64 (by kernel_rfl) (by kernel_rfl) ntmps64 (by kernel_rfl) (by kernel_rfl) (by simp) ((F64_0_eq d0 name1 at2 data3 w k).mpr h)
noncomputable def F66B : Code := bodyOf f66
def F66A (k:KV) (q:List Nat) (ρ:Env) (w:World) : Prop := At prog 34 F66B (retQ prog f66.results.toList k) q ρ w
def F66_0 (d0:Value) (name1:Value) (data2:Value) (w:World) (k:KV) : Prop :=
 pFn prog 93 [d0,name1] w fun v12 w =>
 px prog (extract v12 0) w fun v13 w =>
 px prog (extract v12 1) w fun v14 w =>
 px prog (binSem .neq 3 (.tmp 15) (.const (.int .i64 0)) v14 (.int .i64 0)) w fun v16 w =>
 pC v16 (
 k v14 w)
 (
 px prog (nilSem d0) w fun v21 w =>
 px prog (fieldAt 62 v21 2) w fun v22 w =>
 px prog (loadAt 59 v22) w fun v23 w =>
 px prog (indexAt 59 v23 v13) w fun v25 w =>
 px prog (fieldAt 144 v25 1) w fun v26 w =>
 px prog (loadAt 142 v26) w fun v27 w =>
 px prog (nilSem v27) w fun v28 w =>
 px prog (fieldAt 156 v28 1) w fun v29 w =>
 px prog (loadAt 36 v29) w fun v30 w =>
 px prog (bSem .len #[36] 3 #[v30]) w fun v31 w =>
 pFn prog 64 [d0,name1,v31,data2] w fun v33 w =>
 k v33 w)
theorem F66_0_eq (d0:Value) (name1:Value) (data2:Value) (w:World) (k:KV) : F66A k [] (argEnv [d0,name1,data2]) w = F66_0 d0 name1 data2 w k := by kernel_rfl
theorem F66_in (d0:Value) (name1:Value) (data2:Value) (w:World) (k:KV) (h:F66_0 d0 name1 data2 w k) : pFn prog 66 [d0,name1,data2] w k :=
 pFn_of_at mixed func66 (by kernel_rfl) (by kernel_rfl) ntmps66 (by kernel_rfl) (by kernel_rfl) (by simp) ((F66_0_eq d0 name1 data2 w k).mpr h)
noncomputable def F68B : Code := bodyOf f68
def F68A (k:KV) (q:List Nat) (ρ:Env) (w:World) : Prop := At prog 70 F68B (retQ prog f68.results.toList k) q ρ w
def F68_0 (d0:Value) (name1:Value) (n2:Value) (w:World) (k:KV) : Prop :=
 pFn prog 93 [d0,name1] w fun v16 w =>
 px prog (extract v16 0) w fun v17 w =>
 px prog (extract v16 1) w fun v18 w =>
 px prog (binSem .neq 3 (.tmp 19) (.const (.int .i64 0)) v18 (.int .i64 0)) w fun v20 w =>
 pC v20 (
 k v18 w)
 (
 px prog (nilSem d0) w fun v23 w =>
 px prog (fieldAt 62 v23 2) w fun v24 w =>
 px prog (loadAt 59 v24) w fun v25 w =>
 px prog (indexAt 59 v25 v17) w fun v27 w =>
 px prog (fieldAt 144 v27 1) w fun v28 w =>
 px prog (loadAt 142 v28) w fun v29 w =>
 px prog (binSem .lss 3 (.tmp 30) (.const (.int .i64 0)) n2 (.int .i64 0)) w fun v31 w =>
 pG v31 false (fun k => k n2 w) (w := w) (next := fun v33 w =>
 pG v31 false (fun k => k v29 w) (w := w) (next := fun v34 w =>
 pG v31 false (fun k => px prog (nilSem v34) w k) (w := w) (next := fun v35 w =>
 pG v31 false (fun k => px prog (fieldAt 156 v35 1) w k) (w := w) (next := fun v36 w =>
 pG v31 false (fun k => px prog (loadAt 36 v36) w k) (w := w) (next := fun v37 w =>
 pG v31 false (fun k => px prog (bSem .len #[36] 3 #[v37]) w k) (w := w) (next := fun v38 w =>
 pG v31 false (fun k => px prog (binSem .gtr 3 (.tmp 33) (.tmp 38) v33 v38) w k) (w := w) (next := fun v39 w =>
 px prog (pickSem v31 (.bool true) v39) w fun v40 w =>
 pC v40 (
 k (.int .i64 54) w)
 (
 pFn prog 111 [d0] w fun v43 w =>
 px prog (extract v43 0) w fun v44 w =>
 px prog (extract v43 1) w fun v45 w =>
 px prog (Instr.build 186 #[(0,(.bool true)),(1,n2)]) w fun v47 w =>
 px prog (Instr.alloc 186 true (.tuple #[])) w fun v12 w =>
 pu prog (storeAt 186 v12 v47) w fun w =>
 ∃ S : World → Prop,S w.drew ∧ (fun w =>
 pq prog S (nilSem v29) fun v50 =>
 pq prog S (fieldAt 156 v50 1) fun v51 =>
 pq prog S (loadAt 36 v51) fun v52 =>
 pq prog S (loadAt 186 v12) fun v53 =>
 pFn prog 116 [v52,v53,(.int .i64 1)] w fun v54 w => S w ∧ (
 pq prog S (nilSem v29) fun v55 =>
 pq prog S (fieldAt 156 v55 1) fun v56 =>
 pu prog (storeAt 36 v56 v54) w fun w => (
 ∃ S : World → Prop,S w.drew ∧ (fun w =>
 pq prog S (nilSem v29) fun v59 =>
 pq prog S (fieldAt 156 v59 2) fun v60 =>
 pq prog S (loadAt 154 v60) fun v61 =>
 pq prog S (loadAt 186 v12) fun v62 =>
 px prog (Instr.buildSlice 154 1 #[(0,v62)]) w fun v63 w => S w ∧ (
 px prog (bSem .append #[154,154] 154 #[v61,v63]) w fun v64 w => S w ∧ (
 pq prog S (nilSem v29) fun v65 =>
 pq prog S (fieldAt 156 v65 2) fun v66 =>
 pu prog (storeAt 154 v66 v64) w fun w => (
 pFn prog 112 [d0,v45,(.int .i64 0)] w fun v69 w =>
 k v69 w)))) w.drew))) w.drew)))))))))
theorem F68_0_eq (d0:Value) (name1:Value) (n2:Value) (w:World) (k:KV) : F68A k [] (argEnv [d0,name1,n2]) w = F68_0 d0 name1 n2 w k := by kernel_rfl
theorem F68_in (d0:Value) (name1:Value) (n2:Value) (w:World) (k:KV) (h:F68_0 d0 name1 n2 w k) : pFn prog 68 [d0,name1,n2] w k :=
 pFn_of_at mixed func68 (by kernel_rfl) (by kernel_rfl) ntmps68 (by kernel_rfl) (by kernel_rfl) (by simp) ((F68_0_eq d0 name1 n2 w k).mpr h)
noncomputable def F69B : Code := bodyOf f69
def F69A (k:KV) (q:List Nat) (ρ:Env) (w:World) : Prop := At prog 60 F69B (retQ prog f69.results.toList k) q ρ w
def F69_0 (d0:Value) (from1:Value) (to2:Value) (w:World) (k:KV) : Prop :=
 pFn prog 74 [d0] w fun v11 w =>
 pC v11 (
 k (.int .i64 50) w)
 (
 pFn prog 99 [from1] w fun v13 w =>
 px prog (Op.unary .not v13) w fun v14 w =>
 pG v14 false (fun k => k to2 w) (w := w) (next := fun v16 w =>
 pG v14 false (fun k => pFn prog 99 [v16] w k) (w := w) (next := fun v17 w =>
 pG v14 false (fun k => px prog (Op.unary .not v17) w k) (w := w) (next := fun v18 w =>
 px prog (pickSem v14 (.bool true) v18) w fun v19 w =>
 pC v19 (
 k (.int .i64 51) w)
 (
 px prog (nilSem d0) w fun v21 w =>
 px prog (fieldAt 62 v21 2) w fun v22 w =>
 px prog (loadAt 59 v22) w fun v23 w =>
 pFn prog 100 [v23,from1] w fun v25 w =>
 px prog (binSem .lss 3 (.tmp 25) (.const (.int .i64 0)) v25 (.int .i64 0)) w fun v26 w =>
 pC v26 (
 k (.int .i64 53) w)
 (
 pFn prog 111 [d0] w fun v29 w =>
 px prog (extract v29 0) w fun v30 w =>
 px prog (extract v29 1) w fun v31 w =>
 px prog (binSem .neq 9 (.tmp 32) (.tmp 33) from1 to2) w fun v34 w =>
 pC v34 (
 px prog (Instr.build 146 #[(0,(.int .i64 2)),(1,from1),(2,to2)]) w fun v37 w =>
 px prog (Instr.alloc 146 true (.tuple #[])) w fun v9 w =>
 pu prog (storeAt 146 v9 v37) w fun w =>
 ∃ S : World → Prop,S w.drew ∧ (fun w =>
 pq prog S (nilSem d0) fun v40 =>
 pq prog S (fieldAt 62 v40 2) fun v41 =>
 pq prog S (loadAt 59 v41) fun v42 =>
 pq prog S (loadAt 146 v9) fun v43 =>
 pFn prog 113 [v42,v43] w fun v44 w => S w ∧ (
 pq prog S (nilSem d0) fun v45 =>
 pq prog S (fieldAt 62 v45 2) fun v46 =>
 pu prog (storeAt 59 v46 v44) w fun w => (
 ∃ S : World → Prop,S w.drew ∧ (fun w =>
 pq prog S (nilSem d0) fun v49 =>
 pq prog S (fieldAt 62 v49 4) fun v50 =>
 pq prog S (loadAt 60 v50) fun v51 =>
 pq prog S (loadAt 146 v9) fun v52 =>
 px prog (Instr.buildSlice 60 1 #[(0,v52)]) w fun v53 w => S w ∧ (
 px prog (bSem .append #[60,60] 60 #[v51,v53]) w fun v54 w => S w ∧ (
 pq prog S (nilSem d0) fun v55 =>
 pq prog S (fieldAt 62 v55 4) fun v56 =>
 pu prog (storeAt 60 v56 v54) w fun w => (
 F69A k [1,1,1,1,1,1] (put (put (put (put (put (put (put (put (put (put (put (put (put (put (put (put (put (put (put (put (put (put (put (put (put (put (put (put (put (put (put (put (put (put (put (put (put (put (put (put (put (put (put (put (put (put (put (put (put (put (put (argEnv [d0,from1,to2]) 6 (.int .i64 0)) 10 d0) 11 v11) 12 from1) 13 v13) 14 v14) 15 v14) 16 v16) 17 v17) 18 v18) 19 v19) 20 d0) 21 v21) 22 v22) 23 v23) 24 from1) 25 v25) 26 v26) 28 d0) 29 v29) 27 v29) 30 v30) 31 v31) 7 v30) 8 v31) 32 from1) 33 to2) 34 v34) 35 from1) 36 to2) 37 v37) 9 v9) 38 d0) 39 d0) 40 v40) 41 v41) 42 v42) 43 v43) 44 v44) 45 v45) 46 v46) 47 d0) 48 d0) 49 v49) 50 v50) 51 v51) 52 v52) 53 v53) 54 v54) 55 v55) 56 v56) w)))) w.drew))) w.drew)
 (
 F69A k [1,1,1,1,1,1] (put (put (put (put (put (put (put (put (put (put (put (put (put (put (put (put (put (put (put (put (put (put (put (put (put (put (put (put (argEnv [d0,from1,to2]) 6 (.int .i64 0)) 10 d0) 11 v11) 12 from1) 13 v13) 14 v14) 15 v14) 16 v16) 17 v17) 18 v18) 19 v19) 20 d0) 21 v21) 22 v22) 23 v23) 24 from1) 25 v25) 26 v26) 28 d0) 29 v29) 27 v29) 30 v30) 31 v31) 7 v30) 8 v31) 32 from1) 33 to2) 34 v34) w)))))))
theorem F69_0_eq (d0:Value) (from1:Value) (to2:Value) (w:World) (k:KV) : F69A k [] (argEnv [d0,from1,to2]) w = F69_0 d0 from1 to2 w k := by kernel_rfl
def F69_1 (k:KV) (ρ:Env) (w:World) : Prop :=
 pFn prog 112 [(ρ 0),(ρ 8),(.int .i64 0)] w fun v59 w =>
 k v59 w
theorem F69_1_eq (k:KV) (ρ:Env) (w:World) : F69A k [1,1,1,1,1,1] ρ w = F69_1 k ρ w := by kernel_rfl
theorem F69_in (d0:Value) (from1:Value) (to2:Value) (w:World) (k:KV) (h:F69_0 d0 from1 to2 w k) : pFn prog 69 [d0,from1,to2] w k :=
 pFn_of_at mixed func69 (by kernel_rfl) (by kernel_rfl) ntmps69 (by kernel_rfl) (by kernel_rfl) (by simp) ((F69_0_eq d0 from1 to2 w k).mpr h)
noncomputable def F70B : Code := bodyOf f70
def F70A (k:KV) (q:List Nat) (ρ:Env) (w:World) : Prop := At prog 48 F70B (retQ prog f70.results.toList k) q ρ w
def F70_0 (d0:Value) (name1:Value) (w:World) (k:KV) : Prop :=
 pFn prog 93 [d0,name1] w fun v13 w =>
 px prog (extract v13 0) w fun v14 w =>
 px prog (extract v13 1) w fun v15 w =>
 px prog (binSem .neq 3 (.tmp 16) (.const (.int .i64 0)) v15 (.int .i64 0)) w fun v17 w =>
 pC v17 (
 k v15 w)
 (
 pFn prog 111 [d0] w fun v21 w =>
 px prog (extract v21 0) w fun v22 w =>
 px prog (extract v21 1) w fun v23 w =>
 px prog (Instr.build 146 #[(0,(.int .i64 3)),(1,name1)]) w fun v25 w =>
 px prog (Instr.alloc 146 true (.tuple #[])) w fun v9 w =>
 pu prog (storeAt 146 v9 v25) w fun w =>
 ∃ S : World → Prop,S w.drew ∧ (fun w =>
 pq prog S (nilSem d0) fun v28 =>
 pq prog S (fieldAt 62 v28 2) fun v29 =>
 pq prog S (loadAt 59 v29) fun v30 =>
 pq prog S (loadAt 146 v9) fun v31 =>
 pFn prog 113 [v30,v31] w fun v32 w => S w ∧ (
 pq prog S (nilSem d0) fun v33 =>
 pq prog S (fieldAt 62 v33 2) fun v34 =>
 pu prog (storeAt 59 v34 v32) w fun w => (
 ∃ S : World → Prop,S w.drew ∧ (fun w =>
 pq prog S (nilSem d0) fun v37 =>
 pq prog S (fieldAt 62 v37 4) fun v38 =>
 pq prog S (loadAt 60 v38) fun v39 =>
 pq prog S (loadAt 146 v9) fun v40 =>
 px prog (Instr.buildSlice 60 1 #[(0,v40)]) w fun v41 w => S w ∧ (
 px prog (bSem .append #[60,60] 60 #[v39,v41]) w fun v42 w => S w ∧ (
 pq prog S (nilSem d0) fun v43 =>
 pq prog S (fieldAt 62 v43 4) fun v44 =>
 pu prog (storeAt 60 v44 v42) w fun w => (
 pFn prog 112 [d0,v23,(.int .i64 0)] w fun v47 w =>
 k v47 w)))) w.drew))) w.drew)
theorem F70_0_eq (d0:Value) (name1:Value) (w:World) (k:KV) : F70A k [] (argEnv [d0,name1]) w = F70_0 d0 name1 w k := by kernel_rfl
theorem F70_in (d0:Value) (name1:Value) (w:World) (k:KV) (h:F70_0 d0 name1 w k) : pFn prog 70 [d0,name1] w k :=
 pFn_of_at mixed func70 (by kernel_rfl) (by kernel_rfl) ntmps70 (by kernel_rfl) (by kernel_rfl) (by simp) ((F70_0_eq d0 name1 w k).mpr h)
noncomputable def F71B : Code := bodyOf f71
def F71A (k:KV) (q:List Nat) (ρ:Env) (w:World) : Prop := At prog 48 F71B (retQ prog f71.results.toList k) q ρ w
def F71_0 (d0:Value) (name1:Value) (w:World) (k:KV) : Prop :=
 pFn prog 93 [d0,name1] w fun v13 w =>
 px prog (extract v13 0) w fun v14 w =>
 px prog (extract v13 1) w fun v15 w =>
 px prog (binSem .neq 3 (.tmp 16) (.const (.int .i64 0)) v15 (.int .i64 0)) w fun v17 w =>
 pC v17 (
 k v15 w)
 (
 pFn prog 111 [d0] w fun v21 w =>
 px prog (extract v21 0) w fun v22 w =>
 px prog (extract v21 1) w fun v23 w =>
 px prog (Op.unary .not v23) w fun v25 w =>
 pC v25 (
 px prog (nilSem d0) w fun v27 w =>
 px prog (fieldAt 62 v27 2) w fun v28 w =>
 px prog (loadAt 59 v28) w fun v29 w =>
 px prog (indexAt 59 v29 v14) w fun v31 w =>
 px prog (fieldAt 144 v31 1) w fun v32 w =>
 px prog (loadAt 142 v32) w fun v33 w =>
 px prog (nilSem v33) w fun v36 w =>
 px prog (fieldAt 156 v36 1) w fun v37 w =>
 px prog (loadAt 36 v37) w fun v38 w =>
 pFn prog 94 [v38] w fun v39 w =>
 px prog (nilSem v33) w fun v40 w =>
 px prog (fieldAt 156 v40 0) w fun v41 w =>
 pu prog (storeAt 36 v41 v39) w fun w =>
 px prog (nilSem v33) w fun v43 w =>
 px prog (fieldAt 156 v43 2) w fun v44 w =>
 pu prog (storeAt 154 v44 (.slice none 0 0)) w fun w =>
 F71A k [1,1,1,1,1] (put (put (put (put (put (put (put (put (put (put (put (put (put (put (put (put (put (put (put (put (put (put (put (put (put (put (put (put (put (put (put (put (put (put (put (put (put (put (put (put (argEnv [d0,name1]) 4 (.int .i64 0)) 11 d0) 12 name1) 13 v13) 10 v13) 14 v14) 15 v15) 5 v14) 6 v15) 16 v15) 17 v17) 20 d0) 21 v21) 19 v21) 22 v22) 23 v23) 7 v22) 8 v23) 24 v23) 25 v25) 26 d0) 27 v27) 28 v28) 29 v29) 30 v14) 31 v31) 32 v32) 33 v33) 9 v33) 34 v33) 35 v33) 36 v36) 37 v37) 38 v38) 39 v39) 40 v40) 41 v41) 42 v33) 43 v43) 44 v44) w)
 (
 F71A k [1,1,1,1,1] (put (put (put (put (put (put (put (put (put (put (put (put (put (put (put (put (put (put (put (put (argEnv [d0,name1]) 4 (.int .i64 0)) 11 d0) 12 name1) 13 v13) 10 v13) 14 v14) 15 v15) 5 v14) 6 v15) 16 v15) 17 v17) 20 d0) 21 v21) 19 v21) 22 v22) 23 v23) 7 v22) 8 v23) 24 v23) 25 v25) w))
theorem F71_0_eq (d0:Value) (name1:Value) (w:World) (k:KV) : F71A k [] (argEnv [d0,name1]) w = F71_0 d0 name1 w k := by kernel_rfl
def F71_1 (k:KV) (ρ:Env) (w:World) : Prop :=
 pFn prog 112 [(ρ 0),(ρ 8),(.int .i64 0)] w fun v47 w =>
 k v47 w
theorem F71_1_eq (k:KV) (ρ:Env) (w:World) : F71A k [1,1,1,1,1] ρ w = F71_1 k ρ w := by kernel_rfl
theorem F71_in (d0:Value) (name1:Value) (w:World) (k:KV) (h:F71_0 d0 name1 w k) : pFn prog 71 [d0,name1] w k :=
 pFn_of_at mixed func71 (by kernel_rfl) (by kernel_rfl) ntmps71 (by kernel_rfl) (by kernel_rfl) (by simp) ((F71_0_eq d0 name1 w k).mpr h)
noncomputable def F72B : Code := bodyOf f72
def F72A (k:KV) (q:List Nat) (ρ:Env) (w:World) : Prop := At prog 27 F72B (retQ prog f72.results.toList k) q ρ w
def F72_0 (d0:Value) (w:World) (k:KV) : Prop :=
 pFn prog 74 [d0] w fun v6 w =>
 pC v6 (
 k (.int .i64 50) w)
 (
 pFn prog 111 [d0] w fun v9 w =>
 px prog (extract v9 0) w fun v10 w =>
 px prog (extract v9 1) w fun v11 w =>
 px prog (Op.unary .not v11) w fun v13 w =>
 pC v13 (
 px prog (nilSem d0) w fun v16 w =>
 px prog (fieldAt 62 v16 2) w fun v17 w =>
 px prog (loadAt 59 v17) w fun v18 w =>
 px prog (nilSem d0) w fun v19 w =>
 px prog (fieldAt 62 v19 3) w fun v20 w =>
 pu prog (storeAt 59 v20 v18) w fun w =>
 px prog (nilSem d0) w fun v22 w =>
 px prog (fieldAt 62 v22 4) w fun v23 w =>
 pu prog (storeAt 60 v23 (.slice none 0 0)) w fun w =>
 F72A k [1,1,1,1] (put (put (put (put (put (put (put (put (put (put (put (put (put (put (put (put (put (put (put (put (put (put (argEnv [d0]) 2 (.int .i64 0)) 5 d0) 6 v6) 8 d0) 9 v9) 7 v9) 10 v10) 11 v11) 3 v10) 4 v11) 12 v11) 13 v13) 14 d0) 15 d0) 16 v16) 17 v17) 18 v18) 19 v19) 20 v20) 21 d0) 22 v22) 23 v23) w)
 (
 F72A k [1,1,1,1] (put (put (put (put (put (put (put (put (put (put (put (put (argEnv [d0]) 2 (.int .i64 0)) 5 d0) 6 v6) 8 d0) 9 v9) 7 v9) 10 v10) 11 v11) 3 v10) 4 v11) 12 v11) 13 v13) w))
theorem F72_0_eq (d0:Value) (w:World) (k:KV) : F72A k [] (argEnv [d0]) w = F72_0 d0 w k := by kernel_rfl
def F72_1 (k:KV) (ρ:Env) (w:World) : Prop :=
 pFn prog 112 [(ρ 0),(ρ 4),(.int .i64 0)] w fun v26 w =>
 k v26 w
theorem F72_1_eq (k:KV) (ρ:Env) (w:World) : F72A k [1,1,1,1] ρ w = F72_1 k ρ w := by kernel_rfl
theorem F72_in (d0:Value) (w:World) (k:KV) (h:F72_0 d0 w k) : pFn prog 72 [d0] w k :=
 pFn_of_at mixed func72 (by kernel_rfl) (by kernel_rfl) ntmps72 (by kernel_rfl) (by kernel_rfl) (by simp) ((F72_0_eq d0 w k).mpr h)
noncomputable def F74B : Code := bodyOf f74
def F74A (k:KV) (q:List Nat) (ρ:Env) (w:World) : Prop := At prog 12 F74B (retQ prog f74.results.toList k) q ρ w
def F74_0 (d0:Value) (w:World) (k:KV) : Prop :=
 px prog (binSem .eql 30 (.tmp 3) (.const (.pointer none)) d0 (.pointer none)) w fun v4 w =>
 pG v4 false (fun k => k d0 w) (w := w) (next := fun v6 w =>
 pG v4 false (fun k => px prog (nilSem v6) w k) (w := w) (next := fun v7 w =>
 pG v4 false (fun k => px prog (fieldAt 62 v7 0) w k) (w := w) (next := fun v8 w =>
 pG v4 false (fun k => px prog (loadAt 4 v8) w k) (w := w) (next := fun v9 w =>
 pG v4 false (fun k => px prog (Op.unary .not v9) w k) (w := w) (next := fun v10 w =>
 px prog (pickSem v4 (.bool true) v10) w fun v11 w =>
 k v11 w)))))
theorem F74_0_eq (d0:Value) (w:World) (k:KV) : F74A k [] (argEnv [d0]) w = F74_0 d0 w k := by kernel_rfl
theorem F74_in (d0:Value) (w:World) (k:KV) (h:F74_0 d0 w k) : pFn prog 74 [d0] w k :=
 pFn_of_at mixed func74 (by kernel_rfl) (by kernel_rfl) ntmps74 (by kernel_rfl) (by kernel_rfl) (by simp) ((F74_0_eq d0 w k).mpr h)
noncomputable def F75B : Code := bodyOf f75
def F75A (k:KV) (q:List Nat) (ρ:Env) (w:World) : Prop := At prog 9 F75B (retQ prog f75.results.toList k) q ρ w
def F75_0 (d0:Value) (w:World) (k:KV) : Prop :=
 px prog (binSem .eql 30 (.tmp 3) (.const (.pointer none)) d0 (.pointer none)) w fun v4 w =>
 pC v4 (
 k (.int .i64 0) w)
 (
 px prog (nilSem d0) w fun v6 w =>
 px prog (fieldAt 62 v6 5) w fun v7 w =>
 px prog (loadAt 3 v7) w fun v8 w =>
 k v8 w)
theorem F75_0_eq (d0:Value) (w:World) (k:KV) : F75A k [] (argEnv [d0]) w = F75_0 d0 w k := by kernel_rfl
theorem F75_in (d0:Value) (w:World) (k:KV) (h:F75_0 d0 w k) : pFn prog 75 [d0] w k :=
 pFn_of_at mixed func75 (by kernel_rfl) (by kernel_rfl) ntmps75 (by kernel_rfl) (by kernel_rfl) (by simp) ((F75_0_eq d0 w k).mpr h)
noncomputable def F76B : Code := bodyOf f76
def F76A (k:KV) (q:List Nat) (ρ:Env) (w:World) : Prop := At prog 31 F76B (retQ prog f76.results.toList k) q ρ w
noncomputable def F76B1 : Code := sub F76B [1,1,1,0,1,0,0]
def F76Q1 (k:KV) (N1:KE) : Xt → KE := thenE N1 (contAt prog 31 F76B (retQ prog f76.results.toList k) [1,1,1,0,1,0])
def F76A1 (k:KV) (N1:KE) (q:List Nat) (ρ:Env) (w:World) : Prop := At prog 31 F76B1 (F76Q1 k N1) q ρ w
def F76L1 (k:KV) (ρ:Env) (w:World) : Prop := LoopAt prog 31 F76B (retQ prog f76.results.toList k) [1,1,1,0,1,0] ρ w
theorem F76L1_inv (k:KV) (I:Nat → KE) (round:∀ m ρ w,I m ρ w → F76A1 k (fun ρ' w' => ∃ m',m' < m ∧ I m' ρ' w') [] ρ w) {m:Nat} {ρ:Env} {w:World} (h:I m ρ w) : F76L1 k ρ w :=
 LoopAt_inv mixed (B := F76B) (Q := (retQ prog f76.results.toList k)) (p := [1,1,1,0,1,0]) (by kernel_rfl) (by kernel_rfl) I round h
def F76_0 (d0:Value) (w:World) (k:KV) : Prop :=
 px prog (binSem .eql 30 (.tmp 5) (.const (.pointer none)) d0 (.pointer none)) w fun v6 w =>
 pC v6 (
 k (.int .i64 0) w)
 (
 F76L1 k (put (put (put (put (put (argEnv [d0]) 2 (.int .i64 0)) 5 d0) 6 v6) 3 (.int .i64 0)) 4 (.int .i64 0)) w)
theorem F76_0_eq (d0:Value) (w:World) (k:KV) : F76A k [] (argEnv [d0]) w = F76_0 d0 w k := by kernel_rfl
def F76_1 (k:KV) (N1:KE) (ρ:Env) (w:World) : Prop :=
 px prog (nilSem (ρ 0)) w fun v9 w =>
 px prog (fieldAt 62 v9 2) w fun v10 w =>
 px prog (loadAt 59 v10) w fun v11 w =>
 px prog (bSem .len #[59] 3 #[v11]) w fun v12 w =>
 px prog (binSem .lss 3 (.tmp 7) (.tmp 12) (ρ 4) v12) w fun v13 w =>
 pC v13 (
 px prog (nilSem (ρ 0)) w fun v18 w =>
 px prog (fieldAt 62 v18 2) w fun v19 w =>
 px prog (loadAt 59 v19) w fun v20 w =>
 px prog (indexAt 59 v20 (ρ 4)) w fun v22 w =>
 px prog (fieldAt 144 v22 1) w fun v23 w =>
 px prog (loadAt 142 v23) w fun v24 w =>
 px prog (nilSem v24) w fun v25 w =>
 px prog (fieldAt 156 v25 1) w fun v26 w =>
 px prog (loadAt 36 v26) w fun v27 w =>
 px prog (bSem .len #[36] 3 #[v27]) w fun v28 w =>
 px prog (binSem .add 3 (.tmp 16) (.tmp 28) (ρ 3) v28) w fun v29 w =>
 px prog (binSem .add 3 (.tmp 14) (.const (.int .i64 1)) (ρ 4) (.int .i64 1)) w fun v15 w =>
 N1 (put (put (put (put (put (put (put (put (put (put (put (put (put (put (put (put (put (put (put (put (put (put (put (put (put ρ 7 (ρ 4)) 8 (ρ 0)) 9 v9) 10 v10) 11 v11) 12 v12) 13 v13) 16 (ρ 3)) 17 (ρ 0)) 18 v18) 19 v19) 20 v20) 21 (ρ 4)) 22 v22) 23 v23) 24 v24) 25 v25) 26 v26) 27 v27) 28 v28) 29 v29) 3 v29) 14 (ρ 4)) 15 v15) 4 v15) w)
 (
 F76A k [1,1,1,1] (put (put (put (put (put (put (put ρ 7 (ρ 4)) 8 (ρ 0)) 9 v9) 10 v10) 11 v11) 12 v12) 13 v13) w)
theorem F76_1_eq (k:KV) (N1:KE) (ρ:Env) (w:World) : F76A1 k N1 [] ρ w = F76_1 k N1 ρ w := by kernel_rfl
def F76_2 (k:KV) (ρ:Env) (w:World) : Prop :=
 k (ρ 3) w
theorem F76_2_eq (k:KV) (ρ:Env) (w:World) : F76A k [1,1,1,1] ρ w = F76_2 k ρ w := by kernel_rfl
theorem F76_in (d0:Value) (w:World) (k:KV) (h:F76_0 d0 w k) : pFn prog 76 [d0] w k :=
 pFn_of_at mixed func76 (by kernel_rfl) (by kernel_rfl) ntmps76 (by kernel_rfl) (by kernel_rfl) (by simp) ((F76_0_eq d0 w k).mpr h)
noncomputable def F77B : Code := bodyOf f77
def F77A (k:KV) (q:List Nat) (ρ:Env) (w:World) : Prop := At prog 9 F77B (retQ prog f77.results.toList k) q ρ w
def F77_0 (d0:Value) (w:World) (k:KV) : Prop :=
 px prog (binSem .eql 30 (.tmp 3) (.const (.pointer none)) d0 (.pointer none)) w fun v4 w =>
 pC v4 (
 k (.int .i64 0) w)
 (
 px prog (nilSem d0) w fun v6 w =>
 px prog (fieldAt 62 v6 1) w fun v7 w =>
 px prog (loadAt 3 v7) w fun v8 w =>
 k v8 w)
theorem F77_0_eq (d0:Value) (w:World) (k:KV) : F77A k [] (argEnv [d0]) w = F77_0 d0 w k := by kernel_rfl
theorem F77_in (d0:Value) (w:World) (k:KV) (h:F77_0 d0 w k) : pFn prog 77 [d0] w k :=
 pFn_of_at mixed func77 (by kernel_rfl) (by kernel_rfl) ntmps77 (by kernel_rfl) (by kernel_rfl) (by simp) ((F77_0_eq d0 w k).mpr h)
noncomputable def F86B : Code := bodyOf f86
def F86A (k:KV) (q:List Nat) (ρ:Env) (w:World) : Prop := At prog 72 F86B (retQ prog f86.results.toList k) q ρ w
noncomputable def F86B1 : Code := sub F86B [1,1,1,0,1,0,0]
def F86Q1 (k:KV) (N1:KE) : Xt → KE := thenE N1 (contAt prog 72 F86B (retQ prog f86.results.toList k) [1,1,1,0,1,0])
def F86A1 (k:KV) (N1:KE) (q:List Nat) (ρ:Env) (w:World) : Prop := At prog 72 F86B1 (F86Q1 k N1) q ρ w
def F86L1 (k:KV) (ρ:Env) (w:World) : Prop := LoopAt prog 72 F86B (retQ prog f86.results.toList k) [1,1,1,0,1,0] ρ w
theorem F86L1_inv (k:KV) (I:Nat → KE) (round:∀ m ρ w,I m ρ w → F86A1 k (fun ρ' w' => ∃ m',m' < m ∧ I m' ρ' w') [] ρ w) {m:Nat} {ρ:Env} {w:World} (h:I m ρ w) : F86L1 k ρ w :=
 LoopAt_inv mixed (B := F86B) (Q := (retQ prog f86.results.toList k)) (p := [1,1,1,0,1,0]) (by kernel_rfl) (by kernel_rfl) I round h
def F86_0 (old0:Value) (made1:Value) (t2:Value) (w:World) (k:KV) : Prop :=
 px prog (binSem .eql 142 (.tmp 11) (.const (.pointer none)) t2 (.pointer none)) w fun v12 w =>
 pG v12 false (fun k => k old0 w) (w := w) (next := fun v14 w =>
 pG v12 false (fun k => k made1 w) (w := w) (next := fun v15 w =>
 pG v12 false (fun k => k t2 w) (w := w) (next := fun v16 w =>
 pG v12 false (fun k => pFn prog 87 [v14,v15,v16] w k) (w := w) (next := fun v17 w =>
 pG v12 false (fun k => px prog (binSem .neq 142 (.tmp 17) (.const (.pointer none)) v17 (.pointer none)) w k) (w := w) (next := fun v18 w =>
 px prog (pickSem v12 (.bool true) v18) w fun v19 w =>
 pC v19 (
 k (.tuple #[old0,made1]) w)
 (
 ∃ S : World → Prop,S w.drew ∧ (fun w =>
 pq prog S (nilSem t2) fun v23 =>
 pq prog S (fieldAt 156 v23 0) fun v24 =>
 pq prog S (loadAt 36 v24) fun v25 =>
 pq prog S (nilSem t2) fun v28 =>
 pq prog S (fieldAt 156 v28 1) fun v29 =>
 pq prog S (loadAt 36 v29) fun v30 =>
 pFn prog 94 [v25] w fun v26 w => S w ∧ (
 pFn prog 94 [v30] w fun v31 w => S w ∧ (
 pq prog S (Instr.build 156 #[(0,v26),(1,v31)]) fun v32 =>
 px prog (Instr.box 156 v32) w fun v33 w => S w ∧ (
 F86L1 k (put (put (put (put (put (put (put (put (put (put (put (put (put (put (put (put (put (put (put (put (put (put (put (put (put (argEnv [old0,made1,t2]) 6 (.slice none 0 0)) 7 (.slice none 0 0)) 11 t2) 12 v12) 13 v12) 14 v14) 15 v15) 16 v16) 17 v17) 18 v18) 19 v19) 22 t2) 23 v23) 24 v24) 25 v25) 27 t2) 28 v28) 29 v29) 30 v30) 26 v26) 31 v31) 32 v32) 33 v33) 8 v33) 9 (.int .i64 0)) w)))) w.drew))))))
theorem F86_0_eq (old0:Value) (made1:Value) (t2:Value) (w:World) (k:KV) : F86A k [] (argEnv [old0,made1,t2]) w = F86_0 old0 made1 t2 w k := by kernel_rfl
def F86_1 (k:KV) (N1:KE) (ρ:Env) (w:World) : Prop :=
 px prog (nilSem (ρ 2)) w fun v36 w =>
 px prog (fieldAt 156 v36 2) w fun v37 w =>
 px prog (loadAt 154 v37) w fun v38 w =>
 px prog (bSem .len #[154] 3 #[v38]) w fun v39 w =>
 px prog (binSem .lss 3 (.tmp 34) (.tmp 39) (ρ 9) v39) w fun v40 w =>
 pC v40 (
 px prog (nilSem (ρ 2)) w fun v44 w =>
 px prog (fieldAt 156 v44 2) w fun v45 w =>
 px prog (loadAt 154 v45) w fun v46 w =>
 px prog (indexAt 154 v46 (ρ 9)) w fun v48 w =>
 px prog (loadAt 186 v48) w fun v49 w =>
 px prog (Instr.alloc 186 true (.tuple #[])) w fun v10 w =>
 pu prog (storeAt 186 v10 v49) w fun w =>
 px prog (fieldAt 186 v10 2) w fun v50 w =>
 px prog (loadAt 36 v50) w fun v51 w =>
 pFn prog 94 [v51] w fun v52 w =>
 px prog (fieldAt 186 v10 2) w fun v53 w =>
 pu prog (storeAt 36 v53 v52) w fun w =>
 ∃ S : World → Prop,S w.drew ∧ (fun w =>
 pq prog S (nilSem (ρ 8)) fun v56 =>
 pq prog S (fieldAt 156 v56 2) fun v57 =>
 pq prog S (loadAt 154 v57) fun v58 =>
 pq prog S (loadAt 186 v10) fun v59 =>
 px prog (Instr.buildSlice 154 1 #[(0,v59)]) w fun v60 w => S w ∧ (
 px prog (bSem .append #[154,154] 154 #[v58,v60]) w fun v61 w => S w ∧ (
 pq prog S (nilSem (ρ 8)) fun v62 =>
 pq prog S (fieldAt 156 v62 2) fun v63 =>
 pu prog (storeAt 154 v63 v61) w fun w => (
 px prog (binSem .add 3 (.tmp 41) (.const (.int .i64 1)) (ρ 9) (.int .i64 1)) w fun v42 w =>
 N1 (put (put (put (put (put (put (put (put (put (put (put (put (put (put (put (put (put (put (put (put (put (put (put (put (put (put (put (put (put (put (put (put ρ 34 (ρ 9)) 35 (ρ 2)) 36 v36) 37 v37) 38 v38) 39 v39) 40 v40) 43 (ρ 2)) 44 v44) 45 v45) 46 v46) 47 (ρ 9)) 48 v48) 49 v49) 10 v10) 50 v50) 51 v51) 52 v52) 53 v53) 54 (ρ 8)) 55 (ρ 8)) 56 v56) 57 v57) 58 v58) 59 v59) 60 v60) 61 v61) 62 v62) 63 v63) 41 (ρ 9)) 42 v42) 9 v42) w)))) w.drew)
 (
 F86A k [1,1,1,1] (put (put (put (put (put (put (put ρ 34 (ρ 9)) 35 (ρ 2)) 36 v36) 37 v37) 38 v38) 39 v39) 40 v40) w)
theorem F86_1_eq (k:KV) (N1:KE) (ρ:Env) (w:World) : F86A1 k N1 [] ρ w = F86_1 k N1 ρ w := by kernel_rfl
def F86_2 (k:KV) (ρ:Env) (w:World) : Prop :=
 px prog (Instr.buildSlice 139 1 #[(0,(ρ 2))]) w fun v66 w =>
 px prog (bSem .append #[139,139] 139 #[(ρ 0),v66]) w fun v67 w =>
 px prog (Instr.buildSlice 139 1 #[(0,(ρ 8))]) w fun v70 w =>
 px prog (bSem .append #[139,139] 139 #[(ρ 1),v70]) w fun v71 w =>
 k (.tuple #[v67,v71]) w
theorem F86_2_eq (k:KV) (ρ:Env) (w:World) : F86A k [1,1,1,1] ρ w = F86_2 k ρ w := by kernel_rfl
theorem F86_in (old0:Value) (made1:Value) (t2:Value) (w:World) (k:KV) (h:F86_0 old0 made1 t2 w k) : pFn prog 86 [old0,made1,t2] w k :=
 pFn_of_at mixed func86 (by kernel_rfl) (by kernel_rfl) ntmps86 (by kernel_rfl) (by kernel_rfl) (by simp) ((F86_0_eq old0 made1 t2 w k).mpr h)
noncomputable def F87B : Code := bodyOf f87
def F87A (k:KV) (q:List Nat) (ρ:Env) (w:World) : Prop := At prog 24 F87B (retQ prog f87.results.toList k) q ρ w
noncomputable def F87B1 : Code := sub F87B [1,0,1,0,0]
def F87Q1 (k:KV) (N1:KE) : Xt → KE := thenE N1 (contAt prog 24 F87B (retQ prog f87.results.toList k) [1,0,1,0])
def F87A1 (k:KV) (N1:KE) (q:List Nat) (ρ:Env) (w:World) : Prop := At prog 24 F87B1 (F87Q1 k N1) q ρ w
def F87L1 (k:KV) (ρ:Env) (w:World) : Prop := LoopAt prog 24 F87B (retQ prog f87.results.toList k) [1,0,1,0] ρ w
theorem F87L1_inv (k:KV) (I:Nat → KE) (round:∀ m ρ w,I m ρ w → F87A1 k (fun ρ' w' => ∃ m',m' < m ∧ I m' ρ' w') [] ρ w) {m:Nat} {ρ:Env} {w:World} (h:I m ρ w) : F87L1 k ρ w :=
 LoopAt_inv mixed (B := F87B) (Q := (retQ prog f87.results.toList k)) (p := [1,0,1,0]) (by kernel_rfl) (by kernel_rfl) I round h
def F87_0 (old0:Value) (made1:Value) (t2:Value) (w:World) (k:KV) : Prop :=
 F87L1 k (put (put (argEnv [old0,made1,t2]) 6 (.pointer none)) 7 (.int .i64 0)) w
theorem F87_0_eq (old0:Value) (made1:Value) (t2:Value) (w:World) (k:KV) : F87A k [] (argEnv [old0,made1,t2]) w = F87_0 old0 made1 t2 w k := by kernel_rfl
def F87_1 (k:KV) (N1:KE) (ρ:Env) (w:World) : Prop :=
 px prog (bSem .len #[139] 3 #[(ρ 0)]) w fun v10 w =>
 px prog (binSem .lss 3 (.tmp 8) (.tmp 10) (ρ 7) v10) w fun v11 w =>
 pC v11 (
 px prog (indexAt 139 (ρ 0) (ρ 7)) w fun v16 w =>
 px prog (loadAt 142 v16) w fun v17 w =>
 px prog (binSem .eql 142 (.tmp 17) (.tmp 18) v17 (ρ 2)) w fun v19 w =>
 pC v19 (
 px prog (indexAt 139 (ρ 1) (ρ 7)) w fun v22 w =>
 px prog (loadAt 142 v22) w fun v23 w =>
 k v23 w)
 (
 px prog (binSem .add 3 (.tmp 12) (.const (.int .i64 1)) (ρ 7) (.int .i64 1)) w fun v13 w =>
 N1 (put (put (put (put (put (put (put (put (put (put (put (put (put ρ 8 (ρ 7)) 9 (ρ 0)) 10 v10) 11 v11) 14 (ρ 0)) 15 (ρ 7)) 16 v16) 17 v17) 18 (ρ 2)) 19 v19) 12 (ρ 7)) 13 v13) 7 v13) w))
 (
 F87A k [1,1] (put (put (put (put ρ 8 (ρ 7)) 9 (ρ 0)) 10 v10) 11 v11) w)
theorem F87_1_eq (k:KV) (N1:KE) (ρ:Env) (w:World) : F87A1 k N1 [] ρ w = F87_1 k N1 ρ w := by kernel_rfl
def F87_2 (k:KV) (ρ:Env) (w:World) : Prop :=
 k (.pointer none) w
theorem F87_2_eq (k:KV) (ρ:Env) (w:World) : F87A k [1,1] ρ w = F87_2 k ρ w := by kernel_rfl
theorem F87_in (old0:Value) (made1:Value) (t2:Value) (w:World) (k:KV) (h:F87_0 old0 made1 t2 w k) : pFn prog 87 [old0,made1,t2] w k :=
 pFn_of_at mixed func87 (by kernel_rfl) (by kernel_rfl) ntmps87 (by kernel_rfl) (by kernel_rfl) (by simp) ((F87_0_eq old0 made1 t2 w k).mpr h)
noncomputable def F93B : Code := bodyOf f93
def F93A (k:KV) (q:List Nat) (ρ:Env) (w:World) : Prop := At prog 21 F93B (retQ prog f93.results.toList k) q ρ w
def F93_0 (d0:Value) (name1:Value) (w:World) (k:KV) : Prop :=
 pFn prog 74 [d0] w fun v8 w =>
 pC v8 (
 k (.tuple #[(.int .i64 0),(.int .i64 50)]) w)
 (
 pFn prog 99 [name1] w fun v10 w =>
 px prog (Op.unary .not v10) w fun v11 w =>
 pC v11 (
 k (.tuple #[(.int .i64 0),(.int .i64 51)]) w)
 (
 px prog (nilSem d0) w fun v13 w =>
 px prog (fieldAt 62 v13 2) w fun v14 w =>
 px prog (loadAt 59 v14) w fun v15 w =>
 pFn prog 100 [v15,name1] w fun v17 w =>
 px prog (binSem .lss 3 (.tmp 18) (.const (.int .i64 0)) v17 (.int .i64 0)) w fun v19 w =>
 pC v19 (
 k (.tuple #[(.int .i64 0),(.int .i64 53)]) w)
 (
 k (.tuple #[v17,(.int .i64 0)]) w)))
theorem F93_0_eq (d0:Value) (name1:Value) (w:World) (k:KV) : F93A k [] (argEnv [d0,name1]) w = F93_0 d0 name1 w k := by kernel_rfl
theorem F93_in (d0:Value) (name1:Value) (w:World) (k:KV) (h:F93_0 d0 name1 w k) : pFn prog 93 [d0,name1] w k :=
 pFn_of_at mixed func93 (by kernel_rfl) (by kernel_rfl) ntmps93 (by kernel_rfl) (by kernel_rfl) (by simp) ((F93_0_eq d0 name1 w k).mpr h)
noncomputable def F94B : Code := bodyOf f94
def F94A (k:KV) (q:List Nat) (ρ:Env) (w:World) : Prop := At prog 6 F94B (retQ prog f94.results.toList k) q ρ w
def F94_0 (b0:Value) (w:World) (k:KV) : Prop :=
 px prog (Instr.buildSlice 36 0 #[]) w fun v3 w =>
 px prog (bSem .append #[36,36] 36 #[v3,b0]) w fun v5 w =>
 k v5 w
theorem F94_0_eq (b0:Value) (w:World) (k:KV) : F94A k [] (argEnv [b0]) w = F94_0 b0 w k := by kernel_rfl
theorem F94_in (b0:Value) (w:World) (k:KV) (h:F94_0 b0 w k) : pFn prog 94 [b0] w k :=
 pFn_of_at mixed func94 (by kernel_rfl) (by kernel_rfl) ntmps94 (by kernel_rfl) (by kernel_rfl) (by simp) ((F94_0_eq b0 w k).mpr h)
noncomputable def F99B : Code := bodyOf f99
def F99A (k:KV) (q:List Nat) (ρ:Env) (w:World) : Prop := At prog 53 F99B (retQ prog f99.results.toList k) q ρ w
noncomputable def F99B1 : Code := sub F99B [1,1,0,1,0,0]
def F99Q1 (k:KV) (N1:KE) : Xt → KE := thenE N1 (contAt prog 53 F99B (retQ prog f99.results.toList k) [1,1,0,1,0])
def F99A1 (k:KV) (N1:KE) (q:List Nat) (ρ:Env) (w:World) : Prop := At prog 53 F99B1 (F99Q1 k N1) q ρ w
def F99L1 (k:KV) (ρ:Env) (w:World) : Prop := LoopAt prog 53 F99B (retQ prog f99.results.toList k) [1,1,0,1,0] ρ w
theorem F99L1_inv (k:KV) (I:Nat → KE) (round:∀ m ρ w,I m ρ w → F99A1 k (fun ρ' w' => ∃ m',m' < m ∧ I m' ρ' w') [] ρ w) {m:Nat} {ρ:Env} {w:World} (h:I m ρ w) : F99L1 k ρ w :=
 LoopAt_inv mixed (B := F99B) (Q := (retQ prog f99.results.toList k)) (p := [1,1,0,1,0]) (by kernel_rfl) (by kernel_rfl) I round h
def F99_0 (name0:Value) (w:World) (k:KV) : Prop :=
 px prog (bSem .len #[9] 3 #[name0]) w fun v6 w =>
 px prog (binSem .lss 3 (.tmp 6) (.const (.int .i64 1)) v6 (.int .i64 1)) w fun v7 w =>
 pG v7 false (fun k => k name0 w) (w := w) (next := fun v9 w =>
 pG v7 false (fun k => px prog (bSem .len #[9] 3 #[v9]) w k) (w := w) (next := fun v10 w =>
 pG v7 false (fun k => px prog (binSem .gtr 3 (.tmp 10) (.const (.int .i64 112)) v10 (.int .i64 112)) w k) (w := w) (next := fun v11 w =>
 px prog (pickSem v7 (.bool true) v11) w fun v12 w =>
 pC v12 (
 k (.bool false) w)
 (
 F99L1 k (put (put (put (put (put (put (put (put (put (put (argEnv [name0]) 2 (.bool false)) 5 name0) 6 v6) 7 v7) 8 v7) 9 v9) 10 v10) 11 v11) 12 v12) 3 (.int .i64 0)) w))))
theorem F99_0_eq (name0:Value) (w:World) (k:KV) : F99A k [] (argEnv [name0]) w = F99_0 name0 w k := by kernel_rfl
def F99_1 (k:KV) (N1:KE) (ρ:Env) (w:World) : Prop :=
 px prog (bSem .len #[9] 3 #[(ρ 0)]) w fun v15 w =>
 px prog (binSem .lss 3 (.tmp 13) (.tmp 15) (ρ 3) v15) w fun v16 w =>
 pC v16 (
 px prog (Instr.index 9 (ρ 0) (ρ 3)) w fun v21 w =>
 px prog (binSem .geq 5 (.tmp 22) (.const (.int .u8 97)) v21 (.int .u8 97)) w fun v23 w =>
 pG v23 true (fun k => k v21 w) (w := w) (next := fun v25 w =>
 pG v23 true (fun k => px prog (binSem .leq 5 (.tmp 25) (.const (.int .u8 122)) v25 (.int .u8 122)) w k) (w := w) (next := fun v26 w =>
 px prog (pickSem v23 v26 (.bool false)) w fun v27 w =>
 pG v27 false (fun k => k v21 w) (w := w) (next := fun v29 w =>
 pG v27 false (fun k => px prog (binSem .geq 5 (.tmp 29) (.const (.int .u8 48)) v29 (.int .u8 48)) w k) (w := w) (next := fun v30 w =>
 pG v27 false (fun k => k v30 w) (w := w) (next := fun v31 w =>
 pG v31 true (fun k => k v21 w) (w := w) (next := fun v32 w =>
 pG v31 true (fun k => px prog (binSem .leq 5 (.tmp 32) (.const (.int .u8 57)) v32 (.int .u8 57)) w k) (w := w) (next := fun v33 w =>
 pG v27 false (fun k => px prog (pickSem v31 v33 (.bool false)) w k) (w := w) (next := fun v34 w =>
 px prog (pickSem v27 (.bool true) v34) w fun v35 w =>
 pG v35 false (fun k => k v21 w) (w := w) (next := fun v37 w =>
 pG v35 false (fun k => px prog (binSem .eql 5 (.tmp 37) (.const (.int .u8 46)) v37 (.int .u8 46)) w k) (w := w) (next := fun v38 w =>
 px prog (pickSem v35 (.bool true) v38) w fun v39 w =>
 pG v39 false (fun k => k v21 w) (w := w) (next := fun v41 w =>
 pG v39 false (fun k => px prog (binSem .eql 5 (.tmp 41) (.const (.int .u8 45)) v41 (.int .u8 45)) w k) (w := w) (next := fun v42 w =>
 px prog (pickSem v39 (.bool true) v42) w fun v43 w =>
 pG v43 false (fun k => k v21 w) (w := w) (next := fun v45 w =>
 pG v43 false (fun k => px prog (binSem .eql 5 (.tmp 45) (.const (.int .u8 95)) v45 (.int .u8 95)) w k) (w := w) (next := fun v46 w =>
 px prog (pickSem v43 (.bool true) v46) w fun v47 w =>
 pG v47 false (fun k => k v21 w) (w := w) (next := fun v49 w =>
 pG v47 false (fun k => px prog (binSem .eql 5 (.tmp 49) (.const (.int .u8 43)) v49 (.int .u8 43)) w k) (w := w) (next := fun v50 w =>
 px prog (pickSem v47 (.bool true) v50) w fun v51 w =>
 px prog (Op.unary .not v51) w fun v52 w =>
 pC v52 (
 k (.bool false) w)
 (
 px prog (binSem .add 3 (.tmp 17) (.const (.int .i64 1)) (ρ 3) (.int .i64 1)) w fun v18 w =>
 N1 (put (put (put (put (put (put (put (put (put (put (put (put (put (put (put (put (put (put (put (put (put (put (put (put (put (put (put (put (put (put (put (put (put (put (put (put (put (put (put (put (put (put ρ 13 (ρ 3)) 14 (ρ 0)) 15 v15) 16 v16) 19 (ρ 0)) 20 (ρ 3)) 21 v21) 4 v21) 22 v21) 23 v23) 24 v23) 25 v25) 26 v26) 27 v27) 28 v27) 29 v29) 30 v30) 31 v31) 32 v32) 33 v33) 34 v34) 35 v35) 36 v35) 37 v37) 38 v38) 39 v39) 40 v39) 41 v41) 42 v42) 43 v43) 44 v43) 45 v45) 46 v46) 47 v47) 48 v47) 49 v49) 50 v50) 51 v51) 52 v52) 17 (ρ 3)) 18 v18) 3 v18) w))))))))))))))))))
 (
 F99A k [1,1,1] (put (put (put (put ρ 13 (ρ 3)) 14 (ρ 0)) 15 v15) 16 v16) w)
theorem F99_1_eq (k:KV) (N1:KE) (ρ:Env) (w:World) : F99A1 k N1 [] ρ w = F99_1 k N1 ρ w := by kernel_rfl
def F99_2 (k:KV) (ρ:Env) (w:World) : Prop :=
 k (.bool true) w
theorem F99_2_eq (k:KV) (ρ:Env) (w:World) : F99A k [1,1,1] ρ w = F99_2 k ρ w := by kernel_rfl
theorem F99_in (name0:Value) (w:World) (k:KV) (h:F99_0 name0 w k) : pFn prog 99 [name0] w k :=
 pFn_of_at mixed func99 (by kernel_rfl) (by kernel_rfl) ntmps99 (by kernel_rfl) (by kernel_rfl) (by simp) ((F99_0_eq name0 w k).mpr h)
noncomputable def F100B : Code := bodyOf f100
def F100A (k:KV) (q:List Nat) (ρ:Env) (w:World) : Prop := At prog 20 F100B (retQ prog f100.results.toList k) q ρ w
noncomputable def F100B1 : Code := sub F100B [1,0,1,0,0]
def F100Q1 (k:KV) (N1:KE) : Xt → KE := thenE N1 (contAt prog 20 F100B (retQ prog f100.results.toList k) [1,0,1,0])
def F100A1 (k:KV) (N1:KE) (q:List Nat) (ρ:Env) (w:World) : Prop := At prog 20 F100B1 (F100Q1 k N1) q ρ w
def F100L1 (k:KV) (ρ:Env) (w:World) : Prop := LoopAt prog 20 F100B (retQ prog f100.results.toList k) [1,0,1,0] ρ w
theorem F100L1_inv (k:KV) (I:Nat → KE) (round:∀ m ρ w,I m ρ w → F100A1 k (fun ρ' w' => ∃ m',m' < m ∧ I m' ρ' w') [] ρ w) {m:Nat} {ρ:Env} {w:World} (h:I m ρ w) : F100L1 k ρ w :=
 LoopAt_inv mixed (B := F100B) (Q := (retQ prog f100.results.toList k)) (p := [1,0,1,0]) (by kernel_rfl) (by kernel_rfl) I round h
def F100_0 (l0:Value) (name1:Value) (w:World) (k:KV) : Prop :=
 F100L1 k (put (put (argEnv [l0,name1]) 4 (.int .i64 0)) 5 (.int .i64 0)) w
theorem F100_0_eq (l0:Value) (name1:Value) (w:World) (k:KV) : F100A k [] (argEnv [l0,name1]) w = F100_0 l0 name1 w k := by kernel_rfl
def F100_1 (k:KV) (N1:KE) (ρ:Env) (w:World) : Prop :=
 px prog (bSem .len #[59] 3 #[(ρ 0)]) w fun v8 w =>
 px prog (binSem .lss 3 (.tmp 6) (.tmp 8) (ρ 5) v8) w fun v9 w =>
 pC v9 (
 px prog (indexAt 59 (ρ 0) (ρ 5)) w fun v14 w =>
 px prog (fieldAt 144 v14 0) w fun v15 w =>
 px prog (loadAt 9 v15) w fun v16 w =>
 px prog (binSem .eql 9 (.tmp 16) (.tmp 17) v16 (ρ 1)) w fun v18 w =>
 pC v18 (
 k (ρ 5) w)
 (
 px prog (binSem .add 3 (.tmp 10) (.const (.int .i64 1)) (ρ 5) (.int .i64 1)) w fun v11 w =>
 N1 (put (put (put (put (put (put (put (put (put (put (put (put (put (put ρ 6 (ρ 5)) 7 (ρ 0)) 8 v8) 9 v9) 12 (ρ 0)) 13 (ρ 5)) 14 v14) 15 v15) 16 v16) 17 (ρ 1)) 18 v18) 10 (ρ 5)) 11 v11) 5 v11) w))
 (
 F100A k [1,1] (put (put (put (put ρ 6 (ρ 5)) 7 (ρ 0)) 8 v8) 9 v9) w)
theorem F100_1_eq (k:KV) (N1:KE) (ρ:Env) (w:World) : F100A1 k N1 [] ρ w = F100_1 k N1 ρ w := by kernel_rfl
def F100_2 (k:KV) (ρ:Env) (w:World) : Prop :=
 k (.int .i64 (-1)) w
theorem F100_2_eq (k:KV) (ρ:Env) (w:World) : F100A k [1,1] ρ w = F100_2 k ρ w := by kernel_rfl
theorem F100_in (l0:Value) (name1:Value) (w:World) (k:KV) (h:F100_0 l0 name1 w k) : pFn prog 100 [l0,name1] w k :=
 pFn_of_at mixed func100 (by kernel_rfl) (by kernel_rfl) ntmps100 (by kernel_rfl) (by kernel_rfl) (by simp) ((F100_0_eq l0 name1 w k).mpr h)
noncomputable def F101B : Code := bodyOf f101
def F101A (k:KV) (q:List Nat) (ρ:Env) (w:World) : Prop := At prog 52 F101B (retQ prog f101.results.toList k) q ρ w
noncomputable def F101B1 : Code := sub F101B [1,1,1,1,0,1,0,0]
def F101Q1 (k:KV) (N1:KE) : Xt → KE := thenE N1 (contAt prog 52 F101B (retQ prog f101.results.toList k) [1,1,1,1,0,1,0])
def F101A1 (k:KV) (N1:KE) (q:List Nat) (ρ:Env) (w:World) : Prop := At prog 52 F101B1 (F101Q1 k N1) q ρ w
def F101L1 (k:KV) (ρ:Env) (w:World) : Prop := LoopAt prog 52 F101B (retQ prog f101.results.toList k) [1,1,1,1,0,1,0] ρ w
theorem F101L1_inv (k:KV) (I:Nat → KE) (round:∀ m ρ w,I m ρ w → F101A1 k (fun ρ' w' => ∃ m',m' < m ∧ I m' ρ' w') [] ρ w) {m:Nat} {ρ:Env} {w:World} (h:I m ρ w) : F101L1 k ρ w :=
 LoopAt_inv mixed (B := F101B) (Q := (retQ prog f101.results.toList k)) (p := [1,1,1,1,0,1,0]) (by kernel_rfl) (by kernel_rfl) I round h
def F101_0 (l0:Value) (name1:Value) (t2:Value) (w:World) (k:KV) : Prop :=
 pFn prog 133 [l0,name1] w fun v12 w =>
 F101L1 k (put (put (put (put (put (put (put (put (argEnv [l0,name1,t2]) 6 (.slice none 0 0)) 10 l0) 11 name1) 12 v12) 0 v12) 7 (.slice none 0 0)) 8 (.bool false)) 9 (.int .i64 0)) w
theorem F101_0_eq (l0:Value) (name1:Value) (t2:Value) (w:World) (k:KV) : F101A k [] (argEnv [l0,name1,t2]) w = F101_0 l0 name1 t2 w k := by kernel_rfl
def F101_1 (k:KV) (N1:KE) (ρ:Env) (w:World) : Prop :=
 px prog (bSem .len #[59] 3 #[(ρ 0)]) w fun v15 w =>
 px prog (binSem .lss 3 (.tmp 13) (.tmp 15) (ρ 9) v15) w fun v16 w =>
 pC v16 (
 px prog (Op.unary .not (ρ 8)) w fun v20 w =>
 pG v20 true (fun k => k (ρ 1) w) (w := w) (next := fun v22 w =>
 pG v20 true (fun k => k (ρ 0) w) (w := w) (next := fun v23 w =>
 pG v20 true (fun k => k (ρ 9) w) (w := w) (next := fun v24 w =>
 pG v20 true (fun k => px prog (indexAt 59 v23 v24) w k) (w := w) (next := fun v25 w =>
 pG v20 true (fun k => px prog (fieldAt 144 v25 0) w k) (w := w) (next := fun v26 w =>
 pG v20 true (fun k => px prog (loadAt 9 v26) w k) (w := w) (next := fun v27 w =>
 pG v20 true (fun k => px prog (binSem .lss 9 (.tmp 22) (.tmp 27) v22 v27) w k) (w := w) (next := fun v28 w =>
 px prog (pickSem v20 v28 (.bool false)) w fun v29 w =>
 pC v29 (
 px prog (Instr.build 144 #[(0,(ρ 1)),(1,(ρ 2))]) w fun v33 w =>
 px prog (Instr.buildSlice 59 1 #[(0,v33)]) w fun v34 w =>
 px prog (bSem .append #[59,59] 59 #[(ρ 7),v34]) w fun v35 w =>
 F101A1 k N1 [1,0,0,1] (put (put (put (put (put (put (put (put (put (put (put (put (put (put (put (put (put (put (put (put (put (put (put ρ 13 (ρ 9)) 14 (ρ 0)) 15 v15) 16 v16) 19 (ρ 8)) 20 v20) 21 v20) 22 v22) 23 v23) 24 v24) 25 v25) 26 v26) 27 v27) 28 v28) 29 v29) 30 (ρ 7)) 31 (ρ 1)) 32 (ρ 2)) 33 v33) 34 v34) 35 v35) 7 v35) 8 (.bool true)) w)
 (
 F101A1 k N1 [1,0,0,1] (put (put (put (put (put (put (put (put (put (put (put (put (put (put (put ρ 13 (ρ 9)) 14 (ρ 0)) 15 v15) 16 v16) 19 (ρ 8)) 20 v20) 21 v20) 22 v22) 23 v23) 24 v24) 25 v25) 26 v26) 27 v27) 28 v28) 29 v29) w)))))))))
 (
 F101A k [1,1,1,1,1] (put (put (put (put ρ 13 (ρ 9)) 14 (ρ 0)) 15 v15) 16 v16) w)
theorem F101_1_eq (k:KV) (N1:KE) (ρ:Env) (w:World) : F101A1 k N1 [] ρ w = F101_1 k N1 ρ w := by kernel_rfl
def F101_2 (k:KV) (N1:KE) (ρ:Env) (w:World) : Prop :=
 px prog (indexAt 59 (ρ 0) (ρ 9)) w fun v39 w =>
 px prog (loadAt 144 v39) w fun v40 w =>
 px prog (Instr.buildSlice 59 1 #[(0,v40)]) w fun v41 w =>
 px prog (bSem .append #[59,59] 59 #[(ρ 7),v41]) w fun v42 w =>
 px prog (binSem .add 3 (.tmp 17) (.const (.int .i64 1)) (ρ 9) (.int .i64 1)) w fun v18 w =>
 N1 (put (put (put (put (put (put (put (put (put (put (put ρ 36 (ρ 7)) 37 (ρ 0)) 38 (ρ 9)) 39 v39) 40 v40) 41 v41) 42 v42) 7 v42) 17 (ρ 9)) 18 v18) 9 v18) w
theorem F101_2_eq (k:KV) (N1:KE) (ρ:Env) (w:World) : F101A1 k N1 [1,0,0,1] ρ w = F101_2 k N1 ρ w := by kernel_rfl
def F101_3 (k:KV) (ρ:Env) (w:World) : Prop :=
 px prog (Op.unary .not (ρ 8)) w fun v44 w =>
 pC v44 (
 px prog (Instr.build 144 #[(0,(ρ 1)),(1,(ρ 2))]) w fun v48 w =>
 px prog (Instr.buildSlice 59 1 #[(0,v48)]) w fun v49 w =>
 px prog (bSem .append #[59,59] 59 #[(ρ 7),v49]) w fun v50 w =>
 F101A k [1,1,1,1,1,1] (put (put (put (put (put (put (put (put (put ρ 43 (ρ 8)) 44 v44) 45 (ρ 7)) 46 (ρ 1)) 47 (ρ 2)) 48 v48) 49 v49) 50 v50) 7 v50) w)
 (
 F101A k [1,1,1,1,1,1] (put (put ρ 43 (ρ 8)) 44 v44) w)
theorem F101_3_eq (k:KV) (ρ:Env) (w:World) : F101A k [1,1,1,1,1] ρ w = F101_3 k ρ w := by kernel_rfl
def F101_4 (k:KV) (ρ:Env) (w:World) : Prop :=
 k (ρ 7) w
theorem F101_4_eq (k:KV) (ρ:Env) (w:World) : F101A k [1,1,1,1,1,1] ρ w = F101_4 k ρ w := by kernel_rfl
theorem F101_in (l0:Value) (name1:Value) (t2:Value) (w:World) (k:KV) (h:F101_0 l0 name1 t2 w k) : pFn prog 101 [l0,name1,t2] w k :=
 pFn_of_at mixed func101 (by kernel_rfl) (by kernel_rfl) ntmps101 (by kernel_rfl) (by kernel_rfl) (by simp) ((F101_0_eq l0 name1 t2 w k).mpr h)
noncomputable def F111B : Code := bodyOf f111
def F111A (k:KV) (q:List Nat) (ρ:Env) (w:World) : Prop := At prog 52 F111B (retQ prog f111.results.toList k) q ρ w
def F111_0 (d0:Value) (w:World) (k:KV) : Prop :=
 px prog (nilSem d0) w fun v6 w =>
 px prog (fieldAt 62 v6 5) w fun v7 w =>
 px prog (loadAt 3 v7) w fun v8 w =>
 px prog (binSem .add 3 (.tmp 8) (.const (.int .i64 1)) v8 (.int .i64 1)) w fun v9 w =>
 px prog (nilSem d0) w fun v10 w =>
 px prog (fieldAt 62 v10 5) w fun v11 w =>
 pu prog (storeAt 3 v11 v9) w fun w =>
 px prog (nilSem d0) w fun v14 w =>
 px prog (fieldAt 62 v14 6) w fun v15 w =>
 px prog (loadAt 3 v15) w fun v16 w =>
 px prog (binSem .add 3 (.tmp 16) (.const (.int .i64 1)) v16 (.int .i64 1)) w fun v17 w =>
 px prog (nilSem d0) w fun v18 w =>
 px prog (fieldAt 62 v18 6) w fun v19 w =>
 pu prog (storeAt 3 v19 v17) w fun w =>
 ∃ S : World → Prop,S w.drew ∧ (fun w =>
 pq prog S (nilSem d0) fun v21 =>
 pq prog S (fieldAt 62 v21 6) fun v22 =>
 pq prog S (loadAt 3 v22) fun v23 =>
 pq prog S (nilSem d0) fun v25 =>
 pq prog S (fieldAt 62 v25 7) fun v26 =>
 pq prog S (fieldAt 38 v26 1) fun v27 =>
 pq prog S (loadAt 3 v27) fun v28 =>
 pq prog S (binSem .geq 3 (.tmp 23) (.tmp 28) v23 v28) fun v29 =>
 pGq v29 true (fun k => k d0) (next := fun v31 =>
 pGq v29 true (fun k => pq prog S (nilSem v31) k) (next := fun v32 =>
 pGq v29 true (fun k => pq prog S (fieldAt 62 v32 6) k) (next := fun v33 =>
 pGq v29 true (fun k => pq prog S (loadAt 3 v33) k) (next := fun v34 =>
 pGq v29 true (fun k => k d0) (next := fun v35 =>
 pGq v29 true (fun k => pq prog S (nilSem v35) k) (next := fun v36 =>
 pGq v29 true (fun k => pq prog S (fieldAt 62 v36 7) k) (next := fun v37 =>
 pGq v29 true (fun k => pq prog S (fieldAt 38 v37 2) k) (next := fun v38 =>
 pGq v29 true (fun k => pq prog S (loadAt 3 v38) k) (next := fun v39 =>
 pGq v29 true (fun k => pq prog S (binSem .leq 3 (.tmp 34) (.tmp 39) v34 v39) k) (next := fun v40 =>
 pq prog S (pickSem v29 v40 (.bool false)) fun v41 =>
 pq prog S (nilSem d0) fun v43 =>
 pq prog S (fieldAt 62 v43 6) fun v44 =>
 pq prog S (loadAt 3 v44) fun v45 =>
 pq prog S (nilSem d0) fun v47 =>
 pq prog S (fieldAt 62 v47 7) fun v48 =>
 pq prog S (fieldAt 38 v48 0) fun v49 =>
 pq prog S (loadAt 3 v49) fun v50 =>
 pq prog S (binSem .eql 3 (.tmp 45) (.tmp 50) v45 v50) fun v51 =>
 k (.tuple #[v41,v51]) w))))))))))) w.drew
theorem F111_0_eq (d0:Value) (w:World) (k:KV) : F111A k [] (argEnv [d0]) w = F111_0 d0 w k := by kernel_rfl
theorem F111_in (d0:Value) (w:World) (k:KV) (h:F111_0 d0 w k) : pFn prog 111 [d0] w k :=
 pFn_of_at mixed func111 (by kernel_rfl) (by kernel_rfl) ntmps111 (by kernel_rfl) (by kernel_rfl) (by simp) ((F111_0_eq d0 w k).mpr h)
noncomputable def F112B : Code := bodyOf f112
def F112A (k:KV) (q:List Nat) (ρ:Env) (w:World) : Prop := At prog 12 F112B (retQ prog f112.results.toList k) q ρ w
def F112_0 (d0:Value) (out1:Value) (e2:Value) (w:World) (k:KV) : Prop :=
 pC out1 (
 px prog (nilSem d0) w fun v9 w =>
 px prog (fieldAt 62 v9 0) w fun v10 w =>
 pu prog (storeAt 4 v10 (.bool false)) w fun w =>
 k (.int .i64 50) w)
 (
 k e2 w)
theorem F112_0_eq (d0:Value) (out1:Value) (e2:Value) (w:World) (k:KV) : F112A k [] (argEnv [d0,out1,e2]) w = F112_0 d0 out1 e2 w k := by kernel_rfl
theorem F112_in (d0:Value) (out1:Value) (e2:Value) (w:World) (k:KV) (h:F112_0 d0 out1 e2 w k) : pFn prog 112 [d0,out1,e2] w k :=
 pFn_of_at mixed func112 (by kernel_rfl) (by kernel_rfl) ntmps112 (by kernel_rfl) (by kernel_rfl) (by simp) ((F112_0_eq d0 out1 e2 w k).mpr h)
noncomputable def F113B : Code := bodyOf f113
def F113A (k:KV) (q:List Nat) (ρ:Env) (w:World) : Prop := At prog 38 F113B (retQ prog f113.results.toList k) q ρ w
def F113_0 (l0:Value) (x1:Value) (w:World) (k:KV) : Prop :=
 px prog (Instr.box 146 x1) w fun v3 w =>
 px prog (fieldAt 146 v3 0) w fun v6 w =>
 px prog (loadAt 3 v6) w fun v7 w =>
 px prog (binSem .eql 3 (.tmp 7) (.const (.int .i64 1)) v7 (.int .i64 1)) w fun v9 w =>
 pC v9 (
 px prog (fieldAt 146 v3 1) w fun v11 w =>
 px prog (loadAt 9 v11) w fun v12 w =>
 px prog (fieldAt 146 v3 3) w fun v13 w =>
 px prog (loadAt 142 v13) w fun v14 w =>
 pFn prog 101 [l0,v12,v14] w fun v15 w =>
 k v15 w)
 (
 px prog (binSem .eql 3 (.tmp 7) (.const (.int .i64 2)) v7 (.int .i64 2)) w fun v17 w =>
 pC v17 (
 px prog (fieldAt 146 v3 1) w fun v19 w =>
 px prog (loadAt 9 v19) w fun v20 w =>
 pFn prog 100 [l0,v20] w fun v21 w =>
 ∃ S : World → Prop,S w.drew ∧ (fun w =>
 pq prog S (fieldAt 146 v3 1) fun v23 =>
 pq prog S (loadAt 9 v23) fun v24 =>
 pq prog S (fieldAt 146 v3 2) fun v26 =>
 pq prog S (loadAt 9 v26) fun v27 =>
 pq prog S (indexAt 59 l0 v21) fun v30 =>
 pq prog S (fieldAt 144 v30 1) fun v31 =>
 pq prog S (loadAt 142 v31) fun v32 =>
 pFn prog 133 [l0,v24] w fun v25 w => S w ∧ (
 pFn prog 101 [v25,v27,v32] w fun v33 w => S w ∧ (
 k v33 w))) w.drew)
 (
 px prog (fieldAt 146 v3 1) w fun v35 w =>
 px prog (loadAt 9 v35) w fun v36 w =>
 pFn prog 133 [l0,v36] w fun v37 w =>
 k v37 w))
theorem F113_0_eq (l0:Value) (x1:Value) (w:World) (k:KV) : F113A k [] (argEnv [l0,x1]) w = F113_0 l0 x1 w k := by kernel_rfl
theorem F113_in (l0:Value) (x1:Value) (w:World) (k:KV) (h:F113_0 l0 x1 w k) : pFn prog 113 [l0,x1] w k :=
 pFn_of_at mixed func113 (by kernel_rfl) (by kernel_rfl) ntmps113 (by kernel_rfl) (by kernel_rfl) (by simp) ((F113_0_eq l0 x1 w k).mpr h)
noncomputable def F116B : Code := bodyOf f116
def F116A (k:KV) (q:List Nat) (ρ:Env) (w:World) : Prop := At prog 60 F116B (retQ prog f116.results.toList k) q ρ w
noncomputable def F116B1 : Code := sub F116B [1,1,1,1,0,1,0,0]
def F116Q1 (k:KV) (N1:KE) : Xt → KE := thenE N1 (contAt prog 60 F116B (retQ prog f116.results.toList k) [1,1,1,1,0,1,0])
def F116A1 (k:KV) (N1:KE) (q:List Nat) (ρ:Env) (w:World) : Prop := At prog 60 F116B1 (F116Q1 k N1) q ρ w
def F116L1 (k:KV) (ρ:Env) (w:World) : Prop := LoopAt prog 60 F116B (retQ prog f116.results.toList k) [1,1,1,1,0,1,0] ρ w
theorem F116L1_inv (k:KV) (I:Nat → KE) (round:∀ m ρ w,I m ρ w → F116A1 k (fun ρ' w' => ∃ m',m' < m ∧ I m' ρ' w') [] ρ w) {m:Nat} {ρ:Env} {w:World} (h:I m ρ w) : F116L1 k ρ w :=
 LoopAt_inv mixed (B := F116B) (Q := (retQ prog f116.results.toList k)) (p := [1,1,1,1,0,1,0]) (by kernel_rfl) (by kernel_rfl) I round h
def F116_0 (b0:Value) (c1:Value) (units2:Value) (w:World) (k:KV) : Prop :=
 px prog (Instr.box 186 c1) w fun v4 w =>
 px prog (fieldAt 186 v4 0) w fun v8 w =>
 px prog (loadAt 4 v8) w fun v9 w =>
 pC v9 (
 px prog (binSem .lss 3 (.tmp 10) (.const (.int .i64 1)) units2 (.int .i64 1)) w fun v11 w =>
 pC v11 (
 k b0 w)
 (
 px prog (fieldAt 186 v4 1) w fun v14 w =>
 px prog (loadAt 3 v14) w fun v15 w =>
 px prog (sliceAt 36 b0 none (some v15) none) w fun v16 w =>
 pFn prog 94 [v16] w fun v17 w =>
 k v17 w))
 (
 px prog (fieldAt 186 v4 2) w fun v19 w =>
 px prog (loadAt 36 v19) w fun v20 w =>
 px prog (bSem .len #[36] 3 #[v20]) w fun v21 w =>
 px prog (binSem .gtr 3 (.tmp 18) (.tmp 21) units2 v21) w fun v22 w =>
 pC v22 (
 px prog (fieldAt 186 v4 2) w fun v23 w =>
 px prog (loadAt 36 v23) w fun v24 w =>
 px prog (bSem .len #[36] 3 #[v24]) w fun v25 w =>
 F116A k [1,1,1] (put (put (put (put (put (put (put (put (put (put (put (put (put (argEnv [b0,c1,units2]) 4 v4) 6 (.slice none 0 0)) 8 v8) 9 v9) 18 units2) 19 v19) 20 v20) 21 v21) 22 v22) 23 v23) 24 v24) 25 v25) 2 v25) w)
 (
 F116A k [1,1,1] (put (put (put (put (put (put (put (put (put (argEnv [b0,c1,units2]) 4 v4) 6 (.slice none 0 0)) 8 v8) 9 v9) 18 units2) 19 v19) 20 v20) 21 v21) 22 v22) w))
theorem F116_0_eq (b0:Value) (c1:Value) (units2:Value) (w:World) (k:KV) : F116A k [] (argEnv [b0,c1,units2]) w = F116_0 b0 c1 units2 w k := by kernel_rfl
def F116_1 (k:KV) (ρ:Env) (w:World) : Prop :=
 pFn prog 94 [(ρ 0)] w fun v27 w =>
 F116L1 k (put (put (put (put ρ 26 (ρ 0)) 27 v27) 0 v27) 7 (.int .i64 0)) w
theorem F116_1_eq (k:KV) (ρ:Env) (w:World) : F116A k [1,1,1] ρ w = F116_1 k ρ w := by kernel_rfl
def F116_2 (k:KV) (N1:KE) (ρ:Env) (w:World) : Prop :=
 px prog (binSem .lss 3 (.tmp 28) (.tmp 29) (ρ 7) (ρ 2)) w fun v30 w =>
 pC v30 (
 px prog (fieldAt 186 (ρ 4) 1) w fun v33 w =>
 px prog (loadAt 3 v33) w fun v34 w =>
 px prog (binSem .add 3 (.tmp 34) (.tmp 35) v34 (ρ 7)) w fun v36 w =>
 px prog (bSem .len #[36] 3 #[(ρ 0)]) w fun v38 w =>
 px prog (binSem .lss 3 (.tmp 36) (.tmp 38) v36 v38) w fun v39 w =>
 pC v39 (
 ∃ S : World → Prop,S w.drew ∧ (fun w =>
 pq prog S (fieldAt 186 (ρ 4) 1) fun v41 =>
 pq prog S (loadAt 3 v41) fun v42 =>
 pq prog S (binSem .add 3 (.tmp 42) (.tmp 43) v42 (ρ 7)) fun v44 =>
 pq prog S (fieldAt 186 (ρ 4) 2) fun v45 =>
 pq prog S (loadAt 36 v45) fun v46 =>
 pq prog S (indexAt 36 v46 (ρ 7)) fun v48 =>
 pq prog S (loadAt 5 v48) fun v49 =>
 pq prog S (indexAt 36 (ρ 0) v44) fun v50 =>
 pu prog (storeAt 5 v50 v49) w fun w => (
 F116A1 k N1 [1,1] (put (put (put (put (put (put (put (put (put (put (put (put (put (put (put (put (put (put (put (put (put ρ 28 (ρ 7)) 29 (ρ 2)) 30 v30) 33 v33) 34 v34) 35 (ρ 7)) 36 v36) 37 (ρ 0)) 38 v38) 39 v39) 40 (ρ 0)) 41 v41) 42 v42) 43 (ρ 7)) 44 v44) 45 v45) 46 v46) 47 (ρ 7)) 48 v48) 49 v49) 50 v50) w)) w.drew)
 (
 px prog (fieldAt 186 (ρ 4) 2) w fun v52 w =>
 px prog (loadAt 36 v52) w fun v53 w =>
 px prog (indexAt 36 v53 (ρ 7)) w fun v55 w =>
 px prog (loadAt 5 v55) w fun v56 w =>
 px prog (Instr.buildSlice 36 1 #[(0,v56)]) w fun v57 w =>
 px prog (bSem .append #[36,36] 36 #[(ρ 0),v57]) w fun v58 w =>
 F116A1 k N1 [1,1] (put (put (put (put (put (put (put (put (put (put (put (put (put (put (put (put (put (put (put ρ 28 (ρ 7)) 29 (ρ 2)) 30 v30) 33 v33) 34 v34) 35 (ρ 7)) 36 v36) 37 (ρ 0)) 38 v38) 39 v39) 51 (ρ 0)) 52 v52) 53 v53) 54 (ρ 7)) 55 v55) 56 v56) 57 v57) 58 v58) 0 v58) w))
 (
 F116A k [1,1,1,1,1] (put (put (put ρ 28 (ρ 7)) 29 (ρ 2)) 30 v30) w)
theorem F116_2_eq (k:KV) (N1:KE) (ρ:Env) (w:World) : F116A1 k N1 [] ρ w = F116_2 k N1 ρ w := by kernel_rfl
def F116_3 (k:KV) (N1:KE) (ρ:Env) (w:World) : Prop :=
 px prog (binSem .add 3 (.tmp 31) (.const (.int .i64 1)) (ρ 7) (.int .i64 1)) w fun v32 w =>
 N1 (put (put (put ρ 31 (ρ 7)) 32 v32) 7 v32) w
theorem F116_3_eq (k:KV) (N1:KE) (ρ:Env) (w:World) : F116A1 k N1 [1,1] ρ w = F116_3 k N1 ρ w := by kernel_rfl
def F116_4 (k:KV) (ρ:Env) (w:World) : Prop :=
 k (ρ 0) w
theorem F116_4_eq (k:KV) (ρ:Env) (w:World) : F116A k [1,1,1,1,1] ρ w = F116_4 k ρ w := by kernel_rfl
theorem F116_in (b0:Value) (c1:Value) (units2:Value) (w:World) (k:KV) (h:F116_0 b0 c1 units2 w k) : pFn prog 116 [b0,c1,units2] w k :=
 pFn_of_at mixed func116 (by kernel_rfl) (by kernel_rfl) ntmps116 (by kernel_rfl) (by kernel_rfl) (by simp) ((F116_0_eq b0 c1 units2 w k).mpr h)
noncomputable def F120B : Code := bodyOf f120
def F120A (k:KV) (q:List Nat) (ρ:Env) (w:World) : Prop := At prog 29 F120B (retQ prog f120.results.toList k) q ρ w
def F120_0 (d0:Value) (name1:Value) (w:World) (k:KV) : Prop :=
 pFn prog 93 [d0,name1] w fun v11 w =>
 px prog (extract v11 0) w fun v12 w =>
 px prog (extract v11 1) w fun v13 w =>
 px prog (binSem .neq 3 (.tmp 14) (.const (.int .i64 0)) v13 (.int .i64 0)) w fun v15 w =>
 pC v15 (
 k (.tuple #[(.int .i64 0),v13]) w)
 (
 px prog (nilSem d0) w fun v18 w =>
 px prog (fieldAt 62 v18 2) w fun v19 w =>
 px prog (loadAt 59 v19) w fun v20 w =>
 px prog (indexAt 59 v20 v12) w fun v22 w =>
 px prog (fieldAt 144 v22 1) w fun v23 w =>
 px prog (loadAt 142 v23) w fun v24 w =>
 px prog (nilSem v24) w fun v25 w =>
 px prog (fieldAt 156 v25 1) w fun v26 w =>
 px prog (loadAt 36 v26) w fun v27 w =>
 px prog (bSem .len #[36] 3 #[v27]) w fun v28 w =>
 k (.tuple #[v28,(.int .i64 0)]) w)
theorem F120_0_eq (d0:Value) (name1:Value) (w:World) (k:KV) : F120A k [] (argEnv [d0,name1]) w = F120_0 d0 name1 w k := by kernel_rfl
theorem F120_in (d0:Value) (name1:Value) (w:World) (k:KV) (h:F120_0 d0 name1 w k) : pFn prog 120 [d0,name1] w k :=
 pFn_of_at mixed func120 (by kernel_rfl) (by kernel_rfl) ntmps120 (by kernel_rfl) (by kernel_rfl) (by simp) ((F120_0_eq d0 name1 w k).mpr h)
noncomputable def F121B : Code := bodyOf f121
def F121A (k:KV) (q:List Nat) (ρ:Env) (w:World) : Prop := At prog 14 F121B (retQ prog f121.results.toList k) q ρ w
def F121_0 (d0:Value) (p1:Value) (w:World) (k:KV) : Prop :=
 px prog (Instr.box 38 p1) w fun v3 w =>
 pFn prog 74 [d0] w fun v5 w =>
 px prog (Op.unary .not v5) w fun v6 w =>
 pC v6 (
 px prog (loadAt 38 v3) w fun v8 w =>
 px prog (nilSem d0) w fun v9 w =>
 px prog (fieldAt 62 v9 7) w fun v10 w =>
 pu prog (storeAt 38 v10 v8) w fun w =>
 px prog (nilSem d0) w fun v12 w =>
 px prog (fieldAt 62 v12 6) w fun v13 w =>
 pu prog (storeAt 3 v13 (.int .i64 0)) w fun w =>
 k (.tuple #[]) w)
 (
 k (.tuple #[]) w)
theorem F121_0_eq (d0:Value) (p1:Value) (w:World) (k:KV) : F121A k [] (argEnv [d0,p1]) w = F121_0 d0 p1 w k := by kernel_rfl
theorem F121_in (d0:Value) (p1:Value) (w:World) (k:KV) (h:F121_0 d0 p1 w k) : pFn prog 121 [d0,p1] w k :=
 pFn_of_at mixed func121 (by kernel_rfl) (by kernel_rfl) ntmps121 (by kernel_rfl) (by kernel_rfl) (by simp) ((F121_0_eq d0 p1 w k).mpr h)
noncomputable def F123B : Code := bodyOf f123
def F123A (k:KV) (q:List Nat) (ρ:Env) (w:World) : Prop := At prog 166 F123B (retQ prog f123.results.toList k) q ρ w
noncomputable def F123B1 : Code := sub F123B [1,1,1,0,1,0,0]
def F123Q1 (k:KV) (N1:KE) : Xt → KE := thenE N1 (contAt prog 166 F123B (retQ prog f123.results.toList k) [1,1,1,0,1,0])
def F123A1 (k:KV) (N1:KE) (q:List Nat) (ρ:Env) (w:World) : Prop := At prog 166 F123B1 (F123Q1 k N1) q ρ w
def F123L1 (k:KV) (ρ:Env) (w:World) : Prop := LoopAt prog 166 F123B (retQ prog f123.results.toList k) [1,1,1,0,1,0] ρ w
theorem F123L1_inv (k:KV) (I:Nat → KE) (round:∀ m ρ w,I m ρ w → F123A1 k (fun ρ' w' => ∃ m',m' < m ∧ I m' ρ' w') [] ρ w) {m:Nat} {ρ:Env} {w:World} (h:I m ρ w) : F123L1 k ρ w :=
 LoopAt_inv mixed (B := F123B) (Q := (retQ prog f123.results.toList k)) (p := [1,1,1,0,1,0]) (by kernel_rfl) (by kernel_rfl) I round h
noncomputable def F123B2 : Code := sub F123B [1,1,1,1,1,0,1,0,0]
def F123Q2 (k:KV) (N2:KE) : Xt → KE := thenE N2 (contAt prog 166 F123B (retQ prog f123.results.toList k) [1,1,1,1,1,0,1,0])
def F123A2 (k:KV) (N2:KE) (q:List Nat) (ρ:Env) (w:World) : Prop := At prog 166 F123B2 (F123Q2 k N2) q ρ w
def F123L2 (k:KV) (ρ:Env) (w:World) : Prop := LoopAt prog 166 F123B (retQ prog f123.results.toList k) [1,1,1,1,1,0,1,0] ρ w
theorem F123L2_inv (k:KV) (I:Nat → KE) (round:∀ m ρ w,I m ρ w → F123A2 k (fun ρ' w' => ∃ m',m' < m ∧ I m' ρ' w') [] ρ w) {m:Nat} {ρ:Env} {w:World} (h:I m ρ w) : F123L2 k ρ w :=
 LoopAt_inv mixed (B := F123B) (Q := (retQ prog f123.results.toList k)) (p := [1,1,1,1,1,0,1,0]) (by kernel_rfl) (by kernel_rfl) I round h
noncomputable def F123B3 : Code := sub F123B2 [1,0,0,1,1,0,1,0,0]
def F123Q3 (k:KV) (N2:KE) (N3:KE) : Xt → KE := thenE N3 (contAt prog 166 F123B2 (F123Q2 k N2) [1,0,0,1,1,0,1,0])
def F123A3 (k:KV) (N2:KE) (N3:KE) (q:List Nat) (ρ:Env) (w:World) : Prop := At prog 166 F123B3 (F123Q3 k N2 N3) q ρ w
def F123L3 (k:KV) (N2:KE) (ρ:Env) (w:World) : Prop := LoopAt prog 166 F123B2 (F123Q2 k N2) [1,0,0,1,1,0,1,0] ρ w
theorem F123L3_inv (k:KV) (N2:KE) (I:Nat → KE) (round:∀ m ρ w,I m ρ w → F123A3 k N2 (fun ρ' w' => ∃ m',m' < m ∧ I m' ρ' w') [] ρ w) {m:Nat} {ρ:Env} {w:World} (h:I m ρ w) : F123L3 k N2 ρ w :=
 LoopAt_inv mixed (B := F123B2) (Q := (F123Q2 k N2)) (p := [1,0,0,1,1,0,1,0]) (by kernel_rfl) (by kernel_rfl) I round h
noncomputable def F123B4 : Code := sub F123B2 [1,0,0,1,1,1,1,1,0,1,0,0]
def F123Q4 (k:KV) (N2:KE) (N4:KE) : Xt → KE := thenE N4 (contAt prog 166 F123B2 (F123Q2 k N2) [1,0,0,1,1,1,1,1,0,1,0])
def F123A4 (k:KV) (N2:KE) (N4:KE) (q:List Nat) (ρ:Env) (w:World) : Prop := At prog 166 F123B4 (F123Q4 k N2 N4) q ρ w
def F123L4 (k:KV) (N2:KE) (ρ:Env) (w:World) : Prop := LoopAt prog 166 F123B2 (F123Q2 k N2) [1,0,0,1,1,1,1,1,0,1,0] ρ w
theorem F123L4_inv (k:KV) (N2:KE) (I:Nat → KE) (round:∀ m ρ w,I m ρ w → F123A4 k N2 (fun ρ' w' => ∃ m',m' < m ∧ I m' ρ' w') [] ρ w) {m:Nat} {ρ:Env} {w:World} (h:I m ρ w) : F123L4 k N2 ρ w :=
 LoopAt_inv mixed (B := F123B2) (Q := (F123Q2 k N2)) (p := [1,0,0,1,1,1,1,1,0,1,0]) (by kernel_rfl) (by kernel_rfl) I round h
def F123_0 (d0:Value) (picks1:Value) (w:World) (k:KV) : Prop :=
 px prog (binSem .eql 30 (.tmp 16) (.const (.pointer none)) d0 (.pointer none)) w fun v17 w =>
 pG v17 false (fun k => k d0 w) (w := w) (next := fun v19 w =>
 pG v17 false (fun k => px prog (nilSem v19) w k) (w := w) (next := fun v20 w =>
 pG v17 false (fun k => px prog (fieldAt 62 v20 1) w k) (w := w) (next := fun v21 w =>
 pG v17 false (fun k => px prog (loadAt 3 v21) w k) (w := w) (next := fun v22 w =>
 pG v17 false (fun k => px prog (binSem .eql 3 (.tmp 22) (.const (.int .i64 0)) v22 (.int .i64 0)) w k) (w := w) (next := fun v23 w =>
 px prog (pickSem v17 (.bool true) v23) w fun v24 w =>
 pC v24 (
 k (.tuple #[]) w)
 (
 px prog (nilSem d0) w fun v26 w =>
 px prog (fieldAt 62 v26 3) w fun v27 w =>
 px prog (loadAt 59 v27) w fun v28 w =>
 px prog (nilSem d0) w fun v31 w =>
 px prog (fieldAt 62 v31 4) w fun v32 w =>
 px prog (loadAt 60 v32) w fun v33 w =>
 px prog (bSem .len #[60] 3 #[v33]) w fun v34 w =>
 pFn prog 135 [picks1,(.int .i64 0),v34] w fun v35 w =>
 F123L1 k (put (put (put (put (put (put (put (put (put (put (put (put (put (put (put (put (put (put (put (put (put (put (put (argEnv [d0,picks1]) 16 d0) 17 v17) 18 v17) 19 v19) 20 v20) 21 v21) 22 v22) 23 v23) 24 v24) 25 d0) 26 v26) 27 v27) 28 v28) 4 v28) 29 picks1) 30 d0) 31 v31) 32 v32) 33 v33) 34 v34) 35 v35) 5 v35) 6 (.int .i64 0)) w))))))
theorem F123_0_eq (d0:Value) (picks1:Value) (w:World) (k:KV) : F123A k [] (argEnv [d0,picks1]) w = F123_0 d0 picks1 w k := by kernel_rfl
def F123_1 (k:KV) (N1:KE) (ρ:Env) (w:World) : Prop :=
 px prog (binSem .lss 3 (.tmp 36) (.tmp 37) (ρ 6) (ρ 5)) w fun v38 w =>
 pC v38 (
 px prog (nilSem (ρ 0)) w fun v43 w =>
 px prog (fieldAt 62 v43 4) w fun v44 w =>
 px prog (loadAt 60 v44) w fun v45 w =>
 px prog (indexAt 60 v45 (ρ 6)) w fun v47 w =>
 px prog (loadAt 146 v47) w fun v48 w =>
 pFn prog 113 [(ρ 4),v48] w fun v49 w =>
 px prog (binSem .add 3 (.tmp 39) (.const (.int .i64 1)) (ρ 6) (.int .i64 1)) w fun v40 w =>
 N1 (put (put (put (put (put (put (put (put (put (put (put (put (put (put (put (put ρ 36 (ρ 6)) 37 (ρ 5)) 38 v38) 41 (ρ 4)) 42 (ρ 0)) 43 v43) 44 v44) 45 v45) 46 (ρ 6)) 47 v47) 48 v48) 49 v49) 4 v49) 39 (ρ 6)) 40 v40) 6 v40) w)
 (
 F123A k [1,1,1,1] (put (put (put ρ 36 (ρ 6)) 37 (ρ 5)) 38 v38) w)
theorem F123_1_eq (k:KV) (N1:KE) (ρ:Env) (w:World) : F123A1 k N1 [] ρ w = F123_1 k N1 ρ w := by kernel_rfl
def F123_2 (k:KV) (ρ:Env) (w:World) : Prop :=
 F123L2 k (put (put ρ 7 (.slice none 0 0)) 8 (.int .i64 0)) w
theorem F123_2_eq (k:KV) (ρ:Env) (w:World) : F123A k [1,1,1,1] ρ w = F123_2 k ρ w := by kernel_rfl
def F123_3 (k:KV) (N2:KE) (ρ:Env) (w:World) : Prop :=
 px prog (bSem .len #[59] 3 #[(ρ 4)]) w fun v52 w =>
 px prog (binSem .lss 3 (.tmp 50) (.tmp 52) (ρ 8) v52) w fun v53 w =>
 pC v53 (
 px prog (indexAt 59 (ρ 4) (ρ 8)) w fun v58 w =>
 px prog (fieldAt 144 v58 1) w fun v59 w =>
 px prog (loadAt 142 v59) w fun v60 w =>
 F123L3 k N2 (put (put (put (put (put (put (put (put (put (put (put (put ρ 50 (ρ 8)) 51 (ρ 4)) 52 v52) 53 v53) 56 (ρ 4)) 57 (ρ 8)) 58 v58) 59 v59) 60 v60) 9 v60) 10 (.int .i64 0)) 11 (.int .i64 0)) w)
 (
 F123A k [1,1,1,1,1,1] (put (put (put (put ρ 50 (ρ 8)) 51 (ρ 4)) 52 v52) 53 v53) w)
theorem F123_3_eq (k:KV) (N2:KE) (ρ:Env) (w:World) : F123A2 k N2 [] ρ w = F123_3 k N2 ρ w := by kernel_rfl
def F123_4 (k:KV) (N2:KE) (N3:KE) (ρ:Env) (w:World) : Prop :=
 px prog (nilSem (ρ 9)) w fun v63 w =>
 px prog (fieldAt 156 v63 2) w fun v64 w =>
 px prog (loadAt 154 v64) w fun v65 w =>
 px prog (bSem .len #[154] 3 #[v65]) w fun v66 w =>
 px prog (binSem .lss 3 (.tmp 61) (.tmp 66) (ρ 11) v66) w fun v67 w =>
 pC v67 (
 px prog (nilSem (ρ 9)) w fun v72 w =>
 px prog (fieldAt 156 v72 2) w fun v73 w =>
 px prog (loadAt 154 v73) w fun v74 w =>
 px prog (indexAt 154 v74 (ρ 11)) w fun v76 w =>
 px prog (loadAt 186 v76) w fun v77 w =>
 pFn prog 136 [v77] w fun v78 w =>
 px prog (binSem .add 3 (.tmp 70) (.tmp 78) (ρ 10) v78) w fun v79 w =>
 px prog (binSem .add 3 (.tmp 68) (.const (.int .i64 1)) (ρ 11) (.int .i64 1)) w fun v69 w =>
 N3 (put (put (put (put (put (put (put (put (put (put (put (put (put (put (put (put (put (put (put (put (put ρ 61 (ρ 11)) 62 (ρ 9)) 63 v63) 64 v64) 65 v65) 66 v66) 67 v67) 70 (ρ 10)) 71 (ρ 9)) 72 v72) 73 v73) 74 v74) 75 (ρ 11)) 76 v76) 77 v77) 78 v78) 79 v79) 10 v79) 68 (ρ 11)) 69 v69) 11 v69) w)
 (
 F123A2 k N2 [1,0,0,1,1,1] (put (put (put (put (put (put (put ρ 61 (ρ 11)) 62 (ρ 9)) 63 v63) 64 v64) 65 v65) 66 v66) 67 v67) w)
theorem F123_4_eq (k:KV) (N2:KE) (N3:KE) (ρ:Env) (w:World) : F123A3 k N2 N3 [] ρ w = F123_4 k N2 N3 ρ w := by kernel_rfl
def F123_5 (k:KV) (ρ:Env) (w:World) : Prop :=
 px prog (nilSem (ρ 0)) w fun v144 w =>
 px prog (fieldAt 62 v144 2) w fun v145 w =>
 pu prog (storeAt 59 v145 (ρ 7)) w fun w =>
 px prog (nilSem (ρ 0)) w fun v148 w =>
 px prog (fieldAt 62 v148 3) w fun v149 w =>
 pu prog (storeAt 59 v149 (ρ 7)) w fun w =>
 px prog (nilSem (ρ 0)) w fun v151 w =>
 px prog (fieldAt 62 v151 4) w fun v152 w =>
 pu prog (storeAt 60 v152 (.slice none 0 0)) w fun w =>
 px prog (nilSem (ρ 0)) w fun v154 w =>
 px prog (fieldAt 62 v154 0) w fun v155 w =>
 pu prog (storeAt 4 v155 (.bool true)) w fun w =>
 px prog (Instr.build 38 #[]) w fun v157 w =>
 px prog (nilSem (ρ 0)) w fun v158 w =>
 px prog (fieldAt 62 v158 7) w fun v159 w =>
 pu prog (storeAt 38 v159 v157) w fun w =>
 px prog (nilSem (ρ 0)) w fun v161 w =>
 px prog (fieldAt 62 v161 5) w fun v162 w =>
 pu prog (storeAt 3 v162 (.int .i64 0)) w fun w =>
 px prog (nilSem (ρ 0)) w fun v164 w =>
 px prog (fieldAt 62 v164 6) w fun v165 w =>
 pu prog (storeAt 3 v165 (.int .i64 0)) w fun w =>
 k (.tuple #[]) w
theorem F123_5_eq (k:KV) (ρ:Env) (w:World) : F123A k [1,1,1,1,1,1] ρ w = F123_5 k ρ w := by kernel_rfl
def F123_6 (k:KV) (N2:KE) (ρ:Env) (w:World) : Prop :=
 px prog (binSem .add 3 (.tmp 81) (.const (.int .i64 1)) (ρ 8) (.int .i64 1)) w fun v82 w =>
 pFn prog 135 [(ρ 1),v82,(ρ 10)] w fun v84 w =>
 px prog (nilSem (ρ 9)) w fun v86 w =>
 px prog (fieldAt 156 v86 0) w fun v87 w =>
 px prog (loadAt 36 v87) w fun v88 w =>
 pFn prog 94 [v88] w fun v89 w =>
 F123L4 k N2 (put (put (put (put (put (put (put (put (put (put (put (put (put ρ 80 (ρ 1)) 81 (ρ 8)) 82 v82) 83 (ρ 10)) 84 v84) 12 v84) 85 (ρ 9)) 86 v86) 87 v87) 88 v88) 89 v89) 13 v89) 14 (.int .i64 0)) w
theorem F123_6_eq (k:KV) (N2:KE) (ρ:Env) (w:World) : F123A2 k N2 [1,0,0,1,1,1] ρ w = F123_6 k N2 ρ w := by kernel_rfl
def F123_7 (k:KV) (N2:KE) (N4:KE) (ρ:Env) (w:World) : Prop :=
 px prog (nilSem (ρ 9)) w fun v92 w =>
 px prog (fieldAt 156 v92 2) w fun v93 w =>
 px prog (loadAt 154 v93) w fun v94 w =>
 px prog (bSem .len #[154] 3 #[v94]) w fun v95 w =>
 px prog (binSem .lss 3 (.tmp 90) (.tmp 95) (ρ 14) v95) w fun v96 w =>
 pG v96 true (fun k => k (ρ 12) w) (w := w) (next := fun v98 w =>
 pG v96 true (fun k => px prog (binSem .gtr 3 (.tmp 98) (.const (.int .i64 0)) v98 (.int .i64 0)) w k) (w := w) (next := fun v99 w =>
 px prog (pickSem v96 v99 (.bool false)) w fun v100 w =>
 pC v100 (
 px prog (nilSem (ρ 9)) w fun v104 w =>
 px prog (fieldAt 156 v104 2) w fun v105 w =>
 px prog (loadAt 154 v105) w fun v106 w =>
 px prog (indexAt 154 v106 (ρ 14)) w fun v108 w =>
 px prog (loadAt 186 v108) w fun v109 w =>
 pFn prog 136 [v109] w fun v110 w =>
 px prog (binSem .gtr 3 (.tmp 111) (.tmp 112) v110 (ρ 12)) w fun v113 w =>
 pC v113 (
 F123A4 k N2 N4 [1,0,0,1,1] (put (put (put (put (put (put (put (put (put (put (put (put (put (put (put (put (put (put (put (put (put (put (put (put (put ρ 90 (ρ 14)) 91 (ρ 9)) 92 v92) 93 v93) 94 v94) 95 v95) 96 v96) 97 v96) 98 v98) 99 v99) 100 v100) 103 (ρ 9)) 104 v104) 105 v105) 106 v106) 107 (ρ 14)) 108 v108) 109 v109) 110 v110) 15 v110) 111 v110) 112 (ρ 12)) 113 v113) 114 (ρ 12)) 15 (ρ 12)) w)
 (
 F123A4 k N2 N4 [1,0,0,1,1] (put (put (put (put (put (put (put (put (put (put (put (put (put (put (put (put (put (put (put (put (put (put (put ρ 90 (ρ 14)) 91 (ρ 9)) 92 v92) 93 v93) 94 v94) 95 v95) 96 v96) 97 v96) 98 v98) 99 v99) 100 v100) 103 (ρ 9)) 104 v104) 105 v105) 106 v106) 107 (ρ 14)) 108 v108) 109 v109) 110 v110) 15 v110) 111 v110) 112 (ρ 12)) 113 v113) w))
 (
 F123A2 k N2 [1,0,0,1,1,1,1,1,1] (put (put (put (put (put (put (put (put (put (put (put ρ 90 (ρ 14)) 91 (ρ 9)) 92 v92) 93 v93) 94 v94) 95 v95) 96 v96) 97 v96) 98 v98) 99 v99) 100 v100) w)))
theorem F123_7_eq (k:KV) (N2:KE) (N4:KE) (ρ:Env) (w:World) : F123A4 k N2 N4 [] ρ w = F123_7 k N2 N4 ρ w := by kernel_rfl
def F123_8 (k:KV) (N2:KE) (N4:KE) (ρ:Env) (w:World) : Prop :=
 px prog (nilSem (ρ 9)) w fun v117 w =>
 px prog (fieldAt 156 v117 2) w fun v118 w =>
 px prog (loadAt 154 v118) w fun v119 w =>
 px prog (indexAt 154 v119 (ρ 14)) w fun v121 w =>
 px prog (loadAt 186 v121) w fun v122 w =>
 pFn prog 116 [(ρ 13),v122,(ρ 15)] w fun v124 w =>
 px prog (binSem .sub 3 (.tmp 125) (.tmp 126) (ρ 12) (ρ 15)) w fun v127 w =>
 px prog (binSem .add 3 (.tmp 101) (.const (.int .i64 1)) (ρ 14) (.int .i64 1)) w fun v102 w =>
 N4 (put (put (put (put (put (put (put (put (put (put (put (put (put (put (put (put (put (put ρ 115 (ρ 13)) 116 (ρ 9)) 117 v117) 118 v118) 119 v119) 120 (ρ 14)) 121 v121) 122 v122) 123 (ρ 15)) 124 v124) 13 v124) 125 (ρ 12)) 126 (ρ 15)) 127 v127) 12 v127) 101 (ρ 14)) 102 v102) 14 v102) w
theorem F123_8_eq (k:KV) (N2:KE) (N4:KE) (ρ:Env) (w:World) : F123A4 k N2 N4 [1,0,0,1,1] ρ w = F123_8 k N2 N4 ρ w := by kernel_rfl
def F123_9 (k:KV) (N2:KE) (ρ:Env) (w:World) : Prop :=
 ∃ S : World → Prop,S w.drew ∧ (fun w =>
 pq prog S (indexAt 59 (ρ 4) (ρ 8)) fun v131 =>
 pq prog S (fieldAt 144 v131 0) fun v132 =>
 pq prog S (loadAt 9 v132) fun v133 =>
 pFn prog 94 [(ρ 13)] w fun v136 w => S w ∧ (
 pq prog S (Instr.build 156 #[(0,(ρ 13)),(1,v136)]) fun v137 =>
 px prog (Instr.box 156 v137) w fun v138 w => S w ∧ (
 pq prog S (Instr.build 144 #[(0,v133),(1,v138)]) fun v139 =>
 px prog (Instr.buildSlice 59 1 #[(0,v139)]) w fun v140 w => S w ∧ (
 px prog (bSem .append #[59,59] 59 #[(ρ 7),v140]) w fun v141 w => S w ∧ (
 px prog (binSem .add 3 (.tmp 54) (.const (.int .i64 1)) (ρ 8) (.int .i64 1)) w fun v55 w =>
 N2 (put (put (put (put (put (put (put (put (put (put (put (put (put (put (put (put (put (put ρ 128 (ρ 7)) 129 (ρ 4)) 130 (ρ 8)) 131 v131) 132 v132) 133 v133) 134 (ρ 13)) 135 (ρ 13)) 136 v136) 137 v137) 138 v138) 139 v139) 140 v140) 141 v141) 7 v141) 54 (ρ 8)) 55 v55) 8 v55) w))))) w.drew
theorem F123_9_eq (k:KV) (N2:KE) (ρ:Env) (w:World) : F123A2 k N2 [1,0,0,1,1,1,1,1,1] ρ w = F123_9 k N2 ρ w := by kernel_rfl
theorem F123_in (d0:Value) (picks1:Value) (w:World) (k:KV) (h:F123_0 d0 picks1 w k) : pFn prog 123 [d0,picks1] w k :=
 pFn_of_at mixed func123 (by kernel_rfl) (by kernel_rfl) ntmps123 (by kernel_rfl) (by kernel_rfl) (by simp) ((F123_0_eq d0 picks1 w k).mpr h)
noncomputable def F126B : Code := bodyOf f126
def F126A (k:KV) (q:List Nat) (ρ:Env) (w:World) : Prop := At prog 7 F126B (retQ prog f126.results.toList k) q ρ w
def F126_0 (d0:Value) (w:World) (k:KV) : Prop :=
 px prog (binSem .neq 30 (.tmp 2) (.const (.pointer none)) d0 (.pointer none)) w fun v3 w =>
 pC v3 (
 px prog (nilSem d0) w fun v5 w =>
 px prog (fieldAt 62 v5 8) w fun v6 w =>
 pu prog (storeAt 56 v6 (.slice none 0 0)) w fun w =>
 k (.tuple #[]) w)
 (
 k (.tuple #[]) w)
theorem F126_0_eq (d0:Value) (w:World) (k:KV) : F126A k [] (argEnv [d0]) w = F126_0 d0 w k := by kernel_rfl
theorem F126_in (d0:Value) (w:World) (k:KV) (h:F126_0 d0 w k) : pFn prog 126 [d0] w k :=
 pFn_of_at mixed func126 (by kernel_rfl) (by kernel_rfl) ntmps126 (by kernel_rfl) (by kernel_rfl) (by simp) ((F126_0_eq d0 w k).mpr h)
noncomputable def F133B : Code := bodyOf f133
def F133A (k:KV) (q:List Nat) (ρ:Env) (w:World) : Prop := At prog 28 F133B (retQ prog f133.results.toList k) q ρ w
noncomputable def F133B1 : Code := sub F133B [1,1,0,1,0,0]
def F133Q1 (k:KV) (N1:KE) : Xt → KE := thenE N1 (contAt prog 28 F133B (retQ prog f133.results.toList k) [1,1,0,1,0])
def F133A1 (k:KV) (N1:KE) (q:List Nat) (ρ:Env) (w:World) : Prop := At prog 28 F133B1 (F133Q1 k N1) q ρ w
def F133L1 (k:KV) (ρ:Env) (w:World) : Prop := LoopAt prog 28 F133B (retQ prog f133.results.toList k) [1,1,0,1,0] ρ w
theorem F133L1_inv (k:KV) (I:Nat → KE) (round:∀ m ρ w,I m ρ w → F133A1 k (fun ρ' w' => ∃ m',m' < m ∧ I m' ρ' w') [] ρ w) {m:Nat} {ρ:Env} {w:World} (h:I m ρ w) : F133L1 k ρ w :=
 LoopAt_inv mixed (B := F133B) (Q := (retQ prog f133.results.toList k)) (p := [1,1,0,1,0]) (by kernel_rfl) (by kernel_rfl) I round h
def F133_0 (l0:Value) (name1:Value) (w:World) (k:KV) : Prop :=
 F133L1 k (put (put (put (argEnv [l0,name1]) 4 (.slice none 0 0)) 5 (.slice none 0 0)) 6 (.int .i64 0)) w
theorem F133_0_eq (l0:Value) (name1:Value) (w:World) (k:KV) : F133A k [] (argEnv [l0,name1]) w = F133_0 l0 name1 w k := by kernel_rfl
def F133_1 (k:KV) (N1:KE) (ρ:Env) (w:World) : Prop :=
 px prog (bSem .len #[59] 3 #[(ρ 0)]) w fun v9 w =>
 px prog (binSem .lss 3 (.tmp 7) (.tmp 9) (ρ 6) v9) w fun v10 w =>
 pC v10 (
 px prog (indexAt 59 (ρ 0) (ρ 6)) w fun v15 w =>
 px prog (fieldAt 144 v15 0) w fun v16 w =>
 px prog (loadAt 9 v16) w fun v17 w =>
 px prog (binSem .neq 9 (.tmp 17) (.tmp 18) v17 (ρ 1)) w fun v19 w =>
 pC v19 (
 px prog (indexAt 59 (ρ 0) (ρ 6)) w fun v23 w =>
 px prog (loadAt 144 v23) w fun v24 w =>
 px prog (Instr.buildSlice 59 1 #[(0,v24)]) w fun v25 w =>
 px prog (bSem .append #[59,59] 59 #[(ρ 5),v25]) w fun v26 w =>
 F133A1 k N1 [1,1] (put (put (put (put (put (put (put (put (put (put (put (put (put (put (put (put (put (put (put ρ 7 (ρ 6)) 8 (ρ 0)) 9 v9) 10 v10) 13 (ρ 0)) 14 (ρ 6)) 15 v15) 16 v16) 17 v17) 18 (ρ 1)) 19 v19) 20 (ρ 5)) 21 (ρ 0)) 22 (ρ 6)) 23 v23) 24 v24) 25 v25) 26 v26) 5 v26) w)
 (
 F133A1 k N1 [1,1] (put (put (put (put (put (put (put (put (put (put (put ρ 7 (ρ 6)) 8 (ρ 0)) 9 v9) 10 v10) 13 (ρ 0)) 14 (ρ 6)) 15 v15) 16 v16) 17 v17) 18 (ρ 1)) 19 v19) w))
 (
 F133A k [1,1,1] (put (put (put (put ρ 7 (ρ 6)) 8 (ρ 0)) 9 v9) 10 v10) w)
theorem F133_1_eq (k:KV) (N1:KE) (ρ:Env) (w:World) : F133A1 k N1 [] ρ w = F133_1 k N1 ρ w := by kernel_rfl
def F133_2 (k:KV) (N1:KE) (ρ:Env) (w:World) : Prop :=
 px prog (binSem .add 3 (.tmp 11) (.const (.int .i64 1)) (ρ 6) (.int .i64 1)) w fun v12 w =>
 N1 (put (put (put ρ 11 (ρ 6)) 12 v12) 6 v12) w
theorem F133_2_eq (k:KV) (N1:KE) (ρ:Env) (w:World) : F133A1 k N1 [1,1] ρ w = F133_2 k N1 ρ w := by kernel_rfl
def F133_3 (k:KV) (ρ:Env) (w:World) : Prop :=
 k (ρ 5) w
theorem F133_3_eq (k:KV) (ρ:Env) (w:World) : F133A k [1,1,1] ρ w = F133_3 k ρ w := by kernel_rfl
theorem F133_in (l0:Value) (name1:Value) (w:World) (k:KV) (h:F133_0 l0 name1 w k) : pFn prog 133 [l0,name1] w k :=
 pFn_of_at mixed func133 (by kernel_rfl) (by kernel_rfl) ntmps133 (by kernel_rfl) (by kernel_rfl) (by simp) ((F133_0_eq l0 name1 w k).mpr h)
noncomputable def F135B : Code := bodyOf f135
def F135A (k:KV) (q:List Nat) (ρ:Env) (w:World) : Prop := At prog 26 F135B (retQ prog f135.results.toList k) q ρ w
def F135_0 (picks0:Value) (k1:Value) (n2:Value) (w:World) (k:KV) : Prop :=
 px prog (bSem .len #[39] 3 #[picks0]) w fun v10 w =>
 px prog (binSem .geq 3 (.tmp 8) (.tmp 10) k1 v10) w fun v11 w =>
 pC v11 (
 k (.int .i64 0) w)
 (
 px prog (indexAt 39 picks0 k1) w fun v14 w =>
 px prog (loadAt 3 v14) w fun v15 w =>
 px prog (binSem .add 3 (.tmp 16) (.const (.int .i64 1)) n2 (.int .i64 1)) w fun v17 w =>
 px prog (binSem .rem 3 (.tmp 15) (.tmp 17) v15 v17) w fun v18 w =>
 px prog (binSem .lss 3 (.tmp 19) (.const (.int .i64 0)) v18 (.int .i64 0)) w fun v20 w =>
 pC v20 (
 px prog (binSem .add 3 (.tmp 21) (.tmp 22) v18 n2) w fun v23 w =>
 px prog (binSem .add 3 (.tmp 23) (.const (.int .i64 1)) v23 (.int .i64 1)) w fun v24 w =>
 F135A k [1,1,1,1] (put (put (put (put (put (put (put (put (put (put (put (put (put (put (put (put (put (put (put (put (argEnv [picks0,k1,n2]) 6 (.int .i64 0)) 8 k1) 9 picks0) 10 v10) 11 v11) 12 picks0) 13 k1) 14 v14) 15 v15) 16 n2) 17 v17) 18 v18) 7 v18) 19 v18) 20 v20) 21 v18) 22 n2) 23 v23) 24 v24) 7 v24) w)
 (
 F135A k [1,1,1,1] (put (put (put (put (put (put (put (put (put (put (put (put (put (put (put (argEnv [picks0,k1,n2]) 6 (.int .i64 0)) 8 k1) 9 picks0) 10 v10) 11 v11) 12 picks0) 13 k1) 14 v14) 15 v15) 16 n2) 17 v17) 18 v18) 7 v18) 19 v18) 20 v20) w))
theorem F135_0_eq (picks0:Value) (k1:Value) (n2:Value) (w:World) (k:KV) : F135A k [] (argEnv [picks0,k1,n2]) w = F135_0 picks0 k1 n2 w k := by kernel_rfl
def F135_1 (k:KV) (ρ:Env) (w:World) : Prop :=
 k (ρ 7) w
theorem F135_1_eq (k:KV) (ρ:Env) (w:World) : F135A k [1,1,1,1] ρ w = F135_1 k ρ w := by kernel_rfl
theorem F135_in (picks0:Value) (k1:Value) (n2:Value) (w:World) (k:KV) (h:F135_0 picks0 k1 n2 w k) : pFn prog 135 [picks0,k1,n2] w k :=
 pFn_of_at mixed func135 (by kernel_rfl) (by kernel_rfl) ntmps135 (by kernel_rfl) (by kernel_rfl) (by simp) ((F135_0_eq picks0 k1 n2 w k).mpr h)
noncomputable def F136B : Code := bodyOf f136
def F136A (k:KV) (q:List Nat) (ρ:Env) (w:World) : Prop := At prog 8 F136B (retQ prog f136.results.toList k) q ρ w
def F136_0 (c0:Value) (w:World) (k:KV) : Prop :=
 px prog (Instr.box 186 c0) w fun v1 w =>
 px prog (fieldAt 186 v1 0) w fun v3 w =>
 px prog (loadAt 4 v3) w fun v4 w =>
 pC v4 (
 k (.int .i64 1) w)
 (
 px prog (fieldAt 186 v1 2) w fun v5 w =>
 px prog (loadAt 36 v5) w fun v6 w =>
 px prog (bSem .len #[36] 3 #[v6]) w fun v7 w =>
 k v7 w)
theorem F136_0_eq (c0:Value) (w:World) (k:KV) : F136A k [] (argEnv [c0]) w = F136_0 c0 w k := by kernel_rfl
theorem F136_in (c0:Value) (w:World) (k:KV) (h:F136_0 c0 w k) : pFn prog 136 [c0] w k :=
 pFn_of_at mixed func136 (by kernel_rfl) (by kernel_rfl) ntmps136 (by kernel_rfl) (by kernel_rfl) (by simp) ((F136_0_eq c0 w k).mpr h)
end Go.Proofs.YtcdcojpfealppaaGreat
