/- Put together by a program (wip/tools/shake.py): R3. -/
import Derived.Test.YtcdcojpfealppaaGreatY1
import Derived.Test.YtcdcojpfealppaaGreatProg
import Derived.Test.YtcdcojpfealppaaGreatMix
set_option linter.unusedVariables false
set_option maxRecDepth 100000
namespace Go.Proofs.YtcdcojpfealppaaGreat
open Go Go.Proofs Go.Proofs.XRed Tryz
open Go.Instr (fieldAt loadAt storeAt indexAt sliceAt extract)
noncomputable def F13B : Code := bodyOf f13
def F13A (k:KV) (q:List Nat) (ρ:Env) (w:World) : Prop := At prog 131 F13B (retQ prog f13.results.toList k) q ρ w
noncomputable def F13B1 : Code := sub F13B [1,1,0,1,0,0]
def F13Q1 (k:KV) (N1:KE) : Xt → KE := thenE N1 (contAt prog 131 F13B (retQ prog f13.results.toList k) [1,1,0,1,0])
def F13A1 (k:KV) (N1:KE) (q:List Nat) (ρ:Env) (w:World) : Prop := At prog 131 F13B1 (F13Q1 k N1) q ρ w
def F13L1 (k:KV) (ρ:Env) (w:World) : Prop := LoopAt prog 131 F13B (retQ prog f13.results.toList k) [1,1,0,1,0] ρ w
theorem F13L1_inv (k:KV) (I:Nat → KE) (round:∀ m ρ w,I m ρ w → F13A1 k (fun ρ' w' => ∃ m',m' < m ∧ I m' ρ' w') [] ρ w) {m:Nat} {ρ:Env} {w:World} (h:I m ρ w) : F13L1 k ρ w :=
 LoopAt_inv mixed (B := F13B) (Q := (retQ prog f13.results.toList k)) (p := [1,1,0,1,0]) (by kernel_rfl) (by kernel_rfl) I round h
noncomputable def F13B2 : Code := sub F13B [1,1,1,1,1,1,1,1,0,1,0,0]
def F13Q2 (k:KV) (N2:KE) : Xt → KE := thenE N2 (contAt prog 131 F13B (retQ prog f13.results.toList k) [1,1,1,1,1,1,1,1,0,1,0])
def F13A2 (k:KV) (N2:KE) (q:List Nat) (ρ:Env) (w:World) : Prop := At prog 131 F13B2 (F13Q2 k N2) q ρ w
def F13L2 (k:KV) (ρ:Env) (w:World) : Prop := LoopAt prog 131 F13B (retQ prog f13.results.toList k) [1,1,1,1,1,1,1,1,0,1,0] ρ w
theorem F13L2_inv (k:KV) (I:Nat → KE) (round:∀ m ρ w,I m ρ w → F13A2 k (fun ρ' w' => ∃ m',m' < m ∧ I m' ρ' w') [] ρ w) {m:Nat} {ρ:Env} {w:World} (h:I m ρ w) : F13L2 k ρ w :=
 LoopAt_inv mixed (B := F13B) (Q := (retQ prog f13.results.toList k)) (p := [1,1,1,1,1,1,1,1,0,1,0]) (by kernel_rfl) (by kernel_rfl) I round h
noncomputable def F13B3 : Code := sub F13B2 [1,0,0,0,1,0,0]
def F13Q3 (k:KV) (N2:KE) (N3:KE) : Xt → KE := thenE N3 (contAt prog 131 F13B2 (F13Q2 k N2) [1,0,0,0,1,0])
def F13A3 (k:KV) (N2:KE) (N3:KE) (q:List Nat) (ρ:Env) (w:World) : Prop := At prog 131 F13B3 (F13Q3 k N2 N3) q ρ w
def F13L3 (k:KV) (N2:KE) (ρ:Env) (w:World) : Prop := LoopAt prog 131 F13B2 (F13Q2 k N2) [1,0,0,0,1,0] ρ w
theorem F13L3_inv (k:KV) (N2:KE) (I:Nat → KE) (round:∀ m ρ w,I m ρ w → F13A3 k N2 (fun ρ' w' => ∃ m',m' < m ∧ I m' ρ' w') [] ρ w) {m:Nat} {ρ:Env} {w:World} (h:I m ρ w) : F13L3 k N2 ρ w :=
 LoopAt_inv mixed (B := F13B2) (Q := (F13Q2 k N2)) (p := [1,0,0,0,1,0]) (by kernel_rfl) (by kernel_rfl) I round h
noncomputable def F13B4 : Code := sub F13B [1,1,1,1,1,1,1,1,1,1,1,1,0,1,0,0]
def F13Q4 (k:KV) (N4:KE) : Xt → KE := thenE N4 (contAt prog 131 F13B (retQ prog f13.results.toList k) [1,1,1,1,1,1,1,1,1,1,1,1,0,1,0])
def F13A4 (k:KV) (N4:KE) (q:List Nat) (ρ:Env) (w:World) : Prop := At prog 131 F13B4 (F13Q4 k N4) q ρ w
def F13L4 (k:KV) (ρ:Env) (w:World) : Prop := LoopAt prog 131 F13B (retQ prog f13.results.toList k) [1,1,1,1,1,1,1,1,1,1,1,1,0,1,0] ρ w
theorem F13L4_inv (k:KV) (I:Nat → KE) (round:∀ m ρ w,I m ρ w → F13A4 k (fun ρ' w' => ∃ m',m' < m ∧ I m' ρ' w') [] ρ w) {m:Nat} {ρ:Env} {w:World} (h:I m ρ w) : F13L4 k ρ w :=
 LoopAt_inv mixed (B := F13B) (Q := (retQ prog f13.results.toList k)) (p := [1,1,1,1,1,1,1,1,1,1,1,1,0,1,0]) (by kernel_rfl) (by kernel_rfl) I round h
def F13_0 (room0:Value) (l1:Value) (script2:Value) (w:World) (k:KV) : Prop :=
 F13L1 k (put (put (put (argEnv [room0,l1,script2]) 6 (.bool false)) 7 (.int .i64 0)) 8 (.int .i64 0)) w
theorem F13_0_eq (room0:Value) (l1:Value) (script2:Value) (w:World) (k:KV) : F13A k [] (argEnv [room0,l1,script2]) w = F13_0 room0 l1 script2 w k := by kernel_rfl
def F13_1 (k:KV) (N1:KE) (ρ:Env) (w:World) : Prop :=
 px prog (bSem .len #[71] 3 #[(ρ 1)]) w fun v21 w =>
 px prog (binSem .lss 3 (.tmp 19) (.tmp 21) (ρ 8) v21) w fun v22 w =>
 pC v22 (
 px prog (indexAt 71 (ρ 1) (ρ 8)) w fun v28 w =>
 px prog (fieldAt 83 v28 1) w fun v29 w =>
 px prog (loadAt 36 v29) w fun v30 w =>
 px prog (bSem .len #[36] 3 #[v30]) w fun v31 w =>
 px prog (binSem .add 3 (.tmp 25) (.tmp 31) (ρ 7) v31) w fun v32 w =>
 px prog (binSem .add 3 (.tmp 32) (.const (.int .i64 1)) v32 (.int .i64 1)) w fun v33 w =>
 px prog (binSem .gtr 3 (.tmp 34) (.const (.int .i64 100000)) v33 (.int .i64 100000)) w fun v35 w =>
 pC v35 (
 k (.bool true) w)
 (
 px prog (binSem .add 3 (.tmp 23) (.const (.int .i64 1)) (ρ 8) (.int .i64 1)) w fun v24 w =>
 N1 (put (put (put (put (put (put (put (put (put (put (put (put (put (put (put (put (put (put (put ρ 19 (ρ 8)) 20 (ρ 1)) 21 v21) 22 v22) 25 (ρ 7)) 26 (ρ 1)) 27 (ρ 8)) 28 v28) 29 v29) 30 v30) 31 v31) 32 v32) 33 v33) 7 v33) 34 v33) 35 v35) 23 (ρ 8)) 24 v24) 8 v24) w))
 (
 F13A k [1,1,1] (put (put (put (put ρ 19 (ρ 8)) 20 (ρ 1)) 21 v21) 22 v22) w)
theorem F13_1_eq (k:KV) (N1:KE) (ρ:Env) (w:World) : F13A1 k N1 [] ρ w = F13_1 k N1 ρ w := by kernel_rfl
def F13_2 (k:KV) (ρ:Env) (w:World) : Prop :=
 pFn prog 15 [(ρ 2)] w fun v37 w =>
 pC v37 (
 k (.bool true) w)
 (
 pFn prog 48 [(ρ 1)] w fun v40 w =>
 px prog (extract v40 0) w fun v41 w =>
 px prog (extract v40 1) w fun v42 w =>
 px prog (bSem .len #[71] 3 #[(ρ 1)]) w fun v47 w =>
 px prog (sliceAt 71 v41 none (some v47) none) w fun v48 w =>
 pFn prog 49 [(ρ 0),v48] w fun v49 w =>
 px prog (extract v49 0) w fun v50 w =>
 px prog (extract v49 1) w fun v51 w =>
 pFn prog 50 [(ρ 0),(ρ 1)] w fun v55 w =>
 px prog (extract v55 0) w fun v56 w =>
 px prog (extract v55 1) w fun v57 w =>
 pFn prog 20 [v51] w fun v59 w =>
 px prog (binSem .neq 3 (.tmp 59) (.tmp 60) v59 v57) w fun v61 w =>
 pG v61 false (fun k => k v50 w) (w := w) (next := fun v63 w =>
 pG v61 false (fun k => px prog (binSem .eql 29 (.tmp 63) (.const (.pointer none)) v63 (.pointer none)) w k) (w := w) (next := fun v64 w =>
 pG v61 false (fun k => k v57 w) (w := w) (next := fun v65 w =>
 pG v61 false (fun k => px prog (binSem .neq 3 (.tmp 65) (.const (.int .i64 0)) v65 (.int .i64 0)) w k) (w := w) (next := fun v66 w =>
 pG v61 false (fun k => px prog (binSem .neq 4 (.tmp 64) (.tmp 66) v64 v66) w k) (w := w) (next := fun v67 w =>
 px prog (pickSem v61 (.bool true) v67) w fun v68 w =>
 pG v68 false (fun k => k v41 w) (w := w) (next := fun v70 w =>
 pG v68 false (fun k => k v42 w) (w := w) (next := fun v71 w =>
 pG v68 false (fun k => k (ρ 1) w) (w := w) (next := fun v72 w =>
 pG v68 false (fun k => pFn prog 51 [v70,v71,v72] w k) (w := w) (next := fun v73 w =>
 pG v68 false (fun k => px prog (Op.unary .not v73) w k) (w := w) (next := fun v74 w =>
 px prog (pickSem v68 (.bool true) v74) w fun v75 w =>
 pC v75 (
 k (.bool false) w)
 (
 F13L2 k (put (put (put (put (put (put (put (put (put (put (put (put (put (put (put (put (put (put (put (put (put (put (put (put (put (put (put (put (put (put (put (put (put (put (put (put (put (put (put (put (put (put (put (put (put (put (put ρ 36 (ρ 2)) 37 v37) 39 (ρ 1)) 40 v40) 38 v40) 41 v41) 42 v42) 9 v41) 10 v42) 44 (ρ 0)) 45 v41) 46 (ρ 1)) 47 v47) 48 v48) 49 v49) 43 v49) 50 v50) 51 v51) 11 v50) 12 v51) 53 (ρ 0)) 54 (ρ 1)) 55 v55) 52 v55) 56 v56) 57 v57) 13 v56) 14 v57) 58 v51) 59 v59) 60 v57) 61 v61) 62 v61) 63 v63) 64 v64) 65 v65) 66 v66) 67 v67) 68 v68) 69 v68) 70 v70) 71 v71) 72 v72) 73 v73) 74 v74) 75 v75) 15 (.int .i64 0)) w))))))))))))
theorem F13_2_eq (k:KV) (ρ:Env) (w:World) : F13A k [1,1,1] ρ w = F13_2 k ρ w := by kernel_rfl
def F13_3 (k:KV) (N2:KE) (ρ:Env) (w:World) : Prop :=
 px prog (bSem .len #[71] 3 #[(ρ 9)]) w fun v78 w =>
 px prog (binSem .lss 3 (.tmp 76) (.tmp 78) (ρ 15) v78) w fun v79 w =>
 pC v79 (
 F13L3 k N2 (put (put (put (put (put ρ 76 (ρ 15)) 77 (ρ 9)) 78 v78) 79 v79) 16 (.int .i64 0)) w)
 (
 F13A k [1,1,1,1,1,1,1,1,1] (put (put (put (put ρ 76 (ρ 15)) 77 (ρ 9)) 78 v78) 79 v79) w)
theorem F13_3_eq (k:KV) (N2:KE) (ρ:Env) (w:World) : F13A2 k N2 [] ρ w = F13_3 k N2 ρ w := by kernel_rfl
def F13_4 (k:KV) (N2:KE) (N3:KE) (ρ:Env) (w:World) : Prop :=
 px prog (indexAt 93 (ρ 10) (ρ 15)) w fun v85 w =>
 px prog (loadAt 36 v85) w fun v86 w =>
 px prog (bSem .len #[36] 3 #[v86]) w fun v87 w =>
 px prog (binSem .lss 3 (.tmp 82) (.tmp 87) (ρ 16) v87) w fun v88 w =>
 pC v88 (
 px prog (indexAt 93 (ρ 10) (ρ 15)) w fun v93 w =>
 px prog (loadAt 36 v93) w fun v94 w =>
 px prog (indexAt 36 v94 (ρ 16)) w fun v96 w =>
 pu prog (storeAt 5 v96 (.int .u8 170)) w fun w =>
 px prog (binSem .add 3 (.tmp 89) (.const (.int .i64 1)) (ρ 16) (.int .i64 1)) w fun v90 w =>
 N3 (put (put (put (put (put (put (put (put (put (put (put (put (put (put (put (put ρ 82 (ρ 16)) 83 (ρ 10)) 84 (ρ 15)) 85 v85) 86 v86) 87 v87) 88 v88) 91 (ρ 10)) 92 (ρ 15)) 93 v93) 94 v94) 95 (ρ 16)) 96 v96) 89 (ρ 16)) 90 v90) 16 v90) w)
 (
 F13A2 k N2 [1,0,0,1] (put (put (put (put (put (put (put ρ 82 (ρ 16)) 83 (ρ 10)) 84 (ρ 15)) 85 v85) 86 v86) 87 v87) 88 v88) w)
theorem F13_4_eq (k:KV) (N2:KE) (N3:KE) (ρ:Env) (w:World) : F13A3 k N2 N3 [] ρ w = F13_4 k N2 N3 ρ w := by kernel_rfl
def F13_5 (k:KV) (ρ:Env) (w:World) : Prop :=
 px prog (binSem .eql 29 (.tmp 101) (.const (.pointer none)) (ρ 11) (.pointer none)) w fun v102 w =>
 pC v102 (
 pFn prog 17 [] w fun v103 w =>
 k v103 w)
 (
 px prog (Instr.build 51 #[]) w fun v106 w =>
 px prog (Instr.box 51 v106) w fun v107 w =>
 px prog (Instr.build 33 #[(0,(ρ 11)),(1,(ρ 13)),(2,v107)]) w fun v108 w =>
 px prog (Instr.box 33 v108) w fun v109 w =>
 pFn prog 19 [v109] w fun v111 w =>
 px prog (Op.unary .not v111) w fun v112 w =>
 pC v112 (
 k (.bool false) w)
 (
 F13L4 k (put (put (put (put (put (put (put (put (put (put (put (put (put ρ 101 (ρ 11)) 102 v102) 104 (ρ 11)) 105 (ρ 13)) 106 v106) 107 v107) 108 v108) 109 v109) 17 v109) 110 v109) 111 v111) 112 v112) 18 (.int .i64 0)) w))
theorem F13_5_eq (k:KV) (ρ:Env) (w:World) : F13A k [1,1,1,1,1,1,1,1,1] ρ w = F13_5 k ρ w := by kernel_rfl
def F13_6 (k:KV) (N2:KE) (ρ:Env) (w:World) : Prop :=
 px prog (Instr.build 83 #[(0,(.string (ByteArray.mk #[122,122])))]) w fun v99 w =>
 px prog (indexAt 71 (ρ 9) (ρ 15)) w fun v100 w =>
 pu prog (storeAt 83 v100 v99) w fun w =>
 px prog (binSem .add 3 (.tmp 80) (.const (.int .i64 1)) (ρ 15) (.int .i64 1)) w fun v81 w =>
 N2 (put (put (put (put (put (put (put ρ 97 (ρ 9)) 98 (ρ 15)) 99 v99) 100 v100) 80 (ρ 15)) 81 v81) 15 v81) w
theorem F13_6_eq (k:KV) (N2:KE) (ρ:Env) (w:World) : F13A2 k N2 [1,0,0,1] ρ w = F13_6 k N2 ρ w := by kernel_rfl
def F13_7 (k:KV) (N4:KE) (ρ:Env) (w:World) : Prop :=
 px prog (bSem .len #[22] 3 #[(ρ 2)]) w fun v115 w =>
 px prog (binSem .lss 3 (.tmp 113) (.tmp 115) (ρ 18) v115) w fun v116 w =>
 pC v116 (
 px prog (indexAt 22 (ρ 2) (ρ 18)) w fun v122 w =>
 px prog (loadAt 41 v122) w fun v123 w =>
 pFn prog 18 [(ρ 17),v123] w fun v124 w =>
 px prog (Op.unary .not v124) w fun v125 w =>
 pC v125 (
 k (.bool false) w)
 (
 px prog (binSem .add 3 (.tmp 117) (.const (.int .i64 1)) (ρ 18) (.int .i64 1)) w fun v118 w =>
 N4 (put (put (put (put (put (put (put (put (put (put (put (put (put (put ρ 113 (ρ 18)) 114 (ρ 2)) 115 v115) 116 v116) 119 (ρ 17)) 120 (ρ 2)) 121 (ρ 18)) 122 v122) 123 v123) 124 v124) 125 v125) 117 (ρ 18)) 118 v118) 18 v118) w))
 (
 F13A k [1,1,1,1,1,1,1,1,1,1,1,1,1] (put (put (put (put ρ 113 (ρ 18)) 114 (ρ 2)) 115 v115) 116 v116) w)
theorem F13_7_eq (k:KV) (N4:KE) (ρ:Env) (w:World) : F13A4 k N4 [] ρ w = F13_7 k N4 ρ w := by kernel_rfl
def F13_8 (k:KV) (ρ:Env) (w:World) : Prop :=
 pFn prog 19 [(ρ 17)] w fun v127 w =>
 pG v127 true (fun k => pFn prog 17 [] w k) (w := w) (next := fun v129 w =>
 px prog (pickSem v127 v129 (.bool false)) w fun v130 w =>
 k v130 w)
theorem F13_8_eq (k:KV) (ρ:Env) (w:World) : F13A k [1,1,1,1,1,1,1,1,1,1,1,1,1] ρ w = F13_8 k ρ w := by kernel_rfl
theorem F13_in (room0:Value) (l1:Value) (script2:Value) (w:World) (k:KV) (h:F13_0 room0 l1 script2 w k) : pFn prog 13 [room0,l1,script2] w k :=
 pFn_of_at mixed func13 (by kernel_rfl) (by kernel_rfl) ntmps13 (by kernel_rfl) (by kernel_rfl) (by simp) ((F13_0_eq room0 l1 script2 w k).mpr h)
noncomputable def F15B : Code := bodyOf f15
def F15A (k:KV) (q:List Nat) (ρ:Env) (w:World) : Prop := At prog 32 F15B (retQ prog f15.results.toList k) q ρ w
noncomputable def F15B1 : Code := sub F15B [1,1,1,0,1,0,0]
def F15Q1 (k:KV) (N1:KE) : Xt → KE := thenE N1 (contAt prog 32 F15B (retQ prog f15.results.toList k) [1,1,1,0,1,0])
def F15A1 (k:KV) (N1:KE) (q:List Nat) (ρ:Env) (w:World) : Prop := At prog 32 F15B1 (F15Q1 k N1) q ρ w
def F15L1 (k:KV) (ρ:Env) (w:World) : Prop := LoopAt prog 32 F15B (retQ prog f15.results.toList k) [1,1,1,0,1,0] ρ w
theorem F15L1_inv (k:KV) (I:Nat → KE) (round:∀ m ρ w,I m ρ w → F15A1 k (fun ρ' w' => ∃ m',m' < m ∧ I m' ρ' w') [] ρ w) {m:Nat} {ρ:Env} {w:World} (h:I m ρ w) : F15L1 k ρ w :=
 LoopAt_inv mixed (B := F15B) (Q := (retQ prog f15.results.toList k)) (p := [1,1,1,0,1,0]) (by kernel_rfl) (by kernel_rfl) I round h
def F15_0 (script0:Value) (w:World) (k:KV) : Prop :=
 px prog (bSem .len #[22] 3 #[script0]) w fun v6 w =>
 px prog (binSem .gtr 3 (.tmp 6) (.const (.int .i64 300)) v6 (.int .i64 300)) w fun v7 w =>
 pC v7 (
 k (.bool true) w)
 (
 F15L1 k (put (put (put (put (put (put (argEnv [script0]) 2 (.bool false)) 3 (.int .i64 0)) 5 script0) 6 v6) 7 v7) 4 (.int .i64 0)) w)
theorem F15_0_eq (script0:Value) (w:World) (k:KV) : F15A k [] (argEnv [script0]) w = F15_0 script0 w k := by kernel_rfl
def F15_1 (k:KV) (N1:KE) (ρ:Env) (w:World) : Prop :=
 px prog (bSem .len #[22] 3 #[(ρ 0)]) w fun v10 w =>
 px prog (binSem .lss 3 (.tmp 8) (.tmp 10) (ρ 4) v10) w fun v11 w =>
 pC v11 (
 ∃ S : World → Prop,S w.drew ∧ (fun w =>
 pq prog S (indexAt 22 (ρ 0) (ρ 4)) fun v17 =>
 pq prog S (fieldAt 41 v17 5) fun v18 =>
 pq prog S (loadAt 36 v18) fun v19 =>
 pq prog S (bSem .len #[36] 3 #[v19]) fun v20 =>
 pq prog S (binSem .add 3 (.tmp 14) (.tmp 20) (ρ 3) v20) fun v21 =>
 pq prog S (indexAt 22 (ρ 0) (ρ 4)) fun v24 =>
 pq prog S (fieldAt 41 v24 7) fun v25 =>
 pq prog S (loadAt 39 v25) fun v26 =>
 pq prog S (bSem .len #[39] 3 #[v26]) fun v27 =>
 pq prog S (binSem .mul 3 (.const (.int .i64 8)) (.tmp 27) (.int .i64 8) v27) fun v28 =>
 pq prog S (binSem .add 3 (.tmp 21) (.tmp 28) v21 v28) fun v29 =>
 px prog (binSem .gtr 3 (.tmp 30) (.const (.int .i64 100000)) v29 (.int .i64 100000)) w fun v31 w =>
 pC v31 (
 k (.bool true) w)
 (
 px prog (binSem .add 3 (.tmp 12) (.const (.int .i64 1)) (ρ 4) (.int .i64 1)) w fun v13 w =>
 N1 (put (put (put (put (put (put (put (put (put (put (put (put (put (put (put (put (put (put (put (put (put (put (put (put (put (put ρ 8 (ρ 4)) 9 (ρ 0)) 10 v10) 11 v11) 14 (ρ 3)) 15 (ρ 0)) 16 (ρ 4)) 17 v17) 18 v18) 19 v19) 20 v20) 21 v21) 22 (ρ 0)) 23 (ρ 4)) 24 v24) 25 v25) 26 v26) 27 v27) 28 v28) 29 v29) 3 v29) 30 v29) 31 v31) 12 (ρ 4)) 13 v13) 4 v13) w)) w.drew)
 (
 F15A k [1,1,1,1] (put (put (put (put ρ 8 (ρ 4)) 9 (ρ 0)) 10 v10) 11 v11) w)
theorem F15_1_eq (k:KV) (N1:KE) (ρ:Env) (w:World) : F15A1 k N1 [] ρ w = F15_1 k N1 ρ w := by kernel_rfl
def F15_2 (k:KV) (ρ:Env) (w:World) : Prop :=
 k (.bool false) w
theorem F15_2_eq (k:KV) (ρ:Env) (w:World) : F15A k [1,1,1,1] ρ w = F15_2 k ρ w := by kernel_rfl
theorem F15_in (script0:Value) (w:World) (k:KV) (h:F15_0 script0 w k) : pFn prog 15 [script0] w k :=
 pFn_of_at mixed func15 (by kernel_rfl) (by kernel_rfl) ntmps15 (by kernel_rfl) (by kernel_rfl) (by simp) ((F15_0_eq script0 w k).mpr h)
noncomputable def F17B : Code := bodyOf f17
def F17A (k:KV) (q:List Nat) (ρ:Env) (w:World) : Prop := At prog 115 F17B (retQ prog f17.results.toList k) q ρ w
def F17_0  (w:World) (k:KV) : Prop :=
 pFn prog 52 [(.int .i64 20)] w fun v13 w =>
 px prog (extract v13 0) w fun v14 w =>
 px prog (extract v13 1) w fun v15 w =>
 pFn prog 20 [v15] w fun v17 w =>
 px prog (binSem .neq 3 (.tmp 17) (.const (.int .i64 0)) v17 (.int .i64 0)) w fun v18 w =>
 pG v18 false (fun k => k v14 w) (w := w) (next := fun v20 w =>
 pG v18 false (fun k => px prog (binSem .eql 29 (.tmp 20) (.const (.pointer none)) v20 (.pointer none)) w k) (w := w) (next := fun v21 w =>
 px prog (pickSem v18 (.bool true) v21) w fun v22 w =>
 pC v22 (
 k (.bool false) w)
 (
 pFn prog 21 [v14,(.string (ByteArray.mk #[97]))] w fun v24 w =>
 px prog (Instr.buildSlice 36 3 #[(0,(.int .u8 120)),(1,(.int .u8 121)),(2,(.int .u8 122))]) w fun v26 w =>
 px prog (convert 36 36 v26) w fun v27 w =>
 pFn prog 23 [v14,(.string (ByteArray.mk #[97])),v27] w fun v28 w =>
 pFn prog 54 [v14,(.string (ByteArray.mk #[97]))] w fun v30 w =>
 pFn prog 55 [v14] w fun v32 w =>
 px prog (Instr.buildSlice 36 2 #[(0,(.int .u8 49)),(1,(.int .u8 50))]) w fun v34 w =>
 px prog (convert 36 36 v34) w fun v35 w =>
 pFn prog 23 [v14,(.string (ByteArray.mk #[97])),v35] w fun v36 w =>
 pFn prog 56 [v14,(.string (ByteArray.mk #[97])),(.string (ByteArray.mk #[98]))] w fun v38 w =>
 pFn prog 32 [v14,(.string (ByteArray.mk #[98])),(.int .i64 2),(.int .i64 2)] w fun v41 w =>
 px prog (extract v41 0) w fun v42 w =>
 px prog (extract v41 1) w fun v43 w =>
 pFn prog 20 [v24] w fun v45 w =>
 pFn prog 20 [v28] w fun v47 w =>
 px prog (binSem .add 3 (.tmp 45) (.tmp 47) v45 v47) w fun v48 w =>
 pFn prog 20 [v30] w fun v50 w =>
 px prog (binSem .add 3 (.tmp 48) (.tmp 50) v48 v50) w fun v51 w =>
 pFn prog 20 [v32] w fun v53 w =>
 px prog (binSem .add 3 (.tmp 51) (.tmp 53) v51 v53) w fun v54 w =>
 pFn prog 20 [v36] w fun v56 w =>
 px prog (binSem .add 3 (.tmp 54) (.tmp 56) v54 v56) w fun v57 w =>
 pFn prog 20 [v38] w fun v59 w =>
 px prog (binSem .add 3 (.tmp 57) (.tmp 59) v57 v59) w fun v60 w =>
 pFn prog 20 [v43] w fun v62 w =>
 px prog (binSem .add 3 (.tmp 60) (.tmp 62) v60 v62) w fun v63 w =>
 px prog (binSem .neq 3 (.tmp 63) (.const (.int .i64 0)) v63 (.int .i64 0)) w fun v64 w =>
 pG v64 false (fun k => k v42 w) (w := w) (next := fun v66 w =>
 pG v64 false (fun k => px prog (convert 36 9 v66) w k) (w := w) (next := fun v67 w =>
 pG v64 false (fun k => px prog (binSem .neq 9 (.tmp 67) (.const (.string (ByteArray.mk #[122,49]))) v67 (.string (ByteArray.mk #[122,49]))) w k) (w := w) (next := fun v68 w =>
 px prog (pickSem v64 (.bool true) v68) w fun v69 w =>
 pG v69 false (fun k => k v14 w) (w := w) (next := fun v71 w =>
 pG v69 false (fun k => pFn prog 57 [v71] w k) (w := w) (next := fun v72 w =>
 pG v69 false (fun k => px prog (binSem .neq 3 (.tmp 72) (.const (.int .i64 6)) v72 (.int .i64 6)) w k) (w := w) (next := fun v73 w =>
 px prog (pickSem v69 (.bool true) v73) w fun v74 w =>
 pG v74 false (fun k => k v14 w) (w := w) (next := fun v76 w =>
 pG v74 false (fun k => pFn prog 31 [v76] w k) (w := w) (next := fun v77 w =>
 pG v74 false (fun k => px prog (bSem .len #[56] 3 #[v77]) w k) (w := w) (next := fun v78 w =>
 pG v74 false (fun k => px prog (binSem .neq 3 (.tmp 78) (.const (.int .i64 1)) v78 (.int .i64 1)) w k) (w := w) (next := fun v79 w =>
 px prog (pickSem v74 (.bool true) v79) w fun v80 w =>
 pC v80 (
 k (.bool false) w)
 (
 px prog (Instr.buildSlice 39 2 #[(0,(.int .i64 1)),(1,(.int .i64 1))]) w fun v82 w =>
 pFn prog 58 [v14,v82] w fun v83 w =>
 pFn prog 28 [v14] w fun v85 w =>
 px prog (bSem .len #[71] 3 #[v85]) w fun v87 w =>
 px prog (binSem .eql 3 (.tmp 87) (.const (.int .i64 1)) v87 (.int .i64 1)) w fun v88 w =>
 pG v88 true (fun k => k v85 w) (w := w) (next := fun v90 w =>
 pG v88 true (fun k => px prog (indexAt 71 v90 (.int .i64 0)) w k) (w := w) (next := fun v91 w =>
 pG v88 true (fun k => px prog (fieldAt 83 v91 0) w k) (w := w) (next := fun v92 w =>
 pG v88 true (fun k => px prog (loadAt 9 v92) w k) (w := w) (next := fun v93 w =>
 pG v88 true (fun k => px prog (binSem .eql 9 (.tmp 93) (.const (.string (ByteArray.mk #[98]))) v93 (.string (ByteArray.mk #[98]))) w k) (w := w) (next := fun v94 w =>
 px prog (pickSem v88 v94 (.bool false)) w fun v95 w =>
 pG v95 true (fun k => k v85 w) (w := w) (next := fun v97 w =>
 pG v95 true (fun k => px prog (indexAt 71 v97 (.int .i64 0)) w k) (w := w) (next := fun v98 w =>
 pG v95 true (fun k => px prog (fieldAt 83 v98 1) w k) (w := w) (next := fun v99 w =>
 pG v95 true (fun k => px prog (loadAt 36 v99) w k) (w := w) (next := fun v100 w =>
 pG v95 true (fun k => px prog (convert 36 9 v100) w k) (w := w) (next := fun v101 w =>
 pG v95 true (fun k => px prog (binSem .eql 9 (.tmp 101) (.const (.string (ByteArray.mk #[120,121,122,49]))) v101 (.string (ByteArray.mk #[120,121,122,49]))) w k) (w := w) (next := fun v102 w =>
 px prog (pickSem v95 v102 (.bool false)) w fun v103 w =>
 pG v103 true (fun k => k v14 w) (w := w) (next := fun v105 w =>
 pG v103 true (fun k => pFn prog 59 [v105,(.string (ByteArray.mk #[97]))] w k) (w := w) (next := fun v106 w =>
 pG v103 true (fun k => pFn prog 20 [v106] w k) (w := w) (next := fun v107 w =>
 pG v103 true (fun k => px prog (binSem .eql 3 (.tmp 107) (.const (.int .i64 53)) v107 (.int .i64 53)) w k) (w := w) (next := fun v108 w =>
 px prog (pickSem v103 v108 (.bool false)) w fun v109 w =>
 pG v109 true (fun k => k v14 w) (w := w) (next := fun v111 w =>
 pG v109 true (fun k => pFn prog 60 [v111] w k) (w := w) (next := fun v112 w =>
 pG v109 true (fun k => px prog (binSem .eql 3 (.tmp 112) (.const (.int .i64 4)) v112 (.int .i64 4)) w k) (w := w) (next := fun v113 w =>
 px prog (pickSem v109 v113 (.bool false)) w fun v114 w =>
 k v114 w))))))))))))))))))))))))))))))))
theorem F17_0_eq  (w:World) (k:KV) : F17A k [] (argEnv []) w = F17_0  w k := by kernel_rfl
theorem F17_in  (w:World) (k:KV) (h:F17_0  w k) : pFn prog 17 [] w k :=
 pFn_of_at mixed func17 (by kernel_rfl) (by kernel_rfl) ntmps17 (by kernel_rfl) (by kernel_rfl) (by simp) ((F17_0_eq  w k).mpr h)
noncomputable def F20B : Code := bodyOf f20
def F20A (k:KV) (q:List Nat) (ρ:Env) (w:World) : Prop := At prog 4 F20B (retQ prog f20.results.toList k) q ρ w
def F20_0 (e0:Value) (w:World) (k:KV) : Prop :=
 k e0 w
theorem F20_0_eq (e0:Value) (w:World) (k:KV) : F20A k [] (argEnv [e0]) w = F20_0 e0 w k := by kernel_rfl
theorem F20_in (e0:Value) (w:World) (k:KV) (h:F20_0 e0 w k) : pFn prog 20 [e0] w k :=
 pFn_of_at mixed func20 (by kernel_rfl) (by kernel_rfl) ntmps20 (by kernel_rfl) (by kernel_rfl) (by simp) ((F20_0_eq e0 w k).mpr h)
noncomputable def F35B : Code := bodyOf f35
def F35A (k:KV) (q:List Nat) (ρ:Env) (w:World) : Prop := At prog 26 F35B (retQ prog f35.results.toList k) q ρ w
noncomputable def F35B1 : Code := sub F35B [1,1,0,1,0,0]
def F35Q1 (k:KV) (N1:KE) : Xt → KE := thenE N1 (contAt prog 26 F35B (retQ prog f35.results.toList k) [1,1,0,1,0])
def F35A1 (k:KV) (N1:KE) (q:List Nat) (ρ:Env) (w:World) : Prop := At prog 26 F35B1 (F35Q1 k N1) q ρ w
def F35L1 (k:KV) (ρ:Env) (w:World) : Prop := LoopAt prog 26 F35B (retQ prog f35.results.toList k) [1,1,0,1,0] ρ w
theorem F35L1_inv (k:KV) (I:Nat → KE) (round:∀ m ρ w,I m ρ w → F35A1 k (fun ρ' w' => ∃ m',m' < m ∧ I m' ρ' w') [] ρ w) {m:Nat} {ρ:Env} {w:World} (h:I m ρ w) : F35L1 k ρ w :=
 LoopAt_inv mixed (B := F35B) (Q := (retQ prog f35.results.toList k)) (p := [1,1,0,1,0]) (by kernel_rfl) (by kernel_rfl) I round h
def F35_0 (a0:Value) (b1:Value) (w:World) (k:KV) : Prop :=
 px prog (bSem .len #[36] 3 #[a0]) w fun v7 w =>
 px prog (bSem .len #[36] 3 #[b1]) w fun v9 w =>
 px prog (binSem .neq 3 (.tmp 7) (.tmp 9) v7 v9) w fun v10 w =>
 pC v10 (
 k (.bool false) w)
 (
 F35L1 k (put (put (put (put (put (put (put (argEnv [a0,b1]) 4 (.bool false)) 6 a0) 7 v7) 8 b1) 9 v9) 10 v10) 5 (.int .i64 0)) w)
theorem F35_0_eq (a0:Value) (b1:Value) (w:World) (k:KV) : F35A k [] (argEnv [a0,b1]) w = F35_0 a0 b1 w k := by kernel_rfl
def F35_1 (k:KV) (N1:KE) (ρ:Env) (w:World) : Prop :=
 px prog (bSem .len #[36] 3 #[(ρ 0)]) w fun v13 w =>
 px prog (binSem .lss 3 (.tmp 11) (.tmp 13) (ρ 5) v13) w fun v14 w =>
 pC v14 (
 ∃ S : World → Prop,S w.drew ∧ (fun w =>
 pq prog S (indexAt 36 (ρ 0) (ρ 5)) fun v19 =>
 pq prog S (loadAt 5 v19) fun v20 =>
 pq prog S (indexAt 36 (ρ 1) (ρ 5)) fun v23 =>
 pq prog S (loadAt 5 v23) fun v24 =>
 pq prog S (binSem .neq 5 (.tmp 20) (.tmp 24) v20 v24) fun v25 =>
 pC v25 (
 k (.bool false) w)
 (
 px prog (binSem .add 3 (.tmp 15) (.const (.int .i64 1)) (ρ 5) (.int .i64 1)) w fun v16 w =>
 N1 (put (put (put (put (put (put (put (put (put (put (put (put (put (put (put (put ρ 11 (ρ 5)) 12 (ρ 0)) 13 v13) 14 v14) 17 (ρ 0)) 18 (ρ 5)) 19 v19) 20 v20) 21 (ρ 1)) 22 (ρ 5)) 23 v23) 24 v24) 25 v25) 15 (ρ 5)) 16 v16) 5 v16) w)) w.drew)
 (
 F35A k [1,1,1] (put (put (put (put ρ 11 (ρ 5)) 12 (ρ 0)) 13 v13) 14 v14) w)
theorem F35_1_eq (k:KV) (N1:KE) (ρ:Env) (w:World) : F35A1 k N1 [] ρ w = F35_1 k N1 ρ w := by kernel_rfl
def F35_2 (k:KV) (ρ:Env) (w:World) : Prop :=
 k (.bool true) w
theorem F35_2_eq (k:KV) (ρ:Env) (w:World) : F35A k [1,1,1] ρ w = F35_2 k ρ w := by kernel_rfl
theorem F35_in (a0:Value) (b1:Value) (w:World) (k:KV) (h:F35_0 a0 b1 w k) : pFn prog 35 [a0,b1] w k :=
 pFn_of_at mixed func35 (by kernel_rfl) (by kernel_rfl) ntmps35 (by kernel_rfl) (by kernel_rfl) (by simp) ((F35_0_eq a0 b1 w k).mpr h)
noncomputable def F40B : Code := bodyOf f40
def F40A (k:KV) (q:List Nat) (ρ:Env) (w:World) : Prop := At prog 42 F40B (retQ prog f40.results.toList k) q ρ w
noncomputable def F40B1 : Code := sub F40B [1,1,0,1,0,0]
def F40Q1 (k:KV) (N1:KE) : Xt → KE := thenE N1 (contAt prog 42 F40B (retQ prog f40.results.toList k) [1,1,0,1,0])
def F40A1 (k:KV) (N1:KE) (q:List Nat) (ρ:Env) (w:World) : Prop := At prog 42 F40B1 (F40Q1 k N1) q ρ w
def F40L1 (k:KV) (ρ:Env) (w:World) : Prop := LoopAt prog 42 F40B (retQ prog f40.results.toList k) [1,1,0,1,0] ρ w
theorem F40L1_inv (k:KV) (I:Nat → KE) (round:∀ m ρ w,I m ρ w → F40A1 k (fun ρ' w' => ∃ m',m' < m ∧ I m' ρ' w') [] ρ w) {m:Nat} {ρ:Env} {w:World} (h:I m ρ w) : F40L1 k ρ w :=
 LoopAt_inv mixed (B := F40B) (Q := (retQ prog f40.results.toList k)) (p := [1,1,0,1,0]) (by kernel_rfl) (by kernel_rfl) I round h
def F40_0 (a0:Value) (b1:Value) (w:World) (k:KV) : Prop :=
 px prog (bSem .len #[71] 3 #[a0]) w fun v7 w =>
 px prog (bSem .len #[71] 3 #[b1]) w fun v9 w =>
 px prog (binSem .neq 3 (.tmp 7) (.tmp 9) v7 v9) w fun v10 w =>
 pC v10 (
 k (.bool false) w)
 (
 F40L1 k (put (put (put (put (put (put (put (argEnv [a0,b1]) 4 (.bool false)) 6 a0) 7 v7) 8 b1) 9 v9) 10 v10) 5 (.int .i64 0)) w)
theorem F40_0_eq (a0:Value) (b1:Value) (w:World) (k:KV) : F40A k [] (argEnv [a0,b1]) w = F40_0 a0 b1 w k := by kernel_rfl
def F40_1 (k:KV) (N1:KE) (ρ:Env) (w:World) : Prop :=
 px prog (bSem .len #[71] 3 #[(ρ 0)]) w fun v13 w =>
 px prog (binSem .lss 3 (.tmp 11) (.tmp 13) (ρ 5) v13) w fun v14 w =>
 pC v14 (
 ∃ S : World → Prop,S w.drew ∧ (fun w =>
 pq prog S (indexAt 71 (ρ 0) (ρ 5)) fun v19 =>
 pq prog S (fieldAt 83 v19 0) fun v20 =>
 pq prog S (loadAt 9 v20) fun v21 =>
 pq prog S (indexAt 71 (ρ 1) (ρ 5)) fun v24 =>
 pq prog S (fieldAt 83 v24 0) fun v25 =>
 pq prog S (loadAt 9 v25) fun v26 =>
 pq prog S (binSem .neq 9 (.tmp 21) (.tmp 26) v21 v26) fun v27 =>
 pGq v27 false (fun k => k (ρ 0)) (next := fun v29 =>
 pGq v27 false (fun k => k (ρ 5)) (next := fun v30 =>
 pGq v27 false (fun k => pq prog S (indexAt 71 v29 v30) k) (next := fun v31 =>
 pGq v27 false (fun k => pq prog S (fieldAt 83 v31 1) k) (next := fun v32 =>
 pGq v27 false (fun k => pq prog S (loadAt 36 v32) k) (next := fun v33 =>
 pGq v27 false (fun k => k (ρ 1)) (next := fun v34 =>
 pGq v27 false (fun k => k (ρ 5)) (next := fun v35 =>
 pGq v27 false (fun k => pq prog S (indexAt 71 v34 v35) k) (next := fun v36 =>
 pGq v27 false (fun k => pq prog S (fieldAt 83 v36 1) k) (next := fun v37 =>
 pGq v27 false (fun k => pq prog S (loadAt 36 v37) k) (next := fun v38 =>
 pG v27 false (fun k => pFn prog 35 [v33,v38] w k) (w := w) (next := fun v39 w => S w ∧ (
 pGq v27 false (fun k => pq prog S (Op.unary .not v39) k) (next := fun v40 =>
 pq prog S (pickSem v27 (.bool true) v40) fun v41 =>
 pC v41 (
 k (.bool false) w)
 (
 px prog (binSem .add 3 (.tmp 15) (.const (.int .i64 1)) (ρ 5) (.int .i64 1)) w fun v16 w =>
 N1 (put (put (put (put (put (put (put (put (put (put (put (put (put (put (put (put (put (put (put (put (put (put (put (put (put (put (put (put (put (put (put (put ρ 11 (ρ 5)) 12 (ρ 0)) 13 v13) 14 v14) 17 (ρ 0)) 18 (ρ 5)) 19 v19) 20 v20) 21 v21) 22 (ρ 1)) 23 (ρ 5)) 24 v24) 25 v25) 26 v26) 27 v27) 28 v27) 29 v29) 30 v30) 31 v31) 32 v32) 33 v33) 34 v34) 35 v35) 36 v36) 37 v37) 38 v38) 39 v39) 40 v40) 41 v41) 15 (ρ 5)) 16 v16) 5 v16) w))))))))))))))) w.drew)
 (
 F40A k [1,1,1] (put (put (put (put ρ 11 (ρ 5)) 12 (ρ 0)) 13 v13) 14 v14) w)
theorem F40_1_eq (k:KV) (N1:KE) (ρ:Env) (w:World) : F40A1 k N1 [] ρ w = F40_1 k N1 ρ w := by kernel_rfl
def F40_2 (k:KV) (ρ:Env) (w:World) : Prop :=
 k (.bool true) w
theorem F40_2_eq (k:KV) (ρ:Env) (w:World) : F40A k [1,1,1] ρ w = F40_2 k ρ w := by kernel_rfl
theorem F40_in (a0:Value) (b1:Value) (w:World) (k:KV) (h:F40_0 a0 b1 w k) : pFn prog 40 [a0,b1] w k :=
 pFn_of_at mixed func40 (by kernel_rfl) (by kernel_rfl) ntmps40 (by kernel_rfl) (by kernel_rfl) (by simp) ((F40_0_eq a0 b1 w k).mpr h)
noncomputable def F43B : Code := bodyOf f43
def F43A (k:KV) (q:List Nat) (ρ:Env) (w:World) : Prop := At prog 26 F43B (retQ prog f43.results.toList k) q ρ w
noncomputable def F43B1 : Code := sub F43B [1,1,0,1,0,0]
def F43Q1 (k:KV) (N1:KE) : Xt → KE := thenE N1 (contAt prog 26 F43B (retQ prog f43.results.toList k) [1,1,0,1,0])
def F43A1 (k:KV) (N1:KE) (q:List Nat) (ρ:Env) (w:World) : Prop := At prog 26 F43B1 (F43Q1 k N1) q ρ w
def F43L1 (k:KV) (ρ:Env) (w:World) : Prop := LoopAt prog 26 F43B (retQ prog f43.results.toList k) [1,1,0,1,0] ρ w
theorem F43L1_inv (k:KV) (I:Nat → KE) (round:∀ m ρ w,I m ρ w → F43A1 k (fun ρ' w' => ∃ m',m' < m ∧ I m' ρ' w') [] ρ w) {m:Nat} {ρ:Env} {w:World} (h:I m ρ w) : F43L1 k ρ w :=
 LoopAt_inv mixed (B := F43B) (Q := (retQ prog f43.results.toList k)) (p := [1,1,0,1,0]) (by kernel_rfl) (by kernel_rfl) I round h
def F43_0 (a0:Value) (b1:Value) (w:World) (k:KV) : Prop :=
 px prog (bSem .len #[73] 3 #[a0]) w fun v7 w =>
 px prog (bSem .len #[73] 3 #[b1]) w fun v9 w =>
 px prog (binSem .neq 3 (.tmp 7) (.tmp 9) v7 v9) w fun v10 w =>
 pC v10 (
 k (.bool false) w)
 (
 F43L1 k (put (put (put (put (put (put (put (argEnv [a0,b1]) 4 (.bool false)) 6 a0) 7 v7) 8 b1) 9 v9) 10 v10) 5 (.int .i64 0)) w)
theorem F43_0_eq (a0:Value) (b1:Value) (w:World) (k:KV) : F43A k [] (argEnv [a0,b1]) w = F43_0 a0 b1 w k := by kernel_rfl
def F43_1 (k:KV) (N1:KE) (ρ:Env) (w:World) : Prop :=
 px prog (bSem .len #[73] 3 #[(ρ 0)]) w fun v13 w =>
 px prog (binSem .lss 3 (.tmp 11) (.tmp 13) (ρ 5) v13) w fun v14 w =>
 pC v14 (
 ∃ S : World → Prop,S w.drew ∧ (fun w =>
 pq prog S (indexAt 73 (ρ 0) (ρ 5)) fun v19 =>
 pq prog S (loadAt 9 v19) fun v20 =>
 pq prog S (indexAt 73 (ρ 1) (ρ 5)) fun v23 =>
 pq prog S (loadAt 9 v23) fun v24 =>
 pq prog S (binSem .neq 9 (.tmp 20) (.tmp 24) v20 v24) fun v25 =>
 pC v25 (
 k (.bool false) w)
 (
 px prog (binSem .add 3 (.tmp 15) (.const (.int .i64 1)) (ρ 5) (.int .i64 1)) w fun v16 w =>
 N1 (put (put (put (put (put (put (put (put (put (put (put (put (put (put (put (put ρ 11 (ρ 5)) 12 (ρ 0)) 13 v13) 14 v14) 17 (ρ 0)) 18 (ρ 5)) 19 v19) 20 v20) 21 (ρ 1)) 22 (ρ 5)) 23 v23) 24 v24) 25 v25) 15 (ρ 5)) 16 v16) 5 v16) w)) w.drew)
 (
 F43A k [1,1,1] (put (put (put (put ρ 11 (ρ 5)) 12 (ρ 0)) 13 v13) 14 v14) w)
theorem F43_1_eq (k:KV) (N1:KE) (ρ:Env) (w:World) : F43A1 k N1 [] ρ w = F43_1 k N1 ρ w := by kernel_rfl
def F43_2 (k:KV) (ρ:Env) (w:World) : Prop :=
 k (.bool true) w
theorem F43_2_eq (k:KV) (ρ:Env) (w:World) : F43A k [1,1,1] ρ w = F43_2 k ρ w := by kernel_rfl
theorem F43_in (a0:Value) (b1:Value) (w:World) (k:KV) (h:F43_0 a0 b1 w k) : pFn prog 43 [a0,b1] w k :=
 pFn_of_at mixed func43 (by kernel_rfl) (by kernel_rfl) ntmps43 (by kernel_rfl) (by kernel_rfl) (by simp) ((F43_0_eq a0 b1 w k).mpr h)
noncomputable def F45B : Code := bodyOf f45
def F45A (k:KV) (q:List Nat) (ρ:Env) (w:World) : Prop := At prog 26 F45B (retQ prog f45.results.toList k) q ρ w
noncomputable def F45B1 : Code := sub F45B [1,1,0,1,0,0]
def F45Q1 (k:KV) (N1:KE) : Xt → KE := thenE N1 (contAt prog 26 F45B (retQ prog f45.results.toList k) [1,1,0,1,0])
def F45A1 (k:KV) (N1:KE) (q:List Nat) (ρ:Env) (w:World) : Prop := At prog 26 F45B1 (F45Q1 k N1) q ρ w
def F45L1 (k:KV) (ρ:Env) (w:World) : Prop := LoopAt prog 26 F45B (retQ prog f45.results.toList k) [1,1,0,1,0] ρ w
theorem F45L1_inv (k:KV) (I:Nat → KE) (round:∀ m ρ w,I m ρ w → F45A1 k (fun ρ' w' => ∃ m',m' < m ∧ I m' ρ' w') [] ρ w) {m:Nat} {ρ:Env} {w:World} (h:I m ρ w) : F45L1 k ρ w :=
 LoopAt_inv mixed (B := F45B) (Q := (retQ prog f45.results.toList k)) (p := [1,1,0,1,0]) (by kernel_rfl) (by kernel_rfl) I round h
def F45_0 (a0:Value) (b1:Value) (w:World) (k:KV) : Prop :=
 px prog (bSem .len #[56] 3 #[a0]) w fun v7 w =>
 px prog (bSem .len #[56] 3 #[b1]) w fun v9 w =>
 px prog (binSem .neq 3 (.tmp 7) (.tmp 9) v7 v9) w fun v10 w =>
 pC v10 (
 k (.bool false) w)
 (
 F45L1 k (put (put (put (put (put (put (put (argEnv [a0,b1]) 4 (.bool false)) 6 a0) 7 v7) 8 b1) 9 v9) 10 v10) 5 (.int .i64 0)) w)
theorem F45_0_eq (a0:Value) (b1:Value) (w:World) (k:KV) : F45A k [] (argEnv [a0,b1]) w = F45_0 a0 b1 w k := by kernel_rfl
def F45_1 (k:KV) (N1:KE) (ρ:Env) (w:World) : Prop :=
 px prog (bSem .len #[56] 3 #[(ρ 0)]) w fun v13 w =>
 px prog (binSem .lss 3 (.tmp 11) (.tmp 13) (ρ 5) v13) w fun v14 w =>
 pC v14 (
 ∃ S : World → Prop,S w.drew ∧ (fun w =>
 pq prog S (indexAt 56 (ρ 0) (ρ 5)) fun v19 =>
 pq prog S (loadAt 134 v19) fun v20 =>
 pq prog S (indexAt 56 (ρ 1) (ρ 5)) fun v23 =>
 pq prog S (loadAt 134 v23) fun v24 =>
 pq prog S (binSem .neq 134 (.tmp 20) (.tmp 24) v20 v24) fun v25 =>
 pC v25 (
 k (.bool false) w)
 (
 px prog (binSem .add 3 (.tmp 15) (.const (.int .i64 1)) (ρ 5) (.int .i64 1)) w fun v16 w =>
 N1 (put (put (put (put (put (put (put (put (put (put (put (put (put (put (put (put ρ 11 (ρ 5)) 12 (ρ 0)) 13 v13) 14 v14) 17 (ρ 0)) 18 (ρ 5)) 19 v19) 20 v20) 21 (ρ 1)) 22 (ρ 5)) 23 v23) 24 v24) 25 v25) 15 (ρ 5)) 16 v16) 5 v16) w)) w.drew)
 (
 F45A k [1,1,1] (put (put (put (put ρ 11 (ρ 5)) 12 (ρ 0)) 13 v13) 14 v14) w)
theorem F45_1_eq (k:KV) (N1:KE) (ρ:Env) (w:World) : F45A1 k N1 [] ρ w = F45_1 k N1 ρ w := by kernel_rfl
def F45_2 (k:KV) (ρ:Env) (w:World) : Prop :=
 k (.bool true) w
theorem F45_2_eq (k:KV) (ρ:Env) (w:World) : F45A k [1,1,1] ρ w = F45_2 k ρ w := by kernel_rfl
theorem F45_in (a0:Value) (b1:Value) (w:World) (k:KV) (h:F45_0 a0 b1 w k) : pFn prog 45 [a0,b1] w k :=
 pFn_of_at mixed func45 (by kernel_rfl) (by kernel_rfl) ntmps45 (by kernel_rfl) (by kernel_rfl) (by simp) ((F45_0_eq a0 b1 w k).mpr h)
noncomputable def F48B : Code := bodyOf f48
def F48A (k:KV) (q:List Nat) (ρ:Env) (w:World) : Prop := At prog 82 F48B (retQ prog f48.results.toList k) q ρ w
noncomputable def F48B1 : Code := sub F48B [1,1,1,0,1,0,0]
def F48Q1 (k:KV) (N1:KE) : Xt → KE := thenE N1 (contAt prog 82 F48B (retQ prog f48.results.toList k) [1,1,1,0,1,0])
def F48A1 (k:KV) (N1:KE) (q:List Nat) (ρ:Env) (w:World) : Prop := At prog 82 F48B1 (F48Q1 k N1) q ρ w
def F48L1 (k:KV) (ρ:Env) (w:World) : Prop := LoopAt prog 82 F48B (retQ prog f48.results.toList k) [1,1,1,0,1,0] ρ w
theorem F48L1_inv (k:KV) (I:Nat → KE) (round:∀ m ρ w,I m ρ w → F48A1 k (fun ρ' w' => ∃ m',m' < m ∧ I m' ρ' w') [] ρ w) {m:Nat} {ρ:Env} {w:World} (h:I m ρ w) : F48L1 k ρ w :=
 LoopAt_inv mixed (B := F48B) (Q := (retQ prog f48.results.toList k)) (p := [1,1,1,0,1,0]) (by kernel_rfl) (by kernel_rfl) I round h
noncomputable def F48B2 : Code := sub F48B1 [1,0,0,1,1,1,1,0,1,0,0]
def F48Q2 (k:KV) (N1:KE) (N2:KE) : Xt → KE := thenE N2 (contAt prog 82 F48B1 (F48Q1 k N1) [1,0,0,1,1,1,1,0,1,0])
def F48A2 (k:KV) (N1:KE) (N2:KE) (q:List Nat) (ρ:Env) (w:World) : Prop := At prog 82 F48B2 (F48Q2 k N1 N2) q ρ w
def F48L2 (k:KV) (N1:KE) (ρ:Env) (w:World) : Prop := LoopAt prog 82 F48B1 (F48Q1 k N1) [1,0,0,1,1,1,1,0,1,0] ρ w
theorem F48L2_inv (k:KV) (N1:KE) (I:Nat → KE) (round:∀ m ρ w,I m ρ w → F48A2 k N1 (fun ρ' w' => ∃ m',m' < m ∧ I m' ρ' w') [] ρ w) {m:Nat} {ρ:Env} {w:World} (h:I m ρ w) : F48L2 k N1 ρ w :=
 LoopAt_inv mixed (B := F48B1) (Q := (F48Q1 k N1)) (p := [1,0,0,1,1,1,1,0,1,0]) (by kernel_rfl) (by kernel_rfl) I round h
def F48_0 (l0:Value) (w:World) (k:KV) : Prop :=
 px prog (bSem .len #[71] 3 #[l0]) w fun v11 w =>
 px prog (binSem .add 3 (.tmp 11) (.const (.int .i64 5)) v11 (.int .i64 5)) w fun v12 w =>
 px prog (Instr.makeSlice 71 v12 v12) w fun v13 w =>
 F48L1 k (put (put (put (put (put (put (put (put (put (argEnv [l0]) 2 (.slice none 0 0)) 3 (.slice none 0 0)) 4 (.slice none 0 0)) 10 l0) 11 v11) 12 v12) 13 v13) 5 v13) 6 (.int .i64 0)) w
theorem F48_0_eq (l0:Value) (w:World) (k:KV) : F48A k [] (argEnv [l0]) w = F48_0 l0 w k := by kernel_rfl
def F48_1 (k:KV) (N1:KE) (ρ:Env) (w:World) : Prop :=
 px prog (bSem .len #[71] 3 #[(ρ 5)]) w fun v16 w =>
 px prog (binSem .lss 3 (.tmp 14) (.tmp 16) (ρ 6) v16) w fun v17 w =>
 pC v17 (
 px prog (indexAt 71 (ρ 5) (ρ 6)) w fun v22 w =>
 px prog (fieldAt 83 v22 0) w fun v23 w =>
 pu prog (storeAt 9 v23 (.string (ByteArray.mk #[109,97,114,107]))) w fun w =>
 px prog (bSem .len #[71] 3 #[(ρ 0)]) w fun v26 w =>
 px prog (binSem .lss 3 (.tmp 24) (.tmp 26) (ρ 6) v26) w fun v27 w =>
 pC v27 (
 px prog (indexAt 71 (ρ 0) (ρ 6)) w fun v32 w =>
 px prog (fieldAt 83 v32 0) w fun v33 w =>
 px prog (loadAt 9 v33) w fun v34 w =>
 px prog (indexAt 71 (ρ 5) (ρ 6)) w fun v35 w =>
 px prog (fieldAt 83 v35 0) w fun v36 w =>
 pu prog (storeAt 9 v36 v34) w fun w =>
 px prog (indexAt 71 (ρ 0) (ρ 6)) w fun v39 w =>
 px prog (fieldAt 83 v39 1) w fun v40 w =>
 px prog (loadAt 36 v40) w fun v41 w =>
 px prog (bSem .len #[36] 3 #[v41]) w fun v42 w =>
 F48A1 k N1 [1,0,0,1,1,1] (put (put (put (put (put (put (put (put (put (put (put (put (put (put (put (put (put (put (put (put (put (put (put (put (put (put (put (put (put ρ 14 (ρ 6)) 15 (ρ 5)) 16 v16) 17 v17) 20 (ρ 5)) 21 (ρ 6)) 22 v22) 23 v23) 7 (.int .i64 0)) 24 (ρ 6)) 25 (ρ 0)) 26 v26) 27 v27) 28 (ρ 5)) 29 (ρ 6)) 30 (ρ 0)) 31 (ρ 6)) 32 v32) 33 v33) 34 v34) 35 v35) 36 v36) 37 (ρ 0)) 38 (ρ 6)) 39 v39) 40 v40) 41 v41) 42 v42) 7 v42) w)
 (
 F48A1 k N1 [1,0,0,1,1,1] (put (put (put (put (put (put (put (put (put (put (put (put (put ρ 14 (ρ 6)) 15 (ρ 5)) 16 v16) 17 v17) 20 (ρ 5)) 21 (ρ 6)) 22 v22) 23 v23) 7 (.int .i64 0)) 24 (ρ 6)) 25 (ρ 0)) 26 v26) 27 v27) w))
 (
 F48A k [1,1,1,1] (put (put (put (put ρ 14 (ρ 6)) 15 (ρ 5)) 16 v16) 17 v17) w)
theorem F48_1_eq (k:KV) (N1:KE) (ρ:Env) (w:World) : F48A1 k N1 [] ρ w = F48_1 k N1 ρ w := by kernel_rfl
def F48_2 (k:KV) (N1:KE) (ρ:Env) (w:World) : Prop :=
 px prog (binSem .add 3 (.tmp 43) (.const (.int .i64 5)) (ρ 7) (.int .i64 5)) w fun v44 w =>
 px prog (Instr.makeSlice 36 v44 v44) w fun v45 w =>
 F48L2 k N1 (put (put (put (put (put ρ 43 (ρ 7)) 44 v44) 45 v45) 8 v45) 9 (.int .i64 0)) w
theorem F48_2_eq (k:KV) (N1:KE) (ρ:Env) (w:World) : F48A1 k N1 [1,0,0,1,1,1] ρ w = F48_2 k N1 ρ w := by kernel_rfl
def F48_3 (k:KV) (ρ:Env) (w:World) : Prop :=
 k (.tuple #[(ρ 5),(ρ 4)]) w
theorem F48_3_eq (k:KV) (ρ:Env) (w:World) : F48A k [1,1,1,1] ρ w = F48_3 k ρ w := by kernel_rfl
def F48_4 (k:KV) (N1:KE) (N2:KE) (ρ:Env) (w:World) : Prop :=
 px prog (bSem .len #[36] 3 #[(ρ 8)]) w fun v48 w =>
 px prog (binSem .lss 3 (.tmp 46) (.tmp 48) (ρ 9) v48) w fun v49 w =>
 pC v49 (
 px prog (indexAt 36 (ρ 8) (ρ 9)) w fun v54 w =>
 pu prog (storeAt 5 v54 (.int .u8 171)) w fun w =>
 px prog (binSem .lss 3 (.tmp 55) (.tmp 56) (ρ 9) (ρ 7)) w fun v57 w =>
 pC v57 (
 px prog (indexAt 71 (ρ 0) (ρ 6)) w fun v62 w =>
 px prog (fieldAt 83 v62 1) w fun v63 w =>
 px prog (loadAt 36 v63) w fun v64 w =>
 px prog (indexAt 36 v64 (ρ 9)) w fun v66 w =>
 px prog (loadAt 5 v66) w fun v67 w =>
 px prog (indexAt 36 (ρ 8) (ρ 9)) w fun v68 w =>
 pu prog (storeAt 5 v68 v67) w fun w =>
 F48A2 k N1 N2 [1,1] (put (put (put (put (put (put (put (put (put (put (put (put (put (put (put (put (put (put (put (put (put ρ 46 (ρ 9)) 47 (ρ 8)) 48 v48) 49 v49) 52 (ρ 8)) 53 (ρ 9)) 54 v54) 55 (ρ 9)) 56 (ρ 7)) 57 v57) 58 (ρ 8)) 59 (ρ 9)) 60 (ρ 0)) 61 (ρ 6)) 62 v62) 63 v63) 64 v64) 65 (ρ 9)) 66 v66) 67 v67) 68 v68) w)
 (
 F48A2 k N1 N2 [1,1] (put (put (put (put (put (put (put (put (put (put ρ 46 (ρ 9)) 47 (ρ 8)) 48 v48) 49 v49) 52 (ρ 8)) 53 (ρ 9)) 54 v54) 55 (ρ 9)) 56 (ρ 7)) 57 v57) w))
 (
 F48A1 k N1 [1,0,0,1,1,1,1,1] (put (put (put (put ρ 46 (ρ 9)) 47 (ρ 8)) 48 v48) 49 v49) w)
theorem F48_4_eq (k:KV) (N1:KE) (N2:KE) (ρ:Env) (w:World) : F48A2 k N1 N2 [] ρ w = F48_4 k N1 N2 ρ w := by kernel_rfl
def F48_5 (k:KV) (N1:KE) (N2:KE) (ρ:Env) (w:World) : Prop :=
 px prog (binSem .add 3 (.tmp 50) (.const (.int .i64 1)) (ρ 9) (.int .i64 1)) w fun v51 w =>
 N2 (put (put (put ρ 50 (ρ 9)) 51 v51) 9 v51) w
theorem F48_5_eq (k:KV) (N1:KE) (N2:KE) (ρ:Env) (w:World) : F48A2 k N1 N2 [1,1] ρ w = F48_5 k N1 N2 ρ w := by kernel_rfl
def F48_6 (k:KV) (N1:KE) (ρ:Env) (w:World) : Prop :=
 px prog (sliceAt 36 (ρ 8) none (some (ρ 7)) none) w fun v73 w =>
 px prog (indexAt 71 (ρ 5) (ρ 6)) w fun v74 w =>
 px prog (fieldAt 83 v74 1) w fun v75 w =>
 pu prog (storeAt 36 v75 v73) w fun w =>
 px prog (Instr.buildSlice 93 1 #[(0,(ρ 8))]) w fun v78 w =>
 px prog (bSem .append #[93,93] 93 #[(ρ 4),v78]) w fun v79 w =>
 px prog (binSem .add 3 (.tmp 18) (.const (.int .i64 1)) (ρ 6) (.int .i64 1)) w fun v19 w =>
 N1 (put (put (put (put (put (put (put (put (put (put (put (put (put (put (put ρ 69 (ρ 5)) 70 (ρ 6)) 71 (ρ 8)) 72 (ρ 7)) 73 v73) 74 v74) 75 v75) 76 (ρ 4)) 77 (ρ 8)) 78 v78) 79 v79) 4 v79) 18 (ρ 6)) 19 v19) 6 v19) w
theorem F48_6_eq (k:KV) (N1:KE) (ρ:Env) (w:World) : F48A1 k N1 [1,0,0,1,1,1,1,1] ρ w = F48_6 k N1 ρ w := by kernel_rfl
theorem F48_in (l0:Value) (w:World) (k:KV) (h:F48_0 l0 w k) : pFn prog 48 [l0] w k :=
 pFn_of_at mixed func48 (by kernel_rfl) (by kernel_rfl) ntmps48 (by kernel_rfl) (by kernel_rfl) (by simp) ((F48_0_eq l0 w k).mpr h)
noncomputable def F51B : Code := bodyOf f51
def F51A (k:KV) (q:List Nat) (ρ:Env) (w:World) : Prop := At prog 109 F51B (retQ prog f51.results.toList k) q ρ w
noncomputable def F51B1 : Code := sub F51B [1,0,1,0,0]
def F51Q1 (k:KV) (N1:KE) : Xt → KE := thenE N1 (contAt prog 109 F51B (retQ prog f51.results.toList k) [1,0,1,0])
def F51A1 (k:KV) (N1:KE) (q:List Nat) (ρ:Env) (w:World) : Prop := At prog 109 F51B1 (F51Q1 k N1) q ρ w
def F51L1 (k:KV) (ρ:Env) (w:World) : Prop := LoopAt prog 109 F51B (retQ prog f51.results.toList k) [1,0,1,0] ρ w
theorem F51L1_inv (k:KV) (I:Nat → KE) (round:∀ m ρ w,I m ρ w → F51A1 k (fun ρ' w' => ∃ m',m' < m ∧ I m' ρ' w') [] ρ w) {m:Nat} {ρ:Env} {w:World} (h:I m ρ w) : F51L1 k ρ w :=
 LoopAt_inv mixed (B := F51B) (Q := (retQ prog f51.results.toList k)) (p := [1,0,1,0]) (by kernel_rfl) (by kernel_rfl) I round h
noncomputable def F51B2 : Code := sub F51B1 [1,0,0,1,1,1,0,0]
def F51Q2 (k:KV) (N1:KE) (N2:KE) : Xt → KE := thenE N2 (contAt prog 109 F51B1 (F51Q1 k N1) [1,0,0,1,1,1,0])
def F51A2 (k:KV) (N1:KE) (N2:KE) (q:List Nat) (ρ:Env) (w:World) : Prop := At prog 109 F51B2 (F51Q2 k N1 N2) q ρ w
def F51L2 (k:KV) (N1:KE) (ρ:Env) (w:World) : Prop := LoopAt prog 109 F51B1 (F51Q1 k N1) [1,0,0,1,1,1,0] ρ w
theorem F51L2_inv (k:KV) (N1:KE) (I:Nat → KE) (round:∀ m ρ w,I m ρ w → F51A2 k N1 (fun ρ' w' => ∃ m',m' < m ∧ I m' ρ' w') [] ρ w) {m:Nat} {ρ:Env} {w:World} (h:I m ρ w) : F51L2 k N1 ρ w :=
 LoopAt_inv mixed (B := F51B1) (Q := (F51Q1 k N1)) (p := [1,0,0,1,1,1,0]) (by kernel_rfl) (by kernel_rfl) I round h
def F51_0 (given0:Value) (rows1:Value) (l2:Value) (w:World) (k:KV) : Prop :=
 F51L1 k (put (put (argEnv [given0,rows1,l2]) 6 (.bool false)) 7 (.int .i64 0)) w
theorem F51_0_eq (given0:Value) (rows1:Value) (l2:Value) (w:World) (k:KV) : F51A k [] (argEnv [given0,rows1,l2]) w = F51_0 given0 rows1 l2 w k := by kernel_rfl
def F51_1 (k:KV) (N1:KE) (ρ:Env) (w:World) : Prop :=
 px prog (bSem .len #[71] 3 #[(ρ 0)]) w fun v12 w =>
 px prog (binSem .lss 3 (.tmp 10) (.tmp 12) (ρ 7) v12) w fun v13 w =>
 pC v13 (
 px prog (indexAt 93 (ρ 1) (ρ 7)) w fun v18 w =>
 px prog (loadAt 36 v18) w fun v19 w =>
 px prog (bSem .len #[36] 3 #[v19]) w fun v20 w =>
 px prog (binSem .sub 3 (.tmp 20) (.const (.int .i64 5)) v20 (.int .i64 5)) w fun v21 w =>
 ∃ S : World → Prop,S w.drew ∧ (fun w =>
 pq prog S (bSem .len #[71] 3 #[(ρ 2)]) fun v24 =>
 pq prog S (binSem .lss 3 (.tmp 22) (.tmp 24) (ρ 7) v24) fun v25 =>
 pGq v25 true (fun k => k (ρ 0)) (next := fun v27 =>
 pGq v25 true (fun k => k (ρ 7)) (next := fun v28 =>
 pGq v25 true (fun k => pq prog S (indexAt 71 v27 v28) k) (next := fun v29 =>
 pGq v25 true (fun k => pq prog S (fieldAt 83 v29 0) k) (next := fun v30 =>
 pGq v25 true (fun k => pq prog S (loadAt 9 v30) k) (next := fun v31 =>
 pGq v25 true (fun k => k (ρ 2)) (next := fun v32 =>
 pGq v25 true (fun k => k (ρ 7)) (next := fun v33 =>
 pGq v25 true (fun k => pq prog S (indexAt 71 v32 v33) k) (next := fun v34 =>
 pGq v25 true (fun k => pq prog S (fieldAt 83 v34 0) k) (next := fun v35 =>
 pGq v25 true (fun k => pq prog S (loadAt 9 v35) k) (next := fun v36 =>
 pGq v25 true (fun k => pq prog S (binSem .neq 9 (.tmp 31) (.tmp 36) v31 v36) k) (next := fun v37 =>
 pGq v25 true (fun k => k v37) (next := fun v38 =>
 pGq v38 false (fun k => k (ρ 0)) (next := fun v39 =>
 pGq v38 false (fun k => k (ρ 7)) (next := fun v40 =>
 pGq v38 false (fun k => pq prog S (indexAt 71 v39 v40) k) (next := fun v41 =>
 pGq v38 false (fun k => pq prog S (fieldAt 83 v41 1) k) (next := fun v42 =>
 pGq v38 false (fun k => pq prog S (loadAt 36 v42) k) (next := fun v43 =>
 pGq v38 false (fun k => k (ρ 2)) (next := fun v44 =>
 pGq v38 false (fun k => k (ρ 7)) (next := fun v45 =>
 pGq v38 false (fun k => pq prog S (indexAt 71 v44 v45) k) (next := fun v46 =>
 pGq v38 false (fun k => pq prog S (fieldAt 83 v46 1) k) (next := fun v47 =>
 pGq v38 false (fun k => pq prog S (loadAt 36 v47) k) (next := fun v48 =>
 pG v38 false (fun k => pFn prog 35 [v43,v48] w k) (w := w) (next := fun v49 w => S w ∧ (
 pGq v38 false (fun k => pq prog S (Op.unary .not v49) k) (next := fun v50 =>
 pGq v25 true (fun k => pq prog S (pickSem v38 (.bool true) v50) k) (next := fun v51 =>
 pGq v25 true (fun k => k v51) (next := fun v52 =>
 pGq v52 false (fun k => k (ρ 1)) (next := fun v53 =>
 pGq v52 false (fun k => k (ρ 7)) (next := fun v54 =>
 pGq v52 false (fun k => pq prog S (indexAt 93 v53 v54) k) (next := fun v55 =>
 pGq v52 false (fun k => pq prog S (loadAt 36 v55) k) (next := fun v56 =>
 pGq v52 false (fun k => k v21) (next := fun v57 =>
 pGq v52 false (fun k => pq prog S (sliceAt 36 v56 none (some v57) none) k) (next := fun v58 =>
 pGq v52 false (fun k => k (ρ 2)) (next := fun v59 =>
 pGq v52 false (fun k => k (ρ 7)) (next := fun v60 =>
 pGq v52 false (fun k => pq prog S (indexAt 71 v59 v60) k) (next := fun v61 =>
 pGq v52 false (fun k => pq prog S (fieldAt 83 v61 1) k) (next := fun v62 =>
 pGq v52 false (fun k => pq prog S (loadAt 36 v62) k) (next := fun v63 =>
 pG v52 false (fun k => pFn prog 35 [v58,v63] w k) (w := w) (next := fun v64 w => S w ∧ (
 pGq v52 false (fun k => pq prog S (Op.unary .not v64) k) (next := fun v65 =>
 pGq v25 true (fun k => pq prog S (pickSem v52 (.bool true) v65) k) (next := fun v66 =>
 pq prog S (pickSem v25 v66 (.bool false)) fun v67 =>
 pGq v67 false (fun k => k (ρ 7)) (next := fun v69 =>
 pGq v67 false (fun k => k (ρ 2)) (next := fun v70 =>
 pGq v67 false (fun k => pq prog S (bSem .len #[71] 3 #[v70]) k) (next := fun v71 =>
 pGq v67 false (fun k => pq prog S (binSem .geq 3 (.tmp 69) (.tmp 71) v69 v71) k) (next := fun v72 =>
 pGq v67 false (fun k => k v72) (next := fun v73 =>
 pGq v73 true (fun k => k (ρ 0)) (next := fun v74 =>
 pGq v73 true (fun k => k (ρ 7)) (next := fun v75 =>
 pGq v73 true (fun k => pq prog S (indexAt 71 v74 v75) k) (next := fun v76 =>
 pGq v73 true (fun k => pq prog S (fieldAt 83 v76 0) k) (next := fun v77 =>
 pGq v73 true (fun k => pq prog S (loadAt 9 v77) k) (next := fun v78 =>
 pGq v73 true (fun k => pq prog S (binSem .neq 9 (.tmp 78) (.const (.string (ByteArray.mk #[109,97,114,107]))) v78 (.string (ByteArray.mk #[109,97,114,107]))) k) (next := fun v79 =>
 pGq v73 true (fun k => k v79) (next := fun v80 =>
 pGq v80 false (fun k => k (ρ 0)) (next := fun v81 =>
 pGq v80 false (fun k => k (ρ 7)) (next := fun v82 =>
 pGq v80 false (fun k => pq prog S (indexAt 71 v81 v82) k) (next := fun v83 =>
 pGq v80 false (fun k => pq prog S (fieldAt 83 v83 1) k) (next := fun v84 =>
 pGq v80 false (fun k => pq prog S (loadAt 36 v84) k) (next := fun v85 =>
 pGq v80 false (fun k => pq prog S (bSem .len #[36] 3 #[v85]) k) (next := fun v86 =>
 pGq v80 false (fun k => pq prog S (binSem .neq 3 (.tmp 86) (.const (.int .i64 0)) v86 (.int .i64 0)) k) (next := fun v87 =>
 pGq v73 true (fun k => pq prog S (pickSem v80 (.bool true) v87) k) (next := fun v88 =>
 pGq v67 false (fun k => pq prog S (pickSem v73 v88 (.bool false)) k) (next := fun v89 =>
 pq prog S (pickSem v67 (.bool true) v89) fun v90 =>
 pC v90 (
 k (.bool false) w)
 (
 F51L2 k N1 (put (put (put (put (put (put (put (put (put (put (put (put (put (put (put (put (put (put (put (put (put (put (put (put (put (put (put (put (put (put (put (put (put (put (put (put (put (put (put (put (put (put (put (put (put (put (put (put (put (put (put (put (put (put (put (put (put (put (put (put (put (put (put (put (put (put (put (put (put (put (put (put (put (put (put (put (put (put (put (put (put (put ρ 10 (ρ 7)) 11 (ρ 0)) 12 v12) 13 v13) 16 (ρ 1)) 17 (ρ 7)) 18 v18) 19 v19) 20 v20) 21 v21) 8 v21) 22 (ρ 7)) 23 (ρ 2)) 24 v24) 25 v25) 26 v25) 27 v27) 28 v28) 29 v29) 30 v30) 31 v31) 32 v32) 33 v33) 34 v34) 35 v35) 36 v36) 37 v37) 38 v38) 39 v39) 40 v40) 41 v41) 42 v42) 43 v43) 44 v44) 45 v45) 46 v46) 47 v47) 48 v48) 49 v49) 50 v50) 51 v51) 52 v52) 53 v53) 54 v54) 55 v55) 56 v56) 57 v57) 58 v58) 59 v59) 60 v60) 61 v61) 62 v62) 63 v63) 64 v64) 65 v65) 66 v66) 67 v67) 68 v67) 69 v69) 70 v70) 71 v71) 72 v72) 73 v73) 74 v74) 75 v75) 76 v76) 77 v77) 78 v78) 79 v79) 80 v80) 81 v81) 82 v82) 83 v83) 84 v84) 85 v85) 86 v86) 87 v87) 88 v88) 89 v89) 90 v90) 91 v21) 9 v21) w))))))))))))))))))))))))))))))))))))))))))))))))))))))))))))))))) w.drew)
 (
 F51A k [1,1] (put (put (put (put ρ 10 (ρ 7)) 11 (ρ 0)) 12 v12) 13 v13) w)
theorem F51_1_eq (k:KV) (N1:KE) (ρ:Env) (w:World) : F51A1 k N1 [] ρ w = F51_1 k N1 ρ w := by kernel_rfl
def F51_2 (k:KV) (N1:KE) (N2:KE) (ρ:Env) (w:World) : Prop :=
 px prog (indexAt 93 (ρ 1) (ρ 7)) w fun v95 w =>
 px prog (loadAt 36 v95) w fun v96 w =>
 px prog (bSem .len #[36] 3 #[v96]) w fun v97 w =>
 px prog (binSem .lss 3 (.tmp 92) (.tmp 97) (ρ 9) v97) w fun v98 w =>
 pC v98 (
 px prog (indexAt 93 (ρ 1) (ρ 7)) w fun v103 w =>
 px prog (loadAt 36 v103) w fun v104 w =>
 px prog (indexAt 36 v104 (ρ 9)) w fun v106 w =>
 px prog (loadAt 5 v106) w fun v107 w =>
 px prog (binSem .neq 5 (.tmp 107) (.const (.int .u8 171)) v107 (.int .u8 171)) w fun v108 w =>
 pC v108 (
 k (.bool false) w)
 (
 px prog (binSem .add 3 (.tmp 99) (.const (.int .i64 1)) (ρ 9) (.int .i64 1)) w fun v100 w =>
 N2 (put (put (put (put (put (put (put (put (put (put (put (put (put (put (put (put (put (put ρ 92 (ρ 9)) 93 (ρ 1)) 94 (ρ 7)) 95 v95) 96 v96) 97 v97) 98 v98) 101 (ρ 1)) 102 (ρ 7)) 103 v103) 104 v104) 105 (ρ 9)) 106 v106) 107 v107) 108 v108) 99 (ρ 9)) 100 v100) 9 v100) w))
 (
 F51A1 k N1 [1,1] (put (put (put (put (put (put (put ρ 92 (ρ 9)) 93 (ρ 1)) 94 (ρ 7)) 95 v95) 96 v96) 97 v97) 98 v98) w)
theorem F51_2_eq (k:KV) (N1:KE) (N2:KE) (ρ:Env) (w:World) : F51A2 k N1 N2 [] ρ w = F51_2 k N1 N2 ρ w := by kernel_rfl
def F51_3 (k:KV) (ρ:Env) (w:World) : Prop :=
 k (.bool true) w
theorem F51_3_eq (k:KV) (ρ:Env) (w:World) : F51A k [1,1] ρ w = F51_3 k ρ w := by kernel_rfl
def F51_4 (k:KV) (N1:KE) (ρ:Env) (w:World) : Prop :=
 px prog (binSem .add 3 (.tmp 14) (.const (.int .i64 1)) (ρ 7) (.int .i64 1)) w fun v15 w =>
 N1 (put (put (put ρ 14 (ρ 7)) 15 v15) 7 v15) w
theorem F51_4_eq (k:KV) (N1:KE) (ρ:Env) (w:World) : F51A1 k N1 [1,1] ρ w = F51_4 k N1 ρ w := by kernel_rfl
theorem F51_in (given0:Value) (rows1:Value) (l2:Value) (w:World) (k:KV) (h:F51_0 given0 rows1 l2 w k) : pFn prog 51 [given0,rows1,l2] w k :=
 pFn_of_at mixed func51 (by kernel_rfl) (by kernel_rfl) ntmps51 (by kernel_rfl) (by kernel_rfl) (by simp) ((F51_0_eq given0 rows1 l2 w k).mpr h)
noncomputable def F18B : Code := bodyOf f18
def F18A (k:KV) (q:List Nat) (ρ:Env) (w:World) : Prop := At prog 190 F18B (retQ prog f18.results.toList k) q ρ w
def F18_0 (p0:Value) (x1:Value) (w:World) (k:KV) : Prop :=
 px prog (Instr.box 41 x1) w fun v3 w =>
 px prog (fieldAt 41 v3 0) w fun v5 w =>
 px prog (loadAt 3 v5) w fun v6 w =>
 px prog (binSem .eql 3 (.tmp 6) (.const (.int .i64 1)) v6 (.int .i64 1)) w fun v8 w =>
 pC v8 (
 ∃ S : World → Prop,S w.drew ∧ (fun w =>
 pq prog S (nilSem p0) fun v10 =>
 pq prog S (fieldAt 33 v10 0) fun v11 =>
 pq prog S (loadAt 29 v11) fun v12 =>
 pq prog S (fieldAt 41 v3 1) fun v13 =>
 pq prog S (loadAt 9 v13) fun v14 =>
 pq prog S (nilSem p0) fun v18 =>
 pq prog S (fieldAt 33 v18 1) fun v19 =>
 pq prog S (loadAt 30 v19) fun v20 =>
 pq prog S (fieldAt 41 v3 1) fun v21 =>
 pq prog S (loadAt 9 v21) fun v22 =>
 pFn prog 21 [v12,v14] w fun v15 w => S w ∧ (
 pFn prog 20 [v15] w fun v16 w => S w ∧ (
 pFn prog 61 [v20,v22] w fun v23 w => S w ∧ (
 pq prog S (binSem .eql 3 (.tmp 16) (.tmp 23) v16 v23) fun v24 =>
 k v24 w)))) w.drew)
 (
 px prog (binSem .eql 3 (.tmp 6) (.const (.int .i64 2)) v6 (.int .i64 2)) w fun v26 w =>
 pC v26 (
 ∃ S : World → Prop,S w.drew ∧ (fun w =>
 pq prog S (nilSem p0) fun v28 =>
 pq prog S (fieldAt 33 v28 0) fun v29 =>
 pq prog S (loadAt 29 v29) fun v30 =>
 pq prog S (fieldAt 41 v3 1) fun v31 =>
 pq prog S (loadAt 9 v31) fun v32 =>
 pq prog S (fieldAt 41 v3 3) fun v33 =>
 pq prog S (loadAt 3 v33) fun v34 =>
 pq prog S (nilSem p0) fun v36 =>
 pq prog S (fieldAt 33 v36 2) fun v37 =>
 pq prog S (loadAt 31 v37) fun v38 =>
 pq prog S (fieldAt 41 v3 5) fun v39 =>
 pq prog S (loadAt 36 v39) fun v40 =>
 pq prog S (nilSem p0) fun v45 =>
 pq prog S (fieldAt 33 v45 1) fun v46 =>
 pq prog S (loadAt 30 v46) fun v47 =>
 pq prog S (fieldAt 41 v3 1) fun v48 =>
 pq prog S (loadAt 9 v48) fun v49 =>
 pq prog S (fieldAt 41 v3 3) fun v50 =>
 pq prog S (loadAt 3 v50) fun v51 =>
 pq prog S (fieldAt 41 v3 5) fun v52 =>
 pq prog S (loadAt 36 v52) fun v53 =>
 pFn prog 63 [v38,v40] w fun v41 w => S w ∧ (
 pFn prog 62 [v30,v32,v34,v41] w fun v42 w => S w ∧ (
 pFn prog 20 [v42] w fun v43 w => S w ∧ (
 pFn prog 64 [v47,v49,v51,v53] w fun v54 w => S w ∧ (
 pq prog S (binSem .eql 3 (.tmp 43) (.tmp 54) v43 v54) fun v55 =>
 pGq v55 true (fun k => k p0) (next := fun v57 =>
 pGq v55 true (fun k => pq prog S (loadAt 41 v3) k) (next := fun v58 =>
 pG v55 true (fun k => pFn prog 65 [v57,v58] w k) (w := w) (next := fun v59 w => S w ∧ (
 pq prog S (pickSem v55 v59 (.bool false)) fun v60 =>
 k v60 w))))))))) w.drew)
 (
 px prog (binSem .eql 3 (.tmp 6) (.const (.int .i64 3)) v6 (.int .i64 3)) w fun v62 w =>
 pC v62 (
 ∃ S : World → Prop,S w.drew ∧ (fun w =>
 pq prog S (nilSem p0) fun v64 =>
 pq prog S (fieldAt 33 v64 0) fun v65 =>
 pq prog S (loadAt 29 v65) fun v66 =>
 pq prog S (fieldAt 41 v3 1) fun v67 =>
 pq prog S (loadAt 9 v67) fun v68 =>
 pq prog S (nilSem p0) fun v70 =>
 pq prog S (fieldAt 33 v70 2) fun v71 =>
 pq prog S (loadAt 31 v71) fun v72 =>
 pq prog S (fieldAt 41 v3 5) fun v73 =>
 pq prog S (loadAt 36 v73) fun v74 =>
 pq prog S (nilSem p0) fun v79 =>
 pq prog S (fieldAt 33 v79 1) fun v80 =>
 pq prog S (loadAt 30 v80) fun v81 =>
 pq prog S (fieldAt 41 v3 1) fun v82 =>
 pq prog S (loadAt 9 v82) fun v83 =>
 pq prog S (fieldAt 41 v3 5) fun v84 =>
 pq prog S (loadAt 36 v84) fun v85 =>
 pFn prog 63 [v72,v74] w fun v75 w => S w ∧ (
 pFn prog 23 [v66,v68,v75] w fun v76 w => S w ∧ (
 pFn prog 20 [v76] w fun v77 w => S w ∧ (
 pFn prog 66 [v81,v83,v85] w fun v86 w => S w ∧ (
 pq prog S (binSem .eql 3 (.tmp 77) (.tmp 86) v77 v86) fun v87 =>
 pGq v87 true (fun k => k p0) (next := fun v89 =>
 pGq v87 true (fun k => pq prog S (loadAt 41 v3) k) (next := fun v90 =>
 pG v87 true (fun k => pFn prog 65 [v89,v90] w k) (w := w) (next := fun v91 w => S w ∧ (
 pq prog S (pickSem v87 v91 (.bool false)) fun v92 =>
 k v92 w))))))))) w.drew)
 (
 px prog (binSem .eql 3 (.tmp 6) (.const (.int .i64 4)) v6 (.int .i64 4)) w fun v94 w =>
 pC v94 (
 ∃ S : World → Prop,S w.drew ∧ (fun w =>
 pq prog S (nilSem p0) fun v96 =>
 pq prog S (fieldAt 33 v96 0) fun v97 =>
 pq prog S (loadAt 29 v97) fun v98 =>
 pq prog S (fieldAt 41 v3 1) fun v99 =>
 pq prog S (loadAt 9 v99) fun v100 =>
 pq prog S (fieldAt 41 v3 4) fun v101 =>
 pq prog S (loadAt 3 v101) fun v102 =>
 pq prog S (nilSem p0) fun v106 =>
 pq prog S (fieldAt 33 v106 1) fun v107 =>
 pq prog S (loadAt 30 v107) fun v108 =>
 pq prog S (fieldAt 41 v3 1) fun v109 =>
 pq prog S (loadAt 9 v109) fun v110 =>
 pq prog S (fieldAt 41 v3 4) fun v111 =>
 pq prog S (loadAt 3 v111) fun v112 =>
 pFn prog 67 [v98,v100,v102] w fun v103 w => S w ∧ (
 pFn prog 20 [v103] w fun v104 w => S w ∧ (
 pFn prog 68 [v108,v110,v112] w fun v113 w => S w ∧ (
 pq prog S (binSem .eql 3 (.tmp 104) (.tmp 113) v104 v113) fun v114 =>
 k v114 w)))) w.drew)
 (
 px prog (binSem .eql 3 (.tmp 6) (.const (.int .i64 5)) v6 (.int .i64 5)) w fun v116 w =>
 pC v116 (
 ∃ S : World → Prop,S w.drew ∧ (fun w =>
 pq prog S (nilSem p0) fun v118 =>
 pq prog S (fieldAt 33 v118 0) fun v119 =>
 pq prog S (loadAt 29 v119) fun v120 =>
 pq prog S (fieldAt 41 v3 1) fun v121 =>
 pq prog S (loadAt 9 v121) fun v122 =>
 pq prog S (fieldAt 41 v3 2) fun v123 =>
 pq prog S (loadAt 9 v123) fun v124 =>
 pq prog S (nilSem p0) fun v128 =>
 pq prog S (fieldAt 33 v128 1) fun v129 =>
 pq prog S (loadAt 30 v129) fun v130 =>
 pq prog S (fieldAt 41 v3 1) fun v131 =>
 pq prog S (loadAt 9 v131) fun v132 =>
 pq prog S (fieldAt 41 v3 2) fun v133 =>
 pq prog S (loadAt 9 v133) fun v134 =>
 pFn prog 56 [v120,v122,v124] w fun v125 w => S w ∧ (
 pFn prog 20 [v125] w fun v126 w => S w ∧ (
 pFn prog 69 [v130,v132,v134] w fun v135 w => S w ∧ (
 pq prog S (binSem .eql 3 (.tmp 126) (.tmp 135) v126 v135) fun v136 =>
 k v136 w)))) w.drew)
 (
 px prog (binSem .eql 3 (.tmp 6) (.const (.int .i64 6)) v6 (.int .i64 6)) w fun v138 w =>
 pC v138 (
 ∃ S : World → Prop,S w.drew ∧ (fun w =>
 pq prog S (nilSem p0) fun v140 =>
 pq prog S (fieldAt 33 v140 0) fun v141 =>
 pq prog S (loadAt 29 v141) fun v142 =>
 pq prog S (fieldAt 41 v3 1) fun v143 =>
 pq prog S (loadAt 9 v143) fun v144 =>
 pq prog S (nilSem p0) fun v148 =>
 pq prog S (fieldAt 33 v148 1) fun v149 =>
 pq prog S (loadAt 30 v149) fun v150 =>
 pq prog S (fieldAt 41 v3 1) fun v151 =>
 pq prog S (loadAt 9 v151) fun v152 =>
 pFn prog 59 [v142,v144] w fun v145 w => S w ∧ (
 pFn prog 20 [v145] w fun v146 w => S w ∧ (
 pFn prog 70 [v150,v152] w fun v153 w => S w ∧ (
 pq prog S (binSem .eql 3 (.tmp 146) (.tmp 153) v146 v153) fun v154 =>
 k v154 w)))) w.drew)
 (
 px prog (binSem .eql 3 (.tmp 6) (.const (.int .i64 7)) v6 (.int .i64 7)) w fun v156 w =>
 pC v156 (
 ∃ S : World → Prop,S w.drew ∧ (fun w =>
 pq prog S (nilSem p0) fun v158 =>
 pq prog S (fieldAt 33 v158 0) fun v159 =>
 pq prog S (loadAt 29 v159) fun v160 =>
 pq prog S (fieldAt 41 v3 1) fun v161 =>
 pq prog S (loadAt 9 v161) fun v162 =>
 pq prog S (nilSem p0) fun v166 =>
 pq prog S (fieldAt 33 v166 1) fun v167 =>
 pq prog S (loadAt 30 v167) fun v168 =>
 pq prog S (fieldAt 41 v3 1) fun v169 =>
 pq prog S (loadAt 9 v169) fun v170 =>
 pFn prog 54 [v160,v162] w fun v163 w => S w ∧ (
 pFn prog 20 [v163] w fun v164 w => S w ∧ (
 pFn prog 71 [v168,v170] w fun v171 w => S w ∧ (
 pq prog S (binSem .eql 3 (.tmp 164) (.tmp 171) v164 v171) fun v172 =>
 k v172 w)))) w.drew)
 (
 px prog (binSem .eql 3 (.tmp 6) (.const (.int .i64 8)) v6 (.int .i64 8)) w fun v174 w =>
 pC v174 (
 ∃ S : World → Prop,S w.drew ∧ (fun w =>
 pq prog S (nilSem p0) fun v176 =>
 pq prog S (fieldAt 33 v176 0) fun v177 =>
 pq prog S (loadAt 29 v177) fun v178 =>
 pq prog S (nilSem p0) fun v182 =>
 pq prog S (fieldAt 33 v182 1) fun v183 =>
 pq prog S (loadAt 30 v183) fun v184 =>
 pFn prog 55 [v178] w fun v179 w => S w ∧ (
 pFn prog 20 [v179] w fun v180 w => S w ∧ (
 pFn prog 72 [v184] w fun v185 w => S w ∧ (
 pq prog S (binSem .eql 3 (.tmp 180) (.tmp 185) v180 v185) fun v186 =>
 k v186 w)))) w.drew)
 (
 px prog (loadAt 41 v3) w fun v188 w =>
 pFn prog 73 [p0,v188] w fun v189 w =>
 k v189 w))))))))
theorem F18_0_eq (p0:Value) (x1:Value) (w:World) (k:KV) : F18A k [] (argEnv [p0,x1]) w = F18_0 p0 x1 w k := by kernel_rfl
theorem F18_in (p0:Value) (x1:Value) (w:World) (k:KV) (h:F18_0 p0 x1 w k) : pFn prog 18 [p0,x1] w k :=
 pFn_of_at mixed func18 (by kernel_rfl) (by kernel_rfl) ntmps18 (by kernel_rfl) (by kernel_rfl) (by simp) ((F18_0_eq p0 x1 w k).mpr h)
noncomputable def F63B : Code := bodyOf f63
def F63A (k:KV) (q:List Nat) (ρ:Env) (w:World) : Prop := At prog 51 F63B (retQ prog f63.results.toList k) q ρ w
noncomputable def F63B1 : Code := sub F63B [1,1,0,1,0,0]
def F63Q1 (k:KV) (N1:KE) : Xt → KE := thenE N1 (contAt prog 51 F63B (retQ prog f63.results.toList k) [1,1,0,1,0])
def F63A1 (k:KV) (N1:KE) (q:List Nat) (ρ:Env) (w:World) : Prop := At prog 51 F63B1 (F63Q1 k N1) q ρ w
def F63L1 (k:KV) (ρ:Env) (w:World) : Prop := LoopAt prog 51 F63B (retQ prog f63.results.toList k) [1,1,0,1,0] ρ w
theorem F63L1_inv (k:KV) (I:Nat → KE) (round:∀ m ρ w,I m ρ w → F63A1 k (fun ρ' w' => ∃ m',m' < m ∧ I m' ρ' w') [] ρ w) {m:Nat} {ρ:Env} {w:World} (h:I m ρ w) : F63L1 k ρ w :=
 LoopAt_inv mixed (B := F63B) (Q := (retQ prog f63.results.toList k)) (p := [1,1,0,1,0]) (by kernel_rfl) (by kernel_rfl) I round h
def F63_0 (d0:Value) (data1:Value) (w:World) (k:KV) : Prop :=
 px prog (nilSem d0) w fun v7 w =>
 px prog (fieldAt 51 v7 0) w fun v8 w =>
 px prog (loadAt 36 v8) w fun v9 w =>
 px prog (bSem .len #[36] 3 #[v9]) w fun v10 w =>
 px prog (bSem .len #[36] 3 #[data1]) w fun v12 w =>
 px prog (binSem .add 3 (.tmp 12) (.const (.int .i64 5)) v12 (.int .i64 5)) w fun v13 w =>
 px prog (binSem .lss 3 (.tmp 10) (.tmp 13) v10 v13) w fun v14 w =>
 pC v14 (
 px prog (bSem .len #[36] 3 #[data1]) w fun v17 w =>
 px prog (binSem .mul 3 (.const (.int .i64 2)) (.tmp 17) (.int .i64 2) v17) w fun v18 w =>
 px prog (binSem .add 3 (.tmp 18) (.const (.int .i64 40)) v18 (.int .i64 40)) w fun v19 w =>
 px prog (Instr.makeSlice 36 v19 v19) w fun v20 w =>
 px prog (nilSem d0) w fun v21 w =>
 px prog (fieldAt 51 v21 0) w fun v22 w =>
 pu prog (storeAt 36 v22 v20) w fun w =>
 F63A k [1,1] (put (put (put (put (put (put (put (put (put (put (put (put (put (put (put (put (put (put (argEnv [d0,data1]) 4 (.slice none 0 0)) 6 d0) 7 v7) 8 v8) 9 v9) 10 v10) 11 data1) 12 v12) 13 v13) 14 v14) 15 d0) 16 data1) 17 v17) 18 v18) 19 v19) 20 v20) 21 v21) 22 v22) w)
 (
 F63A k [1,1] (put (put (put (put (put (put (put (put (put (put (argEnv [d0,data1]) 4 (.slice none 0 0)) 6 d0) 7 v7) 8 v8) 9 v9) 10 v10) 11 data1) 12 v12) 13 v13) 14 v14) w)
theorem F63_0_eq (d0:Value) (data1:Value) (w:World) (k:KV) : F63A k [] (argEnv [d0,data1]) w = F63_0 d0 data1 w k := by kernel_rfl
def F63_1 (k:KV) (ρ:Env) (w:World) : Prop :=
 F63L1 k (put ρ 5 (.int .i64 0)) w
theorem F63_1_eq (k:KV) (ρ:Env) (w:World) : F63A k [1,1] ρ w = F63_1 k ρ w := by kernel_rfl
def F63_2 (k:KV) (N1:KE) (ρ:Env) (w:World) : Prop :=
 px prog (nilSem (ρ 0)) w fun v25 w =>
 px prog (fieldAt 51 v25 0) w fun v26 w =>
 px prog (loadAt 36 v26) w fun v27 w =>
 px prog (bSem .len #[36] 3 #[v27]) w fun v28 w =>
 px prog (binSem .lss 3 (.tmp 23) (.tmp 28) (ρ 5) v28) w fun v29 w =>
 pC v29 (
 px prog (nilSem (ρ 0)) w fun v33 w =>
 px prog (fieldAt 51 v33 0) w fun v34 w =>
 px prog (loadAt 36 v34) w fun v35 w =>
 px prog (indexAt 36 v35 (ρ 5)) w fun v37 w =>
 pu prog (storeAt 5 v37 (.int .u8 171)) w fun w =>
 px prog (binSem .add 3 (.tmp 30) (.const (.int .i64 1)) (ρ 5) (.int .i64 1)) w fun v31 w =>
 N1 (put (put (put (put (put (put (put (put (put (put (put (put (put (put (put (put ρ 23 (ρ 5)) 24 (ρ 0)) 25 v25) 26 v26) 27 v27) 28 v28) 29 v29) 32 (ρ 0)) 33 v33) 34 v34) 35 v35) 36 (ρ 5)) 37 v37) 30 (ρ 5)) 31 v31) 5 v31) w)
 (
 F63A k [1,1,1] (put (put (put (put (put (put (put ρ 23 (ρ 5)) 24 (ρ 0)) 25 v25) 26 v26) 27 v27) 28 v28) 29 v29) w)
theorem F63_2_eq (k:KV) (N1:KE) (ρ:Env) (w:World) : F63A1 k N1 [] ρ w = F63_2 k N1 ρ w := by kernel_rfl
def F63_3 (k:KV) (ρ:Env) (w:World) : Prop :=
 px prog (nilSem (ρ 0)) w fun v39 w =>
 px prog (fieldAt 51 v39 0) w fun v40 w =>
 px prog (loadAt 36 v40) w fun v41 w =>
 px prog (bSem .copy #[36,36] 3 #[v41,(ρ 1)]) w fun v43 w =>
 px prog (nilSem (ρ 0)) w fun v45 w =>
 px prog (fieldAt 51 v45 0) w fun v46 w =>
 px prog (loadAt 36 v46) w fun v47 w =>
 px prog (bSem .len #[36] 3 #[(ρ 1)]) w fun v49 w =>
 px prog (sliceAt 36 v47 none (some v49) none) w fun v50 w =>
 k v50 w
theorem F63_3_eq (k:KV) (ρ:Env) (w:World) : F63A k [1,1,1] ρ w = F63_3 k ρ w := by kernel_rfl
theorem F63_in (d0:Value) (data1:Value) (w:World) (k:KV) (h:F63_0 d0 data1 w k) : pFn prog 63 [d0,data1] w k :=
 pFn_of_at mixed func63 (by kernel_rfl) (by kernel_rfl) ntmps63 (by kernel_rfl) (by kernel_rfl) (by simp) ((F63_0_eq d0 data1 w k).mpr h)
noncomputable def F65B : Code := bodyOf f65
def F65A (k:KV) (q:List Nat) (ρ:Env) (w:World) : Prop := At prog 19 F65B (retQ prog f65.results.toList k) q ρ w
def F65_0 (p0:Value) (x1:Value) (w:World) (k:KV) : Prop :=
 px prog (Instr.box 41 x1) w fun v3 w =>
 ∃ S : World → Prop,S w.drew ∧ (fun w =>
 pq prog S (nilSem p0) fun v7 =>
 pq prog S (fieldAt 33 v7 2) fun v8 =>
 pq prog S (loadAt 31 v8) fun v9 =>
 pq prog S (fieldAt 41 v3 5) fun v10 =>
 pq prog S (loadAt 36 v10) fun v11 =>
 pFn prog 117 [v9,v11] w fun v12 w => S w ∧ (
 px prog (nilSem p0) w fun v14 w =>
 px prog (fieldAt 33 v14 2) w fun v15 w =>
 px prog (loadAt 31 v15) w fun v16 w =>
 pFn prog 63 [v16,(.slice none 0 0)] w fun v17 w =>
 k v12 w)) w.drew
theorem F65_0_eq (p0:Value) (x1:Value) (w:World) (k:KV) : F65A k [] (argEnv [p0,x1]) w = F65_0 p0 x1 w k := by kernel_rfl
theorem F65_in (p0:Value) (x1:Value) (w:World) (k:KV) (h:F65_0 p0 x1 w k) : pFn prog 65 [p0,x1] w k :=
 pFn_of_at mixed func65 (by kernel_rfl) (by kernel_rfl) ntmps65 (by kernel_rfl) (by kernel_rfl) (by simp) ((F65_0_eq p0 x1 w k).mpr h)
noncomputable def F73B : Code := bodyOf f73
def F73A (k:KV) (q:List Nat) (ρ:Env) (w:World) : Prop := At prog 207 F73B (retQ prog f73.results.toList k) q ρ w
def F73_0 (p0:Value) (x1:Value) (w:World) (k:KV) : Prop :=
 px prog (Instr.box 41 x1) w fun v3 w =>
 px prog (fieldAt 41 v3 0) w fun v16 w =>
 px prog (loadAt 3 v16) w fun v17 w =>
 px prog (binSem .eql 3 (.tmp 17) (.const (.int .i64 9)) v17 (.int .i64 9)) w fun v19 w =>
 pC v19 (
 ∃ S : World → Prop,S w.drew ∧ (fun w =>
 pq prog S (nilSem p0) fun v22 =>
 pq prog S (fieldAt 33 v22 0) fun v23 =>
 pq prog S (loadAt 29 v23) fun v24 =>
 pq prog S (fieldAt 41 v3 1) fun v25 =>
 pq prog S (loadAt 9 v25) fun v26 =>
 pq prog S (fieldAt 41 v3 3) fun v27 =>
 pq prog S (loadAt 3 v27) fun v28 =>
 pq prog S (fieldAt 41 v3 4) fun v29 =>
 pq prog S (loadAt 3 v29) fun v30 =>
 pFn prog 32 [v24,v26,v28,v30] w fun v31 w => S w ∧ (
 pq prog S (extract v31 0) fun v32 =>
 pq prog S (extract v31 1) fun v33 =>
 ∃ S : World → Prop,S w.drew ∧ (fun w =>
 pq prog S (nilSem p0) fun v36 =>
 pq prog S (fieldAt 33 v36 1) fun v37 =>
 pq prog S (loadAt 30 v37) fun v38 =>
 pq prog S (fieldAt 41 v3 1) fun v39 =>
 pq prog S (loadAt 9 v39) fun v40 =>
 pq prog S (fieldAt 41 v3 3) fun v41 =>
 pq prog S (loadAt 3 v41) fun v42 =>
 pq prog S (fieldAt 41 v3 4) fun v43 =>
 pq prog S (loadAt 3 v43) fun v44 =>
 pFn prog 34 [v38,v40,v42,v44] w fun v45 w => S w ∧ (
 pq prog S (extract v45 0) fun v46 =>
 pq prog S (extract v45 1) fun v47 =>
 pFn prog 20 [v33] w fun v49 w =>
 px prog (binSem .eql 3 (.tmp 49) (.tmp 50) v49 v47) w fun v51 w =>
 pG v51 true (fun k => k v32 w) (w := w) (next := fun v53 w =>
 pG v51 true (fun k => k v46 w) (w := w) (next := fun v54 w =>
 pG v51 true (fun k => pFn prog 35 [v53,v54] w k) (w := w) (next := fun v55 w =>
 px prog (pickSem v51 v55 (.bool false)) w fun v56 w =>
 k v56 w))))) w.drew)) w.drew)
 (
 px prog (binSem .eql 3 (.tmp 17) (.const (.int .i64 10)) v17 (.int .i64 10)) w fun v58 w =>
 pC v58 (
 ∃ S : World → Prop,S w.drew ∧ (fun w =>
 pq prog S (nilSem p0) fun v61 =>
 pq prog S (fieldAt 33 v61 0) fun v62 =>
 pq prog S (loadAt 29 v62) fun v63 =>
 pq prog S (fieldAt 41 v3 1) fun v64 =>
 pq prog S (loadAt 9 v64) fun v65 =>
 pFn prog 119 [v63,v65] w fun v66 w => S w ∧ (
 pq prog S (extract v66 0) fun v67 =>
 pq prog S (extract v66 1) fun v68 =>
 ∃ S : World → Prop,S w.drew ∧ (fun w =>
 pq prog S (nilSem p0) fun v71 =>
 pq prog S (fieldAt 33 v71 1) fun v72 =>
 pq prog S (loadAt 30 v72) fun v73 =>
 pq prog S (fieldAt 41 v3 1) fun v74 =>
 pq prog S (loadAt 9 v74) fun v75 =>
 pFn prog 120 [v73,v75] w fun v76 w => S w ∧ (
 pq prog S (extract v76 0) fun v77 =>
 pq prog S (extract v76 1) fun v78 =>
 ∃ S : World → Prop,S w.drew ∧ (fun w =>
 pFn prog 20 [v68] w fun v80 w => S w ∧ (
 pq prog S (binSem .eql 3 (.tmp 80) (.tmp 81) v80 v78) fun v82 =>
 pGq v82 true (fun k => k v67) (next := fun v84 =>
 pGq v82 true (fun k => k v77) (next := fun v85 =>
 pGq v82 true (fun k => pq prog S (binSem .eql 3 (.tmp 84) (.tmp 85) v84 v85) k) (next := fun v86 =>
 pq prog S (pickSem v82 v86 (.bool false)) fun v87 =>
 pGq v87 true (fun k => k p0) (next := fun v89 =>
 pGq v87 true (fun k => pq prog S (nilSem v89) k) (next := fun v90 =>
 pGq v87 true (fun k => pq prog S (fieldAt 33 v90 0) k) (next := fun v91 =>
 pGq v87 true (fun k => pq prog S (loadAt 29 v91) k) (next := fun v92 =>
 pGq v87 true (fun k => pq prog S (fieldAt 41 v3 1) k) (next := fun v93 =>
 pGq v87 true (fun k => pq prog S (loadAt 9 v93) k) (next := fun v94 =>
 pGq v87 true (fun k => k p0) (next := fun v96 =>
 pGq v87 true (fun k => pq prog S (nilSem v96) k) (next := fun v97 =>
 pGq v87 true (fun k => pq prog S (fieldAt 33 v97 1) k) (next := fun v98 =>
 pGq v87 true (fun k => pq prog S (loadAt 30 v98) k) (next := fun v99 =>
 pGq v87 true (fun k => pq prog S (fieldAt 41 v3 1) k) (next := fun v100 =>
 pGq v87 true (fun k => pq prog S (loadAt 9 v100) k) (next := fun v101 =>
 pG v87 true (fun k => pFn prog 30 [v92,v94] w k) (w := w) (next := fun v95 w => S w ∧ (
 pG v87 true (fun k => pFn prog 44 [v99,v101] w k) (w := w) (next := fun v102 w => S w ∧ (
 pG v87 true (fun k => pFn prog 43 [v95,v102] w k) (w := w) (next := fun v103 w => S w ∧ (
 pq prog S (pickSem v87 v103 (.bool false)) fun v104 =>
 k v104 w))))))))))))))))))))))) w.drew)) w.drew)) w.drew)
 (
 px prog (binSem .eql 3 (.tmp 17) (.const (.int .i64 11)) v17 (.int .i64 11)) w fun v106 w =>
 pC v106 (
 ∃ S : World → Prop,S w.drew ∧ (fun w =>
 pq prog S (nilSem p0) fun v108 =>
 pq prog S (fieldAt 33 v108 0) fun v109 =>
 pq prog S (loadAt 29 v109) fun v110 =>
 pq prog S (fieldAt 41 v3 6) fun v111 =>
 pq prog S (loadAt 38 v111) fun v112 =>
 pFn prog 22 [v110,v112] w fun v113 w => (
 ∃ S : World → Prop,S w.drew ∧ (fun w =>
 pq prog S (nilSem p0) fun v115 =>
 pq prog S (fieldAt 33 v115 1) fun v116 =>
 pq prog S (loadAt 30 v116) fun v117 =>
 pq prog S (fieldAt 41 v3 6) fun v118 =>
 pq prog S (loadAt 38 v118) fun v119 =>
 pFn prog 121 [v117,v119] w fun v120 w => (
 F73A k [1,1] (put (put (put (put (put (put (put (put (put (put (put (put (put (put (put (put (put (put (put (put (put (put (put (put (argEnv [p0,x1]) 3 v3) 4 (.bool false)) 16 v16) 17 v17) 19 v19) 18 v19) 58 v58) 57 v58) 106 v106) 105 v106) 107 p0) 108 v108) 109 v109) 110 v110) 111 v111) 112 v112) 113 v113) 114 p0) 115 v115) 116 v116) 117 v117) 118 v118) 119 v119) 120 v120) w)) w.drew)) w.drew)
 (
 px prog (binSem .eql 3 (.tmp 17) (.const (.int .i64 12)) v17 (.int .i64 12)) w fun v122 w =>
 pC v122 (
 ∃ S : World → Prop,S w.drew ∧ (fun w =>
 pq prog S (nilSem p0) fun v124 =>
 pq prog S (fieldAt 33 v124 0) fun v125 =>
 pq prog S (loadAt 29 v125) fun v126 =>
 pq prog S (nilSem p0) fun v128 =>
 pq prog S (fieldAt 33 v128 2) fun v129 =>
 pq prog S (loadAt 31 v129) fun v130 =>
 pq prog S (fieldAt 41 v3 7) fun v131 =>
 pq prog S (loadAt 39 v131) fun v132 =>
 pFn prog 122 [v130,v132] w fun v133 w => S w ∧ (
 pFn prog 58 [v126,v133] w fun v134 w => (
 ∃ S : World → Prop,S w.drew ∧ (fun w =>
 pq prog S (nilSem p0) fun v136 =>
 pq prog S (fieldAt 33 v136 1) fun v137 =>
 pq prog S (loadAt 30 v137) fun v138 =>
 pq prog S (fieldAt 41 v3 7) fun v139 =>
 pq prog S (loadAt 39 v139) fun v140 =>
 pFn prog 123 [v138,v140] w fun v141 w => (
 ∃ S : World → Prop,S w.drew ∧ (fun w =>
 pq prog S (nilSem p0) fun v143 =>
 pq prog S (fieldAt 33 v143 2) fun v144 =>
 pq prog S (loadAt 31 v144) fun v145 =>
 pq prog S (fieldAt 41 v3 7) fun v146 =>
 pq prog S (loadAt 39 v146) fun v147 =>
 pFn prog 124 [v145,v147] w fun v148 w => S w ∧ (
 px prog (nilSem p0) w fun v150 w =>
 px prog (fieldAt 33 v150 2) w fun v151 w =>
 px prog (loadAt 31 v151) w fun v152 w =>
 pFn prog 122 [v152,(.slice none 0 0)] w fun v153 w =>
 k v148 w)) w.drew)) w.drew))) w.drew)
 (
 px prog (binSem .eql 3 (.tmp 17) (.const (.int .i64 13)) v17 (.int .i64 13)) w fun v156 w =>
 pC v156 (
 px prog (nilSem p0) w fun v158 w =>
 px prog (fieldAt 33 v158 0) w fun v159 w =>
 px prog (loadAt 29 v159) w fun v160 w =>
 pFn prog 125 [v160] w fun v161 w =>
 px prog (nilSem p0) w fun v163 w =>
 px prog (fieldAt 33 v163 1) w fun v164 w =>
 px prog (loadAt 30 v164) w fun v165 w =>
 pFn prog 126 [v165] w fun v166 w =>
 F73A k [1,1] (put (put (put (put (put (put (put (put (put (put (put (put (put (put (put (put (put (put (put (put (put (put (put (put (argEnv [p0,x1]) 3 v3) 4 (.bool false)) 16 v16) 17 v17) 19 v19) 18 v19) 58 v58) 57 v58) 106 v106) 105 v106) 122 v122) 121 v122) 156 v156) 155 v156) 157 p0) 158 v158) 159 v159) 160 v160) 161 v161) 162 p0) 163 v163) 164 v164) 165 v165) 166 v166) w)
 (
 px prog (binSem .eql 3 (.tmp 17) (.const (.int .i64 14)) v17 (.int .i64 14)) w fun v168 w =>
 pC v168 (
 px prog (nilSem p0) w fun v170 w =>
 px prog (fieldAt 33 v170 0) w fun v171 w =>
 px prog (loadAt 29 v171) w fun v172 w =>
 pFn prog 24 [v172] w fun v173 w =>
 px prog (binSem .eql 29 (.tmp 174) (.const (.pointer none)) v173 (.pointer none)) w fun v175 w =>
 pC v175 (
 k (.bool false) w)
 (
 px prog (nilSem p0) w fun v177 w =>
 px prog (fieldAt 33 v177 0) w fun v178 w =>
 px prog (loadAt 29 v178) w fun v179 w =>
 px prog (nilSem p0) w fun v182 w =>
 px prog (fieldAt 33 v182 0) w fun v183 w =>
 pu prog (storeAt 29 v183 v173) w fun w =>
 px prog (nilSem p0) w fun v186 w =>
 px prog (fieldAt 33 v186 1) w fun v187 w =>
 px prog (loadAt 30 v187) w fun v188 w =>
 pFn prog 25 [v188] w fun v189 w =>
 px prog (nilSem p0) w fun v190 w =>
 px prog (fieldAt 33 v190 1) w fun v191 w =>
 pu prog (storeAt 30 v191 v189) w fun w =>
 pFn prog 21 [v179,(.string (ByteArray.mk #[122,122]))] w fun v193 w =>
 px prog (Instr.buildSlice 36 1 #[(0,(.int .u8 119))]) w fun v195 w =>
 px prog (convert 36 36 v195) w fun v196 w =>
 pFn prog 23 [v179,(.string (ByteArray.mk #[122,122])),v196] w fun v197 w =>
 pFn prog 55 [v179] w fun v199 w =>
 pFn prog 125 [v179] w fun v201 w =>
 px prog (Instr.build 38 #[(0,(.int .i64 1))]) w fun v203 w =>
 pFn prog 22 [v179,v203] w fun v204 w =>
 pFn prog 59 [v179,(.string (ByteArray.mk #[122,122]))] w fun v206 w =>
 F73A k [1,1] (put (put (put (put (put (put (put (put (put (put (put (put (put (put (put (put (put (put (put (put (put (put (put (put (put (put (put (put (put (put (put (put (put (put (put (put (put (put (put (put (put (put (put (put (put (put (put (put (put (put (put (put (put (put (put (put (argEnv [p0,x1]) 3 v3) 4 (.bool false)) 16 v16) 17 v17) 19 v19) 18 v19) 58 v58) 57 v58) 106 v106) 105 v106) 122 v122) 121 v122) 156 v156) 155 v156) 168 v168) 167 v168) 169 p0) 170 v170) 171 v171) 172 v172) 173 v173) 14 v173) 174 v173) 175 v175) 176 p0) 177 v177) 178 v178) 179 v179) 15 v179) 180 p0) 181 v173) 182 v182) 183 v183) 184 p0) 185 p0) 186 v186) 187 v187) 188 v188) 189 v189) 190 v190) 191 v191) 192 v179) 193 v193) 194 v179) 195 v195) 196 v196) 197 v197) 198 v179) 199 v199) 200 v179) 201 v201) 202 v179) 203 v203) 204 v204) 205 v179) 206 v206) w))
 (
 F73A k [1,1] (put (put (put (put (put (put (put (put (put (put (put (put (put (put (put (put (argEnv [p0,x1]) 3 v3) 4 (.bool false)) 16 v16) 17 v17) 19 v19) 18 v19) 58 v58) 57 v58) 106 v106) 105 v106) 122 v122) 121 v122) 156 v156) 155 v156) 168 v168) 167 v168) w))))))
theorem F73_0_eq (p0:Value) (x1:Value) (w:World) (k:KV) : F73A k [] (argEnv [p0,x1]) w = F73_0 p0 x1 w k := by kernel_rfl
def F73_1 (k:KV) (ρ:Env) (w:World) : Prop :=
 k (.bool true) w
theorem F73_1_eq (k:KV) (ρ:Env) (w:World) : F73A k [1,1] ρ w = F73_1 k ρ w := by kernel_rfl
theorem F73_in (p0:Value) (x1:Value) (w:World) (k:KV) (h:F73_0 p0 x1 w k) : pFn prog 73 [p0,x1] w k :=
 pFn_of_at mixed func73 (by kernel_rfl) (by kernel_rfl) ntmps73 (by kernel_rfl) (by kernel_rfl) (by simp) ((F73_0_eq p0 x1 w k).mpr h)
noncomputable def F117B : Code := bodyOf f117
def F117A (k:KV) (q:List Nat) (ρ:Env) (w:World) : Prop := At prog 49 F117B (retQ prog f117.results.toList k) q ρ w
noncomputable def F117B1 : Code := sub F117B [1,0,1,0,0]
def F117Q1 (k:KV) (N1:KE) : Xt → KE := thenE N1 (contAt prog 49 F117B (retQ prog f117.results.toList k) [1,0,1,0])
def F117A1 (k:KV) (N1:KE) (q:List Nat) (ρ:Env) (w:World) : Prop := At prog 49 F117B1 (F117Q1 k N1) q ρ w
def F117L1 (k:KV) (ρ:Env) (w:World) : Prop := LoopAt prog 49 F117B (retQ prog f117.results.toList k) [1,0,1,0] ρ w
theorem F117L1_inv (k:KV) (I:Nat → KE) (round:∀ m ρ w,I m ρ w → F117A1 k (fun ρ' w' => ∃ m',m' < m ∧ I m' ρ' w') [] ρ w) {m:Nat} {ρ:Env} {w:World} (h:I m ρ w) : F117L1 k ρ w :=
 LoopAt_inv mixed (B := F117B) (Q := (retQ prog f117.results.toList k)) (p := [1,0,1,0]) (by kernel_rfl) (by kernel_rfl) I round h
def F117_0 (d0:Value) (data1:Value) (w:World) (k:KV) : Prop :=
 F117L1 k (put (put (argEnv [d0,data1]) 4 (.bool false)) 5 (.int .i64 0)) w
theorem F117_0_eq (d0:Value) (data1:Value) (w:World) (k:KV) : F117A k [] (argEnv [d0,data1]) w = F117_0 d0 data1 w k := by kernel_rfl
def F117_1 (k:KV) (N1:KE) (ρ:Env) (w:World) : Prop :=
 px prog (nilSem (ρ 0)) w fun v8 w =>
 px prog (fieldAt 51 v8 0) w fun v9 w =>
 px prog (loadAt 36 v9) w fun v10 w =>
 px prog (bSem .len #[36] 3 #[v10]) w fun v11 w =>
 px prog (binSem .lss 3 (.tmp 6) (.tmp 11) (ρ 5) v11) w fun v12 w =>
 pC v12 (
 ∃ S : World → Prop,S w.drew ∧ (fun w =>
 pq prog S (bSem .len #[36] 3 #[(ρ 1)]) fun v17 =>
 pq prog S (binSem .lss 3 (.tmp 15) (.tmp 17) (ρ 5) v17) fun v18 =>
 pGq v18 true (fun k => k (ρ 0)) (next := fun v20 =>
 pGq v18 true (fun k => pq prog S (nilSem v20) k) (next := fun v21 =>
 pGq v18 true (fun k => pq prog S (fieldAt 51 v21 0) k) (next := fun v22 =>
 pGq v18 true (fun k => pq prog S (loadAt 36 v22) k) (next := fun v23 =>
 pGq v18 true (fun k => k (ρ 5)) (next := fun v24 =>
 pGq v18 true (fun k => pq prog S (indexAt 36 v23 v24) k) (next := fun v25 =>
 pGq v18 true (fun k => pq prog S (loadAt 5 v25) k) (next := fun v26 =>
 pGq v18 true (fun k => k (ρ 1)) (next := fun v27 =>
 pGq v18 true (fun k => k (ρ 5)) (next := fun v28 =>
 pGq v18 true (fun k => pq prog S (indexAt 36 v27 v28) k) (next := fun v29 =>
 pGq v18 true (fun k => pq prog S (loadAt 5 v29) k) (next := fun v30 =>
 pGq v18 true (fun k => pq prog S (binSem .neq 5 (.tmp 26) (.tmp 30) v26 v30) k) (next := fun v31 =>
 pq prog S (pickSem v18 v31 (.bool false)) fun v32 =>
 pGq v32 false (fun k => k (ρ 5)) (next := fun v34 =>
 pGq v32 false (fun k => k (ρ 1)) (next := fun v35 =>
 pGq v32 false (fun k => pq prog S (bSem .len #[36] 3 #[v35]) k) (next := fun v36 =>
 pGq v32 false (fun k => pq prog S (binSem .geq 3 (.tmp 34) (.tmp 36) v34 v36) k) (next := fun v37 =>
 pGq v32 false (fun k => k v37) (next := fun v38 =>
 pGq v38 true (fun k => k (ρ 0)) (next := fun v39 =>
 pGq v38 true (fun k => pq prog S (nilSem v39) k) (next := fun v40 =>
 pGq v38 true (fun k => pq prog S (fieldAt 51 v40 0) k) (next := fun v41 =>
 pGq v38 true (fun k => pq prog S (loadAt 36 v41) k) (next := fun v42 =>
 pGq v38 true (fun k => k (ρ 5)) (next := fun v43 =>
 pGq v38 true (fun k => pq prog S (indexAt 36 v42 v43) k) (next := fun v44 =>
 pGq v38 true (fun k => pq prog S (loadAt 5 v44) k) (next := fun v45 =>
 pGq v38 true (fun k => pq prog S (binSem .neq 5 (.tmp 45) (.const (.int .u8 171)) v45 (.int .u8 171)) k) (next := fun v46 =>
 pGq v32 false (fun k => pq prog S (pickSem v38 v46 (.bool false)) k) (next := fun v47 =>
 pq prog S (pickSem v32 (.bool true) v47) fun v48 =>
 pC v48 (
 k (.bool false) w)
 (
 px prog (binSem .add 3 (.tmp 13) (.const (.int .i64 1)) (ρ 5) (.int .i64 1)) w fun v14 w =>
 N1 (put (put (put (put (put (put (put (put (put (put (put (put (put (put (put (put (put (put (put (put (put (put (put (put (put (put (put (put (put (put (put (put (put (put (put (put (put (put (put (put (put (put (put (put ρ 6 (ρ 5)) 7 (ρ 0)) 8 v8) 9 v9) 10 v10) 11 v11) 12 v12) 15 (ρ 5)) 16 (ρ 1)) 17 v17) 18 v18) 19 v18) 20 v20) 21 v21) 22 v22) 23 v23) 24 v24) 25 v25) 26 v26) 27 v27) 28 v28) 29 v29) 30 v30) 31 v31) 32 v32) 33 v32) 34 v34) 35 v35) 36 v36) 37 v37) 38 v38) 39 v39) 40 v40) 41 v41) 42 v42) 43 v43) 44 v44) 45 v45) 46 v46) 47 v47) 48 v48) 13 (ρ 5)) 14 v14) 5 v14) w)))))))))))))))))))))))))))) w.drew)
 (
 F117A k [1,1] (put (put (put (put (put (put (put ρ 6 (ρ 5)) 7 (ρ 0)) 8 v8) 9 v9) 10 v10) 11 v11) 12 v12) w)
theorem F117_1_eq (k:KV) (N1:KE) (ρ:Env) (w:World) : F117A1 k N1 [] ρ w = F117_1 k N1 ρ w := by kernel_rfl
def F117_2 (k:KV) (ρ:Env) (w:World) : Prop :=
 k (.bool true) w
theorem F117_2_eq (k:KV) (ρ:Env) (w:World) : F117A k [1,1] ρ w = F117_2 k ρ w := by kernel_rfl
theorem F117_in (d0:Value) (data1:Value) (w:World) (k:KV) (h:F117_0 d0 data1 w k) : pFn prog 117 [d0,data1] w k :=
 pFn_of_at mixed func117 (by kernel_rfl) (by kernel_rfl) ntmps117 (by kernel_rfl) (by kernel_rfl) (by simp) ((F117_0_eq d0 data1 w k).mpr h)
noncomputable def F122B : Code := bodyOf f122
def F122A (k:KV) (q:List Nat) (ρ:Env) (w:World) : Prop := At prog 41 F122B (retQ prog f122.results.toList k) q ρ w
noncomputable def F122B1 : Code := sub F122B [1,1,0,1,0,0]
def F122Q1 (k:KV) (N1:KE) : Xt → KE := thenE N1 (contAt prog 41 F122B (retQ prog f122.results.toList k) [1,1,0,1,0])
def F122A1 (k:KV) (N1:KE) (q:List Nat) (ρ:Env) (w:World) : Prop := At prog 41 F122B1 (F122Q1 k N1) q ρ w
def F122L1 (k:KV) (ρ:Env) (w:World) : Prop := LoopAt prog 41 F122B (retQ prog f122.results.toList k) [1,1,0,1,0] ρ w
theorem F122L1_inv (k:KV) (I:Nat → KE) (round:∀ m ρ w,I m ρ w → F122A1 k (fun ρ' w' => ∃ m',m' < m ∧ I m' ρ' w') [] ρ w) {m:Nat} {ρ:Env} {w:World} (h:I m ρ w) : F122L1 k ρ w :=
 LoopAt_inv mixed (B := F122B) (Q := (retQ prog f122.results.toList k)) (p := [1,1,0,1,0]) (by kernel_rfl) (by kernel_rfl) I round h
def F122_0 (d0:Value) (l1:Value) (w:World) (k:KV) : Prop :=
 px prog (bSem .len #[39] 3 #[l1]) w fun v8 w =>
 px prog (binSem .add 3 (.tmp 8) (.const (.int .i64 3)) v8 (.int .i64 3)) w fun v9 w =>
 px prog (Instr.makeSlice 39 v9 v9) w fun v10 w =>
 px prog (nilSem d0) w fun v11 w =>
 px prog (fieldAt 51 v11 1) w fun v12 w =>
 pu prog (storeAt 39 v12 v10) w fun w =>
 F122L1 k (put (put (put (put (put (put (put (put (put (argEnv [d0,l1]) 4 (.slice none 0 0)) 6 d0) 7 l1) 8 v8) 9 v9) 10 v10) 11 v11) 12 v12) 5 (.int .i64 0)) w
theorem F122_0_eq (d0:Value) (l1:Value) (w:World) (k:KV) : F122A k [] (argEnv [d0,l1]) w = F122_0 d0 l1 w k := by kernel_rfl
def F122_1 (k:KV) (N1:KE) (ρ:Env) (w:World) : Prop :=
 px prog (nilSem (ρ 0)) w fun v15 w =>
 px prog (fieldAt 51 v15 1) w fun v16 w =>
 px prog (loadAt 39 v16) w fun v17 w =>
 px prog (bSem .len #[39] 3 #[v17]) w fun v18 w =>
 px prog (binSem .lss 3 (.tmp 13) (.tmp 18) (ρ 5) v18) w fun v19 w =>
 pC v19 (
 px prog (nilSem (ρ 0)) w fun v23 w =>
 px prog (fieldAt 51 v23 1) w fun v24 w =>
 px prog (loadAt 39 v24) w fun v25 w =>
 px prog (indexAt 39 v25 (ρ 5)) w fun v27 w =>
 pu prog (storeAt 3 v27 (.int .i64 77)) w fun w =>
 px prog (binSem .add 3 (.tmp 20) (.const (.int .i64 1)) (ρ 5) (.int .i64 1)) w fun v21 w =>
 N1 (put (put (put (put (put (put (put (put (put (put (put (put (put (put (put (put ρ 13 (ρ 5)) 14 (ρ 0)) 15 v15) 16 v16) 17 v17) 18 v18) 19 v19) 22 (ρ 0)) 23 v23) 24 v24) 25 v25) 26 (ρ 5)) 27 v27) 20 (ρ 5)) 21 v21) 5 v21) w)
 (
 F122A k [1,1,1] (put (put (put (put (put (put (put ρ 13 (ρ 5)) 14 (ρ 0)) 15 v15) 16 v16) 17 v17) 18 v18) 19 v19) w)
theorem F122_1_eq (k:KV) (N1:KE) (ρ:Env) (w:World) : F122A1 k N1 [] ρ w = F122_1 k N1 ρ w := by kernel_rfl
def F122_2 (k:KV) (ρ:Env) (w:World) : Prop :=
 px prog (nilSem (ρ 0)) w fun v29 w =>
 px prog (fieldAt 51 v29 1) w fun v30 w =>
 px prog (loadAt 39 v30) w fun v31 w =>
 px prog (bSem .copy #[39,39] 3 #[v31,(ρ 1)]) w fun v33 w =>
 px prog (nilSem (ρ 0)) w fun v35 w =>
 px prog (fieldAt 51 v35 1) w fun v36 w =>
 px prog (loadAt 39 v36) w fun v37 w =>
 px prog (bSem .len #[39] 3 #[(ρ 1)]) w fun v39 w =>
 px prog (sliceAt 39 v37 none (some v39) none) w fun v40 w =>
 k v40 w
theorem F122_2_eq (k:KV) (ρ:Env) (w:World) : F122A k [1,1,1] ρ w = F122_2 k ρ w := by kernel_rfl
theorem F122_in (d0:Value) (l1:Value) (w:World) (k:KV) (h:F122_0 d0 l1 w k) : pFn prog 122 [d0,l1] w k :=
 pFn_of_at mixed func122 (by kernel_rfl) (by kernel_rfl) ntmps122 (by kernel_rfl) (by kernel_rfl) (by simp) ((F122_0_eq d0 l1 w k).mpr h)
noncomputable def F124B : Code := bodyOf f124
def F124A (k:KV) (q:List Nat) (ρ:Env) (w:World) : Prop := At prog 49 F124B (retQ prog f124.results.toList k) q ρ w
noncomputable def F124B1 : Code := sub F124B [1,0,1,0,0]
def F124Q1 (k:KV) (N1:KE) : Xt → KE := thenE N1 (contAt prog 49 F124B (retQ prog f124.results.toList k) [1,0,1,0])
def F124A1 (k:KV) (N1:KE) (q:List Nat) (ρ:Env) (w:World) : Prop := At prog 49 F124B1 (F124Q1 k N1) q ρ w
def F124L1 (k:KV) (ρ:Env) (w:World) : Prop := LoopAt prog 49 F124B (retQ prog f124.results.toList k) [1,0,1,0] ρ w
theorem F124L1_inv (k:KV) (I:Nat → KE) (round:∀ m ρ w,I m ρ w → F124A1 k (fun ρ' w' => ∃ m',m' < m ∧ I m' ρ' w') [] ρ w) {m:Nat} {ρ:Env} {w:World} (h:I m ρ w) : F124L1 k ρ w :=
 LoopAt_inv mixed (B := F124B) (Q := (retQ prog f124.results.toList k)) (p := [1,0,1,0]) (by kernel_rfl) (by kernel_rfl) I round h
def F124_0 (d0:Value) (l1:Value) (w:World) (k:KV) : Prop :=
 F124L1 k (put (put (argEnv [d0,l1]) 4 (.bool false)) 5 (.int .i64 0)) w
theorem F124_0_eq (d0:Value) (l1:Value) (w:World) (k:KV) : F124A k [] (argEnv [d0,l1]) w = F124_0 d0 l1 w k := by kernel_rfl
def F124_1 (k:KV) (N1:KE) (ρ:Env) (w:World) : Prop :=
 px prog (nilSem (ρ 0)) w fun v8 w =>
 px prog (fieldAt 51 v8 1) w fun v9 w =>
 px prog (loadAt 39 v9) w fun v10 w =>
 px prog (bSem .len #[39] 3 #[v10]) w fun v11 w =>
 px prog (binSem .lss 3 (.tmp 6) (.tmp 11) (ρ 5) v11) w fun v12 w =>
 pC v12 (
 ∃ S : World → Prop,S w.drew ∧ (fun w =>
 pq prog S (bSem .len #[39] 3 #[(ρ 1)]) fun v17 =>
 pq prog S (binSem .lss 3 (.tmp 15) (.tmp 17) (ρ 5) v17) fun v18 =>
 pGq v18 true (fun k => k (ρ 0)) (next := fun v20 =>
 pGq v18 true (fun k => pq prog S (nilSem v20) k) (next := fun v21 =>
 pGq v18 true (fun k => pq prog S (fieldAt 51 v21 1) k) (next := fun v22 =>
 pGq v18 true (fun k => pq prog S (loadAt 39 v22) k) (next := fun v23 =>
 pGq v18 true (fun k => k (ρ 5)) (next := fun v24 =>
 pGq v18 true (fun k => pq prog S (indexAt 39 v23 v24) k) (next := fun v25 =>
 pGq v18 true (fun k => pq prog S (loadAt 3 v25) k) (next := fun v26 =>
 pGq v18 true (fun k => k (ρ 1)) (next := fun v27 =>
 pGq v18 true (fun k => k (ρ 5)) (next := fun v28 =>
 pGq v18 true (fun k => pq prog S (indexAt 39 v27 v28) k) (next := fun v29 =>
 pGq v18 true (fun k => pq prog S (loadAt 3 v29) k) (next := fun v30 =>
 pGq v18 true (fun k => pq prog S (binSem .neq 3 (.tmp 26) (.tmp 30) v26 v30) k) (next := fun v31 =>
 pq prog S (pickSem v18 v31 (.bool false)) fun v32 =>
 pGq v32 false (fun k => k (ρ 5)) (next := fun v34 =>
 pGq v32 false (fun k => k (ρ 1)) (next := fun v35 =>
 pGq v32 false (fun k => pq prog S (bSem .len #[39] 3 #[v35]) k) (next := fun v36 =>
 pGq v32 false (fun k => pq prog S (binSem .geq 3 (.tmp 34) (.tmp 36) v34 v36) k) (next := fun v37 =>
 pGq v32 false (fun k => k v37) (next := fun v38 =>
 pGq v38 true (fun k => k (ρ 0)) (next := fun v39 =>
 pGq v38 true (fun k => pq prog S (nilSem v39) k) (next := fun v40 =>
 pGq v38 true (fun k => pq prog S (fieldAt 51 v40 1) k) (next := fun v41 =>
 pGq v38 true (fun k => pq prog S (loadAt 39 v41) k) (next := fun v42 =>
 pGq v38 true (fun k => k (ρ 5)) (next := fun v43 =>
 pGq v38 true (fun k => pq prog S (indexAt 39 v42 v43) k) (next := fun v44 =>
 pGq v38 true (fun k => pq prog S (loadAt 3 v44) k) (next := fun v45 =>
 pGq v38 true (fun k => pq prog S (binSem .neq 3 (.tmp 45) (.const (.int .i64 77)) v45 (.int .i64 77)) k) (next := fun v46 =>
 pGq v32 false (fun k => pq prog S (pickSem v38 v46 (.bool false)) k) (next := fun v47 =>
 pq prog S (pickSem v32 (.bool true) v47) fun v48 =>
 pC v48 (
 k (.bool false) w)
 (
 px prog (binSem .add 3 (.tmp 13) (.const (.int .i64 1)) (ρ 5) (.int .i64 1)) w fun v14 w =>
 N1 (put (put (put (put (put (put (put (put (put (put (put (put (put (put (put (put (put (put (put (put (put (put (put (put (put (put (put (put (put (put (put (put (put (put (put (put (put (put (put (put (put (put (put (put ρ 6 (ρ 5)) 7 (ρ 0)) 8 v8) 9 v9) 10 v10) 11 v11) 12 v12) 15 (ρ 5)) 16 (ρ 1)) 17 v17) 18 v18) 19 v18) 20 v20) 21 v21) 22 v22) 23 v23) 24 v24) 25 v25) 26 v26) 27 v27) 28 v28) 29 v29) 30 v30) 31 v31) 32 v32) 33 v32) 34 v34) 35 v35) 36 v36) 37 v37) 38 v38) 39 v39) 40 v40) 41 v41) 42 v42) 43 v43) 44 v44) 45 v45) 46 v46) 47 v47) 48 v48) 13 (ρ 5)) 14 v14) 5 v14) w)))))))))))))))))))))))))))) w.drew)
 (
 F124A k [1,1] (put (put (put (put (put (put (put ρ 6 (ρ 5)) 7 (ρ 0)) 8 v8) 9 v9) 10 v10) 11 v11) 12 v12) w)
theorem F124_1_eq (k:KV) (N1:KE) (ρ:Env) (w:World) : F124A1 k N1 [] ρ w = F124_1 k N1 ρ w := by kernel_rfl
def F124_2 (k:KV) (ρ:Env) (w:World) : Prop :=
 k (.bool true) w
theorem F124_2_eq (k:KV) (ρ:Env) (w:World) : F124A k [1,1] ρ w = F124_2 k ρ w := by kernel_rfl
theorem F124_in (d0:Value) (l1:Value) (w:World) (k:KV) (h:F124_0 d0 l1 w k) : pFn prog 124 [d0,l1] w k :=
 pFn_of_at mixed func124 (by kernel_rfl) (by kernel_rfl) ntmps124 (by kernel_rfl) (by kernel_rfl) (by simp) ((F124_0_eq d0 l1 w k).mpr h)
end Go.Proofs.YtcdcojpfealppaaGreat
