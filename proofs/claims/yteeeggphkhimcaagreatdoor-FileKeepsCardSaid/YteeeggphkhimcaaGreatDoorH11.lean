/- Put together by a program (wip/tools/shake.py): R3,Law,R4. -/
import Derived.Test.YteeeggphkhimcaaGreatDoorH1
import Derived.Test.YteeeggphkhimcaaGreatDoorProg
import Derived.Test.YteeeggphkhimcaaGreatDoorMix
import Derived.Test.YteeeggphkhimcaaGreatDoorH7
import Derived.Test.YteeeggphkhimcaaGreatDoorH10
set_option linter.unusedVariables false
set_option maxRecDepth 100000
namespace Go.Proofs.YteeeggphkhimcaaGreatDoor
open Go Go.Proofs Go.Proofs.XRed Tryz
open Go.Instr (fieldAt loadAt storeAt indexAt sliceAt extract)
noncomputable def F3B : Code := bodyOf f3
def F3A (k:KV) (q:List Nat) (ρ:Env) (w:World) : Prop := At prog 189 F3B (retQ prog f3.results.toList k) q ρ w
noncomputable def F3B1 : Code := sub F3B [1,1,1,1,1,0,1,0,0]
def F3Q1 (k:KV) (N1:KE) : Xt → KE := thenE N1 (contAt prog 189 F3B (retQ prog f3.results.toList k) [1,1,1,1,1,0,1,0])
def F3A1 (k:KV) (N1:KE) (q:List Nat) (ρ:Env) (w:World) : Prop := At prog 189 F3B1 (F3Q1 k N1) q ρ w
def F3L1 (k:KV) (ρ:Env) (w:World) : Prop := LoopAt prog 189 F3B (retQ prog f3.results.toList k) [1,1,1,1,1,0,1,0] ρ w
theorem F3L1_inv (k:KV) (I:Nat → KE) (round:∀ m ρ w,I m ρ w → F3A1 k (fun ρ' w' => ∃ m',m' < m ∧ I m' ρ' w') [] ρ w) {m:Nat} {ρ:Env} {w:World} (h:I m ρ w) : F3L1 k ρ w :=
 LoopAt_inv mixed (B := F3B) (Q := (retQ prog f3.results.toList k)) (p := [1,1,1,1,1,0,1,0]) (by kernel_rfl) (by kernel_rfl) I round h
noncomputable def F3B2 : Code := sub F3B1 [1,0,0,1,1,0,1,0,0]
def F3Q2 (k:KV) (N1:KE) (N2:KE) : Xt → KE := thenE N2 (contAt prog 189 F3B1 (F3Q1 k N1) [1,0,0,1,1,0,1,0])
def F3A2 (k:KV) (N1:KE) (N2:KE) (q:List Nat) (ρ:Env) (w:World) : Prop := At prog 189 F3B2 (F3Q2 k N1 N2) q ρ w
def F3L2 (k:KV) (N1:KE) (ρ:Env) (w:World) : Prop := LoopAt prog 189 F3B1 (F3Q1 k N1) [1,0,0,1,1,0,1,0] ρ w
theorem F3L2_inv (k:KV) (N1:KE) (I:Nat → KE) (round:∀ m ρ w,I m ρ w → F3A2 k N1 (fun ρ' w' => ∃ m',m' < m ∧ I m' ρ' w') [] ρ w) {m:Nat} {ρ:Env} {w:World} (h:I m ρ w) : F3L2 k N1 ρ w :=
 LoopAt_inv mixed (B := F3B1) (Q := (F3Q1 k N1)) (p := [1,0,0,1,1,0,1,0]) (by kernel_rfl) (by kernel_rfl) I round h
noncomputable def F3B3 : Code := sub F3B [1,1,1,1,1,1,1,0,1,0,0]
def F3Q3 (k:KV) (N3:KE) : Xt → KE := thenE N3 (contAt prog 189 F3B (retQ prog f3.results.toList k) [1,1,1,1,1,1,1,0,1,0])
def F3A3 (k:KV) (N3:KE) (q:List Nat) (ρ:Env) (w:World) : Prop := At prog 189 F3B3 (F3Q3 k N3) q ρ w
def F3L3 (k:KV) (ρ:Env) (w:World) : Prop := LoopAt prog 189 F3B (retQ prog f3.results.toList k) [1,1,1,1,1,1,1,0,1,0] ρ w
theorem F3L3_inv (k:KV) (I:Nat → KE) (round:∀ m ρ w,I m ρ w → F3A3 k (fun ρ' w' => ∃ m',m' < m ∧ I m' ρ' w') [] ρ w) {m:Nat} {ρ:Env} {w:World} (h:I m ρ w) : F3L3 k ρ w :=
 LoopAt_inv mixed (B := F3B) (Q := (retQ prog f3.results.toList k)) (p := [1,1,1,1,1,1,1,0,1,0]) (by kernel_rfl) (by kernel_rfl) I round h
noncomputable def F3B4 : Code := sub F3B1 [1,0,0,1,1,1,1,1,0,0]
def F3Q4 (k:KV) (N1:KE) (N4:KE) : Xt → KE := thenE N4 (contAt prog 189 F3B1 (F3Q1 k N1) [1,0,0,1,1,1,1,1,0])
def F3A4 (k:KV) (N1:KE) (N4:KE) (q:List Nat) (ρ:Env) (w:World) : Prop := At prog 189 F3B4 (F3Q4 k N1 N4) q ρ w
def F3L4 (k:KV) (N1:KE) (ρ:Env) (w:World) : Prop := LoopAt prog 189 F3B1 (F3Q1 k N1) [1,0,0,1,1,1,1,1,0] ρ w
theorem F3L4_inv (k:KV) (N1:KE) (I:Nat → KE) (round:∀ m ρ w,I m ρ w → F3A4 k N1 (fun ρ' w' => ∃ m',m' < m ∧ I m' ρ' w') [] ρ w) {m:Nat} {ρ:Env} {w:World} (h:I m ρ w) : F3L4 k N1 ρ w :=
 LoopAt_inv mixed (B := F3B1) (Q := (F3Q1 k N1)) (p := [1,0,0,1,1,1,1,1,0]) (by kernel_rfl) (by kernel_rfl) I round h
noncomputable def F3B5 : Code := sub F3B [1,1,1,1,1,1,1,1,0,1,0,0]
def F3Q5 (k:KV) (N5:KE) : Xt → KE := thenE N5 (contAt prog 189 F3B (retQ prog f3.results.toList k) [1,1,1,1,1,1,1,1,0,1,0])
def F3A5 (k:KV) (N5:KE) (q:List Nat) (ρ:Env) (w:World) : Prop := At prog 189 F3B5 (F3Q5 k N5) q ρ w
def F3L5 (k:KV) (ρ:Env) (w:World) : Prop := LoopAt prog 189 F3B (retQ prog f3.results.toList k) [1,1,1,1,1,1,1,1,0,1,0] ρ w
theorem F3L5_inv (k:KV) (I:Nat → KE) (round:∀ m ρ w,I m ρ w → F3A5 k (fun ρ' w' => ∃ m',m' < m ∧ I m' ρ' w') [] ρ w) {m:Nat} {ρ:Env} {w:World} (h:I m ρ w) : F3L5 k ρ w :=
 LoopAt_inv mixed (B := F3B) (Q := (retQ prog f3.results.toList k)) (p := [1,1,1,1,1,1,1,1,0,1,0]) (by kernel_rfl) (by kernel_rfl) I round h
noncomputable def F3B6 : Code := sub F3B5 [1,0,0,1,0,0]
def F3Q6 (k:KV) (N5:KE) (N6:KE) : Xt → KE := thenE N6 (contAt prog 189 F3B5 (F3Q5 k N5) [1,0,0,1,0])
def F3A6 (k:KV) (N5:KE) (N6:KE) (q:List Nat) (ρ:Env) (w:World) : Prop := At prog 189 F3B6 (F3Q6 k N5 N6) q ρ w
def F3L6 (k:KV) (N5:KE) (ρ:Env) (w:World) : Prop := LoopAt prog 189 F3B5 (F3Q5 k N5) [1,0,0,1,0] ρ w
theorem F3L6_inv (k:KV) (N5:KE) (I:Nat → KE) (round:∀ m ρ w,I m ρ w → F3A6 k N5 (fun ρ' w' => ∃ m',m' < m ∧ I m' ρ' w') [] ρ w) {m:Nat} {ρ:Env} {w:World} (h:I m ρ w) : F3L6 k N5 ρ w :=
 LoopAt_inv mixed (B := F3B5) (Q := (F3Q5 k N5)) (p := [1,0,0,1,0]) (by kernel_rfl) (by kernel_rfl) I round h
noncomputable def F3B7 : Code := sub F3B [1,1,1,1,1,1,1,1,1,1,0,1,0,0]
def F3Q7 (k:KV) (N7:KE) : Xt → KE := thenE N7 (contAt prog 189 F3B (retQ prog f3.results.toList k) [1,1,1,1,1,1,1,1,1,1,0,1,0])
def F3A7 (k:KV) (N7:KE) (q:List Nat) (ρ:Env) (w:World) : Prop := At prog 189 F3B7 (F3Q7 k N7) q ρ w
def F3L7 (k:KV) (ρ:Env) (w:World) : Prop := LoopAt prog 189 F3B (retQ prog f3.results.toList k) [1,1,1,1,1,1,1,1,1,1,0,1,0] ρ w
theorem F3L7_inv (k:KV) (I:Nat → KE) (round:∀ m ρ w,I m ρ w → F3A7 k (fun ρ' w' => ∃ m',m' < m ∧ I m' ρ' w') [] ρ w) {m:Nat} {ρ:Env} {w:World} (h:I m ρ w) : F3L7 k ρ w :=
 LoopAt_inv mixed (B := F3B) (Q := (retQ prog f3.results.toList k)) (p := [1,1,1,1,1,1,1,1,1,1,0,1,0]) (by kernel_rfl) (by kernel_rfl) I round h
noncomputable def F3B8 : Code := sub F3B7 [1,0,0,1,0,1,0,0]
def F3Q8 (k:KV) (N7:KE) (N8:KE) : Xt → KE := thenE N8 (contAt prog 189 F3B7 (F3Q7 k N7) [1,0,0,1,0,1,0])
def F3A8 (k:KV) (N7:KE) (N8:KE) (q:List Nat) (ρ:Env) (w:World) : Prop := At prog 189 F3B8 (F3Q8 k N7 N8) q ρ w
def F3L8 (k:KV) (N7:KE) (ρ:Env) (w:World) : Prop := LoopAt prog 189 F3B7 (F3Q7 k N7) [1,0,0,1,0,1,0] ρ w
theorem F3L8_inv (k:KV) (N7:KE) (I:Nat → KE) (round:∀ m ρ w,I m ρ w → F3A8 k N7 (fun ρ' w' => ∃ m',m' < m ∧ I m' ρ' w') [] ρ w) {m:Nat} {ρ:Env} {w:World} (h:I m ρ w) : F3L8 k N7 ρ w :=
 LoopAt_inv mixed (B := F3B7) (Q := (F3Q7 k N7)) (p := [1,0,0,1,0,1,0]) (by kernel_rfl) (by kernel_rfl) I round h
noncomputable def F3B9 : Code := sub F3B [1,1,1,1,1,1,1,1,1,1,1,0,1,0,0]
def F3Q9 (k:KV) (N9:KE) : Xt → KE := thenE N9 (contAt prog 189 F3B (retQ prog f3.results.toList k) [1,1,1,1,1,1,1,1,1,1,1,0,1,0])
def F3A9 (k:KV) (N9:KE) (q:List Nat) (ρ:Env) (w:World) : Prop := At prog 189 F3B9 (F3Q9 k N9) q ρ w
def F3L9 (k:KV) (ρ:Env) (w:World) : Prop := LoopAt prog 189 F3B (retQ prog f3.results.toList k) [1,1,1,1,1,1,1,1,1,1,1,0,1,0] ρ w
theorem F3L9_inv (k:KV) (I:Nat → KE) (round:∀ m ρ w,I m ρ w → F3A9 k (fun ρ' w' => ∃ m',m' < m ∧ I m' ρ' w') [] ρ w) {m:Nat} {ρ:Env} {w:World} (h:I m ρ w) : F3L9 k ρ w :=
 LoopAt_inv mixed (B := F3B) (Q := (retQ prog f3.results.toList k)) (p := [1,1,1,1,1,1,1,1,1,1,1,0,1,0]) (by kernel_rfl) (by kernel_rfl) I round h
def F3_0 (names0:Value) (data1:Value) (w:World) (k:KV) : Prop :=
 pFn prog 17 [(.int .i64 100000)] w fun v25 w =>
 px prog (extract v25 0) w fun v26 w =>
 px prog (extract v25 1) w fun v27 w =>
 pFn prog 18 [] w fun v28 w =>
 px prog (Op.unary .not v28) w fun v29 w =>
 pG v29 false (fun k => k v27 w) (w := w) (next := fun v31 w =>
 pG v29 false (fun k => px prog (binSem .neq 25 (.tmp 31) (.const (.int .i64 0)) v31 (.int .i64 0)) w k) (w := w) (next := fun v32 w =>
 px prog (pickSem v29 (.bool true) v32) w fun v33 w =>
 pG v33 false (fun k => k v26 w) (w := w) (next := fun v35 w =>
 pG v33 false (fun k => px prog (binSem .eql 24 (.tmp 35) (.const (.pointer none)) v35 (.pointer none)) w k) (w := w) (next := fun v36 w =>
 px prog (pickSem v33 (.bool true) v36) w fun v37 w =>
 pC v37 (
 k (.bool false) w)
 (
 px prog (bSem .len #[23] 3 #[data1]) w fun v39 w =>
 px prog (binSem .gtr 3 (.tmp 39) (.const (.int .i64 1000)) v39 (.int .i64 1000)) w fun v40 w =>
 pC v40 (
 k (.bool true) w)
 (
 F3L1 k (put (put (put (put (put (put (put (put (put (put (put (put (put (put (put (put (put (put (put (put (put (put (argEnv [names0,data1]) 4 (.bool false)) 25 v25) 24 v25) 26 v26) 27 v27) 5 v26) 6 v27) 28 v28) 29 v29) 30 v29) 31 v31) 32 v32) 33 v33) 34 v33) 35 v35) 36 v36) 37 v37) 38 data1) 39 v39) 40 v40) 7 (.slice none 0 0)) 8 (.int .i64 0)) w))))))
theorem F3_0_eq (names0:Value) (data1:Value) (w:World) (k:KV) : F3A k [] (argEnv [names0,data1]) w = F3_0 names0 data1 w k := by kernel_rfl
def F3_1 (k:KV) (N1:KE) (ρ:Env) (w:World) : Prop :=
 px prog (bSem .len #[22] 3 #[(ρ 0)]) w fun v43 w =>
 px prog (binSem .lss 3 (.tmp 41) (.tmp 43) (ρ 8) v43) w fun v44 w =>
 pG v44 true (fun k => k (ρ 8) w) (w := w) (next := fun v46 w =>
 pG v44 true (fun k => px prog (binSem .lss 3 (.tmp 46) (.const (.int .i64 12)) v46 (.int .i64 12)) w k) (w := w) (next := fun v47 w =>
 px prog (pickSem v44 v47 (.bool false)) w fun v48 w =>
 pC v48 (
 px prog (Instr.buildSlice 23 0 #[]) w fun v51 w =>
 px prog (bSem .append #[23,23] 23 #[v51,(ρ 1)]) w fun v53 w =>
 px prog (indexAt 22 (ρ 0) (ρ 8)) w fun v57 w =>
 px prog (loadAt 9 v57) w fun v58 w =>
 pFn prog 19 [(ρ 5),v58,v53] w fun v60 w =>
 F3L2 k N1 (put (put (put (put (put (put (put (put (put (put (put (put (put (put (put (put (put (put (put (put (put ρ 41 (ρ 8)) 42 (ρ 0)) 43 v43) 44 v44) 45 v44) 46 v46) 47 v47) 48 v48) 51 v51) 52 (ρ 1)) 53 v53) 9 v53) 54 (ρ 5)) 55 (ρ 0)) 56 (ρ 8)) 57 v57) 58 v58) 59 v53) 60 v60) 10 v60) 11 (.int .i64 0)) w)
 (
 F3A k [1,1,1,1,1,1] (put (put (put (put (put (put (put (put ρ 41 (ρ 8)) 42 (ρ 0)) 43 v43) 44 v44) 45 v44) 46 v46) 47 v47) 48 v48) w)))
theorem F3_1_eq (k:KV) (N1:KE) (ρ:Env) (w:World) : F3A1 k N1 [] ρ w = F3_1 k N1 ρ w := by kernel_rfl
def F3_2 (k:KV) (N1:KE) (N2:KE) (ρ:Env) (w:World) : Prop :=
 px prog (bSem .len #[23] 3 #[(ρ 9)]) w fun v63 w =>
 px prog (binSem .lss 3 (.tmp 61) (.tmp 63) (ρ 11) v63) w fun v64 w =>
 pC v64 (
 px prog (indexAt 23 (ρ 9) (ρ 11)) w fun v69 w =>
 pu prog (storeAt 5 v69 (.int .u8 7)) w fun w =>
 px prog (binSem .add 3 (.tmp 65) (.const (.int .i64 1)) (ρ 11) (.int .i64 1)) w fun v66 w =>
 N2 (put (put (put (put (put (put (put (put (put (put ρ 61 (ρ 11)) 62 (ρ 9)) 63 v63) 64 v64) 67 (ρ 9)) 68 (ρ 11)) 69 v69) 65 (ρ 11)) 66 v66) 11 v66) w)
 (
 F3A1 k N1 [1,0,0,1,1,1] (put (put (put (put ρ 61 (ρ 11)) 62 (ρ 9)) 63 v63) 64 v64) w)
theorem F3_2_eq (k:KV) (N1:KE) (N2:KE) (ρ:Env) (w:World) : F3A2 k N1 N2 [] ρ w = F3_2 k N1 N2 ρ w := by kernel_rfl
def F3_3 (k:KV) (ρ:Env) (w:World) : Prop :=
 pFn prog 22 [(ρ 5)] w fun v98 w =>
 F3L3 k (put (put (put (put ρ 97 (ρ 5)) 98 v98) 15 v98) 16 (.int .i64 0)) w
theorem F3_3_eq (k:KV) (ρ:Env) (w:World) : F3A k [1,1,1,1,1,1] ρ w = F3_3 k ρ w := by kernel_rfl
def F3_4 (k:KV) (N1:KE) (ρ:Env) (w:World) : Prop :=
 px prog (binSem .neq 31 (.tmp 70) (.const .nilIface) (ρ 10) .nilIface) w fun v71 w =>
 pC v71 (
 px prog (binSem .add 3 (.tmp 49) (.const (.int .i64 1)) (ρ 8) (.int .i64 1)) w fun v50 w =>
 N1 (put (put (put (put (put ρ 70 (ρ 10)) 71 v71) 49 (ρ 8)) 50 v50) 8 v50) w)
 (
 F3L4 k N1 (put (put (put ρ 70 (ρ 10)) 71 v71) 12 (.int .i64 0)) w)
theorem F3_4_eq (k:KV) (N1:KE) (ρ:Env) (w:World) : F3A1 k N1 [1,0,0,1,1,1] ρ w = F3_4 k N1 ρ w := by kernel_rfl
def F3_5 (k:KV) (N3:KE) (ρ:Env) (w:World) : Prop :=
 px prog (bSem .len #[29] 3 #[(ρ 7)]) w fun v101 w =>
 px prog (binSem .lss 3 (.tmp 99) (.tmp 101) (ρ 16) v101) w fun v102 w =>
 pC v102 (
 px prog (indexAt 29 (ρ 7) (ρ 16)) w fun v107 w =>
 px prog (loadAt 23 v107) w fun v108 w =>
 pFn prog 21 [v108,(ρ 1)] w fun v110 w =>
 px prog (Op.unary .not v110) w fun v111 w =>
 pC v111 (
 k (.bool false) w)
 (
 px prog (binSem .add 3 (.tmp 103) (.const (.int .i64 1)) (ρ 16) (.int .i64 1)) w fun v104 w =>
 N3 (put (put (put (put (put (put (put (put (put (put (put (put (put (put ρ 99 (ρ 16)) 100 (ρ 7)) 101 v101) 102 v102) 105 (ρ 7)) 106 (ρ 16)) 107 v107) 108 v108) 109 (ρ 1)) 110 v110) 111 v111) 103 (ρ 16)) 104 v104) 16 v104) w))
 (
 F3A k [1,1,1,1,1,1,1,1] (put (put (put (put ρ 99 (ρ 16)) 100 (ρ 7)) 101 v101) 102 v102) w)
theorem F3_5_eq (k:KV) (N3:KE) (ρ:Env) (w:World) : F3A3 k N3 [] ρ w = F3_5 k N3 ρ w := by kernel_rfl
def F3_6 (k:KV) (N1:KE) (N4:KE) (ρ:Env) (w:World) : Prop :=
 px prog (binSem .lss 3 (.tmp 72) (.const (.int .i64 3)) (ρ 12) (.int .i64 3)) w fun v73 w =>
 pC v73 (
 px prog (indexAt 22 (ρ 0) (ρ 8)) w fun v80 w =>
 px prog (loadAt 9 v80) w fun v81 w =>
 pFn prog 20 [(ρ 5),v81] w fun v82 w =>
 px prog (extract v82 0) w fun v83 w =>
 px prog (extract v82 1) w fun v84 w =>
 px prog (binSem .neq 31 (.tmp 85) (.const .nilIface) v84 .nilIface) w fun v86 w =>
 pG v86 false (fun k => k v83 w) (w := w) (next := fun v88 w =>
 pG v86 false (fun k => k (ρ 1) w) (w := w) (next := fun v89 w =>
 pG v86 false (fun k => pFn prog 21 [v88,v89] w k) (w := w) (next := fun v90 w =>
 pG v86 false (fun k => px prog (Op.unary .not v90) w k) (w := w) (next := fun v91 w =>
 px prog (pickSem v86 (.bool true) v91) w fun v92 w =>
 pC v92 (
 k (.bool false) w)
 (
 px prog (Instr.buildSlice 29 1 #[(0,v83)]) w fun v95 w =>
 px prog (bSem .append #[29,29] 29 #[(ρ 7),v95]) w fun v96 w =>
 px prog (binSem .add 3 (.tmp 74) (.const (.int .i64 1)) (ρ 12) (.int .i64 1)) w fun v75 w =>
 N4 (put (put (put (put (put (put (put (put (put (put (put (put (put (put (put (put (put (put (put (put (put (put (put (put (put (put (put (put (put ρ 72 (ρ 12)) 73 v73) 77 (ρ 5)) 78 (ρ 0)) 79 (ρ 8)) 80 v80) 81 v81) 82 v82) 76 v82) 83 v83) 84 v84) 13 v83) 14 v84) 85 v84) 86 v86) 87 v86) 88 v88) 89 v89) 90 v90) 91 v91) 92 v92) 93 (ρ 7)) 94 v83) 95 v95) 96 v96) 7 v96) 74 (ρ 12)) 75 v75) 12 v75) w))))))
 (
 F3A1 k N1 [1,1] (put (put ρ 72 (ρ 12)) 73 v73) w)
theorem F3_6_eq (k:KV) (N1:KE) (N4:KE) (ρ:Env) (w:World) : F3A4 k N1 N4 [] ρ w = F3_6 k N1 N4 ρ w := by kernel_rfl
def F3_7 (k:KV) (ρ:Env) (w:World) : Prop :=
 F3L5 k (put ρ 17 (.int .i64 0)) w
theorem F3_7_eq (k:KV) (ρ:Env) (w:World) : F3A k [1,1,1,1,1,1,1,1] ρ w = F3_7 k ρ w := by kernel_rfl
def F3_8 (k:KV) (N1:KE) (ρ:Env) (w:World) : Prop :=
 px prog (binSem .add 3 (.tmp 49) (.const (.int .i64 1)) (ρ 8) (.int .i64 1)) w fun v50 w =>
 N1 (put (put (put ρ 49 (ρ 8)) 50 v50) 8 v50) w
theorem F3_8_eq (k:KV) (N1:KE) (ρ:Env) (w:World) : F3A1 k N1 [1,1] ρ w = F3_8 k N1 ρ w := by kernel_rfl
def F3_9 (k:KV) (N5:KE) (ρ:Env) (w:World) : Prop :=
 px prog (bSem .len #[29] 3 #[(ρ 7)]) w fun v114 w =>
 px prog (binSem .lss 3 (.tmp 112) (.tmp 114) (ρ 17) v114) w fun v115 w =>
 pC v115 (
 F3L6 k N5 (put (put (put (put (put ρ 112 (ρ 17)) 113 (ρ 7)) 114 v114) 115 v115) 18 (.int .i64 0)) w)
 (
 F3A k [1,1,1,1,1,1,1,1,1] (put (put (put (put ρ 112 (ρ 17)) 113 (ρ 7)) 114 v114) 115 v115) w)
theorem F3_9_eq (k:KV) (N5:KE) (ρ:Env) (w:World) : F3A5 k N5 [] ρ w = F3_9 k N5 ρ w := by kernel_rfl
def F3_10 (k:KV) (N5:KE) (N6:KE) (ρ:Env) (w:World) : Prop :=
 px prog (indexAt 29 (ρ 7) (ρ 17)) w fun v121 w =>
 px prog (loadAt 23 v121) w fun v122 w =>
 px prog (bSem .len #[23] 3 #[v122]) w fun v123 w =>
 px prog (binSem .lss 3 (.tmp 118) (.tmp 123) (ρ 18) v123) w fun v124 w =>
 pC v124 (
 px prog (indexAt 29 (ρ 7) (ρ 17)) w fun v129 w =>
 px prog (loadAt 23 v129) w fun v130 w =>
 px prog (convert 3 5 (ρ 17)) w fun v133 w =>
 px prog (indexAt 23 v130 (ρ 18)) w fun v134 w =>
 pu prog (storeAt 5 v134 v133) w fun w =>
 px prog (binSem .add 3 (.tmp 125) (.const (.int .i64 1)) (ρ 18) (.int .i64 1)) w fun v126 w =>
 N6 (put (put (put (put (put (put (put (put (put (put (put (put (put (put (put (put (put (put ρ 118 (ρ 18)) 119 (ρ 7)) 120 (ρ 17)) 121 v121) 122 v122) 123 v123) 124 v124) 127 (ρ 7)) 128 (ρ 17)) 129 v129) 130 v130) 131 (ρ 18)) 132 (ρ 17)) 133 v133) 134 v134) 125 (ρ 18)) 126 v126) 18 v126) w)
 (
 F3A5 k N5 [1,1] (put (put (put (put (put (put (put ρ 118 (ρ 18)) 119 (ρ 7)) 120 (ρ 17)) 121 v121) 122 v122) 123 v123) 124 v124) w)
theorem F3_10_eq (k:KV) (N5:KE) (N6:KE) (ρ:Env) (w:World) : F3A6 k N5 N6 [] ρ w = F3_10 k N5 N6 ρ w := by kernel_rfl
def F3_11 (k:KV) (ρ:Env) (w:World) : Prop :=
 F3L7 k (put (put ρ 19 (.slice none 0 0)) 20 (.int .i64 0)) w
theorem F3_11_eq (k:KV) (ρ:Env) (w:World) : F3A k [1,1,1,1,1,1,1,1,1] ρ w = F3_11 k ρ w := by kernel_rfl
def F3_12 (k:KV) (N5:KE) (ρ:Env) (w:World) : Prop :=
 px prog (binSem .add 3 (.tmp 116) (.const (.int .i64 1)) (ρ 17) (.int .i64 1)) w fun v117 w =>
 N5 (put (put (put ρ 116 (ρ 17)) 117 v117) 17 v117) w
theorem F3_12_eq (k:KV) (N5:KE) (ρ:Env) (w:World) : F3A5 k N5 [1,1] ρ w = F3_12 k N5 ρ w := by kernel_rfl
def F3_13 (k:KV) (N7:KE) (ρ:Env) (w:World) : Prop :=
 px prog (bSem .len #[29] 3 #[(ρ 7)]) w fun v137 w =>
 px prog (binSem .lss 3 (.tmp 135) (.tmp 137) (ρ 20) v137) w fun v138 w =>
 pC v138 (
 px prog (indexAt 29 (ρ 7) (ρ 20)) w fun v143 w =>
 px prog (loadAt 23 v143) w fun v144 w =>
 F3L8 k N7 (put (put (put (put (put (put (put (put (put (put ρ 135 (ρ 20)) 136 (ρ 7)) 137 v137) 138 v138) 141 (ρ 7)) 142 (ρ 20)) 143 v143) 144 v144) 21 v144) 22 (.int .i64 0)) w)
 (
 F3A k [1,1,1,1,1,1,1,1,1,1,1] (put (put (put (put ρ 135 (ρ 20)) 136 (ρ 7)) 137 v137) 138 v138) w)
theorem F3_13_eq (k:KV) (N7:KE) (ρ:Env) (w:World) : F3A7 k N7 [] ρ w = F3_13 k N7 ρ w := by kernel_rfl
def F3_14 (k:KV) (N7:KE) (N8:KE) (ρ:Env) (w:World) : Prop :=
 px prog (binSem .lss 3 (.tmp 145) (.const (.int .i64 70)) (ρ 22) (.int .i64 70)) w fun v146 w =>
 pC v146 (
 px prog (binSem .add 3 (.const (.int .i64 100)) (.tmp 150) (.int .i64 100) (ρ 20)) w fun v151 w =>
 px prog (convert 3 5 v151) w fun v152 w =>
 px prog (Instr.buildSlice 23 1 #[(0,v152)]) w fun v153 w =>
 px prog (bSem .append #[23,23] 23 #[(ρ 21),v153]) w fun v154 w =>
 px prog (binSem .add 3 (.tmp 147) (.const (.int .i64 1)) (ρ 22) (.int .i64 1)) w fun v148 w =>
 N8 (put (put (put (put (put (put (put (put (put (put (put (put ρ 145 (ρ 22)) 146 v146) 149 (ρ 21)) 150 (ρ 20)) 151 v151) 152 v152) 153 v153) 154 v154) 21 v154) 147 (ρ 22)) 148 v148) 22 v148) w)
 (
 F3A7 k N7 [1,0,0,1,1] (put (put ρ 145 (ρ 22)) 146 v146) w)
theorem F3_14_eq (k:KV) (N7:KE) (N8:KE) (ρ:Env) (w:World) : F3A8 k N7 N8 [] ρ w = F3_14 k N7 N8 ρ w := by kernel_rfl
def F3_15 (k:KV) (ρ:Env) (w:World) : Prop :=
 F3L9 k (put ρ 23 (.int .i64 0)) w
theorem F3_15_eq (k:KV) (ρ:Env) (w:World) : F3A k [1,1,1,1,1,1,1,1,1,1,1] ρ w = F3_15 k ρ w := by kernel_rfl
def F3_16 (k:KV) (N7:KE) (ρ:Env) (w:World) : Prop :=
 px prog (Instr.buildSlice 29 1 #[(0,(ρ 21))]) w fun v157 w =>
 px prog (bSem .append #[29,29] 29 #[(ρ 19),v157]) w fun v158 w =>
 px prog (binSem .add 3 (.tmp 139) (.const (.int .i64 1)) (ρ 20) (.int .i64 1)) w fun v140 w =>
 N7 (put (put (put (put (put (put (put (put ρ 155 (ρ 19)) 156 (ρ 21)) 157 v157) 158 v158) 19 v158) 139 (ρ 20)) 140 v140) 20 v140) w
theorem F3_16_eq (k:KV) (N7:KE) (ρ:Env) (w:World) : F3A7 k N7 [1,0,0,1,1] ρ w = F3_16 k N7 ρ w := by kernel_rfl
def F3_17 (k:KV) (N9:KE) (ρ:Env) (w:World) : Prop :=
 px prog (bSem .len #[29] 3 #[(ρ 7)]) w fun v161 w =>
 px prog (binSem .lss 3 (.tmp 159) (.tmp 161) (ρ 23) v161) w fun v162 w =>
 pC v162 (
 px prog (indexAt 29 (ρ 7) (ρ 23)) w fun v167 w =>
 px prog (loadAt 23 v167) w fun v168 w =>
 px prog (bSem .len #[23] 3 #[(ρ 1)]) w fun v171 w =>
 pFn prog 23 [v168,(ρ 23),v171] w fun v172 w =>
 px prog (Op.unary .not v172) w fun v173 w =>
 pG v173 false (fun k => k (ρ 19) w) (w := w) (next := fun v175 w =>
 pG v173 false (fun k => k (ρ 23) w) (w := w) (next := fun v176 w =>
 pG v173 false (fun k => px prog (indexAt 29 v175 v176) w k) (w := w) (next := fun v177 w =>
 pG v173 false (fun k => px prog (loadAt 23 v177) w k) (w := w) (next := fun v178 w =>
 pG v173 false (fun k => k (ρ 23) w) (w := w) (next := fun v179 w =>
 pG v173 false (fun k => k (ρ 1) w) (w := w) (next := fun v180 w =>
 pG v173 false (fun k => px prog (bSem .len #[23] 3 #[v180]) w k) (w := w) (next := fun v181 w =>
 pG v173 false (fun k => pFn prog 23 [v178,v179,v181] w k) (w := w) (next := fun v182 w =>
 pG v173 false (fun k => px prog (Op.unary .not v182) w k) (w := w) (next := fun v183 w =>
 px prog (pickSem v173 (.bool true) v183) w fun v184 w =>
 pC v184 (
 k (.bool false) w)
 (
 px prog (binSem .add 3 (.tmp 163) (.const (.int .i64 1)) (ρ 23) (.int .i64 1)) w fun v164 w =>
 N9 (put (put (put (put (put (put (put (put (put (put (put (put (put (put (put (put (put (put (put (put (put (put (put (put (put (put (put ρ 159 (ρ 23)) 160 (ρ 7)) 161 v161) 162 v162) 165 (ρ 7)) 166 (ρ 23)) 167 v167) 168 v168) 169 (ρ 23)) 170 (ρ 1)) 171 v171) 172 v172) 173 v173) 174 v173) 175 v175) 176 v176) 177 v177) 178 v178) 179 v179) 180 v180) 181 v181) 182 v182) 183 v183) 184 v184) 163 (ρ 23)) 164 v164) 23 v164) w)))))))))))
 (
 F3A k [1,1,1,1,1,1,1,1,1,1,1,1] (put (put (put (put ρ 159 (ρ 23)) 160 (ρ 7)) 161 v161) 162 v162) w)
theorem F3_17_eq (k:KV) (N9:KE) (ρ:Env) (w:World) : F3A9 k N9 [] ρ w = F3_17 k N9 ρ w := by kernel_rfl
def F3_18 (k:KV) (ρ:Env) (w:World) : Prop :=
 pFn prog 22 [(ρ 5)] w fun v187 w =>
 pFn prog 24 [(ρ 15),v187] w fun v188 w =>
 k v188 w
theorem F3_18_eq (k:KV) (ρ:Env) (w:World) : F3A k [1,1,1,1,1,1,1,1,1,1,1,1] ρ w = F3_18 k ρ w := by kernel_rfl
theorem F3_in (names0:Value) (data1:Value) (w:World) (k:KV) (h:F3_0 names0 data1 w k) : pFn prog 3 [names0,data1] w k :=
 pFn_of_at mixed func3 (by kernel_rfl) (by kernel_rfl) ntmps3 (by kernel_rfl) (by kernel_rfl) (by simp) ((F3_0_eq names0 data1 w k).mpr h)
noncomputable def F18B : Code := bodyOf f18
def F18A (k:KV) (q:List Nat) (ρ:Env) (w:World) : Prop := At prog 50 F18B (retQ prog f18.results.toList k) q ρ w
def F18_0  (w:World) (k:KV) : Prop :=
 pFn prog 17 [(.int .i64 50)] w fun v8 w =>
 px prog (extract v8 0) w fun v9 w =>
 px prog (extract v8 1) w fun v10 w =>
 px prog (binSem .neq 25 (.tmp 11) (.const (.int .i64 0)) v10 (.int .i64 0)) w fun v12 w =>
 pG v12 false (fun k => k v9 w) (w := w) (next := fun v14 w =>
 pG v12 false (fun k => px prog (binSem .eql 24 (.tmp 14) (.const (.pointer none)) v14 (.pointer none)) w k) (w := w) (next := fun v15 w =>
 px prog (pickSem v12 (.bool true) v15) w fun v16 w =>
 pG v16 false (fun k => k v9 w) (w := w) (next := fun v18 w =>
 pG v16 false (fun k => px prog (Instr.buildSlice 23 2 #[(0,(.int .u8 120)),(1,(.int .u8 121))]) w k) (w := w) (next := fun v19 w =>
 pG v16 false (fun k => px prog (convert 23 23 v19) w k) (w := w) (next := fun v20 w =>
 pG v16 false (fun k => pFn prog 19 [v18,(.string (ByteArray.mk #[97])),v20] w k) (w := w) (next := fun v21 w =>
 pG v16 false (fun k => px prog (binSem .neq 31 (.tmp 21) (.const .nilIface) v21 .nilIface) w k) (w := w) (next := fun v22 w =>
 px prog (pickSem v16 (.bool true) v22) w fun v23 w =>
 pC v23 (
 k (.bool false) w)
 (
 pFn prog 20 [v9,(.string (ByteArray.mk #[97]))] w fun v26 w =>
 px prog (extract v26 0) w fun v27 w =>
 px prog (extract v26 1) w fun v28 w =>
 pFn prog 20 [v9,(.string (ByteArray.mk #[98]))] w fun v31 w =>
 px prog (extract v31 0) w fun v32 w =>
 px prog (extract v31 1) w fun v33 w =>
 px prog (binSem .eql 31 (.tmp 34) (.const .nilIface) v28 .nilIface) w fun v35 w =>
 pG v35 true (fun k => k v27 w) (w := w) (next := fun v37 w =>
 pG v35 true (fun k => px prog (convert 23 9 v37) w k) (w := w) (next := fun v38 w =>
 pG v35 true (fun k => px prog (binSem .eql 9 (.tmp 38) (.const (.string (ByteArray.mk #[120,121]))) v38 (.string (ByteArray.mk #[120,121]))) w k) (w := w) (next := fun v39 w =>
 px prog (pickSem v35 v39 (.bool false)) w fun v40 w =>
 pG v40 true (fun k => k v9 w) (w := w) (next := fun v42 w =>
 pG v40 true (fun k => pFn prog 56 [v42] w k) (w := w) (next := fun v43 w =>
 pG v40 true (fun k => px prog (binSem .eql 3 (.tmp 43) (.const (.int .i64 5)) v43 (.int .i64 5)) w k) (w := w) (next := fun v44 w =>
 px prog (pickSem v40 v44 (.bool false)) w fun v45 w =>
 pG v45 true (fun k => k v33 w) (w := w) (next := fun v47 w =>
 pG v45 true (fun k => pFn prog 49 [v47,(.string (ByteArray.mk #[103,101,116])),(.string (ByteArray.mk #[98])),(.int .i64 53)] w k) (w := w) (next := fun v48 w =>
 px prog (pickSem v45 v48 (.bool false)) w fun v49 w =>
 k v49 w))))))))))))))))
theorem F18_0_eq  (w:World) (k:KV) : F18A k [] (argEnv []) w = F18_0  w k := by kernel_rfl
theorem F18_in  (w:World) (k:KV) (h:F18_0  w k) : pFn prog 18 [] w k :=
 pFn_of_at mixed func18 (by kernel_rfl) (by kernel_rfl) ntmps18 (by kernel_rfl) (by kernel_rfl) (by simp) ((F18_0_eq  w k).mpr h)
noncomputable def F21B : Code := bodyOf f21
def F21A (k:KV) (q:List Nat) (ρ:Env) (w:World) : Prop := At prog 26 F21B (retQ prog f21.results.toList k) q ρ w
noncomputable def F21B1 : Code := sub F21B [1,1,0,1,0,0]
def F21Q1 (k:KV) (N1:KE) : Xt → KE := thenE N1 (contAt prog 26 F21B (retQ prog f21.results.toList k) [1,1,0,1,0])
def F21A1 (k:KV) (N1:KE) (q:List Nat) (ρ:Env) (w:World) : Prop := At prog 26 F21B1 (F21Q1 k N1) q ρ w
def F21L1 (k:KV) (ρ:Env) (w:World) : Prop := LoopAt prog 26 F21B (retQ prog f21.results.toList k) [1,1,0,1,0] ρ w
theorem F21L1_inv (k:KV) (I:Nat → KE) (round:∀ m ρ w,I m ρ w → F21A1 k (fun ρ' w' => ∃ m',m' < m ∧ I m' ρ' w') [] ρ w) {m:Nat} {ρ:Env} {w:World} (h:I m ρ w) : F21L1 k ρ w :=
 LoopAt_inv mixed (B := F21B) (Q := (retQ prog f21.results.toList k)) (p := [1,1,0,1,0]) (by kernel_rfl) (by kernel_rfl) I round h
def F21_0 (a0:Value) (b1:Value) (w:World) (k:KV) : Prop :=
 px prog (bSem .len #[23] 3 #[a0]) w fun v7 w =>
 px prog (bSem .len #[23] 3 #[b1]) w fun v9 w =>
 px prog (binSem .neq 3 (.tmp 7) (.tmp 9) v7 v9) w fun v10 w =>
 pC v10 (
 k (.bool false) w)
 (
 F21L1 k (put (put (put (put (put (put (put (argEnv [a0,b1]) 4 (.bool false)) 6 a0) 7 v7) 8 b1) 9 v9) 10 v10) 5 (.int .i64 0)) w)
theorem F21_0_eq (a0:Value) (b1:Value) (w:World) (k:KV) : F21A k [] (argEnv [a0,b1]) w = F21_0 a0 b1 w k := by kernel_rfl
def F21_1 (k:KV) (N1:KE) (ρ:Env) (w:World) : Prop :=
 px prog (bSem .len #[23] 3 #[(ρ 0)]) w fun v13 w =>
 px prog (binSem .lss 3 (.tmp 11) (.tmp 13) (ρ 5) v13) w fun v14 w =>
 pC v14 (
 ∃ S : World → Prop,S w.drew ∧ (fun w =>
 pq prog S (indexAt 23 (ρ 0) (ρ 5)) fun v19 =>
 pq prog S (loadAt 5 v19) fun v20 =>
 pq prog S (indexAt 23 (ρ 1) (ρ 5)) fun v23 =>
 pq prog S (loadAt 5 v23) fun v24 =>
 pq prog S (binSem .neq 5 (.tmp 20) (.tmp 24) v20 v24) fun v25 =>
 pC v25 (
 k (.bool false) w)
 (
 px prog (binSem .add 3 (.tmp 15) (.const (.int .i64 1)) (ρ 5) (.int .i64 1)) w fun v16 w =>
 N1 (put (put (put (put (put (put (put (put (put (put (put (put (put (put (put (put ρ 11 (ρ 5)) 12 (ρ 0)) 13 v13) 14 v14) 17 (ρ 0)) 18 (ρ 5)) 19 v19) 20 v20) 21 (ρ 1)) 22 (ρ 5)) 23 v23) 24 v24) 25 v25) 15 (ρ 5)) 16 v16) 5 v16) w)) w.drew)
 (
 F21A k [1,1,1] (put (put (put (put ρ 11 (ρ 5)) 12 (ρ 0)) 13 v13) 14 v14) w)
theorem F21_1_eq (k:KV) (N1:KE) (ρ:Env) (w:World) : F21A1 k N1 [] ρ w = F21_1 k N1 ρ w := by kernel_rfl
def F21_2 (k:KV) (ρ:Env) (w:World) : Prop :=
 k (.bool true) w
theorem F21_2_eq (k:KV) (ρ:Env) (w:World) : F21A k [1,1,1] ρ w = F21_2 k ρ w := by kernel_rfl
theorem F21_in (a0:Value) (b1:Value) (w:World) (k:KV) (h:F21_0 a0 b1 w k) : pFn prog 21 [a0,b1] w k :=
 pFn_of_at mixed func21 (by kernel_rfl) (by kernel_rfl) ntmps21 (by kernel_rfl) (by kernel_rfl) (by simp) ((F21_0_eq a0 b1 w k).mpr h)
noncomputable def F23B : Code := bodyOf f23
def F23A (k:KV) (q:List Nat) (ρ:Env) (w:World) : Prop := At prog 41 F23B (retQ prog f23.results.toList k) q ρ w
noncomputable def F23B1 : Code := sub F23B [1,0,1,0,0]
def F23Q1 (k:KV) (N1:KE) : Xt → KE := thenE N1 (contAt prog 41 F23B (retQ prog f23.results.toList k) [1,0,1,0])
def F23A1 (k:KV) (N1:KE) (q:List Nat) (ρ:Env) (w:World) : Prop := At prog 41 F23B1 (F23Q1 k N1) q ρ w
def F23L1 (k:KV) (ρ:Env) (w:World) : Prop := LoopAt prog 41 F23B (retQ prog f23.results.toList k) [1,0,1,0] ρ w
theorem F23L1_inv (k:KV) (I:Nat → KE) (round:∀ m ρ w,I m ρ w → F23A1 k (fun ρ' w' => ∃ m',m' < m ∧ I m' ρ' w') [] ρ w) {m:Nat} {ρ:Env} {w:World} (h:I m ρ w) : F23L1 k ρ w :=
 LoopAt_inv mixed (B := F23B) (Q := (retQ prog f23.results.toList k)) (p := [1,0,1,0]) (by kernel_rfl) (by kernel_rfl) I round h
def F23_0 (b0:Value) (i1:Value) (n2:Value) (w:World) (k:KV) : Prop :=
 F23L1 k (put (put (argEnv [b0,i1,n2]) 6 (.bool false)) 7 (.int .i64 0)) w
theorem F23_0_eq (b0:Value) (i1:Value) (n2:Value) (w:World) (k:KV) : F23A k [] (argEnv [b0,i1,n2]) w = F23_0 b0 i1 n2 w k := by kernel_rfl
def F23_1 (k:KV) (N1:KE) (ρ:Env) (w:World) : Prop :=
 px prog (bSem .len #[23] 3 #[(ρ 0)]) w fun v10 w =>
 px prog (binSem .lss 3 (.tmp 8) (.tmp 10) (ρ 7) v10) w fun v11 w =>
 pC v11 (
 px prog (binSem .lss 3 (.tmp 14) (.tmp 15) (ρ 7) (ρ 2)) w fun v16 w =>
 pG v16 true (fun k => k (ρ 0) w) (w := w) (next := fun v18 w =>
 pG v16 true (fun k => k (ρ 7) w) (w := w) (next := fun v19 w =>
 pG v16 true (fun k => px prog (indexAt 23 v18 v19) w k) (w := w) (next := fun v20 w =>
 pG v16 true (fun k => px prog (loadAt 5 v20) w k) (w := w) (next := fun v21 w =>
 pG v16 true (fun k => k (ρ 1) w) (w := w) (next := fun v22 w =>
 pG v16 true (fun k => px prog (convert 3 5 v22) w k) (w := w) (next := fun v23 w =>
 pG v16 true (fun k => px prog (binSem .neq 5 (.tmp 21) (.tmp 23) v21 v23) w k) (w := w) (next := fun v24 w =>
 px prog (pickSem v16 v24 (.bool false)) w fun v25 w =>
 pG v25 false (fun k => k (ρ 7) w) (w := w) (next := fun v27 w =>
 pG v25 false (fun k => k (ρ 2) w) (w := w) (next := fun v28 w =>
 pG v25 false (fun k => px prog (binSem .geq 3 (.tmp 27) (.tmp 28) v27 v28) w k) (w := w) (next := fun v29 w =>
 pG v25 false (fun k => k v29 w) (w := w) (next := fun v30 w =>
 pG v30 true (fun k => k (ρ 0) w) (w := w) (next := fun v31 w =>
 pG v30 true (fun k => k (ρ 7) w) (w := w) (next := fun v32 w =>
 pG v30 true (fun k => px prog (indexAt 23 v31 v32) w k) (w := w) (next := fun v33 w =>
 pG v30 true (fun k => px prog (loadAt 5 v33) w k) (w := w) (next := fun v34 w =>
 pG v30 true (fun k => k (ρ 1) w) (w := w) (next := fun v35 w =>
 pG v30 true (fun k => px prog (binSem .add 3 (.const (.int .i64 100)) (.tmp 35) (.int .i64 100) v35) w k) (w := w) (next := fun v36 w =>
 pG v30 true (fun k => px prog (convert 3 5 v36) w k) (w := w) (next := fun v37 w =>
 pG v30 true (fun k => px prog (binSem .neq 5 (.tmp 34) (.tmp 37) v34 v37) w k) (w := w) (next := fun v38 w =>
 pG v25 false (fun k => px prog (pickSem v30 v38 (.bool false)) w k) (w := w) (next := fun v39 w =>
 px prog (pickSem v25 (.bool true) v39) w fun v40 w =>
 pC v40 (
 k (.bool false) w)
 (
 px prog (binSem .add 3 (.tmp 12) (.const (.int .i64 1)) (ρ 7) (.int .i64 1)) w fun v13 w =>
 N1 (put (put (put (put (put (put (put (put (put (put (put (put (put (put (put (put (put (put (put (put (put (put (put (put (put (put (put (put (put (put (put (put (put (put ρ 8 (ρ 7)) 9 (ρ 0)) 10 v10) 11 v11) 14 (ρ 7)) 15 (ρ 2)) 16 v16) 17 v16) 18 v18) 19 v19) 20 v20) 21 v21) 22 v22) 23 v23) 24 v24) 25 v25) 26 v25) 27 v27) 28 v28) 29 v29) 30 v30) 31 v31) 32 v32) 33 v33) 34 v34) 35 v35) 36 v36) 37 v37) 38 v38) 39 v39) 40 v40) 12 (ρ 7)) 13 v13) 7 v13) w))))))))))))))))))))))
 (
 F23A k [1,1] (put (put (put (put ρ 8 (ρ 7)) 9 (ρ 0)) 10 v10) 11 v11) w)
theorem F23_1_eq (k:KV) (N1:KE) (ρ:Env) (w:World) : F23A1 k N1 [] ρ w = F23_1 k N1 ρ w := by kernel_rfl
def F23_2 (k:KV) (ρ:Env) (w:World) : Prop :=
 k (.bool true) w
theorem F23_2_eq (k:KV) (ρ:Env) (w:World) : F23A k [1,1] ρ w = F23_2 k ρ w := by kernel_rfl
theorem F23_in (b0:Value) (i1:Value) (n2:Value) (w:World) (k:KV) (h:F23_0 b0 i1 n2 w k) : pFn prog 23 [b0,i1,n2] w k :=
 pFn_of_at mixed func23 (by kernel_rfl) (by kernel_rfl) ntmps23 (by kernel_rfl) (by kernel_rfl) (by simp) ((F23_0_eq b0 i1 n2 w k).mpr h)
noncomputable def F24B : Code := bodyOf f24
def F24A (k:KV) (q:List Nat) (ρ:Env) (w:World) : Prop := At prog 42 F24B (retQ prog f24.results.toList k) q ρ w
noncomputable def F24B1 : Code := sub F24B [1,1,0,1,0,0]
def F24Q1 (k:KV) (N1:KE) : Xt → KE := thenE N1 (contAt prog 42 F24B (retQ prog f24.results.toList k) [1,1,0,1,0])
def F24A1 (k:KV) (N1:KE) (q:List Nat) (ρ:Env) (w:World) : Prop := At prog 42 F24B1 (F24Q1 k N1) q ρ w
def F24L1 (k:KV) (ρ:Env) (w:World) : Prop := LoopAt prog 42 F24B (retQ prog f24.results.toList k) [1,1,0,1,0] ρ w
theorem F24L1_inv (k:KV) (I:Nat → KE) (round:∀ m ρ w,I m ρ w → F24A1 k (fun ρ' w' => ∃ m',m' < m ∧ I m' ρ' w') [] ρ w) {m:Nat} {ρ:Env} {w:World} (h:I m ρ w) : F24L1 k ρ w :=
 LoopAt_inv mixed (B := F24B) (Q := (retQ prog f24.results.toList k)) (p := [1,1,0,1,0]) (by kernel_rfl) (by kernel_rfl) I round h
def F24_0 (a0:Value) (b1:Value) (w:World) (k:KV) : Prop :=
 px prog (bSem .len #[36] 3 #[a0]) w fun v7 w =>
 px prog (bSem .len #[36] 3 #[b1]) w fun v9 w =>
 px prog (binSem .neq 3 (.tmp 7) (.tmp 9) v7 v9) w fun v10 w =>
 pC v10 (
 k (.bool false) w)
 (
 F24L1 k (put (put (put (put (put (put (put (argEnv [a0,b1]) 4 (.bool false)) 6 a0) 7 v7) 8 b1) 9 v9) 10 v10) 5 (.int .i64 0)) w)
theorem F24_0_eq (a0:Value) (b1:Value) (w:World) (k:KV) : F24A k [] (argEnv [a0,b1]) w = F24_0 a0 b1 w k := by kernel_rfl
def F24_1 (k:KV) (N1:KE) (ρ:Env) (w:World) : Prop :=
 px prog (bSem .len #[36] 3 #[(ρ 0)]) w fun v13 w =>
 px prog (binSem .lss 3 (.tmp 11) (.tmp 13) (ρ 5) v13) w fun v14 w =>
 pC v14 (
 ∃ S : World → Prop,S w.drew ∧ (fun w =>
 pq prog S (indexAt 36 (ρ 0) (ρ 5)) fun v19 =>
 pq prog S (fieldAt 107 v19 0) fun v20 =>
 pq prog S (loadAt 9 v20) fun v21 =>
 pq prog S (indexAt 36 (ρ 1) (ρ 5)) fun v24 =>
 pq prog S (fieldAt 107 v24 0) fun v25 =>
 pq prog S (loadAt 9 v25) fun v26 =>
 pq prog S (binSem .neq 9 (.tmp 21) (.tmp 26) v21 v26) fun v27 =>
 pGq v27 false (fun k => k (ρ 0)) (next := fun v29 =>
 pGq v27 false (fun k => k (ρ 5)) (next := fun v30 =>
 pGq v27 false (fun k => pq prog S (indexAt 36 v29 v30) k) (next := fun v31 =>
 pGq v27 false (fun k => pq prog S (fieldAt 107 v31 1) k) (next := fun v32 =>
 pGq v27 false (fun k => pq prog S (loadAt 23 v32) k) (next := fun v33 =>
 pGq v27 false (fun k => k (ρ 1)) (next := fun v34 =>
 pGq v27 false (fun k => k (ρ 5)) (next := fun v35 =>
 pGq v27 false (fun k => pq prog S (indexAt 36 v34 v35) k) (next := fun v36 =>
 pGq v27 false (fun k => pq prog S (fieldAt 107 v36 1) k) (next := fun v37 =>
 pGq v27 false (fun k => pq prog S (loadAt 23 v37) k) (next := fun v38 =>
 pG v27 false (fun k => pFn prog 21 [v33,v38] w k) (w := w) (next := fun v39 w => S w ∧ (
 pGq v27 false (fun k => pq prog S (Op.unary .not v39) k) (next := fun v40 =>
 pq prog S (pickSem v27 (.bool true) v40) fun v41 =>
 pC v41 (
 k (.bool false) w)
 (
 px prog (binSem .add 3 (.tmp 15) (.const (.int .i64 1)) (ρ 5) (.int .i64 1)) w fun v16 w =>
 N1 (put (put (put (put (put (put (put (put (put (put (put (put (put (put (put (put (put (put (put (put (put (put (put (put (put (put (put (put (put (put (put (put ρ 11 (ρ 5)) 12 (ρ 0)) 13 v13) 14 v14) 17 (ρ 0)) 18 (ρ 5)) 19 v19) 20 v20) 21 v21) 22 (ρ 1)) 23 (ρ 5)) 24 v24) 25 v25) 26 v26) 27 v27) 28 v27) 29 v29) 30 v30) 31 v31) 32 v32) 33 v33) 34 v34) 35 v35) 36 v36) 37 v37) 38 v38) 39 v39) 40 v40) 41 v41) 15 (ρ 5)) 16 v16) 5 v16) w))))))))))))))) w.drew)
 (
 F24A k [1,1,1] (put (put (put (put ρ 11 (ρ 5)) 12 (ρ 0)) 13 v13) 14 v14) w)
theorem F24_1_eq (k:KV) (N1:KE) (ρ:Env) (w:World) : F24A1 k N1 [] ρ w = F24_1 k N1 ρ w := by kernel_rfl
def F24_2 (k:KV) (ρ:Env) (w:World) : Prop :=
 k (.bool true) w
theorem F24_2_eq (k:KV) (ρ:Env) (w:World) : F24A k [1,1,1] ρ w = F24_2 k ρ w := by kernel_rfl
theorem F24_in (a0:Value) (b1:Value) (w:World) (k:KV) (h:F24_0 a0 b1 w k) : pFn prog 24 [a0,b1] w k :=
 pFn_of_at mixed func24 (by kernel_rfl) (by kernel_rfl) ntmps24 (by kernel_rfl) (by kernel_rfl) (by simp) ((F24_0_eq a0 b1 w k).mpr h)
noncomputable def F49B : Code := bodyOf f49
def F49A (k:KV) (q:List Nat) (ρ:Env) (w:World) : Prop := At prog 62 F49B (retQ prog f49.results.toList k) q ρ w
def F49_0 (err0:Value) (op1:Value) (name2:Value) (code3:Value) (w:World) (k:KV) : Prop :=
 px prog (binSem .eql 3 (.tmp 10) (.const (.int .i64 0)) code3 (.int .i64 0)) w fun v11 w =>
 pC v11 (
 px prog (binSem .eql 31 (.tmp 12) (.const .nilIface) err0 .nilIface) w fun v13 w =>
 k v13 w)
 (
 px prog (Instr.alloc 73 true (.tuple #[])) w fun v9 w =>
 px prog (binSem .neq 31 (.tmp 14) (.const .nilIface) err0 .nilIface) w fun v15 w =>
 pG v15 true (fun k => k err0 w) (w := w) (next := fun v17 w =>
 pG v15 true (fun k => px prog (Instr.makeInterface 75 v9) w k) (w := w) (next := fun v18 w =>
 pG v15 true (fun k => pFn prog 88 [v17,v18] w k) (w := w) (next := fun v19 w =>
 px prog (pickSem v15 v19 (.bool false)) w fun v20 w =>
 pG v20 true (fun k => px prog (loadAt 73 v9) w k) (w := w) (next := fun v22 w =>
 pG v20 true (fun k => px prog (binSem .neq 73 (.tmp 22) (.const (.pointer none)) v22 (.pointer none)) w k) (w := w) (next := fun v23 w =>
 px prog (pickSem v20 v23 (.bool false)) w fun v24 w =>
 pG v24 true (fun k => px prog (loadAt 73 v9) w k) (w := w) (next := fun v26 w =>
 pG v24 true (fun k => px prog (nilSem v26) w k) (w := w) (next := fun v27 w =>
 pG v24 true (fun k => px prog (fieldAt 77 v27 0) w k) (w := w) (next := fun v28 w =>
 pG v24 true (fun k => px prog (loadAt 9 v28) w k) (w := w) (next := fun v29 w =>
 pG v24 true (fun k => k op1 w) (w := w) (next := fun v30 w =>
 pG v24 true (fun k => px prog (binSem .add 9 (.const (.string (ByteArray.mk #[102,105,108,101,46]))) (.tmp 30) (.string (ByteArray.mk #[102,105,108,101,46])) v30) w k) (w := w) (next := fun v31 w =>
 pG v24 true (fun k => px prog (binSem .eql 9 (.tmp 29) (.tmp 31) v29 v31) w k) (w := w) (next := fun v32 w =>
 px prog (pickSem v24 v32 (.bool false)) w fun v33 w =>
 pG v33 true (fun k => px prog (loadAt 73 v9) w k) (w := w) (next := fun v35 w =>
 pG v33 true (fun k => px prog (nilSem v35) w k) (w := w) (next := fun v36 w =>
 pG v33 true (fun k => px prog (fieldAt 77 v36 1) w k) (w := w) (next := fun v37 w =>
 pG v33 true (fun k => px prog (loadAt 9 v37) w k) (w := w) (next := fun v38 w =>
 pG v33 true (fun k => k name2 w) (w := w) (next := fun v39 w =>
 pG v33 true (fun k => px prog (binSem .eql 9 (.tmp 38) (.tmp 39) v38 v39) w k) (w := w) (next := fun v40 w =>
 px prog (pickSem v33 v40 (.bool false)) w fun v41 w =>
 pG v41 true (fun k => px prog (loadAt 73 v9) w k) (w := w) (next := fun v43 w =>
 pG v41 true (fun k => px prog (nilSem v43) w k) (w := w) (next := fun v44 w =>
 pG v41 true (fun k => px prog (fieldAt 77 v44 2) w k) (w := w) (next := fun v45 w =>
 pG v41 true (fun k => px prog (loadAt 44 v45) w k) (w := w) (next := fun v46 w =>
 pG v41 true (fun k => px prog (Instr.build 44 #[]) w k) (w := w) (next := fun v47 w =>
 pG v41 true (fun k => px prog (binSem .eql 44 (.tmp 46) (.tmp 47) v46 v47) w k) (w := w) (next := fun v48 w =>
 px prog (pickSem v41 v48 (.bool false)) w fun v49 w =>
 pG v49 true (fun k => k err0 w) (w := w) (next := fun v51 w =>
 pG v49 true (fun k => k code3 w) (w := w) (next := fun v52 w =>
 pG v49 true (fun k => px prog (Instr.makeInterface 25 v52) w k) (w := w) (next := fun v53 w =>
 pG v49 true (fun k => pFn prog 69 [v51,v53] w k) (w := w) (next := fun v54 w =>
 px prog (pickSem v49 v54 (.bool false)) w fun v55 w =>
 pG v55 true (fun k => k err0 w) (w := w) (next := fun v57 w =>
 pG v55 true (fun k => pFn prog 43 [v57] w k) (w := w) (next := fun v58 w =>
 pG v55 true (fun k => k code3 w) (w := w) (next := fun v59 w =>
 pG v55 true (fun k => px prog (binSem .eql 25 (.tmp 58) (.tmp 59) v58 v59) w k) (w := w) (next := fun v60 w =>
 px prog (pickSem v55 v60 (.bool false)) w fun v61 w =>
 k v61 w)))))))))))))))))))))))))))))))))
theorem F49_0_eq (err0:Value) (op1:Value) (name2:Value) (code3:Value) (w:World) (k:KV) : F49A k [] (argEnv [err0,op1,name2,code3]) w = F49_0 err0 op1 name2 code3 w k := by kernel_rfl
theorem F49_in (err0:Value) (op1:Value) (name2:Value) (code3:Value) (w:World) (k:KV) (h:F49_0 err0 op1 name2 code3 w k) : pFn prog 49 [err0,op1,name2,code3] w k :=
 pFn_of_at mixed func49 (by kernel_rfl) (by kernel_rfl) ntmps49 (by kernel_rfl) (by kernel_rfl) (by simp) ((F49_0_eq err0 op1 name2 code3 w k).mpr h)
end Go.Proofs.YteeeggphkhimcaaGreatDoor

set_option linter.unusedSimpArgs false
namespace Go.Proofs.YteeeggphkhimcaaGreatDoor
open Go Go.Proofs Go.RowKit Go.Proofs.XRed Go.Proofs.XHeap Go.Proofs.XMaps Go.Proofs.XSlices Go.Proofs.XDisk Go.Proofs.XCalls Go.Proofs.XRange Go.Proofs.XKeys Tryz
section
variable {w w0:World} {D:Nat} {S S':AD} {O I:Nat → Prop} {L:Lay} {k:KV}
theorem bytes_at {v:Value} {bs:Bytes} (h:SBytes w v bs) {i:Nat} (hi:i < bs.length) : ∃ b o c,v = .slice (some ⟨b,o,none⟩) bs.length c ∧ w.cell? ⟨b,o + i,none⟩ = some (.int .u8 (bs[i].toNat)) := by
 obtain ⟨A,c,rfl,hc,hl,hr⟩ := h
 obtain ⟨b,o,rfl,hcell⟩ := hr (by omega)
 exact ⟨b,o,c,rfl,hcell i _ (by simp [u8s,hi])⟩
theorem c_bytes {v1 v2:Value} {x y:Bytes} (hx:SBytes w v1 x) (hy:SBytes w v2 y) (hl:x.length ≤ 4611686018427387904) (hk:∀ w',Fr no w w' → k (.bool (decide (x = y))) w') : pFn P 21 [v1,v2] w k := by
 refine F21_in _ _ _ _ ?_
 unfold F21_0
 obtain ⟨A1,c1,e1,_⟩ := hx.form
 obtain ⟨A2,c2,e2,_⟩ := hy.form
 rw [e1,e2]
 refine s_len usl23 (s_len usl23 ?_)
 by_cases hlen : x.length = y.length
 ·refine s_nei_f (by omega) (pC_false ?_)
  refine F21L1_inv (m := x.length) k (fun m ρ w' => ∃ i : Nat,i + m = x.length ∧ Fr no w w' ∧ ρ 0 = .slice A1 x.length c1 ∧ ρ 1 = .slice A2 y.length c2 ∧ ρ 5 = i64 i ∧ x.take i = y.take i) ?_
   ⟨0,by omega,Fr.refl _ _,rfl,rfl,rfl,rfl⟩
  rintro m ρ w' ⟨i,him,hf,h0,h1,h5,heq⟩
  rw [F21_1_eq]
  unfold F21_1
  rw [h0,h1,h5]
  refine s_len usl23 ?_
  by_cases hi : i < x.length
  ·refine s_lt_t (by omega) (pC_true ?_)
   have fd : Fr no w' w'.drew := Fr.drew _ _
   have hiy : i < y.length := by omega
   obtain ⟨b1,o1,d1,f1,g1⟩ := bytes_at ((hx.fr hf fun _ _ h => h).fr fd fun _ _ h => h) hi
   obtain ⟨b2,o2,d2,f2,g2⟩ := bytes_at ((hy.fr hf fun _ _ h => h).fr fd fun _ _ h => h) hiy
   rw [e1] at f1; rw [e2] at f2
   injection f1 with q1 q2 q3
   injection f2 with r1 r2 r3
   subst q1; subst r1
   refine ⟨fun w' => w'.cell? ⟨b1,o1 + i,none⟩ = some (.int .u8 (x[i].toNat)) ∧ w'.cell? ⟨b2,o2 + i,none⟩ = some (.int .u8 (y[i].toNat)),⟨g1,g2⟩,?_⟩
   refine q_of (.pointer (some ⟨b1,o1 + i,none⟩)) (fun w_ hS => s_ix (i := (i:Int)) usl23 (sze23 _) (by omega) (by omega) ⟨by simp,rfl⟩) ?_
   refine q_of _ (fun w_ hS => s_ld (isAgg5 _) hS.1 ⟨rfl,rfl⟩) ?_
   refine q_of (.pointer (some ⟨b2,o2 + i,none⟩)) (fun w_ hS => s_ix (i := (i:Int)) usl23 (sze23 _) (by omega) (by omega) ⟨by simp,rfl⟩) ?_
   refine q_of _ (fun w_ hS => s_ld (isAgg5 _) hS.2 ⟨rfl,rfl⟩) ?_
   by_cases hxy : x[i] = y[i]
   ·refine q_of _ (fun w_ hS => s_nei_f (by rw [hxy]) ⟨rfl,rfl⟩) (pC_false ?_)
    refine s_add_in (by omega) ?_
    refine ⟨m - 1,by omega,i + 1,by omega,(hf.or fd).mono fun b hb => hb.elim (fun h => h.elim) fun h => h.elim,h0,h1,?_,?_⟩
    ·show i64 _ = i64 _; simp
    ·rw [List.take_succ_eq_append_getElem hi,List.take_succ_eq_append_getElem hiy,heq,hxy]
   ·refine q_of _ (fun w_ hS => s_nei_t (fun h => hxy (UInt8.toNat_inj.1 (by omega))) ⟨rfl,rfl⟩) (pC_true ?_)
    have := hk w'.drew ((hf.or fd).mono fun b hb => hb.elim (fun h => h.elim) fun h => h.elim)
    rwa [decide_eq_false (fun h => hxy (by subst h; rfl))] at this
  ·refine s_lt_f (by omega) (pC_false ?_)
   rw [F21_2_eq]
   unfold F21_2
   have hxy : x = y := by
    have a1 := List.take_of_length_le (l := x) (i := i) (by omega)
    have a2 := List.take_of_length_le (l := y) (i := i) (by omega)
    rw [← a1,heq,a2]
   have := hk w' hf
   rwa [decide_eq_true hxy] at this
 ·refine s_nei_t (by omega) (pC_true ?_)
  have := hk w (Fr.refl _ _)
  rwa [decide_eq_false (fun h => hlen (by rw [h]))] at this
end
end Go.Proofs.YteeeggphkhimcaaGreatDoor

namespace Go.Proofs.YteeeggphkhimcaaGreatDoor
open Go Go.Proofs Go.Proofs.XRed Tryz
open Go.Instr (fieldAt loadAt storeAt indexAt sliceAt extract)
end Go.Proofs.YteeeggphkhimcaaGreatDoor
