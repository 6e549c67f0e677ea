/- Put together by a program (wip/tools/shake.py): R1. -/
import Derived.Test.YteeeggphkhimcaaGreatDoorE1
import Derived.Test.YteeeggphkhimcaaGreatDoorProg
import Derived.Test.YteeeggphkhimcaaGreatDoorMix
set_option linter.unusedVariables false
set_option maxRecDepth 100000
namespace Go.Proofs.YteeeggphkhimcaaGreatDoor
open Go Go.Proofs Go.Proofs.XRed Tryz
open Go.Instr (fieldAt loadAt storeAt indexAt sliceAt extract)
noncomputable def F22B : Code := bodyOf f22
def F22A (k:KV) (q:List Nat) (ρ:Env) (w:World) : Prop := At prog 35 F22B (retQ prog f22.results.toList k) q ρ w
noncomputable def F22B1 : Code := sub F22B [1,1,1,0,1,0,0]
def F22Q1 (k:KV) (N1:KE) : Xt → KE := thenE N1 (contAt prog 35 F22B (retQ prog f22.results.toList k) [1,1,1,0,1,0])
def F22A1 (k:KV) (N1:KE) (q:List Nat) (ρ:Env) (w:World) : Prop := At prog 35 F22B1 (F22Q1 k N1) q ρ w
def F22L1 (k:KV) (ρ:Env) (w:World) : Prop := LoopAt prog 35 F22B (retQ prog f22.results.toList k) [1,1,1,0,1,0] ρ w
theorem F22L1_inv (k:KV) (I:Nat → KE) (round:∀ m ρ w,I m ρ w → F22A1 k (fun ρ' w' => ∃ m',m' < m ∧ I m' ρ' w') [] ρ w) {m:Nat} {ρ:Env} {w:World} (h:I m ρ w) : F22L1 k ρ w :=
 LoopAt_inv mixed (B := F22B) (Q := (retQ prog f22.results.toList k)) (p := [1,1,1,0,1,0]) (by kernel_rfl) (by kernel_rfl) I round h
def F22_0 (d0:Value) (w:World) (k:KV) : Prop :=
 pFn prog 78 [d0] w fun v7 w =>
 pC v7 (
 k (.slice none 0 0) w)
 (
 px prog (nilSem d0) w fun v9 w =>
 px prog (fieldAt 88 v9 1) w fun v10 w =>
 px prog (loadAt 82 v10) w fun v11 w =>
 pFn prog 79 [v11] w fun v12 w =>
 px prog (bSem .len #[22] 3 #[v12]) w fun v13 w =>
 F22L1 k (put (put (put (put (put (put (put (put (put (put (put (argEnv [d0]) 2 (.slice none 0 0)) 6 d0) 7 v7) 3 (.slice none 0 0)) 8 d0) 9 v9) 10 v10) 11 v11) 12 v12) 13 v13) 14 (.int .i64 0)) w)
theorem F22_0_eq (d0:Value) (w:World) (k:KV) : F22A k [] (argEnv [d0]) w = F22_0 d0 w k := by kernel_rfl
def F22_1 (k:KV) (N1:KE) (ρ:Env) (w:World) : Prop :=
 px prog (binSem .lss 3 (.tmp 14) (.tmp 13) (ρ 14) (ρ 13)) w fun v15 w =>
 pC v15 (
 px prog (indexAt 22 (ρ 12) (ρ 14)) w fun v16 w =>
 px prog (loadAt 9 v16) w fun v17 w =>
 px prog (nilSem (ρ 0)) w fun v21 w =>
 px prog (fieldAt 88 v21 1) w fun v22 w =>
 px prog (loadAt 82 v22) w fun v23 w =>
 px prog (Instr.lookup 82 v23 v17 false) w fun v25 w =>
 px prog (nilSem v25) w fun v26 w =>
 px prog (fieldAt 131 v26 1) w fun v27 w =>
 px prog (loadAt 23 v27) w fun v28 w =>
 pFn prog 80 [v28] w fun v29 w =>
 px prog (Instr.build 107 #[(0,v17),(1,v29)]) w fun v30 w =>
 px prog (Instr.buildSlice 36 1 #[(0,v30)]) w fun v31 w =>
 px prog (bSem .append #[36,36] 36 #[(ρ 3),v31]) w fun v32 w =>
 px prog (binSem .add 3 (.tmp 14) (.const (.int .i64 1)) (ρ 14) (.int .i64 1)) w fun v33 w =>
 N1 (put (put (put (put (put (put (put (put (put (put (put (put (put (put (put (put (put (put (put (put (put (put ρ 15 v15) 16 v16) 17 v17) 5 v17) 18 (ρ 3)) 19 v17) 20 (ρ 0)) 21 v21) 22 v22) 23 v23) 24 v17) 25 v25) 26 v26) 27 v27) 28 v28) 29 v29) 30 v30) 31 v31) 32 v32) 3 v32) 33 v33) 14 v33) w)
 (
 F22A k [1,1,1,1] (put ρ 15 v15) w)
theorem F22_1_eq (k:KV) (N1:KE) (ρ:Env) (w:World) : F22A1 k N1 [] ρ w = F22_1 k N1 ρ w := by kernel_rfl
def F22_2 (k:KV) (ρ:Env) (w:World) : Prop :=
 k (ρ 3) w
theorem F22_2_eq (k:KV) (ρ:Env) (w:World) : F22A k [1,1,1,1] ρ w = F22_2 k ρ w := by kernel_rfl
theorem F22_in (d0:Value) (w:World) (k:KV) (h:F22_0 d0 w k) : pFn prog 22 [d0] w k :=
 pFn_of_at mixed func22 (by kernel_rfl) (by kernel_rfl) ntmps22 (by kernel_rfl) (by kernel_rfl) (by simp) ((F22_0_eq d0 w k).mpr h)
noncomputable def F55B : Code := bodyOf f55
def F55A (k:KV) (q:List Nat) (ρ:Env) (w:World) : Prop := At prog 14 F55B (retQ prog f55.results.toList k) q ρ w
def F55_0 (d0:Value) (p1:Value) (w:World) (k:KV) : Prop :=
 px prog (Instr.box 85 p1) w fun v3 w =>
 pFn prog 59 [d0] w fun v5 w =>
 px prog (Op.unary .not v5) w fun v6 w =>
 pC v6 (
 px prog (loadAt 85 v3) w fun v9 w =>
 px prog (nilSem d0) w fun v10 w =>
 px prog (fieldAt 88 v10 5) w fun v11 w =>
 pu prog (storeAt 85 v11 v9) w fun w =>
 px prog (nilSem d0) w fun v12 w =>
 px prog (fieldAt 88 v12 6) w fun v13 w =>
 pu prog (storeAt 3 v13 (.int .i64 0)) w fun w =>
 k (.tuple #[]) w)
 (
 k (.tuple #[]) w)
theorem F55_0_eq (d0:Value) (p1:Value) (w:World) (k:KV) : F55A k [] (argEnv [d0,p1]) w = F55_0 d0 p1 w k := by kernel_rfl
theorem F55_in (d0:Value) (p1:Value) (w:World) (k:KV) (h:F55_0 d0 p1 w k) : pFn prog 55 [d0,p1] w k :=
 pFn_of_at mixed func55 (by kernel_rfl) (by kernel_rfl) ntmps55 (by kernel_rfl) (by kernel_rfl) (by simp) ((F55_0_eq d0 p1 w k).mpr h)
noncomputable def F56B : Code := bodyOf f56
def F56A (k:KV) (q:List Nat) (ρ:Env) (w:World) : Prop := At prog 9 F56B (retQ prog f56.results.toList k) q ρ w
def F56_0 (d0:Value) (w:World) (k:KV) : Prop :=
 pFn prog 78 [d0] w fun v4 w =>
 pC v4 (
 k (.int .i64 0) w)
 (
 px prog (nilSem d0) w fun v6 w =>
 px prog (fieldAt 88 v6 4) w fun v7 w =>
 px prog (loadAt 3 v7) w fun v8 w =>
 k v8 w)
theorem F56_0_eq (d0:Value) (w:World) (k:KV) : F56A k [] (argEnv [d0]) w = F56_0 d0 w k := by kernel_rfl
theorem F56_in (d0:Value) (w:World) (k:KV) (h:F56_0 d0 w k) : pFn prog 56 [d0] w k :=
 pFn_of_at mixed func56 (by kernel_rfl) (by kernel_rfl) ntmps56 (by kernel_rfl) (by kernel_rfl) (by simp) ((F56_0_eq d0 w k).mpr h)
noncomputable def F57B : Code := bodyOf f57
def F57A (k:KV) (q:List Nat) (ρ:Env) (w:World) : Prop := At prog 89 F57B (retQ prog f57.results.toList k) q ρ w
noncomputable def F57B1 : Code := sub F57B [1,1,1,1,0,1,0,0]
def F57Q1 (k:KV) (N1:KE) : Xt → KE := thenE N1 (contAt prog 89 F57B (retQ prog f57.results.toList k) [1,1,1,1,0,1,0])
def F57A1 (k:KV) (N1:KE) (q:List Nat) (ρ:Env) (w:World) : Prop := At prog 89 F57B1 (F57Q1 k N1) q ρ w
def F57L1 (k:KV) (ρ:Env) (w:World) : Prop := LoopAt prog 89 F57B (retQ prog f57.results.toList k) [1,1,1,1,0,1,0] ρ w
theorem F57L1_inv (k:KV) (I:Nat → KE) (round:∀ m ρ w,I m ρ w → F57A1 k (fun ρ' w' => ∃ m',m' < m ∧ I m' ρ' w') [] ρ w) {m:Nat} {ρ:Env} {w:World} (h:I m ρ w) : F57L1 k ρ w :=
 LoopAt_inv mixed (B := F57B) (Q := (retQ prog f57.results.toList k)) (p := [1,1,1,1,0,1,0]) (by kernel_rfl) (by kernel_rfl) I round h
noncomputable def F57B2 : Code := sub F57B [1,1,1,1,1,0,1,0,0]
def F57Q2 (k:KV) (N2:KE) : Xt → KE := thenE N2 (contAt prog 89 F57B (retQ prog f57.results.toList k) [1,1,1,1,1,0,1,0])
def F57A2 (k:KV) (N2:KE) (q:List Nat) (ρ:Env) (w:World) : Prop := At prog 89 F57B2 (F57Q2 k N2) q ρ w
def F57L2 (k:KV) (ρ:Env) (w:World) : Prop := LoopAt prog 89 F57B (retQ prog f57.results.toList k) [1,1,1,1,1,0,1,0] ρ w
theorem F57L2_inv (k:KV) (I:Nat → KE) (round:∀ m ρ w,I m ρ w → F57A2 k (fun ρ' w' => ∃ m',m' < m ∧ I m' ρ' w') [] ρ w) {m:Nat} {ρ:Env} {w:World} (h:I m ρ w) : F57L2 k ρ w :=
 LoopAt_inv mixed (B := F57B) (Q := (retQ prog f57.results.toList k)) (p := [1,1,1,1,1,0,1,0]) (by kernel_rfl) (by kernel_rfl) I round h
def F57_0 (d0:Value) (picks1:Value) (w:World) (k:KV) : Prop :=
 px prog (Instr.box 58 picks1) w fun v3 w =>
 pFn prog 78 [d0] w fun v12 w =>
 pC v12 (
 k (.tuple #[]) w)
 (
 px prog (Instr.makeFunc (Fn.func 94) #[] #[v3]) w fun v13 w =>
 px prog (nilSem d0) w fun v15 w =>
 px prog (fieldAt 88 v15 2) w fun v16 w =>
 px prog (loadAt 82 v16) w fun v17 w =>
 pFn prog 96 [v17] w fun v18 w =>
 ∃ S : World → Prop,S w.drew ∧ (fun w =>
 pq prog S (nilSem d0) fun v20 =>
 pq prog S (fieldAt 88 v20 3) fun v21 =>
 pq prog S (loadAt 83 v21) fun v22 =>
 pq prog S (nilSem d0) fun v25 =>
 pq prog S (fieldAt 88 v25 3) fun v26 =>
 pq prog S (loadAt 83 v26) fun v27 =>
 pq prog S (bSem .len #[83] 3 #[v27]) fun v28 =>
 pVal prog v13 [v28] w fun v29 w => S w ∧ (
 pq prog S (sliceAt 83 v22 none (some v29) none) fun v30 =>
 pq prog S (bSem .len #[83] 3 #[v30]) fun v31 =>
 F57L1 k (put (put (put (put (put (put (put (put (put (put (put (put (put (put (put (put (put (put (put (put (put (put (put (put (put (argEnv [d0,picks1]) 3 v3) 11 d0) 12 v12) 13 v13) 4 v13) 14 d0) 15 v15) 16 v16) 17 v17) 18 v18) 5 v18) 19 d0) 20 v20) 21 v21) 22 v22) 23 v13) 24 d0) 25 v25) 26 v26) 27 v27) 28 v28) 32 (.int .i64 0)) 29 v29) 30 v30) 31 v31) w)) w.drew)
theorem F57_0_eq (d0:Value) (picks1:Value) (w:World) (k:KV) : F57A k [] (argEnv [d0,picks1]) w = F57_0 d0 picks1 w k := by kernel_rfl
def F57_1 (k:KV) (N1:KE) (ρ:Env) (w:World) : Prop :=
 px prog (binSem .lss 3 (.tmp 32) (.tmp 31) (ρ 32) (ρ 31)) w fun v33 w =>
 pC v33 (
 px prog (indexAt 83 (ρ 30) (ρ 32)) w fun v34 w =>
 px prog (loadAt 174 v34) w fun v35 w =>
 pInv prog v35 "freight/disk.on" [(ρ 5)] w fun v38 w =>
 px prog (binSem .add 3 (.tmp 32) (.const (.int .i64 1)) (ρ 32) (.int .i64 1)) w fun v39 w =>
 N1 (put (put (put (put (put (put (put (put (put ρ 33 v33) 34 v34) 35 v35) 7 v35) 36 v35) 37 (ρ 5)) 38 v38) 39 v39) 32 v39) w)
 (
 F57A k [1,1,1,1,1] (put ρ 33 v33) w)
theorem F57_1_eq (k:KV) (N1:KE) (ρ:Env) (w:World) : F57A1 k N1 [] ρ w = F57_1 k N1 ρ w := by kernel_rfl
def F57_2 (k:KV) (ρ:Env) (w:World) : Prop :=
 pFn prog 79 [(ρ 5)] w fun v41 w =>
 px prog (bSem .len #[22] 3 #[v41]) w fun v42 w =>
 F57L2 k (put (put (put (put ρ 40 (ρ 5)) 41 v41) 42 v42) 43 (.int .i64 0)) w
theorem F57_2_eq (k:KV) (ρ:Env) (w:World) : F57A k [1,1,1,1,1] ρ w = F57_2 k ρ w := by kernel_rfl
def F57_3 (k:KV) (N2:KE) (ρ:Env) (w:World) : Prop :=
 px prog (binSem .lss 3 (.tmp 43) (.tmp 42) (ρ 43) (ρ 42)) w fun v44 w =>
 pC v44 (
 px prog (indexAt 22 (ρ 41) (ρ 43)) w fun v45 w =>
 px prog (loadAt 9 v45) w fun v46 w =>
 ∃ S : World → Prop,S w.drew ∧ (fun w =>
 pq prog S (Instr.lookup 82 (ρ 5) v46 false) fun v49 =>
 pq prog S (Instr.lookup 82 (ρ 5) v46 false) fun v53 =>
 pFn prog 98 [v53] w fun v54 w => S w ∧ (
 pVal prog (ρ 4) [v54] w fun v55 w => S w ∧ (
 pFn prog 97 [v49,v55] w fun v56 w => S w ∧ (
 px prog (Instr.build 131 #[(0,v56),(1,v56)]) w fun v61 w =>
 px prog (Instr.box 131 v61) w fun v62 w =>
 pu prog (Instr.mapUpdate 82 (ρ 5) v46 v62) w fun w =>
 px prog (binSem .add 3 (.tmp 43) (.const (.int .i64 1)) (ρ 43) (.int .i64 1)) w fun v63 w =>
 N2 (put (put (put (put (put (put (put (put (put (put (put (put (put (put (put (put (put (put (put (put (put (put (put ρ 44 v44) 45 v45) 46 v46) 9 v46) 47 (ρ 5)) 48 v46) 49 v49) 50 (ρ 4)) 51 (ρ 5)) 52 v46) 53 v53) 54 v54) 55 v55) 56 v56) 10 v56) 57 (ρ 5)) 58 v46) 59 v56) 60 v56) 61 v61) 62 v62) 63 v63) 43 v63) w)))) w.drew)
 (
 F57A k [1,1,1,1,1,1] (put ρ 44 v44) w)
theorem F57_3_eq (k:KV) (N2:KE) (ρ:Env) (w:World) : F57A2 k N2 [] ρ w = F57_3 k N2 ρ w := by kernel_rfl
def F57_4 (k:KV) (ρ:Env) (w:World) : Prop :=
 pFn prog 96 [(ρ 5)] w fun v69 w =>
 px prog (nilSem (ρ 0)) w fun v70 w =>
 px prog (fieldAt 88 v70 2) w fun v71 w =>
 pu prog (storeAt 82 v71 (ρ 5)) w fun w =>
 px prog (nilSem (ρ 0)) w fun v72 w =>
 px prog (fieldAt 88 v72 1) w fun v73 w =>
 pu prog (storeAt 82 v73 v69) w fun w =>
 px prog (nilSem (ρ 0)) w fun v74 w =>
 px prog (fieldAt 88 v74 3) w fun v75 w =>
 pu prog (storeAt 83 v75 (.slice none 0 0)) w fun w =>
 px prog (Instr.build 85 #[]) w fun v80 w =>
 px prog (nilSem (ρ 0)) w fun v81 w =>
 px prog (fieldAt 88 v81 7) w fun v82 w =>
 pu prog (storeAt 4 v82 (.bool false)) w fun w =>
 px prog (nilSem (ρ 0)) w fun v83 w =>
 px prog (fieldAt 88 v83 5) w fun v84 w =>
 pu prog (storeAt 85 v84 v80) w fun w =>
 px prog (nilSem (ρ 0)) w fun v85 w =>
 px prog (fieldAt 88 v85 6) w fun v86 w =>
 pu prog (storeAt 3 v86 (.int .i64 0)) w fun w =>
 px prog (nilSem (ρ 0)) w fun v87 w =>
 px prog (fieldAt 88 v87 4) w fun v88 w =>
 pu prog (storeAt 3 v88 (.int .i64 0)) w fun w =>
 k (.tuple #[]) w
theorem F57_4_eq (k:KV) (ρ:Env) (w:World) : F57A k [1,1,1,1,1,1] ρ w = F57_4 k ρ w := by kernel_rfl
theorem F57_in (d0:Value) (picks1:Value) (w:World) (k:KV) (h:F57_0 d0 picks1 w k) : pFn prog 57 [d0,picks1] w k :=
 pFn_of_at mixed func57 (by kernel_rfl) (by kernel_rfl) ntmps57 (by kernel_rfl) (by kernel_rfl) (by simp) ((F57_0_eq d0 picks1 w k).mpr h)
noncomputable def F59B : Code := bodyOf f59
def F59A (k:KV) (q:List Nat) (ρ:Env) (w:World) : Prop := At prog 11 F59B (retQ prog f59.results.toList k) q ρ w
def F59_0 (d0:Value) (w:World) (k:KV) : Prop :=
 pFn prog 78 [d0] w fun v4 w =>
 pG v4 false (fun k => k d0 w) (w := w) (next := fun v6 w =>
 pG v4 false (fun k => px prog (nilSem v6) w k) (w := w) (next := fun v7 w =>
 pG v4 false (fun k => px prog (fieldAt 88 v7 7) w k) (w := w) (next := fun v8 w =>
 pG v4 false (fun k => px prog (loadAt 4 v8) w k) (w := w) (next := fun v9 w =>
 px prog (pickSem v4 (.bool true) v9) w fun v10 w =>
 k v10 w))))
theorem F59_0_eq (d0:Value) (w:World) (k:KV) : F59A k [] (argEnv [d0]) w = F59_0 d0 w k := by kernel_rfl
theorem F59_in (d0:Value) (w:World) (k:KV) (h:F59_0 d0 w k) : pFn prog 59 [d0] w k :=
 pFn_of_at mixed func59 (by kernel_rfl) (by kernel_rfl) ntmps59 (by kernel_rfl) (by kernel_rfl) (by simp) ((F59_0_eq d0 w k).mpr h)
noncomputable def F70B : Code := bodyOf f70
def F70A (k:KV) (q:List Nat) (ρ:Env) (w:World) : Prop := At prog 19 F70B (retQ prog f70.results.toList k) q ρ w
def F70_0 (d0:Value) (name1:Value) (w:World) (k:KV) : Prop :=
 px prog (Instr.box 24 d0) w fun v2 w =>
 px prog (Instr.box 9 name1) w fun v3 w =>
 px prog (loadAt 24 v2) w fun v8 w =>
 px prog (loadAt 9 v3) w fun v9 w =>
 pFn prog 122 [v8,v9] w fun v10 w =>
 px prog (extract v10 0) w fun v11 w =>
 px prog (extract v10 1) w fun v12 w =>
 px prog (binSem .neq 25 (.tmp 13) (.const (.int .i64 0)) v12 (.int .i64 0)) w fun v14 w =>
 pC v14 (
 k v12 w)
 (
 px prog (loadAt 24 v2) w fun v16 w =>
 px prog (Instr.makeFunc (Fn.func 124) #[] #[v2,v3]) w fun v17 w =>
 pFn prog 123 [v16,(.int .i64 0),(.int .i64 0),v17] w fun v18 w =>
 k v18 w)
theorem F70_0_eq (d0:Value) (name1:Value) (w:World) (k:KV) : F70A k [] (argEnv [d0,name1]) w = F70_0 d0 name1 w k := by kernel_rfl
theorem F70_in (d0:Value) (name1:Value) (w:World) (k:KV) (h:F70_0 d0 name1 w k) : pFn prog 70 [d0,name1] w k :=
 pFn_of_at mixed func70 (by kernel_rfl) (by kernel_rfl) ntmps70 (by kernel_rfl) (by kernel_rfl) (by simp) ((F70_0_eq d0 name1 w k).mpr h)
noncomputable def F71B : Code := bodyOf f71
def F71A (k:KV) (q:List Nat) (ρ:Env) (w:World) : Prop := At prog 8 F71B (retQ prog f71.results.toList k) q ρ w
def F71_0 (d0:Value) (w:World) (k:KV) : Prop :=
 px prog (Instr.box 24 d0) w fun v1 w =>
 px prog (loadAt 24 v1) w fun v3 w =>
 pFn prog 59 [v3] w fun v4 w =>
 pC v4 (
 k (.int .i64 50) w)
 (
 px prog (loadAt 24 v1) w fun v5 w =>
 px prog (Instr.makeFunc (Fn.func 126) #[] #[v1]) w fun v6 w =>
 pFn prog 123 [v5,(.int .i64 2),(.int .i64 0),v6] w fun v7 w =>
 k v7 w)
theorem F71_0_eq (d0:Value) (w:World) (k:KV) : F71A k [] (argEnv [d0]) w = F71_0 d0 w k := by kernel_rfl
theorem F71_in (d0:Value) (w:World) (k:KV) (h:F71_0 d0 w k) : pFn prog 71 [d0] w k :=
 pFn_of_at mixed func71 (by kernel_rfl) (by kernel_rfl) ntmps71 (by kernel_rfl) (by kernel_rfl) (by simp) ((F71_0_eq d0 w k).mpr h)
noncomputable def F72B : Code := bodyOf f72
def F72A (k:KV) (q:List Nat) (ρ:Env) (w:World) : Prop := At prog 22 F72B (retQ prog f72.results.toList k) q ρ w
def F72_0 (d0:Value) (name1:Value) (w:World) (k:KV) : Prop :=
 pFn prog 122 [d0,name1] w fun v11 w =>
 px prog (extract v11 0) w fun v12 w =>
 px prog (extract v11 1) w fun v13 w =>
 px prog (binSem .neq 25 (.tmp 14) (.const (.int .i64 0)) v13 (.int .i64 0)) w fun v15 w =>
 pC v15 (
 k (.tuple #[(.int .i64 0),v13]) w)
 (
 px prog (nilSem v12) w fun v18 w =>
 px prog (fieldAt 131 v18 1) w fun v19 w =>
 px prog (loadAt 23 v19) w fun v20 w =>
 px prog (bSem .len #[23] 3 #[v20]) w fun v21 w =>
 k (.tuple #[v21,(.int .i64 0)]) w)
theorem F72_0_eq (d0:Value) (name1:Value) (w:World) (k:KV) : F72A k [] (argEnv [d0,name1]) w = F72_0 d0 name1 w k := by kernel_rfl
theorem F72_in (d0:Value) (name1:Value) (w:World) (k:KV) (h:F72_0 d0 name1 w k) : pFn prog 72 [d0,name1] w k :=
 pFn_of_at mixed func72 (by kernel_rfl) (by kernel_rfl) ntmps72 (by kernel_rfl) (by kernel_rfl) (by simp) ((F72_0_eq d0 name1 w k).mpr h)
noncomputable def F73B : Code := bodyOf f73
def F73A (k:KV) (q:List Nat) (ρ:Env) (w:World) : Prop := At prog 30 F73B (retQ prog f73.results.toList k) q ρ w
def F73_0 (d0:Value) (name1:Value) (w:World) (k:KV) : Prop :=
 px prog (Instr.box 24 d0) w fun v2 w =>
 px prog (Instr.box 9 name1) w fun v3 w =>
 px prog (loadAt 24 v2) w fun v9 w =>
 px prog (loadAt 9 v3) w fun v10 w =>
 pFn prog 122 [v9,v10] w fun v11 w =>
 px prog (extract v11 0) w fun v12 w =>
 px prog (extract v11 1) w fun v13 w =>
 px prog (binSem .eql 25 (.tmp 14) (.const (.int .i64 0)) v13 (.int .i64 0)) w fun v17 w =>
 pC v17 (
 k (.int .i64 52) w)
 (
 px prog (binSem .eql 25 (.tmp 14) (.const (.int .i64 53)) v13 (.int .i64 53)) w fun v19 w =>
 pC v19 (
 px prog (loadAt 24 v2) w fun v20 w =>
 px prog (nilSem v20) w fun v21 w =>
 px prog (fieldAt 88 v21 1) w fun v22 w =>
 px prog (loadAt 82 v22) w fun v23 w =>
 px prog (bSem .len #[82] 3 #[v23]) w fun v24 w =>
 px prog (binSem .geq 3 (.tmp 24) (.const (.int .i64 256)) v24 (.int .i64 256)) w fun v25 w =>
 pC v25 (
 F73A k [1,1,1,1] (put (put (put (put (put (put (put (put (put (put (put (put (put (put (put (put (put (put (put (put (put (put (put (put (argEnv [d0,name1]) 2 v2) 3 v3) 4 (.int .i64 0)) 9 v9) 10 v10) 11 v11) 8 v11) 12 v12) 13 v13) 5 v12) 6 v13) 14 v13) 17 v17) 16 v17) 19 v19) 18 v19) 7 (.int .i64 0)) 20 v20) 21 v21) 22 v22) 23 v23) 24 v24) 25 v25) 7 (.int .i64 56)) w)
 (
 F73A k [1,1,1,1] (put (put (put (put (put (put (put (put (put (put (put (put (put (put (put (put (put (put (put (put (put (put (put (argEnv [d0,name1]) 2 v2) 3 v3) 4 (.int .i64 0)) 9 v9) 10 v10) 11 v11) 8 v11) 12 v12) 13 v13) 5 v12) 6 v13) 14 v13) 17 v17) 16 v17) 19 v19) 18 v19) 7 (.int .i64 0)) 20 v20) 21 v21) 22 v22) 23 v23) 24 v24) 25 v25) w))
 (
 k v13 w))
theorem F73_0_eq (d0:Value) (name1:Value) (w:World) (k:KV) : F73A k [] (argEnv [d0,name1]) w = F73_0 d0 name1 w k := by kernel_rfl
def F73_1 (k:KV) (ρ:Env) (w:World) : Prop :=
 px prog (loadAt 24 (ρ 2)) w fun v26 w =>
 px prog (Instr.makeFunc (Fn.func 127) #[] #[(ρ 2),(ρ 3)]) w fun v28 w =>
 pFn prog 123 [v26,(.int .i64 1),(ρ 7),v28] w fun v29 w =>
 k v29 w
theorem F73_1_eq (k:KV) (ρ:Env) (w:World) : F73A k [1,1,1,1] ρ w = F73_1 k ρ w := by kernel_rfl
theorem F73_in (d0:Value) (name1:Value) (w:World) (k:KV) (h:F73_0 d0 name1 w k) : pFn prog 73 [d0,name1] w k :=
 pFn_of_at mixed func73 (by kernel_rfl) (by kernel_rfl) ntmps73 (by kernel_rfl) (by kernel_rfl) (by simp) ((F73_0_eq d0 name1 w k).mpr h)
noncomputable def F74B : Code := bodyOf f74
def F74A (k:KV) (q:List Nat) (ρ:Env) (w:World) : Prop := At prog 27 F74B (retQ prog f74.results.toList k) q ρ w
def F74_0 (d0:Value) (name1:Value) (data2:Value) (w:World) (k:KV) : Prop :=
 pFn prog 122 [d0,name1] w fun v12 w =>
 px prog (extract v12 0) w fun v13 w =>
 px prog (extract v12 1) w fun v14 w =>
 px prog (binSem .neq 25 (.tmp 15) (.const (.int .i64 0)) v14 (.int .i64 0)) w fun v16 w =>
 pC v16 (
 k v14 w)
 (
 px prog (nilSem v13) w fun v21 w =>
 px prog (fieldAt 131 v21 1) w fun v22 w =>
 px prog (loadAt 23 v22) w fun v23 w =>
 px prog (bSem .len #[23] 3 #[v23]) w fun v24 w =>
 pFn prog 128 [d0,name1,v24,data2] w fun v26 w =>
 k v26 w)
theorem F74_0_eq (d0:Value) (name1:Value) (data2:Value) (w:World) (k:KV) : F74A k [] (argEnv [d0,name1,data2]) w = F74_0 d0 name1 data2 w k := by kernel_rfl
theorem F74_in (d0:Value) (name1:Value) (data2:Value) (w:World) (k:KV) (h:F74_0 d0 name1 data2 w k) : pFn prog 74 [d0,name1,data2] w k :=
 pFn_of_at mixed func74 (by kernel_rfl) (by kernel_rfl) ntmps74 (by kernel_rfl) (by kernel_rfl) (by simp) ((F74_0_eq d0 name1 data2 w k).mpr h)
noncomputable def F75B : Code := bodyOf f75
def F75A (k:KV) (q:List Nat) (ρ:Env) (w:World) : Prop := At prog 20 F75B (retQ prog f75.results.toList k) q ρ w
def F75_0 (d0:Value) (name1:Value) (w:World) (k:KV) : Prop :=
 pFn prog 122 [d0,name1] w fun v10 w =>
 px prog (extract v10 0) w fun v11 w =>
 px prog (extract v10 1) w fun v12 w =>
 px prog (binSem .neq 25 (.tmp 13) (.const (.int .i64 0)) v12 (.int .i64 0)) w fun v14 w =>
 pC v14 (
 k v12 w)
 (
 px prog (Instr.makeFunc (Fn.func 129) #[v11] #[]) w fun v18 w =>
 pFn prog 123 [d0,(.int .i64 2),(.int .i64 0),v18] w fun v19 w =>
 k v19 w)
theorem F75_0_eq (d0:Value) (name1:Value) (w:World) (k:KV) : F75A k [] (argEnv [d0,name1]) w = F75_0 d0 name1 w k := by kernel_rfl
theorem F75_in (d0:Value) (name1:Value) (w:World) (k:KV) (h:F75_0 d0 name1 w k) : pFn prog 75 [d0,name1] w k :=
 pFn_of_at mixed func75 (by kernel_rfl) (by kernel_rfl) ntmps75 (by kernel_rfl) (by kernel_rfl) (by simp) ((F75_0_eq d0 name1 w k).mpr h)
noncomputable def F76B : Code := bodyOf f76
def F76A (k:KV) (q:List Nat) (ρ:Env) (w:World) : Prop := At prog 30 F76B (retQ prog f76.results.toList k) q ρ w
def F76_0 (d0:Value) (from1:Value) (to2:Value) (w:World) (k:KV) : Prop :=
 px prog (Instr.box 24 d0) w fun v3 w =>
 px prog (Instr.box 9 from1) w fun v4 w =>
 px prog (Instr.box 9 to2) w fun v5 w =>
 px prog (loadAt 24 v3) w fun v8 w =>
 pFn prog 59 [v8] w fun v9 w =>
 pC v9 (
 k (.int .i64 50) w)
 (
 px prog (loadAt 9 v4) w fun v11 w =>
 pFn prog 130 [v11] w fun v12 w =>
 px prog (Op.unary .not v12) w fun v13 w =>
 pG v13 false (fun k => px prog (loadAt 9 v5) w k) (w := w) (next := fun v15 w =>
 pG v13 false (fun k => pFn prog 130 [v15] w k) (w := w) (next := fun v16 w =>
 pG v13 false (fun k => px prog (Op.unary .not v16) w k) (w := w) (next := fun v17 w =>
 px prog (pickSem v13 (.bool true) v17) w fun v18 w =>
 pC v18 (
 k (.int .i64 51) w)
 (
 ∃ S : World → Prop,S w.drew ∧ (fun w =>
 pq prog S (loadAt 24 v3) fun v20 =>
 pq prog S (nilSem v20) fun v21 =>
 pq prog S (fieldAt 88 v21 1) fun v22 =>
 pq prog S (loadAt 82 v22) fun v23 =>
 pq prog S (loadAt 9 v4) fun v24 =>
 pq prog S (Instr.lookup 82 v23 v24 false) fun v25 =>
 pq prog S (binSem .eql 132 (.tmp 25) (.const (.pointer none)) v25 (.pointer none)) fun v26 =>
 pC v26 (
 k (.int .i64 53) w)
 (
 px prog (loadAt 24 v3) w fun v27 w =>
 px prog (Instr.makeFunc (Fn.func 131) #[] #[v4,v5,v3]) w fun v28 w =>
 pFn prog 123 [v27,(.int .i64 0),(.int .i64 0),v28] w fun v29 w =>
 k v29 w)) w.drew)))))
theorem F76_0_eq (d0:Value) (from1:Value) (to2:Value) (w:World) (k:KV) : F76A k [] (argEnv [d0,from1,to2]) w = F76_0 d0 from1 to2 w k := by kernel_rfl
theorem F76_in (d0:Value) (from1:Value) (to2:Value) (w:World) (k:KV) (h:F76_0 d0 from1 to2 w k) : pFn prog 76 [d0,from1,to2] w k :=
 pFn_of_at mixed func76 (by kernel_rfl) (by kernel_rfl) ntmps76 (by kernel_rfl) (by kernel_rfl) (by simp) ((F76_0_eq d0 from1 to2 w k).mpr h)
noncomputable def F77B : Code := bodyOf f77
def F77A (k:KV) (q:List Nat) (ρ:Env) (w:World) : Prop := At prog 72 F77B (retQ prog f77.results.toList k) q ρ w
def F77_0 (d0:Value) (name1:Value) (at2:Value) (n3:Value) (w:World) (k:KV) : Prop :=
 pFn prog 122 [d0,name1] w fun v15 w =>
 px prog (extract v15 0) w fun v16 w =>
 px prog (extract v15 1) w fun v17 w =>
 px prog (binSem .neq 25 (.tmp 19) (.const (.int .i64 0)) v17 (.int .i64 0)) w fun v20 w =>
 pC v20 (
 k (.tuple #[(.slice none 0 0),v17]) w)
 (
 px prog (binSem .lss 3 (.tmp 23) (.const (.int .i64 0)) at2 (.int .i64 0)) w fun v24 w =>
 pG v24 false (fun k => k n3 w) (w := w) (next := fun v26 w =>
 pG v24 false (fun k => px prog (binSem .lss 3 (.tmp 26) (.const (.int .i64 0)) v26 (.int .i64 0)) w k) (w := w) (next := fun v27 w =>
 px prog (pickSem v24 (.bool true) v27) w fun v28 w =>
 pG v28 false (fun k => k at2 w) (w := w) (next := fun v30 w =>
 pG v28 false (fun k => k v16 w) (w := w) (next := fun v31 w =>
 pG v28 false (fun k => px prog (nilSem v31) w k) (w := w) (next := fun v32 w =>
 pG v28 false (fun k => px prog (fieldAt 131 v32 1) w k) (w := w) (next := fun v33 w =>
 pG v28 false (fun k => px prog (loadAt 23 v33) w k) (w := w) (next := fun v34 w =>
 pG v28 false (fun k => px prog (bSem .len #[23] 3 #[v34]) w k) (w := w) (next := fun v35 w =>
 pG v28 false (fun k => px prog (binSem .gtr 3 (.tmp 30) (.tmp 35) v30 v35) w k) (w := w) (next := fun v36 w =>
 px prog (pickSem v28 (.bool true) v36) w fun v37 w =>
 pG v37 false (fun k => k n3 w) (w := w) (next := fun v39 w =>
 pG v37 false (fun k => k v16 w) (w := w) (next := fun v40 w =>
 pG v37 false (fun k => px prog (nilSem v40) w k) (w := w) (next := fun v41 w =>
 pG v37 false (fun k => px prog (fieldAt 131 v41 1) w k) (w := w) (next := fun v42 w =>
 pG v37 false (fun k => px prog (loadAt 23 v42) w k) (w := w) (next := fun v43 w =>
 pG v37 false (fun k => px prog (bSem .len #[23] 3 #[v43]) w k) (w := w) (next := fun v44 w =>
 pG v37 false (fun k => k at2 w) (w := w) (next := fun v45 w =>
 pG v37 false (fun k => px prog (binSem .sub 3 (.tmp 44) (.tmp 45) v44 v45) w k) (w := w) (next := fun v46 w =>
 pG v37 false (fun k => px prog (binSem .gtr 3 (.tmp 39) (.tmp 46) v39 v46) w k) (w := w) (next := fun v47 w =>
 px prog (pickSem v37 (.bool true) v47) w fun v48 w =>
 pC v48 (
 k (.tuple #[(.slice none 0 0),(.int .i64 54)]) w)
 (
 px prog (nilSem d0) w fun v51 w =>
 px prog (fieldAt 88 v51 8) w fun v52 w =>
 px prog (loadAt 86 v52) w fun v53 w =>
 px prog (Instr.build 209 #[(0,name1),(1,at2),(2,n3)]) w fun v57 w =>
 px prog (Instr.buildSlice 86 1 #[(0,v57)]) w fun v58 w =>
 px prog (bSem .append #[86,86] 86 #[v53,v58]) w fun v59 w =>
 px prog (nilSem d0) w fun v60 w =>
 px prog (fieldAt 88 v60 8) w fun v61 w =>
 pu prog (storeAt 86 v61 v59) w fun w =>
 px prog (nilSem v16) w fun v63 w =>
 px prog (fieldAt 131 v63 1) w fun v64 w =>
 px prog (loadAt 23 v64) w fun v65 w =>
 px prog (binSem .add 3 (.tmp 67) (.tmp 68) at2 n3) w fun v69 w =>
 px prog (sliceAt 23 v65 (some at2) (some v69) none) w fun v70 w =>
 px prog (bSem .append #[23,23] 23 #[(.slice none 0 0),v70]) w fun v71 w =>
 k (.tuple #[v71,(.int .i64 0)]) w))))))))))))))))))))
theorem F77_0_eq (d0:Value) (name1:Value) (at2:Value) (n3:Value) (w:World) (k:KV) : F77A k [] (argEnv [d0,name1,at2,n3]) w = F77_0 d0 name1 at2 n3 w k := by kernel_rfl
theorem F77_in (d0:Value) (name1:Value) (at2:Value) (n3:Value) (w:World) (k:KV) (h:F77_0 d0 name1 at2 n3 w k) : pFn prog 77 [d0,name1,at2,n3] w k :=
 pFn_of_at mixed func77 (by kernel_rfl) (by kernel_rfl) ntmps77 (by kernel_rfl) (by kernel_rfl) (by simp) ((F77_0_eq d0 name1 at2 n3 w k).mpr h)
noncomputable def F78B : Code := bodyOf f78
def F78A (k:KV) (q:List Nat) (ρ:Env) (w:World) : Prop := At prog 12 F78B (retQ prog f78.results.toList k) q ρ w
def F78_0 (d0:Value) (w:World) (k:KV) : Prop :=
 px prog (binSem .eql 24 (.tmp 3) (.const (.pointer none)) d0 (.pointer none)) w fun v4 w =>
 pG v4 false (fun k => k d0 w) (w := w) (next := fun v6 w =>
 pG v4 false (fun k => px prog (nilSem v6) w k) (w := w) (next := fun v7 w =>
 pG v4 false (fun k => px prog (fieldAt 88 v7 0) w k) (w := w) (next := fun v8 w =>
 pG v4 false (fun k => px prog (loadAt 3 v8) w k) (w := w) (next := fun v9 w =>
 pG v4 false (fun k => px prog (binSem .eql 3 (.tmp 9) (.const (.int .i64 0)) v9 (.int .i64 0)) w k) (w := w) (next := fun v10 w =>
 px prog (pickSem v4 (.bool true) v10) w fun v11 w =>
 k v11 w)))))
theorem F78_0_eq (d0:Value) (w:World) (k:KV) : F78A k [] (argEnv [d0]) w = F78_0 d0 w k := by kernel_rfl
theorem F78_in (d0:Value) (w:World) (k:KV) (h:F78_0 d0 w k) : pFn prog 78 [d0] w k :=
 pFn_of_at mixed func78 (by kernel_rfl) (by kernel_rfl) ntmps78 (by kernel_rfl) (by kernel_rfl) (by simp) ((F78_0_eq d0 w k).mpr h)
noncomputable def F122B : Code := bodyOf f122
def F122A (k:KV) (q:List Nat) (ρ:Env) (w:World) : Prop := At prog 27 F122B (retQ prog f122.results.toList k) q ρ w
def F122_0 (d0:Value) (name1:Value) (w:World) (k:KV) : Prop :=
 pFn prog 59 [d0] w fun v8 w =>
 pC v8 (
 k (.tuple #[(.pointer none),(.int .i64 50)]) w)
 (
 pFn prog 130 [name1] w fun v11 w =>
 px prog (Op.unary .not v11) w fun v12 w =>
 pC v12 (
 k (.tuple #[(.pointer none),(.int .i64 51)]) w)
 (
 px prog (nilSem d0) w fun v15 w =>
 px prog (fieldAt 88 v15 1) w fun v16 w =>
 px prog (loadAt 82 v16) w fun v17 w =>
 px prog (Instr.lookup 82 v17 name1 false) w fun v19 w =>
 px prog (binSem .eql 132 (.tmp 19) (.const (.pointer none)) v19 (.pointer none)) w fun v20 w =>
 pC v20 (
 k (.tuple #[(.pointer none),(.int .i64 53)]) w)
 (
 px prog (nilSem d0) w fun v22 w =>
 px prog (fieldAt 88 v22 1) w fun v23 w =>
 px prog (loadAt 82 v23) w fun v24 w =>
 px prog (Instr.lookup 82 v24 name1 false) w fun v26 w =>
 k (.tuple #[v26,(.int .i64 0)]) w)))
theorem F122_0_eq (d0:Value) (name1:Value) (w:World) (k:KV) : F122A k [] (argEnv [d0,name1]) w = F122_0 d0 name1 w k := by kernel_rfl
theorem F122_in (d0:Value) (name1:Value) (w:World) (k:KV) (h:F122_0 d0 name1 w k) : pFn prog 122 [d0,name1] w k :=
 pFn_of_at mixed func122 (by kernel_rfl) (by kernel_rfl) ntmps122 (by kernel_rfl) (by kernel_rfl) (by simp) ((F122_0_eq d0 name1 w k).mpr h)
noncomputable def F123B : Code := bodyOf f123
def F123A (k:KV) (q:List Nat) (ρ:Env) (w:World) : Prop := At prog 86 F123B (retQ prog f123.results.toList k) q ρ w
def F123_0 (d0:Value) (kind1:Value) (refused2:Value) (do3:Value) (w:World) (k:KV) : Prop :=
 px prog (nilSem d0) w fun v10 w =>
 px prog (fieldAt 88 v10 4) w fun v11 w =>
 px prog (loadAt 3 v11) w fun v12 w =>
 px prog (binSem .add 3 (.tmp 12) (.const (.int .i64 1)) v12 (.int .i64 1)) w fun v13 w =>
 px prog (nilSem d0) w fun v14 w =>
 px prog (fieldAt 88 v14 4) w fun v15 w =>
 pu prog (storeAt 3 v15 v13) w fun w =>
 px prog (nilSem d0) w fun v17 w =>
 px prog (fieldAt 88 v17 6) w fun v18 w =>
 px prog (loadAt 3 v18) w fun v19 w =>
 px prog (binSem .add 3 (.tmp 19) (.const (.int .i64 1)) v19 (.int .i64 1)) w fun v20 w =>
 px prog (nilSem d0) w fun v21 w =>
 px prog (fieldAt 88 v21 6) w fun v22 w =>
 pu prog (storeAt 3 v22 v20) w fun w =>
 ∃ S : World → Prop,S w.drew ∧ (fun w =>
 pq prog S (binSem .eql 25 (.tmp 23) (.const (.int .i64 0)) refused2 (.int .i64 0)) fun v24 =>
 pGq v24 true (fun k => k kind1) (next := fun v26 =>
 pGq v24 true (fun k => pq prog S (binSem .eql 3 (.tmp 26) (.const (.int .i64 1)) v26 (.int .i64 1)) k) (next := fun v27 =>
 pq prog S (pickSem v24 v27 (.bool false)) fun v28 =>
 pGq v28 true (fun k => k d0) (next := fun v30 =>
 pGq v28 true (fun k => pq prog S (nilSem v30) k) (next := fun v31 =>
 pGq v28 true (fun k => pq prog S (fieldAt 88 v31 6) k) (next := fun v32 =>
 pGq v28 true (fun k => pq prog S (loadAt 3 v32) k) (next := fun v33 =>
 pGq v28 true (fun k => k d0) (next := fun v34 =>
 pGq v28 true (fun k => pq prog S (nilSem v34) k) (next := fun v35 =>
 pGq v28 true (fun k => pq prog S (fieldAt 88 v35 5) k) (next := fun v36 =>
 pGq v28 true (fun k => pq prog S (fieldAt 85 v36 1) k) (next := fun v37 =>
 pGq v28 true (fun k => pq prog S (loadAt 3 v37) k) (next := fun v38 =>
 pGq v28 true (fun k => pq prog S (binSem .geq 3 (.tmp 33) (.tmp 38) v33 v38) k) (next := fun v39 =>
 pq prog S (pickSem v28 v39 (.bool false)) fun v40 =>
 pGq v40 true (fun k => k d0) (next := fun v42 =>
 pGq v40 true (fun k => pq prog S (nilSem v42) k) (next := fun v43 =>
 pGq v40 true (fun k => pq prog S (fieldAt 88 v43 6) k) (next := fun v44 =>
 pGq v40 true (fun k => pq prog S (loadAt 3 v44) k) (next := fun v45 =>
 pGq v40 true (fun k => k d0) (next := fun v46 =>
 pGq v40 true (fun k => pq prog S (nilSem v46) k) (next := fun v47 =>
 pGq v40 true (fun k => pq prog S (fieldAt 88 v47 5) k) (next := fun v48 =>
 pGq v40 true (fun k => pq prog S (fieldAt 85 v48 2) k) (next := fun v49 =>
 pGq v40 true (fun k => pq prog S (loadAt 3 v49) k) (next := fun v50 =>
 pGq v40 true (fun k => pq prog S (binSem .leq 3 (.tmp 45) (.tmp 50) v45 v50) k) (next := fun v51 =>
 pq prog S (pickSem v40 v51 (.bool false)) fun v52 =>
 pC v52 (
 F123A k [1,1,1,1] (put (put (put (put (put (put (put (put (put (put (put (put (put (put (put (put (put (put (put (put (put (put (put (put (put (put (put (put (put (put (put (put (put (put (put (put (put (put (put (put (put (put (put (put (put (put (argEnv [d0,kind1,refused2,do3]) 8 (.int .i64 0)) 9 d0) 10 v10) 11 v11) 12 v12) 13 v13) 14 v14) 15 v15) 16 d0) 17 v17) 18 v18) 19 v19) 20 v20) 21 v21) 22 v22) 23 refused2) 24 v24) 25 v24) 26 v26) 27 v27) 28 v28) 29 v28) 30 v30) 31 v31) 32 v32) 33 v33) 34 v34) 35 v35) 36 v36) 37 v37) 38 v38) 39 v39) 40 v40) 41 v40) 42 v42) 43 v43) 44 v44) 45 v45) 46 v46) 47 v47) 48 v48) 49 v49) 50 v50) 51 v51) 52 v52) 2 (.int .i64 55)) w)
 (
 F123A k [1,1,1,1] (put (put (put (put (put (put (put (put (put (put (put (put (put (put (put (put (put (put (put (put (put (put (put (put (put (put (put (put (put (put (put (put (put (put (put (put (put (put (put (put (put (put (put (put (put (argEnv [d0,kind1,refused2,do3]) 8 (.int .i64 0)) 9 d0) 10 v10) 11 v11) 12 v12) 13 v13) 14 v14) 15 v15) 16 d0) 17 v17) 18 v18) 19 v19) 20 v20) 21 v21) 22 v22) 23 refused2) 24 v24) 25 v24) 26 v26) 27 v27) 28 v28) 29 v28) 30 v30) 31 v31) 32 v32) 33 v33) 34 v34) 35 v35) 36 v36) 37 v37) 38 v38) 39 v39) 40 v40) 41 v40) 42 v42) 43 v43) 44 v44) 45 v45) 46 v46) 47 v47) 48 v48) 49 v49) 50 v50) 51 v51) 52 v52) w)))))))))))))))))))))))) w.drew
theorem F123_0_eq (d0:Value) (kind1:Value) (refused2:Value) (do3:Value) (w:World) (k:KV) : F123A k [] (argEnv [d0,kind1,refused2,do3]) w = F123_0 d0 kind1 refused2 do3 w k := by kernel_rfl
def F123_1 (k:KV) (ρ:Env) (w:World) : Prop :=
 ∃ S : World → Prop,S w.drew ∧ (fun w =>
 pq prog S (nilSem (ρ 0)) fun v55 =>
 pq prog S (fieldAt 88 v55 6) fun v56 =>
 pq prog S (loadAt 3 v56) fun v57 =>
 pq prog S (nilSem (ρ 0)) fun v59 =>
 pq prog S (fieldAt 88 v59 5) fun v60 =>
 pq prog S (fieldAt 85 v60 0) fun v61 =>
 pq prog S (loadAt 3 v61) fun v62 =>
 pq prog S (binSem .eql 3 (.tmp 57) (.tmp 62) v57 v62) fun v63 =>
 pq prog S (nilSem (ρ 0)) fun v64 =>
 pq prog S (fieldAt 88 v64 7) fun v65 =>
 pu prog (storeAt 4 v65 v63) w fun w => (
 px prog (binSem .eql 25 (.tmp 66) (.const (.int .i64 0)) (ρ 2) (.int .i64 0)) w fun v67 w =>
 pG v67 true (fun k => k (ρ 0) w) (w := w) (next := fun v69 w =>
 pG v67 true (fun k => px prog (nilSem v69) w k) (w := w) (next := fun v70 w =>
 pG v67 true (fun k => px prog (fieldAt 88 v70 7) w k) (w := w) (next := fun v71 w =>
 pG v67 true (fun k => px prog (loadAt 4 v71) w k) (w := w) (next := fun v72 w =>
 pG v67 true (fun k => k v72 w) (w := w) (next := fun v73 w =>
 pG v73 true (fun k => k (ρ 1) w) (w := w) (next := fun v74 w =>
 pG v73 true (fun k => px prog (binSem .eql 3 (.tmp 74) (.const (.int .i64 2)) v74 (.int .i64 2)) w k) (w := w) (next := fun v75 w =>
 pG v67 true (fun k => px prog (pickSem v73 v75 (.bool false)) w k) (w := w) (next := fun v76 w =>
 pG v67 true (fun k => px prog (Op.unary .not v76) w k) (w := w) (next := fun v77 w =>
 px prog (pickSem v67 v77 (.bool false)) w fun v78 w =>
 pC v78 (
 pVal prog (ρ 3) [] w fun v80 w =>
 F123A k [1,1,1,1,1,1] (put (put (put (put (put (put (put (put (put (put (put (put (put (put (put (put (put (put (put (put (put (put (put (put (put (put (put (put ρ 53 (ρ 0)) 54 (ρ 0)) 55 v55) 56 v56) 57 v57) 58 (ρ 0)) 59 v59) 60 v60) 61 v61) 62 v62) 63 v63) 64 v64) 65 v65) 66 (ρ 2)) 67 v67) 68 v67) 69 v69) 70 v70) 71 v71) 72 v72) 73 v73) 74 v74) 75 v75) 76 v76) 77 v77) 78 v78) 79 (ρ 3)) 80 v80) w)
 (
 F123A k [1,1,1,1,1,1] (put (put (put (put (put (put (put (put (put (put (put (put (put (put (put (put (put (put (put (put (put (put (put (put (put (put ρ 53 (ρ 0)) 54 (ρ 0)) 55 v55) 56 v56) 57 v57) 58 (ρ 0)) 59 v59) 60 v60) 61 v61) 62 v62) 63 v63) 64 v64) 65 v65) 66 (ρ 2)) 67 v67) 68 v67) 69 v69) 70 v70) 71 v71) 72 v72) 73 v73) 74 v74) 75 v75) 76 v76) 77 v77) 78 v78) w)))))))))))) w.drew
theorem F123_1_eq (k:KV) (ρ:Env) (w:World) : F123A k [1,1,1,1] ρ w = F123_1 k ρ w := by kernel_rfl
def F123_2 (k:KV) (ρ:Env) (w:World) : Prop :=
 px prog (nilSem (ρ 0)) w fun v82 w =>
 px prog (fieldAt 88 v82 7) w fun v83 w =>
 px prog (loadAt 4 v83) w fun v84 w =>
 pC v84 (
 k (.int .i64 50) w)
 (
 k (ρ 2) w)
theorem F123_2_eq (k:KV) (ρ:Env) (w:World) : F123A k [1,1,1,1,1,1] ρ w = F123_2 k ρ w := by kernel_rfl
theorem F123_in (d0:Value) (kind1:Value) (refused2:Value) (do3:Value) (w:World) (k:KV) (h:F123_0 d0 kind1 refused2 do3 w k) : pFn prog 123 [d0,kind1,refused2,do3] w k :=
 pFn_of_at mixed func123 (by kernel_rfl) (by kernel_rfl) ntmps123 (by kernel_rfl) (by kernel_rfl) (by simp) ((F123_0_eq d0 kind1 refused2 do3 w k).mpr h)
noncomputable def F125B : Code := bodyOf f125
def F125A (k:KV) (q:List Nat) (ρ:Env) (w:World) : Prop := At prog 23 F125B (retQ prog f125.results.toList k) q ρ w
def F125_0 (d0:Value) (c1:Value) (w:World) (k:KV) : Prop :=
 px prog (nilSem d0) w fun v6 w =>
 px prog (fieldAt 88 v6 3) w fun v7 w =>
 px prog (loadAt 83 v7) w fun v8 w =>
 px prog (Instr.buildSlice 83 1 #[(0,c1)]) w fun v10 w =>
 px prog (bSem .append #[83,83] 83 #[v8,v10]) w fun v11 w =>
 px prog (nilSem d0) w fun v12 w =>
 px prog (fieldAt 88 v12 3) w fun v13 w =>
 pu prog (storeAt 83 v13 v11) w fun w =>
 ∃ S : World → Prop,S w.drew ∧ (fun w =>
 pq prog S (nilSem d0) fun v16 =>
 pq prog S (fieldAt 88 v16 1) fun v17 =>
 pq prog S (loadAt 82 v17) fun v18 =>
 pq prog S (Instr.makeFunc (Fn.method "freight/disk.on") #[c1] #[]) fun v19 =>
 pq prog S (nilSem v19) fun v20 =>
 pInv prog c1 "freight/disk.on" [v18] w fun v22 w => (
 k (.tuple #[]) w)) w.drew
theorem F125_0_eq (d0:Value) (c1:Value) (w:World) (k:KV) : F125A k [] (argEnv [d0,c1]) w = F125_0 d0 c1 w k := by kernel_rfl
theorem F125_in (d0:Value) (c1:Value) (w:World) (k:KV) (h:F125_0 d0 c1 w k) : pFn prog 125 [d0,c1] w k :=
 pFn_of_at mixed func125 (by kernel_rfl) (by kernel_rfl) ntmps125 (by kernel_rfl) (by kernel_rfl) (by simp) ((F125_0_eq d0 c1 w k).mpr h)
noncomputable def F128B : Code := bodyOf f128
def F128A (k:KV) (q:List Nat) (ρ:Env) (w:World) : Prop := At prog 60 F128B (retQ prog f128.results.toList k) q ρ w
def F128_0 (d0:Value) (name1:Value) (at2:Value) (data3:Value) (w:World) (k:KV) : Prop :=
 px prog (Instr.box 3 at2) w fun v6 w =>
 px prog (Instr.box 23 data3) w fun v7 w =>
 pFn prog 122 [d0,name1] w fun v16 w =>
 px prog (extract v16 0) w fun v17 w =>
 px prog (extract v16 1) w fun v18 w =>
 px prog (Instr.alloc 132 true (.tuple #[])) w fun v9 w =>
 pu prog (storeAt 132 v9 v17) w fun w =>
 px prog (binSem .neq 25 (.tmp 19) (.const (.int .i64 0)) v18 (.int .i64 0)) w fun v20 w =>
 pC v20 (
 k v18 w)
 (
 ∃ S : World → Prop,S w.drew ∧ (fun w =>
 pq prog S (loadAt 3 v6) fun v22 =>
 pq prog S (binSem .lss 3 (.tmp 22) (.const (.int .i64 0)) v22 (.int .i64 0)) fun v23 =>
 pGq v23 false (fun k => pq prog S (loadAt 3 v6) k) (next := fun v25 =>
 pGq v23 false (fun k => pq prog S (loadAt 132 v9) k) (next := fun v26 =>
 pGq v23 false (fun k => pq prog S (nilSem v26) k) (next := fun v27 =>
 pGq v23 false (fun k => pq prog S (fieldAt 131 v27 1) k) (next := fun v28 =>
 pGq v23 false (fun k => pq prog S (loadAt 23 v28) k) (next := fun v29 =>
 pGq v23 false (fun k => pq prog S (bSem .len #[23] 3 #[v29]) k) (next := fun v30 =>
 pGq v23 false (fun k => pq prog S (binSem .gtr 3 (.tmp 25) (.tmp 30) v25 v30) k) (next := fun v31 =>
 pq prog S (pickSem v23 (.bool true) v31) fun v32 =>
 pC v32 (
 k (.int .i64 54) w)
 (
 ∃ S : World → Prop,S w.drew ∧ (fun w =>
 pq prog S (loadAt 3 v6) fun v33 =>
 pq prog S (loadAt 23 v7) fun v34 =>
 pq prog S (bSem .len #[23] 3 #[v34]) fun v35 =>
 pq prog S (binSem .add 3 (.tmp 33) (.tmp 35) v33 v35) fun v36 =>
 pq prog S (loadAt 132 v9) fun v37 =>
 pq prog S (nilSem v37) fun v38 =>
 pq prog S (fieldAt 131 v38 1) fun v39 =>
 pq prog S (loadAt 23 v39) fun v40 =>
 pq prog S (bSem .len #[23] 3 #[v40]) fun v41 =>
 pq prog S (binSem .sub 3 (.tmp 36) (.tmp 41) v36 v41) fun v42 =>
 ∃ S : World → Prop,S w.drew ∧ (fun w =>
 pq prog S (binSem .gtr 3 (.tmp 43) (.const (.int .i64 0)) v42 (.int .i64 0)) fun v44 =>
 pGq v44 true (fun k => k d0) (next := fun v46 =>
 pGq v44 true (fun k => k v42) (next := fun v48 =>
 pGq v44 true (fun k => k d0) (next := fun v50 =>
 pGq v44 true (fun k => pq prog S (nilSem v50) k) (next := fun v51 =>
 pGq v44 true (fun k => pq prog S (fieldAt 88 v51 0) k) (next := fun v52 =>
 pGq v44 true (fun k => pq prog S (loadAt 3 v52) k) (next := fun v53 =>
 pG v44 true (fun k => pFn prog 151 [v46] w k) (w := w) (next := fun v47 w => S w ∧ (
 pGq v44 true (fun k => pq prog S (binSem .add 3 (.tmp 47) (.tmp 48) v47 v48) k) (next := fun v49 =>
 pGq v44 true (fun k => pq prog S (binSem .gtr 3 (.tmp 49) (.tmp 53) v49 v53) k) (next := fun v54 =>
 pq prog S (pickSem v44 v54 (.bool false)) fun v55 =>
 pC v55 (
 F128A k [1,1,1,1,1,1] (put (put (put (put (put (put (put (put (put (put (put (put (put (put (put (put (put (put (put (put (put (put (put (put (put (put (put (put (put (put (put (put (put (put (put (put (put (put (put (put (put (put (put (put (put (put (put (put (put (put (argEnv [d0,name1,at2,data3]) 6 v6) 7 v7) 8 (.int .i64 0)) 14 d0) 15 name1) 16 v16) 13 v16) 17 v17) 18 v18) 9 v9) 10 v18) 19 v18) 20 v20) 22 v22) 23 v23) 24 v23) 25 v25) 26 v26) 27 v27) 28 v28) 29 v29) 30 v30) 31 v31) 32 v32) 11 (.int .i64 0)) 33 v33) 34 v34) 35 v35) 36 v36) 37 v37) 38 v38) 39 v39) 40 v40) 41 v41) 42 v42) 12 v42) 43 v42) 44 v44) 45 v44) 46 v46) 48 v48) 50 v50) 51 v51) 52 v52) 53 v53) 47 v47) 49 v49) 54 v54) 55 v55) 11 (.int .i64 55)) w)
 (
 F128A k [1,1,1,1,1,1] (put (put (put (put (put (put (put (put (put (put (put (put (put (put (put (put (put (put (put (put (put (put (put (put (put (put (put (put (put (put (put (put (put (put (put (put (put (put (put (put (put (put (put (put (put (put (put (put (put (argEnv [d0,name1,at2,data3]) 6 v6) 7 v7) 8 (.int .i64 0)) 14 d0) 15 name1) 16 v16) 13 v16) 17 v17) 18 v18) 9 v9) 10 v18) 19 v18) 20 v20) 22 v22) 23 v23) 24 v23) 25 v25) 26 v26) 27 v27) 28 v28) 29 v29) 30 v30) 31 v31) 32 v32) 11 (.int .i64 0)) 33 v33) 34 v34) 35 v35) 36 v36) 37 v37) 38 v38) 39 v39) 40 v40) 41 v41) 42 v42) 12 v42) 43 v42) 44 v44) 45 v44) 46 v46) 48 v48) 50 v50) 51 v51) 52 v52) 53 v53) 47 v47) 49 v49) 54 v54) 55 v55) w)))))))))))) w.drew) w.drew))))))))) w.drew)
theorem F128_0_eq (d0:Value) (name1:Value) (at2:Value) (data3:Value) (w:World) (k:KV) : F128A k [] (argEnv [d0,name1,at2,data3]) w = F128_0 d0 name1 at2 data3 w k := by kernel_rfl
def F128_1 (k:KV) (ρ:Env) (w:World) : Prop :=
 px prog (Instr.makeFunc (Fn.func 171) #[] #[(ρ 9),(ρ 6),(ρ 7)]) w fun v58 w =>
 pFn prog 123 [(ρ 0),(.int .i64 1),(ρ 11),v58] w fun v59 w =>
 k v59 w
theorem F128_1_eq (k:KV) (ρ:Env) (w:World) : F128A k [1,1,1,1,1,1] ρ w = F128_1 k ρ w := by kernel_rfl
theorem F128_in (d0:Value) (name1:Value) (at2:Value) (data3:Value) (w:World) (k:KV) (h:F128_0 d0 name1 at2 data3 w k) : pFn prog 128 [d0,name1,at2,data3] w k :=
 pFn_of_at mixed func128 (by kernel_rfl) (by kernel_rfl) ntmps128 (by kernel_rfl) (by kernel_rfl) (by simp) ((F128_0_eq d0 name1 at2 data3 w k).mpr h)
noncomputable def F151B : Code := bodyOf f151
def F151A (k:KV) (q:List Nat) (ρ:Env) (w:World) : Prop := At prog 25 F151B (retQ prog f151.results.toList k) q ρ w
noncomputable def F151B1 : Code := sub F151B [1,1,1,0,1,0,0]
def F151Q1 (k:KV) (N1:KE) : Xt → KE := thenE N1 (contAt prog 25 F151B (retQ prog f151.results.toList k) [1,1,1,0,1,0])
def F151A1 (k:KV) (N1:KE) (q:List Nat) (ρ:Env) (w:World) : Prop := At prog 25 F151B1 (F151Q1 k N1) q ρ w
def F151L1 (k:KV) (ρ:Env) (w:World) : Prop := LoopAt prog 25 F151B (retQ prog f151.results.toList k) [1,1,1,0,1,0] ρ w
theorem F151L1_inv (k:KV) (I:Nat → KE) (round:∀ m ρ w,I m ρ w → F151A1 k (fun ρ' w' => ∃ m',m' < m ∧ I m' ρ' w') [] ρ w) {m:Nat} {ρ:Env} {w:World} (h:I m ρ w) : F151L1 k ρ w :=
 LoopAt_inv mixed (B := F151B) (Q := (retQ prog f151.results.toList k)) (p := [1,1,1,0,1,0]) (by kernel_rfl) (by kernel_rfl) I round h
def F151_0 (d0:Value) (w:World) (k:KV) : Prop :=
 pFn prog 78 [d0] w fun v7 w =>
 pC v7 (
 k (.int .i64 0) w)
 (
 px prog (nilSem d0) w fun v9 w =>
 px prog (fieldAt 88 v9 1) w fun v10 w =>
 px prog (loadAt 82 v10) w fun v11 w =>
 px prog (Instr.range 82 v11) w fun v12 w =>
 F151L1 k (put (put (put (put (put (put (put (put (put (argEnv [d0]) 2 (.int .i64 0)) 6 d0) 7 v7) 3 (.int .i64 0)) 8 d0) 9 v9) 10 v10) 11 v11) 12 v12) w)
theorem F151_0_eq (d0:Value) (w:World) (k:KV) : F151A k [] (argEnv [d0]) w = F151_0 d0 w k := by kernel_rfl
def F151_1 (k:KV) (N1:KE) (ρ:Env) (w:World) : Prop :=
 px prog (Instr.next (ρ 12) false 0) w fun v13 w =>
 px prog (extract v13 0) w fun v14 w =>
 pC v14 (
 px prog (Instr.entry (ρ 12)) w fun v15 w =>
 px prog (extract v15 1) w fun v16 w =>
 px prog (nilSem v16) w fun v19 w =>
 px prog (fieldAt 131 v19 1) w fun v20 w =>
 px prog (loadAt 23 v20) w fun v21 w =>
 px prog (bSem .len #[23] 3 #[v21]) w fun v22 w =>
 px prog (binSem .add 3 (.tmp 17) (.tmp 22) (ρ 3) v22) w fun v23 w =>
 N1 (put (put (put (put (put (put (put (put (put (put (put (put (put ρ 13 v13) 14 v14) 15 v15) 16 v16) 5 v16) 17 (ρ 3)) 18 v16) 19 v19) 20 v20) 21 v21) 22 v22) 23 v23) 3 v23) w)
 (
 F151A k [1,1,1,1] (put (put ρ 13 v13) 14 v14) w)
theorem F151_1_eq (k:KV) (N1:KE) (ρ:Env) (w:World) : F151A1 k N1 [] ρ w = F151_1 k N1 ρ w := by kernel_rfl
def F151_2 (k:KV) (ρ:Env) (w:World) : Prop :=
 k (ρ 3) w
theorem F151_2_eq (k:KV) (ρ:Env) (w:World) : F151A k [1,1,1,1] ρ w = F151_2 k ρ w := by kernel_rfl
theorem F151_in (d0:Value) (w:World) (k:KV) (h:F151_0 d0 w k) : pFn prog 151 [d0] w k :=
 pFn_of_at mixed func151 (by kernel_rfl) (by kernel_rfl) ntmps151 (by kernel_rfl) (by kernel_rfl) (by simp) ((F151_0_eq d0 w k).mpr h)
noncomputable def F17B : Code := bodyOf f17
def F17A (k:KV) (q:List Nat) (ρ:Env) (w:World) : Prop := At prog 15 F17B (retQ prog f17.results.toList k) q ρ w
def F17_0 (room0:Value) (w:World) (k:KV) : Prop :=
 px prog (binSem .lss 3 (.tmp 4) (.const (.int .i64 1)) room0 (.int .i64 1)) w fun v5 w =>
 pG v5 false (fun k => k room0 w) (w := w) (next := fun v7 w =>
 pG v5 false (fun k => px prog (binSem .gtr 3 (.tmp 7) (.const (.int .i64 1048576)) v7 (.int .i64 1048576)) w k) (w := w) (next := fun v8 w =>
 px prog (pickSem v5 (.bool true) v8) w fun v9 w =>
 pC v9 (
 k (.tuple #[(.pointer none),(.int .i64 1)]) w)
 (
 px prog (Instr.makeMap 82 none) w fun v11 w =>
 px prog (Instr.makeMap 82 none) w fun v12 w =>
 px prog (Instr.build 88 #[(0,room0),(1,v11),(2,v12)]) w fun v13 w =>
 px prog (Instr.box 88 v13) w fun v14 w =>
 k (.tuple #[v14,(.int .i64 0)]) w)))
theorem F17_0_eq (room0:Value) (w:World) (k:KV) : F17A k [] (argEnv [room0]) w = F17_0 room0 w k := by kernel_rfl
theorem F17_in (room0:Value) (w:World) (k:KV) (h:F17_0 room0 w k) : pFn prog 17 [room0] w k :=
 pFn_of_at mixed func17 (by kernel_rfl) (by kernel_rfl) ntmps17 (by kernel_rfl) (by kernel_rfl) (by simp) ((F17_0_eq room0 w k).mpr h)
noncomputable def F93B : Code := bodyOf f93
def F93A (k:KV) (q:List Nat) (ρ:Env) (w:World) : Prop := At prog 73 F93B (retQ prog f93.results.toList k) q ρ w
noncomputable def F93B1 : Code := sub F93B [1,1,1,0,1,0,0]
def F93Q1 (k:KV) (N1:KE) : Xt → KE := thenE N1 (contAt prog 73 F93B (retQ prog f93.results.toList k) [1,1,1,0,1,0])
def F93A1 (k:KV) (N1:KE) (q:List Nat) (ρ:Env) (w:World) : Prop := At prog 73 F93B1 (F93Q1 k N1) q ρ w
def F93L1 (k:KV) (ρ:Env) (w:World) : Prop := LoopAt prog 73 F93B (retQ prog f93.results.toList k) [1,1,1,0,1,0] ρ w
theorem F93L1_inv (k:KV) (I:Nat → KE) (round:∀ m ρ w,I m ρ w → F93A1 k (fun ρ' w' => ∃ m',m' < m ∧ I m' ρ' w') [] ρ w) {m:Nat} {ρ:Env} {w:World} (h:I m ρ w) : F93L1 k ρ w :=
 LoopAt_inv mixed (B := F93B) (Q := (retQ prog f93.results.toList k)) (p := [1,1,1,0,1,0]) (by kernel_rfl) (by kernel_rfl) I round h
def F93_0 (room0:Value) (files1:Value) (w:World) (k:KV) : Prop :=
 pFn prog 17 [room0] w fun v14 w =>
 px prog (extract v14 0) w fun v15 w =>
 px prog (extract v14 1) w fun v16 w =>
 px prog (binSem .neq 25 (.tmp 18) (.const (.int .i64 0)) v16 (.int .i64 0)) w fun v19 w =>
 pC v19 (
 k (.tuple #[(.pointer none),v16]) w)
 (
 px prog (bSem .len #[36] 3 #[files1]) w fun v23 w =>
 px prog (binSem .gtr 3 (.tmp 23) (.const (.int .i64 256)) v23 (.int .i64 256)) w fun v24 w =>
 pC v24 (
 k (.tuple #[(.pointer none),(.int .i64 56)]) w)
 (
 pFn prog 149 [files1,(.func (.func 150) #[] #[])] w fun v27 w =>
 pC v27 (
 k (.tuple #[(.pointer none),(.int .i64 51)]) w)
 (
 px prog (bSem .len #[36] 3 #[files1]) w fun v29 w =>
 F93L1 k (put (put (put (put (put (put (put (put (put (put (put (put (put (put (put (put (put (put (put (put (put (put (argEnv [room0,files1]) 4 (.pointer none)) 5 (.int .i64 0)) 13 room0) 14 v14) 12 v14) 15 v15) 16 v16) 6 v15) 7 v16) 18 v16) 19 v19) 17 v19) 22 files1) 23 v23) 24 v24) 21 v24) 26 files1) 27 v27) 25 v27) 28 files1) 29 v29) 30 (.int .i64 0)) w)))
theorem F93_0_eq (room0:Value) (files1:Value) (w:World) (k:KV) : F93A k [] (argEnv [room0,files1]) w = F93_0 room0 files1 w k := by kernel_rfl
def F93_1 (k:KV) (N1:KE) (ρ:Env) (w:World) : Prop :=
 px prog (binSem .lss 3 (.tmp 30) (.tmp 29) (ρ 30) (ρ 29)) w fun v31 w =>
 pC v31 (
 px prog (indexAt 36 (ρ 28) (ρ 30)) w fun v32 w =>
 px prog (loadAt 107 v32) w fun v33 w =>
 px prog (Instr.alloc 107 true (.tuple #[])) w fun v9 w =>
 pu prog (storeAt 107 v9 v33) w fun w =>
 ∃ S : World → Prop,S w.drew ∧ (fun w =>
 pq prog S (nilSem (ρ 6)) fun v35 =>
 pq prog S (fieldAt 88 v35 1) fun v36 =>
 pq prog S (loadAt 82 v36) fun v37 =>
 pq prog S (fieldAt 107 v9 0) fun v38 =>
 pq prog S (loadAt 9 v38) fun v39 =>
 pq prog S (Instr.lookup 82 v37 v39 false) fun v40 =>
 pq prog S (binSem .neq 132 (.tmp 40) (.const (.pointer none)) v40 (.pointer none)) fun v41 =>
 pC v41 (
 k (.tuple #[(.pointer none),(.int .i64 52)]) w)
 (
 px prog (fieldAt 107 v9 1) w fun v42 w =>
 px prog (loadAt 23 v42) w fun v43 w =>
 pFn prog 80 [v43] w fun v44 w =>
 px prog (Instr.build 131 #[(0,v44),(1,v44)]) w fun v47 w =>
 px prog (Instr.box 131 v47) w fun v48 w =>
 ∃ S : World → Prop,S w.drew ∧ (fun w =>
 pq prog S (nilSem (ρ 6)) fun v50 =>
 pq prog S (fieldAt 88 v50 1) fun v51 =>
 pq prog S (loadAt 82 v51) fun v52 =>
 pq prog S (fieldAt 107 v9 0) fun v53 =>
 pq prog S (loadAt 9 v53) fun v54 =>
 pq prog S (nilSem (ρ 6)) fun v56 =>
 pq prog S (fieldAt 88 v56 2) fun v57 =>
 pq prog S (loadAt 82 v57) fun v58 =>
 pq prog S (fieldAt 107 v9 0) fun v59 =>
 pq prog S (loadAt 9 v59) fun v60 =>
 px prog (Instr.mapEntry 82 v52 v54) w fun v63 w => S w ∧ (
 pq prog S (extract v63 1) fun v64 =>
 pu prog (Instr.entryStore 82 v52 v64 v48) w fun w => S w ∧ (
 px prog (Instr.mapEntry 82 v58 v60) w fun v65 w => S w ∧ (
 pq prog S (extract v65 1) fun v66 =>
 pu prog (Instr.entryStore 82 v58 v66 v48) w fun w => (
 px prog (binSem .add 3 (.tmp 30) (.const (.int .i64 1)) (ρ 30) (.int .i64 1)) w fun v67 w =>
 N1 (put (put (put (put (put (put (put (put (put (put (put (put (put (put (put (put (put (put (put (put (put (put (put (put (put (put (put (put (put (put (put (put (put (put (put (put (put (put (put (put (put ρ 31 v31) 32 v32) 33 v33) 9 v9) 34 (ρ 6)) 35 v35) 36 v36) 37 v37) 38 v38) 39 v39) 40 v40) 41 v41) 42 v42) 43 v43) 44 v44) 10 v44) 45 v44) 46 v44) 47 v47) 48 v48) 11 v48) 49 (ρ 6)) 50 v50) 51 v51) 52 v52) 53 v53) 54 v54) 55 (ρ 6)) 56 v56) 57 v57) 58 v58) 59 v59) 60 v60) 61 v48) 62 v48) 63 v63) 64 v64) 65 v65) 66 v66) 67 v67) 30 v67) w))))) w.drew)) w.drew)
 (
 F93A k [1,1,1,1] (put ρ 31 v31) w)
theorem F93_1_eq (k:KV) (N1:KE) (ρ:Env) (w:World) : F93A1 k N1 [] ρ w = F93_1 k N1 ρ w := by kernel_rfl
def F93_2 (k:KV) (ρ:Env) (w:World) : Prop :=
 pFn prog 151 [(ρ 6)] w fun v69 w =>
 px prog (binSem .gtr 3 (.tmp 69) (.tmp 70) v69 (ρ 0)) w fun v71 w =>
 pC v71 (
 k (.tuple #[(.pointer none),(.int .i64 55)]) w)
 (
 k (.tuple #[(ρ 6),(.int .i64 0)]) w)
theorem F93_2_eq (k:KV) (ρ:Env) (w:World) : F93A k [1,1,1,1] ρ w = F93_2 k ρ w := by kernel_rfl
theorem F93_in (room0:Value) (files1:Value) (w:World) (k:KV) (h:F93_0 room0 files1 w k) : pFn prog 93 [room0,files1] w k :=
 pFn_of_at mixed func93 (by kernel_rfl) (by kernel_rfl) ntmps93 (by kernel_rfl) (by kernel_rfl) (by simp) ((F93_0_eq room0 files1 w k).mpr h)
end Go.Proofs.YteeeggphkhimcaaGreatDoor
