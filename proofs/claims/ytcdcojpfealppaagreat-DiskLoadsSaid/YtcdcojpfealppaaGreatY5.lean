/- Put together by a program (wip/tools/shake.py): R1. -/
import Derived.Test.YtcdcojpfealppaaGreatY1
import Derived.Test.YtcdcojpfealppaaGreatProg
import Derived.Test.YtcdcojpfealppaaGreatMix
set_option linter.unusedVariables false
set_option maxRecDepth 100000
namespace Go.Proofs.YtcdcojpfealppaaGreat
open Go Go.Proofs Go.Proofs.XRed Tryz
open Go.Instr (fieldAt loadAt storeAt indexAt sliceAt extract)
noncomputable def F21B : Code := bodyOf f21
def F21A (k:KV) (q:List Nat) (ρ:Env) (w:World) : Prop := At prog 30 F21B (retQ prog f21.results.toList k) q ρ w
def F21_0 (d0:Value) (name1:Value) (w:World) (k:KV) : Prop :=
 px prog (Instr.box 29 d0) w fun v2 w =>
 px prog (Instr.box 9 name1) w fun v3 w =>
 px prog (loadAt 29 v2) w fun v9 w =>
 px prog (loadAt 9 v3) w fun v10 w =>
 pFn prog 78 [v9,v10] w fun v11 w =>
 px prog (extract v11 0) w fun v12 w =>
 px prog (extract v11 1) w fun v13 w =>
 px prog (binSem .eql 43 (.tmp 14) (.const (.int .i64 0)) v13 (.int .i64 0)) w fun v17 w =>
 pC v17 (
 k (.int .i64 52) w)
 (
 px prog (binSem .eql 43 (.tmp 14) (.const (.int .i64 53)) v13 (.int .i64 53)) w fun v19 w =>
 pC v19 (
 px prog (loadAt 29 v2) w fun v20 w =>
 px prog (nilSem v20) w fun v21 w =>
 px prog (fieldAt 58 v21 1) w fun v22 w =>
 px prog (loadAt 54 v22) w fun v23 w =>
 px prog (bSem .len #[54] 3 #[v23]) w fun v24 w =>
 px prog (binSem .geq 3 (.tmp 24) (.const (.int .i64 256)) v24 (.int .i64 256)) w fun v25 w =>
 pC v25 (
 F21A k [1,1,1,1] (put (put (put (put (put (put (put (put (put (put (put (put (put (put (put (put (put (put (put (put (put (put (put (put (argEnv [d0,name1]) 2 v2) 3 v3) 4 (.int .i64 0)) 9 v9) 10 v10) 11 v11) 8 v11) 12 v12) 13 v13) 5 v12) 6 v13) 14 v13) 17 v17) 16 v17) 19 v19) 18 v19) 7 (.int .i64 0)) 20 v20) 21 v21) 22 v22) 23 v23) 24 v24) 25 v25) 7 (.int .i64 56)) w)
 (
 F21A k [1,1,1,1] (put (put (put (put (put (put (put (put (put (put (put (put (put (put (put (put (put (put (put (put (put (put (put (argEnv [d0,name1]) 2 v2) 3 v3) 4 (.int .i64 0)) 9 v9) 10 v10) 11 v11) 8 v11) 12 v12) 13 v13) 5 v12) 6 v13) 14 v13) 17 v17) 16 v17) 19 v19) 18 v19) 7 (.int .i64 0)) 20 v20) 21 v21) 22 v22) 23 v23) 24 v24) 25 v25) w))
 (
 k v13 w))
theorem F21_0_eq (d0:Value) (name1:Value) (w:World) (k:KV) : F21A k [] (argEnv [d0,name1]) w = F21_0 d0 name1 w k := by kernel_rfl
def F21_1 (k:KV) (ρ:Env) (w:World) : Prop :=
 px prog (loadAt 29 (ρ 2)) w fun v26 w =>
 px prog (Instr.makeFunc (Fn.func 80) #[] #[(ρ 2),(ρ 3)]) w fun v28 w =>
 pFn prog 79 [v26,(.int .i64 1),(ρ 7),v28] w fun v29 w =>
 k v29 w
theorem F21_1_eq (k:KV) (ρ:Env) (w:World) : F21A k [1,1,1,1] ρ w = F21_1 k ρ w := by kernel_rfl
theorem F21_in (d0:Value) (name1:Value) (w:World) (k:KV) (h:F21_0 d0 name1 w k) : pFn prog 21 [d0,name1] w k :=
 pFn_of_at mixed func21 (by kernel_rfl) (by kernel_rfl) ntmps21 (by kernel_rfl) (by kernel_rfl) (by simp) ((F21_0_eq d0 name1 w k).mpr h)
noncomputable def F22B : Code := bodyOf f22
def F22A (k:KV) (q:List Nat) (ρ:Env) (w:World) : Prop := At prog 14 F22B (retQ prog f22.results.toList k) q ρ w
def F22_0 (d0:Value) (p1:Value) (w:World) (k:KV) : Prop :=
 px prog (Instr.box 38 p1) w fun v3 w =>
 pFn prog 26 [d0] w fun v5 w =>
 px prog (Op.unary .not v5) w fun v6 w =>
 pC v6 (
 px prog (loadAt 38 v3) w fun v9 w =>
 px prog (nilSem d0) w fun v10 w =>
 px prog (fieldAt 58 v10 5) w fun v11 w =>
 pu prog (storeAt 38 v11 v9) w fun w =>
 px prog (nilSem d0) w fun v12 w =>
 px prog (fieldAt 58 v12 6) w fun v13 w =>
 pu prog (storeAt 3 v13 (.int .i64 0)) w fun w =>
 k (.tuple #[]) w)
 (
 k (.tuple #[]) w)
theorem F22_0_eq (d0:Value) (p1:Value) (w:World) (k:KV) : F22A k [] (argEnv [d0,p1]) w = F22_0 d0 p1 w k := by kernel_rfl
theorem F22_in (d0:Value) (p1:Value) (w:World) (k:KV) (h:F22_0 d0 p1 w k) : pFn prog 22 [d0,p1] w k :=
 pFn_of_at mixed func22 (by kernel_rfl) (by kernel_rfl) ntmps22 (by kernel_rfl) (by kernel_rfl) (by simp) ((F22_0_eq d0 p1 w k).mpr h)
noncomputable def F23B : Code := bodyOf f23
def F23A (k:KV) (q:List Nat) (ρ:Env) (w:World) : Prop := At prog 27 F23B (retQ prog f23.results.toList k) q ρ w
def F23_0 (d0:Value) (name1:Value) (data2:Value) (w:World) (k:KV) : Prop :=
 pFn prog 78 [d0,name1] w fun v12 w =>
 px prog (extract v12 0) w fun v13 w =>
 px prog (extract v12 1) w fun v14 w =>
 px prog (binSem .neq 43 (.tmp 15) (.const (.int .i64 0)) v14 (.int .i64 0)) w fun v16 w =>
 pC v16 (
 k v14 w)
 (
 px prog (nilSem v13) w fun v21 w =>
 px prog (fieldAt 124 v21 1) w fun v22 w =>
 px prog (loadAt 36 v22) w fun v23 w =>
 px prog (bSem .len #[36] 3 #[v23]) w fun v24 w =>
 pFn prog 62 [d0,name1,v24,data2] w fun v26 w =>
 k v26 w)
theorem F23_0_eq (d0:Value) (name1:Value) (data2:Value) (w:World) (k:KV) : F23A k [] (argEnv [d0,name1,data2]) w = F23_0 d0 name1 data2 w k := by kernel_rfl
theorem F23_in (d0:Value) (name1:Value) (data2:Value) (w:World) (k:KV) (h:F23_0 d0 name1 data2 w k) : pFn prog 23 [d0,name1,data2] w k :=
 pFn_of_at mixed func23 (by kernel_rfl) (by kernel_rfl) ntmps23 (by kernel_rfl) (by kernel_rfl) (by simp) ((F23_0_eq d0 name1 data2 w k).mpr h)
noncomputable def F24B : Code := bodyOf f24
def F24A (k:KV) (q:List Nat) (ρ:Env) (w:World) : Prop := At prog 94 F24B (retQ prog f24.results.toList k) q ρ w
noncomputable def F24B1 : Code := sub F24B [1,1,1,1,1,1,0,1,0,0]
def F24Q1 (k:KV) (N1:KE) : Xt → KE := thenE N1 (contAt prog 94 F24B (retQ prog f24.results.toList k) [1,1,1,1,1,1,0,1,0])
def F24A1 (k:KV) (N1:KE) (q:List Nat) (ρ:Env) (w:World) : Prop := At prog 94 F24B1 (F24Q1 k N1) q ρ w
def F24L1 (k:KV) (ρ:Env) (w:World) : Prop := LoopAt prog 94 F24B (retQ prog f24.results.toList k) [1,1,1,1,1,1,0,1,0] ρ w
theorem F24L1_inv (k:KV) (I:Nat → KE) (round:∀ m ρ w,I m ρ w → F24A1 k (fun ρ' w' => ∃ m',m' < m ∧ I m' ρ' w') [] ρ w) {m:Nat} {ρ:Env} {w:World} (h:I m ρ w) : F24L1 k ρ w :=
 LoopAt_inv mixed (B := F24B) (Q := (retQ prog f24.results.toList k)) (p := [1,1,1,1,1,1,0,1,0]) (by kernel_rfl) (by kernel_rfl) I round h
noncomputable def F24B2 : Code := sub F24B [1,1,1,1,1,1,1,0,1,0,0]
def F24Q2 (k:KV) (N2:KE) : Xt → KE := thenE N2 (contAt prog 94 F24B (retQ prog f24.results.toList k) [1,1,1,1,1,1,1,0,1,0])
def F24A2 (k:KV) (N2:KE) (q:List Nat) (ρ:Env) (w:World) : Prop := At prog 94 F24B2 (F24Q2 k N2) q ρ w
def F24L2 (k:KV) (ρ:Env) (w:World) : Prop := LoopAt prog 94 F24B (retQ prog f24.results.toList k) [1,1,1,1,1,1,1,0,1,0] ρ w
theorem F24L2_inv (k:KV) (I:Nat → KE) (round:∀ m ρ w,I m ρ w → F24A2 k (fun ρ' w' => ∃ m',m' < m ∧ I m' ρ' w') [] ρ w) {m:Nat} {ρ:Env} {w:World} (h:I m ρ w) : F24L2 k ρ w :=
 LoopAt_inv mixed (B := F24B) (Q := (retQ prog f24.results.toList k)) (p := [1,1,1,1,1,1,1,0,1,0]) (by kernel_rfl) (by kernel_rfl) I round h
noncomputable def F24B3 : Code := sub F24B [1,1,1,1,1,1,1,1,0,1,0,0]
def F24Q3 (k:KV) (N3:KE) : Xt → KE := thenE N3 (contAt prog 94 F24B (retQ prog f24.results.toList k) [1,1,1,1,1,1,1,1,0,1,0])
def F24A3 (k:KV) (N3:KE) (q:List Nat) (ρ:Env) (w:World) : Prop := At prog 94 F24B3 (F24Q3 k N3) q ρ w
def F24L3 (k:KV) (ρ:Env) (w:World) : Prop := LoopAt prog 94 F24B (retQ prog f24.results.toList k) [1,1,1,1,1,1,1,1,0,1,0] ρ w
theorem F24L3_inv (k:KV) (I:Nat → KE) (round:∀ m ρ w,I m ρ w → F24A3 k (fun ρ' w' => ∃ m',m' < m ∧ I m' ρ' w') [] ρ w) {m:Nat} {ρ:Env} {w:World} (h:I m ρ w) : F24L3 k ρ w :=
 LoopAt_inv mixed (B := F24B) (Q := (retQ prog f24.results.toList k)) (p := [1,1,1,1,1,1,1,1,0,1,0]) (by kernel_rfl) (by kernel_rfl) I round h
def F24_0 (d0:Value) (w:World) (k:KV) : Prop :=
 pFn prog 82 [d0] w fun v15 w =>
 pC v15 (
 px prog (Instr.build 58 #[]) w fun v16 w =>
 px prog (Instr.box 58 v16) w fun v17 w =>
 k v17 w)
 (
 px prog (Instr.makeMap 127 none) w fun v18 w =>
 px prog (Instr.alloc 127 true (.tuple #[])) w fun v3 w =>
 pu prog (storeAt 127 v3 v18) w fun w =>
 px prog (Instr.makeFunc (Fn.func 83) #[] #[v3]) w fun v19 w =>
 px prog (nilSem d0) w fun v21 w =>
 px prog (loadAt 58 v21) w fun v22 w =>
 px prog (Instr.alloc 58 true (.tuple #[])) w fun v5 w =>
 pu prog (storeAt 58 v5 v22) w fun w =>
 px prog (Instr.makeMap 54 none) w fun v23 w =>
 px prog (Instr.makeMap 54 none) w fun v24 w =>
 px prog (nilSem d0) w fun v26 w =>
 px prog (fieldAt 58 v26 8) w fun v27 w =>
 px prog (loadAt 56 v27) w fun v28 w =>
 pFn prog 85 [v28] w fun v29 w =>
 px prog (fieldAt 58 v5 1) w fun v30 w =>
 pu prog (storeAt 54 v30 v23) w fun w =>
 px prog (fieldAt 58 v5 2) w fun v31 w =>
 pu prog (storeAt 54 v31 v24) w fun w =>
 px prog (fieldAt 58 v5 3) w fun v32 w =>
 pu prog (storeAt 55 v32 (.slice none 0 0)) w fun w =>
 px prog (fieldAt 58 v5 8) w fun v33 w =>
 pu prog (storeAt 56 v33 v29) w fun w =>
 px prog (nilSem d0) w fun v35 w =>
 px prog (fieldAt 58 v35 1) w fun v36 w =>
 px prog (loadAt 54 v36) w fun v37 w =>
 px prog (Instr.range 54 v37) w fun v38 w =>
 F24L1 k (put (put (put (put (put (put (put (put (put (put (put (put (put (put (put (put (put (put (put (put (put (put (put (put (put (put (put (argEnv [d0]) 2 (.pointer none)) 14 d0) 15 v15) 18 v18) 3 v3) 19 v19) 4 v19) 20 d0) 21 v21) 22 v22) 5 v5) 23 v23) 24 v24) 25 d0) 26 v26) 27 v27) 28 v28) 29 v29) 30 v30) 31 v31) 32 v32) 33 v33) 34 d0) 35 v35) 36 v36) 37 v37) 38 v38) w)
theorem F24_0_eq (d0:Value) (w:World) (k:KV) : F24A k [] (argEnv [d0]) w = F24_0 d0 w k := by kernel_rfl
def F24_1 (k:KV) (N1:KE) (ρ:Env) (w:World) : Prop :=
 px prog (Instr.next (ρ 38) false 0) w fun v39 w =>
 px prog (extract v39 0) w fun v40 w =>
 pC v40 (
 px prog (Instr.entry (ρ 38)) w fun v41 w =>
 px prog (extract v41 0) w fun v42 w =>
 px prog (extract v41 1) w fun v43 w =>
 ∃ S : World → Prop,S w.drew ∧ (fun w =>
 pq prog S (fieldAt 58 (ρ 5) 1) fun v44 =>
 pq prog S (loadAt 54 v44) fun v45 =>
 pVal prog (ρ 4) [v43] w fun v49 w => S w ∧ (
 pu prog (Instr.mapUpdate 54 v45 v42 v49) w fun w => (
 N1 (put (put (put (put (put (put (put (put (put (put (put (put (put ρ 39 v39) 40 v40) 41 v41) 42 v42) 43 v43) 6 v42) 7 v43) 44 v44) 45 v45) 46 v42) 47 (ρ 4)) 48 v43) 49 v49) w))) w.drew)
 (
 F24A k [1,1,1,1,1,1,1] (put (put ρ 39 v39) 40 v40) w)
theorem F24_1_eq (k:KV) (N1:KE) (ρ:Env) (w:World) : F24A1 k N1 [] ρ w = F24_1 k N1 ρ w := by kernel_rfl
def F24_2 (k:KV) (ρ:Env) (w:World) : Prop :=
 px prog (nilSem (ρ 0)) w fun v51 w =>
 px prog (fieldAt 58 v51 2) w fun v52 w =>
 px prog (loadAt 54 v52) w fun v53 w =>
 px prog (Instr.range 54 v53) w fun v54 w =>
 F24L2 k (put (put (put (put (put ρ 50 (ρ 0)) 51 v51) 52 v52) 53 v53) 54 v54) w
theorem F24_2_eq (k:KV) (ρ:Env) (w:World) : F24A k [1,1,1,1,1,1,1] ρ w = F24_2 k ρ w := by kernel_rfl
def F24_3 (k:KV) (N2:KE) (ρ:Env) (w:World) : Prop :=
 px prog (Instr.next (ρ 54) false 0) w fun v55 w =>
 px prog (extract v55 0) w fun v56 w =>
 pC v56 (
 px prog (Instr.entry (ρ 54)) w fun v57 w =>
 px prog (extract v57 0) w fun v58 w =>
 px prog (extract v57 1) w fun v59 w =>
 ∃ S : World → Prop,S w.drew ∧ (fun w =>
 pq prog S (fieldAt 58 (ρ 5) 2) fun v60 =>
 pq prog S (loadAt 54 v60) fun v61 =>
 pVal prog (ρ 4) [v59] w fun v65 w => S w ∧ (
 pu prog (Instr.mapUpdate 54 v61 v58 v65) w fun w => (
 N2 (put (put (put (put (put (put (put (put (put (put (put (put (put ρ 55 v55) 56 v56) 57 v57) 58 v58) 59 v59) 8 v58) 9 v59) 60 v60) 61 v61) 62 v58) 63 (ρ 4)) 64 v59) 65 v65) w))) w.drew)
 (
 F24A k [1,1,1,1,1,1,1,1] (put (put ρ 55 v55) 56 v56) w)
theorem F24_3_eq (k:KV) (N2:KE) (ρ:Env) (w:World) : F24A2 k N2 [] ρ w = F24_3 k N2 ρ w := by kernel_rfl
def F24_4 (k:KV) (ρ:Env) (w:World) : Prop :=
 px prog (nilSem (ρ 0)) w fun v67 w =>
 px prog (fieldAt 58 v67 3) w fun v68 w =>
 px prog (loadAt 55 v68) w fun v69 w =>
 px prog (bSem .len #[55] 3 #[v69]) w fun v70 w =>
 F24L3 k (put (put (put (put (put (put ρ 66 (ρ 0)) 67 v67) 68 v68) 69 v69) 70 v70) 71 (.int .i64 0)) w
theorem F24_4_eq (k:KV) (ρ:Env) (w:World) : F24A k [1,1,1,1,1,1,1,1] ρ w = F24_4 k ρ w := by kernel_rfl
def F24_5 (k:KV) (N3:KE) (ρ:Env) (w:World) : Prop :=
 px prog (binSem .lss 3 (.tmp 71) (.tmp 70) (ρ 71) (ρ 70)) w fun v72 w =>
 pC v72 (
 px prog (indexAt 55 (ρ 69) (ρ 71)) w fun v73 w =>
 px prog (loadAt 136 v73) w fun v74 w =>
 px prog (Instr.typeAssert v74 136 126 true) w fun v77 w =>
 px prog (extract v77 0) w fun v78 w =>
 px prog (extract v77 1) w fun v79 w =>
 px prog (Instr.alloc 126 true (.tuple #[])) w fun v12 w =>
 pu prog (storeAt 126 v12 v78) w fun w =>
 pC v79 (
 px prog (fieldAt 126 v12 1) w fun v82 w =>
 px prog (loadAt 117 v82) w fun v83 w =>
 pVal prog (ρ 4) [v83] w fun v84 w =>
 F24A3 k N3 [1,1,0,0,1,1] (put (put (put (put (put (put (put (put (put (put (put (put (put (put (put (put ρ 72 v72) 73 v73) 74 v74) 11 v74) 76 v74) 77 v77) 75 v77) 78 v78) 79 v79) 12 v12) 13 v79) 80 v79) 81 (ρ 4)) 82 v82) 83 v83) 84 v84) w)
 (
 F24A3 k N3 [1,1,0,0,1,1] (put (put (put (put (put (put (put (put (put (put (put (put ρ 72 v72) 73 v73) 74 v74) 11 v74) 76 v74) 77 v77) 75 v77) 78 v78) 79 v79) 12 v12) 13 v79) 80 v79) w))
 (
 F24A k [1,1,1,1,1,1,1,1,1] (put ρ 72 v72) w)
theorem F24_5_eq (k:KV) (N3:KE) (ρ:Env) (w:World) : F24A3 k N3 [] ρ w = F24_5 k N3 ρ w := by kernel_rfl
def F24_6 (k:KV) (N3:KE) (ρ:Env) (w:World) : Prop :=
 ∃ S : World → Prop,S w.drew ∧ (fun w =>
 pq prog S (fieldAt 58 (ρ 5) 3) fun v85 =>
 pq prog S (loadAt 55 v85) fun v86 =>
 pq prog S (loadAt 127 (ρ 3)) fun v88 =>
 pInv prog (ρ 11) "freight/disk.twin" [v88] w fun v89 w => S w ∧ (
 px prog (Instr.buildSlice 55 1 #[(0,v89)]) w fun v90 w => S w ∧ (
 px prog (bSem .append #[55,55] 55 #[v86,v90]) w fun v91 w => S w ∧ (
 pq prog S (fieldAt 58 (ρ 5) 3) fun v92 =>
 pu prog (storeAt 55 v92 v91) w fun w => (
 px prog (binSem .add 3 (.tmp 71) (.const (.int .i64 1)) (ρ 71) (.int .i64 1)) w fun v93 w =>
 N3 (put (put (put (put (put (put (put (put (put (put ρ 85 v85) 86 v86) 87 (ρ 11)) 88 v88) 89 v89) 90 v90) 91 v91) 92 v92) 93 v93) 71 v93) w))))) w.drew
theorem F24_6_eq (k:KV) (N3:KE) (ρ:Env) (w:World) : F24A3 k N3 [1,1,0,0,1,1] ρ w = F24_6 k N3 ρ w := by kernel_rfl
def F24_7 (k:KV) (ρ:Env) (w:World) : Prop :=
 k (ρ 5) w
theorem F24_7_eq (k:KV) (ρ:Env) (w:World) : F24A k [1,1,1,1,1,1,1,1,1] ρ w = F24_7 k ρ w := by kernel_rfl
theorem F24_in (d0:Value) (w:World) (k:KV) (h:F24_0 d0 w k) : pFn prog 24 [d0] w k :=
 pFn_of_at mixed func24 (by kernel_rfl) (by kernel_rfl) ntmps24 (by kernel_rfl) (by kernel_rfl) (by simp) ((F24_0_eq d0 w k).mpr h)
noncomputable def F26B : Code := bodyOf f26
def F26A (k:KV) (q:List Nat) (ρ:Env) (w:World) : Prop := At prog 11 F26B (retQ prog f26.results.toList k) q ρ w
def F26_0 (d0:Value) (w:World) (k:KV) : Prop :=
 pFn prog 82 [d0] w fun v4 w =>
 pG v4 false (fun k => k d0 w) (w := w) (next := fun v6 w =>
 pG v4 false (fun k => px prog (nilSem v6) w k) (w := w) (next := fun v7 w =>
 pG v4 false (fun k => px prog (fieldAt 58 v7 7) w k) (w := w) (next := fun v8 w =>
 pG v4 false (fun k => px prog (loadAt 4 v8) w k) (w := w) (next := fun v9 w =>
 px prog (pickSem v4 (.bool true) v9) w fun v10 w =>
 k v10 w))))
theorem F26_0_eq (d0:Value) (w:World) (k:KV) : F26A k [] (argEnv [d0]) w = F26_0 d0 w k := by kernel_rfl
theorem F26_in (d0:Value) (w:World) (k:KV) (h:F26_0 d0 w k) : pFn prog 26 [d0] w k :=
 pFn_of_at mixed func26 (by kernel_rfl) (by kernel_rfl) ntmps26 (by kernel_rfl) (by kernel_rfl) (by simp) ((F26_0_eq d0 w k).mpr h)
noncomputable def F27B : Code := bodyOf f27
def F27A (k:KV) (q:List Nat) (ρ:Env) (w:World) : Prop := At prog 9 F27B (retQ prog f27.results.toList k) q ρ w
def F27_0 (d0:Value) (w:World) (k:KV) : Prop :=
 pFn prog 82 [d0] w fun v4 w =>
 pC v4 (
 k (.int .i64 0) w)
 (
 px prog (nilSem d0) w fun v6 w =>
 px prog (fieldAt 58 v6 0) w fun v7 w =>
 px prog (loadAt 3 v7) w fun v8 w =>
 k v8 w)
theorem F27_0_eq (d0:Value) (w:World) (k:KV) : F27A k [] (argEnv [d0]) w = F27_0 d0 w k := by kernel_rfl
theorem F27_in (d0:Value) (w:World) (k:KV) (h:F27_0 d0 w k) : pFn prog 27 [d0] w k :=
 pFn_of_at mixed func27 (by kernel_rfl) (by kernel_rfl) ntmps27 (by kernel_rfl) (by kernel_rfl) (by simp) ((F27_0_eq d0 w k).mpr h)
noncomputable def F28B : Code := bodyOf f28
def F28A (k:KV) (q:List Nat) (ρ:Env) (w:World) : Prop := At prog 35 F28B (retQ prog f28.results.toList k) q ρ w
noncomputable def F28B1 : Code := sub F28B [1,1,1,0,1,0,0]
def F28Q1 (k:KV) (N1:KE) : Xt → KE := thenE N1 (contAt prog 35 F28B (retQ prog f28.results.toList k) [1,1,1,0,1,0])
def F28A1 (k:KV) (N1:KE) (q:List Nat) (ρ:Env) (w:World) : Prop := At prog 35 F28B1 (F28Q1 k N1) q ρ w
def F28L1 (k:KV) (ρ:Env) (w:World) : Prop := LoopAt prog 35 F28B (retQ prog f28.results.toList k) [1,1,1,0,1,0] ρ w
theorem F28L1_inv (k:KV) (I:Nat → KE) (round:∀ m ρ w,I m ρ w → F28A1 k (fun ρ' w' => ∃ m',m' < m ∧ I m' ρ' w') [] ρ w) {m:Nat} {ρ:Env} {w:World} (h:I m ρ w) : F28L1 k ρ w :=
 LoopAt_inv mixed (B := F28B) (Q := (retQ prog f28.results.toList k)) (p := [1,1,1,0,1,0]) (by kernel_rfl) (by kernel_rfl) I round h
def F28_0 (d0:Value) (w:World) (k:KV) : Prop :=
 pFn prog 82 [d0] w fun v7 w =>
 pC v7 (
 k (.slice none 0 0) w)
 (
 px prog (nilSem d0) w fun v9 w =>
 px prog (fieldAt 58 v9 1) w fun v10 w =>
 px prog (loadAt 54 v10) w fun v11 w =>
 pFn prog 88 [v11] w fun v12 w =>
 px prog (bSem .len #[73] 3 #[v12]) w fun v13 w =>
 F28L1 k (put (put (put (put (put (put (put (put (put (put (put (argEnv [d0]) 2 (.slice none 0 0)) 6 d0) 7 v7) 3 (.slice none 0 0)) 8 d0) 9 v9) 10 v10) 11 v11) 12 v12) 13 v13) 14 (.int .i64 0)) w)
theorem F28_0_eq (d0:Value) (w:World) (k:KV) : F28A k [] (argEnv [d0]) w = F28_0 d0 w k := by kernel_rfl
def F28_1 (k:KV) (N1:KE) (ρ:Env) (w:World) : Prop :=
 px prog (binSem .lss 3 (.tmp 14) (.tmp 13) (ρ 14) (ρ 13)) w fun v15 w =>
 pC v15 (
 px prog (indexAt 73 (ρ 12) (ρ 14)) w fun v16 w =>
 px prog (loadAt 9 v16) w fun v17 w =>
 px prog (nilSem (ρ 0)) w fun v21 w =>
 px prog (fieldAt 58 v21 1) w fun v22 w =>
 px prog (loadAt 54 v22) w fun v23 w =>
 px prog (Instr.lookup 54 v23 v17 false) w fun v25 w =>
 px prog (nilSem v25) w fun v26 w =>
 px prog (fieldAt 124 v26 1) w fun v27 w =>
 px prog (loadAt 36 v27) w fun v28 w =>
 pFn prog 89 [v28] w fun v29 w =>
 px prog (Instr.build 83 #[(0,v17),(1,v29)]) w fun v30 w =>
 px prog (Instr.buildSlice 71 1 #[(0,v30)]) w fun v31 w =>
 px prog (bSem .append #[71,71] 71 #[(ρ 3),v31]) w fun v32 w =>
 px prog (binSem .add 3 (.tmp 14) (.const (.int .i64 1)) (ρ 14) (.int .i64 1)) w fun v33 w =>
 N1 (put (put (put (put (put (put (put (put (put (put (put (put (put (put (put (put (put (put (put (put (put (put ρ 15 v15) 16 v16) 17 v17) 5 v17) 18 (ρ 3)) 19 v17) 20 (ρ 0)) 21 v21) 22 v22) 23 v23) 24 v17) 25 v25) 26 v26) 27 v27) 28 v28) 29 v29) 30 v30) 31 v31) 32 v32) 3 v32) 33 v33) 14 v33) w)
 (
 F28A k [1,1,1,1] (put ρ 15 v15) w)
theorem F28_1_eq (k:KV) (N1:KE) (ρ:Env) (w:World) : F28A1 k N1 [] ρ w = F28_1 k N1 ρ w := by kernel_rfl
def F28_2 (k:KV) (ρ:Env) (w:World) : Prop :=
 k (ρ 3) w
theorem F28_2_eq (k:KV) (ρ:Env) (w:World) : F28A k [1,1,1,1] ρ w = F28_2 k ρ w := by kernel_rfl
theorem F28_in (d0:Value) (w:World) (k:KV) (h:F28_0 d0 w k) : pFn prog 28 [d0] w k :=
 pFn_of_at mixed func28 (by kernel_rfl) (by kernel_rfl) ntmps28 (by kernel_rfl) (by kernel_rfl) (by simp) ((F28_0_eq d0 w k).mpr h)
noncomputable def F29B : Code := bodyOf f29
def F29A (k:KV) (q:List Nat) (ρ:Env) (w:World) : Prop := At prog 35 F29B (retQ prog f29.results.toList k) q ρ w
noncomputable def F29B1 : Code := sub F29B [1,1,1,0,1,0,0]
def F29Q1 (k:KV) (N1:KE) : Xt → KE := thenE N1 (contAt prog 35 F29B (retQ prog f29.results.toList k) [1,1,1,0,1,0])
def F29A1 (k:KV) (N1:KE) (q:List Nat) (ρ:Env) (w:World) : Prop := At prog 35 F29B1 (F29Q1 k N1) q ρ w
def F29L1 (k:KV) (ρ:Env) (w:World) : Prop := LoopAt prog 35 F29B (retQ prog f29.results.toList k) [1,1,1,0,1,0] ρ w
theorem F29L1_inv (k:KV) (I:Nat → KE) (round:∀ m ρ w,I m ρ w → F29A1 k (fun ρ' w' => ∃ m',m' < m ∧ I m' ρ' w') [] ρ w) {m:Nat} {ρ:Env} {w:World} (h:I m ρ w) : F29L1 k ρ w :=
 LoopAt_inv mixed (B := F29B) (Q := (retQ prog f29.results.toList k)) (p := [1,1,1,0,1,0]) (by kernel_rfl) (by kernel_rfl) I round h
def F29_0 (d0:Value) (w:World) (k:KV) : Prop :=
 pFn prog 82 [d0] w fun v7 w =>
 pC v7 (
 k (.slice none 0 0) w)
 (
 px prog (nilSem d0) w fun v9 w =>
 px prog (fieldAt 58 v9 2) w fun v10 w =>
 px prog (loadAt 54 v10) w fun v11 w =>
 pFn prog 88 [v11] w fun v12 w =>
 px prog (bSem .len #[73] 3 #[v12]) w fun v13 w =>
 F29L1 k (put (put (put (put (put (put (put (put (put (put (put (argEnv [d0]) 2 (.slice none 0 0)) 6 d0) 7 v7) 3 (.slice none 0 0)) 8 d0) 9 v9) 10 v10) 11 v11) 12 v12) 13 v13) 14 (.int .i64 0)) w)
theorem F29_0_eq (d0:Value) (w:World) (k:KV) : F29A k [] (argEnv [d0]) w = F29_0 d0 w k := by kernel_rfl
def F29_1 (k:KV) (N1:KE) (ρ:Env) (w:World) : Prop :=
 px prog (binSem .lss 3 (.tmp 14) (.tmp 13) (ρ 14) (ρ 13)) w fun v15 w =>
 pC v15 (
 px prog (indexAt 73 (ρ 12) (ρ 14)) w fun v16 w =>
 px prog (loadAt 9 v16) w fun v17 w =>
 px prog (nilSem (ρ 0)) w fun v21 w =>
 px prog (fieldAt 58 v21 2) w fun v22 w =>
 px prog (loadAt 54 v22) w fun v23 w =>
 px prog (Instr.lookup 54 v23 v17 false) w fun v25 w =>
 px prog (nilSem v25) w fun v26 w =>
 px prog (fieldAt 124 v26 0) w fun v27 w =>
 px prog (loadAt 36 v27) w fun v28 w =>
 pFn prog 89 [v28] w fun v29 w =>
 px prog (Instr.build 83 #[(0,v17),(1,v29)]) w fun v30 w =>
 px prog (Instr.buildSlice 71 1 #[(0,v30)]) w fun v31 w =>
 px prog (bSem .append #[71,71] 71 #[(ρ 3),v31]) w fun v32 w =>
 px prog (binSem .add 3 (.tmp 14) (.const (.int .i64 1)) (ρ 14) (.int .i64 1)) w fun v33 w =>
 N1 (put (put (put (put (put (put (put (put (put (put (put (put (put (put (put (put (put (put (put (put (put (put ρ 15 v15) 16 v16) 17 v17) 5 v17) 18 (ρ 3)) 19 v17) 20 (ρ 0)) 21 v21) 22 v22) 23 v23) 24 v17) 25 v25) 26 v26) 27 v27) 28 v28) 29 v29) 30 v30) 31 v31) 32 v32) 3 v32) 33 v33) 14 v33) w)
 (
 F29A k [1,1,1,1] (put ρ 15 v15) w)
theorem F29_1_eq (k:KV) (N1:KE) (ρ:Env) (w:World) : F29A1 k N1 [] ρ w = F29_1 k N1 ρ w := by kernel_rfl
def F29_2 (k:KV) (ρ:Env) (w:World) : Prop :=
 k (ρ 3) w
theorem F29_2_eq (k:KV) (ρ:Env) (w:World) : F29A k [1,1,1,1] ρ w = F29_2 k ρ w := by kernel_rfl
theorem F29_in (d0:Value) (w:World) (k:KV) (h:F29_0 d0 w k) : pFn prog 29 [d0] w k :=
 pFn_of_at mixed func29 (by kernel_rfl) (by kernel_rfl) ntmps29 (by kernel_rfl) (by kernel_rfl) (by simp) ((F29_0_eq d0 w k).mpr h)
noncomputable def F30B : Code := bodyOf f30
def F30A (k:KV) (q:List Nat) (ρ:Env) (w:World) : Prop := At prog 14 F30B (retQ prog f30.results.toList k) q ρ w
def F30_0 (d0:Value) (prefix1:Value) (w:World) (k:KV) : Prop :=
 px prog (Instr.box 9 prefix1) w fun v3 w =>
 pFn prog 26 [d0] w fun v6 w =>
 pC v6 (
 k (.slice none 0 0) w)
 (
 px prog (nilSem d0) w fun v8 w =>
 px prog (fieldAt 58 v8 1) w fun v9 w =>
 px prog (loadAt 54 v9) w fun v10 w =>
 pFn prog 88 [v10] w fun v11 w =>
 px prog (Instr.makeFunc (Fn.func 91) #[] #[v3]) w fun v12 w =>
 pFn prog 90 [v11,v12] w fun v13 w =>
 k v13 w)
theorem F30_0_eq (d0:Value) (prefix1:Value) (w:World) (k:KV) : F30A k [] (argEnv [d0,prefix1]) w = F30_0 d0 prefix1 w k := by kernel_rfl
theorem F30_in (d0:Value) (prefix1:Value) (w:World) (k:KV) (h:F30_0 d0 prefix1 w k) : pFn prog 30 [d0,prefix1] w k :=
 pFn_of_at mixed func30 (by kernel_rfl) (by kernel_rfl) ntmps30 (by kernel_rfl) (by kernel_rfl) (by simp) ((F30_0_eq d0 prefix1 w k).mpr h)
noncomputable def F31B : Code := bodyOf f31
def F31A (k:KV) (q:List Nat) (ρ:Env) (w:World) : Prop := At prog 10 F31B (retQ prog f31.results.toList k) q ρ w
def F31_0 (d0:Value) (w:World) (k:KV) : Prop :=
 pFn prog 82 [d0] w fun v4 w =>
 pC v4 (
 k (.slice none 0 0) w)
 (
 px prog (nilSem d0) w fun v6 w =>
 px prog (fieldAt 58 v6 8) w fun v7 w =>
 px prog (loadAt 56 v7) w fun v8 w =>
 pFn prog 85 [v8] w fun v9 w =>
 k v9 w)
theorem F31_0_eq (d0:Value) (w:World) (k:KV) : F31A k [] (argEnv [d0]) w = F31_0 d0 w k := by kernel_rfl
theorem F31_in (d0:Value) (w:World) (k:KV) (h:F31_0 d0 w k) : pFn prog 31 [d0] w k :=
 pFn_of_at mixed func31 (by kernel_rfl) (by kernel_rfl) ntmps31 (by kernel_rfl) (by kernel_rfl) (by simp) ((F31_0_eq d0 w k).mpr h)
noncomputable def F32B : Code := bodyOf f32
def F32A (k:KV) (q:List Nat) (ρ:Env) (w:World) : Prop := At prog 72 F32B (retQ prog f32.results.toList k) q ρ w
def F32_0 (d0:Value) (name1:Value) (at2:Value) (n3:Value) (w:World) (k:KV) : Prop :=
 pFn prog 78 [d0,name1] w fun v15 w =>
 px prog (extract v15 0) w fun v16 w =>
 px prog (extract v15 1) w fun v17 w =>
 px prog (binSem .neq 43 (.tmp 19) (.const (.int .i64 0)) v17 (.int .i64 0)) w fun v20 w =>
 pC v20 (
 k (.tuple #[(.slice none 0 0),v17]) w)
 (
 px prog (binSem .lss 3 (.tmp 23) (.const (.int .i64 0)) at2 (.int .i64 0)) w fun v24 w =>
 pG v24 false (fun k => k n3 w) (w := w) (next := fun v26 w =>
 pG v24 false (fun k => px prog (binSem .lss 3 (.tmp 26) (.const (.int .i64 0)) v26 (.int .i64 0)) w k) (w := w) (next := fun v27 w =>
 px prog (pickSem v24 (.bool true) v27) w fun v28 w =>
 pG v28 false (fun k => k at2 w) (w := w) (next := fun v30 w =>
 pG v28 false (fun k => k v16 w) (w := w) (next := fun v31 w =>
 pG v28 false (fun k => px prog (nilSem v31) w k) (w := w) (next := fun v32 w =>
 pG v28 false (fun k => px prog (fieldAt 124 v32 1) w k) (w := w) (next := fun v33 w =>
 pG v28 false (fun k => px prog (loadAt 36 v33) w k) (w := w) (next := fun v34 w =>
 pG v28 false (fun k => px prog (bSem .len #[36] 3 #[v34]) w k) (w := w) (next := fun v35 w =>
 pG v28 false (fun k => px prog (binSem .gtr 3 (.tmp 30) (.tmp 35) v30 v35) w k) (w := w) (next := fun v36 w =>
 px prog (pickSem v28 (.bool true) v36) w fun v37 w =>
 pG v37 false (fun k => k n3 w) (w := w) (next := fun v39 w =>
 pG v37 false (fun k => k v16 w) (w := w) (next := fun v40 w =>
 pG v37 false (fun k => px prog (nilSem v40) w k) (w := w) (next := fun v41 w =>
 pG v37 false (fun k => px prog (fieldAt 124 v41 1) w k) (w := w) (next := fun v42 w =>
 pG v37 false (fun k => px prog (loadAt 36 v42) w k) (w := w) (next := fun v43 w =>
 pG v37 false (fun k => px prog (bSem .len #[36] 3 #[v43]) w k) (w := w) (next := fun v44 w =>
 pG v37 false (fun k => k at2 w) (w := w) (next := fun v45 w =>
 pG v37 false (fun k => px prog (binSem .sub 3 (.tmp 44) (.tmp 45) v44 v45) w k) (w := w) (next := fun v46 w =>
 pG v37 false (fun k => px prog (binSem .gtr 3 (.tmp 39) (.tmp 46) v39 v46) w k) (w := w) (next := fun v47 w =>
 px prog (pickSem v37 (.bool true) v47) w fun v48 w =>
 pC v48 (
 k (.tuple #[(.slice none 0 0),(.int .i64 54)]) w)
 (
 px prog (nilSem d0) w fun v51 w =>
 px prog (fieldAt 58 v51 8) w fun v52 w =>
 px prog (loadAt 56 v52) w fun v53 w =>
 px prog (Instr.build 134 #[(0,name1),(1,at2),(2,n3)]) w fun v57 w =>
 px prog (Instr.buildSlice 56 1 #[(0,v57)]) w fun v58 w =>
 px prog (bSem .append #[56,56] 56 #[v53,v58]) w fun v59 w =>
 px prog (nilSem d0) w fun v60 w =>
 px prog (fieldAt 58 v60 8) w fun v61 w =>
 pu prog (storeAt 56 v61 v59) w fun w =>
 px prog (nilSem v16) w fun v63 w =>
 px prog (fieldAt 124 v63 1) w fun v64 w =>
 px prog (loadAt 36 v64) w fun v65 w =>
 px prog (binSem .add 3 (.tmp 67) (.tmp 68) at2 n3) w fun v69 w =>
 px prog (sliceAt 36 v65 (some at2) (some v69) none) w fun v70 w =>
 px prog (bSem .append #[36,36] 36 #[(.slice none 0 0),v70]) w fun v71 w =>
 k (.tuple #[v71,(.int .i64 0)]) w))))))))))))))))))))
theorem F32_0_eq (d0:Value) (name1:Value) (at2:Value) (n3:Value) (w:World) (k:KV) : F32A k [] (argEnv [d0,name1,at2,n3]) w = F32_0 d0 name1 at2 n3 w k := by kernel_rfl
theorem F32_in (d0:Value) (name1:Value) (at2:Value) (n3:Value) (w:World) (k:KV) (h:F32_0 d0 name1 at2 n3 w k) : pFn prog 32 [d0,name1,at2,n3] w k :=
 pFn_of_at mixed func32 (by kernel_rfl) (by kernel_rfl) ntmps32 (by kernel_rfl) (by kernel_rfl) (by simp) ((F32_0_eq d0 name1 at2 n3 w k).mpr h)
noncomputable def F54B : Code := bodyOf f54
def F54A (k:KV) (q:List Nat) (ρ:Env) (w:World) : Prop := At prog 20 F54B (retQ prog f54.results.toList k) q ρ w
def F54_0 (d0:Value) (name1:Value) (w:World) (k:KV) : Prop :=
 pFn prog 78 [d0,name1] w fun v10 w =>
 px prog (extract v10 0) w fun v11 w =>
 px prog (extract v10 1) w fun v12 w =>
 px prog (binSem .neq 43 (.tmp 13) (.const (.int .i64 0)) v12 (.int .i64 0)) w fun v14 w =>
 pC v14 (
 k v12 w)
 (
 px prog (Instr.makeFunc (Fn.func 102) #[v11] #[]) w fun v18 w =>
 pFn prog 79 [d0,(.int .i64 2),(.int .i64 0),v18] w fun v19 w =>
 k v19 w)
theorem F54_0_eq (d0:Value) (name1:Value) (w:World) (k:KV) : F54A k [] (argEnv [d0,name1]) w = F54_0 d0 name1 w k := by kernel_rfl
theorem F54_in (d0:Value) (name1:Value) (w:World) (k:KV) (h:F54_0 d0 name1 w k) : pFn prog 54 [d0,name1] w k :=
 pFn_of_at mixed func54 (by kernel_rfl) (by kernel_rfl) ntmps54 (by kernel_rfl) (by kernel_rfl) (by simp) ((F54_0_eq d0 name1 w k).mpr h)
noncomputable def F55B : Code := bodyOf f55
def F55A (k:KV) (q:List Nat) (ρ:Env) (w:World) : Prop := At prog 8 F55B (retQ prog f55.results.toList k) q ρ w
def F55_0 (d0:Value) (w:World) (k:KV) : Prop :=
 px prog (Instr.box 29 d0) w fun v1 w =>
 px prog (loadAt 29 v1) w fun v3 w =>
 pFn prog 26 [v3] w fun v4 w =>
 pC v4 (
 k (.int .i64 50) w)
 (
 px prog (loadAt 29 v1) w fun v5 w =>
 px prog (Instr.makeFunc (Fn.func 103) #[] #[v1]) w fun v6 w =>
 pFn prog 79 [v5,(.int .i64 2),(.int .i64 0),v6] w fun v7 w =>
 k v7 w)
theorem F55_0_eq (d0:Value) (w:World) (k:KV) : F55A k [] (argEnv [d0]) w = F55_0 d0 w k := by kernel_rfl
theorem F55_in (d0:Value) (w:World) (k:KV) (h:F55_0 d0 w k) : pFn prog 55 [d0] w k :=
 pFn_of_at mixed func55 (by kernel_rfl) (by kernel_rfl) ntmps55 (by kernel_rfl) (by kernel_rfl) (by simp) ((F55_0_eq d0 w k).mpr h)
noncomputable def F56B : Code := bodyOf f56
def F56A (k:KV) (q:List Nat) (ρ:Env) (w:World) : Prop := At prog 30 F56B (retQ prog f56.results.toList k) q ρ w
def F56_0 (d0:Value) (from1:Value) (to2:Value) (w:World) (k:KV) : Prop :=
 px prog (Instr.box 29 d0) w fun v3 w =>
 px prog (Instr.box 9 from1) w fun v4 w =>
 px prog (Instr.box 9 to2) w fun v5 w =>
 px prog (loadAt 29 v3) w fun v8 w =>
 pFn prog 26 [v8] w fun v9 w =>
 pC v9 (
 k (.int .i64 50) w)
 (
 px prog (loadAt 9 v4) w fun v11 w =>
 pFn prog 98 [v11] w fun v12 w =>
 px prog (Op.unary .not v12) w fun v13 w =>
 pG v13 false (fun k => px prog (loadAt 9 v5) w k) (w := w) (next := fun v15 w =>
 pG v13 false (fun k => pFn prog 98 [v15] w k) (w := w) (next := fun v16 w =>
 pG v13 false (fun k => px prog (Op.unary .not v16) w k) (w := w) (next := fun v17 w =>
 px prog (pickSem v13 (.bool true) v17) w fun v18 w =>
 pC v18 (
 k (.int .i64 51) w)
 (
 ∃ S : World → Prop,S w.drew ∧ (fun w =>
 pq prog S (loadAt 29 v3) fun v20 =>
 pq prog S (nilSem v20) fun v21 =>
 pq prog S (fieldAt 58 v21 1) fun v22 =>
 pq prog S (loadAt 54 v22) fun v23 =>
 pq prog S (loadAt 9 v4) fun v24 =>
 pq prog S (Instr.lookup 54 v23 v24 false) fun v25 =>
 pq prog S (binSem .eql 117 (.tmp 25) (.const (.pointer none)) v25 (.pointer none)) fun v26 =>
 pC v26 (
 k (.int .i64 53) w)
 (
 px prog (loadAt 29 v3) w fun v27 w =>
 px prog (Instr.makeFunc (Fn.func 105) #[] #[v4,v5,v3]) w fun v28 w =>
 pFn prog 79 [v27,(.int .i64 0),(.int .i64 0),v28] w fun v29 w =>
 k v29 w)) w.drew)))))
theorem F56_0_eq (d0:Value) (from1:Value) (to2:Value) (w:World) (k:KV) : F56A k [] (argEnv [d0,from1,to2]) w = F56_0 d0 from1 to2 w k := by kernel_rfl
theorem F56_in (d0:Value) (from1:Value) (to2:Value) (w:World) (k:KV) (h:F56_0 d0 from1 to2 w k) : pFn prog 56 [d0,from1,to2] w k :=
 pFn_of_at mixed func56 (by kernel_rfl) (by kernel_rfl) ntmps56 (by kernel_rfl) (by kernel_rfl) (by simp) ((F56_0_eq d0 from1 to2 w k).mpr h)
noncomputable def F57B : Code := bodyOf f57
def F57A (k:KV) (q:List Nat) (ρ:Env) (w:World) : Prop := At prog 9 F57B (retQ prog f57.results.toList k) q ρ w
def F57_0 (d0:Value) (w:World) (k:KV) : Prop :=
 pFn prog 82 [d0] w fun v4 w =>
 pC v4 (
 k (.int .i64 0) w)
 (
 px prog (nilSem d0) w fun v6 w =>
 px prog (fieldAt 58 v6 4) w fun v7 w =>
 px prog (loadAt 3 v7) w fun v8 w =>
 k v8 w)
theorem F57_0_eq (d0:Value) (w:World) (k:KV) : F57A k [] (argEnv [d0]) w = F57_0 d0 w k := by kernel_rfl
theorem F57_in (d0:Value) (w:World) (k:KV) (h:F57_0 d0 w k) : pFn prog 57 [d0] w k :=
 pFn_of_at mixed func57 (by kernel_rfl) (by kernel_rfl) ntmps57 (by kernel_rfl) (by kernel_rfl) (by simp) ((F57_0_eq d0 w k).mpr h)
noncomputable def F58B : Code := bodyOf f58
def F58A (k:KV) (q:List Nat) (ρ:Env) (w:World) : Prop := At prog 89 F58B (retQ prog f58.results.toList k) q ρ w
noncomputable def F58B1 : Code := sub F58B [1,1,1,1,0,1,0,0]
def F58Q1 (k:KV) (N1:KE) : Xt → KE := thenE N1 (contAt prog 89 F58B (retQ prog f58.results.toList k) [1,1,1,1,0,1,0])
def F58A1 (k:KV) (N1:KE) (q:List Nat) (ρ:Env) (w:World) : Prop := At prog 89 F58B1 (F58Q1 k N1) q ρ w
def F58L1 (k:KV) (ρ:Env) (w:World) : Prop := LoopAt prog 89 F58B (retQ prog f58.results.toList k) [1,1,1,1,0,1,0] ρ w
theorem F58L1_inv (k:KV) (I:Nat → KE) (round:∀ m ρ w,I m ρ w → F58A1 k (fun ρ' w' => ∃ m',m' < m ∧ I m' ρ' w') [] ρ w) {m:Nat} {ρ:Env} {w:World} (h:I m ρ w) : F58L1 k ρ w :=
 LoopAt_inv mixed (B := F58B) (Q := (retQ prog f58.results.toList k)) (p := [1,1,1,1,0,1,0]) (by kernel_rfl) (by kernel_rfl) I round h
noncomputable def F58B2 : Code := sub F58B [1,1,1,1,1,0,1,0,0]
def F58Q2 (k:KV) (N2:KE) : Xt → KE := thenE N2 (contAt prog 89 F58B (retQ prog f58.results.toList k) [1,1,1,1,1,0,1,0])
def F58A2 (k:KV) (N2:KE) (q:List Nat) (ρ:Env) (w:World) : Prop := At prog 89 F58B2 (F58Q2 k N2) q ρ w
def F58L2 (k:KV) (ρ:Env) (w:World) : Prop := LoopAt prog 89 F58B (retQ prog f58.results.toList k) [1,1,1,1,1,0,1,0] ρ w
theorem F58L2_inv (k:KV) (I:Nat → KE) (round:∀ m ρ w,I m ρ w → F58A2 k (fun ρ' w' => ∃ m',m' < m ∧ I m' ρ' w') [] ρ w) {m:Nat} {ρ:Env} {w:World} (h:I m ρ w) : F58L2 k ρ w :=
 LoopAt_inv mixed (B := F58B) (Q := (retQ prog f58.results.toList k)) (p := [1,1,1,1,1,0,1,0]) (by kernel_rfl) (by kernel_rfl) I round h
def F58_0 (d0:Value) (picks1:Value) (w:World) (k:KV) : Prop :=
 px prog (Instr.box 39 picks1) w fun v3 w =>
 pFn prog 82 [d0] w fun v12 w =>
 pC v12 (
 k (.tuple #[]) w)
 (
 px prog (Instr.makeFunc (Fn.func 106) #[] #[v3]) w fun v13 w =>
 px prog (nilSem d0) w fun v15 w =>
 px prog (fieldAt 58 v15 2) w fun v16 w =>
 px prog (loadAt 54 v16) w fun v17 w =>
 pFn prog 104 [v17] w fun v18 w =>
 ∃ S : World → Prop,S w.drew ∧ (fun w =>
 pq prog S (nilSem d0) fun v20 =>
 pq prog S (fieldAt 58 v20 3) fun v21 =>
 pq prog S (loadAt 55 v21) fun v22 =>
 pq prog S (nilSem d0) fun v25 =>
 pq prog S (fieldAt 58 v25 3) fun v26 =>
 pq prog S (loadAt 55 v26) fun v27 =>
 pq prog S (bSem .len #[55] 3 #[v27]) fun v28 =>
 pVal prog v13 [v28] w fun v29 w => S w ∧ (
 pq prog S (sliceAt 55 v22 none (some v29) none) fun v30 =>
 pq prog S (bSem .len #[55] 3 #[v30]) fun v31 =>
 F58L1 k (put (put (put (put (put (put (put (put (put (put (put (put (put (put (put (put (put (put (put (put (put (put (put (put (put (argEnv [d0,picks1]) 3 v3) 11 d0) 12 v12) 13 v13) 4 v13) 14 d0) 15 v15) 16 v16) 17 v17) 18 v18) 5 v18) 19 d0) 20 v20) 21 v21) 22 v22) 23 v13) 24 d0) 25 v25) 26 v26) 27 v27) 28 v28) 32 (.int .i64 0)) 29 v29) 30 v30) 31 v31) w)) w.drew)
theorem F58_0_eq (d0:Value) (picks1:Value) (w:World) (k:KV) : F58A k [] (argEnv [d0,picks1]) w = F58_0 d0 picks1 w k := by kernel_rfl
def F58_1 (k:KV) (N1:KE) (ρ:Env) (w:World) : Prop :=
 px prog (binSem .lss 3 (.tmp 32) (.tmp 31) (ρ 32) (ρ 31)) w fun v33 w =>
 pC v33 (
 px prog (indexAt 55 (ρ 30) (ρ 32)) w fun v34 w =>
 px prog (loadAt 136 v34) w fun v35 w =>
 pInv prog v35 "freight/disk.on" [(ρ 5)] w fun v38 w =>
 px prog (binSem .add 3 (.tmp 32) (.const (.int .i64 1)) (ρ 32) (.int .i64 1)) w fun v39 w =>
 N1 (put (put (put (put (put (put (put (put (put ρ 33 v33) 34 v34) 35 v35) 7 v35) 36 v35) 37 (ρ 5)) 38 v38) 39 v39) 32 v39) w)
 (
 F58A k [1,1,1,1,1] (put ρ 33 v33) w)
theorem F58_1_eq (k:KV) (N1:KE) (ρ:Env) (w:World) : F58A1 k N1 [] ρ w = F58_1 k N1 ρ w := by kernel_rfl
def F58_2 (k:KV) (ρ:Env) (w:World) : Prop :=
 pFn prog 88 [(ρ 5)] w fun v41 w =>
 px prog (bSem .len #[73] 3 #[v41]) w fun v42 w =>
 F58L2 k (put (put (put (put ρ 40 (ρ 5)) 41 v41) 42 v42) 43 (.int .i64 0)) w
theorem F58_2_eq (k:KV) (ρ:Env) (w:World) : F58A k [1,1,1,1,1] ρ w = F58_2 k ρ w := by kernel_rfl
def F58_3 (k:KV) (N2:KE) (ρ:Env) (w:World) : Prop :=
 px prog (binSem .lss 3 (.tmp 43) (.tmp 42) (ρ 43) (ρ 42)) w fun v44 w =>
 pC v44 (
 px prog (indexAt 73 (ρ 41) (ρ 43)) w fun v45 w =>
 px prog (loadAt 9 v45) w fun v46 w =>
 ∃ S : World → Prop,S w.drew ∧ (fun w =>
 pq prog S (Instr.lookup 54 (ρ 5) v46 false) fun v49 =>
 pq prog S (Instr.lookup 54 (ρ 5) v46 false) fun v53 =>
 pFn prog 109 [v53] w fun v54 w => S w ∧ (
 pVal prog (ρ 4) [v54] w fun v55 w => S w ∧ (
 pFn prog 108 [v49,v55] w fun v56 w => S w ∧ (
 px prog (Instr.build 124 #[(0,v56),(1,v56)]) w fun v61 w =>
 px prog (Instr.box 124 v61) w fun v62 w =>
 pu prog (Instr.mapUpdate 54 (ρ 5) v46 v62) w fun w =>
 px prog (binSem .add 3 (.tmp 43) (.const (.int .i64 1)) (ρ 43) (.int .i64 1)) w fun v63 w =>
 N2 (put (put (put (put (put (put (put (put (put (put (put (put (put (put (put (put (put (put (put (put (put (put (put ρ 44 v44) 45 v45) 46 v46) 9 v46) 47 (ρ 5)) 48 v46) 49 v49) 50 (ρ 4)) 51 (ρ 5)) 52 v46) 53 v53) 54 v54) 55 v55) 56 v56) 10 v56) 57 (ρ 5)) 58 v46) 59 v56) 60 v56) 61 v61) 62 v62) 63 v63) 43 v63) w)))) w.drew)
 (
 F58A k [1,1,1,1,1,1] (put ρ 44 v44) w)
theorem F58_3_eq (k:KV) (N2:KE) (ρ:Env) (w:World) : F58A2 k N2 [] ρ w = F58_3 k N2 ρ w := by kernel_rfl
def F58_4 (k:KV) (ρ:Env) (w:World) : Prop :=
 pFn prog 104 [(ρ 5)] w fun v69 w =>
 px prog (nilSem (ρ 0)) w fun v70 w =>
 px prog (fieldAt 58 v70 2) w fun v71 w =>
 pu prog (storeAt 54 v71 (ρ 5)) w fun w =>
 px prog (nilSem (ρ 0)) w fun v72 w =>
 px prog (fieldAt 58 v72 1) w fun v73 w =>
 pu prog (storeAt 54 v73 v69) w fun w =>
 px prog (nilSem (ρ 0)) w fun v74 w =>
 px prog (fieldAt 58 v74 3) w fun v75 w =>
 pu prog (storeAt 55 v75 (.slice none 0 0)) w fun w =>
 px prog (Instr.build 38 #[]) w fun v80 w =>
 px prog (nilSem (ρ 0)) w fun v81 w =>
 px prog (fieldAt 58 v81 7) w fun v82 w =>
 pu prog (storeAt 4 v82 (.bool false)) w fun w =>
 px prog (nilSem (ρ 0)) w fun v83 w =>
 px prog (fieldAt 58 v83 5) w fun v84 w =>
 pu prog (storeAt 38 v84 v80) w fun w =>
 px prog (nilSem (ρ 0)) w fun v85 w =>
 px prog (fieldAt 58 v85 6) w fun v86 w =>
 pu prog (storeAt 3 v86 (.int .i64 0)) w fun w =>
 px prog (nilSem (ρ 0)) w fun v87 w =>
 px prog (fieldAt 58 v87 4) w fun v88 w =>
 pu prog (storeAt 3 v88 (.int .i64 0)) w fun w =>
 k (.tuple #[]) w
theorem F58_4_eq (k:KV) (ρ:Env) (w:World) : F58A k [1,1,1,1,1,1] ρ w = F58_4 k ρ w := by kernel_rfl
theorem F58_in (d0:Value) (picks1:Value) (w:World) (k:KV) (h:F58_0 d0 picks1 w k) : pFn prog 58 [d0,picks1] w k :=
 pFn_of_at mixed func58 (by kernel_rfl) (by kernel_rfl) ntmps58 (by kernel_rfl) (by kernel_rfl) (by simp) ((F58_0_eq d0 picks1 w k).mpr h)
noncomputable def F59B : Code := bodyOf f59
def F59A (k:KV) (q:List Nat) (ρ:Env) (w:World) : Prop := At prog 19 F59B (retQ prog f59.results.toList k) q ρ w
def F59_0 (d0:Value) (name1:Value) (w:World) (k:KV) : Prop :=
 px prog (Instr.box 29 d0) w fun v2 w =>
 px prog (Instr.box 9 name1) w fun v3 w =>
 px prog (loadAt 29 v2) w fun v8 w =>
 px prog (loadAt 9 v3) w fun v9 w =>
 pFn prog 78 [v8,v9] w fun v10 w =>
 px prog (extract v10 0) w fun v11 w =>
 px prog (extract v10 1) w fun v12 w =>
 px prog (binSem .neq 43 (.tmp 13) (.const (.int .i64 0)) v12 (.int .i64 0)) w fun v14 w =>
 pC v14 (
 k v12 w)
 (
 px prog (loadAt 29 v2) w fun v16 w =>
 px prog (Instr.makeFunc (Fn.func 110) #[] #[v2,v3]) w fun v17 w =>
 pFn prog 79 [v16,(.int .i64 0),(.int .i64 0),v17] w fun v18 w =>
 k v18 w)
theorem F59_0_eq (d0:Value) (name1:Value) (w:World) (k:KV) : F59A k [] (argEnv [d0,name1]) w = F59_0 d0 name1 w k := by kernel_rfl
theorem F59_in (d0:Value) (name1:Value) (w:World) (k:KV) (h:F59_0 d0 name1 w k) : pFn prog 59 [d0,name1] w k :=
 pFn_of_at mixed func59 (by kernel_rfl) (by kernel_rfl) ntmps59 (by kernel_rfl) (by kernel_rfl) (by simp) ((F59_0_eq d0 name1 w k).mpr h)
noncomputable def F60B : Code := bodyOf f60
def F60A (k:KV) (q:List Nat) (ρ:Env) (w:World) : Prop := At prog 25 F60B (retQ prog f60.results.toList k) q ρ w
noncomputable def F60B1 : Code := sub F60B [1,1,1,0,1,0,0]
def F60Q1 (k:KV) (N1:KE) : Xt → KE := thenE N1 (contAt prog 25 F60B (retQ prog f60.results.toList k) [1,1,1,0,1,0])
def F60A1 (k:KV) (N1:KE) (q:List Nat) (ρ:Env) (w:World) : Prop := At prog 25 F60B1 (F60Q1 k N1) q ρ w
def F60L1 (k:KV) (ρ:Env) (w:World) : Prop := LoopAt prog 25 F60B (retQ prog f60.results.toList k) [1,1,1,0,1,0] ρ w
theorem F60L1_inv (k:KV) (I:Nat → KE) (round:∀ m ρ w,I m ρ w → F60A1 k (fun ρ' w' => ∃ m',m' < m ∧ I m' ρ' w') [] ρ w) {m:Nat} {ρ:Env} {w:World} (h:I m ρ w) : F60L1 k ρ w :=
 LoopAt_inv mixed (B := F60B) (Q := (retQ prog f60.results.toList k)) (p := [1,1,1,0,1,0]) (by kernel_rfl) (by kernel_rfl) I round h
def F60_0 (d0:Value) (w:World) (k:KV) : Prop :=
 pFn prog 82 [d0] w fun v7 w =>
 pC v7 (
 k (.int .i64 0) w)
 (
 px prog (nilSem d0) w fun v9 w =>
 px prog (fieldAt 58 v9 1) w fun v10 w =>
 px prog (loadAt 54 v10) w fun v11 w =>
 px prog (Instr.range 54 v11) w fun v12 w =>
 F60L1 k (put (put (put (put (put (put (put (put (put (argEnv [d0]) 2 (.int .i64 0)) 6 d0) 7 v7) 3 (.int .i64 0)) 8 d0) 9 v9) 10 v10) 11 v11) 12 v12) w)
theorem F60_0_eq (d0:Value) (w:World) (k:KV) : F60A k [] (argEnv [d0]) w = F60_0 d0 w k := by kernel_rfl
def F60_1 (k:KV) (N1:KE) (ρ:Env) (w:World) : Prop :=
 px prog (Instr.next (ρ 12) false 0) w fun v13 w =>
 px prog (extract v13 0) w fun v14 w =>
 pC v14 (
 px prog (Instr.entry (ρ 12)) w fun v15 w =>
 px prog (extract v15 1) w fun v16 w =>
 px prog (nilSem v16) w fun v19 w =>
 px prog (fieldAt 124 v19 1) w fun v20 w =>
 px prog (loadAt 36 v20) w fun v21 w =>
 px prog (bSem .len #[36] 3 #[v21]) w fun v22 w =>
 px prog (binSem .add 3 (.tmp 17) (.tmp 22) (ρ 3) v22) w fun v23 w =>
 N1 (put (put (put (put (put (put (put (put (put (put (put (put (put ρ 13 v13) 14 v14) 15 v15) 16 v16) 5 v16) 17 (ρ 3)) 18 v16) 19 v19) 20 v20) 21 v21) 22 v22) 23 v23) 3 v23) w)
 (
 F60A k [1,1,1,1] (put (put ρ 13 v13) 14 v14) w)
theorem F60_1_eq (k:KV) (N1:KE) (ρ:Env) (w:World) : F60A1 k N1 [] ρ w = F60_1 k N1 ρ w := by kernel_rfl
def F60_2 (k:KV) (ρ:Env) (w:World) : Prop :=
 k (ρ 3) w
theorem F60_2_eq (k:KV) (ρ:Env) (w:World) : F60A k [1,1,1,1] ρ w = F60_2 k ρ w := by kernel_rfl
theorem F60_in (d0:Value) (w:World) (k:KV) (h:F60_0 d0 w k) : pFn prog 60 [d0] w k :=
 pFn_of_at mixed func60 (by kernel_rfl) (by kernel_rfl) ntmps60 (by kernel_rfl) (by kernel_rfl) (by simp) ((F60_0_eq d0 w k).mpr h)
noncomputable def F62B : Code := bodyOf f62
def F62A (k:KV) (q:List Nat) (ρ:Env) (w:World) : Prop := At prog 60 F62B (retQ prog f62.results.toList k) q ρ w
def F62_0 (d0:Value) (name1:Value) (at2:Value) (data3:Value) (w:World) (k:KV) : Prop :=
 px prog (Instr.box 3 at2) w fun v6 w =>
 px prog (Instr.box 36 data3) w fun v7 w =>
 pFn prog 78 [d0,name1] w fun v16 w =>
 px prog (extract v16 0) w fun v17 w =>
 px prog (extract v16 1) w fun v18 w =>
 px prog (Instr.alloc 117 true (.tuple #[])) w fun v9 w =>
 pu prog (storeAt 117 v9 v17) w fun w =>
 px prog (binSem .neq 43 (.tmp 19) (.const (.int .i64 0)) v18 (.int .i64 0)) w fun v20 w =>
 pC v20 (
 k v18 w)
 (
 ∃ S : World → Prop,S w.drew ∧ (fun w =>
 pq prog S (loadAt 3 v6) fun v22 =>
 pq prog S (binSem .lss 3 (.tmp 22) (.const (.int .i64 0)) v22 (.int .i64 0)) fun v23 =>
 pGq v23 false (fun k => pq prog S (loadAt 3 v6) k) (next := fun v25 =>
 pGq v23 false (fun k => pq prog S (loadAt 117 v9) k) (next := fun v26 =>
 pGq v23 false (fun k => pq prog S (nilSem v26) k) (next := fun v27 =>
 pGq v23 false (fun k => pq prog S (fieldAt 124 v27 1) k) (next := fun v28 =>
 pGq v23 false (fun k => pq prog S (loadAt 36 v28) k) (next := fun v29 =>
 pGq v23 false (fun k => pq prog S (bSem .len #[36] 3 #[v29]) k) (next := fun v30 =>
 pGq v23 false (fun k => pq prog S (binSem .gtr 3 (.tmp 25) (.tmp 30) v25 v30) k) (next := fun v31 =>
 pq prog S (pickSem v23 (.bool true) v31) fun v32 =>
 pC v32 (
 k (.int .i64 54) w)
 (
 ∃ S : World → Prop,S w.drew ∧ (fun w =>
 pq prog S (loadAt 3 v6) fun v33 =>
 pq prog S (loadAt 36 v7) fun v34 =>
 pq prog S (bSem .len #[36] 3 #[v34]) fun v35 =>
 pq prog S (binSem .add 3 (.tmp 33) (.tmp 35) v33 v35) fun v36 =>
 pq prog S (loadAt 117 v9) fun v37 =>
 pq prog S (nilSem v37) fun v38 =>
 pq prog S (fieldAt 124 v38 1) fun v39 =>
 pq prog S (loadAt 36 v39) fun v40 =>
 pq prog S (bSem .len #[36] 3 #[v40]) fun v41 =>
 pq prog S (binSem .sub 3 (.tmp 36) (.tmp 41) v36 v41) fun v42 =>
 ∃ S : World → Prop,S w.drew ∧ (fun w =>
 pq prog S (binSem .gtr 3 (.tmp 43) (.const (.int .i64 0)) v42 (.int .i64 0)) fun v44 =>
 pGq v44 true (fun k => k d0) (next := fun v46 =>
 pGq v44 true (fun k => k v42) (next := fun v48 =>
 pGq v44 true (fun k => k d0) (next := fun v50 =>
 pGq v44 true (fun k => pq prog S (nilSem v50) k) (next := fun v51 =>
 pGq v44 true (fun k => pq prog S (fieldAt 58 v51 0) k) (next := fun v52 =>
 pGq v44 true (fun k => pq prog S (loadAt 3 v52) k) (next := fun v53 =>
 pG v44 true (fun k => pFn prog 60 [v46] w k) (w := w) (next := fun v47 w => S w ∧ (
 pGq v44 true (fun k => pq prog S (binSem .add 3 (.tmp 47) (.tmp 48) v47 v48) k) (next := fun v49 =>
 pGq v44 true (fun k => pq prog S (binSem .gtr 3 (.tmp 49) (.tmp 53) v49 v53) k) (next := fun v54 =>
 pq prog S (pickSem v44 v54 (.bool false)) fun v55 =>
 pC v55 (
 F62A k [1,1,1,1,1,1] (put (put (put (put (put (put (put (put (put (put (put (put (put (put (put (put (put (put (put (put (put (put (put (put (put (put (put (put (put (put (put (put (put (put (put (put (put (put (put (put (put (put (put (put (put (put (put (put (put (put (argEnv [d0,name1,at2,data3]) 6 v6) 7 v7) 8 (.int .i64 0)) 14 d0) 15 name1) 16 v16) 13 v16) 17 v17) 18 v18) 9 v9) 10 v18) 19 v18) 20 v20) 22 v22) 23 v23) 24 v23) 25 v25) 26 v26) 27 v27) 28 v28) 29 v29) 30 v30) 31 v31) 32 v32) 11 (.int .i64 0)) 33 v33) 34 v34) 35 v35) 36 v36) 37 v37) 38 v38) 39 v39) 40 v40) 41 v41) 42 v42) 12 v42) 43 v42) 44 v44) 45 v44) 46 v46) 48 v48) 50 v50) 51 v51) 52 v52) 53 v53) 47 v47) 49 v49) 54 v54) 55 v55) 11 (.int .i64 55)) w)
 (
 F62A k [1,1,1,1,1,1] (put (put (put (put (put (put (put (put (put (put (put (put (put (put (put (put (put (put (put (put (put (put (put (put (put (put (put (put (put (put (put (put (put (put (put (put (put (put (put (put (put (put (put (put (put (put (put (put (put (argEnv [d0,name1,at2,data3]) 6 v6) 7 v7) 8 (.int .i64 0)) 14 d0) 15 name1) 16 v16) 13 v16) 17 v17) 18 v18) 9 v9) 10 v18) 19 v18) 20 v20) 22 v22) 23 v23) 24 v23) 25 v25) 26 v26) 27 v27) 28 v28) 29 v29) 30 v30) 31 v31) 32 v32) 11 (.int .i64 0)) 33 v33) 34 v34) 35 v35) 36 v36) 37 v37) 38 v38) 39 v39) 40 v40) 41 v41) 42 v42) 12 v42) 43 v42) 44 v44) 45 v44) 46 v46) 48 v48) 50 v50) 51 v51) 52 v52) 53 v53) 47 v47) 49 v49) 54 v54) 55 v55) w)))))))))))) w.drew) w.drew))))))))) w.drew)
theorem F62_0_eq (d0:Value) (name1:Value) (at2:Value) (data3:Value) (w:World) (k:KV) : F62A k [] (argEnv [d0,name1,at2,data3]) w = F62_0 d0 name1 at2 data3 w k := by kernel_rfl
def F62_1 (k:KV) (ρ:Env) (w:World) : Prop :=
 px prog (Instr.makeFunc (Fn.func 114) #[] #[(ρ 9),(ρ 6),(ρ 7)]) w fun v58 w =>
 pFn prog 79 [(ρ 0),(.int .i64 1),(ρ 11),v58] w fun v59 w =>
 k v59 w
theorem F62_1_eq (k:KV) (ρ:Env) (w:World) : F62A k [1,1,1,1,1,1] ρ w = F62_1 k ρ w := by kernel_rfl
theorem F62_in (d0:Value) (name1:Value) (at2:Value) (data3:Value) (w:World) (k:KV) (h:F62_0 d0 name1 at2 data3 w k) : pFn prog 62 [d0,name1,at2,data3] w k :=
 pFn_of_at mixed func62 (by kernel_rfl) (by kernel_rfl) ntmps62 (by kernel_rfl) (by kernel_rfl) (by simp) ((F62_0_eq d0 name1 at2 data3 w k).mpr h)
noncomputable def F67B : Code := bodyOf f67
def F67A (k:KV) (q:List Nat) (ρ:Env) (w:World) : Prop := At prog 32 F67B (retQ prog f67.results.toList k) q ρ w
def F67_0 (d0:Value) (name1:Value) (n2:Value) (w:World) (k:KV) : Prop :=
 px prog (Instr.box 3 n2) w fun v5 w =>
 pFn prog 78 [d0,name1] w fun v12 w =>
 px prog (extract v12 0) w fun v13 w =>
 px prog (extract v12 1) w fun v14 w =>
 px prog (Instr.alloc 117 true (.tuple #[])) w fun v7 w =>
 pu prog (storeAt 117 v7 v13) w fun w =>
 px prog (binSem .neq 43 (.tmp 15) (.const (.int .i64 0)) v14 (.int .i64 0)) w fun v16 w =>
 pC v16 (
 k v14 w)
 (
 ∃ S : World → Prop,S w.drew ∧ (fun w =>
 pq prog S (loadAt 3 v5) fun v18 =>
 pq prog S (binSem .lss 3 (.tmp 18) (.const (.int .i64 0)) v18 (.int .i64 0)) fun v19 =>
 pGq v19 false (fun k => pq prog S (loadAt 3 v5) k) (next := fun v21 =>
 pGq v19 false (fun k => pq prog S (loadAt 117 v7) k) (next := fun v22 =>
 pGq v19 false (fun k => pq prog S (nilSem v22) k) (next := fun v23 =>
 pGq v19 false (fun k => pq prog S (fieldAt 124 v23 1) k) (next := fun v24 =>
 pGq v19 false (fun k => pq prog S (loadAt 36 v24) k) (next := fun v25 =>
 pGq v19 false (fun k => pq prog S (bSem .len #[36] 3 #[v25]) k) (next := fun v26 =>
 pGq v19 false (fun k => pq prog S (binSem .gtr 3 (.tmp 21) (.tmp 26) v21 v26) k) (next := fun v27 =>
 pq prog S (pickSem v19 (.bool true) v27) fun v28 =>
 pC v28 (
 k (.int .i64 54) w)
 (
 px prog (Instr.makeFunc (Fn.func 118) #[] #[v7,v5]) w fun v30 w =>
 pFn prog 79 [d0,(.int .i64 0),(.int .i64 0),v30] w fun v31 w =>
 k v31 w))))))))) w.drew)
theorem F67_0_eq (d0:Value) (name1:Value) (n2:Value) (w:World) (k:KV) : F67A k [] (argEnv [d0,name1,n2]) w = F67_0 d0 name1 n2 w k := by kernel_rfl
theorem F67_in (d0:Value) (name1:Value) (n2:Value) (w:World) (k:KV) (h:F67_0 d0 name1 n2 w k) : pFn prog 67 [d0,name1,n2] w k :=
 pFn_of_at mixed func67 (by kernel_rfl) (by kernel_rfl) ntmps67 (by kernel_rfl) (by kernel_rfl) (by simp) ((F67_0_eq d0 name1 n2 w k).mpr h)
noncomputable def F78B : Code := bodyOf f78
def F78A (k:KV) (q:List Nat) (ρ:Env) (w:World) : Prop := At prog 27 F78B (retQ prog f78.results.toList k) q ρ w
def F78_0 (d0:Value) (name1:Value) (w:World) (k:KV) : Prop :=
 pFn prog 26 [d0] w fun v8 w =>
 pC v8 (
 k (.tuple #[(.pointer none),(.int .i64 50)]) w)
 (
 pFn prog 98 [name1] w fun v11 w =>
 px prog (Op.unary .not v11) w fun v12 w =>
 pC v12 (
 k (.tuple #[(.pointer none),(.int .i64 51)]) w)
 (
 px prog (nilSem d0) w fun v15 w =>
 px prog (fieldAt 58 v15 1) w fun v16 w =>
 px prog (loadAt 54 v16) w fun v17 w =>
 px prog (Instr.lookup 54 v17 name1 false) w fun v19 w =>
 px prog (binSem .eql 117 (.tmp 19) (.const (.pointer none)) v19 (.pointer none)) w fun v20 w =>
 pC v20 (
 k (.tuple #[(.pointer none),(.int .i64 53)]) w)
 (
 px prog (nilSem d0) w fun v22 w =>
 px prog (fieldAt 58 v22 1) w fun v23 w =>
 px prog (loadAt 54 v23) w fun v24 w =>
 px prog (Instr.lookup 54 v24 name1 false) w fun v26 w =>
 k (.tuple #[v26,(.int .i64 0)]) w)))
theorem F78_0_eq (d0:Value) (name1:Value) (w:World) (k:KV) : F78A k [] (argEnv [d0,name1]) w = F78_0 d0 name1 w k := by kernel_rfl
theorem F78_in (d0:Value) (name1:Value) (w:World) (k:KV) (h:F78_0 d0 name1 w k) : pFn prog 78 [d0,name1] w k :=
 pFn_of_at mixed func78 (by kernel_rfl) (by kernel_rfl) ntmps78 (by kernel_rfl) (by kernel_rfl) (by simp) ((F78_0_eq d0 name1 w k).mpr h)
noncomputable def F79B : Code := bodyOf f79
def F79A (k:KV) (q:List Nat) (ρ:Env) (w:World) : Prop := At prog 86 F79B (retQ prog f79.results.toList k) q ρ w
def F79_0 (d0:Value) (kind1:Value) (refused2:Value) (do3:Value) (w:World) (k:KV) : Prop :=
 px prog (nilSem d0) w fun v10 w =>
 px prog (fieldAt 58 v10 4) w fun v11 w =>
 px prog (loadAt 3 v11) w fun v12 w =>
 px prog (binSem .add 3 (.tmp 12) (.const (.int .i64 1)) v12 (.int .i64 1)) w fun v13 w =>
 px prog (nilSem d0) w fun v14 w =>
 px prog (fieldAt 58 v14 4) w fun v15 w =>
 pu prog (storeAt 3 v15 v13) w fun w =>
 px prog (nilSem d0) w fun v17 w =>
 px prog (fieldAt 58 v17 6) w fun v18 w =>
 px prog (loadAt 3 v18) w fun v19 w =>
 px prog (binSem .add 3 (.tmp 19) (.const (.int .i64 1)) v19 (.int .i64 1)) w fun v20 w =>
 px prog (nilSem d0) w fun v21 w =>
 px prog (fieldAt 58 v21 6) w fun v22 w =>
 pu prog (storeAt 3 v22 v20) w fun w =>
 ∃ S : World → Prop,S w.drew ∧ (fun w =>
 pq prog S (binSem .eql 43 (.tmp 23) (.const (.int .i64 0)) refused2 (.int .i64 0)) fun v24 =>
 pGq v24 true (fun k => k kind1) (next := fun v26 =>
 pGq v24 true (fun k => pq prog S (binSem .eql 3 (.tmp 26) (.const (.int .i64 1)) v26 (.int .i64 1)) k) (next := fun v27 =>
 pq prog S (pickSem v24 v27 (.bool false)) fun v28 =>
 pGq v28 true (fun k => k d0) (next := fun v30 =>
 pGq v28 true (fun k => pq prog S (nilSem v30) k) (next := fun v31 =>
 pGq v28 true (fun k => pq prog S (fieldAt 58 v31 6) k) (next := fun v32 =>
 pGq v28 true (fun k => pq prog S (loadAt 3 v32) k) (next := fun v33 =>
 pGq v28 true (fun k => k d0) (next := fun v34 =>
 pGq v28 true (fun k => pq prog S (nilSem v34) k) (next := fun v35 =>
 pGq v28 true (fun k => pq prog S (fieldAt 58 v35 5) k) (next := fun v36 =>
 pGq v28 true (fun k => pq prog S (fieldAt 38 v36 1) k) (next := fun v37 =>
 pGq v28 true (fun k => pq prog S (loadAt 3 v37) k) (next := fun v38 =>
 pGq v28 true (fun k => pq prog S (binSem .geq 3 (.tmp 33) (.tmp 38) v33 v38) k) (next := fun v39 =>
 pq prog S (pickSem v28 v39 (.bool false)) fun v40 =>
 pGq v40 true (fun k => k d0) (next := fun v42 =>
 pGq v40 true (fun k => pq prog S (nilSem v42) k) (next := fun v43 =>
 pGq v40 true (fun k => pq prog S (fieldAt 58 v43 6) k) (next := fun v44 =>
 pGq v40 true (fun k => pq prog S (loadAt 3 v44) k) (next := fun v45 =>
 pGq v40 true (fun k => k d0) (next := fun v46 =>
 pGq v40 true (fun k => pq prog S (nilSem v46) k) (next := fun v47 =>
 pGq v40 true (fun k => pq prog S (fieldAt 58 v47 5) k) (next := fun v48 =>
 pGq v40 true (fun k => pq prog S (fieldAt 38 v48 2) k) (next := fun v49 =>
 pGq v40 true (fun k => pq prog S (loadAt 3 v49) k) (next := fun v50 =>
 pGq v40 true (fun k => pq prog S (binSem .leq 3 (.tmp 45) (.tmp 50) v45 v50) k) (next := fun v51 =>
 pq prog S (pickSem v40 v51 (.bool false)) fun v52 =>
 pC v52 (
 F79A k [1,1,1,1] (put (put (put (put (put (put (put (put (put (put (put (put (put (put (put (put (put (put (put (put (put (put (put (put (put (put (put (put (put (put (put (put (put (put (put (put (put (put (put (put (put (put (put (put (put (put (argEnv [d0,kind1,refused2,do3]) 8 (.int .i64 0)) 9 d0) 10 v10) 11 v11) 12 v12) 13 v13) 14 v14) 15 v15) 16 d0) 17 v17) 18 v18) 19 v19) 20 v20) 21 v21) 22 v22) 23 refused2) 24 v24) 25 v24) 26 v26) 27 v27) 28 v28) 29 v28) 30 v30) 31 v31) 32 v32) 33 v33) 34 v34) 35 v35) 36 v36) 37 v37) 38 v38) 39 v39) 40 v40) 41 v40) 42 v42) 43 v43) 44 v44) 45 v45) 46 v46) 47 v47) 48 v48) 49 v49) 50 v50) 51 v51) 52 v52) 2 (.int .i64 55)) w)
 (
 F79A k [1,1,1,1] (put (put (put (put (put (put (put (put (put (put (put (put (put (put (put (put (put (put (put (put (put (put (put (put (put (put (put (put (put (put (put (put (put (put (put (put (put (put (put (put (put (put (put (put (put (argEnv [d0,kind1,refused2,do3]) 8 (.int .i64 0)) 9 d0) 10 v10) 11 v11) 12 v12) 13 v13) 14 v14) 15 v15) 16 d0) 17 v17) 18 v18) 19 v19) 20 v20) 21 v21) 22 v22) 23 refused2) 24 v24) 25 v24) 26 v26) 27 v27) 28 v28) 29 v28) 30 v30) 31 v31) 32 v32) 33 v33) 34 v34) 35 v35) 36 v36) 37 v37) 38 v38) 39 v39) 40 v40) 41 v40) 42 v42) 43 v43) 44 v44) 45 v45) 46 v46) 47 v47) 48 v48) 49 v49) 50 v50) 51 v51) 52 v52) w)))))))))))))))))))))))) w.drew
theorem F79_0_eq (d0:Value) (kind1:Value) (refused2:Value) (do3:Value) (w:World) (k:KV) : F79A k [] (argEnv [d0,kind1,refused2,do3]) w = F79_0 d0 kind1 refused2 do3 w k := by kernel_rfl
def F79_1 (k:KV) (ρ:Env) (w:World) : Prop :=
 ∃ S : World → Prop,S w.drew ∧ (fun w =>
 pq prog S (nilSem (ρ 0)) fun v55 =>
 pq prog S (fieldAt 58 v55 6) fun v56 =>
 pq prog S (loadAt 3 v56) fun v57 =>
 pq prog S (nilSem (ρ 0)) fun v59 =>
 pq prog S (fieldAt 58 v59 5) fun v60 =>
 pq prog S (fieldAt 38 v60 0) fun v61 =>
 pq prog S (loadAt 3 v61) fun v62 =>
 pq prog S (binSem .eql 3 (.tmp 57) (.tmp 62) v57 v62) fun v63 =>
 pq prog S (nilSem (ρ 0)) fun v64 =>
 pq prog S (fieldAt 58 v64 7) fun v65 =>
 pu prog (storeAt 4 v65 v63) w fun w => (
 px prog (binSem .eql 43 (.tmp 66) (.const (.int .i64 0)) (ρ 2) (.int .i64 0)) w fun v67 w =>
 pG v67 true (fun k => k (ρ 0) w) (w := w) (next := fun v69 w =>
 pG v67 true (fun k => px prog (nilSem v69) w k) (w := w) (next := fun v70 w =>
 pG v67 true (fun k => px prog (fieldAt 58 v70 7) w k) (w := w) (next := fun v71 w =>
 pG v67 true (fun k => px prog (loadAt 4 v71) w k) (w := w) (next := fun v72 w =>
 pG v67 true (fun k => k v72 w) (w := w) (next := fun v73 w =>
 pG v73 true (fun k => k (ρ 1) w) (w := w) (next := fun v74 w =>
 pG v73 true (fun k => px prog (binSem .eql 3 (.tmp 74) (.const (.int .i64 2)) v74 (.int .i64 2)) w k) (w := w) (next := fun v75 w =>
 pG v67 true (fun k => px prog (pickSem v73 v75 (.bool false)) w k) (w := w) (next := fun v76 w =>
 pG v67 true (fun k => px prog (Op.unary .not v76) w k) (w := w) (next := fun v77 w =>
 px prog (pickSem v67 v77 (.bool false)) w fun v78 w =>
 pC v78 (
 pVal prog (ρ 3) [] w fun v80 w =>
 F79A k [1,1,1,1,1,1] (put (put (put (put (put (put (put (put (put (put (put (put (put (put (put (put (put (put (put (put (put (put (put (put (put (put (put (put ρ 53 (ρ 0)) 54 (ρ 0)) 55 v55) 56 v56) 57 v57) 58 (ρ 0)) 59 v59) 60 v60) 61 v61) 62 v62) 63 v63) 64 v64) 65 v65) 66 (ρ 2)) 67 v67) 68 v67) 69 v69) 70 v70) 71 v71) 72 v72) 73 v73) 74 v74) 75 v75) 76 v76) 77 v77) 78 v78) 79 (ρ 3)) 80 v80) w)
 (
 F79A k [1,1,1,1,1,1] (put (put (put (put (put (put (put (put (put (put (put (put (put (put (put (put (put (put (put (put (put (put (put (put (put (put ρ 53 (ρ 0)) 54 (ρ 0)) 55 v55) 56 v56) 57 v57) 58 (ρ 0)) 59 v59) 60 v60) 61 v61) 62 v62) 63 v63) 64 v64) 65 v65) 66 (ρ 2)) 67 v67) 68 v67) 69 v69) 70 v70) 71 v71) 72 v72) 73 v73) 74 v74) 75 v75) 76 v76) 77 v77) 78 v78) w)))))))))))) w.drew
theorem F79_1_eq (k:KV) (ρ:Env) (w:World) : F79A k [1,1,1,1] ρ w = F79_1 k ρ w := by kernel_rfl
def F79_2 (k:KV) (ρ:Env) (w:World) : Prop :=
 px prog (nilSem (ρ 0)) w fun v82 w =>
 px prog (fieldAt 58 v82 7) w fun v83 w =>
 px prog (loadAt 4 v83) w fun v84 w =>
 pC v84 (
 k (.int .i64 50) w)
 (
 k (ρ 2) w)
theorem F79_2_eq (k:KV) (ρ:Env) (w:World) : F79A k [1,1,1,1,1,1] ρ w = F79_2 k ρ w := by kernel_rfl
theorem F79_in (d0:Value) (kind1:Value) (refused2:Value) (do3:Value) (w:World) (k:KV) (h:F79_0 d0 kind1 refused2 do3 w k) : pFn prog 79 [d0,kind1,refused2,do3] w k :=
 pFn_of_at mixed func79 (by kernel_rfl) (by kernel_rfl) ntmps79 (by kernel_rfl) (by kernel_rfl) (by simp) ((F79_0_eq d0 kind1 refused2 do3 w k).mpr h)
noncomputable def F81B : Code := bodyOf f81
def F81A (k:KV) (q:List Nat) (ρ:Env) (w:World) : Prop := At prog 23 F81B (retQ prog f81.results.toList k) q ρ w
def F81_0 (d0:Value) (c1:Value) (w:World) (k:KV) : Prop :=
 px prog (nilSem d0) w fun v6 w =>
 px prog (fieldAt 58 v6 3) w fun v7 w =>
 px prog (loadAt 55 v7) w fun v8 w =>
 px prog (Instr.buildSlice 55 1 #[(0,c1)]) w fun v10 w =>
 px prog (bSem .append #[55,55] 55 #[v8,v10]) w fun v11 w =>
 px prog (nilSem d0) w fun v12 w =>
 px prog (fieldAt 58 v12 3) w fun v13 w =>
 pu prog (storeAt 55 v13 v11) w fun w =>
 ∃ S : World → Prop,S w.drew ∧ (fun w =>
 pq prog S (nilSem d0) fun v16 =>
 pq prog S (fieldAt 58 v16 1) fun v17 =>
 pq prog S (loadAt 54 v17) fun v18 =>
 pq prog S (Instr.makeFunc (Fn.method "freight/disk.on") #[c1] #[]) fun v19 =>
 pq prog S (nilSem v19) fun v20 =>
 pInv prog c1 "freight/disk.on" [v18] w fun v22 w => (
 k (.tuple #[]) w)) w.drew
theorem F81_0_eq (d0:Value) (c1:Value) (w:World) (k:KV) : F81A k [] (argEnv [d0,c1]) w = F81_0 d0 c1 w k := by kernel_rfl
theorem F81_in (d0:Value) (c1:Value) (w:World) (k:KV) (h:F81_0 d0 c1 w k) : pFn prog 81 [d0,c1] w k :=
 pFn_of_at mixed func81 (by kernel_rfl) (by kernel_rfl) ntmps81 (by kernel_rfl) (by kernel_rfl) (by simp) ((F81_0_eq d0 c1 w k).mpr h)
noncomputable def F82B : Code := bodyOf f82
def F82A (k:KV) (q:List Nat) (ρ:Env) (w:World) : Prop := At prog 12 F82B (retQ prog f82.results.toList k) q ρ w
def F82_0 (d0:Value) (w:World) (k:KV) : Prop :=
 px prog (binSem .eql 29 (.tmp 3) (.const (.pointer none)) d0 (.pointer none)) w fun v4 w =>
 pG v4 false (fun k => k d0 w) (w := w) (next := fun v6 w =>
 pG v4 false (fun k => px prog (nilSem v6) w k) (w := w) (next := fun v7 w =>
 pG v4 false (fun k => px prog (fieldAt 58 v7 0) w k) (w := w) (next := fun v8 w =>
 pG v4 false (fun k => px prog (loadAt 3 v8) w k) (w := w) (next := fun v9 w =>
 pG v4 false (fun k => px prog (binSem .eql 3 (.tmp 9) (.const (.int .i64 0)) v9 (.int .i64 0)) w k) (w := w) (next := fun v10 w =>
 px prog (pickSem v4 (.bool true) v10) w fun v11 w =>
 k v11 w)))))
theorem F82_0_eq (d0:Value) (w:World) (k:KV) : F82A k [] (argEnv [d0]) w = F82_0 d0 w k := by kernel_rfl
theorem F82_in (d0:Value) (w:World) (k:KV) (h:F82_0 d0 w k) : pFn prog 82 [d0] w k :=
 pFn_of_at mixed func82 (by kernel_rfl) (by kernel_rfl) ntmps82 (by kernel_rfl) (by kernel_rfl) (by simp) ((F82_0_eq d0 w k).mpr h)
noncomputable def F119B : Code := bodyOf f119
def F119A (k:KV) (q:List Nat) (ρ:Env) (w:World) : Prop := At prog 22 F119B (retQ prog f119.results.toList k) q ρ w
def F119_0 (d0:Value) (name1:Value) (w:World) (k:KV) : Prop :=
 pFn prog 78 [d0,name1] w fun v11 w =>
 px prog (extract v11 0) w fun v12 w =>
 px prog (extract v11 1) w fun v13 w =>
 px prog (binSem .neq 43 (.tmp 14) (.const (.int .i64 0)) v13 (.int .i64 0)) w fun v15 w =>
 pC v15 (
 k (.tuple #[(.int .i64 0),v13]) w)
 (
 px prog (nilSem v12) w fun v18 w =>
 px prog (fieldAt 124 v18 1) w fun v19 w =>
 px prog (loadAt 36 v19) w fun v20 w =>
 px prog (bSem .len #[36] 3 #[v20]) w fun v21 w =>
 k (.tuple #[v21,(.int .i64 0)]) w)
theorem F119_0_eq (d0:Value) (name1:Value) (w:World) (k:KV) : F119A k [] (argEnv [d0,name1]) w = F119_0 d0 name1 w k := by kernel_rfl
theorem F119_in (d0:Value) (name1:Value) (w:World) (k:KV) (h:F119_0 d0 name1 w k) : pFn prog 119 [d0,name1] w k :=
 pFn_of_at mixed func119 (by kernel_rfl) (by kernel_rfl) ntmps119 (by kernel_rfl) (by kernel_rfl) (by simp) ((F119_0_eq d0 name1 w k).mpr h)
noncomputable def F125B : Code := bodyOf f125
def F125A (k:KV) (q:List Nat) (ρ:Env) (w:World) : Prop := At prog 8 F125B (retQ prog f125.results.toList k) q ρ w
def F125_0 (d0:Value) (w:World) (k:KV) : Prop :=
 pFn prog 82 [d0] w fun v3 w =>
 px prog (Op.unary .not v3) w fun v4 w =>
 pC v4 (
 px prog (nilSem d0) w fun v6 w =>
 px prog (fieldAt 58 v6 8) w fun v7 w =>
 pu prog (storeAt 56 v7 (.slice none 0 0)) w fun w =>
 k (.tuple #[]) w)
 (
 k (.tuple #[]) w)
theorem F125_0_eq (d0:Value) (w:World) (k:KV) : F125A k [] (argEnv [d0]) w = F125_0 d0 w k := by kernel_rfl
theorem F125_in (d0:Value) (w:World) (k:KV) (h:F125_0 d0 w k) : pFn prog 125 [d0] w k :=
 pFn_of_at mixed func125 (by kernel_rfl) (by kernel_rfl) ntmps125 (by kernel_rfl) (by kernel_rfl) (by simp) ((F125_0_eq d0 w k).mpr h)
noncomputable def F49B : Code := bodyOf f49
def F49A (k:KV) (q:List Nat) (ρ:Env) (w:World) : Prop := At prog 73 F49B (retQ prog f49.results.toList k) q ρ w
noncomputable def F49B1 : Code := sub F49B [1,1,1,0,1,0,0]
def F49Q1 (k:KV) (N1:KE) : Xt → KE := thenE N1 (contAt prog 73 F49B (retQ prog f49.results.toList k) [1,1,1,0,1,0])
def F49A1 (k:KV) (N1:KE) (q:List Nat) (ρ:Env) (w:World) : Prop := At prog 73 F49B1 (F49Q1 k N1) q ρ w
def F49L1 (k:KV) (ρ:Env) (w:World) : Prop := LoopAt prog 73 F49B (retQ prog f49.results.toList k) [1,1,1,0,1,0] ρ w
theorem F49L1_inv (k:KV) (I:Nat → KE) (round:∀ m ρ w,I m ρ w → F49A1 k (fun ρ' w' => ∃ m',m' < m ∧ I m' ρ' w') [] ρ w) {m:Nat} {ρ:Env} {w:World} (h:I m ρ w) : F49L1 k ρ w :=
 LoopAt_inv mixed (B := F49B) (Q := (retQ prog f49.results.toList k)) (p := [1,1,1,0,1,0]) (by kernel_rfl) (by kernel_rfl) I round h
def F49_0 (room0:Value) (files1:Value) (w:World) (k:KV) : Prop :=
 pFn prog 52 [room0] w fun v14 w =>
 px prog (extract v14 0) w fun v15 w =>
 px prog (extract v14 1) w fun v16 w =>
 px prog (binSem .neq 43 (.tmp 18) (.const (.int .i64 0)) v16 (.int .i64 0)) w fun v19 w =>
 pC v19 (
 k (.tuple #[(.pointer none),v16]) w)
 (
 px prog (bSem .len #[71] 3 #[files1]) w fun v23 w =>
 px prog (binSem .gtr 3 (.tmp 23) (.const (.int .i64 256)) v23 (.int .i64 256)) w fun v24 w =>
 pC v24 (
 k (.tuple #[(.pointer none),(.int .i64 56)]) w)
 (
 pFn prog 96 [files1,(.func (.func 97) #[] #[])] w fun v27 w =>
 pC v27 (
 k (.tuple #[(.pointer none),(.int .i64 51)]) w)
 (
 px prog (bSem .len #[71] 3 #[files1]) w fun v29 w =>
 F49L1 k (put (put (put (put (put (put (put (put (put (put (put (put (put (put (put (put (put (put (put (put (put (put (argEnv [room0,files1]) 4 (.pointer none)) 5 (.int .i64 0)) 13 room0) 14 v14) 12 v14) 15 v15) 16 v16) 6 v15) 7 v16) 18 v16) 19 v19) 17 v19) 22 files1) 23 v23) 24 v24) 21 v24) 26 files1) 27 v27) 25 v27) 28 files1) 29 v29) 30 (.int .i64 0)) w)))
theorem F49_0_eq (room0:Value) (files1:Value) (w:World) (k:KV) : F49A k [] (argEnv [room0,files1]) w = F49_0 room0 files1 w k := by kernel_rfl
def F49_1 (k:KV) (N1:KE) (ρ:Env) (w:World) : Prop :=
 px prog (binSem .lss 3 (.tmp 30) (.tmp 29) (ρ 30) (ρ 29)) w fun v31 w =>
 pC v31 (
 px prog (indexAt 71 (ρ 28) (ρ 30)) w fun v32 w =>
 px prog (loadAt 83 v32) w fun v33 w =>
 px prog (Instr.alloc 83 true (.tuple #[])) w fun v9 w =>
 pu prog (storeAt 83 v9 v33) w fun w =>
 ∃ S : World → Prop,S w.drew ∧ (fun w =>
 pq prog S (nilSem (ρ 6)) fun v35 =>
 pq prog S (fieldAt 58 v35 1) fun v36 =>
 pq prog S (loadAt 54 v36) fun v37 =>
 pq prog S (fieldAt 83 v9 0) fun v38 =>
 pq prog S (loadAt 9 v38) fun v39 =>
 pq prog S (Instr.lookup 54 v37 v39 false) fun v40 =>
 pq prog S (binSem .neq 117 (.tmp 40) (.const (.pointer none)) v40 (.pointer none)) fun v41 =>
 pC v41 (
 k (.tuple #[(.pointer none),(.int .i64 52)]) w)
 (
 px prog (fieldAt 83 v9 1) w fun v42 w =>
 px prog (loadAt 36 v42) w fun v43 w =>
 pFn prog 89 [v43] w fun v44 w =>
 px prog (Instr.build 124 #[(0,v44),(1,v44)]) w fun v47 w =>
 px prog (Instr.box 124 v47) w fun v48 w =>
 ∃ S : World → Prop,S w.drew ∧ (fun w =>
 pq prog S (nilSem (ρ 6)) fun v50 =>
 pq prog S (fieldAt 58 v50 1) fun v51 =>
 pq prog S (loadAt 54 v51) fun v52 =>
 pq prog S (fieldAt 83 v9 0) fun v53 =>
 pq prog S (loadAt 9 v53) fun v54 =>
 pq prog S (nilSem (ρ 6)) fun v56 =>
 pq prog S (fieldAt 58 v56 2) fun v57 =>
 pq prog S (loadAt 54 v57) fun v58 =>
 pq prog S (fieldAt 83 v9 0) fun v59 =>
 pq prog S (loadAt 9 v59) fun v60 =>
 px prog (Instr.mapEntry 54 v52 v54) w fun v63 w => S w ∧ (
 pq prog S (extract v63 1) fun v64 =>
 pu prog (Instr.entryStore 54 v52 v64 v48) w fun w => S w ∧ (
 px prog (Instr.mapEntry 54 v58 v60) w fun v65 w => S w ∧ (
 pq prog S (extract v65 1) fun v66 =>
 pu prog (Instr.entryStore 54 v58 v66 v48) w fun w => (
 px prog (binSem .add 3 (.tmp 30) (.const (.int .i64 1)) (ρ 30) (.int .i64 1)) w fun v67 w =>
 N1 (put (put (put (put (put (put (put (put (put (put (put (put (put (put (put (put (put (put (put (put (put (put (put (put (put (put (put (put (put (put (put (put (put (put (put (put (put (put (put (put (put ρ 31 v31) 32 v32) 33 v33) 9 v9) 34 (ρ 6)) 35 v35) 36 v36) 37 v37) 38 v38) 39 v39) 40 v40) 41 v41) 42 v42) 43 v43) 44 v44) 10 v44) 45 v44) 46 v44) 47 v47) 48 v48) 11 v48) 49 (ρ 6)) 50 v50) 51 v51) 52 v52) 53 v53) 54 v54) 55 (ρ 6)) 56 v56) 57 v57) 58 v58) 59 v59) 60 v60) 61 v48) 62 v48) 63 v63) 64 v64) 65 v65) 66 v66) 67 v67) 30 v67) w))))) w.drew)) w.drew)
 (
 F49A k [1,1,1,1] (put ρ 31 v31) w)
theorem F49_1_eq (k:KV) (N1:KE) (ρ:Env) (w:World) : F49A1 k N1 [] ρ w = F49_1 k N1 ρ w := by kernel_rfl
def F49_2 (k:KV) (ρ:Env) (w:World) : Prop :=
 pFn prog 60 [(ρ 6)] w fun v69 w =>
 px prog (binSem .gtr 3 (.tmp 69) (.tmp 70) v69 (ρ 0)) w fun v71 w =>
 pC v71 (
 k (.tuple #[(.pointer none),(.int .i64 55)]) w)
 (
 k (.tuple #[(ρ 6),(.int .i64 0)]) w)
theorem F49_2_eq (k:KV) (ρ:Env) (w:World) : F49A k [1,1,1,1] ρ w = F49_2 k ρ w := by kernel_rfl
theorem F49_in (room0:Value) (files1:Value) (w:World) (k:KV) (h:F49_0 room0 files1 w k) : pFn prog 49 [room0,files1] w k :=
 pFn_of_at mixed func49 (by kernel_rfl) (by kernel_rfl) ntmps49 (by kernel_rfl) (by kernel_rfl) (by simp) ((F49_0_eq room0 files1 w k).mpr h)
noncomputable def F52B : Code := bodyOf f52
def F52A (k:KV) (q:List Nat) (ρ:Env) (w:World) : Prop := At prog 15 F52B (retQ prog f52.results.toList k) q ρ w
def F52_0 (room0:Value) (w:World) (k:KV) : Prop :=
 px prog (binSem .lss 3 (.tmp 4) (.const (.int .i64 1)) room0 (.int .i64 1)) w fun v5 w =>
 pG v5 false (fun k => k room0 w) (w := w) (next := fun v7 w =>
 pG v5 false (fun k => px prog (binSem .gtr 3 (.tmp 7) (.const (.int .i64 1048576)) v7 (.int .i64 1048576)) w k) (w := w) (next := fun v8 w =>
 px prog (pickSem v5 (.bool true) v8) w fun v9 w =>
 pC v9 (
 k (.tuple #[(.pointer none),(.int .i64 1)]) w)
 (
 px prog (Instr.makeMap 54 none) w fun v11 w =>
 px prog (Instr.makeMap 54 none) w fun v12 w =>
 px prog (Instr.build 58 #[(0,room0),(1,v11),(2,v12)]) w fun v13 w =>
 px prog (Instr.box 58 v13) w fun v14 w =>
 k (.tuple #[v14,(.int .i64 0)]) w)))
theorem F52_0_eq (room0:Value) (w:World) (k:KV) : F52A k [] (argEnv [room0]) w = F52_0 room0 w k := by kernel_rfl
theorem F52_in (room0:Value) (w:World) (k:KV) (h:F52_0 room0 w k) : pFn prog 52 [room0] w k :=
 pFn_of_at mixed func52 (by kernel_rfl) (by kernel_rfl) ntmps52 (by kernel_rfl) (by kernel_rfl) (by simp) ((F52_0_eq room0 w k).mpr h)
end Go.Proofs.YtcdcojpfealppaaGreat
