/- Put together by a program (wip/tools/shake.py): R3. -/
import Derived.Test.YteeeggphkhimcaaGreatDoorB1
import Derived.Test.YteeeggphkhimcaaGreatDoorProg
import Derived.Test.YteeeggphkhimcaaGreatDoorMix
set_option linter.unusedVariables false
set_option maxRecDepth 100000
namespace Go.Proofs.YteeeggphkhimcaaGreatDoor
open Go Go.Proofs Go.Proofs.XRed Tryz
open Go.Instr (fieldAt loadAt storeAt indexAt sliceAt extract)
noncomputable def F16B : Code := bodyOf f16
def F16A (k:KV) (q:List Nat) (ρ:Env) (w:World) : Prop := At prog 57 F16B (retQ prog f16.results.toList k) q ρ w
noncomputable def F16B1 : Code := sub F16B [1,1,1,0,1,0,0]
def F16Q1 (k:KV) (N1:KE) : Xt → KE := thenE N1 (contAt prog 57 F16B (retQ prog f16.results.toList k) [1,1,1,0,1,0])
def F16A1 (k:KV) (N1:KE) (q:List Nat) (ρ:Env) (w:World) : Prop := At prog 57 F16B1 (F16Q1 k N1) q ρ w
def F16L1 (k:KV) (ρ:Env) (w:World) : Prop := LoopAt prog 57 F16B (retQ prog f16.results.toList k) [1,1,1,0,1,0] ρ w
theorem F16L1_inv (k:KV) (I:Nat → KE) (round:∀ m ρ w,I m ρ w → F16A1 k (fun ρ' w' => ∃ m',m' < m ∧ I m' ρ' w') [] ρ w) {m:Nat} {ρ:Env} {w:World} (h:I m ρ w) : F16L1 k ρ w :=
 LoopAt_inv mixed (B := F16B) (Q := (retQ prog f16.results.toList k)) (p := [1,1,1,0,1,0]) (by kernel_rfl) (by kernel_rfl) I round h
def F16_0 (room0:Value) (script1:Value) (w:World) (k:KV) : Prop :=
 pFn prog 52 [room0,(.int .i64 4000)] w fun v11 w =>
 px prog (binSem .add 3 (.const (.int .i64 1)) (.tmp 11) (.int .i64 1) v11) w fun v12 w =>
 pFn prog 62 [v12] w fun v13 w =>
 px prog (extract v13 0) w fun v14 w =>
 px prog (extract v13 1) w fun v15 w =>
 pFn prog 18 [] w fun v16 w =>
 px prog (Op.unary .not v16) w fun v17 w =>
 pG v17 false (fun k => k v15 w) (w := w) (next := fun v19 w =>
 pG v17 false (fun k => px prog (Op.unary .not v19) w k) (w := w) (next := fun v20 w =>
 px prog (pickSem v17 (.bool true) v20) w fun v21 w =>
 pC v21 (
 k (.bool false) w)
 (
 F16L1 k (put (put (put (put (put (put (put (put (put (put (put (put (put (put (put (put (put (argEnv [room0,script1]) 4 (.bool false)) 10 room0) 11 v11) 12 v12) 13 v13) 9 v13) 14 v14) 15 v15) 5 v14) 6 v15) 16 v16) 17 v17) 18 v17) 19 v19) 20 v20) 21 v21) 7 (.int .i64 0)) w)))
theorem F16_0_eq (room0:Value) (script1:Value) (w:World) (k:KV) : F16A k [] (argEnv [room0,script1]) w = F16_0 room0 script1 w k := by kernel_rfl
def F16_1 (k:KV) (N1:KE) (ρ:Env) (w:World) : Prop :=
 px prog (bSem .len #[108] 3 #[(ρ 1)]) w fun v24 w =>
 px prog (binSem .lss 3 (.tmp 22) (.tmp 24) (ρ 7) v24) w fun v25 w =>
 pG v25 true (fun k => k (ρ 7) w) (w := w) (next := fun v27 w =>
 pG v25 true (fun k => px prog (binSem .lss 3 (.tmp 27) (.const (.int .i64 60)) v27 (.int .i64 60)) w k) (w := w) (next := fun v28 w =>
 px prog (pickSem v25 v28 (.bool false)) w fun v29 w =>
 pC v29 (
 px prog (indexAt 108 (ρ 1) (ρ 7)) w fun v34 w =>
 px prog (loadAt 113 v34) w fun v35 w =>
 px prog (Instr.alloc 113 true (.tuple #[])) w fun v8 w =>
 pu prog (storeAt 113 v8 v35) w fun w =>
 px prog (fieldAt 113 v8 0) w fun v36 w =>
 px prog (loadAt 3 v36) w fun v37 w =>
 px prog (binSem .geq 3 (.tmp 37) (.const (.int .i64 1)) v37 (.int .i64 1)) w fun v38 w =>
 pG v38 true (fun k => px prog (fieldAt 113 v8 0) w k) (w := w) (next := fun v40 w =>
 pG v38 true (fun k => px prog (loadAt 3 v40) w k) (w := w) (next := fun v41 w =>
 pG v38 true (fun k => px prog (binSem .leq 3 (.tmp 41) (.const (.int .i64 4)) v41 (.int .i64 4)) w k) (w := w) (next := fun v42 w =>
 px prog (pickSem v38 v42 (.bool false)) w fun v43 w =>
 pC v43 (
 px prog (loadAt 113 v8) w fun v45 w =>
 pFn prog 63 [(ρ 5),v45] w fun v46 w =>
 F16A1 k N1 [1,0,0,1,1] (put (put (put (put (put (put (put (put (put (put (put (put (put (put (put (put (put (put (put (put (put (put (put (put (put ρ 22 (ρ 7)) 23 (ρ 1)) 24 v24) 25 v25) 26 v25) 27 v27) 28 v28) 29 v29) 32 (ρ 1)) 33 (ρ 7)) 34 v34) 35 v35) 8 v8) 36 v36) 37 v37) 38 v38) 39 v38) 40 v40) 41 v41) 42 v42) 43 v43) 44 (ρ 5)) 45 v45) 46 v46) 6 v46) w)
 (
 px prog (loadAt 113 v8) w fun v48 w =>
 pFn prog 64 [(ρ 5),v48] w fun v49 w =>
 F16A1 k N1 [1,0,0,1,1] (put (put (put (put (put (put (put (put (put (put (put (put (put (put (put (put (put (put (put (put (put (put (put (put (put ρ 22 (ρ 7)) 23 (ρ 1)) 24 v24) 25 v25) 26 v25) 27 v27) 28 v28) 29 v29) 32 (ρ 1)) 33 (ρ 7)) 34 v34) 35 v35) 8 v8) 36 v36) 37 v37) 38 v38) 39 v38) 40 v40) 41 v41) 42 v42) 43 v43) 47 (ρ 5)) 48 v48) 49 v49) 6 v49) w)))))
 (
 F16A k [1,1,1,1] (put (put (put (put (put (put (put (put ρ 22 (ρ 7)) 23 (ρ 1)) 24 v24) 25 v25) 26 v25) 27 v27) 28 v28) 29 v29) w)))
theorem F16_1_eq (k:KV) (N1:KE) (ρ:Env) (w:World) : F16A1 k N1 [] ρ w = F16_1 k N1 ρ w := by kernel_rfl
def F16_2 (k:KV) (N1:KE) (ρ:Env) (w:World) : Prop :=
 px prog (Op.unary .not (ρ 6)) w fun v51 w =>
 pG v51 false (fun k => k (ρ 5) w) (w := w) (next := fun v53 w =>
 pG v51 false (fun k => pFn prog 65 [v53] w k) (w := w) (next := fun v54 w =>
 pG v51 false (fun k => px prog (Op.unary .not v54) w k) (w := w) (next := fun v55 w =>
 px prog (pickSem v51 (.bool true) v55) w fun v56 w =>
 pC v56 (
 k (.bool false) w)
 (
 px prog (binSem .add 3 (.tmp 30) (.const (.int .i64 1)) (ρ 7) (.int .i64 1)) w fun v31 w =>
 N1 (put (put (put (put (put (put (put (put (put (put ρ 50 (ρ 6)) 51 v51) 52 v51) 53 v53) 54 v54) 55 v55) 56 v56) 30 (ρ 7)) 31 v31) 7 v31) w))))
theorem F16_2_eq (k:KV) (N1:KE) (ρ:Env) (w:World) : F16A1 k N1 [1,0,0,1,1] ρ w = F16_2 k N1 ρ w := by kernel_rfl
def F16_3 (k:KV) (ρ:Env) (w:World) : Prop :=
 k (.bool true) w
theorem F16_3_eq (k:KV) (ρ:Env) (w:World) : F16A k [1,1,1,1] ρ w = F16_3 k ρ w := by kernel_rfl
theorem F16_in (room0:Value) (script1:Value) (w:World) (k:KV) (h:F16_0 room0 script1 w k) : pFn prog 16 [room0,script1] w k :=
 pFn_of_at mixed func16 (by kernel_rfl) (by kernel_rfl) ntmps16 (by kernel_rfl) (by kernel_rfl) (by simp) ((F16_0_eq room0 script1 w k).mpr h)
noncomputable def F18B : Code := bodyOf f18
def F18A (k:KV) (q:List Nat) (ρ:Env) (w:World) : Prop := At prog 50 F18B (retQ prog f18.results.toList k) q ρ w
def F18_0  (w:World) (k:KV) : Prop :=
 pFn prog 17 [(.int .i64 50)] w fun v8 w =>
 px prog (extract v8 0) w fun v9 w =>
 px prog (extract v8 1) w fun v10 w =>
 px prog (binSem .neq 25 (.tmp 11) (.const (.int .i64 0)) v10 (.int .i64 0)) w fun v12 w =>
 pG v12 false (fun k => k v9 w) (w := w) (next := fun v14 w =>
 pG v12 false (fun k => px prog (binSem .eql 24 (.tmp 14) (.const (.pointer none)) v14 (.pointer none)) w k) (w := w) (next := fun v15 w =>
 px prog (pickSem v12 (.bool true) v15) w fun v16 w =>
 pG v16 false (fun k => k v9 w) (w := w) (next := fun v18 w =>
 pG v16 false (fun k => px prog (Instr.buildSlice 23 2 #[(0,(.int .u8 120)),(1,(.int .u8 121))]) w k) (w := w) (next := fun v19 w =>
 pG v16 false (fun k => px prog (convert 23 23 v19) w k) (w := w) (next := fun v20 w =>
 pG v16 false (fun k => pFn prog 19 [v18,(.string (ByteArray.mk #[97])),v20] w k) (w := w) (next := fun v21 w =>
 pG v16 false (fun k => px prog (binSem .neq 31 (.tmp 21) (.const .nilIface) v21 .nilIface) w k) (w := w) (next := fun v22 w =>
 px prog (pickSem v16 (.bool true) v22) w fun v23 w =>
 pC v23 (
 k (.bool false) w)
 (
 pFn prog 20 [v9,(.string (ByteArray.mk #[97]))] w fun v26 w =>
 px prog (extract v26 0) w fun v27 w =>
 px prog (extract v26 1) w fun v28 w =>
 pFn prog 20 [v9,(.string (ByteArray.mk #[98]))] w fun v31 w =>
 px prog (extract v31 0) w fun v32 w =>
 px prog (extract v31 1) w fun v33 w =>
 px prog (binSem .eql 31 (.tmp 34) (.const .nilIface) v28 .nilIface) w fun v35 w =>
 pG v35 true (fun k => k v27 w) (w := w) (next := fun v37 w =>
 pG v35 true (fun k => px prog (convert 23 9 v37) w k) (w := w) (next := fun v38 w =>
 pG v35 true (fun k => px prog (binSem .eql 9 (.tmp 38) (.const (.string (ByteArray.mk #[120,121]))) v38 (.string (ByteArray.mk #[120,121]))) w k) (w := w) (next := fun v39 w =>
 px prog (pickSem v35 v39 (.bool false)) w fun v40 w =>
 pG v40 true (fun k => k v9 w) (w := w) (next := fun v42 w =>
 pG v40 true (fun k => pFn prog 56 [v42] w k) (w := w) (next := fun v43 w =>
 pG v40 true (fun k => px prog (binSem .eql 3 (.tmp 43) (.const (.int .i64 5)) v43 (.int .i64 5)) w k) (w := w) (next := fun v44 w =>
 px prog (pickSem v40 v44 (.bool false)) w fun v45 w =>
 pG v45 true (fun k => k v33 w) (w := w) (next := fun v47 w =>
 pG v45 true (fun k => pFn prog 49 [v47,(.string (ByteArray.mk #[103,101,116])),(.string (ByteArray.mk #[98])),(.int .i64 53)] w k) (w := w) (next := fun v48 w =>
 px prog (pickSem v45 v48 (.bool false)) w fun v49 w =>
 k v49 w))))))))))))))))
theorem F18_0_eq  (w:World) (k:KV) : F18A k [] (argEnv []) w = F18_0  w k := by kernel_rfl
theorem F18_in  (w:World) (k:KV) (h:F18_0  w k) : pFn prog 18 [] w k :=
 pFn_of_at mixed func18 (by kernel_rfl) (by kernel_rfl) ntmps18 (by kernel_rfl) (by kernel_rfl) (by simp) ((F18_0_eq  w k).mpr h)
noncomputable def F21B : Code := bodyOf f21
def F21A (k:KV) (q:List Nat) (ρ:Env) (w:World) : Prop := At prog 26 F21B (retQ prog f21.results.toList k) q ρ w
noncomputable def F21B1 : Code := sub F21B [1,1,0,1,0,0]
def F21Q1 (k:KV) (N1:KE) : Xt → KE := thenE N1 (contAt prog 26 F21B (retQ prog f21.results.toList k) [1,1,0,1,0])
def F21A1 (k:KV) (N1:KE) (q:List Nat) (ρ:Env) (w:World) : Prop := At prog 26 F21B1 (F21Q1 k N1) q ρ w
def F21L1 (k:KV) (ρ:Env) (w:World) : Prop := LoopAt prog 26 F21B (retQ prog f21.results.toList k) [1,1,0,1,0] ρ w
theorem F21L1_inv (k:KV) (I:Nat → KE) (round:∀ m ρ w,I m ρ w → F21A1 k (fun ρ' w' => ∃ m',m' < m ∧ I m' ρ' w') [] ρ w) {m:Nat} {ρ:Env} {w:World} (h:I m ρ w) : F21L1 k ρ w :=
 LoopAt_inv mixed (B := F21B) (Q := (retQ prog f21.results.toList k)) (p := [1,1,0,1,0]) (by kernel_rfl) (by kernel_rfl) I round h
def F21_0 (a0:Value) (b1:Value) (w:World) (k:KV) : Prop :=
 px prog (bSem .len #[23] 3 #[a0]) w fun v7 w =>
 px prog (bSem .len #[23] 3 #[b1]) w fun v9 w =>
 px prog (binSem .neq 3 (.tmp 7) (.tmp 9) v7 v9) w fun v10 w =>
 pC v10 (
 k (.bool false) w)
 (
 F21L1 k (put (put (put (put (put (put (put (argEnv [a0,b1]) 4 (.bool false)) 6 a0) 7 v7) 8 b1) 9 v9) 10 v10) 5 (.int .i64 0)) w)
theorem F21_0_eq (a0:Value) (b1:Value) (w:World) (k:KV) : F21A k [] (argEnv [a0,b1]) w = F21_0 a0 b1 w k := by kernel_rfl
def F21_1 (k:KV) (N1:KE) (ρ:Env) (w:World) : Prop :=
 px prog (bSem .len #[23] 3 #[(ρ 0)]) w fun v13 w =>
 px prog (binSem .lss 3 (.tmp 11) (.tmp 13) (ρ 5) v13) w fun v14 w =>
 pC v14 (
 ∃ S : World → Prop,S w.drew ∧ (fun w =>
 pq prog S (indexAt 23 (ρ 0) (ρ 5)) fun v19 =>
 pq prog S (loadAt 5 v19) fun v20 =>
 pq prog S (indexAt 23 (ρ 1) (ρ 5)) fun v23 =>
 pq prog S (loadAt 5 v23) fun v24 =>
 pq prog S (binSem .neq 5 (.tmp 20) (.tmp 24) v20 v24) fun v25 =>
 pC v25 (
 k (.bool false) w)
 (
 px prog (binSem .add 3 (.tmp 15) (.const (.int .i64 1)) (ρ 5) (.int .i64 1)) w fun v16 w =>
 N1 (put (put (put (put (put (put (put (put (put (put (put (put (put (put (put (put ρ 11 (ρ 5)) 12 (ρ 0)) 13 v13) 14 v14) 17 (ρ 0)) 18 (ρ 5)) 19 v19) 20 v20) 21 (ρ 1)) 22 (ρ 5)) 23 v23) 24 v24) 25 v25) 15 (ρ 5)) 16 v16) 5 v16) w)) w.drew)
 (
 F21A k [1,1,1] (put (put (put (put ρ 11 (ρ 5)) 12 (ρ 0)) 13 v13) 14 v14) w)
theorem F21_1_eq (k:KV) (N1:KE) (ρ:Env) (w:World) : F21A1 k N1 [] ρ w = F21_1 k N1 ρ w := by kernel_rfl
def F21_2 (k:KV) (ρ:Env) (w:World) : Prop :=
 k (.bool true) w
theorem F21_2_eq (k:KV) (ρ:Env) (w:World) : F21A k [1,1,1] ρ w = F21_2 k ρ w := by kernel_rfl
theorem F21_in (a0:Value) (b1:Value) (w:World) (k:KV) (h:F21_0 a0 b1 w k) : pFn prog 21 [a0,b1] w k :=
 pFn_of_at mixed func21 (by kernel_rfl) (by kernel_rfl) ntmps21 (by kernel_rfl) (by kernel_rfl) (by simp) ((F21_0_eq a0 b1 w k).mpr h)
noncomputable def F24B : Code := bodyOf f24
def F24A (k:KV) (q:List Nat) (ρ:Env) (w:World) : Prop := At prog 42 F24B (retQ prog f24.results.toList k) q ρ w
noncomputable def F24B1 : Code := sub F24B [1,1,0,1,0,0]
def F24Q1 (k:KV) (N1:KE) : Xt → KE := thenE N1 (contAt prog 42 F24B (retQ prog f24.results.toList k) [1,1,0,1,0])
def F24A1 (k:KV) (N1:KE) (q:List Nat) (ρ:Env) (w:World) : Prop := At prog 42 F24B1 (F24Q1 k N1) q ρ w
def F24L1 (k:KV) (ρ:Env) (w:World) : Prop := LoopAt prog 42 F24B (retQ prog f24.results.toList k) [1,1,0,1,0] ρ w
theorem F24L1_inv (k:KV) (I:Nat → KE) (round:∀ m ρ w,I m ρ w → F24A1 k (fun ρ' w' => ∃ m',m' < m ∧ I m' ρ' w') [] ρ w) {m:Nat} {ρ:Env} {w:World} (h:I m ρ w) : F24L1 k ρ w :=
 LoopAt_inv mixed (B := F24B) (Q := (retQ prog f24.results.toList k)) (p := [1,1,0,1,0]) (by kernel_rfl) (by kernel_rfl) I round h
def F24_0 (a0:Value) (b1:Value) (w:World) (k:KV) : Prop :=
 px prog (bSem .len #[36] 3 #[a0]) w fun v7 w =>
 px prog (bSem .len #[36] 3 #[b1]) w fun v9 w =>
 px prog (binSem .neq 3 (.tmp 7) (.tmp 9) v7 v9) w fun v10 w =>
 pC v10 (
 k (.bool false) w)
 (
 F24L1 k (put (put (put (put (put (put (put (argEnv [a0,b1]) 4 (.bool false)) 6 a0) 7 v7) 8 b1) 9 v9) 10 v10) 5 (.int .i64 0)) w)
theorem F24_0_eq (a0:Value) (b1:Value) (w:World) (k:KV) : F24A k [] (argEnv [a0,b1]) w = F24_0 a0 b1 w k := by kernel_rfl
def F24_1 (k:KV) (N1:KE) (ρ:Env) (w:World) : Prop :=
 px prog (bSem .len #[36] 3 #[(ρ 0)]) w fun v13 w =>
 px prog (binSem .lss 3 (.tmp 11) (.tmp 13) (ρ 5) v13) w fun v14 w =>
 pC v14 (
 ∃ S : World → Prop,S w.drew ∧ (fun w =>
 pq prog S (indexAt 36 (ρ 0) (ρ 5)) fun v19 =>
 pq prog S (fieldAt 107 v19 0) fun v20 =>
 pq prog S (loadAt 9 v20) fun v21 =>
 pq prog S (indexAt 36 (ρ 1) (ρ 5)) fun v24 =>
 pq prog S (fieldAt 107 v24 0) fun v25 =>
 pq prog S (loadAt 9 v25) fun v26 =>
 pq prog S (binSem .neq 9 (.tmp 21) (.tmp 26) v21 v26) fun v27 =>
 pGq v27 false (fun k => k (ρ 0)) (next := fun v29 =>
 pGq v27 false (fun k => k (ρ 5)) (next := fun v30 =>
 pGq v27 false (fun k => pq prog S (indexAt 36 v29 v30) k) (next := fun v31 =>
 pGq v27 false (fun k => pq prog S (fieldAt 107 v31 1) k) (next := fun v32 =>
 pGq v27 false (fun k => pq prog S (loadAt 23 v32) k) (next := fun v33 =>
 pGq v27 false (fun k => k (ρ 1)) (next := fun v34 =>
 pGq v27 false (fun k => k (ρ 5)) (next := fun v35 =>
 pGq v27 false (fun k => pq prog S (indexAt 36 v34 v35) k) (next := fun v36 =>
 pGq v27 false (fun k => pq prog S (fieldAt 107 v36 1) k) (next := fun v37 =>
 pGq v27 false (fun k => pq prog S (loadAt 23 v37) k) (next := fun v38 =>
 pG v27 false (fun k => pFn prog 21 [v33,v38] w k) (w := w) (next := fun v39 w => S w ∧ (
 pGq v27 false (fun k => pq prog S (Op.unary .not v39) k) (next := fun v40 =>
 pq prog S (pickSem v27 (.bool true) v40) fun v41 =>
 pC v41 (
 k (.bool false) w)
 (
 px prog (binSem .add 3 (.tmp 15) (.const (.int .i64 1)) (ρ 5) (.int .i64 1)) w fun v16 w =>
 N1 (put (put (put (put (put (put (put (put (put (put (put (put (put (put (put (put (put (put (put (put (put (put (put (put (put (put (put (put (put (put (put (put ρ 11 (ρ 5)) 12 (ρ 0)) 13 v13) 14 v14) 17 (ρ 0)) 18 (ρ 5)) 19 v19) 20 v20) 21 v21) 22 (ρ 1)) 23 (ρ 5)) 24 v24) 25 v25) 26 v26) 27 v27) 28 v27) 29 v29) 30 v30) 31 v31) 32 v32) 33 v33) 34 v34) 35 v35) 36 v36) 37 v37) 38 v38) 39 v39) 40 v40) 41 v41) 15 (ρ 5)) 16 v16) 5 v16) w))))))))))))))) w.drew)
 (
 F24A k [1,1,1] (put (put (put (put ρ 11 (ρ 5)) 12 (ρ 0)) 13 v13) 14 v14) w)
theorem F24_1_eq (k:KV) (N1:KE) (ρ:Env) (w:World) : F24A1 k N1 [] ρ w = F24_1 k N1 ρ w := by kernel_rfl
def F24_2 (k:KV) (ρ:Env) (w:World) : Prop :=
 k (.bool true) w
theorem F24_2_eq (k:KV) (ρ:Env) (w:World) : F24A k [1,1,1] ρ w = F24_2 k ρ w := by kernel_rfl
theorem F24_in (a0:Value) (b1:Value) (w:World) (k:KV) (h:F24_0 a0 b1 w k) : pFn prog 24 [a0,b1] w k :=
 pFn_of_at mixed func24 (by kernel_rfl) (by kernel_rfl) ntmps24 (by kernel_rfl) (by kernel_rfl) (by simp) ((F24_0_eq a0 b1 w k).mpr h)
noncomputable def F49B : Code := bodyOf f49
def F49A (k:KV) (q:List Nat) (ρ:Env) (w:World) : Prop := At prog 62 F49B (retQ prog f49.results.toList k) q ρ w
def F49_0 (err0:Value) (op1:Value) (name2:Value) (code3:Value) (w:World) (k:KV) : Prop :=
 px prog (binSem .eql 3 (.tmp 10) (.const (.int .i64 0)) code3 (.int .i64 0)) w fun v11 w =>
 pC v11 (
 px prog (binSem .eql 31 (.tmp 12) (.const .nilIface) err0 .nilIface) w fun v13 w =>
 k v13 w)
 (
 px prog (Instr.alloc 73 true (.tuple #[])) w fun v9 w =>
 px prog (binSem .neq 31 (.tmp 14) (.const .nilIface) err0 .nilIface) w fun v15 w =>
 pG v15 true (fun k => k err0 w) (w := w) (next := fun v17 w =>
 pG v15 true (fun k => px prog (Instr.makeInterface 75 v9) w k) (w := w) (next := fun v18 w =>
 pG v15 true (fun k => pFn prog 88 [v17,v18] w k) (w := w) (next := fun v19 w =>
 px prog (pickSem v15 v19 (.bool false)) w fun v20 w =>
 pG v20 true (fun k => px prog (loadAt 73 v9) w k) (w := w) (next := fun v22 w =>
 pG v20 true (fun k => px prog (binSem .neq 73 (.tmp 22) (.const (.pointer none)) v22 (.pointer none)) w k) (w := w) (next := fun v23 w =>
 px prog (pickSem v20 v23 (.bool false)) w fun v24 w =>
 pG v24 true (fun k => px prog (loadAt 73 v9) w k) (w := w) (next := fun v26 w =>
 pG v24 true (fun k => px prog (nilSem v26) w k) (w := w) (next := fun v27 w =>
 pG v24 true (fun k => px prog (fieldAt 77 v27 0) w k) (w := w) (next := fun v28 w =>
 pG v24 true (fun k => px prog (loadAt 9 v28) w k) (w := w) (next := fun v29 w =>
 pG v24 true (fun k => k op1 w) (w := w) (next := fun v30 w =>
 pG v24 true (fun k => px prog (binSem .add 9 (.const (.string (ByteArray.mk #[102,105,108,101,46]))) (.tmp 30) (.string (ByteArray.mk #[102,105,108,101,46])) v30) w k) (w := w) (next := fun v31 w =>
 pG v24 true (fun k => px prog (binSem .eql 9 (.tmp 29) (.tmp 31) v29 v31) w k) (w := w) (next := fun v32 w =>
 px prog (pickSem v24 v32 (.bool false)) w fun v33 w =>
 pG v33 true (fun k => px prog (loadAt 73 v9) w k) (w := w) (next := fun v35 w =>
 pG v33 true (fun k => px prog (nilSem v35) w k) (w := w) (next := fun v36 w =>
 pG v33 true (fun k => px prog (fieldAt 77 v36 1) w k) (w := w) (next := fun v37 w =>
 pG v33 true (fun k => px prog (loadAt 9 v37) w k) (w := w) (next := fun v38 w =>
 pG v33 true (fun k => k name2 w) (w := w) (next := fun v39 w =>
 pG v33 true (fun k => px prog (binSem .eql 9 (.tmp 38) (.tmp 39) v38 v39) w k) (w := w) (next := fun v40 w =>
 px prog (pickSem v33 v40 (.bool false)) w fun v41 w =>
 pG v41 true (fun k => px prog (loadAt 73 v9) w k) (w := w) (next := fun v43 w =>
 pG v41 true (fun k => px prog (nilSem v43) w k) (w := w) (next := fun v44 w =>
 pG v41 true (fun k => px prog (fieldAt 77 v44 2) w k) (w := w) (next := fun v45 w =>
 pG v41 true (fun k => px prog (loadAt 44 v45) w k) (w := w) (next := fun v46 w =>
 pG v41 true (fun k => px prog (Instr.build 44 #[]) w k) (w := w) (next := fun v47 w =>
 pG v41 true (fun k => px prog (binSem .eql 44 (.tmp 46) (.tmp 47) v46 v47) w k) (w := w) (next := fun v48 w =>
 px prog (pickSem v41 v48 (.bool false)) w fun v49 w =>
 pG v49 true (fun k => k err0 w) (w := w) (next := fun v51 w =>
 pG v49 true (fun k => k code3 w) (w := w) (next := fun v52 w =>
 pG v49 true (fun k => px prog (Instr.makeInterface 25 v52) w k) (w := w) (next := fun v53 w =>
 pG v49 true (fun k => pFn prog 69 [v51,v53] w k) (w := w) (next := fun v54 w =>
 px prog (pickSem v49 v54 (.bool false)) w fun v55 w =>
 pG v55 true (fun k => k err0 w) (w := w) (next := fun v57 w =>
 pG v55 true (fun k => pFn prog 43 [v57] w k) (w := w) (next := fun v58 w =>
 pG v55 true (fun k => k code3 w) (w := w) (next := fun v59 w =>
 pG v55 true (fun k => px prog (binSem .eql 25 (.tmp 58) (.tmp 59) v58 v59) w k) (w := w) (next := fun v60 w =>
 px prog (pickSem v55 v60 (.bool false)) w fun v61 w =>
 k v61 w)))))))))))))))))))))))))))))))))
theorem F49_0_eq (err0:Value) (op1:Value) (name2:Value) (code3:Value) (w:World) (k:KV) : F49A k [] (argEnv [err0,op1,name2,code3]) w = F49_0 err0 op1 name2 code3 w k := by kernel_rfl
theorem F49_in (err0:Value) (op1:Value) (name2:Value) (code3:Value) (w:World) (k:KV) (h:F49_0 err0 op1 name2 code3 w k) : pFn prog 49 [err0,op1,name2,code3] w k :=
 pFn_of_at mixed func49 (by kernel_rfl) (by kernel_rfl) ntmps49 (by kernel_rfl) (by kernel_rfl) (by simp) ((F49_0_eq err0 op1 name2 code3 w k).mpr h)
noncomputable def F52B : Code := bodyOf f52
def F52A (k:KV) (q:List Nat) (ρ:Env) (w:World) : Prop := At prog 14 F52B (retQ prog f52.results.toList k) q ρ w
def F52_0 (v0:Value) (n1:Value) (w:World) (k:KV) : Prop :=
 px prog (binSem .rem 3 (.tmp 5) (.tmp 6) v0 n1) w fun v7 w =>
 px prog (binSem .lss 3 (.tmp 8) (.const (.int .i64 0)) v7 (.int .i64 0)) w fun v9 w =>
 pC v9 (
 px prog (binSem .add 3 (.tmp 10) (.tmp 11) v7 n1) w fun v12 w =>
 F52A k [1,1,1] (put (put (put (put (put (put (put (put (put (put (put (argEnv [v0,n1]) 4 (.int .i64 0)) 5 v0) 6 n1) 7 v7) 0 v7) 8 v7) 9 v9) 10 v7) 11 n1) 12 v12) 0 v12) w)
 (
 F52A k [1,1,1] (put (put (put (put (put (put (put (argEnv [v0,n1]) 4 (.int .i64 0)) 5 v0) 6 n1) 7 v7) 0 v7) 8 v7) 9 v9) w)
theorem F52_0_eq (v0:Value) (n1:Value) (w:World) (k:KV) : F52A k [] (argEnv [v0,n1]) w = F52_0 v0 n1 w k := by kernel_rfl
def F52_1 (k:KV) (ρ:Env) (w:World) : Prop :=
 k (ρ 0) w
theorem F52_1_eq (k:KV) (ρ:Env) (w:World) : F52A k [1,1,1] ρ w = F52_1 k ρ w := by kernel_rfl
theorem F52_in (v0:Value) (n1:Value) (w:World) (k:KV) (h:F52_0 v0 n1 w k) : pFn prog 52 [v0,n1] w k :=
 pFn_of_at mixed func52 (by kernel_rfl) (by kernel_rfl) ntmps52 (by kernel_rfl) (by kernel_rfl) (by simp) ((F52_0_eq v0 n1 w k).mpr h)
noncomputable def F62B : Code := bodyOf f62
def F62A (k:KV) (q:List Nat) (ρ:Env) (w:World) : Prop := At prog 33 F62B (retQ prog f62.results.toList k) q ρ w
def F62_0 (room0:Value) (w:World) (k:KV) : Prop :=
 pFn prog 17 [room0] w fun v10 w =>
 px prog (extract v10 0) w fun v11 w =>
 px prog (extract v10 1) w fun v12 w =>
 pFn prog 99 [room0] w fun v15 w =>
 px prog (extract v15 0) w fun v16 w =>
 px prog (extract v15 1) w fun v17 w =>
 px prog (Instr.build 181 #[(0,v11),(1,v16)]) w fun v20 w =>
 px prog (Instr.box 181 v20) w fun v21 w =>
 px prog (binSem .eql 3 (.tmp 22) (.tmp 23) v12 v17) w fun v24 w =>
 pG v24 true (fun k => k v12 w) (w := w) (next := fun v26 w =>
 pG v24 true (fun k => px prog (binSem .eql 25 (.tmp 26) (.const (.int .i64 0)) v26 (.int .i64 0)) w k) (w := w) (next := fun v27 w =>
 px prog (pickSem v24 v27 (.bool false)) w fun v28 w =>
 pG v28 true (fun k => k v11 w) (w := w) (next := fun v30 w =>
 pG v28 true (fun k => px prog (binSem .neq 24 (.tmp 30) (.const (.pointer none)) v30 (.pointer none)) w k) (w := w) (next := fun v31 w =>
 px prog (pickSem v28 v31 (.bool false)) w fun v32 w =>
 k (.tuple #[v21,v32]) w))))
theorem F62_0_eq (room0:Value) (w:World) (k:KV) : F62A k [] (argEnv [room0]) w = F62_0 room0 w k := by kernel_rfl
theorem F62_in (room0:Value) (w:World) (k:KV) (h:F62_0 room0 w k) : pFn prog 62 [room0] w k :=
 pFn_of_at mixed func62 (by kernel_rfl) (by kernel_rfl) ntmps62 (by kernel_rfl) (by kernel_rfl) (by simp) ((F62_0_eq room0 w k).mpr h)
noncomputable def F63B : Code := bodyOf f63
def F63A (k:KV) (q:List Nat) (ρ:Env) (w:World) : Prop := At prog 165 F63B (retQ prog f63.results.toList k) q ρ w
noncomputable def F63B1 : Code := sub F63B [1,0,1,0,1,0,1,0,1,0,0]
def F63Q1 (k:KV) (N1:KE) : Xt → KE := thenE N1 (contAt prog 165 F63B (retQ prog f63.results.toList k) [1,0,1,0,1,0,1,0,1,0])
def F63A1 (k:KV) (N1:KE) (q:List Nat) (ρ:Env) (w:World) : Prop := At prog 165 F63B1 (F63Q1 k N1) q ρ w
def F63L1 (k:KV) (ρ:Env) (w:World) : Prop := LoopAt prog 165 F63B (retQ prog f63.results.toList k) [1,0,1,0,1,0,1,0,1,0] ρ w
theorem F63L1_inv (k:KV) (I:Nat → KE) (round:∀ m ρ w,I m ρ w → F63A1 k (fun ρ' w' => ∃ m',m' < m ∧ I m' ρ' w') [] ρ w) {m:Nat} {ρ:Env} {w:World} (h:I m ρ w) : F63L1 k ρ w :=
 LoopAt_inv mixed (B := F63B) (Q := (retQ prog f63.results.toList k)) (p := [1,0,1,0,1,0,1,0,1,0]) (by kernel_rfl) (by kernel_rfl) I round h
noncomputable def F63B2 : Code := sub F63B [1,0,1,0,1,0,1,1,1,0,1,0,0]
def F63Q2 (k:KV) (N2:KE) : Xt → KE := thenE N2 (contAt prog 165 F63B (retQ prog f63.results.toList k) [1,0,1,0,1,0,1,1,1,0,1,0])
def F63A2 (k:KV) (N2:KE) (q:List Nat) (ρ:Env) (w:World) : Prop := At prog 165 F63B2 (F63Q2 k N2) q ρ w
def F63L2 (k:KV) (ρ:Env) (w:World) : Prop := LoopAt prog 165 F63B (retQ prog f63.results.toList k) [1,0,1,0,1,0,1,1,1,0,1,0] ρ w
theorem F63L2_inv (k:KV) (I:Nat → KE) (round:∀ m ρ w,I m ρ w → F63A2 k (fun ρ' w' => ∃ m',m' < m ∧ I m' ρ' w') [] ρ w) {m:Nat} {ρ:Env} {w:World} (h:I m ρ w) : F63L2 k ρ w :=
 LoopAt_inv mixed (B := F63B) (Q := (retQ prog f63.results.toList k)) (p := [1,0,1,0,1,0,1,1,1,0,1,0]) (by kernel_rfl) (by kernel_rfl) I round h
def F63_0 (p0:Value) (x1:Value) (w:World) (k:KV) : Prop :=
 px prog (Instr.box 113 x1) w fun v3 w =>
 px prog (fieldAt 113 v3 0) w fun v13 w =>
 px prog (loadAt 3 v13) w fun v14 w =>
 px prog (binSem .eql 3 (.tmp 14) (.const (.int .i64 1)) v14 (.int .i64 1)) w fun v16 w =>
 pC v16 (
 ∃ S : World → Prop,S w.drew ∧ (fun w =>
 pq prog S (fieldAt 113 v3 3) fun v17 =>
 pq prog S (loadAt 23 v17) fun v18 =>
 pq prog S (bSem .len #[23] 3 #[v18]) fun v19 =>
 pq prog S (binSem .add 3 (.tmp 19) (.const (.int .i64 40)) v19 (.int .i64 40)) fun v20 =>
 pq prog S (fieldAt 113 v3 3) fun v22 =>
 pq prog S (loadAt 23 v22) fun v23 =>
 px prog (Instr.makeSlice 23 (.int .i64 0) v20) w fun v21 w => S w ∧ (
 px prog (bSem .append #[23,23] 23 #[v21,v23]) w fun v24 w => S w ∧ (
 F63L1 k (put (put (put (put (put (put (put (put (put (put (put (put (put (put (put (put (argEnv [p0,x1]) 3 v3) 4 (.bool false)) 13 v13) 14 v14) 16 v16) 15 v16) 17 v17) 18 v18) 19 v19) 20 v20) 22 v22) 23 v23) 21 v21) 24 v24) 5 v24) 6 (.int .i64 0)) w))) w.drew)
 (
 px prog (binSem .eql 3 (.tmp 14) (.const (.int .i64 2)) v14 (.int .i64 2)) w fun v98 w =>
 pC v98 (
 ∃ S : World → Prop,S w.drew ∧ (fun w =>
 pq prog S (nilSem p0) fun v101 =>
 pq prog S (fieldAt 181 v101 0) fun v102 =>
 pq prog S (loadAt 24 v102) fun v103 =>
 pq prog S (fieldAt 113 v3 1) fun v104 =>
 pq prog S (loadAt 9 v104) fun v105 =>
 pFn prog 20 [v103,v105] w fun v106 w => S w ∧ (
 pq prog S (extract v106 0) fun v107 =>
 pq prog S (extract v106 1) fun v108 =>
 ∃ S : World → Prop,S w.drew ∧ (fun w =>
 pq prog S (nilSem p0) fun v111 =>
 pq prog S (fieldAt 181 v111 1) fun v112 =>
 pq prog S (loadAt 177 v112) fun v113 =>
 pq prog S (fieldAt 113 v3 1) fun v114 =>
 pq prog S (loadAt 9 v114) fun v115 =>
 pFn prog 101 [v113,v115] w fun v116 w => S w ∧ (
 pq prog S (extract v116 0) fun v117 =>
 pq prog S (extract v116 1) fun v118 =>
 px prog (fieldAt 113 v3 1) w fun v120 w =>
 px prog (loadAt 9 v120) w fun v121 w =>
 pFn prog 49 [v108,(.string (ByteArray.mk #[103,101,116])),v121,v118] w fun v123 w =>
 pG v123 true (fun k => k v107 w) (w := w) (next := fun v125 w =>
 pG v123 true (fun k => k v117 w) (w := w) (next := fun v126 w =>
 pG v123 true (fun k => pFn prog 21 [v125,v126] w k) (w := w) (next := fun v127 w =>
 px prog (pickSem v123 v127 (.bool false)) w fun v128 w =>
 k v128 w))))) w.drew)) w.drew)
 (
 px prog (binSem .eql 3 (.tmp 14) (.const (.int .i64 3)) v14 (.int .i64 3)) w fun v130 w =>
 pC v130 (
 ∃ S : World → Prop,S w.drew ∧ (fun w =>
 pq prog S (nilSem p0) fun v132 =>
 pq prog S (fieldAt 181 v132 0) fun v133 =>
 pq prog S (loadAt 24 v133) fun v134 =>
 pq prog S (fieldAt 113 v3 1) fun v135 =>
 pq prog S (loadAt 9 v135) fun v136 =>
 pq prog S (fieldAt 113 v3 1) fun v138 =>
 pq prog S (loadAt 9 v138) fun v139 =>
 pq prog S (nilSem p0) fun v141 =>
 pq prog S (fieldAt 181 v141 1) fun v142 =>
 pq prog S (loadAt 177 v142) fun v143 =>
 pq prog S (fieldAt 113 v3 1) fun v144 =>
 pq prog S (loadAt 9 v144) fun v145 =>
 pFn prog 50 [v134,v136] w fun v137 w => S w ∧ (
 pFn prog 102 [v143,v145] w fun v146 w => S w ∧ (
 pFn prog 49 [v137,(.string (ByteArray.mk #[100,114,111,112])),v139,v146] w fun v147 w => S w ∧ (
 k v147 w)))) w.drew)
 (
 ∃ S : World → Prop,S w.drew ∧ (fun w =>
 pq prog S (nilSem p0) fun v149 =>
 pq prog S (fieldAt 181 v149 0) fun v150 =>
 pq prog S (loadAt 24 v150) fun v151 =>
 pq prog S (fieldAt 113 v3 1) fun v152 =>
 pq prog S (loadAt 9 v152) fun v153 =>
 pq prog S (fieldAt 113 v3 1) fun v155 =>
 pq prog S (loadAt 9 v155) fun v156 =>
 pq prog S (nilSem p0) fun v158 =>
 pq prog S (fieldAt 181 v158 1) fun v159 =>
 pq prog S (loadAt 177 v159) fun v160 =>
 pq prog S (fieldAt 113 v3 1) fun v161 =>
 pq prog S (loadAt 9 v161) fun v162 =>
 pFn prog 51 [v151,v153] w fun v154 w => S w ∧ (
 pFn prog 103 [v160,v162] w fun v163 w => S w ∧ (
 pFn prog 49 [v154,(.string (ByteArray.mk #[99,108,101,97,110])),v156,v163] w fun v164 w => S w ∧ (
 k v164 w)))) w.drew)))
theorem F63_0_eq (p0:Value) (x1:Value) (w:World) (k:KV) : F63A k [] (argEnv [p0,x1]) w = F63_0 p0 x1 w k := by kernel_rfl
def F63_1 (k:KV) (N1:KE) (ρ:Env) (w:World) : Prop :=
 px prog (binSem .lss 3 (.tmp 25) (.const (.int .i64 40)) (ρ 6) (.int .i64 40)) w fun v26 w =>
 pC v26 (
 px prog (Instr.buildSlice 23 1 #[(0,(.int .u8 99))]) w fun v30 w =>
 px prog (bSem .append #[23,23] 23 #[(ρ 5),v30]) w fun v31 w =>
 px prog (binSem .add 3 (.tmp 27) (.const (.int .i64 1)) (ρ 6) (.int .i64 1)) w fun v28 w =>
 N1 (put (put (put (put (put (put (put (put (put ρ 25 (ρ 6)) 26 v26) 29 (ρ 5)) 30 v30) 31 v31) 5 v31) 27 (ρ 6)) 28 v28) 6 v28) w)
 (
 F63A k [1,0,1,0,1,0,1,1] (put (put ρ 25 (ρ 6)) 26 v26) w)
theorem F63_1_eq (k:KV) (N1:KE) (ρ:Env) (w:World) : F63A1 k N1 [] ρ w = F63_1 k N1 ρ w := by kernel_rfl
def F63_2 (k:KV) (ρ:Env) (w:World) : Prop :=
 ∃ S : World → Prop,S w.drew ∧ (fun w =>
 pq prog S (nilSem (ρ 0)) fun v33 =>
 pq prog S (fieldAt 181 v33 0) fun v34 =>
 pq prog S (loadAt 24 v34) fun v35 =>
 pq prog S (fieldAt 113 (ρ 3) 1) fun v36 =>
 pq prog S (loadAt 9 v36) fun v37 =>
 pq prog S (fieldAt 113 (ρ 3) 3) fun v39 =>
 pq prog S (loadAt 23 v39) fun v40 =>
 pq prog S (bSem .len #[23] 3 #[v40]) fun v41 =>
 pq prog S (sliceAt 23 (ρ 5) none (some v41) none) fun v42 =>
 pq prog S (fieldAt 113 (ρ 3) 1) fun v44 =>
 pq prog S (loadAt 9 v44) fun v45 =>
 pq prog S (nilSem (ρ 0)) fun v47 =>
 pq prog S (fieldAt 181 v47 1) fun v48 =>
 pq prog S (loadAt 177 v48) fun v49 =>
 pq prog S (fieldAt 113 (ρ 3) 1) fun v50 =>
 pq prog S (loadAt 9 v50) fun v51 =>
 pq prog S (fieldAt 113 (ρ 3) 3) fun v52 =>
 pq prog S (loadAt 23 v52) fun v53 =>
 pFn prog 19 [v35,v37,v42] w fun v43 w => S w ∧ (
 pFn prog 100 [v49,v51,v53] w fun v54 w => S w ∧ (
 pFn prog 49 [v43,(.string (ByteArray.mk #[112,117,116])),v45,v54] w fun v55 w => S w ∧ (
 F63L2 k (put (put (put (put (put (put (put (put (put (put (put (put (put (put (put (put (put (put (put (put (put (put (put (put (put (put ρ 32 (ρ 0)) 33 v33) 34 v34) 35 v35) 36 v36) 37 v37) 38 (ρ 5)) 39 v39) 40 v40) 41 v41) 42 v42) 44 v44) 45 v45) 46 (ρ 0)) 47 v47) 48 v48) 49 v49) 50 v50) 51 v51) 52 v52) 53 v53) 43 v43) 54 v54) 55 v55) 7 v55) 8 (.int .i64 0)) w)))) w.drew
theorem F63_2_eq (k:KV) (ρ:Env) (w:World) : F63A k [1,0,1,0,1,0,1,1] ρ w = F63_2 k ρ w := by kernel_rfl
def F63_3 (k:KV) (N2:KE) (ρ:Env) (w:World) : Prop :=
 px prog (bSem .len #[23] 3 #[(ρ 5)]) w fun v58 w =>
 px prog (binSem .lss 3 (.tmp 56) (.tmp 58) (ρ 8) v58) w fun v59 w =>
 pC v59 (
 ∃ S : World → Prop,S w.drew ∧ (fun w =>
 pq prog S (fieldAt 113 (ρ 3) 3) fun v63 =>
 pq prog S (loadAt 23 v63) fun v64 =>
 pq prog S (bSem .len #[23] 3 #[v64]) fun v65 =>
 pq prog S (binSem .lss 3 (.tmp 62) (.tmp 65) (ρ 8) v65) fun v66 =>
 pGq v66 true (fun k => k (ρ 5)) (next := fun v68 =>
 pGq v66 true (fun k => k (ρ 8)) (next := fun v69 =>
 pGq v66 true (fun k => pq prog S (indexAt 23 v68 v69) k) (next := fun v70 =>
 pGq v66 true (fun k => pq prog S (loadAt 5 v70) k) (next := fun v71 =>
 pGq v66 true (fun k => pq prog S (fieldAt 113 (ρ 3) 3) k) (next := fun v72 =>
 pGq v66 true (fun k => pq prog S (loadAt 23 v72) k) (next := fun v73 =>
 pGq v66 true (fun k => k (ρ 8)) (next := fun v74 =>
 pGq v66 true (fun k => pq prog S (indexAt 23 v73 v74) k) (next := fun v75 =>
 pGq v66 true (fun k => pq prog S (loadAt 5 v75) k) (next := fun v76 =>
 pGq v66 true (fun k => pq prog S (binSem .neq 5 (.tmp 71) (.tmp 76) v71 v76) k) (next := fun v77 =>
 pq prog S (pickSem v66 v77 (.bool false)) fun v78 =>
 pGq v78 false (fun k => k (ρ 8)) (next := fun v80 =>
 pGq v78 false (fun k => pq prog S (fieldAt 113 (ρ 3) 3) k) (next := fun v81 =>
 pGq v78 false (fun k => pq prog S (loadAt 23 v81) k) (next := fun v82 =>
 pGq v78 false (fun k => pq prog S (bSem .len #[23] 3 #[v82]) k) (next := fun v83 =>
 pGq v78 false (fun k => pq prog S (binSem .geq 3 (.tmp 80) (.tmp 83) v80 v83) k) (next := fun v84 =>
 pGq v78 false (fun k => k v84) (next := fun v85 =>
 pGq v85 true (fun k => k (ρ 5)) (next := fun v86 =>
 pGq v85 true (fun k => k (ρ 8)) (next := fun v87 =>
 pGq v85 true (fun k => pq prog S (indexAt 23 v86 v87) k) (next := fun v88 =>
 pGq v85 true (fun k => pq prog S (loadAt 5 v88) k) (next := fun v89 =>
 pGq v85 true (fun k => pq prog S (binSem .neq 5 (.tmp 89) (.const (.int .u8 99)) v89 (.int .u8 99)) k) (next := fun v90 =>
 pGq v78 false (fun k => pq prog S (pickSem v85 v90 (.bool false)) k) (next := fun v91 =>
 pq prog S (pickSem v78 (.bool true) v91) fun v92 =>
 pC v92 (
 F63A2 k N2 [1,0,0,1] (put (put (put (put (put (put (put (put (put (put (put (put (put (put (put (put (put (put (put (put (put (put (put (put (put (put (put (put (put (put (put (put (put (put (put (put ρ 56 (ρ 8)) 57 (ρ 5)) 58 v58) 59 v59) 62 (ρ 8)) 63 v63) 64 v64) 65 v65) 66 v66) 67 v66) 68 v68) 69 v69) 70 v70) 71 v71) 72 v72) 73 v73) 74 v74) 75 v75) 76 v76) 77 v77) 78 v78) 79 v78) 80 v80) 81 v81) 82 v82) 83 v83) 84 v84) 85 v85) 86 v86) 87 v87) 88 v88) 89 v89) 90 v90) 91 v91) 92 v92) 7 (.bool false)) w)
 (
 F63A2 k N2 [1,0,0,1] (put (put (put (put (put (put (put (put (put (put (put (put (put (put (put (put (put (put (put (put (put (put (put (put (put (put (put (put (put (put (put (put (put (put (put ρ 56 (ρ 8)) 57 (ρ 5)) 58 v58) 59 v59) 62 (ρ 8)) 63 v63) 64 v64) 65 v65) 66 v66) 67 v66) 68 v68) 69 v69) 70 v70) 71 v71) 72 v72) 73 v73) 74 v74) 75 v75) 76 v76) 77 v77) 78 v78) 79 v78) 80 v80) 81 v81) 82 v82) 83 v83) 84 v84) 85 v85) 86 v86) 87 v87) 88 v88) 89 v89) 90 v90) 91 v91) 92 v92) w)))))))))))))))))))))))) w.drew)
 (
 F63A k [1,0,1,0,1,0,1,1,1,1] (put (put (put (put ρ 56 (ρ 8)) 57 (ρ 5)) 58 v58) 59 v59) w)
theorem F63_3_eq (k:KV) (N2:KE) (ρ:Env) (w:World) : F63A2 k N2 [] ρ w = F63_3 k N2 ρ w := by kernel_rfl
def F63_4 (k:KV) (N2:KE) (ρ:Env) (w:World) : Prop :=
 px prog (indexAt 23 (ρ 5) (ρ 8)) w fun v95 w =>
 pu prog (storeAt 5 v95 (.int .u8 77)) w fun w =>
 px prog (binSem .add 3 (.tmp 60) (.const (.int .i64 1)) (ρ 8) (.int .i64 1)) w fun v61 w =>
 N2 (put (put (put (put (put (put ρ 93 (ρ 5)) 94 (ρ 8)) 95 v95) 60 (ρ 8)) 61 v61) 8 v61) w
theorem F63_4_eq (k:KV) (N2:KE) (ρ:Env) (w:World) : F63A2 k N2 [1,0,0,1] ρ w = F63_4 k N2 ρ w := by kernel_rfl
def F63_5 (k:KV) (ρ:Env) (w:World) : Prop :=
 k (ρ 7) w
theorem F63_5_eq (k:KV) (ρ:Env) (w:World) : F63A k [1,0,1,0,1,0,1,1,1,1] ρ w = F63_5 k ρ w := by kernel_rfl
theorem F63_in (p0:Value) (x1:Value) (w:World) (k:KV) (h:F63_0 p0 x1 w k) : pFn prog 63 [p0,x1] w k :=
 pFn_of_at mixed func63 (by kernel_rfl) (by kernel_rfl) ntmps63 (by kernel_rfl) (by kernel_rfl) (by simp) ((F63_0_eq p0 x1 w k).mpr h)
noncomputable def F64B : Code := bodyOf f64
def F64A (k:KV) (q:List Nat) (ρ:Env) (w:World) : Prop := At prog 201 F64B (retQ prog f64.results.toList k) q ρ w
noncomputable def F64B1 : Code := sub F64B [1,0,1,0,1,1,1,1,1,1,1,1,1,1,1,1,1,1,1,1,1,1,1,0,1,0,0]
def F64Q1 (k:KV) (N1:KE) : Xt → KE := thenE N1 (contAt prog 201 F64B (retQ prog f64.results.toList k) [1,0,1,0,1,1,1,1,1,1,1,1,1,1,1,1,1,1,1,1,1,1,1,0,1,0])
def F64A1 (k:KV) (N1:KE) (q:List Nat) (ρ:Env) (w:World) : Prop := At prog 201 F64B1 (F64Q1 k N1) q ρ w
def F64L1 (k:KV) (ρ:Env) (w:World) : Prop := LoopAt prog 201 F64B (retQ prog f64.results.toList k) [1,0,1,0,1,1,1,1,1,1,1,1,1,1,1,1,1,1,1,1,1,1,1,0,1,0] ρ w
theorem F64L1_inv (k:KV) (I:Nat → KE) (round:∀ m ρ w,I m ρ w → F64A1 k (fun ρ' w' => ∃ m',m' < m ∧ I m' ρ' w') [] ρ w) {m:Nat} {ρ:Env} {w:World} (h:I m ρ w) : F64L1 k ρ w :=
 LoopAt_inv mixed (B := F64B) (Q := (retQ prog f64.results.toList k)) (p := [1,0,1,0,1,1,1,1,1,1,1,1,1,1,1,1,1,1,1,1,1,1,1,0,1,0]) (by kernel_rfl) (by kernel_rfl) I round h
def F64_0 (p0:Value) (x1:Value) (w:World) (k:KV) : Prop :=
 px prog (Instr.box 113 x1) w fun v3 w =>
 px prog (fieldAt 113 v3 0) w fun v7 w =>
 px prog (loadAt 3 v7) w fun v8 w =>
 px prog (binSem .eql 3 (.tmp 8) (.const (.int .i64 5)) v8 (.int .i64 5)) w fun v10 w =>
 pC v10 (
 ∃ S : World → Prop,S w.drew ∧ (fun w =>
 pq prog S (nilSem p0) fun v12 =>
 pq prog S (fieldAt 181 v12 0) fun v13 =>
 pq prog S (loadAt 24 v13) fun v14 =>
 pq prog S (fieldAt 113 v3 1) fun v15 =>
 pq prog S (loadAt 9 v15) fun v16 =>
 pq prog S (nilSem p0) fun v19 =>
 pq prog S (fieldAt 181 v19 1) fun v20 =>
 pq prog S (loadAt 177 v20) fun v21 =>
 pq prog S (fieldAt 113 v3 1) fun v22 =>
 pq prog S (loadAt 9 v22) fun v23 =>
 pFn prog 73 [v14,v16] w fun v17 w => S w ∧ (
 pFn prog 104 [v21,v23] w fun v24 w => S w ∧ (
 pq prog S (binSem .eql 3 (.tmp 17) (.tmp 24) v17 v24) fun v25 =>
 k v25 w))) w.drew)
 (
 px prog (binSem .eql 3 (.tmp 8) (.const (.int .i64 6)) v8 (.int .i64 6)) w fun v27 w =>
 pC v27 (
 ∃ S : World → Prop,S w.drew ∧ (fun w =>
 pq prog S (nilSem p0) fun v29 =>
 pq prog S (fieldAt 181 v29 0) fun v30 =>
 pq prog S (loadAt 24 v30) fun v31 =>
 pq prog S (fieldAt 113 v3 1) fun v32 =>
 pq prog S (loadAt 9 v32) fun v33 =>
 pq prog S (fieldAt 113 v3 3) fun v34 =>
 pq prog S (loadAt 23 v34) fun v35 =>
 pq prog S (nilSem p0) fun v38 =>
 pq prog S (fieldAt 181 v38 1) fun v39 =>
 pq prog S (loadAt 177 v39) fun v40 =>
 pq prog S (fieldAt 113 v3 1) fun v41 =>
 pq prog S (loadAt 9 v41) fun v42 =>
 pq prog S (fieldAt 113 v3 3) fun v43 =>
 pq prog S (loadAt 23 v43) fun v44 =>
 pFn prog 74 [v31,v33,v35] w fun v36 w => S w ∧ (
 pFn prog 105 [v40,v42,v44] w fun v45 w => S w ∧ (
 pq prog S (binSem .eql 3 (.tmp 36) (.tmp 45) v36 v45) fun v46 =>
 k v46 w))) w.drew)
 (
 px prog (binSem .eql 3 (.tmp 8) (.const (.int .i64 7)) v8 (.int .i64 7)) w fun v48 w =>
 pC v48 (
 ∃ S : World → Prop,S w.drew ∧ (fun w =>
 pq prog S (nilSem p0) fun v50 =>
 pq prog S (fieldAt 181 v50 0) fun v51 =>
 pq prog S (loadAt 24 v51) fun v52 =>
 pq prog S (fieldAt 113 v3 1) fun v53 =>
 pq prog S (loadAt 9 v53) fun v54 =>
 pq prog S (fieldAt 113 v3 4) fun v55 =>
 pq prog S (loadAt 3 v55) fun v56 =>
 pq prog S (nilSem p0) fun v59 =>
 pq prog S (fieldAt 181 v59 1) fun v60 =>
 pq prog S (loadAt 177 v60) fun v61 =>
 pq prog S (fieldAt 113 v3 1) fun v62 =>
 pq prog S (loadAt 9 v62) fun v63 =>
 pq prog S (fieldAt 113 v3 4) fun v64 =>
 pq prog S (loadAt 3 v64) fun v65 =>
 pFn prog 106 [v52,v54,v56] w fun v57 w => S w ∧ (
 pFn prog 107 [v61,v63,v65] w fun v66 w => S w ∧ (
 pq prog S (binSem .eql 3 (.tmp 57) (.tmp 66) v57 v66) fun v67 =>
 k v67 w))) w.drew)
 (
 px prog (binSem .eql 3 (.tmp 8) (.const (.int .i64 8)) v8 (.int .i64 8)) w fun v69 w =>
 pC v69 (
 ∃ S : World → Prop,S w.drew ∧ (fun w =>
 pq prog S (nilSem p0) fun v71 =>
 pq prog S (fieldAt 181 v71 0) fun v72 =>
 pq prog S (loadAt 24 v72) fun v73 =>
 pq prog S (fieldAt 113 v3 1) fun v74 =>
 pq prog S (loadAt 9 v74) fun v75 =>
 pq prog S (fieldAt 113 v3 2) fun v76 =>
 pq prog S (loadAt 9 v76) fun v77 =>
 pq prog S (nilSem p0) fun v80 =>
 pq prog S (fieldAt 181 v80 1) fun v81 =>
 pq prog S (loadAt 177 v81) fun v82 =>
 pq prog S (fieldAt 113 v3 1) fun v83 =>
 pq prog S (loadAt 9 v83) fun v84 =>
 pq prog S (fieldAt 113 v3 2) fun v85 =>
 pq prog S (loadAt 9 v85) fun v86 =>
 pFn prog 76 [v73,v75,v77] w fun v78 w => S w ∧ (
 pFn prog 108 [v82,v84,v86] w fun v87 w => S w ∧ (
 pq prog S (binSem .eql 3 (.tmp 78) (.tmp 87) v78 v87) fun v88 =>
 k v88 w))) w.drew)
 (
 px prog (binSem .eql 3 (.tmp 8) (.const (.int .i64 9)) v8 (.int .i64 9)) w fun v90 w =>
 pC v90 (
 ∃ S : World → Prop,S w.drew ∧ (fun w =>
 pq prog S (nilSem p0) fun v92 =>
 pq prog S (fieldAt 181 v92 0) fun v93 =>
 pq prog S (loadAt 24 v93) fun v94 =>
 pq prog S (fieldAt 113 v3 1) fun v95 =>
 pq prog S (loadAt 9 v95) fun v96 =>
 pq prog S (nilSem p0) fun v99 =>
 pq prog S (fieldAt 181 v99 1) fun v100 =>
 pq prog S (loadAt 177 v100) fun v101 =>
 pq prog S (fieldAt 113 v3 1) fun v102 =>
 pq prog S (loadAt 9 v102) fun v103 =>
 pFn prog 70 [v94,v96] w fun v97 w => S w ∧ (
 pFn prog 109 [v101,v103] w fun v104 w => S w ∧ (
 pq prog S (binSem .eql 3 (.tmp 97) (.tmp 104) v97 v104) fun v105 =>
 k v105 w))) w.drew)
 (
 px prog (binSem .eql 3 (.tmp 8) (.const (.int .i64 10)) v8 (.int .i64 10)) w fun v107 w =>
 pC v107 (
 ∃ S : World → Prop,S w.drew ∧ (fun w =>
 pq prog S (nilSem p0) fun v109 =>
 pq prog S (fieldAt 181 v109 0) fun v110 =>
 pq prog S (loadAt 24 v110) fun v111 =>
 pq prog S (fieldAt 113 v3 1) fun v112 =>
 pq prog S (loadAt 9 v112) fun v113 =>
 pq prog S (nilSem p0) fun v116 =>
 pq prog S (fieldAt 181 v116 1) fun v117 =>
 pq prog S (loadAt 177 v117) fun v118 =>
 pq prog S (fieldAt 113 v3 1) fun v119 =>
 pq prog S (loadAt 9 v119) fun v120 =>
 pFn prog 75 [v111,v113] w fun v114 w => S w ∧ (
 pFn prog 110 [v118,v120] w fun v121 w => S w ∧ (
 pq prog S (binSem .eql 3 (.tmp 114) (.tmp 121) v114 v121) fun v122 =>
 k v122 w))) w.drew)
 (
 px prog (binSem .eql 3 (.tmp 8) (.const (.int .i64 11)) v8 (.int .i64 11)) w fun v124 w =>
 pC v124 (
 ∃ S : World → Prop,S w.drew ∧ (fun w =>
 pq prog S (nilSem p0) fun v126 =>
 pq prog S (fieldAt 181 v126 0) fun v127 =>
 pq prog S (loadAt 24 v127) fun v128 =>
 pq prog S (nilSem p0) fun v131 =>
 pq prog S (fieldAt 181 v131 1) fun v132 =>
 pq prog S (loadAt 177 v132) fun v133 =>
 pFn prog 71 [v128] w fun v129 w => S w ∧ (
 pFn prog 111 [v133] w fun v134 w => S w ∧ (
 pq prog S (binSem .eql 3 (.tmp 129) (.tmp 134) v129 v134) fun v135 =>
 k v135 w))) w.drew)
 (
 px prog (binSem .eql 3 (.tmp 8) (.const (.int .i64 12)) v8 (.int .i64 12)) w fun v137 w =>
 pC v137 (
 ∃ S : World → Prop,S w.drew ∧ (fun w =>
 pq prog S (nilSem p0) fun v139 =>
 pq prog S (fieldAt 181 v139 0) fun v140 =>
 pq prog S (loadAt 24 v140) fun v141 =>
 pq prog S (fieldAt 113 v3 5) fun v142 =>
 pq prog S (loadAt 85 v142) fun v143 =>
 pFn prog 55 [v141,v143] w fun v144 w => (
 ∃ S : World → Prop,S w.drew ∧ (fun w =>
 pq prog S (nilSem p0) fun v146 =>
 pq prog S (fieldAt 181 v146 1) fun v147 =>
 pq prog S (loadAt 177 v147) fun v148 =>
 pq prog S (fieldAt 113 v3 5) fun v149 =>
 pq prog S (loadAt 85 v149) fun v150 =>
 pFn prog 112 [v148,v150] w fun v151 w => (
 F64A k [1,1] (put (put (put (put (put (put (put (put (put (put (put (put (put (put (put (put (put (put (put (put (put (put (put (put (put (put (put (put (put (put (put (put (put (put (argEnv [p0,x1]) 3 v3) 4 (.bool false)) 7 v7) 8 v8) 10 v10) 9 v10) 27 v27) 26 v27) 48 v48) 47 v48) 69 v69) 68 v69) 90 v90) 89 v90) 107 v107) 106 v107) 124 v124) 123 v124) 137 v137) 136 v137) 138 p0) 139 v139) 140 v140) 141 v141) 142 v142) 143 v143) 144 v144) 145 p0) 146 v146) 147 v147) 148 v148) 149 v149) 150 v150) 151 v151) w)) w.drew)) w.drew)
 (
 px prog (binSem .eql 3 (.tmp 8) (.const (.int .i64 13)) v8 (.int .i64 13)) w fun v153 w =>
 pC v153 (
 ∃ S : World → Prop,S w.drew ∧ (fun w =>
 pq prog S (nilSem p0) fun v155 =>
 pq prog S (fieldAt 181 v155 0) fun v156 =>
 pq prog S (loadAt 24 v156) fun v157 =>
 pq prog S (fieldAt 113 v3 6) fun v158 =>
 pq prog S (loadAt 58 v158) fun v159 =>
 pFn prog 57 [v157,v159] w fun v160 w => (
 ∃ S : World → Prop,S w.drew ∧ (fun w =>
 pq prog S (nilSem p0) fun v162 =>
 pq prog S (fieldAt 181 v162 1) fun v163 =>
 pq prog S (loadAt 177 v163) fun v164 =>
 pq prog S (fieldAt 113 v3 6) fun v165 =>
 pq prog S (loadAt 58 v165) fun v166 =>
 pFn prog 113 [v164,v166] w fun v167 w => (
 F64A k [1,1] (put (put (put (put (put (put (put (put (put (put (put (put (put (put (put (put (put (put (put (put (put (put (put (put (put (put (put (put (put (put (put (put (put (put (put (put (argEnv [p0,x1]) 3 v3) 4 (.bool false)) 7 v7) 8 v8) 10 v10) 9 v10) 27 v27) 26 v27) 48 v48) 47 v48) 69 v69) 68 v69) 90 v90) 89 v90) 107 v107) 106 v107) 124 v124) 123 v124) 137 v137) 136 v137) 153 v153) 152 v153) 154 p0) 155 v155) 156 v156) 157 v157) 158 v158) 159 v159) 160 v160) 161 p0) 162 v162) 163 v163) 164 v164) 165 v165) 166 v166) 167 v167) w)) w.drew)) w.drew)
 (
 px prog (binSem .eql 3 (.tmp 8) (.const (.int .i64 14)) v8 (.int .i64 14)) w fun v169 w =>
 pC v169 (
 F64L1 k (put (put (put (put (put (put (put (put (put (put (put (put (put (put (put (put (put (put (put (put (put (put (put (put (put (argEnv [p0,x1]) 3 v3) 4 (.bool false)) 7 v7) 8 v8) 10 v10) 9 v10) 27 v27) 26 v27) 48 v48) 47 v48) 69 v69) 68 v69) 90 v90) 89 v90) 107 v107) 106 v107) 124 v124) 123 v124) 137 v137) 136 v137) 153 v153) 152 v153) 169 v169) 168 v169) 5 (.int .i64 0)) w)
 (
 F64A k [1,1] (put (put (put (put (put (put (put (put (put (put (put (put (put (put (put (put (put (put (put (put (put (put (put (put (argEnv [p0,x1]) 3 v3) 4 (.bool false)) 7 v7) 8 v8) 10 v10) 9 v10) 27 v27) 26 v27) 48 v48) 47 v48) 69 v69) 68 v69) 90 v90) 89 v90) 107 v107) 106 v107) 124 v124) 123 v124) 137 v137) 136 v137) 153 v153) 152 v153) 169 v169) 168 v169) w))))))))))
theorem F64_0_eq (p0:Value) (x1:Value) (w:World) (k:KV) : F64A k [] (argEnv [p0,x1]) w = F64_0 p0 x1 w k := by kernel_rfl
def F64_1 (k:KV) (ρ:Env) (w:World) : Prop :=
 k (.bool true) w
theorem F64_1_eq (k:KV) (ρ:Env) (w:World) : F64A k [1,1] ρ w = F64_1 k ρ w := by kernel_rfl
def F64_2 (k:KV) (N1:KE) (ρ:Env) (w:World) : Prop :=
 px prog (fieldAt 113 (ρ 3) 4) w fun v171 w =>
 px prog (loadAt 3 v171) w fun v172 w =>
 pFn prog 52 [v172,(.int .i64 300)] w fun v173 w =>
 px prog (binSem .lss 3 (.tmp 170) (.tmp 173) (ρ 5) v173) w fun v174 w =>
 pC v174 (
 px prog (binSem .quo 3 (.tmp 177) (.const (.int .i64 26)) (ρ 5) (.int .i64 26)) w fun v178 w =>
 px prog (binSem .add 3 (.const (.int .i64 97)) (.tmp 178) (.int .i64 97) v178) w fun v179 w =>
 px prog (convert 3 5 v179) w fun v180 w =>
 px prog (binSem .rem 3 (.tmp 181) (.const (.int .i64 26)) (ρ 5) (.int .i64 26)) w fun v182 w =>
 px prog (binSem .add 3 (.const (.int .i64 97)) (.tmp 182) (.int .i64 97) v182) w fun v183 w =>
 px prog (convert 3 5 v183) w fun v184 w =>
 px prog (Instr.buildSlice 23 2 #[(0,v180),(1,v184)]) w fun v185 w =>
 px prog (convert 23 9 v185) w fun v186 w =>
 px prog (binSem .add 9 (.const (.string (ByteArray.mk #[109,97,110,121]))) (.tmp 186) (.string (ByteArray.mk #[109,97,110,121])) v186) w fun v187 w =>
 ∃ S : World → Prop,S w.drew ∧ (fun w =>
 pq prog S (nilSem (ρ 0)) fun v189 =>
 pq prog S (fieldAt 181 v189 0) fun v190 =>
 pq prog S (loadAt 24 v190) fun v191 =>
 pq prog S (nilSem (ρ 0)) fun v195 =>
 pq prog S (fieldAt 181 v195 1) fun v196 =>
 pq prog S (loadAt 177 v196) fun v197 =>
 pFn prog 73 [v191,v187] w fun v193 w => S w ∧ (
 pFn prog 104 [v197,v187] w fun v199 w => S w ∧ (
 pq prog S (binSem .neq 3 (.tmp 193) (.tmp 199) v193 v199) fun v200 =>
 pC v200 (
 k (.bool false) w)
 (
 px prog (binSem .add 3 (.tmp 175) (.const (.int .i64 1)) (ρ 5) (.int .i64 1)) w fun v176 w =>
 N1 (put (put (put (put (put (put (put (put (put (put (put (put (put (put (put (put (put (put (put (put (put (put (put (put (put (put (put (put (put (put (put (put (put ρ 170 (ρ 5)) 171 v171) 172 v172) 173 v173) 174 v174) 177 (ρ 5)) 178 v178) 179 v179) 180 v180) 181 (ρ 5)) 182 v182) 183 v183) 184 v184) 185 v185) 186 v186) 187 v187) 6 v187) 188 (ρ 0)) 189 v189) 190 v190) 191 v191) 192 v187) 194 (ρ 0)) 195 v195) 196 v196) 197 v197) 198 v187) 193 v193) 199 v199) 200 v200) 175 (ρ 5)) 176 v176) 5 v176) w)))) w.drew)
 (
 F64A k [1,1] (put (put (put (put (put ρ 170 (ρ 5)) 171 v171) 172 v172) 173 v173) 174 v174) w)
theorem F64_2_eq (k:KV) (N1:KE) (ρ:Env) (w:World) : F64A1 k N1 [] ρ w = F64_2 k N1 ρ w := by kernel_rfl
theorem F64_in (p0:Value) (x1:Value) (w:World) (k:KV) (h:F64_0 p0 x1 w k) : pFn prog 64 [p0,x1] w k :=
 pFn_of_at mixed func64 (by kernel_rfl) (by kernel_rfl) ntmps64 (by kernel_rfl) (by kernel_rfl) (by simp) ((F64_0_eq p0 x1 w k).mpr h)
noncomputable def F65B : Code := bodyOf f65
def F65A (k:KV) (q:List Nat) (ρ:Env) (w:World) : Prop := At prog 53 F65B (retQ prog f65.results.toList k) q ρ w
def F65_0 (p0:Value) (w:World) (k:KV) : Prop :=
 ∃ S : World → Prop,S w.drew ∧ (fun w =>
 pq prog S (nilSem p0) fun v4 =>
 pq prog S (fieldAt 181 v4 0) fun v5 =>
 pq prog S (loadAt 24 v5) fun v6 =>
 pq prog S (nilSem p0) fun v9 =>
 pq prog S (fieldAt 181 v9 1) fun v10 =>
 pq prog S (loadAt 177 v10) fun v11 =>
 pFn prog 59 [v6] w fun v7 w => S w ∧ (
 pFn prog 114 [v11] w fun v12 w => S w ∧ (
 pq prog S (binSem .eql 4 (.tmp 7) (.tmp 12) v7 v12) fun v13 =>
 pGq v13 true (fun k => k p0) (next := fun v15 =>
 pGq v13 true (fun k => pq prog S (nilSem v15) k) (next := fun v16 =>
 pGq v13 true (fun k => pq prog S (fieldAt 181 v16 0) k) (next := fun v17 =>
 pGq v13 true (fun k => pq prog S (loadAt 24 v17) k) (next := fun v18 =>
 pGq v13 true (fun k => k p0) (next := fun v20 =>
 pGq v13 true (fun k => pq prog S (nilSem v20) k) (next := fun v21 =>
 pGq v13 true (fun k => pq prog S (fieldAt 181 v21 1) k) (next := fun v22 =>
 pGq v13 true (fun k => pq prog S (loadAt 177 v22) k) (next := fun v23 =>
 pG v13 true (fun k => pFn prog 56 [v18] w k) (w := w) (next := fun v19 w => S w ∧ (
 pG v13 true (fun k => pFn prog 115 [v23] w k) (w := w) (next := fun v24 w => S w ∧ (
 pGq v13 true (fun k => pq prog S (binSem .eql 3 (.tmp 19) (.tmp 24) v19 v24) k) (next := fun v25 =>
 pq prog S (pickSem v13 v25 (.bool false)) fun v26 =>
 pGq v26 true (fun k => k p0) (next := fun v28 =>
 pGq v26 true (fun k => pq prog S (nilSem v28) k) (next := fun v29 =>
 pGq v26 true (fun k => pq prog S (fieldAt 181 v29 0) k) (next := fun v30 =>
 pGq v26 true (fun k => pq prog S (loadAt 24 v30) k) (next := fun v31 =>
 pGq v26 true (fun k => k p0) (next := fun v33 =>
 pGq v26 true (fun k => pq prog S (nilSem v33) k) (next := fun v34 =>
 pGq v26 true (fun k => pq prog S (fieldAt 181 v34 1) k) (next := fun v35 =>
 pGq v26 true (fun k => pq prog S (loadAt 177 v35) k) (next := fun v36 =>
 pG v26 true (fun k => pFn prog 22 [v31] w k) (w := w) (next := fun v32 w => S w ∧ (
 pG v26 true (fun k => pFn prog 116 [v36] w k) (w := w) (next := fun v37 w => S w ∧ (
 pG v26 true (fun k => pFn prog 24 [v32,v37] w k) (w := w) (next := fun v38 w => S w ∧ (
 pq prog S (pickSem v26 v38 (.bool false)) fun v39 =>
 pGq v39 true (fun k => k p0) (next := fun v41 =>
 pGq v39 true (fun k => pq prog S (nilSem v41) k) (next := fun v42 =>
 pGq v39 true (fun k => pq prog S (fieldAt 181 v42 0) k) (next := fun v43 =>
 pGq v39 true (fun k => pq prog S (loadAt 24 v43) k) (next := fun v44 =>
 pGq v39 true (fun k => k p0) (next := fun v46 =>
 pGq v39 true (fun k => pq prog S (nilSem v46) k) (next := fun v47 =>
 pGq v39 true (fun k => pq prog S (fieldAt 181 v47 1) k) (next := fun v48 =>
 pGq v39 true (fun k => pq prog S (loadAt 177 v48) k) (next := fun v49 =>
 pG v39 true (fun k => pFn prog 117 [v44] w k) (w := w) (next := fun v45 w => S w ∧ (
 pG v39 true (fun k => pFn prog 118 [v49] w k) (w := w) (next := fun v50 w => S w ∧ (
 pG v39 true (fun k => pFn prog 24 [v45,v50] w k) (w := w) (next := fun v51 w => S w ∧ (
 pq prog S (pickSem v39 v51 (.bool false)) fun v52 =>
 k v52 w)))))))))))))))))))))))))))))))))))))))))))) w.drew
theorem F65_0_eq (p0:Value) (w:World) (k:KV) : F65A k [] (argEnv [p0]) w = F65_0 p0 w k := by kernel_rfl
theorem F65_in (p0:Value) (w:World) (k:KV) (h:F65_0 p0 w k) : pFn prog 65 [p0] w k :=
 pFn_of_at mixed func65 (by kernel_rfl) (by kernel_rfl) ntmps65 (by kernel_rfl) (by kernel_rfl) (by simp) ((F65_0_eq p0 w k).mpr h)
end Go.Proofs.YteeeggphkhimcaaGreatDoor
