/- Put together by a program (wip/tools/shake.py): R5,Err. -/
import Derived.Test.YteeeggphkhimcaaGreatDoorE1
import Derived.Test.YteeeggphkhimcaaGreatDoorProg
import Derived.Test.YteeeggphkhimcaaGreatDoorMix
import Derived.Test.YteeeggphkhimcaaGreatDoorE5
import Derived.Stop.Asserts
import Derived.LaidEql
set_option linter.unusedVariables false
set_option maxRecDepth 100000
namespace Go.Proofs.YteeeggphkhimcaaGreatDoor
open Go Go.Proofs Go.Proofs.XRed Tryz
open Go.Instr (fieldAt loadAt storeAt indexAt sliceAt extract)
noncomputable def F20B : Code := bodyOf f20
def F20A (k:KV) (q:List Nat) (ρ:Env) (w:World) : Prop := At prog 38 F20B (retQ prog f20.results.toList k) q ρ w
def F20_0 (d0:Value) (name1:Value) (w:World) (k:KV) : Prop :=
 pFn prog 66 [name1,(.int .i64 112)] w fun v10 w =>
 px prog (Op.unary .not v10) w fun v11 w =>
 pC v11 (
 pFn prog 67 [(.string (ByteArray.mk #[103,101,116])),name1,(.int .i64 51)] w fun v13 w =>
 k (.tuple #[(.slice none 0 0),v13]) w)
 (
 pFn prog 72 [d0,name1] w fun v17 w =>
 px prog (extract v17 0) w fun v18 w =>
 px prog (extract v17 1) w fun v19 w =>
 px prog (binSem .neq 25 (.tmp 20) (.const (.int .i64 0)) v19 (.int .i64 0)) w fun v21 w =>
 pC v21 (
 pFn prog 67 [(.string (ByteArray.mk #[103,101,116])),name1,v19] w fun v24 w =>
 k (.tuple #[(.slice none 0 0),v24]) w)
 (
 pFn prog 77 [d0,name1,(.int .i64 0),v18] w fun v29 w =>
 px prog (extract v29 0) w fun v30 w =>
 px prog (extract v29 1) w fun v31 w =>
 px prog (binSem .neq 25 (.tmp 32) (.const (.int .i64 0)) v31 (.int .i64 0)) w fun v33 w =>
 pC v33 (
 pFn prog 67 [(.string (ByteArray.mk #[103,101,116])),name1,v31] w fun v36 w =>
 k (.tuple #[(.slice none 0 0),v36]) w)
 (
 k (.tuple #[v30,.nilIface]) w)))
theorem F20_0_eq (d0:Value) (name1:Value) (w:World) (k:KV) : F20A k [] (argEnv [d0,name1]) w = F20_0 d0 name1 w k := by kernel_rfl
theorem F20_in (d0:Value) (name1:Value) (w:World) (k:KV) (h:F20_0 d0 name1 w k) : pFn prog 20 [d0,name1] w k :=
 pFn_of_at mixed func20 (by kernel_rfl) (by kernel_rfl) ntmps20 (by kernel_rfl) (by kernel_rfl) (by simp) ((F20_0_eq d0 name1 w k).mpr h)
noncomputable def F66B : Code := bodyOf f66
def F66A (k:KV) (q:List Nat) (ρ:Env) (w:World) : Prop := At prog 44 F66B (retQ prog f66.results.toList k) q ρ w
noncomputable def F66B1 : Code := sub F66B [1,1,0,1,0,0]
def F66Q1 (k:KV) (N1:KE) : Xt → KE := thenE N1 (contAt prog 44 F66B (retQ prog f66.results.toList k) [1,1,0,1,0])
def F66A1 (k:KV) (N1:KE) (q:List Nat) (ρ:Env) (w:World) : Prop := At prog 44 F66B1 (F66Q1 k N1) q ρ w
def F66L1 (k:KV) (ρ:Env) (w:World) : Prop := LoopAt prog 44 F66B (retQ prog f66.results.toList k) [1,1,0,1,0] ρ w
theorem F66L1_inv (k:KV) (I:Nat → KE) (round:∀ m ρ w,I m ρ w → F66A1 k (fun ρ' w' => ∃ m',m' < m ∧ I m' ρ' w') [] ρ w) {m:Nat} {ρ:Env} {w:World} (h:I m ρ w) : F66L1 k ρ w :=
 LoopAt_inv mixed (B := F66B) (Q := (retQ prog f66.results.toList k)) (p := [1,1,0,1,0]) (by kernel_rfl) (by kernel_rfl) I round h
def F66_0 (name0:Value) (most1:Value) (w:World) (k:KV) : Prop :=
 px prog (binSem .eql 9 (.tmp 7) (.const (.string (ByteArray.mk #[]))) name0 (.string (ByteArray.mk #[]))) w fun v8 w =>
 pG v8 false (fun k => k name0 w) (w := w) (next := fun v10 w =>
 pG v8 false (fun k => px prog (bSem .len #[9] 3 #[v10]) w k) (w := w) (next := fun v11 w =>
 pG v8 false (fun k => k most1 w) (w := w) (next := fun v12 w =>
 pG v8 false (fun k => px prog (binSem .gtr 3 (.tmp 11) (.tmp 12) v11 v12) w k) (w := w) (next := fun v13 w =>
 px prog (pickSem v8 (.bool true) v13) w fun v14 w =>
 pC v14 (
 k (.bool false) w)
 (
 px prog (bSem .len #[9] 3 #[name0]) w fun v16 w =>
 F66L1 k (put (put (put (put (put (put (put (put (put (put (put (put (argEnv [name0,most1]) 4 (.bool false)) 7 name0) 8 v8) 9 v8) 10 v10) 11 v11) 12 v12) 13 v13) 14 v14) 15 name0) 16 v16) 17 (.int .i64 0)) w)))))
theorem F66_0_eq (name0:Value) (most1:Value) (w:World) (k:KV) : F66A k [] (argEnv [name0,most1]) w = F66_0 name0 most1 w k := by kernel_rfl
def F66_1 (k:KV) (N1:KE) (ρ:Env) (w:World) : Prop :=
 px prog (binSem .lss 3 (.tmp 17) (.tmp 16) (ρ 17) (ρ 16)) w fun v18 w =>
 pC v18 (
 px prog (Instr.index 9 (ρ 0) (ρ 17)) w fun v22 w =>
 px prog (binSem .geq 5 (.tmp 23) (.const (.int .u8 97)) v22 (.int .u8 97)) w fun v24 w =>
 pG v24 true (fun k => k v22 w) (w := w) (next := fun v26 w =>
 pG v24 true (fun k => px prog (binSem .leq 5 (.tmp 26) (.const (.int .u8 122)) v26 (.int .u8 122)) w k) (w := w) (next := fun v27 w =>
 px prog (pickSem v24 v27 (.bool false)) w fun v28 w =>
 pG v28 false (fun k => k v22 w) (w := w) (next := fun v30 w =>
 pG v28 false (fun k => px prog (binSem .geq 5 (.tmp 30) (.const (.int .u8 48)) v30 (.int .u8 48)) w k) (w := w) (next := fun v31 w =>
 pG v28 false (fun k => k v31 w) (w := w) (next := fun v32 w =>
 pG v32 true (fun k => k v22 w) (w := w) (next := fun v33 w =>
 pG v32 true (fun k => px prog (binSem .leq 5 (.tmp 33) (.const (.int .u8 57)) v33 (.int .u8 57)) w k) (w := w) (next := fun v34 w =>
 pG v28 false (fun k => px prog (pickSem v32 v34 (.bool false)) w k) (w := w) (next := fun v35 w =>
 px prog (pickSem v28 (.bool true) v35) w fun v36 w =>
 pG v36 false (fun k => k v22 w) (w := w) (next := fun v38 w =>
 pG v36 false (fun k => pFn prog 119 [(.string (ByteArray.mk #[46,45,95,43])),v38] w k) (w := w) (next := fun v39 w =>
 pG v36 false (fun k => px prog (binSem .geq 3 (.tmp 39) (.const (.int .i64 0)) v39 (.int .i64 0)) w k) (w := w) (next := fun v40 w =>
 px prog (pickSem v36 (.bool true) v40) w fun v41 w =>
 px prog (Op.unary .not v41) w fun v42 w =>
 pC v42 (
 k (.bool false) w)
 (
 px prog (binSem .add 3 (.tmp 17) (.const (.int .i64 1)) (ρ 17) (.int .i64 1)) w fun v43 w =>
 N1 (put (put (put (put (put (put (put (put (put (put (put (put (put (put (put (put (put (put (put (put (put (put (put (put (put (put (put (put (put ρ 18 v18) 19 (ρ 17)) 5 (ρ 17)) 20 (ρ 0)) 21 (ρ 17)) 22 v22) 6 v22) 23 v22) 24 v24) 25 v24) 26 v26) 27 v27) 28 v28) 29 v28) 30 v30) 31 v31) 32 v32) 33 v33) 34 v34) 35 v35) 36 v36) 37 v36) 38 v38) 39 v39) 40 v40) 41 v41) 42 v42) 43 v43) 17 v43) w)))))))))))))
 (
 F66A k [1,1,1] (put ρ 18 v18) w)
theorem F66_1_eq (k:KV) (N1:KE) (ρ:Env) (w:World) : F66A1 k N1 [] ρ w = F66_1 k N1 ρ w := by kernel_rfl
def F66_2 (k:KV) (ρ:Env) (w:World) : Prop :=
 k (.bool true) w
theorem F66_2_eq (k:KV) (ρ:Env) (w:World) : F66A k [1,1,1] ρ w = F66_2 k ρ w := by kernel_rfl
theorem F66_in (name0:Value) (most1:Value) (w:World) (k:KV) (h:F66_0 name0 most1 w k) : pFn prog 66 [name0,most1] w k :=
 pFn_of_at mixed func66 (by kernel_rfl) (by kernel_rfl) ntmps66 (by kernel_rfl) (by kernel_rfl) (by simp) ((F66_0_eq name0 most1 w k).mpr h)
noncomputable def F67B : Code := bodyOf f67
def F67A (k:KV) (q:List Nat) (ρ:Env) (w:World) : Prop := At prog 15 F67B (retQ prog f67.results.toList k) q ρ w
def F67_0 (op0:Value) (name1:Value) (e2:Value) (w:World) (k:KV) : Prop :=
 px prog (binSem .add 9 (.const (.string (ByteArray.mk #[102,105,108,101,46]))) (.tmp 7) (.string (ByteArray.mk #[102,105,108,101,46])) op0) w fun v8 w =>
 px prog (Instr.makeInterface 25 e2) w fun v11 w =>
 px prog (Instr.build 77 #[(0,v8),(1,name1),(3,v11)]) w fun v12 w =>
 px prog (Instr.box 77 v12) w fun v13 w =>
 px prog (Instr.makeInterface 73 v13) w fun v14 w =>
 k v14 w
theorem F67_0_eq (op0:Value) (name1:Value) (e2:Value) (w:World) (k:KV) : F67A k [] (argEnv [op0,name1,e2]) w = F67_0 op0 name1 e2 w k := by kernel_rfl
theorem F67_in (op0:Value) (name1:Value) (e2:Value) (w:World) (k:KV) (h:F67_0 op0 name1 e2 w k) : pFn prog 67 [op0,name1,e2] w k :=
 pFn_of_at mixed func67 (by kernel_rfl) (by kernel_rfl) ntmps67 (by kernel_rfl) (by kernel_rfl) (by simp) ((F67_0_eq op0 name1 e2 w k).mpr h)
noncomputable def F69B : Code := bodyOf f69
def F69A (k:KV) (q:List Nat) (ρ:Env) (w:World) : Prop := At prog 22 F69B (retQ prog f69.results.toList k) q ρ w
def F69_0 (err0:Value) (target1:Value) (w:World) (k:KV) : Prop :=
 px prog (binSem .eql 31 (.tmp 6) (.const .nilIface) err0 .nilIface) w fun v7 w =>
 pG v7 false (fun k => k target1 w) (w := w) (next := fun v9 w =>
 pG v7 false (fun k => px prog (binSem .eql 31 (.tmp 9) (.const .nilIface) v9 .nilIface) w k) (w := w) (next := fun v10 w =>
 px prog (pickSem v7 (.bool true) v10) w fun v11 w =>
 pC v11 (
 px prog (binSem .eql 31 (.tmp 12) (.tmp 13) err0 target1) w fun v14 w =>
 k v14 w)
 (
 pFn prog 120 [target1] w fun v16 w =>
 pInv prog v16 "Comparable" [] w fun v17 w =>
 pFn prog 121 [err0,target1,v17] w fun v21 w =>
 k v21 w)))
theorem F69_0_eq (err0:Value) (target1:Value) (w:World) (k:KV) : F69A k [] (argEnv [err0,target1]) w = F69_0 err0 target1 w k := by kernel_rfl
theorem F69_in (err0:Value) (target1:Value) (w:World) (k:KV) (h:F69_0 err0 target1 w k) : pFn prog 69 [err0,target1] w k :=
 pFn_of_at mixed func69 (by kernel_rfl) (by kernel_rfl) ntmps69 (by kernel_rfl) (by kernel_rfl) (by simp) ((F69_0_eq err0 target1 w k).mpr h)
noncomputable def F88B : Code := bodyOf f88
def F88A (k:KV) (q:List Nat) (ρ:Env) (w:World) : Prop := At prog 42 F88B (retQ prog f88.results.toList k) q ρ w
def F88_0 (err0:Value) (target1:Value) (w:World) (k:KV) : Prop :=
 px prog (binSem .eql 31 (.tmp 8) (.const .nilIface) err0 .nilIface) w fun v9 w =>
 pC v9 (
 k (.bool false) w)
 (
 px prog (binSem .eql 20 (.tmp 10) (.const .nilIface) target1 .nilIface) w fun v11 w =>
 pC v11 (
 px prog (Instr.makeInterface 9 (.string (ByteArray.mk #[101,114,114,111,114,115,58,32,116,97,114,103,101,116,32,99,97,110,110,111,116,32,98,101,32,110,105,108]))) w fun v12 w =>
 px prog (Instr.panic v12) w fun _ w =>
 F88A k [1,1,1] (put (put (put (put (put (put (argEnv [err0,target1]) 4 (.bool false)) 8 err0) 9 v9) 10 target1) 11 v11) 12 v12) w)
 (
 F88A k [1,1,1] (put (put (put (put (put (argEnv [err0,target1]) 4 (.bool false)) 8 err0) 9 v9) 10 target1) 11 v11) w))
theorem F88_0_eq (err0:Value) (target1:Value) (w:World) (k:KV) : F88A k [] (argEnv [err0,target1]) w = F88_0 err0 target1 w k := by kernel_rfl
def F88_1 (k:KV) (ρ:Env) (w:World) : Prop :=
 pFn prog 142 [(ρ 1)] w fun v14 w =>
 px prog (Instr.alloc 228 true (.tuple #[])) w fun v5 w =>
 pu prog (storeAt 228 v5 v14) w fun w =>
 px prog (loadAt 228 v5) w fun v15 w =>
 pFn prog 143 [v15] w fun v16 w =>
 pInv prog v16 "Kind" [] w fun v18 w =>
 px prog (binSem .neq 231 (.tmp 18) (.const (.int .u8 22)) v18 (.int .u8 22)) w fun v19 w =>
 pG v19 false (fun k => px prog (loadAt 228 v5) w k) (w := w) (next := fun v21 w =>
 pG v19 false (fun k => pFn prog 144 [v21] w k) (w := w) (next := fun v22 w =>
 px prog (pickSem v19 (.bool true) v22) w fun v23 w =>
 pC v23 (
 px prog (Instr.makeInterface 9 (.string (ByteArray.mk #[101,114,114,111,114,115,58,32,116,97,114,103,101,116,32,109,117,115,116,32,98,101,32,97,32,110,111,110,45,110,105,108,32,112,111,105,110,116,101,114]))) w fun v24 w =>
 px prog (Instr.panic v24) w fun _ w =>
 F88A k [1,1,1,1,1,1] (put (put (put (put (put (put (put (put (put (put (put (put (put (put ρ 13 (ρ 1)) 14 v14) 5 v5) 15 v15) 16 v16) 6 v16) 17 v16) 18 v18) 19 v19) 20 v19) 21 v21) 22 v22) 23 v23) 24 v24) w)
 (
 F88A k [1,1,1,1,1,1] (put (put (put (put (put (put (put (put (put (put (put (put (put ρ 13 (ρ 1)) 14 v14) 5 v5) 15 v15) 16 v16) 6 v16) 17 v16) 18 v18) 19 v19) 20 v19) 21 v21) 22 v22) 23 v23) w)))
theorem F88_1_eq (k:KV) (ρ:Env) (w:World) : F88A k [1,1,1] ρ w = F88_1 k ρ w := by kernel_rfl
def F88_2 (k:KV) (ρ:Env) (w:World) : Prop :=
 pInv prog (ρ 6) "Elem" [] w fun v26 w =>
 pInv prog v26 "Kind" [] w fun v28 w =>
 px prog (binSem .neq 231 (.tmp 28) (.const (.int .u8 20)) v28 (.int .u8 20)) w fun v29 w =>
 pG v29 true (fun k => k v26 w) (w := w) (next := fun v31 w =>
 pG v29 true (fun k => px prog (loadAt 195 (.pointer (some ⟨0,0,none⟩))) w k) (w := w) (next := fun v32 w =>
 pG v29 true (fun k => pInv prog v31 "Implements" [v32] w k) (w := w) (next := fun v33 w =>
 pG v29 true (fun k => px prog (Op.unary .not v33) w k) (w := w) (next := fun v34 w =>
 px prog (pickSem v29 v34 (.bool false)) w fun v35 w =>
 pC v35 (
 px prog (Instr.makeInterface 9 (.string (ByteArray.mk #[101,114,114,111,114,115,58,32,42,116,97,114,103,101,116,32,109,117,115,116,32,98,101,32,105,110,116,101,114,102,97,99,101,32,111,114,32,105,109,112,108,101,109,101,110,116,32,101,114,114,111,114]))) w fun v36 w =>
 px prog (Instr.panic v36) w fun _ w =>
 F88A k [1,1,1,1,1,1,1,1] (put (put (put (put (put (put (put (put (put (put (put (put (put ρ 25 (ρ 6)) 26 v26) 7 v26) 27 v26) 28 v28) 29 v29) 30 v29) 31 v31) 32 v32) 33 v33) 34 v34) 35 v35) 36 v36) w)
 (
 F88A k [1,1,1,1,1,1,1,1] (put (put (put (put (put (put (put (put (put (put (put (put ρ 25 (ρ 6)) 26 v26) 7 v26) 27 v26) 28 v28) 29 v29) 30 v29) 31 v31) 32 v32) 33 v33) 34 v34) 35 v35) w)))))
theorem F88_2_eq (k:KV) (ρ:Env) (w:World) : F88A k [1,1,1,1,1,1] ρ w = F88_2 k ρ w := by kernel_rfl
def F88_3 (k:KV) (ρ:Env) (w:World) : Prop :=
 px prog (loadAt 228 (ρ 5)) w fun v39 w =>
 pFn prog 145 [(ρ 0),(ρ 1),v39,(ρ 7)] w fun v41 w =>
 k v41 w
theorem F88_3_eq (k:KV) (ρ:Env) (w:World) : F88A k [1,1,1,1,1,1,1,1] ρ w = F88_3 k ρ w := by kernel_rfl
theorem F88_in (err0:Value) (target1:Value) (w:World) (k:KV) (h:F88_0 err0 target1 w k) : pFn prog 88 [err0,target1] w k :=
 pFn_of_at mixed func88 (by kernel_rfl) (by kernel_rfl) ntmps88 (by kernel_rfl) (by kernel_rfl) (by simp) ((F88_0_eq err0 target1 w k).mpr h)
noncomputable def F121B : Code := bodyOf f121
def F121A (k:KV) (q:List Nat) (ρ:Env) (w:World) : Prop := At prog 54 F121B (retQ prog f121.results.toList k) q ρ w
noncomputable def F121B1 : Code := sub F121B [1,0,0]
def F121Q1 (k:KV) (N1:KE) : Xt → KE := thenE N1 (contAt prog 54 F121B (retQ prog f121.results.toList k) [1,0])
def F121A1 (k:KV) (N1:KE) (q:List Nat) (ρ:Env) (w:World) : Prop := At prog 54 F121B1 (F121Q1 k N1) q ρ w
def F121L1 (k:KV) (ρ:Env) (w:World) : Prop := LoopAt prog 54 F121B (retQ prog f121.results.toList k) [1,0] ρ w
theorem F121L1_inv (k:KV) (I:Nat → KE) (round:∀ m ρ w,I m ρ w → F121A1 k (fun ρ' w' => ∃ m',m' < m ∧ I m' ρ' w') [] ρ w) {m:Nat} {ρ:Env} {w:World} (h:I m ρ w) : F121L1 k ρ w :=
 LoopAt_inv mixed (B := F121B) (Q := (retQ prog f121.results.toList k)) (p := [1,0]) (by kernel_rfl) (by kernel_rfl) I round h
def F121L2 (k:KV) (N1:KE) (ρ:Env) (w:World) : Prop := LoopAt prog 54 F121B1 (F121Q1 k N1) [0,1,1,1,0,1,1,1,0,1,0,1,0] ρ w
def F121_0 (err0:Value) (target1:Value) (targetComparable2:Value) (w:World) (k:KV) : Prop :=
 F121L1 k (put (argEnv [err0,target1,targetComparable2]) 6 (.bool false)) w
theorem F121_0_eq (err0:Value) (target1:Value) (targetComparable2:Value) (w:World) (k:KV) : F121A k [] (argEnv [err0,target1,targetComparable2]) w = F121_0 err0 target1 targetComparable2 w k := by kernel_rfl
def F121_1 (k:KV) (N1:KE) (ρ:Env) (w:World) : Prop :=
 pG (ρ 2) true (fun k => k (ρ 0) w) (w := w) (next := fun v16 w =>
 pG (ρ 2) true (fun k => k (ρ 1) w) (w := w) (next := fun v17 w =>
 pG (ρ 2) true (fun k => px prog (binSem .eql 31 (.tmp 16) (.tmp 17) v16 v17) w k) (w := w) (next := fun v18 w =>
 px prog (pickSem (ρ 2) v18 (.bool false)) w fun v19 w =>
 pC v19 (
 k (.bool true) w)
 (
 px prog (Instr.typeAssert (ρ 0) 31 275 true) w fun v22 w =>
 px prog (extract v22 0) w fun v23 w =>
 px prog (extract v22 1) w fun v24 w =>
 pG v24 true (fun k => k v23 w) (w := w) (next := fun v27 w =>
 pG v24 true (fun k => k (ρ 1) w) (w := w) (next := fun v28 w =>
 pG v24 true (fun k => pInv prog v27 "Is" [v28] w k) (w := w) (next := fun v29 w =>
 px prog (pickSem v24 v29 (.bool false)) w fun v30 w =>
 pC v30 (
 k (.bool true) w)
 (
 px prog (Instr.typeAssert (ρ 0) 31 278 true) w fun v32 w =>
 px prog (extract v32 1) w fun v33 w =>
 px prog (extract v32 0) w fun v34 w =>
 pC v33 (
 pInv prog v34 "Unwrap" [] w fun v36 w =>
 px prog (binSem .eql 31 (.tmp 37) (.const .nilIface) v36 .nilIface) w fun v38 w =>
 pC v38 (
 k (.bool false) w)
 (
 N1 (put (put (put (put (put (put (put (put (put (put (put (put (put (put (put (put (put (put (put (put (put (put (put (put (put (put (put (put (put ρ 14 (ρ 2)) 15 (ρ 2)) 16 v16) 17 v17) 18 v18) 19 v19) 21 (ρ 0)) 22 v22) 20 v22) 23 v23) 24 v24) 7 v23) 8 v24) 25 v24) 26 v24) 27 v27) 28 v28) 29 v29) 30 v30) 31 (ρ 0)) 32 v32) 33 v33) 34 v34) 9 v34) 35 v34) 36 v36) 0 v36) 37 v36) 38 v38) w))
 (
 px prog (Instr.typeAssert (ρ 0) 31 280 true) w fun v39 w =>
 px prog (extract v39 1) w fun v40 w =>
 px prog (extract v39 0) w fun v41 w =>
 pC v40 (
 pInv prog v41 "Unwrap" [] w fun v43 w =>
 px prog (bSem .len #[281] 3 #[v43]) w fun v44 w =>
 F121L2 k N1 (put (put (put (put (put (put (put (put (put (put (put (put (put (put (put (put (put (put (put (put (put (put (put (put (put (put (put (put (put (put (put ρ 14 (ρ 2)) 15 (ρ 2)) 16 v16) 17 v17) 18 v18) 19 v19) 21 (ρ 0)) 22 v22) 20 v22) 23 v23) 24 v24) 7 v23) 8 v24) 25 v24) 26 v24) 27 v27) 28 v28) 29 v29) 30 v30) 31 (ρ 0)) 32 v32) 33 v33) 34 v34) 39 v39) 40 v40) 41 v41) 10 v41) 42 v41) 43 v43) 44 v44) 45 (.int .i64 0)) w)
 (
 k (.bool false) w))))))))))
theorem F121_1_eq (k:KV) (N1:KE) (ρ:Env) (w:World) : F121A1 k N1 [] ρ w = F121_1 k N1 ρ w := by kernel_rfl
theorem F121_in (err0:Value) (target1:Value) (targetComparable2:Value) (w:World) (k:KV) (h:F121_0 err0 target1 targetComparable2 w k) : pFn prog 121 [err0,target1,targetComparable2] w k :=
 pFn_of_at mixed func121 (by kernel_rfl) (by kernel_rfl) ntmps121 (by kernel_rfl) (by kernel_rfl) (by simp) ((F121_0_eq err0 target1 targetComparable2 w k).mpr h)
noncomputable def F145B : Code := bodyOf f145
def F145A (k:KV) (q:List Nat) (ρ:Env) (w:World) : Prop := At prog 62 F145B (retQ prog f145.results.toList k) q ρ w
noncomputable def F145B1 : Code := sub F145B [1,0,0]
def F145Q1 (k:KV) (N1:KE) : Xt → KE := thenE N1 (contAt prog 62 F145B (retQ prog f145.results.toList k) [1,0])
def F145A1 (k:KV) (N1:KE) (q:List Nat) (ρ:Env) (w:World) : Prop := At prog 62 F145B1 (F145Q1 k N1) q ρ w
def F145L1 (k:KV) (ρ:Env) (w:World) : Prop := LoopAt prog 62 F145B (retQ prog f145.results.toList k) [1,0] ρ w
theorem F145L1_inv (k:KV) (I:Nat → KE) (round:∀ m ρ w,I m ρ w → F145A1 k (fun ρ' w' => ∃ m',m' < m ∧ I m' ρ' w') [] ρ w) {m:Nat} {ρ:Env} {w:World} (h:I m ρ w) : F145L1 k ρ w :=
 LoopAt_inv mixed (B := F145B) (Q := (retQ prog f145.results.toList k)) (p := [1,0]) (by kernel_rfl) (by kernel_rfl) I round h
def F145L2 (k:KV) (N1:KE) (ρ:Env) (w:World) : Prop := LoopAt prog 62 F145B1 (F145Q1 k N1) [0,1,1,1,0,1,1,1,0,1,0,1,0] ρ w
def F145_0 (err0:Value) (target1:Value) (targetVal2:Value) (targetType3:Value) (w:World) (k:KV) : Prop :=
 px prog (Instr.box 228 targetVal2) w fun v6 w =>
 F145L1 k (put (put (argEnv [err0,target1,targetVal2,targetType3]) 6 v6) 8 (.bool false)) w
theorem F145_0_eq (err0:Value) (target1:Value) (targetVal2:Value) (targetType3:Value) (w:World) (k:KV) : F145A k [] (argEnv [err0,target1,targetVal2,targetType3]) w = F145_0 err0 target1 targetVal2 targetType3 w k := by kernel_rfl
def F145_1 (k:KV) (N1:KE) (ρ:Env) (w:World) : Prop :=
 pFn prog 120 [(ρ 0)] w fun v17 w =>
 pInv prog v17 "AssignableTo" [(ρ 3)] w fun v19 w =>
 pC v19 (
 px prog (loadAt 228 (ρ 6)) w fun v20 w =>
 pFn prog 182 [v20] w fun v21 w =>
 pFn prog 142 [(ρ 0)] w fun v23 w =>
 pFn prog 183 [v21,v23] w fun v24 w =>
 k (.bool true) w)
 (
 px prog (Instr.typeAssert (ρ 0) 31 296 true) w fun v27 w =>
 px prog (extract v27 0) w fun v28 w =>
 px prog (extract v27 1) w fun v29 w =>
 pG v29 true (fun k => k v28 w) (w := w) (next := fun v32 w =>
 pG v29 true (fun k => k (ρ 1) w) (w := w) (next := fun v33 w =>
 pG v29 true (fun k => pInv prog v32 "As" [v33] w k) (w := w) (next := fun v34 w =>
 px prog (pickSem v29 v34 (.bool false)) w fun v35 w =>
 pC v35 (
 k (.bool true) w)
 (
 px prog (Instr.typeAssert (ρ 0) 31 278 true) w fun v37 w =>
 px prog (extract v37 1) w fun v38 w =>
 px prog (extract v37 0) w fun v39 w =>
 pC v38 (
 pInv prog v39 "Unwrap" [] w fun v41 w =>
 px prog (binSem .eql 31 (.tmp 42) (.const .nilIface) v41 .nilIface) w fun v43 w =>
 pC v43 (
 k (.bool false) w)
 (
 N1 (put (put (put (put (put (put (put (put (put (put (put (put (put (put (put (put (put (put (put (put (put (put (put (put (put (put (put ρ 16 (ρ 0)) 17 v17) 18 (ρ 3)) 19 v19) 26 (ρ 0)) 27 v27) 25 v27) 28 v28) 29 v29) 9 v28) 10 v29) 30 v29) 31 v29) 32 v32) 33 v33) 34 v34) 35 v35) 36 (ρ 0)) 37 v37) 38 v38) 39 v39) 11 v39) 40 v39) 41 v41) 0 v41) 42 v41) 43 v43) w))
 (
 px prog (Instr.typeAssert (ρ 0) 31 280 true) w fun v44 w =>
 px prog (extract v44 1) w fun v45 w =>
 px prog (extract v44 0) w fun v46 w =>
 pC v45 (
 pInv prog v46 "Unwrap" [] w fun v48 w =>
 px prog (bSem .len #[281] 3 #[v48]) w fun v49 w =>
 F145L2 k N1 (put (put (put (put (put (put (put (put (put (put (put (put (put (put (put (put (put (put (put (put (put (put (put (put (put (put (put (put (put ρ 16 (ρ 0)) 17 v17) 18 (ρ 3)) 19 v19) 26 (ρ 0)) 27 v27) 25 v27) 28 v28) 29 v29) 9 v28) 10 v29) 30 v29) 31 v29) 32 v32) 33 v33) 34 v34) 35 v35) 36 (ρ 0)) 37 v37) 38 v38) 39 v39) 44 v44) 45 v45) 46 v46) 12 v46) 47 v46) 48 v48) 49 v49) 50 (.int .i64 0)) w)
 (
 k (.bool false) w)))))))
theorem F145_1_eq (k:KV) (N1:KE) (ρ:Env) (w:World) : F145A1 k N1 [] ρ w = F145_1 k N1 ρ w := by kernel_rfl
theorem F145_in (err0:Value) (target1:Value) (targetVal2:Value) (targetType3:Value) (w:World) (k:KV) (h:F145_0 err0 target1 targetVal2 targetType3 w k) : pFn prog 145 [err0,target1,targetVal2,targetType3] w k :=
 pFn_of_at mixed func145 (by kernel_rfl) (by kernel_rfl) ntmps145 (by kernel_rfl) (by kernel_rfl) (by simp) ((F145_0_eq err0 target1 targetVal2 targetType3 w k).mpr h)
noncomputable def F43B : Code := bodyOf f43
def F43A (k:KV) (q:List Nat) (ρ:Env) (w:World) : Prop := At prog 10 F43B (retQ prog f43.results.toList k) q ρ w
def F43_0 (err0:Value) (w:World) (k:KV) : Prop :=
 px prog (Instr.alloc 25 true (.tuple #[])) w fun v3 w =>
 px prog (binSem .eql 31 (.tmp 4) (.const .nilIface) err0 .nilIface) w fun v5 w =>
 pC v5 (
 k (.int .i64 0) w)
 (
 px prog (Instr.makeInterface 166 v3) w fun v7 w =>
 pFn prog 88 [err0,v7] w fun v8 w =>
 pC v8 (
 px prog (loadAt 25 v3) w fun v9 w =>
 k v9 w)
 (
 k (.int .i64 (-1)) w))
theorem F43_0_eq (err0:Value) (w:World) (k:KV) : F43A k [] (argEnv [err0]) w = F43_0 err0 w k := by kernel_rfl
theorem F43_in (err0:Value) (w:World) (k:KV) (h:F43_0 err0 w k) : pFn prog 43 [err0] w k :=
 pFn_of_at mixed func43 (by kernel_rfl) (by kernel_rfl) ntmps43 (by kernel_rfl) (by kernel_rfl) (by simp) ((F43_0_eq err0 w k).mpr h)
noncomputable def F268B : Code := bodyOf f268
def F268A (k:KV) (q:List Nat) (ρ:Env) (w:World) : Prop := At prog 9 F268B (retQ prog f268.results.toList k) q ρ w
def F268_0 (f0:Value) (w:World) (k:KV) : Prop :=
 px prog (binSem .eql 73 (.tmp 3) (.const (.pointer none)) f0 (.pointer none)) w fun v4 w =>
 pC v4 (
 k .nilIface w)
 (
 px prog (nilSem f0) w fun v6 w =>
 px prog (fieldAt 77 v6 3) w fun v7 w =>
 px prog (loadAt 31 v7) w fun v8 w =>
 k v8 w)
theorem F268_0_eq (f0:Value) (w:World) (k:KV) : F268A k [] (argEnv [f0]) w = F268_0 f0 w k := by kernel_rfl
theorem F268_in (f0:Value) (w:World) (k:KV) (h:F268_0 f0 w k) : pFn prog 268 [f0] w k :=
 pFn_of_at mixed func268 (by kernel_rfl) (by kernel_rfl) ntmps268 (by kernel_rfl) (by kernel_rfl) (by simp) ((F268_0_eq f0 w k).mpr h)
end Go.Proofs.YteeeggphkhimcaaGreatDoor

set_option linter.unusedSimpArgs false
namespace Go.Proofs.YteeeggphkhimcaaGreatDoor
open Go Go.Proofs Go.RowKit Go.Proofs.XRed Go.Proofs.XHeap Go.Proofs.XMaps Go.Proofs.XSlices Go.Proofs.XDisk Go.Proofs.XCalls Tryz
inductive EV where
 | no (n:Int)
 | own
 | fault (b:Nat) (e:EV)
def EV.val : EV → Value
 | .no n => .iface 25 (i64 n)
 | .own => .iface 161 (.agg #[])
 | .fault b _ => .iface 73 (ptr b)
def faultCells (op name:ByteArray) (id:List UInt8) (e:Value) : Array Value := (.string op :: .string name :: (u8s id ++ [e])).toArray
def EV.In (w:World) : EV → Prop
 | .fault b e => (∃ op name id,id.length = 32 ∧ w.heap[b]? = some (.cells (faultCells op name id e.val) 77 (0,0))) ∧ e.In w
 | _ => True
def EV.blks : EV → List Nat
 | .fault b e => b :: e.blks
 | _ => []
def EV.links : EV → List EV
 | .fault b e => .fault b e :: e.links
 | e => [e]
def EV.eqv : EV → EV → Bool
 | .no a,.no b => a == b
 | .own,.own => true
 | .fault a _,.fault b _ => a == b
 | _,_ => false
def EV.has (E T:EV) : Bool := E.links.any fun l => l.eqv T
theorem EV.In.fr {O:Nat → Prop} {w w':World} (hf:Fr O w w') : ∀ {e:EV},e.In w → (∀ b ∈ e.blks,¬ O b) → e.In w'
 | .no _,_,_ => trivial
 | .own,_,_ => trivial
 | .fault b e,⟨⟨op,name,id,hl,hb⟩,he⟩,hn => ⟨⟨op,name,id,hl,hf.get hb (hn b (by simp [EV.blks]))⟩,EV.In.fr hf he fun c hc => hn c (by simp [EV.blks,hc])⟩
theorem EV.iface (e:EV) : ∃ t v,e.val = .iface t v := by cases e <;> exact ⟨_,_,rfl⟩
section
variable {w:World} {k:KV}
theorem s_invM {t:TypeId} {name:String} {f:FuncId} {v v':Value} {args:List Value} (h:∀ w,(method (P.types.size + Made.depth) t v name).run P w = .ok (f,v') w) (hk:pFn P f (v' :: args) w k) : pInv P (.iface t v) name args w k := by
 unfold pInv
 simp only [callMethod,Sem.run_bind,run_program,Result.andThen_ok,h w]
 simpa [pFn] using hk
theorem s_eqin {x y:Operand} {u:TypeId} {v:Value} (hk:k (.bool false) w) : px P (binSem .eql 31 x y (.iface u v) .nilIface) w k := by
 refine s_bin (by simp) (by simp) ?_ hk
 have h : ∀ d : Nat,(Op.equalIn (d + 1) 31 (.iface u v) .nilIface).run P w = .ok false w := fun d => by simp [Op.equalIn,run_underlying underlying31]
 simp only [binOp]
 simp [Op.equal,Op.maxDepth,h 9999]
theorem s_nein {x y:Operand} {u:TypeId} {v:Value} (hk:k (.bool true) w) : px P (binSem .neq 31 x y (.iface u v) .nilIface) w k := by
 refine s_bin (by simp) (by simp) ?_ hk
 have h : ∀ d : Nat,(Op.equalIn (d + 1) 31 (.iface u v) .nilIface).run P w = .ok false w := fun d => by simp [Op.equalIn,run_underlying underlying31]
 simp only [binOp]
 simp [Op.equal,Op.maxDepth,h 9999]
theorem s_eqnn {d:Nat} (hk:k (.bool true) w) : px P (binSem .eql 31 (.tmp d) (.const .nilIface) .nilIface .nilIface) w k := px_ok (w' := w) (by kernel_rfl) hk
theorem s_nenn {d:Nat} (hk:k (.bool false) w) : px P (binSem .neq 31 (.tmp d) (.const .nilIface) .nilIface .nilIface) w k := px_ok (w' := w) (by kernel_rfl) hk
theorem s_eqni {x y:Operand} {u:TypeId} {v:Value} (hk:k (.bool false) w) : px P (binSem .eql 31 x y .nilIface (.iface u v)) w k :=
 s_bin (by simp) (by simp) (run_eql_iface_nil_left w u v underlying31) hk
theorem faultComp : (P.info? 73).map (·.comparable) = some true := by kernel_rfl
theorem faultSize : (P.info? 77).map (·.size) = some 35 := by kernel_rfl
theorem eqErrno (a b:Int) (w:World) : (binOp .eql 31 (.iface 25 (i64 a)) (.iface 25 (i64 b))).run P w = .ok (.bool (a == b)) w := by
 have hc : (P.info? 25).map (·.comparable) = some true := by kernel_rfl
 obtain ⟨i,hi,hci⟩ := Option.map_eq_some_iff.1 hc
 have h : ∀ d : Nat,(Op.equalIn (d + 2) 31 (.iface 25 (i64 a)) (.iface 25 (i64 b))).run P w = .ok (a == b) w := fun d => by
  simp [Op.equalIn,run_underlying underlying31,run_underlying underlying25,typeInfo,hi,hci,Op.intCmp]
 simp only [binOp]
 simp [Op.equal,Op.maxDepth,h 9998]
theorem eqOwn (w:World) : (binOp .eql 31 (.iface 161 (.agg #[])) (.iface 161 (.agg #[]))).run P w = .ok (.bool true) w := by kernel_rfl
theorem s_eqev {x y:Operand} {E T:EV} (hE:E.In w) (hT:T.In w) (hk:k (.bool (E.eqv T)) w) : px P (binSem .eql 31 x y E.val T.val) w k := by
 have g : ∀ p q,¬ (E.val = .agg p ∧ T.val = .agg q) := by intro p q h; obtain ⟨t,v,e⟩ := E.iface; rw [e] at h; cases h.1
 have g' : ¬ (E.val = .nilIface ∧ T.val = .nilIface) := by intro h; obtain ⟨t,v,e⟩ := E.iface; rw [e] at h; cases h.1
 refine s_bin g g' ?_ hk
 have ty : ∀ {a b:TypeId} {u v:Value},a ≠ b → (binOp .eql 31 (.iface a u) (.iface b v)).run P w = .ok (.bool false) w := fun h => run_eql_iface_types _ _ _ _ underlying31 h w
 cases E with
 | no a =>
  cases T with
  | no b => exact eqErrno a b w
  | own => exact ty (by decide)
  | fault b e => exact ty (by decide)
 | own =>
  cases T with
  | no b => exact ty (by decide)
  | own => exact eqOwn w
  | fault b e => exact ty (by decide)
 | fault a e =>
  cases T with
  | no b => exact ty (by decide)
  | own => exact ty (by decide)
  | fault b e' =>
   obtain ⟨i,hi,hcmp⟩ := Option.map_eq_some_iff.1 faultComp
   obtain ⟨j,hj,hjs⟩ := Option.map_eq_some_iff.1 faultSize
   by_cases hab : a = b
   ·subst hab
    have := run_eql_iface_ptr_same (P := P) w ⟨a,0,none⟩ underlying31 underlying73 hi hcmp hj
    simpa [EV.val,ptr,EV.eqv] using this
   ·obtain ⟨⟨_,_,_,_,ha⟩,_⟩ := hE
    obtain ⟨⟨_,_,_,_,hb⟩,_⟩ := hT
    have := run_eql_iface_ptr_other (P := P) w (a := ⟨a,0,none⟩) (b := ⟨b,0,none⟩) underlying31 underlying73 hi hcmp hj (by rw [hjs]; decide) (by simp [hab]) ha hb
    have e : (a == b) = false := by simpa using hab
    simp only [EV.eqv,e]
    simpa [EV.val,ptr] using this
theorem mUnwrap (v : Value) (w : World) : (method (P.types.size + Made.depth) 73 v "Unwrap").run P w = .ok (268, v) w := by kernel_rfl
theorem mComparable (v : Value) (w : World) : (method (P.types.size + Made.depth) 273 v "Comparable").run P w = .ok (285, v) w := by kernel_rfl
def rt (t:TypeId) : Value := .agg #[.pointer (some ⟨4,t,none⟩)]
theorem typeOf_any (t:TypeId) (v:Value) (w:World) : (Extern.ReflectliteType.typeOf #[.iface t v]).run P w = .ok (.iface 273 (rt t)) w := by kernel_rfl
theorem c_typeOf {t:TypeId} {v:Value} (hk:k (.iface 273 (rt t)) w) : pFn P 120 [.iface t v] w k := by
 refine pFn_extern func120 (by kernel_rfl) (by kernel_rfl) (by kernel_rfl) (e := Extern.ReflectliteType.typeOf) (by kernel_rfl) ?_
 exact px_ok (typeOf_any t v w) hk
theorem comp_no (w : World) : (Extern.ReflectliteType.method (fun t => do Go.Extern.Rtype.noPackHeld "Comparable" t; pure (.bool (← typeInfo t).comparable)) #[rt 25]).run P w = .ok (.bool true) w := by kernel_rfl
theorem comp_own (w : World) : (Extern.ReflectliteType.method (fun t => do Go.Extern.Rtype.noPackHeld "Comparable" t; pure (.bool (← typeInfo t).comparable)) #[rt 161]).run P w = .ok (.bool true) w := by kernel_rfl
theorem comp_fault (w : World) : (Extern.ReflectliteType.method (fun t => do Go.Extern.Rtype.noPackHeld "Comparable" t; pure (.bool (← typeInfo t).comparable)) #[rt 73]).run P w = .ok (.bool true) w := by kernel_rfl
theorem c_comparable {T : EV} {t : TypeId} {v : Value} (hT : T.val = .iface t v) (hk : k (.bool true) w) : pInv P (.iface 273 (rt t)) "Comparable" [] w k := by
 refine s_invM (mComparable _) ?_
 refine pFn_extern func285 (by kernel_rfl) (by kernel_rfl) (by kernel_rfl) (e := Extern.ReflectliteType.method (fun t => do Go.Extern.Rtype.noPackHeld "Comparable" t; pure (.bool (← typeInfo t).comparable))) (by kernel_rfl) ?_
 cases T with
 | no n => simp only [EV.val,Value.iface.injEq] at hT; rw [← hT.1]; exact px_ok (comp_no w) hk
 | own => simp only [EV.val,Value.iface.injEq] at hT; rw [← hT.1]; exact px_ok (comp_own w) hk
 | fault b e => simp only [EV.val,Value.iface.injEq] at hT; rw [← hT.1]; exact px_ok (comp_fault w) hk
theorem ta_is (E:EV) (xT:TypeId) (w:World) : (Instr.typeAssert E.val xT 275 true).run P w = .ok (.tuple #[.nilIface,.bool false]) w := by
 cases E with
 | no n => exact run_typeAssert_lacksB underlying275 (by kernel_rfl) (by kernel_rfl) _ xT w
 | own => exact run_typeAssert_lacksB underlying275 (by kernel_rfl) (by kernel_rfl) _ xT w
 | fault b e => exact run_typeAssert_lacksB underlying275 (by kernel_rfl) (by kernel_rfl) _ xT w
theorem ta_as (E:EV) (xT:TypeId) (w:World) : (Instr.typeAssert E.val xT 296 true).run P w = .ok (.tuple #[.nilIface,.bool false]) w := by
 cases E with
 | no n => exact run_typeAssert_lacksB underlying296 (by kernel_rfl) (by kernel_rfl) _ xT w
 | own => exact run_typeAssert_lacksB underlying296 (by kernel_rfl) (by kernel_rfl) _ xT w
 | fault b e => exact run_typeAssert_lacksB underlying296 (by kernel_rfl) (by kernel_rfl) _ xT w
theorem ta_unwrapF (b:Nat) (xT:TypeId) (w:World) : (Instr.typeAssert (.iface 73 (ptr b)) xT 278 true).run P w = .ok (.tuple #[.iface 73 (ptr b),.bool true]) w := run_typeAssert_hasB underlying278 (by kernel_rfl) _ xT w
theorem ta_unwrapN (n:Int) (xT:TypeId) (w:World) : (Instr.typeAssert (.iface 25 (i64 n)) xT 278 true).run P w = .ok (.tuple #[.nilIface,.bool false]) w := run_typeAssert_lacksB underlying278 (by kernel_rfl) (by kernel_rfl) _ xT w
theorem ta_unwrapO (xT:TypeId) (w:World) : (Instr.typeAssert (.iface 161 (.agg #[])) xT 278 true).run P w = .ok (.tuple #[.nilIface,.bool false]) w := run_typeAssert_lacksB underlying278 (by kernel_rfl) (by kernel_rfl) _ xT w
theorem ta_unwrapsN (n:Int) (xT:TypeId) (w:World) : (Instr.typeAssert (.iface 25 (i64 n)) xT 280 true).run P w = .ok (.tuple #[.nilIface,.bool false]) w := run_typeAssert_lacksB underlying280 (by kernel_rfl) (by kernel_rfl) _ xT w
theorem ta_unwrapsO (xT:TypeId) (w:World) : (Instr.typeAssert (.iface 161 (.agg #[])) xT 280 true).run P w = .ok (.tuple #[.nilIface,.bool false]) w := run_typeAssert_lacksB underlying280 (by kernel_rfl) (by kernel_rfl) _ xT w
theorem c_unwrap {b : Nat} {e : EV} (h : (EV.fault b e).In w) (hk : k e.val w) : pInv P (.iface 73 (ptr b)) "Unwrap" [] w k := by
 refine s_invM (mUnwrap _) ?_
 refine F268_in _ _ _ ?_
 unfold F268_0 ptr
 obtain ⟨⟨op,name,id,hl,hb⟩,_⟩ := h
 refine s_eqpn upt73 (pC_false (s_nil (fa77_3 (s_ldb (v := e.val) (isAgg31 _) hb ?_ hk))))
 unfold faultCells
 have : (u8s id).length = 32 := by simp [u8s,hl]
 simp only [List.getElem?_toArray]
 rw [show (0 + 34 : Nat) = 32 + 1 + 1 from rfl,List.getElem?_cons_succ,List.getElem?_cons_succ,List.getElem?_append_right (by omega),this]
 rfl
theorem c_erris {E T:EV} (hE:E.In w) (hT:T.In w) (hk:k (.bool (E.has T)) w) : pFn P 121 [E.val,T.val,.bool true] w k := by
 refine F121_in _ _ _ _ _ ?_
 unfold F121_0
 refine F121L1_inv (m := E.links.length) k (fun m ρ w' => w' = w ∧ ∃ E' : EV,E'.In w ∧ E'.links.length = m ∧ ρ 0 = E'.val ∧ ρ 1 = T.val ∧ ρ 2 = .bool true ∧ E.has T = E'.has T) ?_ ⟨rfl,E,hE,rfl,rfl,rfl,rfl,rfl⟩
 rintro m ρ w' ⟨rfl,E',hE',hm,h0,h1,h2,hh⟩
 rw [F121_1_eq]
 unfold F121_1
 rw [h0,h1,h2]
 refine pG_yes rfl (pG_yes rfl (pG_yes rfl (s_eqev hE' hT (s_pick_t ?_))))
 cases hq : E'.eqv T with
 | true =>
  refine pC_true ?_
  have : E.has T = true := by rw [hh]; unfold EV.has; cases E' <;> simp [EV.links,hq]
  rw [this] at hk; exact hk
 | false =>
  refine pC_false (px_ok (ta_is E' _ _) (s_ext rfl (s_ext rfl (pG_sk (pG_sk (pG_sk (s_pick_f (pC_false ?_))))))))
  cases E' with
  | no n =>
   refine px_ok (ta_unwrapN n _ _) (s_ext rfl (s_ext rfl (pC_false (px_ok (ta_unwrapsN n _ _) (s_ext rfl (s_ext rfl (pC_false ?_)))))))
   have : E.has T = false := by rw [hh]; simp [EV.has,EV.links,hq]
   rw [this] at hk; exact hk
  | own =>
   refine px_ok (ta_unwrapO _ _) (s_ext rfl (s_ext rfl (pC_false (px_ok (ta_unwrapsO _ _) (s_ext rfl (s_ext rfl (pC_false ?_)))))))
   have : E.has T = false := by rw [hh]; simp [EV.has,EV.links,hq]
   rw [this] at hk; exact hk
  | fault b e =>
   refine px_ok (ta_unwrapF b _ _) (s_ext rfl (s_ext rfl (pC_true (c_unwrap hE' ?_))))
   obtain ⟨t,v,ev⟩ := e.iface
   rw [ev]
   refine s_eqin (pC_false ?_)
   refine ⟨e.links.length,?_,rfl,e,hE'.2,rfl,?_,h1,h2,?_⟩
   ·rw [← hm]; simp [EV.links]
   ·rw [ev]; rfl
   ·rw [hh]; simp [EV.has,EV.links,hq]
theorem c_errIs {E T:EV} (hE:E.In w) (hT:T.In w) (hk:k (.bool (E.has T)) w) : pFn P 69 [E.val,T.val] w k := by
 refine F69_in _ _ _ _ ?_
 unfold F69_0
 obtain ⟨t,v,e⟩ := E.iface
 obtain ⟨t',v',e'⟩ := T.iface
 have key : pFn P 121 [E.val,T.val,.bool true] w k := c_erris hE hT hk
 rw [e,e'] at key ⊢
 refine s_eqin (pG_yes rfl (pG_yes rfl (s_eqin (s_pick_f (pC_false (c_typeOf (c_comparable e' key)))))))
theorem c_errIsNil {T:EV} (hk:k (.bool false) w) : pFn P 69 [.nilIface,T.val] w k := by
 refine F69_in _ _ _ _ ?_
 unfold F69_0
 obtain ⟨t',v',e'⟩ := T.iface
 rw [e']
 exact s_eqnn (pG_skf (pG_skf (s_pick_t (pC_true (s_eqni hk)))))
end
end Go.Proofs.YteeeggphkhimcaaGreatDoor
