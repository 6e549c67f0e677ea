/- Put together by a program (wip/tools/shake.py): R4. -/
import Derived.Test.YteeeggphkhimcaaGreatDoorB1
import Derived.Test.YteeeggphkhimcaaGreatDoorProg
import Derived.Test.YteeeggphkhimcaaGreatDoorMix
set_option linter.unusedVariables false
set_option maxRecDepth 100000
namespace Go.Proofs.YteeeggphkhimcaaGreatDoor
open Go Go.Proofs Go.Proofs.XRed Tryz
open Go.Instr (fieldAt loadAt storeAt indexAt sliceAt extract)
noncomputable def F48B : Code := bodyOf f48
def F48A (k:KV) (q:List Nat) (ρ:Env) (w:World) : Prop := At prog 53 F48B (retQ prog f48.results.toList k) q ρ w
noncomputable def F48B1 : Code := sub F48B [1,1,0,1,0,0]
def F48Q1 (k:KV) (N1:KE) : Xt → KE := thenE N1 (contAt prog 53 F48B (retQ prog f48.results.toList k) [1,1,0,1,0])
def F48A1 (k:KV) (N1:KE) (q:List Nat) (ρ:Env) (w:World) : Prop := At prog 53 F48B1 (F48Q1 k N1) q ρ w
def F48L1 (k:KV) (ρ:Env) (w:World) : Prop := LoopAt prog 53 F48B (retQ prog f48.results.toList k) [1,1,0,1,0] ρ w
theorem F48L1_inv (k:KV) (I:Nat → KE) (round:∀ m ρ w,I m ρ w → F48A1 k (fun ρ' w' => ∃ m',m' < m ∧ I m' ρ' w') [] ρ w) {m:Nat} {ρ:Env} {w:World} (h:I m ρ w) : F48L1 k ρ w :=
 LoopAt_inv mixed (B := F48B) (Q := (retQ prog f48.results.toList k)) (p := [1,1,0,1,0]) (by kernel_rfl) (by kernel_rfl) I round h
def F48_0 (name0:Value) (w:World) (k:KV) : Prop :=
 px prog (bSem .len #[9] 3 #[name0]) w fun v6 w =>
 px prog (binSem .lss 3 (.tmp 6) (.const (.int .i64 1)) v6 (.int .i64 1)) w fun v7 w =>
 pG v7 false (fun k => k name0 w) (w := w) (next := fun v9 w =>
 pG v7 false (fun k => px prog (bSem .len #[9] 3 #[v9]) w k) (w := w) (next := fun v10 w =>
 pG v7 false (fun k => px prog (binSem .gtr 3 (.tmp 10) (.const (.int .i64 112)) v10 (.int .i64 112)) w k) (w := w) (next := fun v11 w =>
 px prog (pickSem v7 (.bool true) v11) w fun v12 w =>
 pC v12 (
 k (.bool false) w)
 (
 F48L1 k (put (put (put (put (put (put (put (put (put (put (argEnv [name0]) 2 (.bool false)) 5 name0) 6 v6) 7 v7) 8 v7) 9 v9) 10 v10) 11 v11) 12 v12) 3 (.int .i64 0)) w))))
theorem F48_0_eq (name0:Value) (w:World) (k:KV) : F48A k [] (argEnv [name0]) w = F48_0 name0 w k := by kernel_rfl
def F48_1 (k:KV) (N1:KE) (ρ:Env) (w:World) : Prop :=
 px prog (bSem .len #[9] 3 #[(ρ 0)]) w fun v15 w =>
 px prog (binSem .lss 3 (.tmp 13) (.tmp 15) (ρ 3) v15) w fun v16 w =>
 pC v16 (
 px prog (Instr.index 9 (ρ 0) (ρ 3)) w fun v21 w =>
 px prog (binSem .geq 5 (.tmp 22) (.const (.int .u8 97)) v21 (.int .u8 97)) w fun v23 w =>
 pG v23 true (fun k => k v21 w) (w := w) (next := fun v25 w =>
 pG v23 true (fun k => px prog (binSem .leq 5 (.tmp 25) (.const (.int .u8 122)) v25 (.int .u8 122)) w k) (w := w) (next := fun v26 w =>
 px prog (pickSem v23 v26 (.bool false)) w fun v27 w =>
 pG v27 false (fun k => k v21 w) (w := w) (next := fun v29 w =>
 pG v27 false (fun k => px prog (binSem .geq 5 (.tmp 29) (.const (.int .u8 48)) v29 (.int .u8 48)) w k) (w := w) (next := fun v30 w =>
 pG v27 false (fun k => k v30 w) (w := w) (next := fun v31 w =>
 pG v31 true (fun k => k v21 w) (w := w) (next := fun v32 w =>
 pG v31 true (fun k => px prog (binSem .leq 5 (.tmp 32) (.const (.int .u8 57)) v32 (.int .u8 57)) w k) (w := w) (next := fun v33 w =>
 pG v27 false (fun k => px prog (pickSem v31 v33 (.bool false)) w k) (w := w) (next := fun v34 w =>
 px prog (pickSem v27 (.bool true) v34) w fun v35 w =>
 pG v35 false (fun k => k v21 w) (w := w) (next := fun v37 w =>
 pG v35 false (fun k => px prog (binSem .eql 5 (.tmp 37) (.const (.int .u8 46)) v37 (.int .u8 46)) w k) (w := w) (next := fun v38 w =>
 px prog (pickSem v35 (.bool true) v38) w fun v39 w =>
 pG v39 false (fun k => k v21 w) (w := w) (next := fun v41 w =>
 pG v39 false (fun k => px prog (binSem .eql 5 (.tmp 41) (.const (.int .u8 45)) v41 (.int .u8 45)) w k) (w := w) (next := fun v42 w =>
 px prog (pickSem v39 (.bool true) v42) w fun v43 w =>
 pG v43 false (fun k => k v21 w) (w := w) (next := fun v45 w =>
 pG v43 false (fun k => px prog (binSem .eql 5 (.tmp 45) (.const (.int .u8 95)) v45 (.int .u8 95)) w k) (w := w) (next := fun v46 w =>
 px prog (pickSem v43 (.bool true) v46) w fun v47 w =>
 pG v47 false (fun k => k v21 w) (w := w) (next := fun v49 w =>
 pG v47 false (fun k => px prog (binSem .eql 5 (.tmp 49) (.const (.int .u8 43)) v49 (.int .u8 43)) w k) (w := w) (next := fun v50 w =>
 px prog (pickSem v47 (.bool true) v50) w fun v51 w =>
 px prog (Op.unary .not v51) w fun v52 w =>
 pC v52 (
 k (.bool false) w)
 (
 px prog (binSem .add 3 (.tmp 17) (.const (.int .i64 1)) (ρ 3) (.int .i64 1)) w fun v18 w =>
 N1 (put (put (put (put (put (put (put (put (put (put (put (put (put (put (put (put (put (put (put (put (put (put (put (put (put (put (put (put (put (put (put (put (put (put (put (put (put (put (put (put (put (put ρ 13 (ρ 3)) 14 (ρ 0)) 15 v15) 16 v16) 19 (ρ 0)) 20 (ρ 3)) 21 v21) 4 v21) 22 v21) 23 v23) 24 v23) 25 v25) 26 v26) 27 v27) 28 v27) 29 v29) 30 v30) 31 v31) 32 v32) 33 v33) 34 v34) 35 v35) 36 v35) 37 v37) 38 v38) 39 v39) 40 v39) 41 v41) 42 v42) 43 v43) 44 v43) 45 v45) 46 v46) 47 v47) 48 v47) 49 v49) 50 v50) 51 v51) 52 v52) 17 (ρ 3)) 18 v18) 3 v18) w))))))))))))))))))
 (
 F48A k [1,1,1] (put (put (put (put ρ 13 (ρ 3)) 14 (ρ 0)) 15 v15) 16 v16) w)
theorem F48_1_eq (k:KV) (N1:KE) (ρ:Env) (w:World) : F48A1 k N1 [] ρ w = F48_1 k N1 ρ w := by kernel_rfl
def F48_2 (k:KV) (ρ:Env) (w:World) : Prop :=
 k (.bool true) w
theorem F48_2_eq (k:KV) (ρ:Env) (w:World) : F48A k [1,1,1] ρ w = F48_2 k ρ w := by kernel_rfl
theorem F48_in (name0:Value) (w:World) (k:KV) (h:F48_0 name0 w k) : pFn prog 48 [name0] w k :=
 pFn_of_at mixed func48 (by kernel_rfl) (by kernel_rfl) ntmps48 (by kernel_rfl) (by kernel_rfl) (by simp) ((F48_0_eq name0 w k).mpr h)
noncomputable def F99B : Code := bodyOf f99
def F99A (k:KV) (q:List Nat) (ρ:Env) (w:World) : Prop := At prog 13 F99B (retQ prog f99.results.toList k) q ρ w
def F99_0 (room0:Value) (w:World) (k:KV) : Prop :=
 px prog (binSem .lss 3 (.tmp 4) (.const (.int .i64 1)) room0 (.int .i64 1)) w fun v5 w =>
 pG v5 false (fun k => k room0 w) (w := w) (next := fun v7 w =>
 pG v5 false (fun k => px prog (binSem .gtr 3 (.tmp 7) (.const (.int .i64 1048576)) v7 (.int .i64 1048576)) w k) (w := w) (next := fun v8 w =>
 px prog (pickSem v5 (.bool true) v8) w fun v9 w =>
 pC v9 (
 k (.tuple #[(.pointer none),(.int .i64 1)]) w)
 (
 px prog (Instr.build 245 #[(0,(.bool true)),(1,room0)]) w fun v11 w =>
 px prog (Instr.box 245 v11) w fun v12 w =>
 k (.tuple #[v12,(.int .i64 0)]) w)))
theorem F99_0_eq (room0:Value) (w:World) (k:KV) : F99A k [] (argEnv [room0]) w = F99_0 room0 w k := by kernel_rfl
theorem F99_in (room0:Value) (w:World) (k:KV) (h:F99_0 room0 w k) : pFn prog 99 [room0] w k :=
 pFn_of_at mixed func99 (by kernel_rfl) (by kernel_rfl) ntmps99 (by kernel_rfl) (by kernel_rfl) (by simp) ((F99_0_eq room0 w k).mpr h)
noncomputable def F104B : Code := bodyOf f104
def F104A (k:KV) (q:List Nat) (ρ:Env) (w:World) : Prop := At prog 64 F104B (retQ prog f104.results.toList k) q ρ w
def F104_0 (d0:Value) (name1:Value) (w:World) (k:KV) : Prop :=
 pFn prog 114 [d0] w fun v9 w =>
 pC v9 (
 k (.int .i64 50) w)
 (
 pFn prog 48 [name1] w fun v11 w =>
 px prog (Op.unary .not v11) w fun v12 w =>
 pC v12 (
 k (.int .i64 51) w)
 (
 px prog (nilSem d0) w fun v14 w =>
 px prog (fieldAt 245 v14 2) w fun v15 w =>
 px prog (loadAt 242 v15) w fun v16 w =>
 pFn prog 158 [v16,name1] w fun v18 w =>
 px prog (binSem .geq 3 (.tmp 18) (.const (.int .i64 0)) v18 (.int .i64 0)) w fun v19 w =>
 pC v19 (
 k (.int .i64 52) w)
 (
 pFn prog 159 [d0] w fun v22 w =>
 px prog (extract v22 0) w fun v23 w =>
 px prog (extract v22 1) w fun v24 w =>
 px prog (nilSem d0) w fun v26 w =>
 px prog (fieldAt 245 v26 2) w fun v27 w =>
 px prog (loadAt 242 v27) w fun v28 w =>
 px prog (bSem .len #[242] 3 #[v28]) w fun v29 w =>
 px prog (binSem .geq 3 (.tmp 29) (.const (.int .i64 256)) v29 (.int .i64 256)) w fun v30 w =>
 pC v30 (
 pFn prog 160 [d0,v24,(.int .i64 56)] w fun v33 w =>
 k v33 w)
 (
 pC v23 (
 pFn prog 160 [d0,v24,(.int .i64 55)] w fun v37 w =>
 k v37 w)
 (
 px prog (Instr.build 258 #[]) w fun v39 w =>
 px prog (Instr.box 258 v39) w fun v40 w =>
 px prog (Instr.build 260 #[(0,(.int .i64 1)),(1,name1),(3,v40)]) w fun v41 w =>
 px prog (Instr.alloc 260 true (.tuple #[])) w fun v7 w =>
 pu prog (storeAt 260 v7 v41) w fun w =>
 ∃ S : World → Prop,S w.drew ∧ (fun w =>
 pq prog S (nilSem d0) fun v44 =>
 pq prog S (fieldAt 245 v44 2) fun v45 =>
 pq prog S (loadAt 242 v45) fun v46 =>
 pq prog S (loadAt 260 v7) fun v47 =>
 pFn prog 161 [v46,v47] w fun v48 w => S w ∧ (
 pq prog S (nilSem d0) fun v49 =>
 pq prog S (fieldAt 245 v49 2) fun v50 =>
 pu prog (storeAt 242 v50 v48) w fun w => (
 ∃ S : World → Prop,S w.drew ∧ (fun w =>
 pq prog S (nilSem d0) fun v53 =>
 pq prog S (fieldAt 245 v53 4) fun v54 =>
 pq prog S (loadAt 243 v54) fun v55 =>
 pq prog S (loadAt 260 v7) fun v56 =>
 px prog (Instr.buildSlice 243 1 #[(0,v56)]) w fun v57 w => S w ∧ (
 px prog (bSem .append #[243,243] 243 #[v55,v57]) w fun v58 w => S w ∧ (
 pq prog S (nilSem d0) fun v59 =>
 pq prog S (fieldAt 245 v59 4) fun v60 =>
 pu prog (storeAt 243 v60 v58) w fun w => (
 pFn prog 160 [d0,v24,(.int .i64 0)] w fun v63 w =>
 k v63 w)))) w.drew))) w.drew)))))
theorem F104_0_eq (d0:Value) (name1:Value) (w:World) (k:KV) : F104A k [] (argEnv [d0,name1]) w = F104_0 d0 name1 w k := by kernel_rfl
theorem F104_in (d0:Value) (name1:Value) (w:World) (k:KV) (h:F104_0 d0 name1 w k) : pFn prog 104 [d0,name1] w k :=
 pFn_of_at mixed func104 (by kernel_rfl) (by kernel_rfl) ntmps104 (by kernel_rfl) (by kernel_rfl) (by simp) ((F104_0_eq d0 name1 w k).mpr h)
noncomputable def F105B : Code := bodyOf f105
def F105A (k:KV) (q:List Nat) (ρ:Env) (w:World) : Prop := At prog 34 F105B (retQ prog f105.results.toList k) q ρ w
def F105_0 (d0:Value) (name1:Value) (data2:Value) (w:World) (k:KV) : Prop :=
 pFn prog 162 [d0,name1] w fun v12 w =>
 px prog (extract v12 0) w fun v13 w =>
 px prog (extract v12 1) w fun v14 w =>
 px prog (binSem .neq 3 (.tmp 15) (.const (.int .i64 0)) v14 (.int .i64 0)) w fun v16 w =>
 pC v16 (
 k v14 w)
 (
 px prog (nilSem d0) w fun v21 w =>
 px prog (fieldAt 245 v21 2) w fun v22 w =>
 px prog (loadAt 242 v22) w fun v23 w =>
 px prog (indexAt 242 v23 v13) w fun v25 w =>
 px prog (fieldAt 264 v25 1) w fun v26 w =>
 px prog (loadAt 255 v26) w fun v27 w =>
 px prog (nilSem v27) w fun v28 w =>
 px prog (fieldAt 258 v28 1) w fun v29 w =>
 px prog (loadAt 23 v29) w fun v30 w =>
 px prog (bSem .len #[23] 3 #[v30]) w fun v31 w =>
 pFn prog 163 [d0,name1,v31,data2] w fun v33 w =>
 k v33 w)
theorem F105_0_eq (d0:Value) (name1:Value) (data2:Value) (w:World) (k:KV) : F105A k [] (argEnv [d0,name1,data2]) w = F105_0 d0 name1 data2 w k := by kernel_rfl
theorem F105_in (d0:Value) (name1:Value) (data2:Value) (w:World) (k:KV) (h:F105_0 d0 name1 data2 w k) : pFn prog 105 [d0,name1,data2] w k :=
 pFn_of_at mixed func105 (by kernel_rfl) (by kernel_rfl) ntmps105 (by kernel_rfl) (by kernel_rfl) (by simp) ((F105_0_eq d0 name1 data2 w k).mpr h)
noncomputable def F107B : Code := bodyOf f107
def F107A (k:KV) (q:List Nat) (ρ:Env) (w:World) : Prop := At prog 70 F107B (retQ prog f107.results.toList k) q ρ w
def F107_0 (d0:Value) (name1:Value) (n2:Value) (w:World) (k:KV) : Prop :=
 pFn prog 162 [d0,name1] w fun v16 w =>
 px prog (extract v16 0) w fun v17 w =>
 px prog (extract v16 1) w fun v18 w =>
 px prog (binSem .neq 3 (.tmp 19) (.const (.int .i64 0)) v18 (.int .i64 0)) w fun v20 w =>
 pC v20 (
 k v18 w)
 (
 px prog (nilSem d0) w fun v23 w =>
 px prog (fieldAt 245 v23 2) w fun v24 w =>
 px prog (loadAt 242 v24) w fun v25 w =>
 px prog (indexAt 242 v25 v17) w fun v27 w =>
 px prog (fieldAt 264 v27 1) w fun v28 w =>
 px prog (loadAt 255 v28) w fun v29 w =>
 px prog (binSem .lss 3 (.tmp 30) (.const (.int .i64 0)) n2 (.int .i64 0)) w fun v31 w =>
 pG v31 false (fun k => k n2 w) (w := w) (next := fun v33 w =>
 pG v31 false (fun k => k v29 w) (w := w) (next := fun v34 w =>
 pG v31 false (fun k => px prog (nilSem v34) w k) (w := w) (next := fun v35 w =>
 pG v31 false (fun k => px prog (fieldAt 258 v35 1) w k) (w := w) (next := fun v36 w =>
 pG v31 false (fun k => px prog (loadAt 23 v36) w k) (w := w) (next := fun v37 w =>
 pG v31 false (fun k => px prog (bSem .len #[23] 3 #[v37]) w k) (w := w) (next := fun v38 w =>
 pG v31 false (fun k => px prog (binSem .gtr 3 (.tmp 33) (.tmp 38) v33 v38) w k) (w := w) (next := fun v39 w =>
 px prog (pickSem v31 (.bool true) v39) w fun v40 w =>
 pC v40 (
 k (.int .i64 54) w)
 (
 pFn prog 159 [d0] w fun v43 w =>
 px prog (extract v43 0) w fun v44 w =>
 px prog (extract v43 1) w fun v45 w =>
 px prog (Instr.build 268 #[(0,(.bool true)),(1,n2)]) w fun v47 w =>
 px prog (Instr.alloc 268 true (.tuple #[])) w fun v12 w =>
 pu prog (storeAt 268 v12 v47) w fun w =>
 ∃ S : World → Prop,S w.drew ∧ (fun w =>
 pq prog S (nilSem v29) fun v50 =>
 pq prog S (fieldAt 258 v50 1) fun v51 =>
 pq prog S (loadAt 23 v51) fun v52 =>
 pq prog S (loadAt 268 v12) fun v53 =>
 pFn prog 166 [v52,v53,(.int .i64 1)] w fun v54 w => S w ∧ (
 pq prog S (nilSem v29) fun v55 =>
 pq prog S (fieldAt 258 v55 1) fun v56 =>
 pu prog (storeAt 23 v56 v54) w fun w => (
 ∃ S : World → Prop,S w.drew ∧ (fun w =>
 pq prog S (nilSem v29) fun v59 =>
 pq prog S (fieldAt 258 v59 2) fun v60 =>
 pq prog S (loadAt 256 v60) fun v61 =>
 pq prog S (loadAt 268 v12) fun v62 =>
 px prog (Instr.buildSlice 256 1 #[(0,v62)]) w fun v63 w => S w ∧ (
 px prog (bSem .append #[256,256] 256 #[v61,v63]) w fun v64 w => S w ∧ (
 pq prog S (nilSem v29) fun v65 =>
 pq prog S (fieldAt 258 v65 2) fun v66 =>
 pu prog (storeAt 256 v66 v64) w fun w => (
 pFn prog 160 [d0,v45,(.int .i64 0)] w fun v69 w =>
 k v69 w)))) w.drew))) w.drew)))))))))
theorem F107_0_eq (d0:Value) (name1:Value) (n2:Value) (w:World) (k:KV) : F107A k [] (argEnv [d0,name1,n2]) w = F107_0 d0 name1 n2 w k := by kernel_rfl
theorem F107_in (d0:Value) (name1:Value) (n2:Value) (w:World) (k:KV) (h:F107_0 d0 name1 n2 w k) : pFn prog 107 [d0,name1,n2] w k :=
 pFn_of_at mixed func107 (by kernel_rfl) (by kernel_rfl) ntmps107 (by kernel_rfl) (by kernel_rfl) (by simp) ((F107_0_eq d0 name1 n2 w k).mpr h)
noncomputable def F108B : Code := bodyOf f108
def F108A (k:KV) (q:List Nat) (ρ:Env) (w:World) : Prop := At prog 60 F108B (retQ prog f108.results.toList k) q ρ w
def F108_0 (d0:Value) (from1:Value) (to2:Value) (w:World) (k:KV) : Prop :=
 pFn prog 114 [d0] w fun v11 w =>
 pC v11 (
 k (.int .i64 50) w)
 (
 pFn prog 48 [from1] w fun v13 w =>
 px prog (Op.unary .not v13) w fun v14 w =>
 pG v14 false (fun k => k to2 w) (w := w) (next := fun v16 w =>
 pG v14 false (fun k => pFn prog 48 [v16] w k) (w := w) (next := fun v17 w =>
 pG v14 false (fun k => px prog (Op.unary .not v17) w k) (w := w) (next := fun v18 w =>
 px prog (pickSem v14 (.bool true) v18) w fun v19 w =>
 pC v19 (
 k (.int .i64 51) w)
 (
 px prog (nilSem d0) w fun v21 w =>
 px prog (fieldAt 245 v21 2) w fun v22 w =>
 px prog (loadAt 242 v22) w fun v23 w =>
 pFn prog 158 [v23,from1] w fun v25 w =>
 px prog (binSem .lss 3 (.tmp 25) (.const (.int .i64 0)) v25 (.int .i64 0)) w fun v26 w =>
 pC v26 (
 k (.int .i64 53) w)
 (
 pFn prog 159 [d0] w fun v29 w =>
 px prog (extract v29 0) w fun v30 w =>
 px prog (extract v29 1) w fun v31 w =>
 px prog (binSem .neq 9 (.tmp 32) (.tmp 33) from1 to2) w fun v34 w =>
 pC v34 (
 px prog (Instr.build 260 #[(0,(.int .i64 2)),(1,from1),(2,to2)]) w fun v37 w =>
 px prog (Instr.alloc 260 true (.tuple #[])) w fun v9 w =>
 pu prog (storeAt 260 v9 v37) w fun w =>
 ∃ S : World → Prop,S w.drew ∧ (fun w =>
 pq prog S (nilSem d0) fun v40 =>
 pq prog S (fieldAt 245 v40 2) fun v41 =>
 pq prog S (loadAt 242 v41) fun v42 =>
 pq prog S (loadAt 260 v9) fun v43 =>
 pFn prog 161 [v42,v43] w fun v44 w => S w ∧ (
 pq prog S (nilSem d0) fun v45 =>
 pq prog S (fieldAt 245 v45 2) fun v46 =>
 pu prog (storeAt 242 v46 v44) w fun w => (
 ∃ S : World → Prop,S w.drew ∧ (fun w =>
 pq prog S (nilSem d0) fun v49 =>
 pq prog S (fieldAt 245 v49 4) fun v50 =>
 pq prog S (loadAt 243 v50) fun v51 =>
 pq prog S (loadAt 260 v9) fun v52 =>
 px prog (Instr.buildSlice 243 1 #[(0,v52)]) w fun v53 w => S w ∧ (
 px prog (bSem .append #[243,243] 243 #[v51,v53]) w fun v54 w => S w ∧ (
 pq prog S (nilSem d0) fun v55 =>
 pq prog S (fieldAt 245 v55 4) fun v56 =>
 pu prog (storeAt 243 v56 v54) w fun w => (
 F108A k [1,1,1,1,1,1] (put (put (put (put (put (put (put (put (put (put (put (put (put (put (put (put (put (put (put (put (put (put (put (put (put (put (put (put (put (put (put (put (put (put (put (put (put (put (put (put (put (put (put (put (put (put (put (put (put (put (put (argEnv [d0,from1,to2]) 6 (.int .i64 0)) 10 d0) 11 v11) 12 from1) 13 v13) 14 v14) 15 v14) 16 v16) 17 v17) 18 v18) 19 v19) 20 d0) 21 v21) 22 v22) 23 v23) 24 from1) 25 v25) 26 v26) 28 d0) 29 v29) 27 v29) 30 v30) 31 v31) 7 v30) 8 v31) 32 from1) 33 to2) 34 v34) 35 from1) 36 to2) 37 v37) 9 v9) 38 d0) 39 d0) 40 v40) 41 v41) 42 v42) 43 v43) 44 v44) 45 v45) 46 v46) 47 d0) 48 d0) 49 v49) 50 v50) 51 v51) 52 v52) 53 v53) 54 v54) 55 v55) 56 v56) w)))) w.drew))) w.drew)
 (
 F108A k [1,1,1,1,1,1] (put (put (put (put (put (put (put (put (put (put (put (put (put (put (put (put (put (put (put (put (put (put (put (put (put (put (put (put (argEnv [d0,from1,to2]) 6 (.int .i64 0)) 10 d0) 11 v11) 12 from1) 13 v13) 14 v14) 15 v14) 16 v16) 17 v17) 18 v18) 19 v19) 20 d0) 21 v21) 22 v22) 23 v23) 24 from1) 25 v25) 26 v26) 28 d0) 29 v29) 27 v29) 30 v30) 31 v31) 7 v30) 8 v31) 32 from1) 33 to2) 34 v34) w)))))))
theorem F108_0_eq (d0:Value) (from1:Value) (to2:Value) (w:World) (k:KV) : F108A k [] (argEnv [d0,from1,to2]) w = F108_0 d0 from1 to2 w k := by kernel_rfl
def F108_1 (k:KV) (ρ:Env) (w:World) : Prop :=
 pFn prog 160 [(ρ 0),(ρ 8),(.int .i64 0)] w fun v59 w =>
 k v59 w
theorem F108_1_eq (k:KV) (ρ:Env) (w:World) : F108A k [1,1,1,1,1,1] ρ w = F108_1 k ρ w := by kernel_rfl
theorem F108_in (d0:Value) (from1:Value) (to2:Value) (w:World) (k:KV) (h:F108_0 d0 from1 to2 w k) : pFn prog 108 [d0,from1,to2] w k :=
 pFn_of_at mixed func108 (by kernel_rfl) (by kernel_rfl) ntmps108 (by kernel_rfl) (by kernel_rfl) (by simp) ((F108_0_eq d0 from1 to2 w k).mpr h)
noncomputable def F109B : Code := bodyOf f109
def F109A (k:KV) (q:List Nat) (ρ:Env) (w:World) : Prop := At prog 48 F109B (retQ prog f109.results.toList k) q ρ w
def F109_0 (d0:Value) (name1:Value) (w:World) (k:KV) : Prop :=
 pFn prog 162 [d0,name1] w fun v13 w =>
 px prog (extract v13 0) w fun v14 w =>
 px prog (extract v13 1) w fun v15 w =>
 px prog (binSem .neq 3 (.tmp 16) (.const (.int .i64 0)) v15 (.int .i64 0)) w fun v17 w =>
 pC v17 (
 k v15 w)
 (
 pFn prog 159 [d0] w fun v21 w =>
 px prog (extract v21 0) w fun v22 w =>
 px prog (extract v21 1) w fun v23 w =>
 px prog (Instr.build 260 #[(0,(.int .i64 3)),(1,name1)]) w fun v25 w =>
 px prog (Instr.alloc 260 true (.tuple #[])) w fun v9 w =>
 pu prog (storeAt 260 v9 v25) w fun w =>
 ∃ S : World → Prop,S w.drew ∧ (fun w =>
 pq prog S (nilSem d0) fun v28 =>
 pq prog S (fieldAt 245 v28 2) fun v29 =>
 pq prog S (loadAt 242 v29) fun v30 =>
 pq prog S (loadAt 260 v9) fun v31 =>
 pFn prog 161 [v30,v31] w fun v32 w => S w ∧ (
 pq prog S (nilSem d0) fun v33 =>
 pq prog S (fieldAt 245 v33 2) fun v34 =>
 pu prog (storeAt 242 v34 v32) w fun w => (
 ∃ S : World → Prop,S w.drew ∧ (fun w =>
 pq prog S (nilSem d0) fun v37 =>
 pq prog S (fieldAt 245 v37 4) fun v38 =>
 pq prog S (loadAt 243 v38) fun v39 =>
 pq prog S (loadAt 260 v9) fun v40 =>
 px prog (Instr.buildSlice 243 1 #[(0,v40)]) w fun v41 w => S w ∧ (
 px prog (bSem .append #[243,243] 243 #[v39,v41]) w fun v42 w => S w ∧ (
 pq prog S (nilSem d0) fun v43 =>
 pq prog S (fieldAt 245 v43 4) fun v44 =>
 pu prog (storeAt 243 v44 v42) w fun w => (
 pFn prog 160 [d0,v23,(.int .i64 0)] w fun v47 w =>
 k v47 w)))) w.drew))) w.drew)
theorem F109_0_eq (d0:Value) (name1:Value) (w:World) (k:KV) : F109A k [] (argEnv [d0,name1]) w = F109_0 d0 name1 w k := by kernel_rfl
theorem F109_in (d0:Value) (name1:Value) (w:World) (k:KV) (h:F109_0 d0 name1 w k) : pFn prog 109 [d0,name1] w k :=
 pFn_of_at mixed func109 (by kernel_rfl) (by kernel_rfl) ntmps109 (by kernel_rfl) (by kernel_rfl) (by simp) ((F109_0_eq d0 name1 w k).mpr h)
noncomputable def F110B : Code := bodyOf f110
def F110A (k:KV) (q:List Nat) (ρ:Env) (w:World) : Prop := At prog 48 F110B (retQ prog f110.results.toList k) q ρ w
def F110_0 (d0:Value) (name1:Value) (w:World) (k:KV) : Prop :=
 pFn prog 162 [d0,name1] w fun v13 w =>
 px prog (extract v13 0) w fun v14 w =>
 px prog (extract v13 1) w fun v15 w =>
 px prog (binSem .neq 3 (.tmp 16) (.const (.int .i64 0)) v15 (.int .i64 0)) w fun v17 w =>
 pC v17 (
 k v15 w)
 (
 pFn prog 159 [d0] w fun v21 w =>
 px prog (extract v21 0) w fun v22 w =>
 px prog (extract v21 1) w fun v23 w =>
 px prog (Op.unary .not v23) w fun v25 w =>
 pC v25 (
 px prog (nilSem d0) w fun v27 w =>
 px prog (fieldAt 245 v27 2) w fun v28 w =>
 px prog (loadAt 242 v28) w fun v29 w =>
 px prog (indexAt 242 v29 v14) w fun v31 w =>
 px prog (fieldAt 264 v31 1) w fun v32 w =>
 px prog (loadAt 255 v32) w fun v33 w =>
 px prog (nilSem v33) w fun v36 w =>
 px prog (fieldAt 258 v36 1) w fun v37 w =>
 px prog (loadAt 23 v37) w fun v38 w =>
 pFn prog 167 [v38] w fun v39 w =>
 px prog (nilSem v33) w fun v40 w =>
 px prog (fieldAt 258 v40 0) w fun v41 w =>
 pu prog (storeAt 23 v41 v39) w fun w =>
 px prog (nilSem v33) w fun v43 w =>
 px prog (fieldAt 258 v43 2) w fun v44 w =>
 pu prog (storeAt 256 v44 (.slice none 0 0)) w fun w =>
 F110A k [1,1,1,1,1] (put (put (put (put (put (put (put (put (put (put (put (put (put (put (put (put (put (put (put (put (put (put (put (put (put (put (put (put (put (put (put (put (put (put (put (put (put (put (put (put (argEnv [d0,name1]) 4 (.int .i64 0)) 11 d0) 12 name1) 13 v13) 10 v13) 14 v14) 15 v15) 5 v14) 6 v15) 16 v15) 17 v17) 20 d0) 21 v21) 19 v21) 22 v22) 23 v23) 7 v22) 8 v23) 24 v23) 25 v25) 26 d0) 27 v27) 28 v28) 29 v29) 30 v14) 31 v31) 32 v32) 33 v33) 9 v33) 34 v33) 35 v33) 36 v36) 37 v37) 38 v38) 39 v39) 40 v40) 41 v41) 42 v33) 43 v43) 44 v44) w)
 (
 F110A k [1,1,1,1,1] (put (put (put (put (put (put (put (put (put (put (put (put (put (put (put (put (put (put (put (put (argEnv [d0,name1]) 4 (.int .i64 0)) 11 d0) 12 name1) 13 v13) 10 v13) 14 v14) 15 v15) 5 v14) 6 v15) 16 v15) 17 v17) 20 d0) 21 v21) 19 v21) 22 v22) 23 v23) 7 v22) 8 v23) 24 v23) 25 v25) w))
theorem F110_0_eq (d0:Value) (name1:Value) (w:World) (k:KV) : F110A k [] (argEnv [d0,name1]) w = F110_0 d0 name1 w k := by kernel_rfl
def F110_1 (k:KV) (ρ:Env) (w:World) : Prop :=
 pFn prog 160 [(ρ 0),(ρ 8),(.int .i64 0)] w fun v47 w =>
 k v47 w
theorem F110_1_eq (k:KV) (ρ:Env) (w:World) : F110A k [1,1,1,1,1] ρ w = F110_1 k ρ w := by kernel_rfl
theorem F110_in (d0:Value) (name1:Value) (w:World) (k:KV) (h:F110_0 d0 name1 w k) : pFn prog 110 [d0,name1] w k :=
 pFn_of_at mixed func110 (by kernel_rfl) (by kernel_rfl) ntmps110 (by kernel_rfl) (by kernel_rfl) (by simp) ((F110_0_eq d0 name1 w k).mpr h)
noncomputable def F111B : Code := bodyOf f111
def F111A (k:KV) (q:List Nat) (ρ:Env) (w:World) : Prop := At prog 27 F111B (retQ prog f111.results.toList k) q ρ w
def F111_0 (d0:Value) (w:World) (k:KV) : Prop :=
 pFn prog 114 [d0] w fun v6 w =>
 pC v6 (
 k (.int .i64 50) w)
 (
 pFn prog 159 [d0] w fun v9 w =>
 px prog (extract v9 0) w fun v10 w =>
 px prog (extract v9 1) w fun v11 w =>
 px prog (Op.unary .not v11) w fun v13 w =>
 pC v13 (
 px prog (nilSem d0) w fun v16 w =>
 px prog (fieldAt 245 v16 2) w fun v17 w =>
 px prog (loadAt 242 v17) w fun v18 w =>
 px prog (nilSem d0) w fun v19 w =>
 px prog (fieldAt 245 v19 3) w fun v20 w =>
 pu prog (storeAt 242 v20 v18) w fun w =>
 px prog (nilSem d0) w fun v22 w =>
 px prog (fieldAt 245 v22 4) w fun v23 w =>
 pu prog (storeAt 243 v23 (.slice none 0 0)) w fun w =>
 F111A k [1,1,1,1] (put (put (put (put (put (put (put (put (put (put (put (put (put (put (put (put (put (put (put (put (put (put (argEnv [d0]) 2 (.int .i64 0)) 5 d0) 6 v6) 8 d0) 9 v9) 7 v9) 10 v10) 11 v11) 3 v10) 4 v11) 12 v11) 13 v13) 14 d0) 15 d0) 16 v16) 17 v17) 18 v18) 19 v19) 20 v20) 21 d0) 22 v22) 23 v23) w)
 (
 F111A k [1,1,1,1] (put (put (put (put (put (put (put (put (put (put (put (put (argEnv [d0]) 2 (.int .i64 0)) 5 d0) 6 v6) 8 d0) 9 v9) 7 v9) 10 v10) 11 v11) 3 v10) 4 v11) 12 v11) 13 v13) w))
theorem F111_0_eq (d0:Value) (w:World) (k:KV) : F111A k [] (argEnv [d0]) w = F111_0 d0 w k := by kernel_rfl
def F111_1 (k:KV) (ρ:Env) (w:World) : Prop :=
 pFn prog 160 [(ρ 0),(ρ 4),(.int .i64 0)] w fun v26 w =>
 k v26 w
theorem F111_1_eq (k:KV) (ρ:Env) (w:World) : F111A k [1,1,1,1] ρ w = F111_1 k ρ w := by kernel_rfl
theorem F111_in (d0:Value) (w:World) (k:KV) (h:F111_0 d0 w k) : pFn prog 111 [d0] w k :=
 pFn_of_at mixed func111 (by kernel_rfl) (by kernel_rfl) ntmps111 (by kernel_rfl) (by kernel_rfl) (by simp) ((F111_0_eq d0 w k).mpr h)
noncomputable def F112B : Code := bodyOf f112
def F112A (k:KV) (q:List Nat) (ρ:Env) (w:World) : Prop := At prog 14 F112B (retQ prog f112.results.toList k) q ρ w
def F112_0 (d0:Value) (p1:Value) (w:World) (k:KV) : Prop :=
 px prog (Instr.box 85 p1) w fun v3 w =>
 pFn prog 114 [d0] w fun v5 w =>
 px prog (Op.unary .not v5) w fun v6 w =>
 pC v6 (
 px prog (loadAt 85 v3) w fun v8 w =>
 px prog (nilSem d0) w fun v9 w =>
 px prog (fieldAt 245 v9 7) w fun v10 w =>
 pu prog (storeAt 85 v10 v8) w fun w =>
 px prog (nilSem d0) w fun v12 w =>
 px prog (fieldAt 245 v12 6) w fun v13 w =>
 pu prog (storeAt 3 v13 (.int .i64 0)) w fun w =>
 k (.tuple #[]) w)
 (
 k (.tuple #[]) w)
theorem F112_0_eq (d0:Value) (p1:Value) (w:World) (k:KV) : F112A k [] (argEnv [d0,p1]) w = F112_0 d0 p1 w k := by kernel_rfl
theorem F112_in (d0:Value) (p1:Value) (w:World) (k:KV) (h:F112_0 d0 p1 w k) : pFn prog 112 [d0,p1] w k :=
 pFn_of_at mixed func112 (by kernel_rfl) (by kernel_rfl) ntmps112 (by kernel_rfl) (by kernel_rfl) (by simp) ((F112_0_eq d0 p1 w k).mpr h)
noncomputable def F113B : Code := bodyOf f113
def F113A (k:KV) (q:List Nat) (ρ:Env) (w:World) : Prop := At prog 166 F113B (retQ prog f113.results.toList k) q ρ w
noncomputable def F113B1 : Code := sub F113B [1,1,1,0,1,0,0]
def F113Q1 (k:KV) (N1:KE) : Xt → KE := thenE N1 (contAt prog 166 F113B (retQ prog f113.results.toList k) [1,1,1,0,1,0])
def F113A1 (k:KV) (N1:KE) (q:List Nat) (ρ:Env) (w:World) : Prop := At prog 166 F113B1 (F113Q1 k N1) q ρ w
def F113L1 (k:KV) (ρ:Env) (w:World) : Prop := LoopAt prog 166 F113B (retQ prog f113.results.toList k) [1,1,1,0,1,0] ρ w
theorem F113L1_inv (k:KV) (I:Nat → KE) (round:∀ m ρ w,I m ρ w → F113A1 k (fun ρ' w' => ∃ m',m' < m ∧ I m' ρ' w') [] ρ w) {m:Nat} {ρ:Env} {w:World} (h:I m ρ w) : F113L1 k ρ w :=
 LoopAt_inv mixed (B := F113B) (Q := (retQ prog f113.results.toList k)) (p := [1,1,1,0,1,0]) (by kernel_rfl) (by kernel_rfl) I round h
noncomputable def F113B2 : Code := sub F113B [1,1,1,1,1,0,1,0,0]
def F113Q2 (k:KV) (N2:KE) : Xt → KE := thenE N2 (contAt prog 166 F113B (retQ prog f113.results.toList k) [1,1,1,1,1,0,1,0])
def F113A2 (k:KV) (N2:KE) (q:List Nat) (ρ:Env) (w:World) : Prop := At prog 166 F113B2 (F113Q2 k N2) q ρ w
def F113L2 (k:KV) (ρ:Env) (w:World) : Prop := LoopAt prog 166 F113B (retQ prog f113.results.toList k) [1,1,1,1,1,0,1,0] ρ w
theorem F113L2_inv (k:KV) (I:Nat → KE) (round:∀ m ρ w,I m ρ w → F113A2 k (fun ρ' w' => ∃ m',m' < m ∧ I m' ρ' w') [] ρ w) {m:Nat} {ρ:Env} {w:World} (h:I m ρ w) : F113L2 k ρ w :=
 LoopAt_inv mixed (B := F113B) (Q := (retQ prog f113.results.toList k)) (p := [1,1,1,1,1,0,1,0]) (by kernel_rfl) (by kernel_rfl) I round h
noncomputable def F113B3 : Code := sub F113B2 [1,0,0,1,1,0,1,0,0]
def F113Q3 (k:KV) (N2:KE) (N3:KE) : Xt → KE := thenE N3 (contAt prog 166 F113B2 (F113Q2 k N2) [1,0,0,1,1,0,1,0])
def F113A3 (k:KV) (N2:KE) (N3:KE) (q:List Nat) (ρ:Env) (w:World) : Prop := At prog 166 F113B3 (F113Q3 k N2 N3) q ρ w
def F113L3 (k:KV) (N2:KE) (ρ:Env) (w:World) : Prop := LoopAt prog 166 F113B2 (F113Q2 k N2) [1,0,0,1,1,0,1,0] ρ w
theorem F113L3_inv (k:KV) (N2:KE) (I:Nat → KE) (round:∀ m ρ w,I m ρ w → F113A3 k N2 (fun ρ' w' => ∃ m',m' < m ∧ I m' ρ' w') [] ρ w) {m:Nat} {ρ:Env} {w:World} (h:I m ρ w) : F113L3 k N2 ρ w :=
 LoopAt_inv mixed (B := F113B2) (Q := (F113Q2 k N2)) (p := [1,0,0,1,1,0,1,0]) (by kernel_rfl) (by kernel_rfl) I round h
noncomputable def F113B4 : Code := sub F113B2 [1,0,0,1,1,1,1,1,0,1,0,0]
def F113Q4 (k:KV) (N2:KE) (N4:KE) : Xt → KE := thenE N4 (contAt prog 166 F113B2 (F113Q2 k N2) [1,0,0,1,1,1,1,1,0,1,0])
def F113A4 (k:KV) (N2:KE) (N4:KE) (q:List Nat) (ρ:Env) (w:World) : Prop := At prog 166 F113B4 (F113Q4 k N2 N4) q ρ w
def F113L4 (k:KV) (N2:KE) (ρ:Env) (w:World) : Prop := LoopAt prog 166 F113B2 (F113Q2 k N2) [1,0,0,1,1,1,1,1,0,1,0] ρ w
theorem F113L4_inv (k:KV) (N2:KE) (I:Nat → KE) (round:∀ m ρ w,I m ρ w → F113A4 k N2 (fun ρ' w' => ∃ m',m' < m ∧ I m' ρ' w') [] ρ w) {m:Nat} {ρ:Env} {w:World} (h:I m ρ w) : F113L4 k N2 ρ w :=
 LoopAt_inv mixed (B := F113B2) (Q := (F113Q2 k N2)) (p := [1,0,0,1,1,1,1,1,0,1,0]) (by kernel_rfl) (by kernel_rfl) I round h
def F113_0 (d0:Value) (picks1:Value) (w:World) (k:KV) : Prop :=
 px prog (binSem .eql 177 (.tmp 16) (.const (.pointer none)) d0 (.pointer none)) w fun v17 w =>
 pG v17 false (fun k => k d0 w) (w := w) (next := fun v19 w =>
 pG v17 false (fun k => px prog (nilSem v19) w k) (w := w) (next := fun v20 w =>
 pG v17 false (fun k => px prog (fieldAt 245 v20 1) w k) (w := w) (next := fun v21 w =>
 pG v17 false (fun k => px prog (loadAt 3 v21) w k) (w := w) (next := fun v22 w =>
 pG v17 false (fun k => px prog (binSem .eql 3 (.tmp 22) (.const (.int .i64 0)) v22 (.int .i64 0)) w k) (w := w) (next := fun v23 w =>
 px prog (pickSem v17 (.bool true) v23) w fun v24 w =>
 pC v24 (
 k (.tuple #[]) w)
 (
 px prog (nilSem d0) w fun v26 w =>
 px prog (fieldAt 245 v26 3) w fun v27 w =>
 px prog (loadAt 242 v27) w fun v28 w =>
 px prog (nilSem d0) w fun v31 w =>
 px prog (fieldAt 245 v31 4) w fun v32 w =>
 px prog (loadAt 243 v32) w fun v33 w =>
 px prog (bSem .len #[243] 3 #[v33]) w fun v34 w =>
 pFn prog 168 [picks1,(.int .i64 0),v34] w fun v35 w =>
 F113L1 k (put (put (put (put (put (put (put (put (put (put (put (put (put (put (put (put (put (put (put (put (put (put (put (argEnv [d0,picks1]) 16 d0) 17 v17) 18 v17) 19 v19) 20 v20) 21 v21) 22 v22) 23 v23) 24 v24) 25 d0) 26 v26) 27 v27) 28 v28) 4 v28) 29 picks1) 30 d0) 31 v31) 32 v32) 33 v33) 34 v34) 35 v35) 5 v35) 6 (.int .i64 0)) w))))))
theorem F113_0_eq (d0:Value) (picks1:Value) (w:World) (k:KV) : F113A k [] (argEnv [d0,picks1]) w = F113_0 d0 picks1 w k := by kernel_rfl
def F113_1 (k:KV) (N1:KE) (ρ:Env) (w:World) : Prop :=
 px prog (binSem .lss 3 (.tmp 36) (.tmp 37) (ρ 6) (ρ 5)) w fun v38 w =>
 pC v38 (
 px prog (nilSem (ρ 0)) w fun v43 w =>
 px prog (fieldAt 245 v43 4) w fun v44 w =>
 px prog (loadAt 243 v44) w fun v45 w =>
 px prog (indexAt 243 v45 (ρ 6)) w fun v47 w =>
 px prog (loadAt 260 v47) w fun v48 w =>
 pFn prog 161 [(ρ 4),v48] w fun v49 w =>
 px prog (binSem .add 3 (.tmp 39) (.const (.int .i64 1)) (ρ 6) (.int .i64 1)) w fun v40 w =>
 N1 (put (put (put (put (put (put (put (put (put (put (put (put (put (put (put (put ρ 36 (ρ 6)) 37 (ρ 5)) 38 v38) 41 (ρ 4)) 42 (ρ 0)) 43 v43) 44 v44) 45 v45) 46 (ρ 6)) 47 v47) 48 v48) 49 v49) 4 v49) 39 (ρ 6)) 40 v40) 6 v40) w)
 (
 F113A k [1,1,1,1] (put (put (put ρ 36 (ρ 6)) 37 (ρ 5)) 38 v38) w)
theorem F113_1_eq (k:KV) (N1:KE) (ρ:Env) (w:World) : F113A1 k N1 [] ρ w = F113_1 k N1 ρ w := by kernel_rfl
def F113_2 (k:KV) (ρ:Env) (w:World) : Prop :=
 F113L2 k (put (put ρ 7 (.slice none 0 0)) 8 (.int .i64 0)) w
theorem F113_2_eq (k:KV) (ρ:Env) (w:World) : F113A k [1,1,1,1] ρ w = F113_2 k ρ w := by kernel_rfl
def F113_3 (k:KV) (N2:KE) (ρ:Env) (w:World) : Prop :=
 px prog (bSem .len #[242] 3 #[(ρ 4)]) w fun v52 w =>
 px prog (binSem .lss 3 (.tmp 50) (.tmp 52) (ρ 8) v52) w fun v53 w =>
 pC v53 (
 px prog (indexAt 242 (ρ 4) (ρ 8)) w fun v58 w =>
 px prog (fieldAt 264 v58 1) w fun v59 w =>
 px prog (loadAt 255 v59) w fun v60 w =>
 F113L3 k N2 (put (put (put (put (put (put (put (put (put (put (put (put ρ 50 (ρ 8)) 51 (ρ 4)) 52 v52) 53 v53) 56 (ρ 4)) 57 (ρ 8)) 58 v58) 59 v59) 60 v60) 9 v60) 10 (.int .i64 0)) 11 (.int .i64 0)) w)
 (
 F113A k [1,1,1,1,1,1] (put (put (put (put ρ 50 (ρ 8)) 51 (ρ 4)) 52 v52) 53 v53) w)
theorem F113_3_eq (k:KV) (N2:KE) (ρ:Env) (w:World) : F113A2 k N2 [] ρ w = F113_3 k N2 ρ w := by kernel_rfl
def F113_4 (k:KV) (N2:KE) (N3:KE) (ρ:Env) (w:World) : Prop :=
 px prog (nilSem (ρ 9)) w fun v63 w =>
 px prog (fieldAt 258 v63 2) w fun v64 w =>
 px prog (loadAt 256 v64) w fun v65 w =>
 px prog (bSem .len #[256] 3 #[v65]) w fun v66 w =>
 px prog (binSem .lss 3 (.tmp 61) (.tmp 66) (ρ 11) v66) w fun v67 w =>
 pC v67 (
 px prog (nilSem (ρ 9)) w fun v72 w =>
 px prog (fieldAt 258 v72 2) w fun v73 w =>
 px prog (loadAt 256 v73) w fun v74 w =>
 px prog (indexAt 256 v74 (ρ 11)) w fun v76 w =>
 px prog (loadAt 268 v76) w fun v77 w =>
 pFn prog 169 [v77] w fun v78 w =>
 px prog (binSem .add 3 (.tmp 70) (.tmp 78) (ρ 10) v78) w fun v79 w =>
 px prog (binSem .add 3 (.tmp 68) (.const (.int .i64 1)) (ρ 11) (.int .i64 1)) w fun v69 w =>
 N3 (put (put (put (put (put (put (put (put (put (put (put (put (put (put (put (put (put (put (put (put (put ρ 61 (ρ 11)) 62 (ρ 9)) 63 v63) 64 v64) 65 v65) 66 v66) 67 v67) 70 (ρ 10)) 71 (ρ 9)) 72 v72) 73 v73) 74 v74) 75 (ρ 11)) 76 v76) 77 v77) 78 v78) 79 v79) 10 v79) 68 (ρ 11)) 69 v69) 11 v69) w)
 (
 F113A2 k N2 [1,0,0,1,1,1] (put (put (put (put (put (put (put ρ 61 (ρ 11)) 62 (ρ 9)) 63 v63) 64 v64) 65 v65) 66 v66) 67 v67) w)
theorem F113_4_eq (k:KV) (N2:KE) (N3:KE) (ρ:Env) (w:World) : F113A3 k N2 N3 [] ρ w = F113_4 k N2 N3 ρ w := by kernel_rfl
def F113_5 (k:KV) (ρ:Env) (w:World) : Prop :=
 px prog (nilSem (ρ 0)) w fun v144 w =>
 px prog (fieldAt 245 v144 2) w fun v145 w =>
 pu prog (storeAt 242 v145 (ρ 7)) w fun w =>
 px prog (nilSem (ρ 0)) w fun v148 w =>
 px prog (fieldAt 245 v148 3) w fun v149 w =>
 pu prog (storeAt 242 v149 (ρ 7)) w fun w =>
 px prog (nilSem (ρ 0)) w fun v151 w =>
 px prog (fieldAt 245 v151 4) w fun v152 w =>
 pu prog (storeAt 243 v152 (.slice none 0 0)) w fun w =>
 px prog (nilSem (ρ 0)) w fun v154 w =>
 px prog (fieldAt 245 v154 0) w fun v155 w =>
 pu prog (storeAt 4 v155 (.bool true)) w fun w =>
 px prog (Instr.build 85 #[]) w fun v157 w =>
 px prog (nilSem (ρ 0)) w fun v158 w =>
 px prog (fieldAt 245 v158 7) w fun v159 w =>
 pu prog (storeAt 85 v159 v157) w fun w =>
 px prog (nilSem (ρ 0)) w fun v161 w =>
 px prog (fieldAt 245 v161 5) w fun v162 w =>
 pu prog (storeAt 3 v162 (.int .i64 0)) w fun w =>
 px prog (nilSem (ρ 0)) w fun v164 w =>
 px prog (fieldAt 245 v164 6) w fun v165 w =>
 pu prog (storeAt 3 v165 (.int .i64 0)) w fun w =>
 k (.tuple #[]) w
theorem F113_5_eq (k:KV) (ρ:Env) (w:World) : F113A k [1,1,1,1,1,1] ρ w = F113_5 k ρ w := by kernel_rfl
def F113_6 (k:KV) (N2:KE) (ρ:Env) (w:World) : Prop :=
 px prog (binSem .add 3 (.tmp 81) (.const (.int .i64 1)) (ρ 8) (.int .i64 1)) w fun v82 w =>
 pFn prog 168 [(ρ 1),v82,(ρ 10)] w fun v84 w =>
 px prog (nilSem (ρ 9)) w fun v86 w =>
 px prog (fieldAt 258 v86 0) w fun v87 w =>
 px prog (loadAt 23 v87) w fun v88 w =>
 pFn prog 167 [v88] w fun v89 w =>
 F113L4 k N2 (put (put (put (put (put (put (put (put (put (put (put (put (put ρ 80 (ρ 1)) 81 (ρ 8)) 82 v82) 83 (ρ 10)) 84 v84) 12 v84) 85 (ρ 9)) 86 v86) 87 v87) 88 v88) 89 v89) 13 v89) 14 (.int .i64 0)) w
theorem F113_6_eq (k:KV) (N2:KE) (ρ:Env) (w:World) : F113A2 k N2 [1,0,0,1,1,1] ρ w = F113_6 k N2 ρ w := by kernel_rfl
def F113_7 (k:KV) (N2:KE) (N4:KE) (ρ:Env) (w:World) : Prop :=
 px prog (nilSem (ρ 9)) w fun v92 w =>
 px prog (fieldAt 258 v92 2) w fun v93 w =>
 px prog (loadAt 256 v93) w fun v94 w =>
 px prog (bSem .len #[256] 3 #[v94]) w fun v95 w =>
 px prog (binSem .lss 3 (.tmp 90) (.tmp 95) (ρ 14) v95) w fun v96 w =>
 pG v96 true (fun k => k (ρ 12) w) (w := w) (next := fun v98 w =>
 pG v96 true (fun k => px prog (binSem .gtr 3 (.tmp 98) (.const (.int .i64 0)) v98 (.int .i64 0)) w k) (w := w) (next := fun v99 w =>
 px prog (pickSem v96 v99 (.bool false)) w fun v100 w =>
 pC v100 (
 px prog (nilSem (ρ 9)) w fun v104 w =>
 px prog (fieldAt 258 v104 2) w fun v105 w =>
 px prog (loadAt 256 v105) w fun v106 w =>
 px prog (indexAt 256 v106 (ρ 14)) w fun v108 w =>
 px prog (loadAt 268 v108) w fun v109 w =>
 pFn prog 169 [v109] w fun v110 w =>
 px prog (binSem .gtr 3 (.tmp 111) (.tmp 112) v110 (ρ 12)) w fun v113 w =>
 pC v113 (
 F113A4 k N2 N4 [1,0,0,1,1] (put (put (put (put (put (put (put (put (put (put (put (put (put (put (put (put (put (put (put (put (put (put (put (put (put ρ 90 (ρ 14)) 91 (ρ 9)) 92 v92) 93 v93) 94 v94) 95 v95) 96 v96) 97 v96) 98 v98) 99 v99) 100 v100) 103 (ρ 9)) 104 v104) 105 v105) 106 v106) 107 (ρ 14)) 108 v108) 109 v109) 110 v110) 15 v110) 111 v110) 112 (ρ 12)) 113 v113) 114 (ρ 12)) 15 (ρ 12)) w)
 (
 F113A4 k N2 N4 [1,0,0,1,1] (put (put (put (put (put (put (put (put (put (put (put (put (put (put (put (put (put (put (put (put (put (put (put ρ 90 (ρ 14)) 91 (ρ 9)) 92 v92) 93 v93) 94 v94) 95 v95) 96 v96) 97 v96) 98 v98) 99 v99) 100 v100) 103 (ρ 9)) 104 v104) 105 v105) 106 v106) 107 (ρ 14)) 108 v108) 109 v109) 110 v110) 15 v110) 111 v110) 112 (ρ 12)) 113 v113) w))
 (
 F113A2 k N2 [1,0,0,1,1,1,1,1,1] (put (put (put (put (put (put (put (put (put (put (put ρ 90 (ρ 14)) 91 (ρ 9)) 92 v92) 93 v93) 94 v94) 95 v95) 96 v96) 97 v96) 98 v98) 99 v99) 100 v100) w)))
theorem F113_7_eq (k:KV) (N2:KE) (N4:KE) (ρ:Env) (w:World) : F113A4 k N2 N4 [] ρ w = F113_7 k N2 N4 ρ w := by kernel_rfl
def F113_8 (k:KV) (N2:KE) (N4:KE) (ρ:Env) (w:World) : Prop :=
 px prog (nilSem (ρ 9)) w fun v117 w =>
 px prog (fieldAt 258 v117 2) w fun v118 w =>
 px prog (loadAt 256 v118) w fun v119 w =>
 px prog (indexAt 256 v119 (ρ 14)) w fun v121 w =>
 px prog (loadAt 268 v121) w fun v122 w =>
 pFn prog 166 [(ρ 13),v122,(ρ 15)] w fun v124 w =>
 px prog (binSem .sub 3 (.tmp 125) (.tmp 126) (ρ 12) (ρ 15)) w fun v127 w =>
 px prog (binSem .add 3 (.tmp 101) (.const (.int .i64 1)) (ρ 14) (.int .i64 1)) w fun v102 w =>
 N4 (put (put (put (put (put (put (put (put (put (put (put (put (put (put (put (put (put (put ρ 115 (ρ 13)) 116 (ρ 9)) 117 v117) 118 v118) 119 v119) 120 (ρ 14)) 121 v121) 122 v122) 123 (ρ 15)) 124 v124) 13 v124) 125 (ρ 12)) 126 (ρ 15)) 127 v127) 12 v127) 101 (ρ 14)) 102 v102) 14 v102) w
theorem F113_8_eq (k:KV) (N2:KE) (N4:KE) (ρ:Env) (w:World) : F113A4 k N2 N4 [1,0,0,1,1] ρ w = F113_8 k N2 N4 ρ w := by kernel_rfl
def F113_9 (k:KV) (N2:KE) (ρ:Env) (w:World) : Prop :=
 ∃ S : World → Prop,S w.drew ∧ (fun w =>
 pq prog S (indexAt 242 (ρ 4) (ρ 8)) fun v131 =>
 pq prog S (fieldAt 264 v131 0) fun v132 =>
 pq prog S (loadAt 9 v132) fun v133 =>
 pFn prog 167 [(ρ 13)] w fun v136 w => S w ∧ (
 pq prog S (Instr.build 258 #[(0,(ρ 13)),(1,v136)]) fun v137 =>
 px prog (Instr.box 258 v137) w fun v138 w => S w ∧ (
 pq prog S (Instr.build 264 #[(0,v133),(1,v138)]) fun v139 =>
 px prog (Instr.buildSlice 242 1 #[(0,v139)]) w fun v140 w => S w ∧ (
 px prog (bSem .append #[242,242] 242 #[(ρ 7),v140]) w fun v141 w => S w ∧ (
 px prog (binSem .add 3 (.tmp 54) (.const (.int .i64 1)) (ρ 8) (.int .i64 1)) w fun v55 w =>
 N2 (put (put (put (put (put (put (put (put (put (put (put (put (put (put (put (put (put (put ρ 128 (ρ 7)) 129 (ρ 4)) 130 (ρ 8)) 131 v131) 132 v132) 133 v133) 134 (ρ 13)) 135 (ρ 13)) 136 v136) 137 v137) 138 v138) 139 v139) 140 v140) 141 v141) 7 v141) 54 (ρ 8)) 55 v55) 8 v55) w))))) w.drew
theorem F113_9_eq (k:KV) (N2:KE) (ρ:Env) (w:World) : F113A2 k N2 [1,0,0,1,1,1,1,1,1] ρ w = F113_9 k N2 ρ w := by kernel_rfl
theorem F113_in (d0:Value) (picks1:Value) (w:World) (k:KV) (h:F113_0 d0 picks1 w k) : pFn prog 113 [d0,picks1] w k :=
 pFn_of_at mixed func113 (by kernel_rfl) (by kernel_rfl) ntmps113 (by kernel_rfl) (by kernel_rfl) (by simp) ((F113_0_eq d0 picks1 w k).mpr h)
noncomputable def F114B : Code := bodyOf f114
def F114A (k:KV) (q:List Nat) (ρ:Env) (w:World) : Prop := At prog 12 F114B (retQ prog f114.results.toList k) q ρ w
def F114_0 (d0:Value) (w:World) (k:KV) : Prop :=
 px prog (binSem .eql 177 (.tmp 3) (.const (.pointer none)) d0 (.pointer none)) w fun v4 w =>
 pG v4 false (fun k => k d0 w) (w := w) (next := fun v6 w =>
 pG v4 false (fun k => px prog (nilSem v6) w k) (w := w) (next := fun v7 w =>
 pG v4 false (fun k => px prog (fieldAt 245 v7 0) w k) (w := w) (next := fun v8 w =>
 pG v4 false (fun k => px prog (loadAt 4 v8) w k) (w := w) (next := fun v9 w =>
 pG v4 false (fun k => px prog (Op.unary .not v9) w k) (w := w) (next := fun v10 w =>
 px prog (pickSem v4 (.bool true) v10) w fun v11 w =>
 k v11 w)))))
theorem F114_0_eq (d0:Value) (w:World) (k:KV) : F114A k [] (argEnv [d0]) w = F114_0 d0 w k := by kernel_rfl
theorem F114_in (d0:Value) (w:World) (k:KV) (h:F114_0 d0 w k) : pFn prog 114 [d0] w k :=
 pFn_of_at mixed func114 (by kernel_rfl) (by kernel_rfl) ntmps114 (by kernel_rfl) (by kernel_rfl) (by simp) ((F114_0_eq d0 w k).mpr h)
noncomputable def F115B : Code := bodyOf f115
def F115A (k:KV) (q:List Nat) (ρ:Env) (w:World) : Prop := At prog 9 F115B (retQ prog f115.results.toList k) q ρ w
def F115_0 (d0:Value) (w:World) (k:KV) : Prop :=
 px prog (binSem .eql 177 (.tmp 3) (.const (.pointer none)) d0 (.pointer none)) w fun v4 w =>
 pC v4 (
 k (.int .i64 0) w)
 (
 px prog (nilSem d0) w fun v6 w =>
 px prog (fieldAt 245 v6 5) w fun v7 w =>
 px prog (loadAt 3 v7) w fun v8 w =>
 k v8 w)
theorem F115_0_eq (d0:Value) (w:World) (k:KV) : F115A k [] (argEnv [d0]) w = F115_0 d0 w k := by kernel_rfl
theorem F115_in (d0:Value) (w:World) (k:KV) (h:F115_0 d0 w k) : pFn prog 115 [d0] w k :=
 pFn_of_at mixed func115 (by kernel_rfl) (by kernel_rfl) ntmps115 (by kernel_rfl) (by kernel_rfl) (by simp) ((F115_0_eq d0 w k).mpr h)
noncomputable def F116B : Code := bodyOf f116
def F116A (k:KV) (q:List Nat) (ρ:Env) (w:World) : Prop := At prog 41 F116B (retQ prog f116.results.toList k) q ρ w
noncomputable def F116B1 : Code := sub F116B [1,1,1,0,1,0,0]
def F116Q1 (k:KV) (N1:KE) : Xt → KE := thenE N1 (contAt prog 41 F116B (retQ prog f116.results.toList k) [1,1,1,0,1,0])
def F116A1 (k:KV) (N1:KE) (q:List Nat) (ρ:Env) (w:World) : Prop := At prog 41 F116B1 (F116Q1 k N1) q ρ w
def F116L1 (k:KV) (ρ:Env) (w:World) : Prop := LoopAt prog 41 F116B (retQ prog f116.results.toList k) [1,1,1,0,1,0] ρ w
theorem F116L1_inv (k:KV) (I:Nat → KE) (round:∀ m ρ w,I m ρ w → F116A1 k (fun ρ' w' => ∃ m',m' < m ∧ I m' ρ' w') [] ρ w) {m:Nat} {ρ:Env} {w:World} (h:I m ρ w) : F116L1 k ρ w :=
 LoopAt_inv mixed (B := F116B) (Q := (retQ prog f116.results.toList k)) (p := [1,1,1,0,1,0]) (by kernel_rfl) (by kernel_rfl) I round h
def F116_0 (d0:Value) (w:World) (k:KV) : Prop :=
 px prog (binSem .eql 177 (.tmp 5) (.const (.pointer none)) d0 (.pointer none)) w fun v6 w =>
 pC v6 (
 k (.slice none 0 0) w)
 (
 F116L1 k (put (put (put (put (put (argEnv [d0]) 2 (.slice none 0 0)) 3 (.slice none 0 0)) 5 d0) 6 v6) 4 (.int .i64 0)) w)
theorem F116_0_eq (d0:Value) (w:World) (k:KV) : F116A k [] (argEnv [d0]) w = F116_0 d0 w k := by kernel_rfl
def F116_1 (k:KV) (N1:KE) (ρ:Env) (w:World) : Prop :=
 px prog (nilSem (ρ 0)) w fun v9 w =>
 px prog (fieldAt 245 v9 2) w fun v10 w =>
 px prog (loadAt 242 v10) w fun v11 w =>
 px prog (bSem .len #[242] 3 #[v11]) w fun v12 w =>
 px prog (binSem .lss 3 (.tmp 7) (.tmp 12) (ρ 4) v12) w fun v13 w =>
 pC v13 (
 ∃ S : World → Prop,S w.drew ∧ (fun w =>
 pq prog S (nilSem (ρ 0)) fun v18 =>
 pq prog S (fieldAt 245 v18 2) fun v19 =>
 pq prog S (loadAt 242 v19) fun v20 =>
 pq prog S (indexAt 242 v20 (ρ 4)) fun v22 =>
 pq prog S (fieldAt 264 v22 0) fun v23 =>
 pq prog S (loadAt 9 v23) fun v24 =>
 pq prog S (nilSem (ρ 0)) fun v26 =>
 pq prog S (fieldAt 245 v26 2) fun v27 =>
 pq prog S (loadAt 242 v27) fun v28 =>
 pq prog S (indexAt 242 v28 (ρ 4)) fun v30 =>
 pq prog S (fieldAt 264 v30 1) fun v31 =>
 pq prog S (loadAt 255 v31) fun v32 =>
 pq prog S (nilSem v32) fun v33 =>
 pq prog S (fieldAt 258 v33 1) fun v34 =>
 pq prog S (loadAt 23 v34) fun v35 =>
 pFn prog 167 [v35] w fun v36 w => S w ∧ (
 pq prog S (Instr.build 107 #[(0,v24),(1,v36)]) fun v37 =>
 px prog (Instr.buildSlice 36 1 #[(0,v37)]) w fun v38 w => S w ∧ (
 px prog (bSem .append #[36,36] 36 #[(ρ 3),v38]) w fun v39 w => S w ∧ (
 px prog (binSem .add 3 (.tmp 14) (.const (.int .i64 1)) (ρ 4) (.int .i64 1)) w fun v15 w =>
 N1 (put (put (put (put (put (put (put (put (put (put (put (put (put (put (put (put (put (put (put (put (put (put (put (put (put (put (put (put (put (put (put (put (put (put (put ρ 7 (ρ 4)) 8 (ρ 0)) 9 v9) 10 v10) 11 v11) 12 v12) 13 v13) 16 (ρ 3)) 17 (ρ 0)) 18 v18) 19 v19) 20 v20) 21 (ρ 4)) 22 v22) 23 v23) 24 v24) 25 (ρ 0)) 26 v26) 27 v27) 28 v28) 29 (ρ 4)) 30 v30) 31 v31) 32 v32) 33 v33) 34 v34) 35 v35) 36 v36) 37 v37) 38 v38) 39 v39) 3 v39) 14 (ρ 4)) 15 v15) 4 v15) w)))) w.drew)
 (
 F116A k [1,1,1,1] (put (put (put (put (put (put (put ρ 7 (ρ 4)) 8 (ρ 0)) 9 v9) 10 v10) 11 v11) 12 v12) 13 v13) w)
theorem F116_1_eq (k:KV) (N1:KE) (ρ:Env) (w:World) : F116A1 k N1 [] ρ w = F116_1 k N1 ρ w := by kernel_rfl
def F116_2 (k:KV) (ρ:Env) (w:World) : Prop :=
 k (ρ 3) w
theorem F116_2_eq (k:KV) (ρ:Env) (w:World) : F116A k [1,1,1,1] ρ w = F116_2 k ρ w := by kernel_rfl
theorem F116_in (d0:Value) (w:World) (k:KV) (h:F116_0 d0 w k) : pFn prog 116 [d0] w k :=
 pFn_of_at mixed func116 (by kernel_rfl) (by kernel_rfl) ntmps116 (by kernel_rfl) (by kernel_rfl) (by simp) ((F116_0_eq d0 w k).mpr h)
noncomputable def F118B : Code := bodyOf f118
def F118A (k:KV) (q:List Nat) (ρ:Env) (w:World) : Prop := At prog 41 F118B (retQ prog f118.results.toList k) q ρ w
noncomputable def F118B1 : Code := sub F118B [1,1,1,0,1,0,0]
def F118Q1 (k:KV) (N1:KE) : Xt → KE := thenE N1 (contAt prog 41 F118B (retQ prog f118.results.toList k) [1,1,1,0,1,0])
def F118A1 (k:KV) (N1:KE) (q:List Nat) (ρ:Env) (w:World) : Prop := At prog 41 F118B1 (F118Q1 k N1) q ρ w
def F118L1 (k:KV) (ρ:Env) (w:World) : Prop := LoopAt prog 41 F118B (retQ prog f118.results.toList k) [1,1,1,0,1,0] ρ w
theorem F118L1_inv (k:KV) (I:Nat → KE) (round:∀ m ρ w,I m ρ w → F118A1 k (fun ρ' w' => ∃ m',m' < m ∧ I m' ρ' w') [] ρ w) {m:Nat} {ρ:Env} {w:World} (h:I m ρ w) : F118L1 k ρ w :=
 LoopAt_inv mixed (B := F118B) (Q := (retQ prog f118.results.toList k)) (p := [1,1,1,0,1,0]) (by kernel_rfl) (by kernel_rfl) I round h
def F118_0 (d0:Value) (w:World) (k:KV) : Prop :=
 px prog (binSem .eql 177 (.tmp 5) (.const (.pointer none)) d0 (.pointer none)) w fun v6 w =>
 pC v6 (
 k (.slice none 0 0) w)
 (
 F118L1 k (put (put (put (put (put (argEnv [d0]) 2 (.slice none 0 0)) 3 (.slice none 0 0)) 5 d0) 6 v6) 4 (.int .i64 0)) w)
theorem F118_0_eq (d0:Value) (w:World) (k:KV) : F118A k [] (argEnv [d0]) w = F118_0 d0 w k := by kernel_rfl
def F118_1 (k:KV) (N1:KE) (ρ:Env) (w:World) : Prop :=
 px prog (nilSem (ρ 0)) w fun v9 w =>
 px prog (fieldAt 245 v9 3) w fun v10 w =>
 px prog (loadAt 242 v10) w fun v11 w =>
 px prog (bSem .len #[242] 3 #[v11]) w fun v12 w =>
 px prog (binSem .lss 3 (.tmp 7) (.tmp 12) (ρ 4) v12) w fun v13 w =>
 pC v13 (
 ∃ S : World → Prop,S w.drew ∧ (fun w =>
 pq prog S (nilSem (ρ 0)) fun v18 =>
 pq prog S (fieldAt 245 v18 3) fun v19 =>
 pq prog S (loadAt 242 v19) fun v20 =>
 pq prog S (indexAt 242 v20 (ρ 4)) fun v22 =>
 pq prog S (fieldAt 264 v22 0) fun v23 =>
 pq prog S (loadAt 9 v23) fun v24 =>
 pq prog S (nilSem (ρ 0)) fun v26 =>
 pq prog S (fieldAt 245 v26 3) fun v27 =>
 pq prog S (loadAt 242 v27) fun v28 =>
 pq prog S (indexAt 242 v28 (ρ 4)) fun v30 =>
 pq prog S (fieldAt 264 v30 1) fun v31 =>
 pq prog S (loadAt 255 v31) fun v32 =>
 pq prog S (nilSem v32) fun v33 =>
 pq prog S (fieldAt 258 v33 0) fun v34 =>
 pq prog S (loadAt 23 v34) fun v35 =>
 pFn prog 167 [v35] w fun v36 w => S w ∧ (
 pq prog S (Instr.build 107 #[(0,v24),(1,v36)]) fun v37 =>
 px prog (Instr.buildSlice 36 1 #[(0,v37)]) w fun v38 w => S w ∧ (
 px prog (bSem .append #[36,36] 36 #[(ρ 3),v38]) w fun v39 w => S w ∧ (
 px prog (binSem .add 3 (.tmp 14) (.const (.int .i64 1)) (ρ 4) (.int .i64 1)) w fun v15 w =>
 N1 (put (put (put (put (put (put (put (put (put (put (put (put (put (put (put (put (put (put (put (put (put (put (put (put (put (put (put (put (put (put (put (put (put (put (put ρ 7 (ρ 4)) 8 (ρ 0)) 9 v9) 10 v10) 11 v11) 12 v12) 13 v13) 16 (ρ 3)) 17 (ρ 0)) 18 v18) 19 v19) 20 v20) 21 (ρ 4)) 22 v22) 23 v23) 24 v24) 25 (ρ 0)) 26 v26) 27 v27) 28 v28) 29 (ρ 4)) 30 v30) 31 v31) 32 v32) 33 v33) 34 v34) 35 v35) 36 v36) 37 v37) 38 v38) 39 v39) 3 v39) 14 (ρ 4)) 15 v15) 4 v15) w)))) w.drew)
 (
 F118A k [1,1,1,1] (put (put (put (put (put (put (put ρ 7 (ρ 4)) 8 (ρ 0)) 9 v9) 10 v10) 11 v11) 12 v12) 13 v13) w)
theorem F118_1_eq (k:KV) (N1:KE) (ρ:Env) (w:World) : F118A1 k N1 [] ρ w = F118_1 k N1 ρ w := by kernel_rfl
def F118_2 (k:KV) (ρ:Env) (w:World) : Prop :=
 k (ρ 3) w
theorem F118_2_eq (k:KV) (ρ:Env) (w:World) : F118A k [1,1,1,1] ρ w = F118_2 k ρ w := by kernel_rfl
theorem F118_in (d0:Value) (w:World) (k:KV) (h:F118_0 d0 w k) : pFn prog 118 [d0] w k :=
 pFn_of_at mixed func118 (by kernel_rfl) (by kernel_rfl) ntmps118 (by kernel_rfl) (by kernel_rfl) (by simp) ((F118_0_eq d0 w k).mpr h)
noncomputable def F155B : Code := bodyOf f155
def F155A (k:KV) (q:List Nat) (ρ:Env) (w:World) : Prop := At prog 29 F155B (retQ prog f155.results.toList k) q ρ w
def F155_0 (d0:Value) (name1:Value) (w:World) (k:KV) : Prop :=
 pFn prog 162 [d0,name1] w fun v11 w =>
 px prog (extract v11 0) w fun v12 w =>
 px prog (extract v11 1) w fun v13 w =>
 px prog (binSem .neq 3 (.tmp 14) (.const (.int .i64 0)) v13 (.int .i64 0)) w fun v15 w =>
 pC v15 (
 k (.tuple #[(.int .i64 0),v13]) w)
 (
 px prog (nilSem d0) w fun v18 w =>
 px prog (fieldAt 245 v18 2) w fun v19 w =>
 px prog (loadAt 242 v19) w fun v20 w =>
 px prog (indexAt 242 v20 v12) w fun v22 w =>
 px prog (fieldAt 264 v22 1) w fun v23 w =>
 px prog (loadAt 255 v23) w fun v24 w =>
 px prog (nilSem v24) w fun v25 w =>
 px prog (fieldAt 258 v25 1) w fun v26 w =>
 px prog (loadAt 23 v26) w fun v27 w =>
 px prog (bSem .len #[23] 3 #[v27]) w fun v28 w =>
 k (.tuple #[v28,(.int .i64 0)]) w)
theorem F155_0_eq (d0:Value) (name1:Value) (w:World) (k:KV) : F155A k [] (argEnv [d0,name1]) w = F155_0 d0 name1 w k := by kernel_rfl
theorem F155_in (d0:Value) (name1:Value) (w:World) (k:KV) (h:F155_0 d0 name1 w k) : pFn prog 155 [d0,name1] w k :=
 pFn_of_at mixed func155 (by kernel_rfl) (by kernel_rfl) ntmps155 (by kernel_rfl) (by kernel_rfl) (by simp) ((F155_0_eq d0 name1 w k).mpr h)
noncomputable def F156B : Code := bodyOf f156
def F156A (k:KV) (q:List Nat) (ρ:Env) (w:World) : Prop := At prog 73 F156B (retQ prog f156.results.toList k) q ρ w
def F156_0 (d0:Value) (name1:Value) (at2:Value) (n3:Value) (w:World) (k:KV) : Prop :=
 pFn prog 162 [d0,name1] w fun v16 w =>
 px prog (extract v16 0) w fun v17 w =>
 px prog (extract v16 1) w fun v18 w =>
 px prog (binSem .neq 3 (.tmp 19) (.const (.int .i64 0)) v18 (.int .i64 0)) w fun v20 w =>
 pC v20 (
 k (.tuple #[(.slice none 0 0),v18]) w)
 (
 px prog (nilSem d0) w fun v23 w =>
 px prog (fieldAt 245 v23 2) w fun v24 w =>
 px prog (loadAt 242 v24) w fun v25 w =>
 px prog (indexAt 242 v25 v17) w fun v27 w =>
 px prog (fieldAt 264 v27 1) w fun v28 w =>
 px prog (loadAt 255 v28) w fun v29 w =>
 px prog (nilSem v29) w fun v30 w =>
 px prog (fieldAt 258 v30 1) w fun v31 w =>
 px prog (loadAt 23 v31) w fun v32 w =>
 px prog (binSem .lss 3 (.tmp 33) (.const (.int .i64 0)) at2 (.int .i64 0)) w fun v34 w =>
 pG v34 false (fun k => k n3 w) (w := w) (next := fun v36 w =>
 pG v34 false (fun k => px prog (binSem .lss 3 (.tmp 36) (.const (.int .i64 0)) v36 (.int .i64 0)) w k) (w := w) (next := fun v37 w =>
 px prog (pickSem v34 (.bool true) v37) w fun v38 w =>
 pG v38 false (fun k => k at2 w) (w := w) (next := fun v40 w =>
 pG v38 false (fun k => k v32 w) (w := w) (next := fun v41 w =>
 pG v38 false (fun k => px prog (bSem .len #[23] 3 #[v41]) w k) (w := w) (next := fun v42 w =>
 pG v38 false (fun k => px prog (binSem .gtr 3 (.tmp 40) (.tmp 42) v40 v42) w k) (w := w) (next := fun v43 w =>
 px prog (pickSem v38 (.bool true) v43) w fun v44 w =>
 pG v44 false (fun k => k n3 w) (w := w) (next := fun v46 w =>
 pG v44 false (fun k => k v32 w) (w := w) (next := fun v47 w =>
 pG v44 false (fun k => px prog (bSem .len #[23] 3 #[v47]) w k) (w := w) (next := fun v48 w =>
 pG v44 false (fun k => k at2 w) (w := w) (next := fun v49 w =>
 pG v44 false (fun k => px prog (binSem .sub 3 (.tmp 48) (.tmp 49) v48 v49) w k) (w := w) (next := fun v50 w =>
 pG v44 false (fun k => px prog (binSem .gtr 3 (.tmp 46) (.tmp 50) v46 v50) w k) (w := w) (next := fun v51 w =>
 px prog (pickSem v44 (.bool true) v51) w fun v52 w =>
 pC v52 (
 k (.tuple #[(.slice none 0 0),(.int .i64 54)]) w)
 (
 px prog (nilSem d0) w fun v55 w =>
 px prog (fieldAt 245 v55 8) w fun v56 w =>
 px prog (loadAt 86 v56) w fun v57 w =>
 px prog (Instr.build 209 #[(0,name1),(1,at2),(2,n3)]) w fun v61 w =>
 px prog (Instr.buildSlice 86 1 #[(0,v61)]) w fun v62 w =>
 px prog (bSem .append #[86,86] 86 #[v57,v62]) w fun v63 w =>
 px prog (nilSem d0) w fun v64 w =>
 px prog (fieldAt 245 v64 8) w fun v65 w =>
 pu prog (storeAt 86 v65 v63) w fun w =>
 px prog (binSem .add 3 (.tmp 68) (.tmp 69) at2 n3) w fun v70 w =>
 px prog (sliceAt 23 v32 (some at2) (some v70) none) w fun v71 w =>
 pFn prog 167 [v71] w fun v72 w =>
 k (.tuple #[v72,(.int .i64 0)]) w))))))))))))))
theorem F156_0_eq (d0:Value) (name1:Value) (at2:Value) (n3:Value) (w:World) (k:KV) : F156A k [] (argEnv [d0,name1,at2,n3]) w = F156_0 d0 name1 at2 n3 w k := by kernel_rfl
theorem F156_in (d0:Value) (name1:Value) (at2:Value) (n3:Value) (w:World) (k:KV) (h:F156_0 d0 name1 at2 n3 w k) : pFn prog 156 [d0,name1,at2,n3] w k :=
 pFn_of_at mixed func156 (by kernel_rfl) (by kernel_rfl) ntmps156 (by kernel_rfl) (by kernel_rfl) (by simp) ((F156_0_eq d0 name1 at2 n3 w k).mpr h)
noncomputable def F157B : Code := bodyOf f157
def F157A (k:KV) (q:List Nat) (ρ:Env) (w:World) : Prop := At prog 45 F157B (retQ prog f157.results.toList k) q ρ w
noncomputable def F157B1 : Code := sub F157B [1,1,1,0,1,0,0]
def F157Q1 (k:KV) (N1:KE) : Xt → KE := thenE N1 (contAt prog 45 F157B (retQ prog f157.results.toList k) [1,1,1,0,1,0])
def F157A1 (k:KV) (N1:KE) (q:List Nat) (ρ:Env) (w:World) : Prop := At prog 45 F157B1 (F157Q1 k N1) q ρ w
def F157L1 (k:KV) (ρ:Env) (w:World) : Prop := LoopAt prog 45 F157B (retQ prog f157.results.toList k) [1,1,1,0,1,0] ρ w
theorem F157L1_inv (k:KV) (I:Nat → KE) (round:∀ m ρ w,I m ρ w → F157A1 k (fun ρ' w' => ∃ m',m' < m ∧ I m' ρ' w') [] ρ w) {m:Nat} {ρ:Env} {w:World} (h:I m ρ w) : F157L1 k ρ w :=
 LoopAt_inv mixed (B := F157B) (Q := (retQ prog f157.results.toList k)) (p := [1,1,1,0,1,0]) (by kernel_rfl) (by kernel_rfl) I round h
def F157_0 (d0:Value) (prefix1:Value) (w:World) (k:KV) : Prop :=
 pFn prog 114 [d0] w fun v9 w =>
 pC v9 (
 k (.slice none 0 0) w)
 (
 F157L1 k (put (put (put (put (put (argEnv [d0,prefix1]) 4 (.slice none 0 0)) 5 (.slice none 0 0)) 8 d0) 9 v9) 6 (.int .i64 0)) w)
theorem F157_0_eq (d0:Value) (prefix1:Value) (w:World) (k:KV) : F157A k [] (argEnv [d0,prefix1]) w = F157_0 d0 prefix1 w k := by kernel_rfl
def F157_1 (k:KV) (N1:KE) (ρ:Env) (w:World) : Prop :=
 px prog (nilSem (ρ 0)) w fun v12 w =>
 px prog (fieldAt 245 v12 2) w fun v13 w =>
 px prog (loadAt 242 v13) w fun v14 w =>
 px prog (bSem .len #[242] 3 #[v14]) w fun v15 w =>
 px prog (binSem .lss 3 (.tmp 10) (.tmp 15) (ρ 6) v15) w fun v16 w =>
 pC v16 (
 px prog (nilSem (ρ 0)) w fun v20 w =>
 px prog (fieldAt 245 v20 2) w fun v21 w =>
 px prog (loadAt 242 v21) w fun v22 w =>
 px prog (indexAt 242 v22 (ρ 6)) w fun v24 w =>
 px prog (fieldAt 264 v24 0) w fun v25 w =>
 px prog (loadAt 9 v25) w fun v26 w =>
 px prog (bSem .len #[9] 3 #[v26]) w fun v28 w =>
 px prog (bSem .len #[9] 3 #[(ρ 1)]) w fun v30 w =>
 px prog (binSem .geq 3 (.tmp 28) (.tmp 30) v28 v30) w fun v31 w =>
 pG v31 true (fun k => k v26 w) (w := w) (next := fun v33 w =>
 pG v31 true (fun k => k (ρ 1) w) (w := w) (next := fun v34 w =>
 pG v31 true (fun k => px prog (bSem .len #[9] 3 #[v34]) w k) (w := w) (next := fun v35 w =>
 pG v31 true (fun k => px prog (sliceAt 9 v33 none (some v35) none) w k) (w := w) (next := fun v36 w =>
 pG v31 true (fun k => k (ρ 1) w) (w := w) (next := fun v37 w =>
 pG v31 true (fun k => px prog (binSem .eql 9 (.tmp 36) (.tmp 37) v36 v37) w k) (w := w) (next := fun v38 w =>
 px prog (pickSem v31 v38 (.bool false)) w fun v39 w =>
 pC v39 (
 px prog (Instr.buildSlice 22 1 #[(0,v26)]) w fun v42 w =>
 px prog (bSem .append #[22,22] 22 #[(ρ 5),v42]) w fun v43 w =>
 F157A1 k N1 [1,1] (put (put (put (put (put (put (put (put (put (put (put (put (put (put (put (put (put (put (put (put (put (put (put (put (put (put (put (put (put (put (put (put (put (put ρ 10 (ρ 6)) 11 (ρ 0)) 12 v12) 13 v13) 14 v14) 15 v15) 16 v16) 19 (ρ 0)) 20 v20) 21 v21) 22 v22) 23 (ρ 6)) 24 v24) 25 v25) 26 v26) 7 v26) 27 v26) 28 v28) 29 (ρ 1)) 30 v30) 31 v31) 32 v31) 33 v33) 34 v34) 35 v35) 36 v36) 37 v37) 38 v38) 39 v39) 40 (ρ 5)) 41 v26) 42 v42) 43 v43) 5 v43) w)
 (
 F157A1 k N1 [1,1] (put (put (put (put (put (put (put (put (put (put (put (put (put (put (put (put (put (put (put (put (put (put (put (put (put (put (put (put (put ρ 10 (ρ 6)) 11 (ρ 0)) 12 v12) 13 v13) 14 v14) 15 v15) 16 v16) 19 (ρ 0)) 20 v20) 21 v21) 22 v22) 23 (ρ 6)) 24 v24) 25 v25) 26 v26) 7 v26) 27 v26) 28 v28) 29 (ρ 1)) 30 v30) 31 v31) 32 v31) 33 v33) 34 v34) 35 v35) 36 v36) 37 v37) 38 v38) 39 v39) w))))))))
 (
 F157A k [1,1,1,1] (put (put (put (put (put (put (put ρ 10 (ρ 6)) 11 (ρ 0)) 12 v12) 13 v13) 14 v14) 15 v15) 16 v16) w)
theorem F157_1_eq (k:KV) (N1:KE) (ρ:Env) (w:World) : F157A1 k N1 [] ρ w = F157_1 k N1 ρ w := by kernel_rfl
def F157_2 (k:KV) (N1:KE) (ρ:Env) (w:World) : Prop :=
 px prog (binSem .add 3 (.tmp 17) (.const (.int .i64 1)) (ρ 6) (.int .i64 1)) w fun v18 w =>
 N1 (put (put (put ρ 17 (ρ 6)) 18 v18) 6 v18) w
theorem F157_2_eq (k:KV) (N1:KE) (ρ:Env) (w:World) : F157A1 k N1 [1,1] ρ w = F157_2 k N1 ρ w := by kernel_rfl
def F157_3 (k:KV) (ρ:Env) (w:World) : Prop :=
 k (ρ 5) w
theorem F157_3_eq (k:KV) (ρ:Env) (w:World) : F157A k [1,1,1,1] ρ w = F157_3 k ρ w := by kernel_rfl
theorem F157_in (d0:Value) (prefix1:Value) (w:World) (k:KV) (h:F157_0 d0 prefix1 w k) : pFn prog 157 [d0,prefix1] w k :=
 pFn_of_at mixed func157 (by kernel_rfl) (by kernel_rfl) ntmps157 (by kernel_rfl) (by kernel_rfl) (by simp) ((F157_0_eq d0 prefix1 w k).mpr h)
noncomputable def F158B : Code := bodyOf f158
def F158A (k:KV) (q:List Nat) (ρ:Env) (w:World) : Prop := At prog 20 F158B (retQ prog f158.results.toList k) q ρ w
noncomputable def F158B1 : Code := sub F158B [1,0,1,0,0]
def F158Q1 (k:KV) (N1:KE) : Xt → KE := thenE N1 (contAt prog 20 F158B (retQ prog f158.results.toList k) [1,0,1,0])
def F158A1 (k:KV) (N1:KE) (q:List Nat) (ρ:Env) (w:World) : Prop := At prog 20 F158B1 (F158Q1 k N1) q ρ w
def F158L1 (k:KV) (ρ:Env) (w:World) : Prop := LoopAt prog 20 F158B (retQ prog f158.results.toList k) [1,0,1,0] ρ w
theorem F158L1_inv (k:KV) (I:Nat → KE) (round:∀ m ρ w,I m ρ w → F158A1 k (fun ρ' w' => ∃ m',m' < m ∧ I m' ρ' w') [] ρ w) {m:Nat} {ρ:Env} {w:World} (h:I m ρ w) : F158L1 k ρ w :=
 LoopAt_inv mixed (B := F158B) (Q := (retQ prog f158.results.toList k)) (p := [1,0,1,0]) (by kernel_rfl) (by kernel_rfl) I round h
def F158_0 (l0:Value) (name1:Value) (w:World) (k:KV) : Prop :=
 F158L1 k (put (put (argEnv [l0,name1]) 4 (.int .i64 0)) 5 (.int .i64 0)) w
theorem F158_0_eq (l0:Value) (name1:Value) (w:World) (k:KV) : F158A k [] (argEnv [l0,name1]) w = F158_0 l0 name1 w k := by kernel_rfl
def F158_1 (k:KV) (N1:KE) (ρ:Env) (w:World) : Prop :=
 px prog (bSem .len #[242] 3 #[(ρ 0)]) w fun v8 w =>
 px prog (binSem .lss 3 (.tmp 6) (.tmp 8) (ρ 5) v8) w fun v9 w =>
 pC v9 (
 px prog (indexAt 242 (ρ 0) (ρ 5)) w fun v14 w =>
 px prog (fieldAt 264 v14 0) w fun v15 w =>
 px prog (loadAt 9 v15) w fun v16 w =>
 px prog (binSem .eql 9 (.tmp 16) (.tmp 17) v16 (ρ 1)) w fun v18 w =>
 pC v18 (
 k (ρ 5) w)
 (
 px prog (binSem .add 3 (.tmp 10) (.const (.int .i64 1)) (ρ 5) (.int .i64 1)) w fun v11 w =>
 N1 (put (put (put (put (put (put (put (put (put (put (put (put (put (put ρ 6 (ρ 5)) 7 (ρ 0)) 8 v8) 9 v9) 12 (ρ 0)) 13 (ρ 5)) 14 v14) 15 v15) 16 v16) 17 (ρ 1)) 18 v18) 10 (ρ 5)) 11 v11) 5 v11) w))
 (
 F158A k [1,1] (put (put (put (put ρ 6 (ρ 5)) 7 (ρ 0)) 8 v8) 9 v9) w)
theorem F158_1_eq (k:KV) (N1:KE) (ρ:Env) (w:World) : F158A1 k N1 [] ρ w = F158_1 k N1 ρ w := by kernel_rfl
def F158_2 (k:KV) (ρ:Env) (w:World) : Prop :=
 k (.int .i64 (-1)) w
theorem F158_2_eq (k:KV) (ρ:Env) (w:World) : F158A k [1,1] ρ w = F158_2 k ρ w := by kernel_rfl
theorem F158_in (l0:Value) (name1:Value) (w:World) (k:KV) (h:F158_0 l0 name1 w k) : pFn prog 158 [l0,name1] w k :=
 pFn_of_at mixed func158 (by kernel_rfl) (by kernel_rfl) ntmps158 (by kernel_rfl) (by kernel_rfl) (by simp) ((F158_0_eq l0 name1 w k).mpr h)
noncomputable def F159B : Code := bodyOf f159
def F159A (k:KV) (q:List Nat) (ρ:Env) (w:World) : Prop := At prog 52 F159B (retQ prog f159.results.toList k) q ρ w
def F159_0 (d0:Value) (w:World) (k:KV) : Prop :=
 px prog (nilSem d0) w fun v6 w =>
 px prog (fieldAt 245 v6 5) w fun v7 w =>
 px prog (loadAt 3 v7) w fun v8 w =>
 px prog (binSem .add 3 (.tmp 8) (.const (.int .i64 1)) v8 (.int .i64 1)) w fun v9 w =>
 px prog (nilSem d0) w fun v10 w =>
 px prog (fieldAt 245 v10 5) w fun v11 w =>
 pu prog (storeAt 3 v11 v9) w fun w =>
 px prog (nilSem d0) w fun v14 w =>
 px prog (fieldAt 245 v14 6) w fun v15 w =>
 px prog (loadAt 3 v15) w fun v16 w =>
 px prog (binSem .add 3 (.tmp 16) (.const (.int .i64 1)) v16 (.int .i64 1)) w fun v17 w =>
 px prog (nilSem d0) w fun v18 w =>
 px prog (fieldAt 245 v18 6) w fun v19 w =>
 pu prog (storeAt 3 v19 v17) w fun w =>
 ∃ S : World → Prop,S w.drew ∧ (fun w =>
 pq prog S (nilSem d0) fun v21 =>
 pq prog S (fieldAt 245 v21 6) fun v22 =>
 pq prog S (loadAt 3 v22) fun v23 =>
 pq prog S (nilSem d0) fun v25 =>
 pq prog S (fieldAt 245 v25 7) fun v26 =>
 pq prog S (fieldAt 85 v26 1) fun v27 =>
 pq prog S (loadAt 3 v27) fun v28 =>
 pq prog S (binSem .geq 3 (.tmp 23) (.tmp 28) v23 v28) fun v29 =>
 pGq v29 true (fun k => k d0) (next := fun v31 =>
 pGq v29 true (fun k => pq prog S (nilSem v31) k) (next := fun v32 =>
 pGq v29 true (fun k => pq prog S (fieldAt 245 v32 6) k) (next := fun v33 =>
 pGq v29 true (fun k => pq prog S (loadAt 3 v33) k) (next := fun v34 =>
 pGq v29 true (fun k => k d0) (next := fun v35 =>
 pGq v29 true (fun k => pq prog S (nilSem v35) k) (next := fun v36 =>
 pGq v29 true (fun k => pq prog S (fieldAt 245 v36 7) k) (next := fun v37 =>
 pGq v29 true (fun k => pq prog S (fieldAt 85 v37 2) k) (next := fun v38 =>
 pGq v29 true (fun k => pq prog S (loadAt 3 v38) k) (next := fun v39 =>
 pGq v29 true (fun k => pq prog S (binSem .leq 3 (.tmp 34) (.tmp 39) v34 v39) k) (next := fun v40 =>
 pq prog S (pickSem v29 v40 (.bool false)) fun v41 =>
 pq prog S (nilSem d0) fun v43 =>
 pq prog S (fieldAt 245 v43 6) fun v44 =>
 pq prog S (loadAt 3 v44) fun v45 =>
 pq prog S (nilSem d0) fun v47 =>
 pq prog S (fieldAt 245 v47 7) fun v48 =>
 pq prog S (fieldAt 85 v48 0) fun v49 =>
 pq prog S (loadAt 3 v49) fun v50 =>
 pq prog S (binSem .eql 3 (.tmp 45) (.tmp 50) v45 v50) fun v51 =>
 k (.tuple #[v41,v51]) w))))))))))) w.drew
theorem F159_0_eq (d0:Value) (w:World) (k:KV) : F159A k [] (argEnv [d0]) w = F159_0 d0 w k := by kernel_rfl
theorem F159_in (d0:Value) (w:World) (k:KV) (h:F159_0 d0 w k) : pFn prog 159 [d0] w k :=
 pFn_of_at mixed func159 (by kernel_rfl) (by kernel_rfl) ntmps159 (by kernel_rfl) (by kernel_rfl) (by simp) ((F159_0_eq d0 w k).mpr h)
noncomputable def F160B : Code := bodyOf f160
def F160A (k:KV) (q:List Nat) (ρ:Env) (w:World) : Prop := At prog 12 F160B (retQ prog f160.results.toList k) q ρ w
def F160_0 (d0:Value) (out1:Value) (e2:Value) (w:World) (k:KV) : Prop :=
 pC out1 (
 px prog (nilSem d0) w fun v9 w =>
 px prog (fieldAt 245 v9 0) w fun v10 w =>
 pu prog (storeAt 4 v10 (.bool false)) w fun w =>
 k (.int .i64 50) w)
 (
 k e2 w)
theorem F160_0_eq (d0:Value) (out1:Value) (e2:Value) (w:World) (k:KV) : F160A k [] (argEnv [d0,out1,e2]) w = F160_0 d0 out1 e2 w k := by kernel_rfl
theorem F160_in (d0:Value) (out1:Value) (e2:Value) (w:World) (k:KV) (h:F160_0 d0 out1 e2 w k) : pFn prog 160 [d0,out1,e2] w k :=
 pFn_of_at mixed func160 (by kernel_rfl) (by kernel_rfl) ntmps160 (by kernel_rfl) (by kernel_rfl) (by simp) ((F160_0_eq d0 out1 e2 w k).mpr h)
noncomputable def F161B : Code := bodyOf f161
def F161A (k:KV) (q:List Nat) (ρ:Env) (w:World) : Prop := At prog 38 F161B (retQ prog f161.results.toList k) q ρ w
def F161_0 (l0:Value) (x1:Value) (w:World) (k:KV) : Prop :=
 px prog (Instr.box 260 x1) w fun v3 w =>
 px prog (fieldAt 260 v3 0) w fun v6 w =>
 px prog (loadAt 3 v6) w fun v7 w =>
 px prog (binSem .eql 3 (.tmp 7) (.const (.int .i64 1)) v7 (.int .i64 1)) w fun v9 w =>
 pC v9 (
 px prog (fieldAt 260 v3 1) w fun v11 w =>
 px prog (loadAt 9 v11) w fun v12 w =>
 px prog (fieldAt 260 v3 3) w fun v13 w =>
 px prog (loadAt 255 v13) w fun v14 w =>
 pFn prog 187 [l0,v12,v14] w fun v15 w =>
 k v15 w)
 (
 px prog (binSem .eql 3 (.tmp 7) (.const (.int .i64 2)) v7 (.int .i64 2)) w fun v17 w =>
 pC v17 (
 px prog (fieldAt 260 v3 1) w fun v19 w =>
 px prog (loadAt 9 v19) w fun v20 w =>
 pFn prog 158 [l0,v20] w fun v21 w =>
 ∃ S : World → Prop,S w.drew ∧ (fun w =>
 pq prog S (fieldAt 260 v3 1) fun v23 =>
 pq prog S (loadAt 9 v23) fun v24 =>
 pq prog S (fieldAt 260 v3 2) fun v26 =>
 pq prog S (loadAt 9 v26) fun v27 =>
 pq prog S (indexAt 242 l0 v21) fun v30 =>
 pq prog S (fieldAt 264 v30 1) fun v31 =>
 pq prog S (loadAt 255 v31) fun v32 =>
 pFn prog 188 [l0,v24] w fun v25 w => S w ∧ (
 pFn prog 187 [v25,v27,v32] w fun v33 w => S w ∧ (
 k v33 w))) w.drew)
 (
 px prog (fieldAt 260 v3 1) w fun v35 w =>
 px prog (loadAt 9 v35) w fun v36 w =>
 pFn prog 188 [l0,v36] w fun v37 w =>
 k v37 w))
theorem F161_0_eq (l0:Value) (x1:Value) (w:World) (k:KV) : F161A k [] (argEnv [l0,x1]) w = F161_0 l0 x1 w k := by kernel_rfl
theorem F161_in (l0:Value) (x1:Value) (w:World) (k:KV) (h:F161_0 l0 x1 w k) : pFn prog 161 [l0,x1] w k :=
 pFn_of_at mixed func161 (by kernel_rfl) (by kernel_rfl) ntmps161 (by kernel_rfl) (by kernel_rfl) (by simp) ((F161_0_eq l0 x1 w k).mpr h)
noncomputable def F162B : Code := bodyOf f162
def F162A (k:KV) (q:List Nat) (ρ:Env) (w:World) : Prop := At prog 21 F162B (retQ prog f162.results.toList k) q ρ w
def F162_0 (d0:Value) (name1:Value) (w:World) (k:KV) : Prop :=
 pFn prog 114 [d0] w fun v8 w =>
 pC v8 (
 k (.tuple #[(.int .i64 0),(.int .i64 50)]) w)
 (
 pFn prog 48 [name1] w fun v10 w =>
 px prog (Op.unary .not v10) w fun v11 w =>
 pC v11 (
 k (.tuple #[(.int .i64 0),(.int .i64 51)]) w)
 (
 px prog (nilSem d0) w fun v13 w =>
 px prog (fieldAt 245 v13 2) w fun v14 w =>
 px prog (loadAt 242 v14) w fun v15 w =>
 pFn prog 158 [v15,name1] w fun v17 w =>
 px prog (binSem .lss 3 (.tmp 18) (.const (.int .i64 0)) v17 (.int .i64 0)) w fun v19 w =>
 pC v19 (
 k (.tuple #[(.int .i64 0),(.int .i64 53)]) w)
 (
 k (.tuple #[v17,(.int .i64 0)]) w)))
theorem F162_0_eq (d0:Value) (name1:Value) (w:World) (k:KV) : F162A k [] (argEnv [d0,name1]) w = F162_0 d0 name1 w k := by kernel_rfl
theorem F162_in (d0:Value) (name1:Value) (w:World) (k:KV) (h:F162_0 d0 name1 w k) : pFn prog 162 [d0,name1] w k :=
 pFn_of_at mixed func162 (by kernel_rfl) (by kernel_rfl) ntmps162 (by kernel_rfl) (by kernel_rfl) (by simp) ((F162_0_eq d0 name1 w k).mpr h)
noncomputable def F163B : Code := bodyOf f163
def F163A (k:KV) (q:List Nat) (ρ:Env) (w:World) : Prop := At prog 106 F163B (retQ prog f163.results.toList k) q ρ w
def F163_0 (d0:Value) (name1:Value) (at2:Value) (data3:Value) (w:World) (k:KV) : Prop :=
 pFn prog 162 [d0,name1] w fun v19 w =>
 px prog (extract v19 0) w fun v20 w =>
 px prog (extract v19 1) w fun v21 w =>
 px prog (binSem .neq 3 (.tmp 22) (.const (.int .i64 0)) v21 (.int .i64 0)) w fun v23 w =>
 pC v23 (
 k v21 w)
 (
 px prog (nilSem d0) w fun v26 w =>
 px prog (fieldAt 245 v26 2) w fun v27 w =>
 px prog (loadAt 242 v27) w fun v28 w =>
 px prog (indexAt 242 v28 v20) w fun v30 w =>
 px prog (fieldAt 264 v30 1) w fun v31 w =>
 px prog (loadAt 255 v31) w fun v32 w =>
 px prog (binSem .lss 3 (.tmp 33) (.const (.int .i64 0)) at2 (.int .i64 0)) w fun v34 w =>
 pG v34 false (fun k => k at2 w) (w := w) (next := fun v36 w =>
 pG v34 false (fun k => k v32 w) (w := w) (next := fun v37 w =>
 pG v34 false (fun k => px prog (nilSem v37) w k) (w := w) (next := fun v38 w =>
 pG v34 false (fun k => px prog (fieldAt 258 v38 1) w k) (w := w) (next := fun v39 w =>
 pG v34 false (fun k => px prog (loadAt 23 v39) w k) (w := w) (next := fun v40 w =>
 pG v34 false (fun k => px prog (bSem .len #[23] 3 #[v40]) w k) (w := w) (next := fun v41 w =>
 pG v34 false (fun k => px prog (binSem .gtr 3 (.tmp 36) (.tmp 41) v36 v41) w k) (w := w) (next := fun v42 w =>
 px prog (pickSem v34 (.bool true) v42) w fun v43 w =>
 pC v43 (
 k (.int .i64 54) w)
 (
 pFn prog 159 [d0] w fun v46 w =>
 px prog (extract v46 0) w fun v47 w =>
 px prog (extract v46 1) w fun v48 w =>
 px prog (bSem .len #[23] 3 #[data3]) w fun v51 w =>
 px prog (binSem .add 3 (.tmp 49) (.tmp 51) at2 v51) w fun v52 w =>
 px prog (nilSem v32) w fun v54 w =>
 px prog (fieldAt 258 v54 1) w fun v55 w =>
 px prog (loadAt 23 v55) w fun v56 w =>
 px prog (bSem .len #[23] 3 #[v56]) w fun v57 w =>
 px prog (binSem .sub 3 (.tmp 52) (.tmp 57) v52 v57) w fun v58 w =>
 ∃ S : World → Prop,S w.drew ∧ (fun w =>
 pGq v47 false (fun k => k v58) (next := fun v61 =>
 pGq v47 false (fun k => pq prog S (binSem .gtr 3 (.tmp 61) (.const (.int .i64 0)) v61 (.int .i64 0)) k) (next := fun v62 =>
 pGq v47 false (fun k => k v62) (next := fun v63 =>
 pGq v63 true (fun k => k d0) (next := fun v64 =>
 pGq v63 true (fun k => k v58) (next := fun v66 =>
 pGq v63 true (fun k => k d0) (next := fun v68 =>
 pGq v63 true (fun k => pq prog S (nilSem v68) k) (next := fun v69 =>
 pGq v63 true (fun k => pq prog S (fieldAt 245 v69 1) k) (next := fun v70 =>
 pGq v63 true (fun k => pq prog S (loadAt 3 v70) k) (next := fun v71 =>
 pG v63 true (fun k => pFn prog 189 [v64] w k) (w := w) (next := fun v65 w => S w ∧ (
 pGq v63 true (fun k => pq prog S (binSem .add 3 (.tmp 65) (.tmp 66) v65 v66) k) (next := fun v67 =>
 pGq v63 true (fun k => pq prog S (binSem .gtr 3 (.tmp 67) (.tmp 71) v67 v71) k) (next := fun v72 =>
 pGq v47 false (fun k => pq prog S (pickSem v63 v72 (.bool false)) k) (next := fun v73 =>
 pq prog S (pickSem v47 (.bool true) v73) fun v74 =>
 pC v74 (
 pFn prog 160 [d0,v48,(.int .i64 55)] w fun v77 w =>
 k v77 w)
 (
 pFn prog 167 [data3] w fun v80 w =>
 px prog (Instr.build 268 #[(1,at2),(2,v80)]) w fun v81 w =>
 px prog (Instr.alloc 268 true (.tuple #[])) w fun v15 w =>
 pu prog (storeAt 268 v15 v81) w fun w =>
 ∃ S : World → Prop,S w.drew ∧ (fun w =>
 pq prog S (nilSem v32) fun v84 =>
 pq prog S (fieldAt 258 v84 1) fun v85 =>
 pq prog S (loadAt 23 v85) fun v86 =>
 pq prog S (loadAt 268 v15) fun v87 =>
 pq prog S (bSem .len #[23] 3 #[data3]) fun v89 =>
 pFn prog 166 [v86,v87,v89] w fun v90 w => S w ∧ (
 pq prog S (nilSem v32) fun v91 =>
 pq prog S (fieldAt 258 v91 1) fun v92 =>
 pu prog (storeAt 23 v92 v90) w fun w => (
 ∃ S : World → Prop,S w.drew ∧ (fun w =>
 pq prog S (nilSem v32) fun v95 =>
 pq prog S (fieldAt 258 v95 2) fun v96 =>
 pq prog S (loadAt 256 v96) fun v97 =>
 pq prog S (loadAt 268 v15) fun v98 =>
 px prog (Instr.buildSlice 256 1 #[(0,v98)]) w fun v99 w => S w ∧ (
 px prog (bSem .append #[256,256] 256 #[v97,v99]) w fun v100 w => S w ∧ (
 pq prog S (nilSem v32) fun v101 =>
 pq prog S (fieldAt 258 v101 2) fun v102 =>
 pu prog (storeAt 256 v102 v100) w fun w => (
 pFn prog 160 [d0,v48,(.int .i64 0)] w fun v105 w =>
 k v105 w)))) w.drew))) w.drew)))))))))))))))) w.drew)))))))))
theorem F163_0_eq (d0:Value) (name1:Value) (at2:Value) (data3:Value) (w:World) (k:KV) : F163A k [] (argEnv [d0,name1,at2,data3]) w = F163_0 d0 name1 at2 data3 w k := by kernel_rfl
theorem F163_in (d0:Value) (name1:Value) (at2:Value) (data3:Value) (w:World) (k:KV) (h:F163_0 d0 name1 at2 data3 w k) : pFn prog 163 [d0,name1,at2,data3] w k :=
 pFn_of_at mixed func163 (by kernel_rfl) (by kernel_rfl) ntmps163 (by kernel_rfl) (by kernel_rfl) (by simp) ((F163_0_eq d0 name1 at2 data3 w k).mpr h)
noncomputable def F166B : Code := bodyOf f166
def F166A (k:KV) (q:List Nat) (ρ:Env) (w:World) : Prop := At prog 60 F166B (retQ prog f166.results.toList k) q ρ w
noncomputable def F166B1 : Code := sub F166B [1,1,1,1,0,1,0,0]
def F166Q1 (k:KV) (N1:KE) : Xt → KE := thenE N1 (contAt prog 60 F166B (retQ prog f166.results.toList k) [1,1,1,1,0,1,0])
def F166A1 (k:KV) (N1:KE) (q:List Nat) (ρ:Env) (w:World) : Prop := At prog 60 F166B1 (F166Q1 k N1) q ρ w
def F166L1 (k:KV) (ρ:Env) (w:World) : Prop := LoopAt prog 60 F166B (retQ prog f166.results.toList k) [1,1,1,1,0,1,0] ρ w
theorem F166L1_inv (k:KV) (I:Nat → KE) (round:∀ m ρ w,I m ρ w → F166A1 k (fun ρ' w' => ∃ m',m' < m ∧ I m' ρ' w') [] ρ w) {m:Nat} {ρ:Env} {w:World} (h:I m ρ w) : F166L1 k ρ w :=
 LoopAt_inv mixed (B := F166B) (Q := (retQ prog f166.results.toList k)) (p := [1,1,1,1,0,1,0]) (by kernel_rfl) (by kernel_rfl) I round h
def F166_0 (b0:Value) (c1:Value) (units2:Value) (w:World) (k:KV) : Prop :=
 px prog (Instr.box 268 c1) w fun v4 w =>
 px prog (fieldAt 268 v4 0) w fun v8 w =>
 px prog (loadAt 4 v8) w fun v9 w =>
 pC v9 (
 px prog (binSem .lss 3 (.tmp 10) (.const (.int .i64 1)) units2 (.int .i64 1)) w fun v11 w =>
 pC v11 (
 k b0 w)
 (
 px prog (fieldAt 268 v4 1) w fun v14 w =>
 px prog (loadAt 3 v14) w fun v15 w =>
 px prog (sliceAt 23 b0 none (some v15) none) w fun v16 w =>
 pFn prog 167 [v16] w fun v17 w =>
 k v17 w))
 (
 px prog (fieldAt 268 v4 2) w fun v19 w =>
 px prog (loadAt 23 v19) w fun v20 w =>
 px prog (bSem .len #[23] 3 #[v20]) w fun v21 w =>
 px prog (binSem .gtr 3 (.tmp 18) (.tmp 21) units2 v21) w fun v22 w =>
 pC v22 (
 px prog (fieldAt 268 v4 2) w fun v23 w =>
 px prog (loadAt 23 v23) w fun v24 w =>
 px prog (bSem .len #[23] 3 #[v24]) w fun v25 w =>
 F166A k [1,1,1] (put (put (put (put (put (put (put (put (put (put (put (put (put (argEnv [b0,c1,units2]) 4 v4) 6 (.slice none 0 0)) 8 v8) 9 v9) 18 units2) 19 v19) 20 v20) 21 v21) 22 v22) 23 v23) 24 v24) 25 v25) 2 v25) w)
 (
 F166A k [1,1,1] (put (put (put (put (put (put (put (put (put (argEnv [b0,c1,units2]) 4 v4) 6 (.slice none 0 0)) 8 v8) 9 v9) 18 units2) 19 v19) 20 v20) 21 v21) 22 v22) w))
theorem F166_0_eq (b0:Value) (c1:Value) (units2:Value) (w:World) (k:KV) : F166A k [] (argEnv [b0,c1,units2]) w = F166_0 b0 c1 units2 w k := by kernel_rfl
def F166_1 (k:KV) (ρ:Env) (w:World) : Prop :=
 pFn prog 167 [(ρ 0)] w fun v27 w =>
 F166L1 k (put (put (put (put ρ 26 (ρ 0)) 27 v27) 0 v27) 7 (.int .i64 0)) w
theorem F166_1_eq (k:KV) (ρ:Env) (w:World) : F166A k [1,1,1] ρ w = F166_1 k ρ w := by kernel_rfl
def F166_2 (k:KV) (N1:KE) (ρ:Env) (w:World) : Prop :=
 px prog (binSem .lss 3 (.tmp 28) (.tmp 29) (ρ 7) (ρ 2)) w fun v30 w =>
 pC v30 (
 px prog (fieldAt 268 (ρ 4) 1) w fun v33 w =>
 px prog (loadAt 3 v33) w fun v34 w =>
 px prog (binSem .add 3 (.tmp 34) (.tmp 35) v34 (ρ 7)) w fun v36 w =>
 px prog (bSem .len #[23] 3 #[(ρ 0)]) w fun v38 w =>
 px prog (binSem .lss 3 (.tmp 36) (.tmp 38) v36 v38) w fun v39 w =>
 pC v39 (
 ∃ S : World → Prop,S w.drew ∧ (fun w =>
 pq prog S (fieldAt 268 (ρ 4) 1) fun v41 =>
 pq prog S (loadAt 3 v41) fun v42 =>
 pq prog S (binSem .add 3 (.tmp 42) (.tmp 43) v42 (ρ 7)) fun v44 =>
 pq prog S (fieldAt 268 (ρ 4) 2) fun v45 =>
 pq prog S (loadAt 23 v45) fun v46 =>
 pq prog S (indexAt 23 v46 (ρ 7)) fun v48 =>
 pq prog S (loadAt 5 v48) fun v49 =>
 pq prog S (indexAt 23 (ρ 0) v44) fun v50 =>
 pu prog (storeAt 5 v50 v49) w fun w => (
 F166A1 k N1 [1,1] (put (put (put (put (put (put (put (put (put (put (put (put (put (put (put (put (put (put (put (put (put ρ 28 (ρ 7)) 29 (ρ 2)) 30 v30) 33 v33) 34 v34) 35 (ρ 7)) 36 v36) 37 (ρ 0)) 38 v38) 39 v39) 40 (ρ 0)) 41 v41) 42 v42) 43 (ρ 7)) 44 v44) 45 v45) 46 v46) 47 (ρ 7)) 48 v48) 49 v49) 50 v50) w)) w.drew)
 (
 px prog (fieldAt 268 (ρ 4) 2) w fun v52 w =>
 px prog (loadAt 23 v52) w fun v53 w =>
 px prog (indexAt 23 v53 (ρ 7)) w fun v55 w =>
 px prog (loadAt 5 v55) w fun v56 w =>
 px prog (Instr.buildSlice 23 1 #[(0,v56)]) w fun v57 w =>
 px prog (bSem .append #[23,23] 23 #[(ρ 0),v57]) w fun v58 w =>
 F166A1 k N1 [1,1] (put (put (put (put (put (put (put (put (put (put (put (put (put (put (put (put (put (put (put ρ 28 (ρ 7)) 29 (ρ 2)) 30 v30) 33 v33) 34 v34) 35 (ρ 7)) 36 v36) 37 (ρ 0)) 38 v38) 39 v39) 51 (ρ 0)) 52 v52) 53 v53) 54 (ρ 7)) 55 v55) 56 v56) 57 v57) 58 v58) 0 v58) w))
 (
 F166A k [1,1,1,1,1] (put (put (put ρ 28 (ρ 7)) 29 (ρ 2)) 30 v30) w)
theorem F166_2_eq (k:KV) (N1:KE) (ρ:Env) (w:World) : F166A1 k N1 [] ρ w = F166_2 k N1 ρ w := by kernel_rfl
def F166_3 (k:KV) (N1:KE) (ρ:Env) (w:World) : Prop :=
 px prog (binSem .add 3 (.tmp 31) (.const (.int .i64 1)) (ρ 7) (.int .i64 1)) w fun v32 w =>
 N1 (put (put (put ρ 31 (ρ 7)) 32 v32) 7 v32) w
theorem F166_3_eq (k:KV) (N1:KE) (ρ:Env) (w:World) : F166A1 k N1 [1,1] ρ w = F166_3 k N1 ρ w := by kernel_rfl
def F166_4 (k:KV) (ρ:Env) (w:World) : Prop :=
 k (ρ 0) w
theorem F166_4_eq (k:KV) (ρ:Env) (w:World) : F166A k [1,1,1,1,1] ρ w = F166_4 k ρ w := by kernel_rfl
theorem F166_in (b0:Value) (c1:Value) (units2:Value) (w:World) (k:KV) (h:F166_0 b0 c1 units2 w k) : pFn prog 166 [b0,c1,units2] w k :=
 pFn_of_at mixed func166 (by kernel_rfl) (by kernel_rfl) ntmps166 (by kernel_rfl) (by kernel_rfl) (by simp) ((F166_0_eq b0 c1 units2 w k).mpr h)
noncomputable def F167B : Code := bodyOf f167
def F167A (k:KV) (q:List Nat) (ρ:Env) (w:World) : Prop := At prog 6 F167B (retQ prog f167.results.toList k) q ρ w
def F167_0 (b0:Value) (w:World) (k:KV) : Prop :=
 px prog (Instr.buildSlice 23 0 #[]) w fun v3 w =>
 px prog (bSem .append #[23,23] 23 #[v3,b0]) w fun v5 w =>
 k v5 w
theorem F167_0_eq (b0:Value) (w:World) (k:KV) : F167A k [] (argEnv [b0]) w = F167_0 b0 w k := by kernel_rfl
theorem F167_in (b0:Value) (w:World) (k:KV) (h:F167_0 b0 w k) : pFn prog 167 [b0] w k :=
 pFn_of_at mixed func167 (by kernel_rfl) (by kernel_rfl) ntmps167 (by kernel_rfl) (by kernel_rfl) (by simp) ((F167_0_eq b0 w k).mpr h)
noncomputable def F168B : Code := bodyOf f168
def F168A (k:KV) (q:List Nat) (ρ:Env) (w:World) : Prop := At prog 26 F168B (retQ prog f168.results.toList k) q ρ w
def F168_0 (picks0:Value) (k1:Value) (n2:Value) (w:World) (k:KV) : Prop :=
 px prog (bSem .len #[58] 3 #[picks0]) w fun v10 w =>
 px prog (binSem .geq 3 (.tmp 8) (.tmp 10) k1 v10) w fun v11 w =>
 pC v11 (
 k (.int .i64 0) w)
 (
 px prog (indexAt 58 picks0 k1) w fun v14 w =>
 px prog (loadAt 3 v14) w fun v15 w =>
 px prog (binSem .add 3 (.tmp 16) (.const (.int .i64 1)) n2 (.int .i64 1)) w fun v17 w =>
 px prog (binSem .rem 3 (.tmp 15) (.tmp 17) v15 v17) w fun v18 w =>
 px prog (binSem .lss 3 (.tmp 19) (.const (.int .i64 0)) v18 (.int .i64 0)) w fun v20 w =>
 pC v20 (
 px prog (binSem .add 3 (.tmp 21) (.tmp 22) v18 n2) w fun v23 w =>
 px prog (binSem .add 3 (.tmp 23) (.const (.int .i64 1)) v23 (.int .i64 1)) w fun v24 w =>
 F168A k [1,1,1,1] (put (put (put (put (put (put (put (put (put (put (put (put (put (put (put (put (put (put (put (put (argEnv [picks0,k1,n2]) 6 (.int .i64 0)) 8 k1) 9 picks0) 10 v10) 11 v11) 12 picks0) 13 k1) 14 v14) 15 v15) 16 n2) 17 v17) 18 v18) 7 v18) 19 v18) 20 v20) 21 v18) 22 n2) 23 v23) 24 v24) 7 v24) w)
 (
 F168A k [1,1,1,1] (put (put (put (put (put (put (put (put (put (put (put (put (put (put (put (argEnv [picks0,k1,n2]) 6 (.int .i64 0)) 8 k1) 9 picks0) 10 v10) 11 v11) 12 picks0) 13 k1) 14 v14) 15 v15) 16 n2) 17 v17) 18 v18) 7 v18) 19 v18) 20 v20) w))
theorem F168_0_eq (picks0:Value) (k1:Value) (n2:Value) (w:World) (k:KV) : F168A k [] (argEnv [picks0,k1,n2]) w = F168_0 picks0 k1 n2 w k := by kernel_rfl
def F168_1 (k:KV) (ρ:Env) (w:World) : Prop :=
 k (ρ 7) w
theorem F168_1_eq (k:KV) (ρ:Env) (w:World) : F168A k [1,1,1,1] ρ w = F168_1 k ρ w := by kernel_rfl
theorem F168_in (picks0:Value) (k1:Value) (n2:Value) (w:World) (k:KV) (h:F168_0 picks0 k1 n2 w k) : pFn prog 168 [picks0,k1,n2] w k :=
 pFn_of_at mixed func168 (by kernel_rfl) (by kernel_rfl) ntmps168 (by kernel_rfl) (by kernel_rfl) (by simp) ((F168_0_eq picks0 k1 n2 w k).mpr h)
noncomputable def F169B : Code := bodyOf f169
def F169A (k:KV) (q:List Nat) (ρ:Env) (w:World) : Prop := At prog 8 F169B (retQ prog f169.results.toList k) q ρ w
def F169_0 (c0:Value) (w:World) (k:KV) : Prop :=
 px prog (Instr.box 268 c0) w fun v1 w =>
 px prog (fieldAt 268 v1 0) w fun v3 w =>
 px prog (loadAt 4 v3) w fun v4 w =>
 pC v4 (
 k (.int .i64 1) w)
 (
 px prog (fieldAt 268 v1 2) w fun v5 w =>
 px prog (loadAt 23 v5) w fun v6 w =>
 px prog (bSem .len #[23] 3 #[v6]) w fun v7 w =>
 k v7 w)
theorem F169_0_eq (c0:Value) (w:World) (k:KV) : F169A k [] (argEnv [c0]) w = F169_0 c0 w k := by kernel_rfl
theorem F169_in (c0:Value) (w:World) (k:KV) (h:F169_0 c0 w k) : pFn prog 169 [c0] w k :=
 pFn_of_at mixed func169 (by kernel_rfl) (by kernel_rfl) ntmps169 (by kernel_rfl) (by kernel_rfl) (by simp) ((F169_0_eq c0 w k).mpr h)
noncomputable def F187B : Code := bodyOf f187
def F187A (k:KV) (q:List Nat) (ρ:Env) (w:World) : Prop := At prog 52 F187B (retQ prog f187.results.toList k) q ρ w
noncomputable def F187B1 : Code := sub F187B [1,1,1,1,0,1,0,0]
def F187Q1 (k:KV) (N1:KE) : Xt → KE := thenE N1 (contAt prog 52 F187B (retQ prog f187.results.toList k) [1,1,1,1,0,1,0])
def F187A1 (k:KV) (N1:KE) (q:List Nat) (ρ:Env) (w:World) : Prop := At prog 52 F187B1 (F187Q1 k N1) q ρ w
def F187L1 (k:KV) (ρ:Env) (w:World) : Prop := LoopAt prog 52 F187B (retQ prog f187.results.toList k) [1,1,1,1,0,1,0] ρ w
theorem F187L1_inv (k:KV) (I:Nat → KE) (round:∀ m ρ w,I m ρ w → F187A1 k (fun ρ' w' => ∃ m',m' < m ∧ I m' ρ' w') [] ρ w) {m:Nat} {ρ:Env} {w:World} (h:I m ρ w) : F187L1 k ρ w :=
 LoopAt_inv mixed (B := F187B) (Q := (retQ prog f187.results.toList k)) (p := [1,1,1,1,0,1,0]) (by kernel_rfl) (by kernel_rfl) I round h
def F187_0 (l0:Value) (name1:Value) (t2:Value) (w:World) (k:KV) : Prop :=
 pFn prog 188 [l0,name1] w fun v12 w =>
 F187L1 k (put (put (put (put (put (put (put (put (argEnv [l0,name1,t2]) 6 (.slice none 0 0)) 10 l0) 11 name1) 12 v12) 0 v12) 7 (.slice none 0 0)) 8 (.bool false)) 9 (.int .i64 0)) w
theorem F187_0_eq (l0:Value) (name1:Value) (t2:Value) (w:World) (k:KV) : F187A k [] (argEnv [l0,name1,t2]) w = F187_0 l0 name1 t2 w k := by kernel_rfl
def F187_1 (k:KV) (N1:KE) (ρ:Env) (w:World) : Prop :=
 px prog (bSem .len #[242] 3 #[(ρ 0)]) w fun v15 w =>
 px prog (binSem .lss 3 (.tmp 13) (.tmp 15) (ρ 9) v15) w fun v16 w =>
 pC v16 (
 px prog (Op.unary .not (ρ 8)) w fun v20 w =>
 pG v20 true (fun k => k (ρ 1) w) (w := w) (next := fun v22 w =>
 pG v20 true (fun k => k (ρ 0) w) (w := w) (next := fun v23 w =>
 pG v20 true (fun k => k (ρ 9) w) (w := w) (next := fun v24 w =>
 pG v20 true (fun k => px prog (indexAt 242 v23 v24) w k) (w := w) (next := fun v25 w =>
 pG v20 true (fun k => px prog (fieldAt 264 v25 0) w k) (w := w) (next := fun v26 w =>
 pG v20 true (fun k => px prog (loadAt 9 v26) w k) (w := w) (next := fun v27 w =>
 pG v20 true (fun k => px prog (binSem .lss 9 (.tmp 22) (.tmp 27) v22 v27) w k) (w := w) (next := fun v28 w =>
 px prog (pickSem v20 v28 (.bool false)) w fun v29 w =>
 pC v29 (
 px prog (Instr.build 264 #[(0,(ρ 1)),(1,(ρ 2))]) w fun v33 w =>
 px prog (Instr.buildSlice 242 1 #[(0,v33)]) w fun v34 w =>
 px prog (bSem .append #[242,242] 242 #[(ρ 7),v34]) w fun v35 w =>
 F187A1 k N1 [1,0,0,1] (put (put (put (put (put (put (put (put (put (put (put (put (put (put (put (put (put (put (put (put (put (put (put ρ 13 (ρ 9)) 14 (ρ 0)) 15 v15) 16 v16) 19 (ρ 8)) 20 v20) 21 v20) 22 v22) 23 v23) 24 v24) 25 v25) 26 v26) 27 v27) 28 v28) 29 v29) 30 (ρ 7)) 31 (ρ 1)) 32 (ρ 2)) 33 v33) 34 v34) 35 v35) 7 v35) 8 (.bool true)) w)
 (
 F187A1 k N1 [1,0,0,1] (put (put (put (put (put (put (put (put (put (put (put (put (put (put (put ρ 13 (ρ 9)) 14 (ρ 0)) 15 v15) 16 v16) 19 (ρ 8)) 20 v20) 21 v20) 22 v22) 23 v23) 24 v24) 25 v25) 26 v26) 27 v27) 28 v28) 29 v29) w)))))))))
 (
 F187A k [1,1,1,1,1] (put (put (put (put ρ 13 (ρ 9)) 14 (ρ 0)) 15 v15) 16 v16) w)
theorem F187_1_eq (k:KV) (N1:KE) (ρ:Env) (w:World) : F187A1 k N1 [] ρ w = F187_1 k N1 ρ w := by kernel_rfl
def F187_2 (k:KV) (N1:KE) (ρ:Env) (w:World) : Prop :=
 px prog (indexAt 242 (ρ 0) (ρ 9)) w fun v39 w =>
 px prog (loadAt 264 v39) w fun v40 w =>
 px prog (Instr.buildSlice 242 1 #[(0,v40)]) w fun v41 w =>
 px prog (bSem .append #[242,242] 242 #[(ρ 7),v41]) w fun v42 w =>
 px prog (binSem .add 3 (.tmp 17) (.const (.int .i64 1)) (ρ 9) (.int .i64 1)) w fun v18 w =>
 N1 (put (put (put (put (put (put (put (put (put (put (put ρ 36 (ρ 7)) 37 (ρ 0)) 38 (ρ 9)) 39 v39) 40 v40) 41 v41) 42 v42) 7 v42) 17 (ρ 9)) 18 v18) 9 v18) w
theorem F187_2_eq (k:KV) (N1:KE) (ρ:Env) (w:World) : F187A1 k N1 [1,0,0,1] ρ w = F187_2 k N1 ρ w := by kernel_rfl
def F187_3 (k:KV) (ρ:Env) (w:World) : Prop :=
 px prog (Op.unary .not (ρ 8)) w fun v44 w =>
 pC v44 (
 px prog (Instr.build 264 #[(0,(ρ 1)),(1,(ρ 2))]) w fun v48 w =>
 px prog (Instr.buildSlice 242 1 #[(0,v48)]) w fun v49 w =>
 px prog (bSem .append #[242,242] 242 #[(ρ 7),v49]) w fun v50 w =>
 F187A k [1,1,1,1,1,1] (put (put (put (put (put (put (put (put (put ρ 43 (ρ 8)) 44 v44) 45 (ρ 7)) 46 (ρ 1)) 47 (ρ 2)) 48 v48) 49 v49) 50 v50) 7 v50) w)
 (
 F187A k [1,1,1,1,1,1] (put (put ρ 43 (ρ 8)) 44 v44) w)
theorem F187_3_eq (k:KV) (ρ:Env) (w:World) : F187A k [1,1,1,1,1] ρ w = F187_3 k ρ w := by kernel_rfl
def F187_4 (k:KV) (ρ:Env) (w:World) : Prop :=
 k (ρ 7) w
theorem F187_4_eq (k:KV) (ρ:Env) (w:World) : F187A k [1,1,1,1,1,1] ρ w = F187_4 k ρ w := by kernel_rfl
theorem F187_in (l0:Value) (name1:Value) (t2:Value) (w:World) (k:KV) (h:F187_0 l0 name1 t2 w k) : pFn prog 187 [l0,name1,t2] w k :=
 pFn_of_at mixed func187 (by kernel_rfl) (by kernel_rfl) ntmps187 (by kernel_rfl) (by kernel_rfl) (by simp) ((F187_0_eq l0 name1 t2 w k).mpr h)
noncomputable def F188B : Code := bodyOf f188
def F188A (k:KV) (q:List Nat) (ρ:Env) (w:World) : Prop := At prog 28 F188B (retQ prog f188.results.toList k) q ρ w
noncomputable def F188B1 : Code := sub F188B [1,1,0,1,0,0]
def F188Q1 (k:KV) (N1:KE) : Xt → KE := thenE N1 (contAt prog 28 F188B (retQ prog f188.results.toList k) [1,1,0,1,0])
def F188A1 (k:KV) (N1:KE) (q:List Nat) (ρ:Env) (w:World) : Prop := At prog 28 F188B1 (F188Q1 k N1) q ρ w
def F188L1 (k:KV) (ρ:Env) (w:World) : Prop := LoopAt prog 28 F188B (retQ prog f188.results.toList k) [1,1,0,1,0] ρ w
theorem F188L1_inv (k:KV) (I:Nat → KE) (round:∀ m ρ w,I m ρ w → F188A1 k (fun ρ' w' => ∃ m',m' < m ∧ I m' ρ' w') [] ρ w) {m:Nat} {ρ:Env} {w:World} (h:I m ρ w) : F188L1 k ρ w :=
 LoopAt_inv mixed (B := F188B) (Q := (retQ prog f188.results.toList k)) (p := [1,1,0,1,0]) (by kernel_rfl) (by kernel_rfl) I round h
def F188_0 (l0:Value) (name1:Value) (w:World) (k:KV) : Prop :=
 F188L1 k (put (put (put (argEnv [l0,name1]) 4 (.slice none 0 0)) 5 (.slice none 0 0)) 6 (.int .i64 0)) w
theorem F188_0_eq (l0:Value) (name1:Value) (w:World) (k:KV) : F188A k [] (argEnv [l0,name1]) w = F188_0 l0 name1 w k := by kernel_rfl
def F188_1 (k:KV) (N1:KE) (ρ:Env) (w:World) : Prop :=
 px prog (bSem .len #[242] 3 #[(ρ 0)]) w fun v9 w =>
 px prog (binSem .lss 3 (.tmp 7) (.tmp 9) (ρ 6) v9) w fun v10 w =>
 pC v10 (
 px prog (indexAt 242 (ρ 0) (ρ 6)) w fun v15 w =>
 px prog (fieldAt 264 v15 0) w fun v16 w =>
 px prog (loadAt 9 v16) w fun v17 w =>
 px prog (binSem .neq 9 (.tmp 17) (.tmp 18) v17 (ρ 1)) w fun v19 w =>
 pC v19 (
 px prog (indexAt 242 (ρ 0) (ρ 6)) w fun v23 w =>
 px prog (loadAt 264 v23) w fun v24 w =>
 px prog (Instr.buildSlice 242 1 #[(0,v24)]) w fun v25 w =>
 px prog (bSem .append #[242,242] 242 #[(ρ 5),v25]) w fun v26 w =>
 F188A1 k N1 [1,1] (put (put (put (put (put (put (put (put (put (put (put (put (put (put (put (put (put (put (put ρ 7 (ρ 6)) 8 (ρ 0)) 9 v9) 10 v10) 13 (ρ 0)) 14 (ρ 6)) 15 v15) 16 v16) 17 v17) 18 (ρ 1)) 19 v19) 20 (ρ 5)) 21 (ρ 0)) 22 (ρ 6)) 23 v23) 24 v24) 25 v25) 26 v26) 5 v26) w)
 (
 F188A1 k N1 [1,1] (put (put (put (put (put (put (put (put (put (put (put ρ 7 (ρ 6)) 8 (ρ 0)) 9 v9) 10 v10) 13 (ρ 0)) 14 (ρ 6)) 15 v15) 16 v16) 17 v17) 18 (ρ 1)) 19 v19) w))
 (
 F188A k [1,1,1] (put (put (put (put ρ 7 (ρ 6)) 8 (ρ 0)) 9 v9) 10 v10) w)
theorem F188_1_eq (k:KV) (N1:KE) (ρ:Env) (w:World) : F188A1 k N1 [] ρ w = F188_1 k N1 ρ w := by kernel_rfl
def F188_2 (k:KV) (N1:KE) (ρ:Env) (w:World) : Prop :=
 px prog (binSem .add 3 (.tmp 11) (.const (.int .i64 1)) (ρ 6) (.int .i64 1)) w fun v12 w =>
 N1 (put (put (put ρ 11 (ρ 6)) 12 v12) 6 v12) w
theorem F188_2_eq (k:KV) (N1:KE) (ρ:Env) (w:World) : F188A1 k N1 [1,1] ρ w = F188_2 k N1 ρ w := by kernel_rfl
def F188_3 (k:KV) (ρ:Env) (w:World) : Prop :=
 k (ρ 5) w
theorem F188_3_eq (k:KV) (ρ:Env) (w:World) : F188A k [1,1,1] ρ w = F188_3 k ρ w := by kernel_rfl
theorem F188_in (l0:Value) (name1:Value) (w:World) (k:KV) (h:F188_0 l0 name1 w k) : pFn prog 188 [l0,name1] w k :=
 pFn_of_at mixed func188 (by kernel_rfl) (by kernel_rfl) ntmps188 (by kernel_rfl) (by kernel_rfl) (by simp) ((F188_0_eq l0 name1 w k).mpr h)
noncomputable def F189B : Code := bodyOf f189
def F189A (k:KV) (q:List Nat) (ρ:Env) (w:World) : Prop := At prog 31 F189B (retQ prog f189.results.toList k) q ρ w
noncomputable def F189B1 : Code := sub F189B [1,1,1,0,1,0,0]
def F189Q1 (k:KV) (N1:KE) : Xt → KE := thenE N1 (contAt prog 31 F189B (retQ prog f189.results.toList k) [1,1,1,0,1,0])
def F189A1 (k:KV) (N1:KE) (q:List Nat) (ρ:Env) (w:World) : Prop := At prog 31 F189B1 (F189Q1 k N1) q ρ w
def F189L1 (k:KV) (ρ:Env) (w:World) : Prop := LoopAt prog 31 F189B (retQ prog f189.results.toList k) [1,1,1,0,1,0] ρ w
theorem F189L1_inv (k:KV) (I:Nat → KE) (round:∀ m ρ w,I m ρ w → F189A1 k (fun ρ' w' => ∃ m',m' < m ∧ I m' ρ' w') [] ρ w) {m:Nat} {ρ:Env} {w:World} (h:I m ρ w) : F189L1 k ρ w :=
 LoopAt_inv mixed (B := F189B) (Q := (retQ prog f189.results.toList k)) (p := [1,1,1,0,1,0]) (by kernel_rfl) (by kernel_rfl) I round h
def F189_0 (d0:Value) (w:World) (k:KV) : Prop :=
 px prog (binSem .eql 177 (.tmp 5) (.const (.pointer none)) d0 (.pointer none)) w fun v6 w =>
 pC v6 (
 k (.int .i64 0) w)
 (
 F189L1 k (put (put (put (put (put (argEnv [d0]) 2 (.int .i64 0)) 5 d0) 6 v6) 3 (.int .i64 0)) 4 (.int .i64 0)) w)
theorem F189_0_eq (d0:Value) (w:World) (k:KV) : F189A k [] (argEnv [d0]) w = F189_0 d0 w k := by kernel_rfl
def F189_1 (k:KV) (N1:KE) (ρ:Env) (w:World) : Prop :=
 px prog (nilSem (ρ 0)) w fun v9 w =>
 px prog (fieldAt 245 v9 2) w fun v10 w =>
 px prog (loadAt 242 v10) w fun v11 w =>
 px prog (bSem .len #[242] 3 #[v11]) w fun v12 w =>
 px prog (binSem .lss 3 (.tmp 7) (.tmp 12) (ρ 4) v12) w fun v13 w =>
 pC v13 (
 px prog (nilSem (ρ 0)) w fun v18 w =>
 px prog (fieldAt 245 v18 2) w fun v19 w =>
 px prog (loadAt 242 v19) w fun v20 w =>
 px prog (indexAt 242 v20 (ρ 4)) w fun v22 w =>
 px prog (fieldAt 264 v22 1) w fun v23 w =>
 px prog (loadAt 255 v23) w fun v24 w =>
 px prog (nilSem v24) w fun v25 w =>
 px prog (fieldAt 258 v25 1) w fun v26 w =>
 px prog (loadAt 23 v26) w fun v27 w =>
 px prog (bSem .len #[23] 3 #[v27]) w fun v28 w =>
 px prog (binSem .add 3 (.tmp 16) (.tmp 28) (ρ 3) v28) w fun v29 w =>
 px prog (binSem .add 3 (.tmp 14) (.const (.int .i64 1)) (ρ 4) (.int .i64 1)) w fun v15 w =>
 N1 (put (put (put (put (put (put (put (put (put (put (put (put (put (put (put (put (put (put (put (put (put (put (put (put (put ρ 7 (ρ 4)) 8 (ρ 0)) 9 v9) 10 v10) 11 v11) 12 v12) 13 v13) 16 (ρ 3)) 17 (ρ 0)) 18 v18) 19 v19) 20 v20) 21 (ρ 4)) 22 v22) 23 v23) 24 v24) 25 v25) 26 v26) 27 v27) 28 v28) 29 v29) 3 v29) 14 (ρ 4)) 15 v15) 4 v15) w)
 (
 F189A k [1,1,1,1] (put (put (put (put (put (put (put ρ 7 (ρ 4)) 8 (ρ 0)) 9 v9) 10 v10) 11 v11) 12 v12) 13 v13) w)
theorem F189_1_eq (k:KV) (N1:KE) (ρ:Env) (w:World) : F189A1 k N1 [] ρ w = F189_1 k N1 ρ w := by kernel_rfl
def F189_2 (k:KV) (ρ:Env) (w:World) : Prop :=
 k (ρ 3) w
theorem F189_2_eq (k:KV) (ρ:Env) (w:World) : F189A k [1,1,1,1] ρ w = F189_2 k ρ w := by kernel_rfl
theorem F189_in (d0:Value) (w:World) (k:KV) (h:F189_0 d0 w k) : pFn prog 189 [d0] w k :=
 pFn_of_at mixed func189 (by kernel_rfl) (by kernel_rfl) ntmps189 (by kernel_rfl) (by kernel_rfl) (by simp) ((F189_0_eq d0 w k).mpr h)
noncomputable def F47B : Code := bodyOf f47
def F47A (k:KV) (q:List Nat) (ρ:Env) (w:World) : Prop := At prog 15 F47B (retQ prog f47.results.toList k) q ρ w
def F47_0 (name0:Value) (w:World) (k:KV) : Prop :=
 pFn prog 48 [name0] w fun v4 w =>
 pG v4 true (fun k => k name0 w) (w := w) (next := fun v6 w =>
 pG v4 true (fun k => px prog (bSem .len #[9] 3 #[v6]) w k) (w := w) (next := fun v7 w =>
 pG v4 true (fun k => px prog (binSem .lss 3 (.tmp 7) (.const (.int .i64 112)) v7 (.int .i64 112)) w k) (w := w) (next := fun v8 w =>
 px prog (pickSem v4 v8 (.bool false)) w fun v9 w =>
 pG v9 true (fun k => k name0 w) (w := w) (next := fun v11 w =>
 pG v9 true (fun k => px prog (Instr.index 9 v11 (.int .i64 0)) w k) (w := w) (next := fun v12 w =>
 pG v9 true (fun k => px prog (binSem .neq 5 (.tmp 12) (.const (.int .u8 43)) v12 (.int .u8 43)) w k) (w := w) (next := fun v13 w =>
 px prog (pickSem v9 v13 (.bool false)) w fun v14 w =>
 k v14 w))))))
theorem F47_0_eq (name0:Value) (w:World) (k:KV) : F47A k [] (argEnv [name0]) w = F47_0 name0 w k := by kernel_rfl
theorem F47_in (name0:Value) (w:World) (k:KV) (h:F47_0 name0 w k) : pFn prog 47 [name0] w k :=
 pFn_of_at mixed func47 (by kernel_rfl) (by kernel_rfl) ntmps47 (by kernel_rfl) (by kernel_rfl) (by simp) ((F47_0_eq name0 w k).mpr h)
noncomputable def F100B : Code := bodyOf f100
def F100A (k:KV) (q:List Nat) (ρ:Env) (w:World) : Prop := At prog 74 F100B (retQ prog f100.results.toList k) q ρ w
def F100_0 (d0:Value) (name1:Value) (data2:Value) (w:World) (k:KV) : Prop :=
 pFn prog 47 [name1] w fun v12 w =>
 px prog (Op.unary .not v12) w fun v13 w =>
 pC v13 (
 k (.int .i64 51) w)
 (
 pFn prog 114 [d0] w fun v15 w =>
 pC v15 (
 k (.int .i64 50) w)
 (
 px prog (binSem .add 9 (.const (.string (ByteArray.mk #[43]))) (.tmp 16) (.string (ByteArray.mk #[43])) name1) w fun v17 w =>
 pFn prog 153 [d0,v17] w fun v20 w =>
 pC v20 (
 pFn prog 109 [d0,v17] w fun v24 w =>
 px prog (binSem .neq 3 (.tmp 25) (.const (.int .i64 0)) v24 (.int .i64 0)) w fun v26 w =>
 pC v26 (
 k v24 w)
 (
 F100A k [1,1,1,1,1,1] (put (put (put (put (put (put (put (put (put (put (put (put (put (put (put (put (put (put (put (put (argEnv [d0,name1,data2]) 6 (.int .i64 0)) 11 name1) 12 v12) 13 v13) 14 d0) 15 v15) 16 name1) 17 v17) 7 v17) 18 d0) 19 v17) 20 v20) 8 v20) 21 v20) 22 d0) 23 v17) 24 v24) 9 v24) 25 v24) 26 v26) w))
 (
 F100A k [1,1,1,1,1,1] (put (put (put (put (put (put (put (put (put (put (put (put (put (put (argEnv [d0,name1,data2]) 6 (.int .i64 0)) 11 name1) 12 v12) 13 v13) 14 d0) 15 v15) 16 name1) 17 v17) 7 v17) 18 d0) 19 v17) 20 v20) 8 v20) 21 v20) w)))
theorem F100_0_eq (d0:Value) (name1:Value) (data2:Value) (w:World) (k:KV) : F100A k [] (argEnv [d0,name1,data2]) w = F100_0 d0 name1 data2 w k := by kernel_rfl
def F100_1 (k:KV) (ρ:Env) (w:World) : Prop :=
 pFn prog 104 [(ρ 0),(ρ 7)] w fun v30 w =>
 px prog (binSem .neq 3 (.tmp 31) (.const (.int .i64 0)) v30 (.int .i64 0)) w fun v32 w =>
 pC v32 (
 px prog (binSem .neq 3 (.tmp 33) (.const (.int .i64 50)) v30 (.int .i64 50)) w fun v34 w =>
 pG v34 true (fun k => k (ρ 8) w) (w := w) (next := fun v36 w =>
 px prog (pickSem v34 v36 (.bool false)) w fun v37 w =>
 pG v37 true (fun k => k (ρ 0) w) (w := w) (next := fun v39 w =>
 pG v37 true (fun k => pFn prog 111 [v39] w k) (w := w) (next := fun v40 w =>
 pG v37 true (fun k => px prog (binSem .neq 3 (.tmp 40) (.const (.int .i64 0)) v40 (.int .i64 0)) w k) (w := w) (next := fun v41 w =>
 px prog (pickSem v37 v41 (.bool false)) w fun v42 w =>
 pC v42 (
 k (.int .i64 50) w)
 (
 k v30 w))))))
 (
 pFn prog 105 [(ρ 0),(ρ 7),(ρ 2)] w fun v47 w =>
 px prog (binSem .neq 3 (.tmp 48) (.const (.int .i64 0)) v47 (.int .i64 0)) w fun v49 w =>
 pC v49 (
 px prog (binSem .neq 3 (.tmp 50) (.const (.int .i64 50)) v47 (.int .i64 50)) w fun v51 w =>
 pG v51 true (fun k => k (ρ 0) w) (w := w) (next := fun v53 w =>
 pG v51 true (fun k => k (ρ 7) w) (w := w) (next := fun v54 w =>
 pG v51 true (fun k => pFn prog 154 [v53,v54] w k) (w := w) (next := fun v55 w =>
 pG v51 true (fun k => px prog (binSem .neq 3 (.tmp 55) (.const (.int .i64 0)) v55 (.int .i64 0)) w k) (w := w) (next := fun v56 w =>
 px prog (pickSem v51 v56 (.bool false)) w fun v57 w =>
 pC v57 (
 k (.int .i64 50) w)
 (
 k v47 w))))))
 (
 pFn prog 110 [(ρ 0),(ρ 7)] w fun v61 w =>
 px prog (binSem .neq 3 (.tmp 62) (.const (.int .i64 0)) v61 (.int .i64 0)) w fun v63 w =>
 pC v63 (
 k v61 w)
 (
 pFn prog 108 [(ρ 0),(ρ 7),(ρ 1)] w fun v68 w =>
 px prog (binSem .neq 3 (.tmp 69) (.const (.int .i64 0)) v68 (.int .i64 0)) w fun v70 w =>
 pC v70 (
 k v68 w)
 (
 pFn prog 111 [(ρ 0)] w fun v73 w =>
 k v73 w))))
theorem F100_1_eq (k:KV) (ρ:Env) (w:World) : F100A k [1,1,1,1,1,1] ρ w = F100_1 k ρ w := by kernel_rfl
theorem F100_in (d0:Value) (name1:Value) (data2:Value) (w:World) (k:KV) (h:F100_0 d0 name1 data2 w k) : pFn prog 100 [d0,name1,data2] w k :=
 pFn_of_at mixed func100 (by kernel_rfl) (by kernel_rfl) ntmps100 (by kernel_rfl) (by kernel_rfl) (by simp) ((F100_0_eq d0 name1 data2 w k).mpr h)
noncomputable def F101B : Code := bodyOf f101
def F101A (k:KV) (q:List Nat) (ρ:Env) (w:World) : Prop := At prog 26 F101B (retQ prog f101.results.toList k) q ρ w
def F101_0 (d0:Value) (name1:Value) (w:World) (k:KV) : Prop :=
 pFn prog 48 [name1] w fun v9 w =>
 px prog (Op.unary .not v9) w fun v10 w =>
 pC v10 (
 k (.tuple #[(.slice none 0 0),(.int .i64 51)]) w)
 (
 pFn prog 155 [d0,name1] w fun v14 w =>
 px prog (extract v14 0) w fun v15 w =>
 px prog (extract v14 1) w fun v16 w =>
 px prog (binSem .neq 3 (.tmp 17) (.const (.int .i64 0)) v16 (.int .i64 0)) w fun v18 w =>
 pC v18 (
 k (.tuple #[(.slice none 0 0),v16]) w)
 (
 pFn prog 156 [d0,name1,(.int .i64 0),v15] w fun v23 w =>
 px prog (extract v23 0) w fun v24 w =>
 px prog (extract v23 1) w fun v25 w =>
 k (.tuple #[v24,v25]) w))
theorem F101_0_eq (d0:Value) (name1:Value) (w:World) (k:KV) : F101A k [] (argEnv [d0,name1]) w = F101_0 d0 name1 w k := by kernel_rfl
theorem F101_in (d0:Value) (name1:Value) (w:World) (k:KV) (h:F101_0 d0 name1 w k) : pFn prog 101 [d0,name1] w k :=
 pFn_of_at mixed func101 (by kernel_rfl) (by kernel_rfl) ntmps101 (by kernel_rfl) (by kernel_rfl) (by simp) ((F101_0_eq d0 name1 w k).mpr h)
noncomputable def F102B : Code := bodyOf f102
def F102A (k:KV) (q:List Nat) (ρ:Env) (w:World) : Prop := At prog 11 F102B (retQ prog f102.results.toList k) q ρ w
def F102_0 (d0:Value) (name1:Value) (w:World) (k:KV) : Prop :=
 pFn prog 48 [name1] w fun v6 w =>
 px prog (Op.unary .not v6) w fun v7 w =>
 pC v7 (
 k (.int .i64 51) w)
 (
 pFn prog 154 [d0,name1] w fun v10 w =>
 k v10 w)
theorem F102_0_eq (d0:Value) (name1:Value) (w:World) (k:KV) : F102A k [] (argEnv [d0,name1]) w = F102_0 d0 name1 w k := by kernel_rfl
theorem F102_in (d0:Value) (name1:Value) (w:World) (k:KV) (h:F102_0 d0 name1 w k) : pFn prog 102 [d0,name1] w k :=
 pFn_of_at mixed func102 (by kernel_rfl) (by kernel_rfl) ntmps102 (by kernel_rfl) (by kernel_rfl) (by simp) ((F102_0_eq d0 name1 w k).mpr h)
noncomputable def F103B : Code := bodyOf f103
def F103A (k:KV) (q:List Nat) (ρ:Env) (w:World) : Prop := At prog 33 F103B (retQ prog f103.results.toList k) q ρ w
noncomputable def F103B1 : Code := sub F103B [1,1,1,0,1,0,0]
def F103Q1 (k:KV) (N1:KE) : Xt → KE := thenE N1 (contAt prog 33 F103B (retQ prog f103.results.toList k) [1,1,1,0,1,0])
def F103A1 (k:KV) (N1:KE) (q:List Nat) (ρ:Env) (w:World) : Prop := At prog 33 F103B1 (F103Q1 k N1) q ρ w
def F103L1 (k:KV) (ρ:Env) (w:World) : Prop := LoopAt prog 33 F103B (retQ prog f103.results.toList k) [1,1,1,0,1,0] ρ w
theorem F103L1_inv (k:KV) (I:Nat → KE) (round:∀ m ρ w,I m ρ w → F103A1 k (fun ρ' w' => ∃ m',m' < m ∧ I m' ρ' w') [] ρ w) {m:Nat} {ρ:Env} {w:World} (h:I m ρ w) : F103L1 k ρ w :=
 LoopAt_inv mixed (B := F103B) (Q := (retQ prog f103.results.toList k)) (p := [1,1,1,0,1,0]) (by kernel_rfl) (by kernel_rfl) I round h
def F103_0 (d0:Value) (prefix1:Value) (w:World) (k:KV) : Prop :=
 pFn prog 114 [d0] w fun v9 w =>
 pC v9 (
 k (.int .i64 50) w)
 (
 pFn prog 157 [d0,prefix1] w fun v12 w =>
 F103L1 k (put (put (put (put (put (put (put (put (argEnv [d0,prefix1]) 4 (.int .i64 0)) 8 d0) 9 v9) 10 d0) 11 prefix1) 12 v12) 5 v12) 6 (.int .i64 0)) w)
theorem F103_0_eq (d0:Value) (prefix1:Value) (w:World) (k:KV) : F103A k [] (argEnv [d0,prefix1]) w = F103_0 d0 prefix1 w k := by kernel_rfl
def F103_1 (k:KV) (N1:KE) (ρ:Env) (w:World) : Prop :=
 px prog (bSem .len #[22] 3 #[(ρ 5)]) w fun v15 w =>
 px prog (binSem .lss 3 (.tmp 13) (.tmp 15) (ρ 6) v15) w fun v16 w =>
 pC v16 (
 px prog (indexAt 22 (ρ 5) (ρ 6)) w fun v22 w =>
 px prog (loadAt 9 v22) w fun v23 w =>
 pFn prog 109 [(ρ 0),v23] w fun v24 w =>
 px prog (binSem .neq 3 (.tmp 25) (.const (.int .i64 0)) v24 (.int .i64 0)) w fun v26 w =>
 pC v26 (
 k v24 w)
 (
 px prog (binSem .add 3 (.tmp 17) (.const (.int .i64 1)) (ρ 6) (.int .i64 1)) w fun v18 w =>
 N1 (put (put (put (put (put (put (put (put (put (put (put (put (put (put (put (put ρ 13 (ρ 6)) 14 (ρ 5)) 15 v15) 16 v16) 19 (ρ 0)) 20 (ρ 5)) 21 (ρ 6)) 22 v22) 23 v23) 24 v24) 7 v24) 25 v24) 26 v26) 17 (ρ 6)) 18 v18) 6 v18) w))
 (
 F103A k [1,1,1,1] (put (put (put (put ρ 13 (ρ 6)) 14 (ρ 5)) 15 v15) 16 v16) w)
theorem F103_1_eq (k:KV) (N1:KE) (ρ:Env) (w:World) : F103A1 k N1 [] ρ w = F103_1 k N1 ρ w := by kernel_rfl
def F103_2 (k:KV) (ρ:Env) (w:World) : Prop :=
 px prog (bSem .len #[22] 3 #[(ρ 5)]) w fun v29 w =>
 px prog (binSem .eql 3 (.tmp 29) (.const (.int .i64 0)) v29 (.int .i64 0)) w fun v30 w =>
 pC v30 (
 k (.int .i64 0) w)
 (
 pFn prog 111 [(ρ 0)] w fun v32 w =>
 k v32 w)
theorem F103_2_eq (k:KV) (ρ:Env) (w:World) : F103A k [1,1,1,1] ρ w = F103_2 k ρ w := by kernel_rfl
theorem F103_in (d0:Value) (prefix1:Value) (w:World) (k:KV) (h:F103_0 d0 prefix1 w k) : pFn prog 103 [d0,prefix1] w k :=
 pFn_of_at mixed func103 (by kernel_rfl) (by kernel_rfl) ntmps103 (by kernel_rfl) (by kernel_rfl) (by simp) ((F103_0_eq d0 prefix1 w k).mpr h)
noncomputable def F153B : Code := bodyOf f153
def F153A (k:KV) (q:List Nat) (ρ:Env) (w:World) : Prop := At prog 15 F153B (retQ prog f153.results.toList k) q ρ w
def F153_0 (d0:Value) (name1:Value) (w:World) (k:KV) : Prop :=
 pFn prog 155 [d0,name1] w fun v10 w =>
 px prog (extract v10 0) w fun v11 w =>
 px prog (extract v10 1) w fun v12 w =>
 px prog (binSem .eql 3 (.tmp 13) (.const (.int .i64 0)) v12 (.int .i64 0)) w fun v14 w =>
 k v14 w
theorem F153_0_eq (d0:Value) (name1:Value) (w:World) (k:KV) : F153A k [] (argEnv [d0,name1]) w = F153_0 d0 name1 w k := by kernel_rfl
theorem F153_in (d0:Value) (name1:Value) (w:World) (k:KV) (h:F153_0 d0 name1 w k) : pFn prog 153 [d0,name1] w k :=
 pFn_of_at mixed func153 (by kernel_rfl) (by kernel_rfl) ntmps153 (by kernel_rfl) (by kernel_rfl) (by simp) ((F153_0_eq d0 name1 w k).mpr h)
noncomputable def F154B : Code := bodyOf f154
def F154A (k:KV) (q:List Nat) (ρ:Env) (w:World) : Prop := At prog 14 F154B (retQ prog f154.results.toList k) q ρ w
def F154_0 (d0:Value) (name1:Value) (w:World) (k:KV) : Prop :=
 pFn prog 109 [d0,name1] w fun v8 w =>
 px prog (binSem .neq 3 (.tmp 9) (.const (.int .i64 0)) v8 (.int .i64 0)) w fun v10 w =>
 pC v10 (
 k v8 w)
 (
 pFn prog 111 [d0] w fun v13 w =>
 k v13 w)
theorem F154_0_eq (d0:Value) (name1:Value) (w:World) (k:KV) : F154A k [] (argEnv [d0,name1]) w = F154_0 d0 name1 w k := by kernel_rfl
theorem F154_in (d0:Value) (name1:Value) (w:World) (k:KV) (h:F154_0 d0 name1 w k) : pFn prog 154 [d0,name1] w k :=
 pFn_of_at mixed func154 (by kernel_rfl) (by kernel_rfl) ntmps154 (by kernel_rfl) (by kernel_rfl) (by simp) ((F154_0_eq d0 name1 w k).mpr h)
end Go.Proofs.YteeeggphkhimcaaGreatDoor
