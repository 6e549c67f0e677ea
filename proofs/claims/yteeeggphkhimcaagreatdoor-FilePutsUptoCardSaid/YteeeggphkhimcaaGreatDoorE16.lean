/- Put together by a program (wip/tools/shake.py): R6,File2,File3,File4,File5,File6. -/
import Derived.Test.YteeeggphkhimcaaGreatDoorE15
import Derived.Test.YteeeggphkhimcaaGreatDoorProg
import Derived.Test.YteeeggphkhimcaaGreatDoorMix
set_option linter.unusedVariables false
set_option maxRecDepth 100000
namespace Go.Proofs.YteeeggphkhimcaaGreatDoor
open Go Go.Proofs Go.Proofs.XRed Tryz
open Go.Instr (fieldAt loadAt storeAt indexAt sliceAt extract)
noncomputable def F19B : Code := bodyOf f19
noncomputable def F19C0 : Code := sub F19B []
noncomputable def F19X0 : Code := sub F19B [0]
noncomputable def F19p0B : Code := F19X0
def F19p0A (N E:KE) (q:List Nat) (ρ:Env) (w:World) : Prop := At prog 92 F19p0B (endN N E) q ρ w
def F19p0_0 (N:KE) (E:KE) (ρ:Env) (w:World) : Prop :=
 px prog (Instr.box 24 (ρ 0)) w fun v3 w =>
 px prog (Instr.box 9 (ρ 1)) w fun v4 w =>
 px prog (Instr.alloc 31 true (.tuple #[])) w fun v6 w =>
 N (put (put (put ρ 3 v3) 4 v4) 6 v6) w
theorem F19p0_0_eq (N:KE) (E:KE) (ρ:Env) (w:World) : F19p0A N E [] ρ w = F19p0_0 N E ρ w := by kernel_rfl
noncomputable def F19C1 : Code := sub F19B [1]
noncomputable def F19X1 : Code := sub F19B [1,0]
noncomputable def F19p1B : Code := F19X1
def F19p1A (N E:KE) (q:List Nat) (ρ:Env) (w:World) : Prop := At prog 92 F19p1B (endN N E) q ρ w
def F19p1_0 (N:KE) (E:KE) (ρ:Env) (w:World) : Prop :=
 px prog (loadAt 9 (ρ 4)) w fun v18 w =>
 pFn prog 66 [v18,(.int .i64 111)] w fun v19 w =>
 px prog (Op.unary .not v19) w fun v20 w =>
 pG v20 false (fun k => px prog (loadAt 9 (ρ 4)) w k) (w := w) (next := fun v22 w =>
 pG v20 false (fun k => px prog (Instr.index 9 v22 (.int .i64 0)) w k) (w := w) (next := fun v23 w =>
 pG v20 false (fun k => px prog (binSem .eql 5 (.tmp 23) (.const (.int .u8 43)) v23 (.int .u8 43)) w k) (w := w) (next := fun v24 w =>
 px prog (pickSem v20 (.bool true) v24) w fun v25 w =>
 pC v25 (
 px prog (loadAt 9 (ρ 4)) w fun v26 w =>
 pFn prog 67 [(.string (ByteArray.mk #[112,117,116])),v26,(.int .i64 51)] w fun v27 w =>
 pu prog (storeAt 31 (ρ 6) v27) w fun w =>
 E (put (put (put (put (put (put (put (put (put (put ρ 18 v18) 19 v19) 20 v20) 21 v20) 22 v22) 23 v23) 24 v24) 25 v25) 26 v26) 27 v27) w)
 (
 N (put (put (put (put (put (put (put (put ρ 18 v18) 19 v19) 20 v20) 21 v20) 22 v22) 23 v23) 24 v24) 25 v25) w))))
theorem F19p1_0_eq (N:KE) (E:KE) (ρ:Env) (w:World) : F19p1A N E [] ρ w = F19p1_0 N E ρ w := by kernel_rfl
noncomputable def F19C2 : Code := sub F19B [1,1]
noncomputable def F19X2 : Code := sub F19B [1,1,0]
noncomputable def F19p2B : Code := F19X2
def F19p2A (N E:KE) (q:List Nat) (ρ:Env) (w:World) : Prop := At prog 92 F19p2B (endN N E) q ρ w
def F19p2_0 (N:KE) (E:KE) (ρ:Env) (w:World) : Prop :=
 px prog (loadAt 24 (ρ 3)) w fun v28 w =>
 pFn prog 59 [v28] w fun v29 w =>
 pC v29 (
 px prog (loadAt 9 (ρ 4)) w fun v30 w =>
 pFn prog 67 [(.string (ByteArray.mk #[112,117,116])),v30,(.int .i64 50)] w fun v31 w =>
 pu prog (storeAt 31 (ρ 6) v31) w fun w =>
 E (put (put (put (put ρ 28 v28) 29 v29) 30 v30) 31 v31) w)
 (
 N (put (put ρ 28 v28) 29 v29) w)
theorem F19p2_0_eq (N:KE) (E:KE) (ρ:Env) (w:World) : F19p2A N E [] ρ w = F19p2_0 N E ρ w := by kernel_rfl
noncomputable def F19C3 : Code := sub F19B [1,1,1]
noncomputable def F19X3 : Code := sub F19B [1,1,1,0]
noncomputable def F19p3B : Code := F19X3
def F19p3A (N E:KE) (q:List Nat) (ρ:Env) (w:World) : Prop := At prog 92 F19p3B (endN N E) q ρ w
def F19p3_0 (N:KE) (E:KE) (ρ:Env) (w:World) : Prop :=
 px prog (loadAt 9 (ρ 4)) w fun v32 w =>
 px prog (binSem .add 9 (.const (.string (ByteArray.mk #[43]))) (.tmp 32) (.string (ByteArray.mk #[43])) v32) w fun v33 w =>
 px prog (Instr.alloc 9 true (.tuple #[])) w fun v7 w =>
 pu prog (storeAt 9 v7 v33) w fun w =>
 N (put (put (put ρ 32 v32) 33 v33) 7 v7) w
theorem F19p3_0_eq (N:KE) (E:KE) (ρ:Env) (w:World) : F19p3A N E [] ρ w = F19p3_0 N E ρ w := by kernel_rfl
noncomputable def F19C4 : Code := sub F19B [1,1,1,1]
noncomputable def F19X4 : Code := sub F19B [1,1,1,1,0]
noncomputable def F19p4B : Code := F19X4
def F19p4A (N E:KE) (q:List Nat) (ρ:Env) (w:World) : Prop := At prog 92 F19p4B (endN N E) q ρ w
def F19p4_0 (N:KE) (E:KE) (ρ:Env) (w:World) : Prop :=
 px prog (Instr.alloc 4 true (.tuple #[])) w fun v8 w =>
 px prog (Instr.alloc 4 true (.tuple #[])) w fun v9 w =>
 pu prog (storeAt 4 v8 (.bool false)) w fun w =>
 pu prog (storeAt 4 v9 (.bool false)) w fun w =>
 N (put (put ρ 8 v8) 9 v9) w
theorem F19p4_0_eq (N:KE) (E:KE) (ρ:Env) (w:World) : F19p4A N E [] ρ w = F19p4_0 N E ρ w := by kernel_rfl
noncomputable def F19C5 : Code := sub F19B [1,1,1,1,1]
noncomputable def F19C6 : Code := sub F19B [1,1,1,1,1,1]
def F19ops : Array Oper := #[(Oper.mk (some 34) (Op.makeFunc (Fn.func 68) #[] #[(.tmp 6), (.tmp 8), (.tmp 3), (.tmp 7), (.tmp 4), (.tmp 9)]) 1 "file.go:41" #[] none), (Oper.mk none (Op.defer (Call.mk (Callee.value (.tmp 34)) #[] #[])) 0 "file.go:41" #[(Edge.mk 0 Ground.data)] none)]
theorem F19_t5 : F19C5 = .seq (.region 7 F19ops false) F19C6 := by kernel_rfl
def F19d (K:List Deferred → KE) (ds:List Deferred) (ρ:Env) (w:World) : Prop :=
 (px prog (Instr.makeFunc (Fn.func 68) #[] #[(ρ 6),(ρ 8),(ρ 3),(ρ 7),(ρ 4),(ρ 9)])) w fun v34 w =>
 ∃ d,(resolve (ev (put ρ 34 v34)) (Call.mk (Callee.value (.tmp 34)) #[] #[]) 0).run prog w = .ok d w ∧ (
 K (d :: ds) (put ρ 34 v34) w)
theorem F19d_eq (K:List Deferred → KE) (ds:List Deferred) (ρ:Env) (w:World) : redOpsD prog F19ops.toList K F19ops.toList ds ρ w = F19d K ds ρ w := by kernel_rfl
noncomputable def F19zB : Code := F19C6
def F19zA (N E:KE) (q:List Nat) (ρ:Env) (w:World) : Prop := At prog 92 F19zB (endN N E) q ρ w
def F19z_0 (N:KE) (E:KE) (ρ:Env) (w:World) : Prop :=
 px prog (loadAt 24 (ρ 3)) w fun v36 w =>
 px prog (loadAt 9 (ρ 7)) w fun v37 w =>
 pFn prog 72 [v36,v37] w fun v38 w =>
 px prog (extract v38 0) w fun v39 w =>
 px prog (extract v38 1) w fun v40 w =>
 px prog (binSem .eql 25 (.tmp 41) (.const (.int .i64 0)) v40 (.int .i64 0)) w fun v42 w =>
 pC v42 (
 px prog (loadAt 24 (ρ 3)) w fun v43 w =>
 px prog (loadAt 9 (ρ 7)) w fun v44 w =>
 pFn prog 70 [v43,v44] w fun v45 w =>
 px prog (binSem .neq 25 (.tmp 46) (.const (.int .i64 0)) v45 (.int .i64 0)) w fun v47 w =>
 pC v47 (
 px prog (loadAt 9 (ρ 4)) w fun v48 w =>
 pFn prog 67 [(.string (ByteArray.mk #[112,117,116])),v48,v45] w fun v50 w =>
 pu prog (storeAt 31 (ρ 6) v50) w fun w =>
 E (put (put (put (put (put (put (put (put (put (put (put (put (put (put (put (put (put (put (put ρ 36 v36) 37 v37) 38 v38) 35 v38) 39 v39) 40 v40) 10 v39) 11 v40) 41 v40) 42 v42) 43 v43) 44 v44) 45 v45) 12 v45) 46 v45) 47 v47) 48 v48) 49 v45) 50 v50) w)
 (
 pu prog (storeAt 4 (ρ 9) (.bool true)) w fun w =>
 F19zA N E [1] (put (put (put (put (put (put (put (put (put (put (put (put (put (put (put (put ρ 36 v36) 37 v37) 38 v38) 35 v38) 39 v39) 40 v40) 10 v39) 11 v40) 41 v40) 42 v42) 43 v43) 44 v44) 45 v45) 12 v45) 46 v45) 47 v47) w))
 (
 F19zA N E [1] (put (put (put (put (put (put (put (put (put (put ρ 36 v36) 37 v37) 38 v38) 35 v38) 39 v39) 40 v40) 10 v39) 11 v40) 41 v40) 42 v42) w)
theorem F19z_0_eq (N:KE) (E:KE) (ρ:Env) (w:World) : F19zA N E [] ρ w = F19z_0 N E ρ w := by kernel_rfl
def F19z_1 (N:KE) (E:KE) (ρ:Env) (w:World) : Prop :=
 px prog (loadAt 24 (ρ 3)) w fun v51 w =>
 px prog (loadAt 9 (ρ 7)) w fun v52 w =>
 pFn prog 73 [v51,v52] w fun v53 w =>
 px prog (binSem .neq 25 (.tmp 54) (.const (.int .i64 0)) v53 (.int .i64 0)) w fun v55 w =>
 pC v55 (
 px prog (loadAt 9 (ρ 4)) w fun v56 w =>
 pFn prog 67 [(.string (ByteArray.mk #[112,117,116])),v56,v53] w fun v58 w =>
 pu prog (storeAt 31 (ρ 6) v58) w fun w =>
 E (put (put (put (put (put (put (put (put (put ρ 51 v51) 52 v52) 53 v53) 13 v53) 54 v53) 55 v55) 56 v56) 57 v53) 58 v58) w)
 (
 pu prog (storeAt 4 (ρ 8) (.bool true)) w fun w =>
 px prog (loadAt 24 (ρ 3)) w fun v59 w =>
 px prog (loadAt 9 (ρ 7)) w fun v60 w =>
 pFn prog 74 [v59,v60,(ρ 2)] w fun v62 w =>
 px prog (binSem .neq 25 (.tmp 63) (.const (.int .i64 0)) v62 (.int .i64 0)) w fun v64 w =>
 pC v64 (
 px prog (loadAt 9 (ρ 4)) w fun v65 w =>
 pFn prog 67 [(.string (ByteArray.mk #[112,117,116])),v65,v62] w fun v67 w =>
 pu prog (storeAt 31 (ρ 6) v67) w fun w =>
 E (put (put (put (put (put (put (put (put (put (put (put (put (put (put (put (put ρ 51 v51) 52 v52) 53 v53) 13 v53) 54 v53) 55 v55) 59 v59) 60 v60) 61 (ρ 2)) 62 v62) 14 v62) 63 v62) 64 v64) 65 v65) 66 v62) 67 v67) w)
 (
 px prog (loadAt 24 (ρ 3)) w fun v68 w =>
 px prog (loadAt 9 (ρ 7)) w fun v69 w =>
 pFn prog 75 [v68,v69] w fun v70 w =>
 px prog (binSem .neq 25 (.tmp 71) (.const (.int .i64 0)) v70 (.int .i64 0)) w fun v72 w =>
 pC v72 (
 px prog (loadAt 9 (ρ 4)) w fun v73 w =>
 pFn prog 67 [(.string (ByteArray.mk #[112,117,116])),v73,v70] w fun v75 w =>
 pu prog (storeAt 31 (ρ 6) v75) w fun w =>
 E (put (put (put (put (put (put (put (put (put (put (put (put (put (put (put (put (put (put (put (put (put (put ρ 51 v51) 52 v52) 53 v53) 13 v53) 54 v53) 55 v55) 59 v59) 60 v60) 61 (ρ 2)) 62 v62) 14 v62) 63 v62) 64 v64) 68 v68) 69 v69) 70 v70) 15 v70) 71 v70) 72 v72) 73 v73) 74 v70) 75 v75) w)
 (
 px prog (loadAt 24 (ρ 3)) w fun v76 w =>
 px prog (loadAt 9 (ρ 7)) w fun v77 w =>
 px prog (loadAt 9 (ρ 4)) w fun v78 w =>
 pFn prog 76 [v76,v77,v78] w fun v79 w =>
 px prog (binSem .neq 25 (.tmp 80) (.const (.int .i64 0)) v79 (.int .i64 0)) w fun v81 w =>
 pC v81 (
 px prog (loadAt 9 (ρ 4)) w fun v82 w =>
 pFn prog 67 [(.string (ByteArray.mk #[112,117,116])),v82,v79] w fun v84 w =>
 pu prog (storeAt 31 (ρ 6) v84) w fun w =>
 E (put (put (put (put (put (put (put (put (put (put (put (put (put (put (put (put (put (put (put (put (put (put (put (put (put (put (put (put (put ρ 51 v51) 52 v52) 53 v53) 13 v53) 54 v53) 55 v55) 59 v59) 60 v60) 61 (ρ 2)) 62 v62) 14 v62) 63 v62) 64 v64) 68 v68) 69 v69) 70 v70) 15 v70) 71 v70) 72 v72) 76 v76) 77 v77) 78 v78) 79 v79) 16 v79) 80 v79) 81 v81) 82 v82) 83 v79) 84 v84) w)
 (
 px prog (loadAt 24 (ρ 3)) w fun v85 w =>
 pFn prog 71 [v85] w fun v86 w =>
 px prog (binSem .neq 25 (.tmp 87) (.const (.int .i64 0)) v86 (.int .i64 0)) w fun v88 w =>
 pC v88 (
 px prog (loadAt 9 (ρ 4)) w fun v89 w =>
 pFn prog 67 [(.string (ByteArray.mk #[112,117,116])),v89,v86] w fun v91 w =>
 pu prog (storeAt 31 (ρ 6) v91) w fun w =>
 E (put (put (put (put (put (put (put (put (put (put (put (put (put (put (put (put (put (put (put (put (put (put (put (put (put (put (put (put (put (put (put (put (put (put ρ 51 v51) 52 v52) 53 v53) 13 v53) 54 v53) 55 v55) 59 v59) 60 v60) 61 (ρ 2)) 62 v62) 14 v62) 63 v62) 64 v64) 68 v68) 69 v69) 70 v70) 15 v70) 71 v70) 72 v72) 76 v76) 77 v77) 78 v78) 79 v79) 16 v79) 80 v79) 81 v81) 85 v85) 86 v86) 17 v86) 87 v86) 88 v88) 89 v89) 90 v86) 91 v91) w)
 (
 pu prog (storeAt 31 (ρ 6) .nilIface) w fun w =>
 E (put (put (put (put (put (put (put (put (put (put (put (put (put (put (put (put (put (put (put (put (put (put (put (put (put (put (put (put (put (put (put ρ 51 v51) 52 v52) 53 v53) 13 v53) 54 v53) 55 v55) 59 v59) 60 v60) 61 (ρ 2)) 62 v62) 14 v62) 63 v62) 64 v64) 68 v68) 69 v69) 70 v70) 15 v70) 71 v70) 72 v72) 76 v76) 77 v77) 78 v78) 79 v79) 16 v79) 80 v79) 81 v81) 85 v85) 86 v86) 17 v86) 87 v86) 88 v88) w)))))
theorem F19z_1_eq (N:KE) (E:KE) (ρ:Env) (w:World) : F19zA N E [1] ρ w = F19z_1 N E ρ w := by kernel_rfl
theorem F19_t0 : F19C0 = .seq F19X0 F19C1 := by kernel_rfl
theorem F19_t1 : F19C1 = .seq F19X1 F19C2 := by kernel_rfl
theorem F19_t2 : F19C2 = .seq F19X2 F19C3 := by kernel_rfl
theorem F19_t3 : F19C3 = .seq F19X3 F19C4 := by kernel_rfl
theorem F19_t4 : F19C4 = .seq F19X4 F19C5 := by kernel_rfl
noncomputable def F68B : Code := bodyOf f68
def F68A (k:KV) (q:List Nat) (ρ:Env) (w:World) : Prop := At prog 38 F68B (retQ prog f68.results.toList k) q ρ w
def F68_0 (a0:Value) (a1:Value) (a2:Value) (a3:Value) (a4:Value) (a5:Value) (w:World) (k:KV) : Prop :=
 px prog (loadAt 31 a0) w fun v8 w =>
 px prog (Instr.makeInterface 25 (.int .i64 55)) w fun v9 w =>
 pFn prog 69 [v8,v9] w fun v10 w =>
 px prog (Op.unary .not v10) w fun v11 w =>
 pG v11 true (fun k => px prog (loadAt 31 a0) w k) (w := w) (next := fun v13 w =>
 pG v11 true (fun k => px prog (Instr.makeInterface 25 (.int .i64 56)) w k) (w := w) (next := fun v14 w =>
 pG v11 true (fun k => pFn prog 69 [v13,v14] w k) (w := w) (next := fun v15 w =>
 pG v11 true (fun k => px prog (Op.unary .not v15) w k) (w := w) (next := fun v16 w =>
 px prog (pickSem v11 v16 (.bool false)) w fun v17 w =>
 pC v17 (
 k (.tuple #[]) w)
 (
 px prog (loadAt 4 a1) w fun v18 w =>
 pC v18 (
 px prog (loadAt 24 a2) w fun v19 w =>
 px prog (loadAt 9 a3) w fun v20 w =>
 pFn prog 70 [v19,v20] w fun v21 w =>
 px prog (binSem .neq 25 (.tmp 22) (.const (.int .i64 0)) v21 (.int .i64 0)) w fun v23 w =>
 pC v23 (
 px prog (loadAt 9 a4) w fun v24 w =>
 pFn prog 67 [(.string (ByteArray.mk #[112,117,116])),v24,v21] w fun v26 w =>
 pu prog (storeAt 31 a0 v26) w fun w =>
 k (.tuple #[]) w)
 (
 F68A k [1,1] (put (put (put (put (put (put (put (put (put (put (put (put (put (put (put (put (put (argEnv [a0,a1,a2,a3,a4,a5]) 8 v8) 9 v9) 10 v10) 11 v11) 12 v11) 13 v13) 14 v14) 15 v15) 16 v16) 17 v17) 18 v18) 19 v19) 20 v20) 21 v21) 6 v21) 22 v21) 23 v23) w))
 (
 F68A k [1,1] (put (put (put (put (put (put (put (put (put (put (put (argEnv [a0,a1,a2,a3,a4,a5]) 8 v8) 9 v9) 10 v10) 11 v11) 12 v11) 13 v13) 14 v14) 15 v15) 16 v16) 17 v17) 18 v18) w))))))
theorem F68_0_eq (a0:Value) (a1:Value) (a2:Value) (a3:Value) (a4:Value) (a5:Value) (w:World) (k:KV) : F68A k [] (argEnv [a0,a1,a2,a3,a4,a5]) w = F68_0 a0 a1 a2 a3 a4 a5 w k := by kernel_rfl
def F68_1 (k:KV) (ρ:Env) (w:World) : Prop :=
 px prog (loadAt 4 (ρ 1)) w fun v27 w =>
 pG v27 false (fun k => px prog (loadAt 4 (ρ 5)) w k) (w := w) (next := fun v29 w =>
 px prog (pickSem v27 (.bool true) v29) w fun v30 w =>
 pC v30 (
 px prog (loadAt 24 (ρ 2)) w fun v31 w =>
 pFn prog 71 [v31] w fun v32 w =>
 px prog (binSem .neq 25 (.tmp 33) (.const (.int .i64 0)) v32 (.int .i64 0)) w fun v34 w =>
 pC v34 (
 px prog (loadAt 9 (ρ 4)) w fun v35 w =>
 pFn prog 67 [(.string (ByteArray.mk #[112,117,116])),v35,v32] w fun v37 w =>
 pu prog (storeAt 31 (ρ 0) v37) w fun w =>
 k (.tuple #[]) w)
 (
 k (.tuple #[]) w))
 (
 k (.tuple #[]) w))
theorem F68_1_eq (k:KV) (ρ:Env) (w:World) : F68A k [1,1] ρ w = F68_1 k ρ w := by kernel_rfl
end Go.Proofs.YteeeggphkhimcaaGreatDoor

set_option linter.unusedSimpArgs false
namespace Go.Proofs.YteeeggphkhimcaaGreatDoor
open Go Go.Proofs Go.RowKit Go.Proofs.XRed Go.Proofs.XHeap Go.Proofs.XMaps Go.Proofs.XSlices Go.Proofs.XDisk Go.Proofs.XCalls Go.Proofs.XSep Tryz
def ErrA (v:Value) (op name:ByteArray) (e:Int) : Asrt where
 h w O I := ((e = 0 ∧ v = .nilIface ∧ ∀ b,¬ O b) ∨ (e ≠ 0 ∧ ∃ b,v = (EV.fault b (.no e)).val ∧ FaultAt w b op name e ∧ ∀ c,O c ↔ c = b)) ∧ ∀ b,¬ I b
 fr := fun ⟨h1,h2⟩ hf hm => ⟨h1.imp id fun ⟨he,b,hv,hb,ho⟩ => ⟨he,b,hv,hb.fr hf fun h => (hm b h).1 ((ho b).2 rfl),ho⟩,h2⟩
 lt := fun ⟨h1,h2⟩ b hb => by
  rcases hb with hb | hb
  ·rcases h1 with ⟨_,_,h⟩ | ⟨_,c,_,hc,ho⟩
   ·exact absurd hb (h b)
   ·rw [(ho b).1 hb]; exact lt_of_get hc.h
  ·exact absurd hb (h2 b)
 ap := fun ⟨_,h2⟩ b _ => h2 b
def putB : ByteArray := ByteArray.mk #[112,117,116]
section
variable {w:World} {k:KV} {D c:Nat} {S:AD} {l:List Asrt} {name:ByteArray}
theorem Sep.noErr {op:ByteArray} (h:Sep l w) : Sep (ErrA .nilIface op name 0 :: l) w :=
 h.new (M := fun _ => False) (O' := fun _ => False) (I' := fun _ => False) (Fr.refl _ _) (fun _ h => h.elim) ⟨.inl ⟨rfl,rfl,fun _ h => h⟩,fun _ h => h⟩ (fun _ h => h.elim) fun _ h => h.elim
theorem sd_refused {op:ByteArray} {e:Int} (hS:Sep l w) (he:e ≠ 0) (hs:op.size ≤ 1000) (hk:∀ w' v,Sep (ErrA v op name e :: l) w' → k v w') : pFn P 67 [.string op,.string name,i64 e] w k := by
 refine c_refused hs fun w' h f z => hk w' _ ?_
 exact hS.new (M := fun _ => False) (O' := fun b => b = w.heap.size) (I' := fun _ => False) f (fun _ h => h.elim) ⟨.inr ⟨he,_,rfl,h,fun _ => Iff.rfl⟩,fun _ h => h⟩ (fun b hb => by omega) fun _ h => h.elim
theorem sd_remove (hS:Sep l w) (i:Nat) (hi:l[i]? = some (Dk D S)) (ok:S.Ok c) (hs:name.size ≤ 9223372036854775807) (hk:∀ w',Sep (l.set i (Dk D (S.remove name).2)) w' → k (i64 (S.remove name).1) w') : pFn P 70 [ptr D,.string name] w k := by
 obtain ⟨O,I,L,hd,nx⟩ := Sep.disk hS i hi
 exact c_remove hd ok name hs fun w1 O1 I1 L1 hx => hk w1 (nx _ _ _ _ _ hx)
theorem sd_create (hS:Sep l w) (i:Nat) (hi:l[i]? = some (Dk D S)) (ok:S.Ok c) (hs:name.size ≤ 9223372036854775807) (hk:∀ w',Sep (l.set i (Dk D (S.create name).2)) w' → k (i64 (S.create name).1) w') : pFn P 73 [ptr D,.string name] w k := by
 obtain ⟨O,I,L,hd,nx⟩ := Sep.disk hS i hi
 exact c_create hd ok name hs fun w1 O1 I1 L1 hx => hk w1 (nx _ _ _ _ _ hx)
theorem sd_sync (hS:Sep l w) (i:Nat) (hi:l[i]? = some (Dk D S)) (ok:S.Ok c) (hs:name.size ≤ 9223372036854775807) (hk:∀ w',Sep (l.set i (Dk D (S.sync name).2)) w' → k (i64 (S.sync name).1) w') : pFn P 75 [ptr D,.string name] w k := by
 obtain ⟨O,I,L,hd,nx⟩ := Sep.disk hS i hi
 exact c_sync hd ok name hs fun w1 O1 I1 L1 hx => hk w1 (nx _ _ _ _ _ hx)
theorem sd_rename {b:ByteArray} (hS:Sep l w) (i:Nat) (hi:l[i]? = some (Dk D S)) (ok:S.Ok c) (hs:name.size ≤ 9223372036854775807) (hb:b.size ≤ 9223372036854775807) (hk:∀ w',Sep (l.set i (Dk D (S.rename name b).2)) w' → k (i64 (S.rename name b).1) w') : pFn P 76 [ptr D,.string name,.string b] w k := by
 obtain ⟨O,I,L,hd,nx⟩ := Sep.disk hS i hi
 exact c_renameF hd ok name b hs hb fun w1 O1 I1 L1 hx => hk w1 (nx _ _ _ _ _ hx)
theorem sd_syncNames (hS:Sep l w) (i:Nat) (hi:l[i]? = some (Dk D S)) (ok:S.Ok c) (hk:∀ w',Sep (l.set i (Dk D S.syncNames.2)) w' → k (i64 S.syncNames.1) w') : pFn P 71 [ptr D] w k := by
 obtain ⟨O,I,L,hd,nx⟩ := Sep.disk hS i hi
 exact c_syncNames hd ok fun w1 O1 I1 L1 hx => hk w1 (nx _ _ _ _ _ hx)
theorem sd_off (hS:Sep l w) (i:Nat) (hi:l[i]? = some (Dk D S)) (ok:S.Ok c) (hk:k (.bool S.off) w) : pFn P 59 [ptr D] w k := by
 obtain ⟨O,I,L,hd,nx⟩ := Sep.disk hS i hi
 exact c_off hd.disk ok.room.1 hk
theorem sd_size (hS:Sep l w) (i:Nat) (hi:l[i]? = some (Dk D S)) (ok:S.Ok c) (hs:name.size ≤ 9223372036854775807) (hk:k (.tuple #[i64 (AD.sizeOf S name),i64 (S.look name)]) w) : pFn P 72 [ptr D,.string name] w k := by
 obtain ⟨O,I,L,hd,nx⟩ := Sep.disk hS i hi
 exact c_size hd ok name hs hk
def Holds (X:Asrt) (dv:Value) (d:Bytes) : Prop := ∀ w O I,X.h w O I → SBytes w dv d ∧ (0 < d.length → ∀ b,sblk dv = some b → O b ∨ I b)
theorem holds_bytes (dv:Value) (d:Bytes) : Holds (BytesA dv d) dv d := fun w O I h => ⟨h.1,fun h0 b hb => .inr (h.2.1 h0 b hb)⟩
theorem sd_append {X:Asrt} {dv:Value} {d:Bytes} (hX:Holds X dv d) (hS:Sep l w) (i j:Nat) (hij:i ≠ j) (hi:l[i]? = some (Dk D S)) (hj:l[j]? = some X) (ok:S.Ok c) (hs:name.size ≤ 9223372036854775807) (hdl:d.length ≤ 549755813888)
    (hk:∀ w',Sep (l.set i (Dk D (S.append name d).2)) w' → k (i64 (S.append name d).1) w') : pFn P 74 [ptr D,.string name,dv] w k := by
  obtain ⟨O,I,O2,I2,J,⟨L,h1⟩,hx,g1,g2,g3,g4,g5⟩ := hS.at2 i j hij hi hj
  obtain ⟨b1,b2⟩ := hX _ _ _ hx
  exact c_append0 h1 ok name hs b1 (fun h0 b hb ho => (b2 h0 b hb).elim (g1 b ho).1 (g1 b ho).2) hdl fun w1 O1 I1 L1 hx => hk w1 (g5 _ w1 O1 I1 ⟨L1,hx.rep⟩ (hx.nxt g3))
end
section
variable {w:World} {k:KV} {D c:Nat} {S:AD} {l:List Asrt} {name:ByteArray}
theorem errA_one {op:ByteArray} {v:Value} {e:Int} (hS:Sep l w) (i:Nat) (hi:l[i]? = some (ErrA v op name e)) : v.cells = #[v] ∧ v.oneCell' = true := by
 obtain ⟨O,I,h,_⟩ := hS.get i hi
 rcases h with ⟨_,rfl,_⟩ | ⟨_,b,rfl,_⟩
 ·exact ⟨rfl,rfl⟩
 ·exact ⟨rfl,rfl⟩
theorem sd_is {op:ByteArray} {v:Value} {e:Int} (hS:Sep l w) (i:Nat) (hi:l[i]? = some (ErrA v op name e)) (n:Int) (hn:n ≠ 0) (hk:k (.bool (decide (e = n))) w) : pFn P 69 [v,.iface 25 (i64 n)] w k := by
 obtain ⟨O,I,h,_⟩ := hS.get i hi
 rcases h with ⟨rfl,rfl,_⟩ | ⟨_,b,rfl,hb,_⟩
 ·rw [decide_eq_false (Ne.symm hn)] at hk
  exact c_errIsNil (T := .no n) hk
 ·refine c_errIs (E := .fault b (.no e)) (T := .no n) hb.in_ trivial ?_
  have : (EV.fault b (.no e)).has (.no n) = decide (e = n) := by
   simp only [EV.has,EV.links,EV.eqv,List.any_cons,List.any_nil,Bool.or_false,Bool.false_or]
   by_cases h : e = n <;> simp [h]
  rw [this]; exact hk
abbrev PutL (e6 p7 b8 r9 d3 n4 D:Nat) (S:AD) (ev:Value) (name:ByteArray) (bg rm:Bool) (X:Asrt) (l:List Asrt) : List Asrt :=
 Cells e6 #[ev] 31 :: Cells p7 #[.string (plusOf name)] 9 :: Cells b8 #[.bool bg] 4 :: Cells r9 #[.bool rm] 4 :: Cells d3 #[ptr D] 24 :: Cells n4 #[.string name] 9 :: Dk D S :: X :: l
variable {e6 p7 b8 r9 d3 n4:Nat} {bg rm:Bool} {dv ev:Value} {d:Bytes} {e:Int} {X:Asrt}
theorem put_err {e':Int} {a6:Value} {kk:KV} (hS:Sep (ErrA ev putB name e :: PutL e6 p7 b8 r9 d3 n4 D S ev name bg rm X l) w) (he:e' ≠ 0) (h6:a6 = ptr e6)
    (hk:∀ w' v,Sep (ErrA v putB name e' :: PutL e6 p7 b8 r9 d3 n4 D S v name bg rm X l) w' → kk v w') :
    pFn P 67 [.string (ByteArray.mk #[112,117,116]),.string name,i64 e'] w fun v w => pu P (Instr.storeAt 31 a6 v) w (kk v) := by
  subst h6
  refine sd_refused (op := putB) hS he (by decide) fun w1 v h1 => ?_
  obtain ⟨hc,h1'⟩ := errA_one h1 0 rfl
  refine s_st (sizeOf31 _) hc h1' (h1.cells 2 rfl) (by simp) ?_
  have h2 : Sep (ErrA v putB name e' :: ErrA ev putB name e :: PutL e6 p7 b8 r9 d3 n4 D S v name bg rm X l) (w1.setCell ⟨e6,0,none⟩ v) := h1.set 2 rfl 0 v
  exact hk _ v (h2.erase 1 rfl)
def syncE (S:AD) (b:Bool) (e:Int) : Int × AD := if b then (if S.syncNames.1 ≠ 0 then S.syncNames else (e,S.syncNames.2)) else (e,S)
theorem putC_1 {ρ:Env} (hS:Sep (ErrA ev putB name e :: PutL e6 p7 b8 r9 d3 n4 D S ev name bg rm X l) w) (ok:S.Ok c) (e0:ρ 0 = ptr e6) (e1:ρ 1 = ptr b8) (e2:ρ 2 = ptr d3) (e4:ρ 4 = ptr n4) (e5:ρ 5 = ptr r9)
    (hk:∀ w' v,Sep (ErrA v putB name (syncE S (bg || rm) e).1 :: PutL e6 p7 b8 r9 d3 n4 D (syncE S (bg || rm) e).2 v name bg rm X l) w' → k (.tuple #[]) w') : F68_1 k ρ w := by
  unfold F68_1
  rw [e0,e1,e2,e4,e5]
  refine s_ldb (v := .bool bg) (isAgg4 _) (hS.cells 3 rfl) rfl ?_
  have go : bg = true ∨ rm = true → pC (.bool true) (px P (Instr.loadAt 24 (ptr d3)) w fun v31 w => pFn P 71 [v31] w fun v32 w => px P (binSem BinOp.neq 25 (.tmp 33) (.const (i64 0)) v32 (i64 0)) w fun v34 w =>
      pC v34 (px P (Instr.loadAt 9 (ptr n4)) w fun v35 w => pFn P 67 [.string (ByteArray.mk #[112,117,116]),v35,v32] w fun v37 w => pu P (Instr.storeAt 31 (ptr e6) v37) w fun w => k (.tuple #[]) w) (k (.tuple #[]) w)) (k (.tuple #[]) w) := by
    intro hor
    have hb : (bg || rm) = true := by rcases hor with h | h <;> simp [h]
    rw [hb] at hk
    unfold syncE at hk
    simp only [if_true] at hk
    refine pC_true (s_ldb (v := ptr D) (isAgg24 _) (hS.cells 5 rfl) rfl ?_)
    refine sd_syncNames hS 7 rfl ok fun w1 h1 => ?_
    replace h1 : Sep (ErrA ev putB name e :: PutL e6 p7 b8 r9 d3 n4 D S.syncNames.2 ev name bg rm X l) w1 := h1
    by_cases hz : S.syncNames.1 = 0
    · rw [if_neg (by simpa using hz)] at hk
      exact s_nei_f hz (pC_false (hk w1 ev h1))
    · rw [if_pos hz] at hk
      refine s_nei_t hz (pC_true (s_ldb (v := .string name) (isAgg9 _) (h1.cells 6 rfl) rfl ?_))
      exact put_err h1 hz rfl fun w2 v h2 => hk w2 v h2
  cases bg with
  | true => exact pG_skf (s_pick_t (go (.inl rfl)))
  | false =>
    refine pG_yes rfl (s_ldb (v := .bool rm) (isAgg4 _) (hS.cells 4 rfl) rfl (s_pick_f ?_))
    cases rm with
    | true => exact go (.inr rfl)
    | false => exact pC_false (hk w ev hS)
theorem putC_0 {K1:Value → Value → Value → Value → KV} {K2:KV} (hS:Sep (ErrA ev putB name e :: PutL e6 p7 b8 r9 d3 n4 D S ev name bg rm X l) w) (ok:S.Ok c) (hs:name.size ≤ 1000)
    (h0:bg = true → ∀ w' v,(S.remove (plusOf name)).1 ≠ 0 → Sep (ErrA v putB name (S.remove (plusOf name)).1 :: PutL e6 p7 b8 r9 d3 n4 D (S.remove (plusOf name)).2 v name bg rm X l) w' → k (.tuple #[]) w')
    (h1:bg = true → ∀ v18 v19 v20 v21 v23 w',(S.remove (plusOf name)).1 = 0 → Sep (ErrA ev putB name e :: PutL e6 p7 b8 r9 d3 n4 D (S.remove (plusOf name)).2 ev name bg rm X l) w' → K1 v18 v19 v20 v21 v23 w')
    (h2:bg = false → ∀ v18,K2 v18 w) :
    px P (Instr.loadAt 4 (ptr b8)) w fun v18 w => pC v18
      (px P (Instr.loadAt 24 (ptr d3)) w fun v19 w => px P (Instr.loadAt 9 (ptr p7)) w fun v20 w => pFn P 70 [v19,v20] w fun v21 w => px P (binSem BinOp.neq 25 (.tmp 22) (.const (i64 0)) v21 (i64 0)) w fun v23 w =>
        pC v23 (px P (Instr.loadAt 9 (ptr n4)) w fun v24 w => pFn P 67 [.string (ByteArray.mk #[112,117,116]),v24,v21] w fun v26 w => pu P (Instr.storeAt 31 (ptr e6) v26) w fun w => k (.tuple #[]) w)
          (K1 v18 v19 v20 v21 v23 w)) (K2 v18 w) := by
  have hps : (plusOf name).size ≤ 9223372036854775807 := by rw [plusOf_size]; omega
  refine s_ldb (v := .bool bg) (isAgg4 _) (hS.cells 3 rfl) rfl ?_
  cases bg with
  | false => exact pC_false (h2 rfl _)
  | true =>
    refine pC_true (s_ldb (v := ptr D) (isAgg24 _) (hS.cells 5 rfl) rfl (s_ldb (v := .string (plusOf name)) (isAgg9 _) (hS.cells 2 rfl) rfl ?_))
    refine sd_remove hS 7 rfl ok hps fun w1 g1 => ?_
    replace g1 : Sep (ErrA ev putB name e :: PutL e6 p7 b8 r9 d3 n4 D (S.remove (plusOf name)).2 ev name true rm X l) w1 := g1
    by_cases hz : (S.remove (plusOf name)).1 = 0
    · exact s_nei_f hz (pC_false (h1 rfl _ _ _ _ _ w1 hz g1))
    · refine s_nei_t hz (pC_true (s_ldb (v := .string name) (isAgg9 _) (g1.cells 6 rfl) rfl ?_))
      exact put_err g1 hz rfl fun w2 v g2 => h0 rfl w2 v hz g2
theorem undo_no {T:AD} {plus:ByteArray} {b r:Bool} {e:Int} (h:e ≠ 55 ∧ e ≠ 56) : T.undo plus b r e = (e,T) := by unfold AD.undo; rw [if_pos h]
theorem undo_t {T:AD} {plus:ByteArray} {r:Bool} {e:Int} (h:e = 55 ∨ e = 56) (hz:(T.remove plus).1 ≠ 0) : T.undo plus true r e = T.remove plus := by unfold AD.undo; rw [if_neg (by omega),if_pos rfl,if_pos hz]
theorem undo_s {T:AD} {plus:ByteArray} {r:Bool} {e:Int} (h:e = 55 ∨ e = 56) (hz:(T.remove plus).1 = 0) : T.undo plus true r e = syncE (T.remove plus).2 (true || r) e := by
 unfold AD.undo syncE; rw [if_neg (by omega),if_pos rfl,if_neg (by simpa using hz)]; rfl
theorem undo_f {T:AD} {plus:ByteArray} {r:Bool} {e:Int} (h:e = 55 ∨ e = 56) : T.undo plus false r e = syncE T (false || r) e := by
 unfold AD.undo syncE; rw [if_neg (by omega)]; simp
theorem c_putC (hS:Sep (ErrA ev putB name e :: PutL e6 p7 b8 r9 d3 n4 D S ev name bg rm X l) w) (ok:S.Ok c) (hc:c < 1099511627776) (hs:name.size ≤ 1000)
    (hk:∀ w' v,Sep (ErrA v putB name (S.undo (plusOf name) bg rm e).1 :: PutL e6 p7 b8 r9 d3 n4 D (S.undo (plusOf name) bg rm e).2 v name bg rm X l) w' → k (.tuple #[]) w') : F68_0 (ptr e6) (ptr b8) (ptr d3) (ptr p7) (ptr n4) (ptr r9) w k := by
  unfold F68_0
  refine s_ldb (v := ev) (isAgg31 _) (hS.cells 1 rfl) rfl (s_mki (by kernel_rfl) (sd_is hS 0 rfl 55 (by decide) (s_not ?_)))
  have g0 : ∀ (he:e = 55 ∨ e = 56),bg = true → ∀ w' v,(S.remove (plusOf name)).1 ≠ 0 → Sep (ErrA v putB name (S.remove (plusOf name)).1 :: PutL e6 p7 b8 r9 d3 n4 D (S.remove (plusOf name)).2 v name bg rm X l) w' → k (.tuple #[]) w' := by
    intro he hb w' v hz h
    subst hb
    rw [undo_t he hz] at hk
    exact hk w' v h
  have g1 : ∀ (he:e = 55 ∨ e = 56) (ρ:Env) w',bg = true → (S.remove (plusOf name)).1 = 0 → (ρ 0 = ptr e6 ∧ ρ 1 = ptr b8 ∧ ρ 2 = ptr d3 ∧ ρ 4 = ptr n4 ∧ ρ 5 = ptr r9) → Sep (ErrA ev putB name e :: PutL e6 p7 b8 r9 d3 n4 D (S.remove (plusOf name)).2 ev name bg rm X l) w' → F68A k [1,1] ρ w' := by
    intro he ρ w' hb hz ⟨e0,e1,e2,e4,e5⟩ h
    subst hb
    rw [undo_s he hz] at hk
    rw [F68_1_eq]
    exact putC_1 h (ok.remove hc (plusOf name)) e0 e1 e2 e4 e5 hk
  have g2 : ∀ (he:e = 55 ∨ e = 56) (ρ:Env),bg = false → (ρ 0 = ptr e6 ∧ ρ 1 = ptr b8 ∧ ρ 2 = ptr d3 ∧ ρ 4 = ptr n4 ∧ ρ 5 = ptr r9) → F68A k [1,1] ρ w := by
    intro he ρ hb ⟨e0,e1,e2,e4,e5⟩
    subst hb
    rw [undo_f he] at hk
    rw [F68_1_eq]
    exact putC_1 hS ok e0 e1 e2 e4 e5 hk
  by_cases h55 : e = 55
  · rw [decide_eq_true h55]
    refine pG_sk (pG_sk (pG_sk (pG_sk (s_pick_f (pC_false ?_)))))
    exact putC_0 hS ok hs (g0 (.inl h55)) (fun hb v18 v19 v20 v21 v23 w' hz h => g1 (.inl h55) _ w' hb hz ⟨rfl,rfl,rfl,rfl,rfl⟩ h) fun hb v18 => g2 (.inl h55) _ hb ⟨rfl,rfl,rfl,rfl,rfl⟩
  · rw [decide_eq_false h55]
    refine pG_yes rfl (s_ldb (v := ev) (isAgg31 _) (hS.cells 1 rfl) rfl (pG_yes rfl (s_mki (by kernel_rfl) (pG_yes rfl (sd_is hS 0 rfl 56 (by decide) (pG_yes rfl (s_not ?_)))))))
    refine s_pick_t ?_
    by_cases h56 : e = 56
    · rw [decide_eq_true h56]
      refine pC_false ?_
      exact putC_0 hS ok hs (g0 (.inr h56)) (fun hb v18 v19 v20 v21 v23 w' hz h => g1 (.inr h56) _ w' hb hz ⟨rfl,rfl,rfl,rfl,rfl⟩ h) fun hb v18 => g2 (.inr h56) _ hb ⟨rfl,rfl,rfl,rfl,rfl⟩
    · rw [decide_eq_false h56]
      refine pC_true ?_
      rw [undo_no ⟨h55,h56⟩] at hk
      exact hk w ev hS
end
section
variable {w:World} {k:KV} {D c:Nat} {S:AD} {l:List Asrt} {name:ByteArray}
variable {e6 p7 b8 r9 d3 n4:Nat} {bg rm:Bool} {dv ev:Value} {d:Bytes} {e:Int} {X:Asrt}
def put1 (rm:Bool) (name:ByteArray) (d:Bytes) (S1:AD) : Int × AD :=
 andE (S1.create (plusOf name)) (fun T e => T.undo (plusOf name) false rm e) fun S2 =>
 andE (S2.append (plusOf name) d) (fun T e => T.undo (plusOf name) true rm e) fun S3 =>
 andE (S3.sync (plusOf name)) (fun T e => T.undo (plusOf name) true rm e) fun S4 =>
 andE (S4.rename (plusOf name) name) (fun T e => T.undo (plusOf name) true rm e) fun S5 =>
 andE S5.syncNames (fun T e => T.undo (plusOf name) true rm e) fun S6 => (0,S6)
theorem putF_put1 {S:AD} (hl:lays name = true) (ho:S.off = false) : S.putF name d =
    andE (if S.has (plusOf name) then S.remove (plusOf name) else (0,S)) (fun T e => T.undo (plusOf name) false false e) (put1 (S.has (plusOf name)) name d) := by
  unfold AD.putF; rw [hl,ho]; rfl
theorem andE_t {r:Int × AD} {u:AD → Int → Int × AD} {n:AD → Int × AD} (h:r.1 ≠ 0) : andE r u n = u r.2 r.1 := by unfold andE; rw [if_pos h]
theorem andE_f {r:Int × AD} {u:AD → Int → Int × AD} {n:AD → Int × AD} (h:r.1 = 0) : andE r u n = n r.2 := by unfold andE; rw [if_neg (by simpa using h)]
def dfr (e6 b8 d3 p7 n4 r9:Nat) : Deferred := { target := .fn (.func 68) #[ptr e6,ptr b8,ptr d3,ptr p7,ptr n4,ptr r9],args := #[] }
theorem f_results : f19.results = #[.cell 6 31] := by kernel_rfl
theorem put_end {ρ:Env} (hS:Sep (ErrA ev putB name e :: PutL e6 p7 b8 r9 d3 n4 D S ev name bg rm X l) w) (ok:S.Ok c) (hc:c < 1099511627776) (hs:name.size ≤ 1000) (h6:ρ 6 = ptr e6)
    (hk:∀ w' v,Sep (ErrA v putB name (S.undo (plusOf name) bg rm e).1 :: Dk D (S.undo (plusOf name) bg rm e).2 :: X :: l) w' → k v w') : pEnd P f19 k [dfr e6 b8 d3 p7 n4 r9] ρ w := by
  refine ⟨_,_,68,[ptr e6,ptr b8,ptr d3,ptr p7,ptr n4,ptr r9].toArray,rfl,by kernel_rfl,?_⟩
  refine CallsD.mono (callsD_of_at (k := fun _ w' => pEnd P f19 k [] ρ w') mixed func68 (by kernel_rfl) ntmps68 (by kernel_rfl) (by kernel_rfl) (by simp) ((F68_0_eq _ _ _ _ _ _ w _).mpr ?_)) fun e u' w' h => h
  refine c_putC hS ok hc hs fun w1 v h1 => ?_
  obtain ⟨hv1,-⟩ := errA_one h1 0 rfl
  refine endV_cell f_results h6 (v := v) ?_ (hk w1 v ?_)
  · have hcell : w1.cell? ⟨e6,0,none⟩ = some v := cell_blk (h1.cells 1 rfl) rfl
    simp [loadVar,isAgg31,hcell,Result.andThen]
  · exact sep_mv [1,2,3,4,5,6] 6 h1 rfl
theorem put_z1 {ρ:Env} (hX:Holds X dv d) (hS:Sep (ErrA .nilIface putB name 0 :: PutL e6 p7 b8 r9 d3 n4 D S .nilIface name false rm X l) w) (ok:S.Ok c) (hc:c + 10 ≤ 1099511627776) (hs:name.size ≤ 1000) (hdl:d.length ≤ 549755813888)
    (h2:ρ 2 = dv) (h3:ρ 3 = ptr d3) (h4:ρ 4 = ptr n4) (h6:ρ 6 = ptr e6) (h7:ρ 7 = ptr p7) (h8:ρ 8 = ptr b8)
    (hk:∀ w' v,Sep (ErrA v putB name (put1 rm name d S).1 :: Dk D (put1 rm name d S).2 :: X :: l) w' → k v w') : F19z_1 (pEnd P f19 k [dfr e6 b8 d3 p7 n4 r9]) (pEnd P f19 k [dfr e6 b8 d3 p7 n4 r9]) ρ w := by
  unfold F19z_1
  rw [h2,h3,h4,h6,h7,h8]
  have hps : (plusOf name).size ≤ 9223372036854775807 := by rw [plusOf_size]; omega
  have hns : name.size ≤ 9223372036854775807 := by omega
  have hR : put1 rm name d S = put1 rm name d S := rfl
  conv at hR => rhs; unfold put1
  have ld3 : ∀ {T:AD} {b:Bool} {w:World} {kk:KV},Sep (ErrA .nilIface putB name 0 :: PutL e6 p7 b8 r9 d3 n4 D T .nilIface name b rm X l) w → kk (ptr D) w → px P (Instr.loadAt 24 (ptr d3)) w kk := fun g h => s_ldb (v := ptr D) (isAgg24 _) (g.cells 5 rfl) rfl h
  have ld7 : ∀ {T:AD} {b:Bool} {w:World} {kk:KV},Sep (ErrA .nilIface putB name 0 :: PutL e6 p7 b8 r9 d3 n4 D T .nilIface name b rm X l) w → kk (.string (plusOf name)) w → px P (Instr.loadAt 9 (ptr p7)) w kk := fun g h => s_ldb (v := .string (plusOf name)) (isAgg9 _) (g.cells 2 rfl) rfl h
  have ld4 : ∀ {T:AD} {b:Bool} {w:World} {kk:KV},Sep (ErrA .nilIface putB name 0 :: PutL e6 p7 b8 r9 d3 n4 D T .nilIface name b rm X l) w → kk (.string name) w → px P (Instr.loadAt 9 (ptr n4)) w kk := fun g h => s_ldb (v := .string name) (isAgg9 _) (g.cells 6 rfl) rfl h
  refine ld3 hS (ld7 hS (sd_create hS 7 rfl ok hps fun w0 g0 => ?_))
  replace g0 : Sep (ErrA .nilIface putB name 0 :: PutL e6 p7 b8 r9 d3 n4 D (S.create (plusOf name)).2 .nilIface name false rm X l) w0 := g0
  have ok0 := ok.create (by omega) (plusOf name)
  generalize hr0 : (S.create (plusOf name)) = r0 at *
  obtain ⟨x0,S0⟩ := r0
  dsimp only at g0 ok0 ⊢
  by_cases hz0 : x0 = 0
  case neg =>
    rw [andE_t (by exact hz0)] at hR
    refine s_nei_t hz0 (pC_true (ld4 g0 ?_))
    exact put_err g0 hz0 rfl fun w' v g => put_end g ok0 (by omega) hs h6 (by rw [hR] at hk; exact hk)
  rw [andE_f (by exact hz0)] at hR
  refine s_nei_f hz0 (pC_false ?_)
  refine s_st (sizeOf4 _) rfl rfl (g0.cells 3 rfl) (by simp) ?_
  have gb : Sep (ErrA .nilIface putB name 0 :: PutL e6 p7 b8 r9 d3 n4 D S0 .nilIface name true rm X l) (w0.setCell ⟨b8,0,none⟩ (.bool true)) := g0.set 3 rfl 0 (.bool true)
  generalize w0.setCell ⟨b8,0,none⟩ (.bool true) = wb at *
  refine ld3 gb (ld7 gb (sd_append hX gb 7 8 (by decide) rfl rfl ok0 hps hdl fun w1 g1 => ?_))
  replace g1 : Sep (ErrA .nilIface putB name 0 :: PutL e6 p7 b8 r9 d3 n4 D (S0.append (plusOf name) d).2 .nilIface name true rm X l) w1 := g1
  have ok1 := ok0.append (by omega) (plusOf name) d
  generalize hr1 : (S0.append (plusOf name) d) = r1 at *
  obtain ⟨x1,S1⟩ := r1
  dsimp only at g1 ok1 ⊢
  by_cases hz1 : x1 = 0
  case neg =>
    rw [andE_t (by exact hz1)] at hR
    refine s_nei_t hz1 (pC_true (ld4 g1 ?_))
    exact put_err g1 hz1 rfl fun w' v g => put_end g ok1 (by omega) hs h6 (by rw [hR] at hk; exact hk)
  rw [andE_f (by exact hz1)] at hR
  refine s_nei_f hz1 (pC_false ?_)
  refine ld3 g1 (ld7 g1 (sd_sync g1 7 rfl ok1 hps fun w2 g2 => ?_))
  replace g2 : Sep (ErrA .nilIface putB name 0 :: PutL e6 p7 b8 r9 d3 n4 D (S1.sync (plusOf name)).2 .nilIface name true rm X l) w2 := g2
  have ok2 := ok1.sync (by omega) (plusOf name)
  generalize hr2 : (S1.sync (plusOf name)) = r2 at *
  obtain ⟨x2,S2⟩ := r2
  dsimp only at g2 ok2 ⊢
  by_cases hz2 : x2 = 0
  case neg =>
    rw [andE_t (by exact hz2)] at hR
    refine s_nei_t hz2 (pC_true (ld4 g2 ?_))
    exact put_err g2 hz2 rfl fun w' v g => put_end g ok2 (by omega) hs h6 (by rw [hR] at hk; exact hk)
  rw [andE_f (by exact hz2)] at hR
  refine s_nei_f hz2 (pC_false ?_)
  refine ld3 g2 (ld7 g2 (ld4 g2 (sd_rename g2 7 rfl ok2 hps hns fun w3 g3 => ?_)))
  replace g3 : Sep (ErrA .nilIface putB name 0 :: PutL e6 p7 b8 r9 d3 n4 D (S2.rename (plusOf name) name).2 .nilIface name true rm X l) w3 := g3
  have ok3 := ok2.rename (by omega) (plusOf name) name
  generalize hr3 : (S2.rename (plusOf name) name) = r3 at *
  obtain ⟨x3,S3⟩ := r3
  dsimp only at g3 ok3 ⊢
  by_cases hz3 : x3 = 0
  case neg =>
    rw [andE_t (by exact hz3)] at hR
    refine s_nei_t hz3 (pC_true (ld4 g3 ?_))
    exact put_err g3 hz3 rfl fun w' v g => put_end g ok3 (by omega) hs h6 (by rw [hR] at hk; exact hk)
  rw [andE_f (by exact hz3)] at hR
  refine s_nei_f hz3 (pC_false ?_)
  refine ld3 g3 (sd_syncNames g3 7 rfl ok3 fun w4 g4 => ?_)
  replace g4 : Sep (ErrA .nilIface putB name 0 :: PutL e6 p7 b8 r9 d3 n4 D S3.syncNames.2 .nilIface name true rm X l) w4 := g4
  have ok4 := ok3.syncNames (by omega)
  generalize hr4 : S3.syncNames = r4 at *
  obtain ⟨x4,S4⟩ := r4
  dsimp only at g4 ok4 ⊢
  by_cases hz4 : x4 = 0
  case neg =>
    rw [andE_t (by exact hz4)] at hR
    refine s_nei_t hz4 (pC_true (ld4 g4 ?_))
    exact put_err g4 hz4 rfl fun w' v g => put_end g ok4 (by omega) hs h6 (by rw [hR] at hk; exact hk)
  rw [andE_f (by exact hz4)] at hR
  refine s_nei_f hz4 (pC_false ?_)
  refine s_st (sizeOf31 _) rfl rfl (g4.cells 1 rfl) (by simp) ?_
  have ge : Sep (ErrA .nilIface putB name 0 :: PutL e6 p7 b8 r9 d3 n4 D S4 .nilIface name true rm X l) (w4.setCell ⟨e6,0,none⟩ .nilIface) := g4.set 1 rfl 0 .nilIface
  exact put_end ge ok4 (by omega) hs h6 (by rw [hR] at hk; rw [undo_no (by decide)]; exact hk)
end
section
variable {w:World} {k:KV} {D c:Nat} {S:AD} {l:List Asrt} {name:ByteArray}
variable {e6 p7 b8 r9 d3 n4:Nat} {bg rm:Bool} {dv ev:Value} {d:Bytes} {e:Int} {X:Asrt}
theorem put_z0 {ρ:Env} (hX:Holds X dv d) (hS:Sep (ErrA .nilIface putB name 0 :: PutL e6 p7 b8 r9 d3 n4 D S .nilIface name false false X l) w) (ok:S.Ok c) (hc:c + 11 ≤ 1099511627776) (hl:lays name = true) (ho:S.off = false) (hdl:d.length ≤ 549755813888)
    (h2:ρ 2 = dv) (h3:ρ 3 = ptr d3) (h4:ρ 4 = ptr n4) (h6:ρ 6 = ptr e6) (h7:ρ 7 = ptr p7) (h8:ρ 8 = ptr b8) (h9:ρ 9 = ptr r9)
    (hk:∀ w' v,Sep (ErrA v putB name (S.putF name d).1 :: Dk D (S.putF name d).2 :: X :: l) w' → k v w') : F19z_0 (pEnd P f19 k [dfr e6 b8 d3 p7 n4 r9]) (pEnd P f19 k [dfr e6 b8 d3 p7 n4 r9]) ρ w := by
  unfold F19z_0
  rw [h3,h4,h6,h7,h9]
  have hs : name.size ≤ 1000 := by have := isName_small (lays_name hl).1; omega
  have hps : (plusOf name).size ≤ 9223372036854775807 := by rw [plusOf_size]; omega
  rw [putF_put1 hl ho] at hk
  refine s_ldb (v := ptr D) (isAgg24 _) (hS.cells 5 rfl) rfl (s_ldb (v := .string (plusOf name)) (isAgg9 _) (hS.cells 2 rfl) rfl ?_)
  refine sd_size hS 7 rfl ok hps (s_ext rfl (s_ext rfl ?_))
  by_cases hh : S.look (plusOf name) = 0
  · have hhas : S.has (plusOf name) = true := decide_eq_true hh
    rw [hhas] at hk
    simp only [if_true] at hk
    refine s_eqi_t hh (pC_true (s_ldb (v := ptr D) (isAgg24 _) (hS.cells 5 rfl) rfl (s_ldb (v := .string (plusOf name)) (isAgg9 _) (hS.cells 2 rfl) rfl ?_)))
    refine sd_remove hS 7 rfl ok hps fun w1 g1 => ?_
    replace g1 : Sep (ErrA .nilIface putB name 0 :: PutL e6 p7 b8 r9 d3 n4 D (S.remove (plusOf name)).2 .nilIface name false false X l) w1 := g1
    have ok1 := ok.remove (by omega) (plusOf name)
    generalize S.remove (plusOf name) = r at *
    obtain ⟨x,S1⟩ := r
    dsimp only at g1 ok1 hk ⊢
    by_cases hz : x = 0
    · rw [andE_f (by exact hz)] at hk
      refine s_nei_f hz (pC_false ?_)
      refine s_st (sizeOf4 _) rfl rfl (g1.cells 4 rfl) (by simp) ?_
      have g2 : Sep (ErrA .nilIface putB name 0 :: PutL e6 p7 b8 r9 d3 n4 D S1 .nilIface name false true X l) (w1.setCell ⟨r9,0,none⟩ (.bool true)) := g1.set 4 rfl 0 (.bool true)
      rw [F19z_1_eq]
      exact put_z1 hX g2 ok1 (by omega) hs hdl h2 h3 h4 h6 h7 h8 hk
    · rw [andE_t (by exact hz)] at hk
      refine s_nei_t hz (pC_true (s_ldb (v := .string name) (isAgg9 _) (g1.cells 6 rfl) rfl ?_))
      exact put_err g1 hz rfl fun w' v g => put_end g ok1 (by omega) hs h6 hk
  · have hhas : S.has (plusOf name) = false := decide_eq_false hh
    rw [hhas] at hk
    simp only [Bool.false_eq_true,if_false] at hk
    rw [andE_f rfl] at hk
    refine s_eqi_f hh (pC_false ?_)
    rw [F19z_1_eq]
    exact put_z1 hX hS ok (by omega) hs hdl h2 h3 h4 h6 h7 h8 hk
theorem lays_named (s:ByteArray) (h:namedA s 111 = true) : 0 < s.size ∧ lays s = !decide (s.data.toList.head? = some 43) := by
 unfold namedA at h
 simp only [Bool.and_eq_true,decide_eq_true_eq] at h
 refine ⟨by omega,?_⟩
 unfold lays
 rw [h.1.1,decide_eq_true h.1.2,decide_eq_true (show s.size ≤ 111 by omega)]
 simp
theorem lays_not (s:ByteArray) (h:namedA s 111 = false) : lays s = false := by
 unfold namedA at h; unfold lays
 have e : decide ((s.size : Int) ≤ 111) = decide (s.size ≤ 111) := decide_eq_decide.2 ⟨fun h => by omega,fun h => by omega⟩
 rw [e] at h
 rw [h]; rfl
theorem head_at (s:ByteArray) (h:0 < s.size) : (s.data.toList.head? = some 43) ↔ ((s[0]'h).toNat : Int) = 43 := by
 have hl : 0 < s.data.toList.length := by simpa using h
 rw [List.head?_eq_getElem?,List.getElem?_eq_getElem hl]
 have e : s.data.toList[0] = s[0] := rfl
 rw [e]
 constructor
 ·intro h; injection h with h; rw [h]; rfl
 ·intro h'; congr 1; apply UInt8.toNat_inj.1
  have : (43 : UInt8).toNat = 43 := rfl
  omega
theorem put_out {ρ:Env} {v:Value} {L:List Asrt} (hS:Sep L w) (i:Nat) (hi:L[i]? = some (Cells e6 #[v] 31)) (h6:ρ 6 = ptr e6) (hk:k v w) : pEnd P f19 k [] ρ w := by
 refine endV_cell f_results h6 (v := v) ?_ hk
 have hcell : w.cell? ⟨e6,0,none⟩ = some v := cell_blk (hS.cells i hi) rfl
 simp [loadVar,isAgg31,hcell,Result.andThen]
theorem c_fPut (hX:Holds X dv d) (hS:Sep (Dk D S :: X :: l) w) (ok:S.Ok c) (hc:c + 11 ≤ 1099511627776) (hs:name.size ≤ 9223372036854775807) (hdl:d.length ≤ 549755813888)
    (hk:∀ w' v,Sep (ErrA v putB name (S.putF name d).1 :: Dk D (S.putF name d).2 :: X :: l) w' → k v w') : pFn P 19 [ptr D,.string name,dv] w k := by
  refine pFn_of_pDr (c := F19C0) func19 (by kernel_rfl) (by kernel_rfl) (by rw [ntmps19]; simp) ?_
  refine pDr_seqA mixed ntmps19 F19_t0 (by kernel_rfl) ((F19p0_0_eq _ _ _ _).mpr ?_)
  unfold F19p0_0
  refine s_box ?_
  have h1 : Sep (Cells w.heap.size #[ptr D] 24 :: Dk D S :: X :: l) (w.alloc (.cells #[ptr D] 24)) := hS.cell _ _
  show px P (Instr.box 9 (.string name)) (w.alloc (.cells #[ptr D] 24)) _
  generalize w.alloc (.cells #[ptr D] 24) = w1 at *
  generalize w.heap.size = d3 at *
  refine s_box ?_
  have h2 : Sep (Cells w1.heap.size #[.string name] 9 :: Cells d3 #[ptr D] 24 :: Dk D S :: X :: l) (w1.alloc (.cells #[.string name] 9)) := h1.cell _ _
  show px P (Instr.alloc 31 true (.tuple #[])) (w1.alloc (.cells #[.string name] 9)) _
  generalize w1.alloc (.cells #[.string name] 9) = w2 at *
  generalize w1.heap.size = n4 at *
  refine s_alloc (zeroValue31 _) ?_
  have h3 : Sep (Cells w2.heap.size #[.nilIface] 31 :: Cells n4 #[.string name] 9 :: Cells d3 #[ptr D] 24 :: Dk D S :: X :: l) (w2.alloc (.cells #[.nilIface] 31)) := h2.cell _ _
  show pDr _ _ _ _ _ _ (w2.alloc (.cells #[.nilIface] 31))
  generalize w2.alloc (.cells #[.nilIface] 31) = w3 at *
  generalize w2.heap.size = e6 at *
  have ρ3 : ∀ {A B:Value},(put (put (put (argEnv [ptr D,.string name,dv]) 3 (.pointer (some ⟨d3,0,none⟩))) 4 (.pointer (some ⟨n4,0,none⟩))) 6 (.pointer (some ⟨e6,0,none⟩))) 2 = dv := rfl
  generalize hρ : (put (put (put (argEnv [ptr D,.string name,dv]) 3 (.pointer (some ⟨d3,0,none⟩))) 4 (.pointer (some ⟨n4,0,none⟩))) 6 (.pointer (some ⟨e6,0,none⟩))) = ρ
  have r2 : ρ 2 = dv := by rw [← hρ]; rfl
  have r3 : ρ 3 = ptr d3 := by rw [← hρ]; rfl
  have r4 : ρ 4 = ptr n4 := by rw [← hρ]; rfl
  have r6 : ρ 6 = ptr e6 := by rw [← hρ]; rfl
  clear hρ ρ3 h1 h2 hS
  -- the error of an early end
  have early : ∀ {e':Int} {kk:KV} (he:e' ≠ 0),(∀ v w',Sep (ErrA v putB name e' :: Cells e6 #[v] 31 :: Dk D S :: X :: l) w' → kk v w') →
      pFn P 67 [.string (ByteArray.mk #[112,117,116]),.string name,i64 e'] w3 fun v w => pu P (Instr.storeAt 31 (ptr e6) v) w (kk v) := by
    intro e' kk he hkk
    refine sd_refused (op := putB) h3 he (by decide) fun w4 v h4 => ?_
    obtain ⟨hv1,hv2⟩ := errA_one h4 0 rfl
    refine s_st (sizeOf31 _) hv1 hv2 (h4.cells 1 rfl) (by simp) ?_
    have h5 : Sep (ErrA v putB name e' :: Cells e6 #[v] 31 :: Cells n4 #[.string name] 9 :: Cells d3 #[ptr D] 24 :: Dk D S :: X :: l) (w4.setCell ⟨e6,0,none⟩ v) := h4.set 1 rfl 0 v
    exact hkk v _ (sep_mv [3,3] 2 h5 rfl)
  refine pDr_seqA mixed ntmps19 F19_t1 (by kernel_rfl) ((F19p1_0_eq _ _ _ _).mpr ?_)
  unfold F19p1_0
  rw [r4,r6]
  have ld4 : ∀ {kk:KV},kk (.string name) w3 → px P (Instr.loadAt 9 (ptr n4)) w3 kk := fun h => s_ldb (v := .string name) (isAgg9 _) (h3.cells 1 rfl) rfl h
  have bad51 : lays name = false → ∀ v w',Sep (ErrA v putB name 51 :: Cells e6 #[v] 31 :: Dk D S :: X :: l) w' → k v w' := by
    intro hl v w' g
    have : S.putF name d = (51,S) := by unfold AD.putF; rw [hl]; rfl
    rw [this] at hk
    exact hk w' v (sep_mv [1] 1 g rfl)
  refine ld4 (c_named name 111 hs (s_not ?_))
  cases hn : namedA name 111 with
  | false =>
    refine pG_skf (pG_skf (pG_skf (s_pick_t (pC_true (ld4 ?_)))))
    exact early (by decide) fun v w' g => put_out g 1 rfl r6 (bad51 (lays_not name hn) v w' g)
  | true =>
  obtain ⟨hpos,hlay⟩ := lays_named name hn
  refine pG_yes rfl (ld4 (pG_yes rfl (s_ixs (by kernel_rfl) hpos (pG_yes rfl (s_eqi (s_pick_f ?_))))))
  have hd := head_at name hpos
  by_cases h43 : ((name[0]'hpos).toNat : Int) = 43
  · rw [decide_eq_true (hd.2 h43)] at hlay
    rw [show (((name[0]'hpos).toNat : Int) == 43) = true by simpa using h43]
    refine pC_true (ld4 ?_)
    exact early (by decide) fun v w' g => put_out g 1 rfl r6 (bad51 (by simpa using hlay) v w' g)
  rw [decide_eq_false (fun h => h43 (hd.1 h))] at hlay
  have hl : lays name = true := by simpa using hlay
  rw [show (((name[0]'hpos).toNat : Int) == 43) = false by simpa using h43]
  refine pC_false ?_
  have sz : name.size ≤ 1000 := by have := isName_small (lays_name hl).1; omega
  clear hlay bad51 hd h43 hn
  generalize hρ : put (put (put (put (put (put (put (put ρ 18 _) 19 _) 20 _) 21 _) 22 _) 23 _) 24 _) 25 _ = ρ1
  have r2 : ρ1 2 = dv := by rw [← hρ]; exact r2
  have r3 : ρ1 3 = ptr d3 := by rw [← hρ]; exact r3
  have r4 : ρ1 4 = ptr n4 := by rw [← hρ]; exact r4
  have r6 : ρ1 6 = ptr e6 := by rw [← hρ]; exact r6
  clear hρ
  refine pDr_seqA mixed ntmps19 F19_t2 (by kernel_rfl) ((F19p2_0_eq _ _ _ _).mpr ?_)
  unfold F19p2_0
  rw [r3,r4,r6]
  refine s_ldb (v := ptr D) (isAgg24 _) (h3.cells 2 rfl) rfl (sd_off h3 3 rfl ok ?_)
  cases ho : S.off with
  | true =>
    refine pC_true (ld4 ?_)
    refine early (by decide) fun v w' g => put_out g 1 rfl r6 ?_
    have : S.putF name d = (50,S) := by unfold AD.putF; rw [hl,ho]; rfl
    rw [this] at hk
    exact hk w' v (sep_mv [1] 1 g rfl)
  | false =>
  refine pC_false ?_
  clear early
  generalize hρ : put (put ρ1 28 _) 29 _ = ρ2
  have r2 : ρ2 2 = dv := by rw [← hρ]; exact r2
  have r3 : ρ2 3 = ptr d3 := by rw [← hρ]; exact r3
  have r4 : ρ2 4 = ptr n4 := by rw [← hρ]; exact r4
  have r6 : ρ2 6 = ptr e6 := by rw [← hρ]; exact r6
  clear hρ
  refine pDr_seqA mixed ntmps19 F19_t3 (by kernel_rfl) ((F19p3_0_eq _ _ _ _).mpr ?_)
  unfold F19p3_0
  rw [r4]
  refine ld4 (s_addS (by show 1 + _ ≤ _; omega) (s_alloc (zeroValue9 _) ?_))
  have h4 : Sep (Cells w3.heap.size #[.string (ByteArray.mk #[])] 9 :: Cells e6 #[.nilIface] 31 :: Cells n4 #[.string name] 9 :: Cells d3 #[ptr D] 24 :: Dk D S :: X :: l) (w3.alloc (.cells #[.string (ByteArray.mk #[])] 9)) := h3.cell _ _
  show pu P _ (w3.alloc (.cells #[.string (ByteArray.mk #[])] 9)) _
  generalize w3.alloc (.cells #[.string (ByteArray.mk #[])] 9) = w4 at *
  generalize w3.heap.size = p7 at *
  refine s_st (sizeOf9 _) rfl rfl (h4.cells 0 rfl) (by simp) ?_
  have h5 : Sep (Cells p7 #[.string (plusOf name)] 9 :: Cells e6 #[.nilIface] 31 :: Cells n4 #[.string name] 9 :: Cells d3 #[ptr D] 24 :: Dk D S :: X :: l) (w4.setCell ⟨p7,0,none⟩ (.string (plusOf name))) := h4.set 0 rfl 0 (.string (plusOf name))
  show pDr _ _ _ _ _ _ (w4.setCell ⟨p7,0,none⟩ (.string (plusOf name)))
  generalize w4.setCell ⟨p7,0,none⟩ (.string (plusOf name)) = w5 at *
  generalize hρ : put (put (put ρ2 32 _) 33 _) 7 _ = ρ3
  have r2 : ρ3 2 = dv := by rw [← hρ]; exact r2
  have r3 : ρ3 3 = ptr d3 := by rw [← hρ]; exact r3
  have r4 : ρ3 4 = ptr n4 := by rw [← hρ]; exact r4
  have r6 : ρ3 6 = ptr e6 := by rw [← hρ]; exact r6
  have r7 : ρ3 7 = ptr p7 := by rw [← hρ]; rfl
  clear hρ
  refine pDr_seqA mixed ntmps19 F19_t4 (by kernel_rfl) ((F19p4_0_eq _ _ _ _).mpr ?_)
  unfold F19p4_0
  refine s_alloc (zeroValue4 _) ?_
  have h6 := h5.cell #[.bool false] 4
  show px P _ (w5.alloc (.cells #[.bool false] 4)) _
  generalize w5.alloc (.cells #[.bool false] 4) = w6 at *
  generalize w5.heap.size = b8 at *
  refine s_alloc (zeroValue4 _) ?_
  have h7 := h6.cell #[.bool false] 4
  show pu P _ (w6.alloc (.cells #[.bool false] 4)) _
  generalize w6.alloc (.cells #[.bool false] 4) = w7 at *
  generalize w6.heap.size = r9 at *
  refine s_st (sizeOf4 _) rfl rfl (h7.cells 1 rfl) (by simp) ?_
  have h8 : Sep (Cells r9 #[.bool false] 4 :: Cells b8 #[.bool false] 4 :: Cells p7 #[.string (plusOf name)] 9 :: Cells e6 #[.nilIface] 31 :: Cells n4 #[.string name] 9 :: Cells d3 #[ptr D] 24 :: Dk D S :: X :: l) (w7.setCell ⟨b8,0,none⟩ (.bool false)) := h7.set 1 rfl 0 (.bool false)
  show pu P _ (w7.setCell ⟨b8,0,none⟩ (.bool false)) _
  generalize w7.setCell ⟨b8,0,none⟩ (.bool false) = w8 at *
  refine s_st (sizeOf4 _) rfl rfl (h8.cells 0 rfl) (by simp) ?_
  have h9 : Sep (Cells r9 #[.bool false] 4 :: Cells b8 #[.bool false] 4 :: Cells p7 #[.string (plusOf name)] 9 :: Cells e6 #[.nilIface] 31 :: Cells n4 #[.string name] 9 :: Cells d3 #[ptr D] 24 :: Dk D S :: X :: l) (w8.setCell ⟨r9,0,none⟩ (.bool false)) := h8.set 0 rfl 0 (.bool false)
  show pDr _ _ _ _ _ _ (w8.setCell ⟨r9,0,none⟩ (.bool false))
  generalize w8.setCell ⟨r9,0,none⟩ (.bool false) = w9 at *
  have hA : Sep (ErrA .nilIface putB name 0 :: PutL e6 p7 b8 r9 d3 n4 D S .nilIface name false false X l) w9 := Sep.noErr (sep_mv [4,5,2,3,4,5] 0 h9 rfl)
  generalize hρ : put (put ρ3 8 _) 9 _ = ρ4
  have r2 : ρ4 2 = dv := by rw [← hρ]; exact r2
  have r3 : ρ4 3 = ptr d3 := by rw [← hρ]; exact r3
  have r4 : ρ4 4 = ptr n4 := by rw [← hρ]; exact r4
  have r6 : ρ4 6 = ptr e6 := by rw [← hρ]; exact r6
  have r7 : ρ4 7 = ptr p7 := by rw [← hρ]; exact r7
  have r8 : ρ4 8 = ptr b8 := by rw [← hρ]; rfl
  have r9' : ρ4 9 = ptr r9 := by rw [← hρ]; rfl
  clear hρ h3 h4 h5 h6 h7 h8 h9 ld4
  refine pDr_seqDA ntmps19 F19_t5 (by kernel_rfl) ?_
  rw [F19d_eq]
  unfold F19d
  rw [r3,r4,r6,r7,r8,r9']
  refine s_mkf ?_
  refine ⟨dfr e6 b8 d3 p7 n4 r9,by kernel_rfl,?_⟩
  refine pDr_codeA mixed ntmps19 (by kernel_rfl) ((F19z_0_eq _ _ _ _).mpr ?_)
  exact put_z0 hX hA ok hc hl ho hdl r2 r3 r4 r6 r7 r8 r9' hk
end
def getB : ByteArray := ByteArray.mk #[103,101,116]
section
variable {w:World} {k:KV} {D c:Nat} {S:AD} {l:List Asrt} {name:ByteArray}
theorem Sep.nilBytes (h:Sep l w) : Sep (BytesA (.slice none 0 0) [] :: l) w :=
 h.new (M := fun _ => False) (O' := fun _ => False) (I' := fun _ => False) (Fr.refl _ _) (fun _ h => h.elim) ⟨SBytes.nil _,fun h => absurd h (by simp),fun _ h => h,fun _ h => h.elim⟩ (fun _ h => h.elim) fun _ h => h.elim
theorem Sep.bytes {v:Value} {bs:Bytes} (h:Sep l w) (i:Nat) (hi:l[i]? = some (BytesA v bs)) : SBytes w v bs := by obtain ⟨O,I,h,_⟩ := h.get i hi; exact h
theorem getF_no (h:isName name = false) : S.getF name = (51,[],S) := by unfold AD.getF; rw [h]; rfl
theorem getF_look (h:isName name = true) (hl:S.look name ≠ 0) : S.getF name = (S.look name,[],S) := by unfold AD.getF; rw [h,if_pos hl]; rfl
theorem getF_read (h:isName name = true) (hl:S.look name = 0) : S.getF name = S.read name 0 (S.bytes name).length := by unfold AD.getF; rw [h]; simp [hl]
theorem bytes_small (ok:S.Ok c) (hl:S.look name = 0) : (S.bytes name).length ≤ 1048576 := (ok.thing _ (reach_of (look0 hl).2)).ok.len.1
theorem c_fGet (hS:Sep (Dk D S :: l) w) (ok:S.Ok c) (hs:name.size ≤ 9223372036854775807)
    (hk:∀ w' v ev,Sep (ErrA ev getB name (S.getF name).1 :: BytesA v (S.getF name).2.1 :: Dk D (S.getF name).2.2 :: l) w' → k (.tuple #[v,ev]) w') : pFn P 20 [ptr D,.string name] w k := by
  refine F20_in _ _ _ _ ?_
  unfold F20_0
  refine c_named name 112 hs ?_
  rw [namedA_112]
  refine s_not ?_
  cases hn : isName name with
  | false =>
    rw [getF_no hn] at hk
    exact pC_true (sd_refused (op := getB) (Sep.nilBytes hS) (by decide) (by decide) fun w1 ev h1 => hk w1 _ ev h1)
  | true =>
  refine pC_false (sd_size hS 0 rfl ok hs (s_ext rfl (s_ext rfl ?_)))
  by_cases hl : S.look name = 0
  · rw [getF_read hn hl] at hk
    refine s_nei_f hl (pC_false ?_)
    have hb := bytes_small ok hl
    rw [show AD.sizeOf S name = (S.bytes name).length by unfold AD.sizeOf; rw [if_pos hl]]
    refine s_read hS (i := 0) rfl ok name hs 0 _ (by omega) fun w1 v h1 => ?_
    replace h1 : Sep (Dk D (S.read name 0 (S.bytes name).length).2.2 :: BytesA v (S.read name 0 (S.bytes name).length).2.1 :: l) w1 := Sep.unstar h1
    have h0 : (S.read name 0 (S.bytes name).length).1 = 0 := by unfold AD.read; rw [if_neg (by simpa using hl),if_neg (by omega)]
    refine s_ext rfl (s_ext rfl (s_nei_f h0 (pC_false ?_)))
    rw [h0] at hk
    exact hk w1 v .nilIface (Sep.noErr (sep_mv [1] 0 h1 rfl))
  · rw [getF_look hn hl] at hk
    exact s_nei_t hl (pC_true (sd_refused (op := getB) (Sep.nilBytes hS) hl (by decide) fun w1 ev h1 => hk w1 _ ev h1))
end
end Go.Proofs.YteeeggphkhimcaaGreatDoor
