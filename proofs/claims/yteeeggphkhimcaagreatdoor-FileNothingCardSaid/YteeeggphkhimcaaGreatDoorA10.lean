/- Put together by a program (wip/tools/shake.py): Files,Crash,Crash2,Crash3,R3,Law,R4,Read,Known,Shelf,Two,Do,List,XPtr,Twin,SepD,RRep,ROps,ROps2,ROps3,ROps4,ROps5,ROps6,ROps7,ROps8,ROps9,ROps10,RLoad,XRow,Args6. -/
import Derived.Test.YteeeggphkhimcaaGreatDoorA9
import Derived.Test.YteeeggphkhimcaaGreatDoorA1
import Derived.Test.YteeeggphkhimcaaGreatDoorProg
import Derived.Test.YteeeggphkhimcaaGreatDoorMix
import Derived.Test.YteeeggphkhimcaaGreatDoorA7
import Derived.Laws.IdiomStrings
import Derived.Lib.SlBytesConst
import Derived.Shelf.SlIter.Nil
import Derived.Shelf.SortM.Plain
import Derived.Shelf.SortM.SortNone
import Derived.Ground.GgzProg
import Derived.Ground.SlgmProg
import Derived.Lib.SliceRun
import Derived.Test.YteeeggphkhimcaaGreatDoorA2
import Derived.LaidEql
import Derived.Sort.Walk0
import Derived.ProofKit
import Derived.SliceStrings
import Derived.Deep.SlicePairs
import Derived.Test.YteeeggphkhimcaaGreatDoorRows
import Derived.Test.YteeeggphkhimcaaGreatDoorA5
import Derived.JoinedCond
import Derived.Deep.Slices
set_option linter.unusedVariables false
set_option linter.unusedSimpArgs false
set_option maxRecDepth 100000
namespace Go.Proofs.YteeeggphkhimcaaGreatDoor
open Go Go.Proofs Go.RowKit Go.Proofs.XRed Go.Proofs.XHeap Go.Proofs.XMaps Go.Proofs.XSlices Go.Proofs.XDisk Go.Proofs.XCalls Go.Proofs.XRange Go.Proofs.XKeys Tryz
section
variable {w:World} {D:Nat} {S S':AD} {O I:Nat → Prop} {L:Lay} {k:KV}
end
section
variable {w:World} {D:Nat} {S S':AD} {O I:Nat → Prop} {L:Lay} {k:KV}
end
section
variable {w w0:World} {D:Nat} {S S':AD} {O I:Nat → Prop} {L:Lay} {k:KV}
end
section
variable {w w0:World} {D:Nat} {S S':AD} {O I:Nat → Prop} {L:Lay} {k:KV}
end
end Go.Proofs.YteeeggphkhimcaaGreatDoor

namespace Go.Proofs.YteeeggphkhimcaaGreatDoor
open Go Go.Proofs Go.Proofs.XRed Tryz
open Go.Instr (fieldAt loadAt storeAt indexAt sliceAt extract)
noncomputable def F11B : Code := bodyOf f11
def F11A (k:KV) (q:List Nat) (ρ:Env) (w:World) : Prop := At prog 75 F11B (retQ prog f11.results.toList k) q ρ w
noncomputable def F11B1 : Code := sub F11B [1,1,0,1,0,0]
def F11Q1 (k:KV) (N1:KE) : Xt → KE := thenE N1 (contAt prog 75 F11B (retQ prog f11.results.toList k) [1,1,0,1,0])
def F11A1 (k:KV) (N1:KE) (q:List Nat) (ρ:Env) (w:World) : Prop := At prog 75 F11B1 (F11Q1 k N1) q ρ w
def F11L1 (k:KV) (ρ:Env) (w:World) : Prop := LoopAt prog 75 F11B (retQ prog f11.results.toList k) [1,1,0,1,0] ρ w
theorem F11L1_inv (k:KV) (I:Nat → KE) (round:∀ m ρ w,I m ρ w → F11A1 k (fun ρ' w' => ∃ m',m' < m ∧ I m' ρ' w') [] ρ w) {m:Nat} {ρ:Env} {w:World} (h:I m ρ w) : F11L1 k ρ w :=
 LoopAt_inv mixed (B := F11B) (Q := (retQ prog f11.results.toList k)) (p := [1,1,0,1,0]) (by kernel_rfl) (by kernel_rfl) I round h
def F11_0 (name0:Value) (data1:Value) (w:World) (k:KV) : Prop :=
 pFn prog 18 [] w fun v12 w =>
 px prog (Op.unary .not v12) w fun v13 w =>
 pC v13 (
 k (.bool false) w)
 (
 px prog (Instr.build 88 #[]) w fun v14 w =>
 px prog (Instr.box 88 v14) w fun v15 w =>
 px prog (Instr.buildSlice 89 2 #[(0,(.pointer none)),(1,v15)]) w fun v16 w =>
 px prog (bSem .len #[89] 3 #[v16]) w fun v17 w =>
 F11L1 k (put (put (put (put (put (put (put (put (argEnv [name0,data1]) 4 (.bool false)) 12 v12) 13 v13) 14 v14) 15 v15) 16 v16) 17 v17) 18 (.int .i64 0)) w)
theorem F11_0_eq (name0:Value) (data1:Value) (w:World) (k:KV) : F11A k [] (argEnv [name0,data1]) w = F11_0 name0 data1 w k := by kernel_rfl
def F11_1 (k:KV) (N1:KE) (ρ:Env) (w:World) : Prop :=
 px prog (binSem .lss 3 (.tmp 18) (.tmp 17) (ρ 18) (ρ 17)) w fun v19 w =>
 pC v19 (
 px prog (indexAt 89 (ρ 16) (ρ 18)) w fun v20 w =>
 px prog (loadAt 24 v20) w fun v21 w =>
 pFn prog 47 [(ρ 0)] w fun v24 w =>
 px prog (Op.unary .not v24) w fun v25 w =>
 pC v25 (
 F11A1 k N1 [1,1,0,0,1,1,1,1] (put (put (put (put (put (put (put (put (put (put (put ρ 19 v19) 20 v20) 21 v21) 6 v21) 7 (.int .i64 50)) 22 (.int .i64 50)) 8 (.int .i64 50)) 23 (ρ 0)) 24 v24) 25 v25) 8 (.int .i64 51)) w)
 (
 F11A1 k N1 [1,1,0,0,1,1,1,1] (put (put (put (put (put (put (put (put (put (put ρ 19 v19) 20 v20) 21 v21) 6 v21) 7 (.int .i64 50)) 22 (.int .i64 50)) 8 (.int .i64 50)) 23 (ρ 0)) 24 v24) 25 v25) w))
 (
 F11A k [1,1,1] (put ρ 19 v19) w)
theorem F11_1_eq (k:KV) (N1:KE) (ρ:Env) (w:World) : F11A1 k N1 [] ρ w = F11_1 k N1 ρ w := by kernel_rfl
def F11_2 (k:KV) (N1:KE) (ρ:Env) (w:World) : Prop :=
 pFn prog 48 [(ρ 0)] w fun v28 w =>
 px prog (Op.unary .not v28) w fun v29 w =>
 pC v29 (
 F11A1 k N1 [1,1,0,0,1,1,1,1,1,1] (put (put (put (put (put (put ρ 26 (ρ 7)) 9 (ρ 7)) 27 (ρ 0)) 28 v28) 29 v29) 9 (.int .i64 51)) w)
 (
 F11A1 k N1 [1,1,0,0,1,1,1,1,1,1] (put (put (put (put (put ρ 26 (ρ 7)) 9 (ρ 7)) 27 (ρ 0)) 28 v28) 29 v29) w)
theorem F11_2_eq (k:KV) (N1:KE) (ρ:Env) (w:World) : F11A1 k N1 [1,1,0,0,1,1,1,1] ρ w = F11_2 k N1 ρ w := by kernel_rfl
def F11_3 (k:KV) (ρ:Env) (w:World) : Prop :=
 k (.bool true) w
theorem F11_3_eq (k:KV) (ρ:Env) (w:World) : F11A k [1,1,1] ρ w = F11_3 k ρ w := by kernel_rfl
def F11_4 (k:KV) (N1:KE) (ρ:Env) (w:World) : Prop :=
 pFn prog 20 [(ρ 6),(ρ 0)] w fun v33 w =>
 px prog (extract v33 0) w fun v34 w =>
 px prog (extract v33 1) w fun v35 w =>
 pFn prog 19 [(ρ 6),(ρ 0),(ρ 1)] w fun v39 w =>
 pFn prog 49 [v39,(.string (ByteArray.mk #[112,117,116])),(ρ 0),(ρ 8)] w fun v42 w =>
 px prog (Op.unary .not v42) w fun v43 w =>
 pG v43 false (fun k => k v35 w) (w := w) (next := fun v45 w =>
 pG v43 false (fun k => k (ρ 0) w) (w := w) (next := fun v46 w =>
 pG v43 false (fun k => k (ρ 9) w) (w := w) (next := fun v47 w =>
 pG v43 false (fun k => pFn prog 49 [v45,(.string (ByteArray.mk #[103,101,116])),v46,v47] w k) (w := w) (next := fun v48 w =>
 pG v43 false (fun k => px prog (Op.unary .not v48) w k) (w := w) (next := fun v49 w =>
 px prog (pickSem v43 (.bool true) v49) w fun v50 w =>
 pG v50 false (fun k => k v34 w) (w := w) (next := fun v52 w =>
 pG v50 false (fun k => px prog (bSem .len #[23] 3 #[v52]) w k) (w := w) (next := fun v53 w =>
 pG v50 false (fun k => px prog (binSem .neq 3 (.tmp 53) (.const (.int .i64 0)) v53 (.int .i64 0)) w k) (w := w) (next := fun v54 w =>
 px prog (pickSem v50 (.bool true) v54) w fun v55 w =>
 pG v55 false (fun k => k (ρ 6) w) (w := w) (next := fun v57 w =>
 pG v55 false (fun k => k (ρ 0) w) (w := w) (next := fun v58 w =>
 pG v55 false (fun k => pFn prog 50 [v57,v58] w k) (w := w) (next := fun v59 w =>
 pG v55 false (fun k => k (ρ 0) w) (w := w) (next := fun v60 w =>
 pG v55 false (fun k => k (ρ 9) w) (w := w) (next := fun v61 w =>
 pG v55 false (fun k => pFn prog 49 [v59,(.string (ByteArray.mk #[100,114,111,112])),v60,v61] w k) (w := w) (next := fun v62 w =>
 pG v55 false (fun k => px prog (Op.unary .not v62) w k) (w := w) (next := fun v63 w =>
 px prog (pickSem v55 (.bool true) v63) w fun v64 w =>
 pG v64 false (fun k => k (ρ 6) w) (w := w) (next := fun v66 w =>
 pG v64 false (fun k => k (ρ 0) w) (w := w) (next := fun v67 w =>
 pG v64 false (fun k => pFn prog 51 [v66,v67] w k) (w := w) (next := fun v68 w =>
 pG v64 false (fun k => k (ρ 0) w) (w := w) (next := fun v69 w =>
 pG v64 false (fun k => k (ρ 7) w) (w := w) (next := fun v70 w =>
 pG v64 false (fun k => pFn prog 49 [v68,(.string (ByteArray.mk #[99,108,101,97,110])),v69,v70] w k) (w := w) (next := fun v71 w =>
 pG v64 false (fun k => px prog (Op.unary .not v71) w k) (w := w) (next := fun v72 w =>
 px prog (pickSem v64 (.bool true) v72) w fun v73 w =>
 pC v73 (
 k (.bool false) w)
 (
 px prog (binSem .add 3 (.tmp 18) (.const (.int .i64 1)) (ρ 18) (.int .i64 1)) w fun v74 w =>
 N1 (put (put (put (put (put (put (put (put (put (put (put (put (put (put (put (put (put (put (put (put (put (put (put (put (put (put (put (put (put (put (put (put (put (put (put (put (put (put (put (put (put (put (put (put (put (put (put (put ρ 31 (ρ 6)) 32 (ρ 0)) 33 v33) 30 v33) 34 v34) 35 v35) 10 v34) 11 v35) 36 (ρ 6)) 37 (ρ 0)) 38 (ρ 1)) 39 v39) 40 (ρ 0)) 41 (ρ 8)) 42 v42) 43 v43) 44 v43) 45 v45) 46 v46) 47 v47) 48 v48) 49 v49) 50 v50) 51 v50) 52 v52) 53 v53) 54 v54) 55 v55) 56 v55) 57 v57) 58 v58) 59 v59) 60 v60) 61 v61) 62 v62) 63 v63) 64 v64) 65 v64) 66 v66) 67 v67) 68 v68) 69 v69) 70 v70) 71 v71) 72 v72) 73 v73) 74 v74) 18 v74) w)))))))))))))))))))))))
theorem F11_4_eq (k:KV) (N1:KE) (ρ:Env) (w:World) : F11A1 k N1 [1,1,0,0,1,1,1,1,1,1] ρ w = F11_4 k N1 ρ w := by kernel_rfl
theorem F11_in (name0:Value) (data1:Value) (w:World) (k:KV) (h:F11_0 name0 data1 w k) : pFn prog 11 [name0,data1] w k :=
 pFn_of_at mixed func11 (by kernel_rfl) (by kernel_rfl) ntmps11 (by kernel_rfl) (by kernel_rfl) (by simp) ((F11_0_eq name0 data1 w k).mpr h)
noncomputable def F18B : Code := bodyOf f18
def F18A (k:KV) (q:List Nat) (ρ:Env) (w:World) : Prop := At prog 50 F18B (retQ prog f18.results.toList k) q ρ w
def F18_0  (w:World) (k:KV) : Prop :=
 pFn prog 17 [(.int .i64 50)] w fun v8 w =>
 px prog (extract v8 0) w fun v9 w =>
 px prog (extract v8 1) w fun v10 w =>
 px prog (binSem .neq 25 (.tmp 11) (.const (.int .i64 0)) v10 (.int .i64 0)) w fun v12 w =>
 pG v12 false (fun k => k v9 w) (w := w) (next := fun v14 w =>
 pG v12 false (fun k => px prog (binSem .eql 24 (.tmp 14) (.const (.pointer none)) v14 (.pointer none)) w k) (w := w) (next := fun v15 w =>
 px prog (pickSem v12 (.bool true) v15) w fun v16 w =>
 pG v16 false (fun k => k v9 w) (w := w) (next := fun v18 w =>
 pG v16 false (fun k => px prog (Instr.buildSlice 23 2 #[(0,(.int .u8 120)),(1,(.int .u8 121))]) w k) (w := w) (next := fun v19 w =>
 pG v16 false (fun k => px prog (convert 23 23 v19) w k) (w := w) (next := fun v20 w =>
 pG v16 false (fun k => pFn prog 19 [v18,(.string (ByteArray.mk #[97])),v20] w k) (w := w) (next := fun v21 w =>
 pG v16 false (fun k => px prog (binSem .neq 31 (.tmp 21) (.const .nilIface) v21 .nilIface) w k) (w := w) (next := fun v22 w =>
 px prog (pickSem v16 (.bool true) v22) w fun v23 w =>
 pC v23 (
 k (.bool false) w)
 (
 pFn prog 20 [v9,(.string (ByteArray.mk #[97]))] w fun v26 w =>
 px prog (extract v26 0) w fun v27 w =>
 px prog (extract v26 1) w fun v28 w =>
 pFn prog 20 [v9,(.string (ByteArray.mk #[98]))] w fun v31 w =>
 px prog (extract v31 0) w fun v32 w =>
 px prog (extract v31 1) w fun v33 w =>
 px prog (binSem .eql 31 (.tmp 34) (.const .nilIface) v28 .nilIface) w fun v35 w =>
 pG v35 true (fun k => k v27 w) (w := w) (next := fun v37 w =>
 pG v35 true (fun k => px prog (convert 23 9 v37) w k) (w := w) (next := fun v38 w =>
 pG v35 true (fun k => px prog (binSem .eql 9 (.tmp 38) (.const (.string (ByteArray.mk #[120,121]))) v38 (.string (ByteArray.mk #[120,121]))) w k) (w := w) (next := fun v39 w =>
 px prog (pickSem v35 v39 (.bool false)) w fun v40 w =>
 pG v40 true (fun k => k v9 w) (w := w) (next := fun v42 w =>
 pG v40 true (fun k => pFn prog 56 [v42] w k) (w := w) (next := fun v43 w =>
 pG v40 true (fun k => px prog (binSem .eql 3 (.tmp 43) (.const (.int .i64 5)) v43 (.int .i64 5)) w k) (w := w) (next := fun v44 w =>
 px prog (pickSem v40 v44 (.bool false)) w fun v45 w =>
 pG v45 true (fun k => k v33 w) (w := w) (next := fun v47 w =>
 pG v45 true (fun k => pFn prog 49 [v47,(.string (ByteArray.mk #[103,101,116])),(.string (ByteArray.mk #[98])),(.int .i64 53)] w k) (w := w) (next := fun v48 w =>
 px prog (pickSem v45 v48 (.bool false)) w fun v49 w =>
 k v49 w))))))))))))))))
theorem F18_0_eq  (w:World) (k:KV) : F18A k [] (argEnv []) w = F18_0  w k := by kernel_rfl
theorem F18_in  (w:World) (k:KV) (h:F18_0  w k) : pFn prog 18 [] w k :=
 pFn_of_at mixed func18 (by kernel_rfl) (by kernel_rfl) ntmps18 (by kernel_rfl) (by kernel_rfl) (by simp) ((F18_0_eq  w k).mpr h)
noncomputable def F49B : Code := bodyOf f49
def F49A (k:KV) (q:List Nat) (ρ:Env) (w:World) : Prop := At prog 62 F49B (retQ prog f49.results.toList k) q ρ w
def F49_0 (err0:Value) (op1:Value) (name2:Value) (code3:Value) (w:World) (k:KV) : Prop :=
 px prog (binSem .eql 3 (.tmp 10) (.const (.int .i64 0)) code3 (.int .i64 0)) w fun v11 w =>
 pC v11 (
 px prog (binSem .eql 31 (.tmp 12) (.const .nilIface) err0 .nilIface) w fun v13 w =>
 k v13 w)
 (
 px prog (Instr.alloc 73 true (.tuple #[])) w fun v9 w =>
 px prog (binSem .neq 31 (.tmp 14) (.const .nilIface) err0 .nilIface) w fun v15 w =>
 pG v15 true (fun k => k err0 w) (w := w) (next := fun v17 w =>
 pG v15 true (fun k => px prog (Instr.makeInterface 75 v9) w k) (w := w) (next := fun v18 w =>
 pG v15 true (fun k => pFn prog 88 [v17,v18] w k) (w := w) (next := fun v19 w =>
 px prog (pickSem v15 v19 (.bool false)) w fun v20 w =>
 pG v20 true (fun k => px prog (loadAt 73 v9) w k) (w := w) (next := fun v22 w =>
 pG v20 true (fun k => px prog (binSem .neq 73 (.tmp 22) (.const (.pointer none)) v22 (.pointer none)) w k) (w := w) (next := fun v23 w =>
 px prog (pickSem v20 v23 (.bool false)) w fun v24 w =>
 pG v24 true (fun k => px prog (loadAt 73 v9) w k) (w := w) (next := fun v26 w =>
 pG v24 true (fun k => px prog (nilSem v26) w k) (w := w) (next := fun v27 w =>
 pG v24 true (fun k => px prog (fieldAt 77 v27 0) w k) (w := w) (next := fun v28 w =>
 pG v24 true (fun k => px prog (loadAt 9 v28) w k) (w := w) (next := fun v29 w =>
 pG v24 true (fun k => k op1 w) (w := w) (next := fun v30 w =>
 pG v24 true (fun k => px prog (binSem .add 9 (.const (.string (ByteArray.mk #[102,105,108,101,46]))) (.tmp 30) (.string (ByteArray.mk #[102,105,108,101,46])) v30) w k) (w := w) (next := fun v31 w =>
 pG v24 true (fun k => px prog (binSem .eql 9 (.tmp 29) (.tmp 31) v29 v31) w k) (w := w) (next := fun v32 w =>
 px prog (pickSem v24 v32 (.bool false)) w fun v33 w =>
 pG v33 true (fun k => px prog (loadAt 73 v9) w k) (w := w) (next := fun v35 w =>
 pG v33 true (fun k => px prog (nilSem v35) w k) (w := w) (next := fun v36 w =>
 pG v33 true (fun k => px prog (fieldAt 77 v36 1) w k) (w := w) (next := fun v37 w =>
 pG v33 true (fun k => px prog (loadAt 9 v37) w k) (w := w) (next := fun v38 w =>
 pG v33 true (fun k => k name2 w) (w := w) (next := fun v39 w =>
 pG v33 true (fun k => px prog (binSem .eql 9 (.tmp 38) (.tmp 39) v38 v39) w k) (w := w) (next := fun v40 w =>
 px prog (pickSem v33 v40 (.bool false)) w fun v41 w =>
 pG v41 true (fun k => px prog (loadAt 73 v9) w k) (w := w) (next := fun v43 w =>
 pG v41 true (fun k => px prog (nilSem v43) w k) (w := w) (next := fun v44 w =>
 pG v41 true (fun k => px prog (fieldAt 77 v44 2) w k) (w := w) (next := fun v45 w =>
 pG v41 true (fun k => px prog (loadAt 44 v45) w k) (w := w) (next := fun v46 w =>
 pG v41 true (fun k => px prog (Instr.build 44 #[]) w k) (w := w) (next := fun v47 w =>
 pG v41 true (fun k => px prog (binSem .eql 44 (.tmp 46) (.tmp 47) v46 v47) w k) (w := w) (next := fun v48 w =>
 px prog (pickSem v41 v48 (.bool false)) w fun v49 w =>
 pG v49 true (fun k => k err0 w) (w := w) (next := fun v51 w =>
 pG v49 true (fun k => k code3 w) (w := w) (next := fun v52 w =>
 pG v49 true (fun k => px prog (Instr.makeInterface 25 v52) w k) (w := w) (next := fun v53 w =>
 pG v49 true (fun k => pFn prog 69 [v51,v53] w k) (w := w) (next := fun v54 w =>
 px prog (pickSem v49 v54 (.bool false)) w fun v55 w =>
 pG v55 true (fun k => k err0 w) (w := w) (next := fun v57 w =>
 pG v55 true (fun k => pFn prog 43 [v57] w k) (w := w) (next := fun v58 w =>
 pG v55 true (fun k => k code3 w) (w := w) (next := fun v59 w =>
 pG v55 true (fun k => px prog (binSem .eql 25 (.tmp 58) (.tmp 59) v58 v59) w k) (w := w) (next := fun v60 w =>
 px prog (pickSem v55 v60 (.bool false)) w fun v61 w =>
 k v61 w)))))))))))))))))))))))))))))))))
theorem F49_0_eq (err0:Value) (op1:Value) (name2:Value) (code3:Value) (w:World) (k:KV) : F49A k [] (argEnv [err0,op1,name2,code3]) w = F49_0 err0 op1 name2 code3 w k := by kernel_rfl
theorem F49_in (err0:Value) (op1:Value) (name2:Value) (code3:Value) (w:World) (k:KV) (h:F49_0 err0 op1 name2 code3 w k) : pFn prog 49 [err0,op1,name2,code3] w k :=
 pFn_of_at mixed func49 (by kernel_rfl) (by kernel_rfl) ntmps49 (by kernel_rfl) (by kernel_rfl) (by simp) ((F49_0_eq err0 op1 name2 code3 w k).mpr h)
end Go.Proofs.YteeeggphkhimcaaGreatDoor

namespace Go.Proofs.YteeeggphkhimcaaGreatDoor
open Go Go.Proofs Go.RowKit Go.Proofs.XRed Go.Proofs.XHeap Go.Proofs.XMaps Go.Proofs.XSlices Go.Proofs.XDisk Go.Proofs.XCalls Go.Proofs.XRange Go.Proofs.XKeys Tryz
section
variable {w w0:World} {D:Nat} {S S':AD} {O I:Nat → Prop} {L:Lay} {k:KV}
end
end Go.Proofs.YteeeggphkhimcaaGreatDoor

namespace Go.Proofs.YteeeggphkhimcaaGreatDoor
open Go Go.Proofs Go.Proofs.XRed Tryz
open Go.Instr (fieldAt loadAt storeAt indexAt sliceAt extract)
noncomputable def F48B : Code := bodyOf f48
def F48A (k:KV) (q:List Nat) (ρ:Env) (w:World) : Prop := At prog 53 F48B (retQ prog f48.results.toList k) q ρ w
noncomputable def F48B1 : Code := sub F48B [1,1,0,1,0,0]
def F48Q1 (k:KV) (N1:KE) : Xt → KE := thenE N1 (contAt prog 53 F48B (retQ prog f48.results.toList k) [1,1,0,1,0])
def F48A1 (k:KV) (N1:KE) (q:List Nat) (ρ:Env) (w:World) : Prop := At prog 53 F48B1 (F48Q1 k N1) q ρ w
def F48L1 (k:KV) (ρ:Env) (w:World) : Prop := LoopAt prog 53 F48B (retQ prog f48.results.toList k) [1,1,0,1,0] ρ w
theorem F48L1_inv (k:KV) (I:Nat → KE) (round:∀ m ρ w,I m ρ w → F48A1 k (fun ρ' w' => ∃ m',m' < m ∧ I m' ρ' w') [] ρ w) {m:Nat} {ρ:Env} {w:World} (h:I m ρ w) : F48L1 k ρ w :=
 LoopAt_inv mixed (B := F48B) (Q := (retQ prog f48.results.toList k)) (p := [1,1,0,1,0]) (by kernel_rfl) (by kernel_rfl) I round h
def F48_0 (name0:Value) (w:World) (k:KV) : Prop :=
 px prog (bSem .len #[9] 3 #[name0]) w fun v6 w =>
 px prog (binSem .lss 3 (.tmp 6) (.const (.int .i64 1)) v6 (.int .i64 1)) w fun v7 w =>
 pG v7 false (fun k => k name0 w) (w := w) (next := fun v9 w =>
 pG v7 false (fun k => px prog (bSem .len #[9] 3 #[v9]) w k) (w := w) (next := fun v10 w =>
 pG v7 false (fun k => px prog (binSem .gtr 3 (.tmp 10) (.const (.int .i64 112)) v10 (.int .i64 112)) w k) (w := w) (next := fun v11 w =>
 px prog (pickSem v7 (.bool true) v11) w fun v12 w =>
 pC v12 (
 k (.bool false) w)
 (
 F48L1 k (put (put (put (put (put (put (put (put (put (put (argEnv [name0]) 2 (.bool false)) 5 name0) 6 v6) 7 v7) 8 v7) 9 v9) 10 v10) 11 v11) 12 v12) 3 (.int .i64 0)) w))))
theorem F48_0_eq (name0:Value) (w:World) (k:KV) : F48A k [] (argEnv [name0]) w = F48_0 name0 w k := by kernel_rfl
def F48_1 (k:KV) (N1:KE) (ρ:Env) (w:World) : Prop :=
 px prog (bSem .len #[9] 3 #[(ρ 0)]) w fun v15 w =>
 px prog (binSem .lss 3 (.tmp 13) (.tmp 15) (ρ 3) v15) w fun v16 w =>
 pC v16 (
 px prog (Instr.index 9 (ρ 0) (ρ 3)) w fun v21 w =>
 px prog (binSem .geq 5 (.tmp 22) (.const (.int .u8 97)) v21 (.int .u8 97)) w fun v23 w =>
 pG v23 true (fun k => k v21 w) (w := w) (next := fun v25 w =>
 pG v23 true (fun k => px prog (binSem .leq 5 (.tmp 25) (.const (.int .u8 122)) v25 (.int .u8 122)) w k) (w := w) (next := fun v26 w =>
 px prog (pickSem v23 v26 (.bool false)) w fun v27 w =>
 pG v27 false (fun k => k v21 w) (w := w) (next := fun v29 w =>
 pG v27 false (fun k => px prog (binSem .geq 5 (.tmp 29) (.const (.int .u8 48)) v29 (.int .u8 48)) w k) (w := w) (next := fun v30 w =>
 pG v27 false (fun k => k v30 w) (w := w) (next := fun v31 w =>
 pG v31 true (fun k => k v21 w) (w := w) (next := fun v32 w =>
 pG v31 true (fun k => px prog (binSem .leq 5 (.tmp 32) (.const (.int .u8 57)) v32 (.int .u8 57)) w k) (w := w) (next := fun v33 w =>
 pG v27 false (fun k => px prog (pickSem v31 v33 (.bool false)) w k) (w := w) (next := fun v34 w =>
 px prog (pickSem v27 (.bool true) v34) w fun v35 w =>
 pG v35 false (fun k => k v21 w) (w := w) (next := fun v37 w =>
 pG v35 false (fun k => px prog (binSem .eql 5 (.tmp 37) (.const (.int .u8 46)) v37 (.int .u8 46)) w k) (w := w) (next := fun v38 w =>
 px prog (pickSem v35 (.bool true) v38) w fun v39 w =>
 pG v39 false (fun k => k v21 w) (w := w) (next := fun v41 w =>
 pG v39 false (fun k => px prog (binSem .eql 5 (.tmp 41) (.const (.int .u8 45)) v41 (.int .u8 45)) w k) (w := w) (next := fun v42 w =>
 px prog (pickSem v39 (.bool true) v42) w fun v43 w =>
 pG v43 false (fun k => k v21 w) (w := w) (next := fun v45 w =>
 pG v43 false (fun k => px prog (binSem .eql 5 (.tmp 45) (.const (.int .u8 95)) v45 (.int .u8 95)) w k) (w := w) (next := fun v46 w =>
 px prog (pickSem v43 (.bool true) v46) w fun v47 w =>
 pG v47 false (fun k => k v21 w) (w := w) (next := fun v49 w =>
 pG v47 false (fun k => px prog (binSem .eql 5 (.tmp 49) (.const (.int .u8 43)) v49 (.int .u8 43)) w k) (w := w) (next := fun v50 w =>
 px prog (pickSem v47 (.bool true) v50) w fun v51 w =>
 px prog (Op.unary .not v51) w fun v52 w =>
 pC v52 (
 k (.bool false) w)
 (
 px prog (binSem .add 3 (.tmp 17) (.const (.int .i64 1)) (ρ 3) (.int .i64 1)) w fun v18 w =>
 N1 (put (put (put (put (put (put (put (put (put (put (put (put (put (put (put (put (put (put (put (put (put (put (put (put (put (put (put (put (put (put (put (put (put (put (put (put (put (put (put (put (put (put ρ 13 (ρ 3)) 14 (ρ 0)) 15 v15) 16 v16) 19 (ρ 0)) 20 (ρ 3)) 21 v21) 4 v21) 22 v21) 23 v23) 24 v23) 25 v25) 26 v26) 27 v27) 28 v27) 29 v29) 30 v30) 31 v31) 32 v32) 33 v33) 34 v34) 35 v35) 36 v35) 37 v37) 38 v38) 39 v39) 40 v39) 41 v41) 42 v42) 43 v43) 44 v43) 45 v45) 46 v46) 47 v47) 48 v47) 49 v49) 50 v50) 51 v51) 52 v52) 17 (ρ 3)) 18 v18) 3 v18) w))))))))))))))))))
 (
 F48A k [1,1,1] (put (put (put (put ρ 13 (ρ 3)) 14 (ρ 0)) 15 v15) 16 v16) w)
theorem F48_1_eq (k:KV) (N1:KE) (ρ:Env) (w:World) : F48A1 k N1 [] ρ w = F48_1 k N1 ρ w := by kernel_rfl
def F48_2 (k:KV) (ρ:Env) (w:World) : Prop :=
 k (.bool true) w
theorem F48_2_eq (k:KV) (ρ:Env) (w:World) : F48A k [1,1,1] ρ w = F48_2 k ρ w := by kernel_rfl
theorem F48_in (name0:Value) (w:World) (k:KV) (h:F48_0 name0 w k) : pFn prog 48 [name0] w k :=
 pFn_of_at mixed func48 (by kernel_rfl) (by kernel_rfl) ntmps48 (by kernel_rfl) (by kernel_rfl) (by simp) ((F48_0_eq name0 w k).mpr h)
noncomputable def F47B : Code := bodyOf f47
def F47A (k:KV) (q:List Nat) (ρ:Env) (w:World) : Prop := At prog 15 F47B (retQ prog f47.results.toList k) q ρ w
def F47_0 (name0:Value) (w:World) (k:KV) : Prop :=
 pFn prog 48 [name0] w fun v4 w =>
 pG v4 true (fun k => k name0 w) (w := w) (next := fun v6 w =>
 pG v4 true (fun k => px prog (bSem .len #[9] 3 #[v6]) w k) (w := w) (next := fun v7 w =>
 pG v4 true (fun k => px prog (binSem .lss 3 (.tmp 7) (.const (.int .i64 112)) v7 (.int .i64 112)) w k) (w := w) (next := fun v8 w =>
 px prog (pickSem v4 v8 (.bool false)) w fun v9 w =>
 pG v9 true (fun k => k name0 w) (w := w) (next := fun v11 w =>
 pG v9 true (fun k => px prog (Instr.index 9 v11 (.int .i64 0)) w k) (w := w) (next := fun v12 w =>
 pG v9 true (fun k => px prog (binSem .neq 5 (.tmp 12) (.const (.int .u8 43)) v12 (.int .u8 43)) w k) (w := w) (next := fun v13 w =>
 px prog (pickSem v9 v13 (.bool false)) w fun v14 w =>
 k v14 w))))))
theorem F47_0_eq (name0:Value) (w:World) (k:KV) : F47A k [] (argEnv [name0]) w = F47_0 name0 w k := by kernel_rfl
theorem F47_in (name0:Value) (w:World) (k:KV) (h:F47_0 name0 w k) : pFn prog 47 [name0] w k :=
 pFn_of_at mixed func47 (by kernel_rfl) (by kernel_rfl) ntmps47 (by kernel_rfl) (by kernel_rfl) (by simp) ((F47_0_eq name0 w k).mpr h)
end Go.Proofs.YteeeggphkhimcaaGreatDoor

namespace Go.Proofs.YteeeggphkhimcaaGreatDoor
open Go Go.Proofs Go.RowKit Go.Proofs.XRed Go.Proofs.XHeap Go.Proofs.XMaps Go.Proofs.XSlices Go.Proofs.XDisk Go.Proofs.XCalls Go.Proofs.XRange Go.Proofs.XKeys Tryz
section
variable {w w0:World} {D:Nat} {S S':AD} {O I:Nat → Prop} {L:Lay} {k:KV}
theorem c_read {c:Nat} (h:DRep w D S O I L) (ok:S.Ok c) (name:ByteArray) (hs:name.size ≤ 9223372036854775807) (a n:Int) (hn:-9223372036854775808 ≤ a ∧ a ≤ 9223372036854775807)
    (hk:∀ w' O' I' L' v,Nx w D O I w' (S.read name a n).2.2 O' I' L' → SBytes w' v (S.read name a n).2.1 → (∀ b,sblk v = some b → w.heap.size ≤ b ∧ ¬ O' b) → k (.tuple #[v,i64 (S.read name a n).1]) w') : pFn P 77 [ptr D,.string name,i64 a,i64 n] w k := by
  refine F77_in _ _ _ _ _ _ ?_
  unfold F77_0
  refine c_look h ok.room.1 name hs (s_ext rfl (s_ext rfl ?_))
  have fail : ∀ r,S.read name a n = (r,[],S) → k (.tuple #[.slice none 0 0,i64 r]) w := by
    intro r ec
    have := hk w O I L (.slice none 0 0) (by rw [ec]; exact Nx.refl h) (by rw [ec]; exact SBytes.nil _) (by rintro b hb; cases hb)
    rw [ec] at this; exact this
  by_cases hl : S.look name = 0
  · have hg : alGet S.shown name = some (S.of name) := by
      rcases look_vals S name with h | h | h | h
      · rw [h] at hl; cases hl
      · rw [h] at hl; cases hl
      · rw [h] at hl; cases hl
      · exact h.2
    have hr : reach S (S.of name) := .inl ⟨name,mem_of_alGet hg⟩
    rw [if_pos hl,hl]
    have hlen := (ok.thing _ hr).ok.len.1
    obtain ⟨sv,hv,cs,hbT,_,hsh,_⟩ := (h.things _ hr).ex
    obtain ⟨A,c',rfl,hc'⟩ := hsh.1.form
    have el : S.bytes name = (S.things (S.of name)).shown := rfl
    have beyond : (a < 0 ∨ n < 0 ∨ a > (S.bytes name).length ∨ n > (S.bytes name).length - a) → k (.tuple #[.slice none 0 0,i64 54]) w := fun hbad =>
      fail 54 (by unfold AD.read; rw [if_neg (by simp [hl]),if_pos hbad])
    refine s_nei_f rfl (pC_false ?_)
    by_cases a0 : a < 0
    · refine s_lt_t a0 ?_
      repeat (first | refine pG_skf ?_ | refine pG_un ?_)
      refine s_pick_t ?_
      repeat (first | refine pG_skf ?_ | refine pG_un ?_)
      refine s_pick_t ?_
      repeat (first | refine pG_skf ?_ | refine pG_un ?_)
      exact s_pick_t (pC_true (beyond (.inl a0)))
    refine s_lt_f a0 (pG_yes rfl (pG_yes rfl ?_))
    by_cases n0 : n < 0
    · refine s_lt_t n0 (s_pick_f ?_)
      repeat (first | refine pG_skf ?_ | refine pG_un ?_)
      refine s_pick_t ?_
      repeat (first | refine pG_skf ?_ | refine pG_un ?_)
      exact s_pick_t (pC_true (beyond (.inr (.inl n0))))
    refine s_lt_f n0 (s_pick_f ?_)
    refine pG_yes rfl (pG_yes rfl (pG_yes rfl (s_nil (pG_yes rfl (fa131_1 (pG_yes rfl (s_ldb (v := .slice A (S.things (S.of name)).shown.length c') (isAgg23 _) hbT rfl (pG_yes rfl (s_len usl23 (pG_yes rfl ?_))))))))))
    by_cases a1 : a > (S.things (S.of name)).shown.length
    · refine s_gt_t a1 (s_pick_f ?_)
      repeat (first | refine pG_skf ?_ | refine pG_un ?_)
      exact s_pick_t (pC_true (beyond (.inr (.inr (.inl a1)))))
    refine s_gt_f a1 (s_pick_f ?_)
    refine pG_yes rfl (pG_yes rfl (pG_yes rfl (s_nil (pG_yes rfl (fa131_1 (pG_yes rfl (s_ldb (v := .slice A (S.things (S.of name)).shown.length c') (isAgg23 _) hbT rfl (pG_yes rfl (s_len usl23 (pG_yes rfl (pG_yes rfl (s_sub_in (by omega) (pG_yes rfl ?_)))))))))))))
    by_cases n1 : n > (S.things (S.of name)).shown.length - a
    · exact s_gt_t n1 (s_pick_f (pC_true (beyond (.inr (.inr (.inr n1))))))
    refine s_gt_f n1 (s_pick_f (pC_false ?_))
    have hreads := ok.reads
    have hsm := ok.small
    refine s_nil (fa88_8 (s_ldb (v := L.readsv) (isAgg86 _) h.disk rfl ?_))
    refine px_ok (w' := w) (v := .agg #[.string name,i64 a,i64 n]) (by kernel_rfl) ?_
    refine px_ok (w' := w.alloc (.cells #[.string name,i64 a,i64 n] 209)) (v := .slice (some ⟨w.heap.size,0,none⟩) 1 1) (by kernel_rfl) ?_
    have f1 := Fr.alloc no w (.cells #[.string name,i64 a,i64 n] 209)
    have hlit := own_lit w 0 209 3 #[.string name,i64 a,i64 n] 1 (Nat.zero_le _) (by unfold maxLen; omega) rfl
    have z1 : (w.alloc (.cells #[.string name,i64 a,i64 n] 209)).heap.size = w.heap.size + 1 := by simp
    show px P _ (w.alloc (.cells #[.string name,i64 a,i64 n] 209)) _
    generalize w.alloc (.cells #[.string name,i64 a,i64 n] 209) = w1 at *
    refine ap86 (own_fr h.reads f1 fun _ _ h => h) (Src.of_own hlit) (by intro u hu; simp at hu; rcases hu with rfl | rfl | rfl <;> rfl) (by omega) (Nat.zero_le _) fun v' w2 h2 f2 hb2 => ?_
    have hRD : ∀ {b},sblk L.readsv = some b → b ≠ D := by
      rintro b hb rfl
      obtain ⟨c1,h1⟩ := own_obj h.reads hb
      exact absurd (two_types h1 h.disk) (by decide)
    have hd2 := f2.get (f1.get h.disk id) (fun hb => hRD hb.symm rfl)
    refine s_nil (fa88_8 (s_st (sizeOf86 _) (own_one h2).1 (own_one h2).2 hd2 (by show 10 < 11; decide) ?_))
    have hd3 := set_same hd2 10 v'
    have f3 : Fr (fun b => b = D) w2 (w2.setCell ⟨D,10,none⟩ v') := Fr.setCell w2 ⟨D,10,none⟩ v'
    have z3 : (w2.setCell ⟨D,10,none⟩ v').heap.size = w2.heap.size := by simp [World.setCell]
    show px P _ (w2.setCell ⟨D,10,none⟩ v') _
    generalize w2.setCell ⟨D,10,none⟩ v' = w3 at *
    have f13 : Fr (fun b => b = D ∨ sblk L.readsv = some b) w w3 := ((f1.or f2).or f3).mono (by
      rintro b ((hb | hb) | hb)
      · exact hb.elim
      · exact .inl (.inr hb.symm)
      · exact .inl (.inl hb))
    have hOwn : ∀ b,(b = D ∨ sblk L.readsv = some b) → Own L D b := by
      rintro b (hb | hb)
      · exact .inl hb
      · exact .inr (.inr (.inr (.inr hb)))
    have hTf : ∀ {T rb x},TRep w O I T rb x → TRep w3 O I T rb x := fun ht => ht.stay h f13 fun b hb => .inl (hOwn b hb)
    have hnew : ∀ b,sblk v' = some b → sblk L.readsv = some b ∨ w.heap.size < b := by
      intro b hb
      rcases hb2 with e | e
      · left; rw [← e]; exact hb
      · right; rw [e] at hb; injection hb with hb; omega
    have hv'D : ∀ b,sblk v' = some b → b ≠ D := by
      rintro b hb rfl
      obtain ⟨c1,h1⟩ := own_obj h2 hb
      exact absurd (two_types h1 hd2) (by decide)
    have hv'lt : ∀ b,sblk v' = some b → b < w3.heap.size := fun b hb => by have := (own_blk_lt h2 hb).2; omega
    have hz := f13.size
    have hR3 : DRep w3 D { S with reads := S.reads ++ [⟨name,a,n⟩] } (fun b => O b ∨ sblk v' = some b) I { L with readsv := v' } := {
      disk := hd3
      sh := h.sh.fr f13 (by
        rintro (e | e)
        · obtain ⟨es,c1,h1⟩ := SMap.obj h.sh; rw [e,h.disk] at h1; cases h1
        · obtain ⟨c1,h1⟩ := own_obj h.reads e
          obtain ⟨es,c2,h3⟩ := SMap.obj h.sh
          rw [h1] at h3; cases h3)
      shp := h.shp
      sf := h.sf.fr f13 (by
        rintro (e | e)
        · obtain ⟨es,c1,h1⟩ := SMap.obj h.sf; rw [e,h.disk] at h1; cases h1
        · obtain ⟨c1,h1⟩ := own_obj h.reads e
          obtain ⟨es,c2,h3⟩ := SMap.obj h.sf
          rw [h1] at h3; cases h3)
      sfp := h.sfp
      ne := h.ne
      row := own_fr h.row f13 (by
        rintro b hb (e | e)
        · obtain ⟨c1,h1⟩ := own_obj h.row hb
          rw [e] at h1; exact absurd (two_types h1 h.disk) (by decide)
        · obtain ⟨c1,h1⟩ := own_obj h.row hb
          obtain ⟨c2,h3⟩ := own_obj h.reads e
          exact absurd (two_types h1 h3) (by decide))
      reads := by
        have h5 := own_fr h2 f3 hv'D
        simpa [spanCells,List.flatMap_append] using h5
      things := fun t ht => (hTf (h.things t ht)).mono (O := O) (fun b => .inl) fun b => id
      inj := h.inj
      rows := h.rows
      oD := .inl h.oD
      osh := .inl h.osh
      osf := .inl h.osf
      orow := fun b hb => .inl (h.orow b hb)
      oreads := fun b hb => .inr hb
      apart := by
        rintro b (hb | hb) hi
        · exact h.apart b hb hi
        · rcases hnew b hb with h1 | h1
          · exact h.apart b (h.oreads b h1) hi
          · have := h.lt b (.inr hi); omega
      lt := by
        rintro b ((hb | hb) | hb)
        · have := h.lt b (.inl hb); omega
        · exact hv'lt b hb
        · have := h.lt b (.inr hb); omega }
    obtain ⟨sv3,hv3,cs3,hbT3,_,hsh3,_⟩ := (hTf (h.things _ hr)).ex
    obtain ⟨A3,c3,rfl,hc3⟩ := hsh3.1.form
    refine s_nil (fa131_1 (s_ldb (v := .slice A3 (S.things (S.of name)).shown.length c3) (isAgg23 _) hbT3 rfl (s_add_in (by omega) ?_)))
    refine s_sl_lh usl23 (sze23 _) (by omega) (by omega) (by omega) ?_
    have hcut := Src.cut (show Src w3 (.slice A3 (S.things (S.of name)).shown.length c3) 1 _ _ from hsh3.1) (l := a.toNat) (h' := (a + n).toNat) (by omega) (by omega)
    have e1 : ((u8s (S.things (S.of name)).shown).drop (a.toNat * 1)).take (((a + n).toNat - a.toNat) * 1) = u8s (((S.things (S.of name)).shown.drop a.toNat).take n.toNat) := by
      have : (a + n).toNat - a.toNat = n.toNat := by omega
      rw [this,Nat.mul_one,Nat.mul_one]
      simp [u8s,List.map_take,List.map_drop]
    have e2 : (a + n).toNat - a.toNat = (((S.things (S.of name)).shown.drop a.toNat).take n.toNat).length := by simp; omega
    rw [e1,e2] at hcut
    refine ap23 (v := .slice none 0 0) (xs := []) (n := 0) ⟨rfl,.inl ⟨rfl,rfl⟩⟩ hcut u8s_one (by rw [← e2]; omega) (Nat.zero_le _) fun v4 w4 h4 f4 hb4 => ?_
    have ec : S.read name a n = (0,((S.things (S.of name)).shown.drop a.toNat).take n.toNat,{ S with reads := S.reads ++ [⟨name,a,n⟩] }) := by
      unfold AD.read; rw [if_neg (by simp [hl]),if_neg (by rw [el]; omega)]; rfl
    have f4' : Fr no w3 w4 := f4.mono (by rintro b hb; cases hb)
    have hS4 := Src.of_own h4
    rw [Nat.zero_add] at hS4
    have := hk w4 _ _ _ v4 (by
      rw [ec]
      refine ⟨hR3.fr f4' fun b hb => hb.elim,(f13.or f4').mono ?_,fun b => .inl,fun b => id,?_,fun b => .inl⟩
      · rintro b (hb | hb)
        · exact .inl (h.own (hOwn b hb))
        · exact hb.elim
      · rintro b (hb | hb)
        · exact .inl hb
        · rcases hnew b hb with h1 | h1
          · exact .inl (h.oreads b h1)
          · exact .inr (by omega)) (by rw [ec]; exact hS4) (by
      intro b hb
      rcases hb4 with e | e
      · rw [e] at hb; cases hb
      · rw [e] at hb; injection hb with hb
        refine ⟨by omega,?_⟩
        rintro (ho | ho)
        · have := h.lt b (.inl ho); omega
        · have := hv'lt b ho; omega)
    rw [ec] at this; exact this
  · refine s_nei_t hl (pC_true (fail _ (by unfold AD.read; rw [if_pos hl])))
end
def nA : ByteArray := ByteArray.mk #[97]
def nB : ByteArray := ByteArray.mk #[98]
def K0 : AD := AD.new 20
def K1 : AD := (K0.create nA).2
def K2 : AD := (K1.append nA [120,121,122]).2
section
variable {w:World} {D:Nat} {S S':AD} {O I:Nat → Prop} {L:Lay} {k:KV}
theorem s_conv_str {v:Value} {bs:Bytes} (h:SBytes w v bs) (h0:bs ≠ []) (hk:k (.string ⟨bs.toArray⟩) w) : px P (convert 23 9 v) w k := by
 obtain ⟨A,c,rfl,hc,hl,hr⟩ := h
 have h1 : 0 < bs.length := List.length_pos_iff.2 h0
 obtain ⟨b,o,rfl,hcell⟩ := hr h1
 refine px_ok (run_convert_bytes_back w 23 9 5 ⟨b,o,none⟩ c bs (by kernel_rfl) (by kernel_rfl) (by kernel_rfl) ?_) hk
 intro j hj
 rw [add_at]
 exact hcell j _ (by simp [u8s,hj])
end
end Go.Proofs.YteeeggphkhimcaaGreatDoor

namespace Go.Proofs.YteeeggphkhimcaaGreatDoor
open Go Go.Proofs Go.RowKit Go.Maps Go.Sort Go.Shelf Tryz
end Go.Proofs.YteeeggphkhimcaaGreatDoor

namespace Go.Proofs.YteeeggphkhimcaaGreatDoor
open Go Go.Proofs Go.RowKit Go.Proofs.XRed Go.Proofs.XHeap Go.Proofs.XMaps Go.Proofs.XSlices Go.Proofs.XDisk Go.Proofs.XCalls Go.Proofs.XRange Go.Proofs.XKeys Tryz
theorem fr_up {O:Nat → Prop} {W w w':World} (h:Fr no W w) (k:Fr O w w') (ho:∀ b,O b → W.heap.size ≤ b) : Fr no W w' :=
 h.trans k fun b hb => .inr (ho b hb)
section
variable {W w w':World} {D Dt:Nat} {A B A' B':AD} {K K' O I O2 I2 O' I':Nat → Prop} {L L2 L':Lay}
end
section
variable {w:World} {D:Nat} {S S':AD} {O I:Nat → Prop} {L:Lay} {k:KV}
def AD.sizeOf (S:AD) (name:ByteArray) : Int := if S.look name = 0 then (S.bytes name).length else 0
theorem c_size {c:Nat} (h:DRep w D S O I L) (ok:S.Ok c) (name:ByteArray) (hs:name.size ≤ 9223372036854775807) (hk:k (.tuple #[i64 (AD.sizeOf S name),i64 (S.look name)]) w) : pFn P 72 [ptr D,.string name] w k := by
 refine F72_in _ _ _ _ ?_
 unfold F72_0
 refine c_look h ok.room.1 name hs (s_ext rfl (s_ext rfl ?_))
 unfold AD.sizeOf at hk
 by_cases hl : S.look name = 0
 ·have hg := (look0 hl).2
  have hr : reach S (S.of name) := .inl ⟨name,mem_of_alGet hg⟩
  rw [if_pos hl] at hk
  rw [if_pos hl]
  obtain ⟨sv,hv,cs,hbT,_,hsh,_⟩ := (h.things _ hr).ex
  obtain ⟨A,c',rfl,hc'⟩ := hsh.1.form
  refine s_nei_f hl (pC_false (s_nil (fa131_1 (s_ldb (v := .slice A (S.things (S.of name)).shown.length c') (isAgg23 _) hbT rfl (s_len usl23 ?_)))))
  rw [hl] at hk; exact hk
 ·rw [if_neg hl] at hk
  rw [if_neg hl]
  exact s_nei_t hl (pC_true hk)
end
section
variable {W w:World} {D:Nat} {S S':AD} {O I:Nat → Prop} {L:Lay} {k:KV}
end
section
variable {w w0:World} {D:Nat} {S S':AD} {O I:Nat → Prop} {L:Lay} {k:KV}
end
end Go.Proofs.YteeeggphkhimcaaGreatDoor

namespace Go.Proofs.XPtr
open Go Go.RowKit Go.Proofs.XRed Go.Proofs.XHeap Go.Proofs.XMaps Go.MapKept
section
variable {P:Program} {w:World} {m:Nat} {l:List (Nat × Nat)} {t kt et:TypeId}
end
end Go.Proofs.XPtr

namespace Go.Proofs.YteeeggphkhimcaaGreatDoor
open Go Go.Proofs Go.RowKit Go.Proofs.XRed Go.Proofs.XHeap Go.Proofs.XMaps Go.Proofs.XSlices Go.Proofs.XDisk Go.Proofs.XCalls Go.Proofs.XRange Go.Proofs.XKeys Go.Proofs.XPtr Tryz
section
variable {w w0:World} {D:Nat} {S S':AD} {O I:Nat → Prop} {L:Lay} {k:KV}
abbrev Twins := List (Nat × Nat × Value)
section
variable {ov M dk m1 m2:Nat} {d1 d2:Names} {rv rdv:Value} {rs:List Turn} {tl tl':Twins} {w':World}
end
end
end Go.Proofs.YteeeggphkhimcaaGreatDoor

namespace Go.Proofs.YteeeggphkhimcaaGreatDoor
open Go Go.Proofs Go.RowKit Go.Proofs.XRed Go.Proofs.XHeap Go.Proofs.XMaps Go.Proofs.XSlices Go.Proofs.XDisk Go.Proofs.XCalls Go.Proofs.XSep Tryz
def Dk (D:Nat) (S:AD) : Asrt where
 h w O I := ∃ L,DRep w D S O I L
 fr := fun ⟨L,h⟩ hf hm => ⟨L,h.fr hf hm⟩
 lt := fun ⟨L,h⟩ => h.lt
 ap := fun ⟨L,h⟩ => h.apart
theorem Nx.nxt {w w':World} {D:Nat} {S':AD} {O I O' I' J:Nat → Prop} {L':Lay} (h:Nx w D O I w' S' O' I' L') (hJ:∀ b,I b → J b) : Nxt w O J w' O' I' :=
 ⟨h.fr,h.on,fun b hb => (h.in_ b hb).imp (hJ b) id⟩
theorem Sep.disk {l:List Asrt} {w:World} (h:Sep l w) (i:Nat) {D:Nat} {S:AD} (hi:l[i]? = some (Dk D S)) :
    ∃ O I L,DRep w D S O I L ∧ ∀ w' S' O' I' L',Nx w D O I w' S' O' I' L' → Sep (l.set i (Dk D S')) w' := by
  obtain ⟨O,I,J,⟨L,h1⟩,h2,-,h3⟩ := h.at_ i hi
  exact ⟨O,I,L,h1,fun w' S' O' I' L' hx => h3 _ w' O' I' ⟨L',hx.rep⟩ (hx.nxt h2)⟩
structure RLay where
 has : Nat → Prop
 loc : Nat → Nat
 trow : Nat → Value
 nowv : Value
 befv : Value
 turnv : Value
 toldv : Value
section
variable {w:World} {D:Nat} {S S':AD} {O I:Nat → Prop} {L L':RLay} {k:KV}
end
section
variable {w w0:World} {D:Nat} {S S':AD} {O I:Nat → Prop} {L L':RLay} {k:KV}
end
section
variable {w w0:World} {D:Nat} {S S':AD} {O I:Nat → Prop} {L L':RLay} {k:KV}
end
section
variable {w w0:World} {D:Nat} {S S':AD} {O I:Nat → Prop} {L L':RLay} {k:KV}
theorem okByte_nat (c:UInt8) : okByte c = decide ((97 ≤ c.toNat ∧ c.toNat ≤ 122) ∨ (48 ≤ c.toNat ∧ c.toNat ≤ 57) ∨ c.toNat = 46 ∨ c.toNat = 45 ∨ c.toNat = 95 ∨ c.toNat = 43) := by
 unfold okByte
 have e : ∀ d : UInt8,(c == d) = decide (c.toNat = d.toNat) := by
  intro d
  by_cases h : c = d
  ·subst h; simp
  ·have : c.toNat ≠ d.toNat := fun h' => h (UInt8.toNat_inj.1 h')
   simp [h,this]
 rw [e 46,e 45,e 95,e 43]
 simp [UInt8.le_iff_toNat_le,Bool.or_assoc]
set_option maxHeartbeats 4000000 in
theorem r_isName (s:ByteArray) (hk:k (.bool (isName s)) w) : pFn P 48 [.string s] w k := by
 refine F48_in _ _ _ ?_
 unfold F48_0
 refine s_lens underlying9 ?_
 have short : s.size < 1 ∨ s.size > 112 → k (.bool false) w := by
  intro h
  have : isName s = false := by
   unfold isName
   have h2 : (decide (1 ≤ s.size) && decide (s.size ≤ 112)) = false := by
    rcases h with h | h
    ·rw [decide_eq_false (by omega)]; rfl
    ·rw [decide_eq_false (by omega:¬ s.size ≤ 112)]; simp
   rw [Bool.and_assoc,h2]; simp
  rwa [this] at hk
 by_cases h1 : s.size < 1
 ·refine s_lt_t (by omega) ?_
  repeat (first | refine pG_skf ?_ | refine pG_un ?_)
  exact s_pick_t (pC_true (short (.inl h1)))
 refine s_lt_f (by omega) (pG_yes rfl (pG_yes rfl (s_lens underlying9 (pG_yes rfl ?_))))
 by_cases h2 : s.size > 112
 ·exact s_gt_t (by omega) (s_pick_f (pC_true (short (.inr h2))))
 refine s_gt_f (by omega) (s_pick_f (pC_false ?_))
 clear short
 have hall : isName s = s.data.toList.all okByte := by
  unfold isName
  rw [decide_eq_true (by omega),decide_eq_true (by omega)]; simp
 rw [hall] at hk
 refine F48L1_inv (m := s.size) k (fun m ρ w' => ∃ i : Nat,i + m = s.size ∧ w' = w ∧ ρ 0 = .string s ∧ ρ 3 = i64 i ∧ ∀ j (hj:j < s.size),j < i → okByte s[j] = true) ?_ ⟨0,by omega,rfl,rfl,rfl,fun j _ hj => absurd hj (by omega)⟩
 rintro m ρ w' ⟨i,him,rfl,e0,e3,hok⟩
 rw [F48_1_eq]
 unfold F48_1
 rw [e0,e3]
 refine s_lens underlying9 ?_
 by_cases hi : i < s.size
 ·refine s_lt_t (by omega) (pC_true (s_ixs underlying9 hi ?_))
  have hb := okByte_nat s[i]
  have hlt := s[i].toNat_lt
  have good : okByte s[i] = true → ∀ j (hj:j < s.size),j < i + 1 → okByte s[j] = true := by
   intro h j hj hji
   by_cases e : j = i
   ·subst e; exact h
   ·exact hok j hj (by omega)
  have bad : okByte s[i] = false → k (.bool false) w' := by
   intro h
   have : s.data.toList.all okByte = false := by
    rw [Bool.eq_false_iff]
    intro ha
    rw [List.all_eq_true] at ha
    have := ha s[i] (by
     have : i < s.data.toList.length := by simpa using hi
     have e : s[i] = s.data.toList[i] := rfl
     rw [e]; exact List.getElem_mem _)
    rw [h] at this; cases this
   rwa [this] at hk
  clear hk hall
  generalize s[i].toNat = n at *
  generalize okByte s[i] = okb at *
  have cases_ : (97 ≤ n ∧ n ≤ 122) ∨ (48 ≤ n ∧ n ≤ 57) ∨ n = 46 ∨ n = 45 ∨ n = 95 ∨ n = 43 ∨ n < 43 ∨ n = 44 ∨ n = 47 ∨ (58 ≤ n ∧ n ≤ 94) ∨ n = 96 ∨ 122 < n := by omega
  have fin : ∀ (ρ':Env),ρ' 0 = .string s → ρ' 3 = i64 (i + 1) → okb = true → (∃ m',m' < m ∧ ∃ i : Nat,i + m' = s.size ∧ w' = w' ∧ ρ' 0 = .string s ∧ ρ' 3 = i64 i ∧ ∀ j (hj:j < s.size),j < i → okByte s[j] = true) :=
   fun ρ' a0 a3 h => ⟨m - 1,by omega,i + 1,by omega,rfl,a0,by rw [a3]; show i64 _ = i64 _; simp,good h⟩
  rcases cases_ with h | h | h | h | h | h | h | h | h | h | h | h
  all_goals
   repeat (first | refine pG_yes rfl ?_ | refine pG_sk ?_ | refine pG_skf ?_ | refine pG_un ?_ | refine s_pick_t ?_ | refine s_pick_f ?_ | refine s_not ?_ | refine pC_true ?_ | refine pC_false ?_ | refine s_ge_t (by omega) ?_ | refine s_ge_f (by omega) ?_ | refine s_le_t (by omega) ?_ | refine s_le_f (by omega) ?_ | refine s_eqi_t (by omega) ?_ | refine s_eqi_f (by omega) ?_)
   first
    | exact bad (by rw [hb]; exact decide_eq_false (by omega))
    | exact s_add_in (by omega) (fin _ e0 rfl (by rw [hb]; exact decide_eq_true (by omega)))
 ·refine s_lt_f (by omega) (pC_false ?_)
  rw [F48_2_eq]
  have : s.data.toList.all okByte = true := by
   rw [List.all_eq_true]
   intro c hc
   obtain ⟨j,hj,rfl⟩ := List.getElem_of_mem hc
   have hj' : j < s.size := by simpa using hj
   exact hok j hj' (by omega)
  rw [this] at hk
  exact hk
end
section
variable {w w0:World} {D:Nat} {S S':AD} {O I:Nat → Prop} {L L':RLay} {k:KV}
end
section
variable {w w0:World} {D:Nat} {S S':AD} {O I:Nat → Prop} {L L':RLay} {k:KV}
end
section
variable {w w0:World} {D:Nat} {S S':AD} {O I:Nat → Prop} {L L':RLay} {k:KV}
end
section
variable {w w0:World} {D:Nat} {S S':AD} {O I:Nat → Prop} {L L':RLay} {k:KV}
end
section
variable {w w0:World} {D:Nat} {S S':AD} {O I:Nat → Prop} {L L':RLay} {k:KV}
theorem Src.fr0 {O:Nat → Prop} {w w':World} {x:Value} {size m:Nat} {cs:List Value} (h:Src w x size m cs) (hs:0 < size) (hf:Fr O w w') (hn:0 < m → ∀ b,sblk x = some b → ¬ O b) : Src w' x size m cs := by
 by_cases h0 : 0 < m
 ·exact h.fr hs hf (hn h0)
 ·obtain ⟨A,c,e,hc,hl,_⟩ := h
  exact ⟨A,c,e,hc,hl,fun h1 => absurd h1 h0⟩
theorem SBytes.fr0 {O:Nat → Prop} {w w':World} {x:Value} {bs:Bytes} (h:SBytes w x bs) (hf:Fr O w w') (hn:0 < bs.length → ∀ b,sblk x = some b → ¬ O b) : SBytes w' x bs := Src.fr0 h (by omega) hf hn
end
section
variable {w w0:World} {D:Nat} {S S':AD} {O I:Nat → Prop} {L L':RLay} {k:KV}
end
section
variable {w w0:World} {D:Nat} {S S':AD} {O I:Nat → Prop} {L L':RLay} {k:KV}
end
section
variable {w w0:World} {D:Nat} {S S':AD} {O I:Nat → Prop} {L L':RLay} {k:KV}
end
end Go.Proofs.YteeeggphkhimcaaGreatDoor

namespace Go.Proofs.XRow
open Go Go.ChangeShapes Go.WideShapes Go.ChangeAt Go.RowKit Go.Proofs.XRed Go.Proofs.XHeap Go.Proofs.XSlices
section
variable {H:Type} {enc:TypeId × Value → H} {P:Program}
theorem post_of_below {f:Func} {s:ChangeSpec} {apart fresh handsOn again:Bool} {W W':World} {args:Array Value} {v:Value} {ds gs:List (DataW H)} {before pa pv:List MemPlace}
    (hW:DataW.Whole enc P f.params.toList s.vars apart W args.toList ds gs before) (hb:Below W.heap.size W W')
    (hres:∀ (b:Nat) (sp:Nat → Bool) (hd:Bool),DataW.TrodAll enc P W' b sp hd f.resultTypes.toList (v.resultList f.resultTypes.size) (s.fn H (ds ++ gs)).results [])
    (hargs:∀ sp : Nat → Bool,(∀ p ∈ before,sp p.block = true) → DataW.TrodAll enc P W' 0 sp true f.params.toList args.toList (s.fn H (ds ++ gs)).args pa)
    (hvars:∀ sp : Nat → Bool,(∀ p ∈ before,sp p.block = true) → DataW.TrodVars enc P W' sp s.vars (s.fn H (ds ++ gs)).vars pv)
    (hps:before = pa ++ pv)
    (hok:∀ (j:Nat) (t:TypeId) (r:Value),f.resultTypes[j]? = some t → (v.resultList f.resultTypes.size)[j]? = some r → Value.okWide P W' .any 0 t r) :
    s.post enc P f apart fresh handsOn again W args v W' := by
  have hold : ∀ p ∈ before,(fun b => decide (b < W.heap.size)) p.block = true := fun p hp => by simpa using hW.lt p hp
  refine ⟨ds,gs,before,[],pa,pv,hW,hres _ _ _,hargs _ hold,hvars _ hold,hb.frame _,fun _ => ?_⟩
  have hlt := hW.lt
  obtain ⟨_,_,_,_,_,hz,hn⟩ := hW
  refine ⟨hok,_,_,([] ++ pa) ++ pv,⟨[] ++ pa,pv,trodAll_append (hargs _ (fun _ _ => rfl)) (hres _ _ _),hvars _ (fun _ _ => rfl),rfl,?_,?_⟩,?_⟩
  · intro b off hp
    have hp' : MemPlace.cell b off ∈ before := by rw [hps]; simpa using hp
    have h1 := hz b off hp'
    have h2 : b < W.heap.size := hlt _ hp'
    unfold World.frozen? at *
    rw [hb.block _ h2]
    exact h1
  · intro ha
    have := hn ha
    rw [hps] at this
    simpa using this
  · intro p hp _
    rw [hps]
    simpa using hp
theorem stays {t:TypeId} (hl:laidOutB P = true) (hr:P.readableRec t = true) (hrow:t < P.types.size) {W W':World} {v:Value} {d:DataW H} {ps:List MemPlace} {sp:Nat → Bool}
    (h:DataW.Trod enc P W 0 (fun _ => true) true t v d ps) (hb:Below W.heap.size W W') (hlt:∀ x ∈ ps,x.block < W.heap.size) (hs:∀ x ∈ ps,sp x.block = true) : DataW.Trod enc P W' 0 sp true t v d ps :=
  WideElems.Trod_stays hl hr hrow h (fun x hx => hb.same (hlt x hx)) hs
def Fine (W:World) (v:Value) (w':World) : Prop := v = .bool true ∧ Below W.heap.size W w'
theorem fine {O:Nat → Prop} {W:World} (hO:∀ b,O b → W.heap.size ≤ b) : ∀ w',Fr O W w' → Fine W (.bool true) w' := fun w' hf => ⟨rfl,hf.to_below hO (Nat.le_refl _)⟩
theorem calls_true {f : FuncId} {fn : Func} (hf : P.funcs[f]? = some fn) (hname : (fn.name == "runtime.NumGoroutine") = false) (hbody : fn.body.isNone = false) {args : List Value} {W : World} (h : pFn P f args W (Fine W)) :
    Calls P f args.toArray W fun e w' => e = .returned (.bool true) ∧ Below W.heap.size W w' := by
  refine (calls_of_pFn hf hname hbody h).mono ?_
  rintro e w' ⟨v,rfl,rfl,hb⟩
  exact ⟨rfl,hb⟩
end
end Go.Proofs.XRow

namespace Go.Proofs.YteeeggphkhimcaaGreatDoor
open Go Go.ChangeShapes Go.WideShapes Go.ChangeAt Go.RowKit Go.Proofs Go.Proofs.XRed Go.Proofs.XHeap Go.Proofs.XSlices Go.Proofs.XRow Go.Proofs.XDisk Tryz
section
variable {H:Type} {enc:TypeId × Value → H}
variable {W:World}
def Len (d:DataW H) (n:Nat) : Prop := n = 0 ∨ ∃ e s,d = .slice e s ∧ e.length = n
theorem open_bytes {fuel:Nat} {cs:List Value} {x:DataW H × List MemPlace} (h:DataW.trod enc prog W 0 (fun _ => true) true fuel 23 cs = some x) : ∃ (dv:Value) (d:Bytes),cs = [dv] ∧ SBytes W dv d ∧ Len x.1 d.length := by
 rcases open_ints underlying23 underlying5 (by kernel_rfl) h with ⟨rfl,rfl⟩ | ⟨a,len,cap,zs,rfl,_,hl,hm,hz,rfl,hcell,hwf⟩
 ·exact ⟨_,[],rfl,SBytes.nil _,.inl rfl⟩
 ·simp only [if_true] at hz
  have hbyte : ∀ z ∈ zs,((UInt8.ofNat z.toNat).toNat : Int) = z := by
   intro z hz
   have hb := hwf z hz
   simp only [Lit.wf,IntKind.min,IntKind.max,IntKind.signed,IntKind.bits] at hb
   simp at hb
   have : (UInt8.ofNat z.toNat).toNat = z.toNat := by simp; omega
   rw [this]; omega
  have hlen : ((zs.take len).map fun z => UInt8.ofNat z.toNat).length = len := by simp; omega
  refine ⟨_,(zs.take len).map fun z => UInt8.ofNat z.toNat,rfl,?_,?_⟩
  ·unfold SBytes
   rw [hlen]
   obtain ⟨b,off,spot⟩ := a
   refine ⟨some ⟨b,off,spot⟩,cap,rfl,hl,by simp [u8s]; omega,fun h0 => ?_⟩
   have hspot : spot = none := by simpa [Addr.add] using World.cell?_spot (hcell 0 (by omega))
   subst hspot
   refine ⟨b,off,rfl,fun j u hj => ?_⟩
   unfold u8s at hj
   rw [List.map_map,List.getElem?_map] at hj
   obtain ⟨z,hz',rfl⟩ := Option.map_eq_some_iff.1 hj
   have hjl : j < len := by
    have := (List.getElem?_eq_some_iff.1 hz').1
    simp at this; omega
   rw [List.getElem?_take_of_lt hjl] at hz'
   have := hcell j (by omega)
   rw [add_at,List.getD,hz'] at this
   rw [this]
   show some (Value.int .u8 z) = some (Value.int .u8 ((UInt8.ofNat z.toNat).toNat : Int))
   rw [hbyte z (List.mem_of_getElem? hz')]
  ·rw [hlen]
   exact .inr ⟨lits .u8 (zs.take len),lits .u8 (zs.drop len),rfl,by simp [lits]; omega⟩
end
end Go.Proofs.YteeeggphkhimcaaGreatDoor
