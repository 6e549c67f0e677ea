/- Put together by a program (wip/tools/shake.py): R3,Law,R4. -/
import Derived.Test.YteeeggphkhimcaaGreatDoorE1
import Derived.Test.YteeeggphkhimcaaGreatDoorProg
import Derived.Test.YteeeggphkhimcaaGreatDoorMix
import Derived.Test.YteeeggphkhimcaaGreatDoorE7
import Derived.Test.YteeeggphkhimcaaGreatDoorE11
set_option linter.unusedVariables false
set_option maxRecDepth 100000
namespace Go.Proofs.YteeeggphkhimcaaGreatDoor
open Go Go.Proofs Go.Proofs.XRed Tryz
open Go.Instr (fieldAt loadAt storeAt indexAt sliceAt extract)
noncomputable def F12B : Code := bodyOf f12
def F12A (k:KV) (q:List Nat) (ρ:Env) (w:World) : Prop := At prog 159 F12B (retQ prog f12.results.toList k) q ρ w
def F12_0 (room0:Value) (l1:Value) (name2:Value) (data3:Value) (full4:Value) (picks5:Value) (w:World) (k:KV) : Prop :=
 pFn prog 52 [room0,(.int .i64 4000)] w fun v29 w =>
 px prog (binSem .add 3 (.const (.int .i64 1)) (.tmp 29) (.int .i64 1) v29) w fun v30 w =>
 pFn prog 53 [v30,l1] w fun v34 w =>
 px prog (extract v34 0) w fun v35 w =>
 px prog (extract v34 1) w fun v36 w =>
 pFn prog 18 [] w fun v37 w =>
 px prog (Op.unary .not v37) w fun v38 w =>
 pG v38 false (fun k => k v35 w) (w := w) (next := fun v40 w =>
 pG v38 false (fun k => px prog (binSem .eql 24 (.tmp 40) (.const (.pointer none)) v40 (.pointer none)) w k) (w := w) (next := fun v41 w =>
 px prog (pickSem v38 (.bool true) v41) w fun v42 w =>
 pC v42 (
 k (.bool false) w)
 (
 px prog (binSem .add 9 (.const (.string (ByteArray.mk #[43]))) (.tmp 43) (.string (ByteArray.mk #[43])) name2) w fun v44 w =>
 pFn prog 54 [v36,v44] w fun v48 w =>
 px prog (extract v48 0) w fun v49 w =>
 px prog (extract v48 1) w fun v50 w =>
 px prog (binSem .gtr 3 (.tmp 51) (.const (.int .i64 0)) full4 (.int .i64 0)) w fun v52 w =>
 pC v52 (
 px prog (Instr.build 85 #[(1,full4),(2,full4)]) w fun v56 w =>
 pFn prog 55 [v35,v56] w fun v57 w =>
 F12A k [1,1,1,1,1,1,1] (put (put (put (put (put (put (put (put (put (put (put (put (put (put (put (put (put (put (put (put (put (put (put (put (put (put (put (put (put (put (put (put (put (put (put (put (put (argEnv [room0,l1,name2,data3,full4,picks5]) 12 (.bool false)) 28 room0) 29 v29) 30 v30) 0 v30) 32 v30) 33 l1) 34 v34) 31 v34) 35 v35) 36 v36) 13 v35) 14 v36) 37 v37) 38 v38) 39 v38) 40 v40) 41 v41) 42 v42) 43 name2) 44 v44) 15 v44) 46 v36) 47 v44) 48 v48) 45 v48) 49 v49) 50 v50) 16 v49) 17 v50) 51 full4) 52 v52) 53 v35) 54 full4) 55 full4) 56 v56) 57 v57) w)
 (
 F12A k [1,1,1,1,1,1,1] (put (put (put (put (put (put (put (put (put (put (put (put (put (put (put (put (put (put (put (put (put (put (put (put (put (put (put (put (put (put (put (put (argEnv [room0,l1,name2,data3,full4,picks5]) 12 (.bool false)) 28 room0) 29 v29) 30 v30) 0 v30) 32 v30) 33 l1) 34 v34) 31 v34) 35 v35) 36 v36) 13 v35) 14 v36) 37 v37) 38 v38) 39 v38) 40 v40) 41 v41) 42 v42) 43 name2) 44 v44) 15 v44) 46 v36) 47 v44) 48 v48) 45 v48) 49 v49) 50 v50) 16 v49) 17 v50) 51 full4) 52 v52) w))))
theorem F12_0_eq (room0:Value) (l1:Value) (name2:Value) (data3:Value) (full4:Value) (picks5:Value) (w:World) (k:KV) : F12A k [] (argEnv [room0,l1,name2,data3,full4,picks5]) w = F12_0 room0 l1 name2 data3 full4 picks5 w k := by kernel_rfl
def F12_1 (k:KV) (ρ:Env) (w:World) : Prop :=
 pFn prog 19 [(ρ 13),(ρ 2),(ρ 3)] w fun v61 w =>
 pFn prog 22 [(ρ 13)] w fun v63 w =>
 pFn prog 56 [(ρ 13)] w fun v65 w =>
 pFn prog 57 [(ρ 13),(ρ 5)] w fun v68 w =>
 pFn prog 22 [(ρ 13)] w fun v70 w =>
 pFn prog 24 [v70,v63] w fun v72 w =>
 px prog (Op.unary .not v72) w fun v73 w =>
 pC v73 (
 k (.bool false) w)
 (
 pFn prog 54 [v63,(ρ 2)] w fun v77 w =>
 px prog (extract v77 0) w fun v78 w =>
 px prog (extract v77 1) w fun v79 w =>
 pFn prog 54 [(ρ 14),(ρ 2)] w fun v83 w =>
 px prog (extract v83 0) w fun v84 w =>
 px prog (extract v83 1) w fun v85 w =>
 pFn prog 54 [v63,(ρ 15)] w fun v89 w =>
 px prog (extract v89 0) w fun v90 w =>
 px prog (extract v89 1) w fun v91 w =>
 pFn prog 43 [v61] w fun v93 w =>
 px prog (binSem .eql 25 (.tmp 93) (.const (.int .i64 0)) v93 (.int .i64 0)) w fun v95 w =>
 pC v95 (
 pC (ρ 17) (
 F12A k [1,1,1,1,1,1,1,1,1,1,1,1,1,1,1,0,1,0,1,0,1,1] (put (put (put (put (put (put (put (put (put (put (put (put (put (put (put (put (put (put (put (put (put (put (put (put (put (put (put (put (put (put (put (put (put (put (put (put (put (put (put (put (put (put (put (put (put (put (put (put (put (put ρ 58 (ρ 13)) 59 (ρ 2)) 60 (ρ 3)) 61 v61) 18 v61) 62 (ρ 13)) 63 v63) 19 v63) 64 (ρ 13)) 65 v65) 20 v65) 66 (ρ 13)) 67 (ρ 5)) 68 v68) 69 (ρ 13)) 70 v70) 71 v63) 72 v72) 73 v73) 75 v63) 76 (ρ 2)) 77 v77) 74 v77) 78 v78) 79 v79) 21 v78) 22 v79) 81 (ρ 14)) 82 (ρ 2)) 83 v83) 80 v83) 84 v84) 85 v85) 23 v84) 24 v85) 87 v63) 88 (ρ 15)) 89 v89) 86 v89) 90 v90) 91 v91) 25 v90) 26 v91) 92 v61) 93 v93) 95 v95) 94 v95) 27 (.int .i64 5)) 96 (ρ 17)) 27 (.int .i64 6)) w)
 (
 F12A k [1,1,1,1,1,1,1,1,1,1,1,1,1,1,1,0,1,0,1,0,1,1] (put (put (put (put (put (put (put (put (put (put (put (put (put (put (put (put (put (put (put (put (put (put (put (put (put (put (put (put (put (put (put (put (put (put (put (put (put (put (put (put (put (put (put (put (put (put (put (put (put ρ 58 (ρ 13)) 59 (ρ 2)) 60 (ρ 3)) 61 v61) 18 v61) 62 (ρ 13)) 63 v63) 19 v63) 64 (ρ 13)) 65 v65) 20 v65) 66 (ρ 13)) 67 (ρ 5)) 68 v68) 69 (ρ 13)) 70 v70) 71 v63) 72 v72) 73 v73) 75 v63) 76 (ρ 2)) 77 v77) 74 v77) 78 v78) 79 v79) 21 v78) 22 v79) 81 (ρ 14)) 82 (ρ 2)) 83 v83) 80 v83) 84 v84) 85 v85) 23 v84) 24 v85) 87 v63) 88 (ρ 15)) 89 v89) 86 v89) 90 v90) 91 v91) 25 v90) 26 v91) 92 v61) 93 v93) 95 v95) 94 v95) 27 (.int .i64 5)) 96 (ρ 17)) w))
 (
 px prog (binSem .eql 25 (.tmp 93) (.const (.int .i64 55)) v93 (.int .i64 55)) w fun v124 w =>
 pC v124 (
 F12A k [1,1,1,1,1,1,1,1,1,1,1,1,1,1,1,0,1,0,1,1,1] (put (put (put (put (put (put (put (put (put (put (put (put (put (put (put (put (put (put (put (put (put (put (put (put (put (put (put (put (put (put (put (put (put (put (put (put (put (put (put (put (put (put (put (put (put (put (put (put (put ρ 58 (ρ 13)) 59 (ρ 2)) 60 (ρ 3)) 61 v61) 18 v61) 62 (ρ 13)) 63 v63) 19 v63) 64 (ρ 13)) 65 v65) 20 v65) 66 (ρ 13)) 67 (ρ 5)) 68 v68) 69 (ρ 13)) 70 v70) 71 v63) 72 v72) 73 v73) 75 v63) 76 (ρ 2)) 77 v77) 74 v77) 78 v78) 79 v79) 21 v78) 22 v79) 81 (ρ 14)) 82 (ρ 2)) 83 v83) 80 v83) 84 v84) 85 v85) 23 v84) 24 v85) 87 v63) 88 (ρ 15)) 89 v89) 86 v89) 90 v90) 91 v91) 25 v90) 26 v91) 92 v61) 93 v93) 95 v95) 94 v95) 124 v124) 123 v124) w)
 (
 px prog (binSem .eql 25 (.tmp 93) (.const (.int .i64 56)) v93 (.int .i64 56)) w fun v125 w =>
 F12A k [1,1,1,1,1,1,1,1,1,1,1,1,1,1,1,0,1,0,1,1,1] (put (put (put (put (put (put (put (put (put (put (put (put (put (put (put (put (put (put (put (put (put (put (put (put (put (put (put (put (put (put (put (put (put (put (put (put (put (put (put (put (put (put (put (put (put (put (put (put (put (put (put ρ 58 (ρ 13)) 59 (ρ 2)) 60 (ρ 3)) 61 v61) 18 v61) 62 (ρ 13)) 63 v63) 19 v63) 64 (ρ 13)) 65 v65) 20 v65) 66 (ρ 13)) 67 (ρ 5)) 68 v68) 69 (ρ 13)) 70 v70) 71 v63) 72 v72) 73 v73) 75 v63) 76 (ρ 2)) 77 v77) 74 v77) 78 v78) 79 v79) 21 v78) 22 v79) 81 (ρ 14)) 82 (ρ 2)) 83 v83) 80 v83) 84 v84) 85 v85) 23 v84) 24 v85) 87 v63) 88 (ρ 15)) 89 v89) 86 v89) 90 v90) 91 v91) 25 v90) 26 v91) 92 v61) 93 v93) 95 v95) 94 v95) 124 v124) 123 v124) 125 v125) 123 v125) w)))
theorem F12_1_eq (k:KV) (ρ:Env) (w:World) : F12A k [1,1,1,1,1,1,1] ρ w = F12_1 k ρ w := by kernel_rfl
def F12_2 (k:KV) (ρ:Env) (w:World) : Prop :=
 pG (ρ 22) true (fun k => k (ρ 21) w) (w := w) (next := fun v99 w =>
 pG (ρ 22) true (fun k => k (ρ 3) w) (w := w) (next := fun v100 w =>
 pG (ρ 22) true (fun k => pFn prog 21 [v99,v100] w k) (w := w) (next := fun v101 w =>
 px prog (pickSem (ρ 22) v101 (.bool false)) w fun v102 w =>
 pG v102 true (fun k => k (ρ 26) w) (w := w) (next := fun v104 w =>
 pG v102 true (fun k => px prog (Op.unary .not v104) w k) (w := w) (next := fun v105 w =>
 px prog (pickSem v102 v105 (.bool false)) w fun v106 w =>
 pG v106 true (fun k => k (ρ 20) w) (w := w) (next := fun v108 w =>
 pG v106 true (fun k => k (ρ 27) w) (w := w) (next := fun v109 w =>
 pG v106 true (fun k => px prog (binSem .eql 3 (.tmp 108) (.tmp 109) v108 v109) w k) (w := w) (next := fun v110 w =>
 px prog (pickSem v106 v110 (.bool false)) w fun v111 w =>
 pG v111 true (fun k => k (ρ 2) w) (w := w) (next := fun v113 w =>
 pG v111 true (fun k => pFn prog 47 [v113] w k) (w := w) (next := fun v114 w =>
 px prog (pickSem v111 v114 (.bool false)) w fun v115 w =>
 pG v115 true (fun k => k (ρ 14) w) (w := w) (next := fun v117 w =>
 pG v115 true (fun k => k (ρ 19) w) (w := w) (next := fun v118 w =>
 pG v115 true (fun k => k (ρ 2) w) (w := w) (next := fun v119 w =>
 pG v115 true (fun k => k (ρ 15) w) (w := w) (next := fun v120 w =>
 pG v115 true (fun k => pFn prog 58 [v117,v118,v119,v120] w k) (w := w) (next := fun v121 w =>
 px prog (pickSem v115 v121 (.bool false)) w fun v122 w =>
 k v122 w)))))))))))))))
theorem F12_2_eq (k:KV) (ρ:Env) (w:World) : F12A k [1,1,1,1,1,1,1,1,1,1,1,1,1,1,1,0,1,0,1,0,1,1] ρ w = F12_2 k ρ w := by kernel_rfl
def F12_3 (k:KV) (ρ:Env) (w:World) : Prop :=
 pC (ρ 123) (
 px prog (binSem .eql 4 (.tmp 126) (.tmp 127) (ρ 22) (ρ 24)) w fun v128 w =>
 pG v128 true (fun k => k (ρ 21) w) (w := w) (next := fun v130 w =>
 pG v128 true (fun k => k (ρ 23) w) (w := w) (next := fun v131 w =>
 pG v128 true (fun k => pFn prog 21 [v130,v131] w k) (w := w) (next := fun v132 w =>
 px prog (pickSem v128 v132 (.bool false)) w fun v133 w =>
 pG v133 true (fun k => k (ρ 26) w) (w := w) (next := fun v135 w =>
 pG v133 true (fun k => px prog (Op.unary .not v135) w k) (w := w) (next := fun v136 w =>
 px prog (pickSem v133 v136 (.bool false)) w fun v137 w =>
 pG v137 true (fun k => k (ρ 14) w) (w := w) (next := fun v139 w =>
 pG v137 true (fun k => k (ρ 19) w) (w := w) (next := fun v140 w =>
 pG v137 true (fun k => k (ρ 2) w) (w := w) (next := fun v141 w =>
 pG v137 true (fun k => k (ρ 15) w) (w := w) (next := fun v142 w =>
 pG v137 true (fun k => pFn prog 58 [v139,v140,v141,v142] w k) (w := w) (next := fun v143 w =>
 px prog (pickSem v137 v143 (.bool false)) w fun v144 w =>
 k v144 w)))))))))))
 (
 px prog (binSem .eql 25 (.tmp 93) (.const (.int .i64 51)) (ρ 93) (.int .i64 51)) w fun v146 w =>
 pC v146 (
 pFn prog 47 [(ρ 2)] w fun v148 w =>
 px prog (Op.unary .not v148) w fun v149 w =>
 pG v149 true (fun k => k (ρ 20) w) (w := w) (next := fun v151 w =>
 pG v149 true (fun k => px prog (binSem .eql 3 (.tmp 151) (.const (.int .i64 0)) v151 (.int .i64 0)) w k) (w := w) (next := fun v152 w =>
 px prog (pickSem v149 v152 (.bool false)) w fun v153 w =>
 pG v153 true (fun k => k (ρ 14) w) (w := w) (next := fun v155 w =>
 pG v153 true (fun k => k (ρ 19) w) (w := w) (next := fun v156 w =>
 pG v153 true (fun k => pFn prog 24 [v155,v156] w k) (w := w) (next := fun v157 w =>
 px prog (pickSem v153 v157 (.bool false)) w fun v158 w =>
 k v158 w))))))
 (
 k (.bool false) w))
theorem F12_3_eq (k:KV) (ρ:Env) (w:World) : F12A k [1,1,1,1,1,1,1,1,1,1,1,1,1,1,1,0,1,0,1,1,1] ρ w = F12_3 k ρ w := by kernel_rfl
theorem F12_in (room0:Value) (l1:Value) (name2:Value) (data3:Value) (full4:Value) (picks5:Value) (w:World) (k:KV) (h:F12_0 room0 l1 name2 data3 full4 picks5 w k) : pFn prog 12 [room0,l1,name2,data3,full4,picks5] w k :=
 pFn_of_at mixed func12 (by kernel_rfl) (by kernel_rfl) ntmps12 (by kernel_rfl) (by kernel_rfl) (by simp) ((F12_0_eq room0 l1 name2 data3 full4 picks5 w k).mpr h)
noncomputable def F18B : Code := bodyOf f18
def F18A (k:KV) (q:List Nat) (ρ:Env) (w:World) : Prop := At prog 50 F18B (retQ prog f18.results.toList k) q ρ w
def F18_0  (w:World) (k:KV) : Prop :=
 pFn prog 17 [(.int .i64 50)] w fun v8 w =>
 px prog (extract v8 0) w fun v9 w =>
 px prog (extract v8 1) w fun v10 w =>
 px prog (binSem .neq 25 (.tmp 11) (.const (.int .i64 0)) v10 (.int .i64 0)) w fun v12 w =>
 pG v12 false (fun k => k v9 w) (w := w) (next := fun v14 w =>
 pG v12 false (fun k => px prog (binSem .eql 24 (.tmp 14) (.const (.pointer none)) v14 (.pointer none)) w k) (w := w) (next := fun v15 w =>
 px prog (pickSem v12 (.bool true) v15) w fun v16 w =>
 pG v16 false (fun k => k v9 w) (w := w) (next := fun v18 w =>
 pG v16 false (fun k => px prog (Instr.buildSlice 23 2 #[(0,(.int .u8 120)),(1,(.int .u8 121))]) w k) (w := w) (next := fun v19 w =>
 pG v16 false (fun k => px prog (convert 23 23 v19) w k) (w := w) (next := fun v20 w =>
 pG v16 false (fun k => pFn prog 19 [v18,(.string (ByteArray.mk #[97])),v20] w k) (w := w) (next := fun v21 w =>
 pG v16 false (fun k => px prog (binSem .neq 31 (.tmp 21) (.const .nilIface) v21 .nilIface) w k) (w := w) (next := fun v22 w =>
 px prog (pickSem v16 (.bool true) v22) w fun v23 w =>
 pC v23 (
 k (.bool false) w)
 (
 pFn prog 20 [v9,(.string (ByteArray.mk #[97]))] w fun v26 w =>
 px prog (extract v26 0) w fun v27 w =>
 px prog (extract v26 1) w fun v28 w =>
 pFn prog 20 [v9,(.string (ByteArray.mk #[98]))] w fun v31 w =>
 px prog (extract v31 0) w fun v32 w =>
 px prog (extract v31 1) w fun v33 w =>
 px prog (binSem .eql 31 (.tmp 34) (.const .nilIface) v28 .nilIface) w fun v35 w =>
 pG v35 true (fun k => k v27 w) (w := w) (next := fun v37 w =>
 pG v35 true (fun k => px prog (convert 23 9 v37) w k) (w := w) (next := fun v38 w =>
 pG v35 true (fun k => px prog (binSem .eql 9 (.tmp 38) (.const (.string (ByteArray.mk #[120,121]))) v38 (.string (ByteArray.mk #[120,121]))) w k) (w := w) (next := fun v39 w =>
 px prog (pickSem v35 v39 (.bool false)) w fun v40 w =>
 pG v40 true (fun k => k v9 w) (w := w) (next := fun v42 w =>
 pG v40 true (fun k => pFn prog 56 [v42] w k) (w := w) (next := fun v43 w =>
 pG v40 true (fun k => px prog (binSem .eql 3 (.tmp 43) (.const (.int .i64 5)) v43 (.int .i64 5)) w k) (w := w) (next := fun v44 w =>
 px prog (pickSem v40 v44 (.bool false)) w fun v45 w =>
 pG v45 true (fun k => k v33 w) (w := w) (next := fun v47 w =>
 pG v45 true (fun k => pFn prog 49 [v47,(.string (ByteArray.mk #[103,101,116])),(.string (ByteArray.mk #[98])),(.int .i64 53)] w k) (w := w) (next := fun v48 w =>
 px prog (pickSem v45 v48 (.bool false)) w fun v49 w =>
 k v49 w))))))))))))))))
theorem F18_0_eq  (w:World) (k:KV) : F18A k [] (argEnv []) w = F18_0  w k := by kernel_rfl
theorem F18_in  (w:World) (k:KV) (h:F18_0  w k) : pFn prog 18 [] w k :=
 pFn_of_at mixed func18 (by kernel_rfl) (by kernel_rfl) ntmps18 (by kernel_rfl) (by kernel_rfl) (by simp) ((F18_0_eq  w k).mpr h)
noncomputable def F21B : Code := bodyOf f21
def F21A (k:KV) (q:List Nat) (ρ:Env) (w:World) : Prop := At prog 26 F21B (retQ prog f21.results.toList k) q ρ w
noncomputable def F21B1 : Code := sub F21B [1,1,0,1,0,0]
def F21Q1 (k:KV) (N1:KE) : Xt → KE := thenE N1 (contAt prog 26 F21B (retQ prog f21.results.toList k) [1,1,0,1,0])
def F21A1 (k:KV) (N1:KE) (q:List Nat) (ρ:Env) (w:World) : Prop := At prog 26 F21B1 (F21Q1 k N1) q ρ w
def F21L1 (k:KV) (ρ:Env) (w:World) : Prop := LoopAt prog 26 F21B (retQ prog f21.results.toList k) [1,1,0,1,0] ρ w
theorem F21L1_inv (k:KV) (I:Nat → KE) (round:∀ m ρ w,I m ρ w → F21A1 k (fun ρ' w' => ∃ m',m' < m ∧ I m' ρ' w') [] ρ w) {m:Nat} {ρ:Env} {w:World} (h:I m ρ w) : F21L1 k ρ w :=
 LoopAt_inv mixed (B := F21B) (Q := (retQ prog f21.results.toList k)) (p := [1,1,0,1,0]) (by kernel_rfl) (by kernel_rfl) I round h
def F21_0 (a0:Value) (b1:Value) (w:World) (k:KV) : Prop :=
 px prog (bSem .len #[23] 3 #[a0]) w fun v7 w =>
 px prog (bSem .len #[23] 3 #[b1]) w fun v9 w =>
 px prog (binSem .neq 3 (.tmp 7) (.tmp 9) v7 v9) w fun v10 w =>
 pC v10 (
 k (.bool false) w)
 (
 F21L1 k (put (put (put (put (put (put (put (argEnv [a0,b1]) 4 (.bool false)) 6 a0) 7 v7) 8 b1) 9 v9) 10 v10) 5 (.int .i64 0)) w)
theorem F21_0_eq (a0:Value) (b1:Value) (w:World) (k:KV) : F21A k [] (argEnv [a0,b1]) w = F21_0 a0 b1 w k := by kernel_rfl
def F21_1 (k:KV) (N1:KE) (ρ:Env) (w:World) : Prop :=
 px prog (bSem .len #[23] 3 #[(ρ 0)]) w fun v13 w =>
 px prog (binSem .lss 3 (.tmp 11) (.tmp 13) (ρ 5) v13) w fun v14 w =>
 pC v14 (
 ∃ S : World → Prop,S w.drew ∧ (fun w =>
 pq prog S (indexAt 23 (ρ 0) (ρ 5)) fun v19 =>
 pq prog S (loadAt 5 v19) fun v20 =>
 pq prog S (indexAt 23 (ρ 1) (ρ 5)) fun v23 =>
 pq prog S (loadAt 5 v23) fun v24 =>
 pq prog S (binSem .neq 5 (.tmp 20) (.tmp 24) v20 v24) fun v25 =>
 pC v25 (
 k (.bool false) w)
 (
 px prog (binSem .add 3 (.tmp 15) (.const (.int .i64 1)) (ρ 5) (.int .i64 1)) w fun v16 w =>
 N1 (put (put (put (put (put (put (put (put (put (put (put (put (put (put (put (put ρ 11 (ρ 5)) 12 (ρ 0)) 13 v13) 14 v14) 17 (ρ 0)) 18 (ρ 5)) 19 v19) 20 v20) 21 (ρ 1)) 22 (ρ 5)) 23 v23) 24 v24) 25 v25) 15 (ρ 5)) 16 v16) 5 v16) w)) w.drew)
 (
 F21A k [1,1,1] (put (put (put (put ρ 11 (ρ 5)) 12 (ρ 0)) 13 v13) 14 v14) w)
theorem F21_1_eq (k:KV) (N1:KE) (ρ:Env) (w:World) : F21A1 k N1 [] ρ w = F21_1 k N1 ρ w := by kernel_rfl
def F21_2 (k:KV) (ρ:Env) (w:World) : Prop :=
 k (.bool true) w
theorem F21_2_eq (k:KV) (ρ:Env) (w:World) : F21A k [1,1,1] ρ w = F21_2 k ρ w := by kernel_rfl
theorem F21_in (a0:Value) (b1:Value) (w:World) (k:KV) (h:F21_0 a0 b1 w k) : pFn prog 21 [a0,b1] w k :=
 pFn_of_at mixed func21 (by kernel_rfl) (by kernel_rfl) ntmps21 (by kernel_rfl) (by kernel_rfl) (by simp) ((F21_0_eq a0 b1 w k).mpr h)
noncomputable def F24B : Code := bodyOf f24
def F24A (k:KV) (q:List Nat) (ρ:Env) (w:World) : Prop := At prog 42 F24B (retQ prog f24.results.toList k) q ρ w
noncomputable def F24B1 : Code := sub F24B [1,1,0,1,0,0]
def F24Q1 (k:KV) (N1:KE) : Xt → KE := thenE N1 (contAt prog 42 F24B (retQ prog f24.results.toList k) [1,1,0,1,0])
def F24A1 (k:KV) (N1:KE) (q:List Nat) (ρ:Env) (w:World) : Prop := At prog 42 F24B1 (F24Q1 k N1) q ρ w
def F24L1 (k:KV) (ρ:Env) (w:World) : Prop := LoopAt prog 42 F24B (retQ prog f24.results.toList k) [1,1,0,1,0] ρ w
theorem F24L1_inv (k:KV) (I:Nat → KE) (round:∀ m ρ w,I m ρ w → F24A1 k (fun ρ' w' => ∃ m',m' < m ∧ I m' ρ' w') [] ρ w) {m:Nat} {ρ:Env} {w:World} (h:I m ρ w) : F24L1 k ρ w :=
 LoopAt_inv mixed (B := F24B) (Q := (retQ prog f24.results.toList k)) (p := [1,1,0,1,0]) (by kernel_rfl) (by kernel_rfl) I round h
def F24_0 (a0:Value) (b1:Value) (w:World) (k:KV) : Prop :=
 px prog (bSem .len #[36] 3 #[a0]) w fun v7 w =>
 px prog (bSem .len #[36] 3 #[b1]) w fun v9 w =>
 px prog (binSem .neq 3 (.tmp 7) (.tmp 9) v7 v9) w fun v10 w =>
 pC v10 (
 k (.bool false) w)
 (
 F24L1 k (put (put (put (put (put (put (put (argEnv [a0,b1]) 4 (.bool false)) 6 a0) 7 v7) 8 b1) 9 v9) 10 v10) 5 (.int .i64 0)) w)
theorem F24_0_eq (a0:Value) (b1:Value) (w:World) (k:KV) : F24A k [] (argEnv [a0,b1]) w = F24_0 a0 b1 w k := by kernel_rfl
def F24_1 (k:KV) (N1:KE) (ρ:Env) (w:World) : Prop :=
 px prog (bSem .len #[36] 3 #[(ρ 0)]) w fun v13 w =>
 px prog (binSem .lss 3 (.tmp 11) (.tmp 13) (ρ 5) v13) w fun v14 w =>
 pC v14 (
 ∃ S : World → Prop,S w.drew ∧ (fun w =>
 pq prog S (indexAt 36 (ρ 0) (ρ 5)) fun v19 =>
 pq prog S (fieldAt 107 v19 0) fun v20 =>
 pq prog S (loadAt 9 v20) fun v21 =>
 pq prog S (indexAt 36 (ρ 1) (ρ 5)) fun v24 =>
 pq prog S (fieldAt 107 v24 0) fun v25 =>
 pq prog S (loadAt 9 v25) fun v26 =>
 pq prog S (binSem .neq 9 (.tmp 21) (.tmp 26) v21 v26) fun v27 =>
 pGq v27 false (fun k => k (ρ 0)) (next := fun v29 =>
 pGq v27 false (fun k => k (ρ 5)) (next := fun v30 =>
 pGq v27 false (fun k => pq prog S (indexAt 36 v29 v30) k) (next := fun v31 =>
 pGq v27 false (fun k => pq prog S (fieldAt 107 v31 1) k) (next := fun v32 =>
 pGq v27 false (fun k => pq prog S (loadAt 23 v32) k) (next := fun v33 =>
 pGq v27 false (fun k => k (ρ 1)) (next := fun v34 =>
 pGq v27 false (fun k => k (ρ 5)) (next := fun v35 =>
 pGq v27 false (fun k => pq prog S (indexAt 36 v34 v35) k) (next := fun v36 =>
 pGq v27 false (fun k => pq prog S (fieldAt 107 v36 1) k) (next := fun v37 =>
 pGq v27 false (fun k => pq prog S (loadAt 23 v37) k) (next := fun v38 =>
 pG v27 false (fun k => pFn prog 21 [v33,v38] w k) (w := w) (next := fun v39 w => S w ∧ (
 pGq v27 false (fun k => pq prog S (Op.unary .not v39) k) (next := fun v40 =>
 pq prog S (pickSem v27 (.bool true) v40) fun v41 =>
 pC v41 (
 k (.bool false) w)
 (
 px prog (binSem .add 3 (.tmp 15) (.const (.int .i64 1)) (ρ 5) (.int .i64 1)) w fun v16 w =>
 N1 (put (put (put (put (put (put (put (put (put (put (put (put (put (put (put (put (put (put (put (put (put (put (put (put (put (put (put (put (put (put (put (put ρ 11 (ρ 5)) 12 (ρ 0)) 13 v13) 14 v14) 17 (ρ 0)) 18 (ρ 5)) 19 v19) 20 v20) 21 v21) 22 (ρ 1)) 23 (ρ 5)) 24 v24) 25 v25) 26 v26) 27 v27) 28 v27) 29 v29) 30 v30) 31 v31) 32 v32) 33 v33) 34 v34) 35 v35) 36 v36) 37 v37) 38 v38) 39 v39) 40 v40) 41 v41) 15 (ρ 5)) 16 v16) 5 v16) w))))))))))))))) w.drew)
 (
 F24A k [1,1,1] (put (put (put (put ρ 11 (ρ 5)) 12 (ρ 0)) 13 v13) 14 v14) w)
theorem F24_1_eq (k:KV) (N1:KE) (ρ:Env) (w:World) : F24A1 k N1 [] ρ w = F24_1 k N1 ρ w := by kernel_rfl
def F24_2 (k:KV) (ρ:Env) (w:World) : Prop :=
 k (.bool true) w
theorem F24_2_eq (k:KV) (ρ:Env) (w:World) : F24A k [1,1,1] ρ w = F24_2 k ρ w := by kernel_rfl
theorem F24_in (a0:Value) (b1:Value) (w:World) (k:KV) (h:F24_0 a0 b1 w k) : pFn prog 24 [a0,b1] w k :=
 pFn_of_at mixed func24 (by kernel_rfl) (by kernel_rfl) ntmps24 (by kernel_rfl) (by kernel_rfl) (by simp) ((F24_0_eq a0 b1 w k).mpr h)
noncomputable def F49B : Code := bodyOf f49
def F49A (k:KV) (q:List Nat) (ρ:Env) (w:World) : Prop := At prog 62 F49B (retQ prog f49.results.toList k) q ρ w
def F49_0 (err0:Value) (op1:Value) (name2:Value) (code3:Value) (w:World) (k:KV) : Prop :=
 px prog (binSem .eql 3 (.tmp 10) (.const (.int .i64 0)) code3 (.int .i64 0)) w fun v11 w =>
 pC v11 (
 px prog (binSem .eql 31 (.tmp 12) (.const .nilIface) err0 .nilIface) w fun v13 w =>
 k v13 w)
 (
 px prog (Instr.alloc 73 true (.tuple #[])) w fun v9 w =>
 px prog (binSem .neq 31 (.tmp 14) (.const .nilIface) err0 .nilIface) w fun v15 w =>
 pG v15 true (fun k => k err0 w) (w := w) (next := fun v17 w =>
 pG v15 true (fun k => px prog (Instr.makeInterface 75 v9) w k) (w := w) (next := fun v18 w =>
 pG v15 true (fun k => pFn prog 88 [v17,v18] w k) (w := w) (next := fun v19 w =>
 px prog (pickSem v15 v19 (.bool false)) w fun v20 w =>
 pG v20 true (fun k => px prog (loadAt 73 v9) w k) (w := w) (next := fun v22 w =>
 pG v20 true (fun k => px prog (binSem .neq 73 (.tmp 22) (.const (.pointer none)) v22 (.pointer none)) w k) (w := w) (next := fun v23 w =>
 px prog (pickSem v20 v23 (.bool false)) w fun v24 w =>
 pG v24 true (fun k => px prog (loadAt 73 v9) w k) (w := w) (next := fun v26 w =>
 pG v24 true (fun k => px prog (nilSem v26) w k) (w := w) (next := fun v27 w =>
 pG v24 true (fun k => px prog (fieldAt 77 v27 0) w k) (w := w) (next := fun v28 w =>
 pG v24 true (fun k => px prog (loadAt 9 v28) w k) (w := w) (next := fun v29 w =>
 pG v24 true (fun k => k op1 w) (w := w) (next := fun v30 w =>
 pG v24 true (fun k => px prog (binSem .add 9 (.const (.string (ByteArray.mk #[102,105,108,101,46]))) (.tmp 30) (.string (ByteArray.mk #[102,105,108,101,46])) v30) w k) (w := w) (next := fun v31 w =>
 pG v24 true (fun k => px prog (binSem .eql 9 (.tmp 29) (.tmp 31) v29 v31) w k) (w := w) (next := fun v32 w =>
 px prog (pickSem v24 v32 (.bool false)) w fun v33 w =>
 pG v33 true (fun k => px prog (loadAt 73 v9) w k) (w := w) (next := fun v35 w =>
 pG v33 true (fun k => px prog (nilSem v35) w k) (w := w) (next := fun v36 w =>
 pG v33 true (fun k => px prog (fieldAt 77 v36 1) w k) (w := w) (next := fun v37 w =>
 pG v33 true (fun k => px prog (loadAt 9 v37) w k) (w := w) (next := fun v38 w =>
 pG v33 true (fun k => k name2 w) (w := w) (next := fun v39 w =>
 pG v33 true (fun k => px prog (binSem .eql 9 (.tmp 38) (.tmp 39) v38 v39) w k) (w := w) (next := fun v40 w =>
 px prog (pickSem v33 v40 (.bool false)) w fun v41 w =>
 pG v41 true (fun k => px prog (loadAt 73 v9) w k) (w := w) (next := fun v43 w =>
 pG v41 true (fun k => px prog (nilSem v43) w k) (w := w) (next := fun v44 w =>
 pG v41 true (fun k => px prog (fieldAt 77 v44 2) w k) (w := w) (next := fun v45 w =>
 pG v41 true (fun k => px prog (loadAt 44 v45) w k) (w := w) (next := fun v46 w =>
 pG v41 true (fun k => px prog (Instr.build 44 #[]) w k) (w := w) (next := fun v47 w =>
 pG v41 true (fun k => px prog (binSem .eql 44 (.tmp 46) (.tmp 47) v46 v47) w k) (w := w) (next := fun v48 w =>
 px prog (pickSem v41 v48 (.bool false)) w fun v49 w =>
 pG v49 true (fun k => k err0 w) (w := w) (next := fun v51 w =>
 pG v49 true (fun k => k code3 w) (w := w) (next := fun v52 w =>
 pG v49 true (fun k => px prog (Instr.makeInterface 25 v52) w k) (w := w) (next := fun v53 w =>
 pG v49 true (fun k => pFn prog 69 [v51,v53] w k) (w := w) (next := fun v54 w =>
 px prog (pickSem v49 v54 (.bool false)) w fun v55 w =>
 pG v55 true (fun k => k err0 w) (w := w) (next := fun v57 w =>
 pG v55 true (fun k => pFn prog 43 [v57] w k) (w := w) (next := fun v58 w =>
 pG v55 true (fun k => k code3 w) (w := w) (next := fun v59 w =>
 pG v55 true (fun k => px prog (binSem .eql 25 (.tmp 58) (.tmp 59) v58 v59) w k) (w := w) (next := fun v60 w =>
 px prog (pickSem v55 v60 (.bool false)) w fun v61 w =>
 k v61 w)))))))))))))))))))))))))))))))))
theorem F49_0_eq (err0:Value) (op1:Value) (name2:Value) (code3:Value) (w:World) (k:KV) : F49A k [] (argEnv [err0,op1,name2,code3]) w = F49_0 err0 op1 name2 code3 w k := by kernel_rfl
theorem F49_in (err0:Value) (op1:Value) (name2:Value) (code3:Value) (w:World) (k:KV) (h:F49_0 err0 op1 name2 code3 w k) : pFn prog 49 [err0,op1,name2,code3] w k :=
 pFn_of_at mixed func49 (by kernel_rfl) (by kernel_rfl) ntmps49 (by kernel_rfl) (by kernel_rfl) (by simp) ((F49_0_eq err0 op1 name2 code3 w k).mpr h)
noncomputable def F52B : Code := bodyOf f52
def F52A (k:KV) (q:List Nat) (ρ:Env) (w:World) : Prop := At prog 14 F52B (retQ prog f52.results.toList k) q ρ w
def F52_0 (v0:Value) (n1:Value) (w:World) (k:KV) : Prop :=
 px prog (binSem .rem 3 (.tmp 5) (.tmp 6) v0 n1) w fun v7 w =>
 px prog (binSem .lss 3 (.tmp 8) (.const (.int .i64 0)) v7 (.int .i64 0)) w fun v9 w =>
 pC v9 (
 px prog (binSem .add 3 (.tmp 10) (.tmp 11) v7 n1) w fun v12 w =>
 F52A k [1,1,1] (put (put (put (put (put (put (put (put (put (put (put (argEnv [v0,n1]) 4 (.int .i64 0)) 5 v0) 6 n1) 7 v7) 0 v7) 8 v7) 9 v9) 10 v7) 11 n1) 12 v12) 0 v12) w)
 (
 F52A k [1,1,1] (put (put (put (put (put (put (put (argEnv [v0,n1]) 4 (.int .i64 0)) 5 v0) 6 n1) 7 v7) 0 v7) 8 v7) 9 v9) w)
theorem F52_0_eq (v0:Value) (n1:Value) (w:World) (k:KV) : F52A k [] (argEnv [v0,n1]) w = F52_0 v0 n1 w k := by kernel_rfl
def F52_1 (k:KV) (ρ:Env) (w:World) : Prop :=
 k (ρ 0) w
theorem F52_1_eq (k:KV) (ρ:Env) (w:World) : F52A k [1,1,1] ρ w = F52_1 k ρ w := by kernel_rfl
theorem F52_in (v0:Value) (n1:Value) (w:World) (k:KV) (h:F52_0 v0 n1 w k) : pFn prog 52 [v0,n1] w k :=
 pFn_of_at mixed func52 (by kernel_rfl) (by kernel_rfl) ntmps52 (by kernel_rfl) (by kernel_rfl) (by simp) ((F52_0_eq v0 n1 w k).mpr h)
noncomputable def F53B : Code := bodyOf f53
def F53A (k:KV) (q:List Nat) (ρ:Env) (w:World) : Prop := At prog 70 F53B (retQ prog f53.results.toList k) q ρ w
noncomputable def F53B1 : Code := sub F53B [1,1,1,0,1,0,0]
def F53Q1 (k:KV) (N1:KE) : Xt → KE := thenE N1 (contAt prog 70 F53B (retQ prog f53.results.toList k) [1,1,1,0,1,0])
def F53A1 (k:KV) (N1:KE) (q:List Nat) (ρ:Env) (w:World) : Prop := At prog 70 F53B1 (F53Q1 k N1) q ρ w
def F53L1 (k:KV) (ρ:Env) (w:World) : Prop := LoopAt prog 70 F53B (retQ prog f53.results.toList k) [1,1,1,0,1,0] ρ w
theorem F53L1_inv (k:KV) (I:Nat → KE) (round:∀ m ρ w,I m ρ w → F53A1 k (fun ρ' w' => ∃ m',m' < m ∧ I m' ρ' w') [] ρ w) {m:Nat} {ρ:Env} {w:World} (h:I m ρ w) : F53L1 k ρ w :=
 LoopAt_inv mixed (B := F53B) (Q := (retQ prog f53.results.toList k)) (p := [1,1,1,0,1,0]) (by kernel_rfl) (by kernel_rfl) I round h
def F53_0 (room0:Value) (l1:Value) (w:World) (k:KV) : Prop :=
 F53L1 k (put (put (put (put (put (argEnv [room0,l1]) 4 (.pointer none)) 5 (.slice none 0 0)) 6 (.slice none 0 0)) 7 (.int .i64 0)) 8 (.int .i64 0)) w
theorem F53_0_eq (room0:Value) (l1:Value) (w:World) (k:KV) : F53A k [] (argEnv [room0,l1]) w = F53_0 room0 l1 w k := by kernel_rfl
def F53_1 (k:KV) (N1:KE) (ρ:Env) (w:World) : Prop :=
 px prog (bSem .len #[36] 3 #[(ρ 1)]) w fun v14 w =>
 px prog (binSem .lss 3 (.tmp 12) (.tmp 14) (ρ 8) v14) w fun v15 w =>
 pG v15 true (fun k => k (ρ 8) w) (w := w) (next := fun v17 w =>
 pG v15 true (fun k => px prog (binSem .lss 3 (.tmp 17) (.const (.int .i64 20)) v17 (.int .i64 20)) w k) (w := w) (next := fun v18 w =>
 px prog (pickSem v15 v18 (.bool false)) w fun v19 w =>
 pC v19 (
 px prog (indexAt 36 (ρ 1) (ρ 8)) w fun v24 w =>
 px prog (loadAt 107 v24) w fun v25 w =>
 px prog (Instr.alloc 107 true (.tuple #[])) w fun v9 w =>
 pu prog (storeAt 107 v9 v25) w fun w =>
 px prog (fieldAt 107 v9 0) w fun v26 w =>
 px prog (loadAt 9 v26) w fun v27 w =>
 pFn prog 48 [v27] w fun v28 w =>
 px prog (Op.unary .not v28) w fun v29 w =>
 pG v29 false (fun k => k (ρ 7) w) (w := w) (next := fun v31 w =>
 pG v29 false (fun k => px prog (fieldAt 107 v9 1) w k) (w := w) (next := fun v32 w =>
 pG v29 false (fun k => px prog (loadAt 23 v32) w k) (w := w) (next := fun v33 w =>
 pG v29 false (fun k => px prog (bSem .len #[23] 3 #[v33]) w k) (w := w) (next := fun v34 w =>
 pG v29 false (fun k => px prog (binSem .add 3 (.tmp 31) (.tmp 34) v31 v34) w k) (w := w) (next := fun v35 w =>
 pG v29 false (fun k => k (ρ 0) w) (w := w) (next := fun v36 w =>
 pG v29 false (fun k => px prog (binSem .gtr 3 (.tmp 35) (.tmp 36) v35 v36) w k) (w := w) (next := fun v37 w =>
 px prog (pickSem v29 (.bool true) v37) w fun v38 w =>
 pG v38 false (fun k => k (ρ 6) w) (w := w) (next := fun v40 w =>
 pG v38 false (fun k => px prog (fieldAt 107 v9 0) w k) (w := w) (next := fun v41 w =>
 pG v38 false (fun k => px prog (loadAt 9 v41) w k) (w := w) (next := fun v42 w =>
 pG v38 false (fun k => pFn prog 92 [v40,v42] w k) (w := w) (next := fun v43 w =>
 pG v38 false (fun k => px prog (binSem .geq 3 (.tmp 43) (.const (.int .i64 0)) v43 (.int .i64 0)) w k) (w := w) (next := fun v44 w =>
 px prog (pickSem v38 (.bool true) v44) w fun v45 w =>
 pC v45 (
 F53A1 k N1 [1,1] (put (put (put (put (put (put (put (put (put (put (put (put (put (put (put (put (put (put (put (put (put (put (put (put (put (put (put (put (put (put (put (put (put ρ 12 (ρ 8)) 13 (ρ 1)) 14 v14) 15 v15) 16 v15) 17 v17) 18 v18) 19 v19) 22 (ρ 1)) 23 (ρ 8)) 24 v24) 25 v25) 9 v9) 26 v26) 27 v27) 28 v28) 29 v29) 30 v29) 31 v31) 32 v32) 33 v33) 34 v34) 35 v35) 36 v36) 37 v37) 38 v38) 39 v38) 40 v40) 41 v41) 42 v42) 43 v43) 44 v44) 45 v45) w)
 (
 px prog (fieldAt 107 v9 1) w fun v47 w =>
 px prog (loadAt 23 v47) w fun v48 w =>
 px prog (bSem .len #[23] 3 #[v48]) w fun v49 w =>
 px prog (binSem .add 3 (.tmp 46) (.tmp 49) (ρ 7) v49) w fun v50 w =>
 px prog (loadAt 107 v9) w fun v52 w =>
 px prog (Instr.buildSlice 36 1 #[(0,v52)]) w fun v53 w =>
 px prog (bSem .append #[36,36] 36 #[(ρ 6),v53]) w fun v54 w =>
 F53A1 k N1 [1,1] (put (put (put (put (put (put (put (put (put (put (put (put (put (put (put (put (put (put (put (put (put (put (put (put (put (put (put (put (put (put (put (put (put (put (put (put (put (put (put (put (put (put (put (put ρ 12 (ρ 8)) 13 (ρ 1)) 14 v14) 15 v15) 16 v15) 17 v17) 18 v18) 19 v19) 22 (ρ 1)) 23 (ρ 8)) 24 v24) 25 v25) 9 v9) 26 v26) 27 v27) 28 v28) 29 v29) 30 v29) 31 v31) 32 v32) 33 v33) 34 v34) 35 v35) 36 v36) 37 v37) 38 v38) 39 v38) 40 v40) 41 v41) 42 v42) 43 v43) 44 v44) 45 v45) 46 (ρ 7)) 47 v47) 48 v48) 49 v49) 50 v50) 7 v50) 51 (ρ 6)) 52 v52) 53 v53) 54 v54) 6 v54) w))))))))))))))
 (
 F53A k [1,1,1,1] (put (put (put (put (put (put (put (put ρ 12 (ρ 8)) 13 (ρ 1)) 14 v14) 15 v15) 16 v15) 17 v17) 18 v18) 19 v19) w)))
theorem F53_1_eq (k:KV) (N1:KE) (ρ:Env) (w:World) : F53A1 k N1 [] ρ w = F53_1 k N1 ρ w := by kernel_rfl
def F53_2 (k:KV) (N1:KE) (ρ:Env) (w:World) : Prop :=
 px prog (binSem .add 3 (.tmp 20) (.const (.int .i64 1)) (ρ 8) (.int .i64 1)) w fun v21 w =>
 N1 (put (put (put ρ 20 (ρ 8)) 21 v21) 8 v21) w
theorem F53_2_eq (k:KV) (N1:KE) (ρ:Env) (w:World) : F53A1 k N1 [1,1] ρ w = F53_2 k N1 ρ w := by kernel_rfl
def F53_3 (k:KV) (ρ:Env) (w:World) : Prop :=
 pFn prog 93 [(ρ 0),(ρ 6)] w fun v58 w =>
 px prog (extract v58 0) w fun v59 w =>
 px prog (extract v58 1) w fun v60 w =>
 px prog (binSem .neq 25 (.tmp 61) (.const (.int .i64 0)) v60 (.int .i64 0)) w fun v62 w =>
 pG v62 false (fun k => k v59 w) (w := w) (next := fun v64 w =>
 pG v62 false (fun k => px prog (binSem .eql 24 (.tmp 64) (.const (.pointer none)) v64 (.pointer none)) w k) (w := w) (next := fun v65 w =>
 px prog (pickSem v62 (.bool true) v65) w fun v66 w =>
 pC v66 (
 k (.tuple #[(.pointer none),(.slice none 0 0)]) w)
 (
 pFn prog 22 [v59] w fun v69 w =>
 k (.tuple #[v59,v69]) w)))
theorem F53_3_eq (k:KV) (ρ:Env) (w:World) : F53A k [1,1,1,1] ρ w = F53_3 k ρ w := by kernel_rfl
theorem F53_in (room0:Value) (l1:Value) (w:World) (k:KV) (h:F53_0 room0 l1 w k) : pFn prog 53 [room0,l1] w k :=
 pFn_of_at mixed func53 (by kernel_rfl) (by kernel_rfl) ntmps53 (by kernel_rfl) (by kernel_rfl) (by simp) ((F53_0_eq room0 l1 w k).mpr h)
noncomputable def F54B : Code := bodyOf f54
def F54A (k:KV) (q:List Nat) (ρ:Env) (w:World) : Prop := At prog 17 F54B (retQ prog f54.results.toList k) q ρ w
def F54_0 (l0:Value) (name1:Value) (w:World) (k:KV) : Prop :=
 pFn prog 92 [l0,name1] w fun v9 w =>
 px prog (binSem .lss 3 (.tmp 10) (.const (.int .i64 0)) v9 (.int .i64 0)) w fun v11 w =>
 pC v11 (
 k (.tuple #[(.slice none 0 0),(.bool false)]) w)
 (
 px prog (indexAt 36 l0 v9) w fun v14 w =>
 px prog (fieldAt 107 v14 1) w fun v15 w =>
 px prog (loadAt 23 v15) w fun v16 w =>
 k (.tuple #[v16,(.bool true)]) w)
theorem F54_0_eq (l0:Value) (name1:Value) (w:World) (k:KV) : F54A k [] (argEnv [l0,name1]) w = F54_0 l0 name1 w k := by kernel_rfl
theorem F54_in (l0:Value) (name1:Value) (w:World) (k:KV) (h:F54_0 l0 name1 w k) : pFn prog 54 [l0,name1] w k :=
 pFn_of_at mixed func54 (by kernel_rfl) (by kernel_rfl) ntmps54 (by kernel_rfl) (by kernel_rfl) (by simp) ((F54_0_eq l0 name1 w k).mpr h)
noncomputable def F58B : Code := bodyOf f58
def F58A (k:KV) (q:List Nat) (ρ:Env) (w:World) : Prop := At prog 74 F58B (retQ prog f58.results.toList k) q ρ w
noncomputable def F58B1 : Code := sub F58B [1,1,1,0,1,0,0]
def F58Q1 (k:KV) (N1:KE) : Xt → KE := thenE N1 (contAt prog 74 F58B (retQ prog f58.results.toList k) [1,1,1,0,1,0])
def F58A1 (k:KV) (N1:KE) (q:List Nat) (ρ:Env) (w:World) : Prop := At prog 74 F58B1 (F58Q1 k N1) q ρ w
def F58L1 (k:KV) (ρ:Env) (w:World) : Prop := LoopAt prog 74 F58B (retQ prog f58.results.toList k) [1,1,1,0,1,0] ρ w
theorem F58L1_inv (k:KV) (I:Nat → KE) (round:∀ m ρ w,I m ρ w → F58A1 k (fun ρ' w' => ∃ m',m' < m ∧ I m' ρ' w') [] ρ w) {m:Nat} {ρ:Env} {w:World} (h:I m ρ w) : F58L1 k ρ w :=
 LoopAt_inv mixed (B := F58B) (Q := (retQ prog f58.results.toList k)) (p := [1,1,1,0,1,0]) (by kernel_rfl) (by kernel_rfl) I round h
noncomputable def F58B2 : Code := sub F58B [1,1,1,1,0,1,0,0]
def F58Q2 (k:KV) (N2:KE) : Xt → KE := thenE N2 (contAt prog 74 F58B (retQ prog f58.results.toList k) [1,1,1,1,0,1,0])
def F58A2 (k:KV) (N2:KE) (q:List Nat) (ρ:Env) (w:World) : Prop := At prog 74 F58B2 (F58Q2 k N2) q ρ w
def F58L2 (k:KV) (ρ:Env) (w:World) : Prop := LoopAt prog 74 F58B (retQ prog f58.results.toList k) [1,1,1,1,0,1,0] ρ w
theorem F58L2_inv (k:KV) (I:Nat → KE) (round:∀ m ρ w,I m ρ w → F58A2 k (fun ρ' w' => ∃ m',m' < m ∧ I m' ρ' w') [] ρ w) {m:Nat} {ρ:Env} {w:World} (h:I m ρ w) : F58L2 k ρ w :=
 LoopAt_inv mixed (B := F58B) (Q := (retQ prog f58.results.toList k)) (p := [1,1,1,1,0,1,0]) (by kernel_rfl) (by kernel_rfl) I round h
def F58_0 (a0:Value) (b1:Value) (one2:Value) (two3:Value) (w:World) (k:KV) : Prop :=
 F58L1 k (put (put (put (put (argEnv [a0,b1,one2,two3]) 8 (.bool false)) 9 (.slice none 0 0)) 10 (.slice none 0 0)) 11 (.int .i64 0)) w
theorem F58_0_eq (a0:Value) (b1:Value) (one2:Value) (two3:Value) (w:World) (k:KV) : F58A k [] (argEnv [a0,b1,one2,two3]) w = F58_0 a0 b1 one2 two3 w k := by kernel_rfl
def F58_1 (k:KV) (N1:KE) (ρ:Env) (w:World) : Prop :=
 px prog (bSem .len #[36] 3 #[(ρ 0)]) w fun v15 w =>
 px prog (binSem .lss 3 (.tmp 13) (.tmp 15) (ρ 11) v15) w fun v16 w =>
 pC v16 (
 px prog (indexAt 36 (ρ 0) (ρ 11)) w fun v21 w =>
 px prog (fieldAt 107 v21 0) w fun v22 w =>
 px prog (loadAt 9 v22) w fun v23 w =>
 px prog (binSem .neq 9 (.tmp 23) (.tmp 24) v23 (ρ 2)) w fun v25 w =>
 pG v25 true (fun k => k (ρ 0) w) (w := w) (next := fun v27 w =>
 pG v25 true (fun k => k (ρ 11) w) (w := w) (next := fun v28 w =>
 pG v25 true (fun k => px prog (indexAt 36 v27 v28) w k) (w := w) (next := fun v29 w =>
 pG v25 true (fun k => px prog (fieldAt 107 v29 0) w k) (w := w) (next := fun v30 w =>
 pG v25 true (fun k => px prog (loadAt 9 v30) w k) (w := w) (next := fun v31 w =>
 pG v25 true (fun k => k (ρ 3) w) (w := w) (next := fun v32 w =>
 pG v25 true (fun k => px prog (binSem .neq 9 (.tmp 31) (.tmp 32) v31 v32) w k) (w := w) (next := fun v33 w =>
 px prog (pickSem v25 v33 (.bool false)) w fun v34 w =>
 pC v34 (
 px prog (indexAt 36 (ρ 0) (ρ 11)) w fun v38 w =>
 px prog (loadAt 107 v38) w fun v39 w =>
 px prog (Instr.buildSlice 36 1 #[(0,v39)]) w fun v40 w =>
 px prog (bSem .append #[36,36] 36 #[(ρ 9),v40]) w fun v41 w =>
 F58A1 k N1 [1,1] (put (put (put (put (put (put (put (put (put (put (put (put (put (put (put (put (put (put (put (put (put (put (put (put (put (put (put (put ρ 13 (ρ 11)) 14 (ρ 0)) 15 v15) 16 v16) 19 (ρ 0)) 20 (ρ 11)) 21 v21) 22 v22) 23 v23) 24 (ρ 2)) 25 v25) 26 v25) 27 v27) 28 v28) 29 v29) 30 v30) 31 v31) 32 v32) 33 v33) 34 v34) 35 (ρ 9)) 36 (ρ 0)) 37 (ρ 11)) 38 v38) 39 v39) 40 v40) 41 v41) 9 v41) w)
 (
 F58A1 k N1 [1,1] (put (put (put (put (put (put (put (put (put (put (put (put (put (put (put (put (put (put (put (put ρ 13 (ρ 11)) 14 (ρ 0)) 15 v15) 16 v16) 19 (ρ 0)) 20 (ρ 11)) 21 v21) 22 v22) 23 v23) 24 (ρ 2)) 25 v25) 26 v25) 27 v27) 28 v28) 29 v29) 30 v30) 31 v31) 32 v32) 33 v33) 34 v34) w)))))))))
 (
 F58A k [1,1,1,1] (put (put (put (put ρ 13 (ρ 11)) 14 (ρ 0)) 15 v15) 16 v16) w)
theorem F58_1_eq (k:KV) (N1:KE) (ρ:Env) (w:World) : F58A1 k N1 [] ρ w = F58_1 k N1 ρ w := by kernel_rfl
def F58_2 (k:KV) (N1:KE) (ρ:Env) (w:World) : Prop :=
 px prog (binSem .add 3 (.tmp 17) (.const (.int .i64 1)) (ρ 11) (.int .i64 1)) w fun v18 w =>
 N1 (put (put (put ρ 17 (ρ 11)) 18 v18) 11 v18) w
theorem F58_2_eq (k:KV) (N1:KE) (ρ:Env) (w:World) : F58A1 k N1 [1,1] ρ w = F58_2 k N1 ρ w := by kernel_rfl
def F58_3 (k:KV) (ρ:Env) (w:World) : Prop :=
 F58L2 k (put ρ 12 (.int .i64 0)) w
theorem F58_3_eq (k:KV) (ρ:Env) (w:World) : F58A k [1,1,1,1] ρ w = F58_3 k ρ w := by kernel_rfl
def F58_4 (k:KV) (N2:KE) (ρ:Env) (w:World) : Prop :=
 px prog (bSem .len #[36] 3 #[(ρ 1)]) w fun v44 w =>
 px prog (binSem .lss 3 (.tmp 42) (.tmp 44) (ρ 12) v44) w fun v45 w =>
 pC v45 (
 px prog (indexAt 36 (ρ 1) (ρ 12)) w fun v50 w =>
 px prog (fieldAt 107 v50 0) w fun v51 w =>
 px prog (loadAt 9 v51) w fun v52 w =>
 px prog (binSem .neq 9 (.tmp 52) (.tmp 53) v52 (ρ 2)) w fun v54 w =>
 pG v54 true (fun k => k (ρ 1) w) (w := w) (next := fun v56 w =>
 pG v54 true (fun k => k (ρ 12) w) (w := w) (next := fun v57 w =>
 pG v54 true (fun k => px prog (indexAt 36 v56 v57) w k) (w := w) (next := fun v58 w =>
 pG v54 true (fun k => px prog (fieldAt 107 v58 0) w k) (w := w) (next := fun v59 w =>
 pG v54 true (fun k => px prog (loadAt 9 v59) w k) (w := w) (next := fun v60 w =>
 pG v54 true (fun k => k (ρ 3) w) (w := w) (next := fun v61 w =>
 pG v54 true (fun k => px prog (binSem .neq 9 (.tmp 60) (.tmp 61) v60 v61) w k) (w := w) (next := fun v62 w =>
 px prog (pickSem v54 v62 (.bool false)) w fun v63 w =>
 pC v63 (
 px prog (indexAt 36 (ρ 1) (ρ 12)) w fun v67 w =>
 px prog (loadAt 107 v67) w fun v68 w =>
 px prog (Instr.buildSlice 36 1 #[(0,v68)]) w fun v69 w =>
 px prog (bSem .append #[36,36] 36 #[(ρ 10),v69]) w fun v70 w =>
 F58A2 k N2 [1,1] (put (put (put (put (put (put (put (put (put (put (put (put (put (put (put (put (put (put (put (put (put (put (put (put (put (put (put (put ρ 42 (ρ 12)) 43 (ρ 1)) 44 v44) 45 v45) 48 (ρ 1)) 49 (ρ 12)) 50 v50) 51 v51) 52 v52) 53 (ρ 2)) 54 v54) 55 v54) 56 v56) 57 v57) 58 v58) 59 v59) 60 v60) 61 v61) 62 v62) 63 v63) 64 (ρ 10)) 65 (ρ 1)) 66 (ρ 12)) 67 v67) 68 v68) 69 v69) 70 v70) 10 v70) w)
 (
 F58A2 k N2 [1,1] (put (put (put (put (put (put (put (put (put (put (put (put (put (put (put (put (put (put (put (put ρ 42 (ρ 12)) 43 (ρ 1)) 44 v44) 45 v45) 48 (ρ 1)) 49 (ρ 12)) 50 v50) 51 v51) 52 v52) 53 (ρ 2)) 54 v54) 55 v54) 56 v56) 57 v57) 58 v58) 59 v59) 60 v60) 61 v61) 62 v62) 63 v63) w)))))))))
 (
 F58A k [1,1,1,1,1] (put (put (put (put ρ 42 (ρ 12)) 43 (ρ 1)) 44 v44) 45 v45) w)
theorem F58_4_eq (k:KV) (N2:KE) (ρ:Env) (w:World) : F58A2 k N2 [] ρ w = F58_4 k N2 ρ w := by kernel_rfl
def F58_5 (k:KV) (N2:KE) (ρ:Env) (w:World) : Prop :=
 px prog (binSem .add 3 (.tmp 46) (.const (.int .i64 1)) (ρ 12) (.int .i64 1)) w fun v47 w =>
 N2 (put (put (put ρ 46 (ρ 12)) 47 v47) 12 v47) w
theorem F58_5_eq (k:KV) (N2:KE) (ρ:Env) (w:World) : F58A2 k N2 [1,1] ρ w = F58_5 k N2 ρ w := by kernel_rfl
def F58_6 (k:KV) (ρ:Env) (w:World) : Prop :=
 pFn prog 24 [(ρ 9),(ρ 10)] w fun v73 w =>
 k v73 w
theorem F58_6_eq (k:KV) (ρ:Env) (w:World) : F58A k [1,1,1,1,1] ρ w = F58_6 k ρ w := by kernel_rfl
theorem F58_in (a0:Value) (b1:Value) (one2:Value) (two3:Value) (w:World) (k:KV) (h:F58_0 a0 b1 one2 two3 w k) : pFn prog 58 [a0,b1,one2,two3] w k :=
 pFn_of_at mixed func58 (by kernel_rfl) (by kernel_rfl) ntmps58 (by kernel_rfl) (by kernel_rfl) (by simp) ((F58_0_eq a0 b1 one2 two3 w k).mpr h)
noncomputable def F92B : Code := bodyOf f92
def F92A (k:KV) (q:List Nat) (ρ:Env) (w:World) : Prop := At prog 20 F92B (retQ prog f92.results.toList k) q ρ w
noncomputable def F92B1 : Code := sub F92B [1,0,1,0,0]
def F92Q1 (k:KV) (N1:KE) : Xt → KE := thenE N1 (contAt prog 20 F92B (retQ prog f92.results.toList k) [1,0,1,0])
def F92A1 (k:KV) (N1:KE) (q:List Nat) (ρ:Env) (w:World) : Prop := At prog 20 F92B1 (F92Q1 k N1) q ρ w
def F92L1 (k:KV) (ρ:Env) (w:World) : Prop := LoopAt prog 20 F92B (retQ prog f92.results.toList k) [1,0,1,0] ρ w
theorem F92L1_inv (k:KV) (I:Nat → KE) (round:∀ m ρ w,I m ρ w → F92A1 k (fun ρ' w' => ∃ m',m' < m ∧ I m' ρ' w') [] ρ w) {m:Nat} {ρ:Env} {w:World} (h:I m ρ w) : F92L1 k ρ w :=
 LoopAt_inv mixed (B := F92B) (Q := (retQ prog f92.results.toList k)) (p := [1,0,1,0]) (by kernel_rfl) (by kernel_rfl) I round h
def F92_0 (l0:Value) (name1:Value) (w:World) (k:KV) : Prop :=
 F92L1 k (put (put (argEnv [l0,name1]) 4 (.int .i64 0)) 5 (.int .i64 0)) w
theorem F92_0_eq (l0:Value) (name1:Value) (w:World) (k:KV) : F92A k [] (argEnv [l0,name1]) w = F92_0 l0 name1 w k := by kernel_rfl
def F92_1 (k:KV) (N1:KE) (ρ:Env) (w:World) : Prop :=
 px prog (bSem .len #[36] 3 #[(ρ 0)]) w fun v8 w =>
 px prog (binSem .lss 3 (.tmp 6) (.tmp 8) (ρ 5) v8) w fun v9 w =>
 pC v9 (
 px prog (indexAt 36 (ρ 0) (ρ 5)) w fun v14 w =>
 px prog (fieldAt 107 v14 0) w fun v15 w =>
 px prog (loadAt 9 v15) w fun v16 w =>
 px prog (binSem .eql 9 (.tmp 16) (.tmp 17) v16 (ρ 1)) w fun v18 w =>
 pC v18 (
 k (ρ 5) w)
 (
 px prog (binSem .add 3 (.tmp 10) (.const (.int .i64 1)) (ρ 5) (.int .i64 1)) w fun v11 w =>
 N1 (put (put (put (put (put (put (put (put (put (put (put (put (put (put ρ 6 (ρ 5)) 7 (ρ 0)) 8 v8) 9 v9) 12 (ρ 0)) 13 (ρ 5)) 14 v14) 15 v15) 16 v16) 17 (ρ 1)) 18 v18) 10 (ρ 5)) 11 v11) 5 v11) w))
 (
 F92A k [1,1] (put (put (put (put ρ 6 (ρ 5)) 7 (ρ 0)) 8 v8) 9 v9) w)
theorem F92_1_eq (k:KV) (N1:KE) (ρ:Env) (w:World) : F92A1 k N1 [] ρ w = F92_1 k N1 ρ w := by kernel_rfl
def F92_2 (k:KV) (ρ:Env) (w:World) : Prop :=
 k (.int .i64 (-1)) w
theorem F92_2_eq (k:KV) (ρ:Env) (w:World) : F92A k [1,1] ρ w = F92_2 k ρ w := by kernel_rfl
theorem F92_in (l0:Value) (name1:Value) (w:World) (k:KV) (h:F92_0 l0 name1 w k) : pFn prog 92 [l0,name1] w k :=
 pFn_of_at mixed func92 (by kernel_rfl) (by kernel_rfl) ntmps92 (by kernel_rfl) (by kernel_rfl) (by simp) ((F92_0_eq l0 name1 w k).mpr h)
end Go.Proofs.YteeeggphkhimcaaGreatDoor

set_option linter.unusedSimpArgs false
namespace Go.Proofs.YteeeggphkhimcaaGreatDoor
open Go Go.Proofs Go.RowKit Go.Proofs.XRed Go.Proofs.XHeap Go.Proofs.XMaps Go.Proofs.XSlices Go.Proofs.XDisk Go.Proofs.XCalls Go.Proofs.XRange Go.Proofs.XKeys Tryz
section
variable {w w0:World} {D:Nat} {S S':AD} {O I:Nat → Prop} {L:Lay} {k:KV}
theorem bytes_at {v:Value} {bs:Bytes} (h:SBytes w v bs) {i:Nat} (hi:i < bs.length) : ∃ b o c,v = .slice (some ⟨b,o,none⟩) bs.length c ∧ w.cell? ⟨b,o + i,none⟩ = some (.int .u8 (bs[i].toNat)) := by
 obtain ⟨A,c,rfl,hc,hl,hr⟩ := h
 obtain ⟨b,o,rfl,hcell⟩ := hr (by omega)
 exact ⟨b,o,c,rfl,hcell i _ (by simp [u8s,hi])⟩
theorem c_bytes {v1 v2:Value} {x y:Bytes} (hx:SBytes w v1 x) (hy:SBytes w v2 y) (hl:x.length ≤ 4611686018427387904) (hk:∀ w',Fr no w w' → k (.bool (decide (x = y))) w') : pFn P 21 [v1,v2] w k := by
 refine F21_in _ _ _ _ ?_
 unfold F21_0
 obtain ⟨A1,c1,e1,_⟩ := hx.form
 obtain ⟨A2,c2,e2,_⟩ := hy.form
 rw [e1,e2]
 refine s_len usl23 (s_len usl23 ?_)
 by_cases hlen : x.length = y.length
 ·refine s_nei_f (by omega) (pC_false ?_)
  refine F21L1_inv (m := x.length) k (fun m ρ w' => ∃ i : Nat,i + m = x.length ∧ Fr no w w' ∧ ρ 0 = .slice A1 x.length c1 ∧ ρ 1 = .slice A2 y.length c2 ∧ ρ 5 = i64 i ∧ x.take i = y.take i) ?_
   ⟨0,by omega,Fr.refl _ _,rfl,rfl,rfl,rfl⟩
  rintro m ρ w' ⟨i,him,hf,h0,h1,h5,heq⟩
  rw [F21_1_eq]
  unfold F21_1
  rw [h0,h1,h5]
  refine s_len usl23 ?_
  by_cases hi : i < x.length
  ·refine s_lt_t (by omega) (pC_true ?_)
   have fd : Fr no w' w'.drew := Fr.drew _ _
   have hiy : i < y.length := by omega
   obtain ⟨b1,o1,d1,f1,g1⟩ := bytes_at ((hx.fr hf fun _ _ h => h).fr fd fun _ _ h => h) hi
   obtain ⟨b2,o2,d2,f2,g2⟩ := bytes_at ((hy.fr hf fun _ _ h => h).fr fd fun _ _ h => h) hiy
   rw [e1] at f1; rw [e2] at f2
   injection f1 with q1 q2 q3
   injection f2 with r1 r2 r3
   subst q1; subst r1
   refine ⟨fun w' => w'.cell? ⟨b1,o1 + i,none⟩ = some (.int .u8 (x[i].toNat)) ∧ w'.cell? ⟨b2,o2 + i,none⟩ = some (.int .u8 (y[i].toNat)),⟨g1,g2⟩,?_⟩
   refine q_of (.pointer (some ⟨b1,o1 + i,none⟩)) (fun w_ hS => s_ix (i := (i:Int)) usl23 (sze23 _) (by omega) (by omega) ⟨by simp,rfl⟩) ?_
   refine q_of _ (fun w_ hS => s_ld (isAgg5 _) hS.1 ⟨rfl,rfl⟩) ?_
   refine q_of (.pointer (some ⟨b2,o2 + i,none⟩)) (fun w_ hS => s_ix (i := (i:Int)) usl23 (sze23 _) (by omega) (by omega) ⟨by simp,rfl⟩) ?_
   refine q_of _ (fun w_ hS => s_ld (isAgg5 _) hS.2 ⟨rfl,rfl⟩) ?_
   by_cases hxy : x[i] = y[i]
   ·refine q_of _ (fun w_ hS => s_nei_f (by rw [hxy]) ⟨rfl,rfl⟩) (pC_false ?_)
    refine s_add_in (by omega) ?_
    refine ⟨m - 1,by omega,i + 1,by omega,(hf.or fd).mono fun b hb => hb.elim (fun h => h.elim) fun h => h.elim,h0,h1,?_,?_⟩
    ·show i64 _ = i64 _; simp
    ·rw [List.take_succ_eq_append_getElem hi,List.take_succ_eq_append_getElem hiy,heq,hxy]
   ·refine q_of _ (fun w_ hS => s_nei_t (fun h => hxy (UInt8.toNat_inj.1 (by omega))) ⟨rfl,rfl⟩) (pC_true ?_)
    have := hk w'.drew ((hf.or fd).mono fun b hb => hb.elim (fun h => h.elim) fun h => h.elim)
    rwa [decide_eq_false (fun h => hxy (by subst h; rfl))] at this
  ·refine s_lt_f (by omega) (pC_false ?_)
   rw [F21_2_eq]
   unfold F21_2
   have hxy : x = y := by
    have a1 := List.take_of_length_le (l := x) (i := i) (by omega)
    have a2 := List.take_of_length_le (l := y) (i := i) (by omega)
    rw [← a1,heq,a2]
   have := hk w' hf
   rwa [decide_eq_true hxy] at this
 ·refine s_nei_t (by omega) (pC_true ?_)
  have := hk w (Fr.refl _ _)
  rwa [decide_eq_false (fun h => hlen (by rw [h]))] at this
end
end Go.Proofs.YteeeggphkhimcaaGreatDoor

namespace Go.Proofs.YteeeggphkhimcaaGreatDoor
open Go Go.Proofs Go.Proofs.XRed Tryz
open Go.Instr (fieldAt loadAt storeAt indexAt sliceAt extract)
noncomputable def F48B : Code := bodyOf f48
def F48A (k:KV) (q:List Nat) (ρ:Env) (w:World) : Prop := At prog 53 F48B (retQ prog f48.results.toList k) q ρ w
noncomputable def F48B1 : Code := sub F48B [1,1,0,1,0,0]
def F48Q1 (k:KV) (N1:KE) : Xt → KE := thenE N1 (contAt prog 53 F48B (retQ prog f48.results.toList k) [1,1,0,1,0])
def F48A1 (k:KV) (N1:KE) (q:List Nat) (ρ:Env) (w:World) : Prop := At prog 53 F48B1 (F48Q1 k N1) q ρ w
def F48L1 (k:KV) (ρ:Env) (w:World) : Prop := LoopAt prog 53 F48B (retQ prog f48.results.toList k) [1,1,0,1,0] ρ w
theorem F48L1_inv (k:KV) (I:Nat → KE) (round:∀ m ρ w,I m ρ w → F48A1 k (fun ρ' w' => ∃ m',m' < m ∧ I m' ρ' w') [] ρ w) {m:Nat} {ρ:Env} {w:World} (h:I m ρ w) : F48L1 k ρ w :=
 LoopAt_inv mixed (B := F48B) (Q := (retQ prog f48.results.toList k)) (p := [1,1,0,1,0]) (by kernel_rfl) (by kernel_rfl) I round h
def F48_0 (name0:Value) (w:World) (k:KV) : Prop :=
 px prog (bSem .len #[9] 3 #[name0]) w fun v6 w =>
 px prog (binSem .lss 3 (.tmp 6) (.const (.int .i64 1)) v6 (.int .i64 1)) w fun v7 w =>
 pG v7 false (fun k => k name0 w) (w := w) (next := fun v9 w =>
 pG v7 false (fun k => px prog (bSem .len #[9] 3 #[v9]) w k) (w := w) (next := fun v10 w =>
 pG v7 false (fun k => px prog (binSem .gtr 3 (.tmp 10) (.const (.int .i64 112)) v10 (.int .i64 112)) w k) (w := w) (next := fun v11 w =>
 px prog (pickSem v7 (.bool true) v11) w fun v12 w =>
 pC v12 (
 k (.bool false) w)
 (
 F48L1 k (put (put (put (put (put (put (put (put (put (put (argEnv [name0]) 2 (.bool false)) 5 name0) 6 v6) 7 v7) 8 v7) 9 v9) 10 v10) 11 v11) 12 v12) 3 (.int .i64 0)) w))))
theorem F48_0_eq (name0:Value) (w:World) (k:KV) : F48A k [] (argEnv [name0]) w = F48_0 name0 w k := by kernel_rfl
def F48_1 (k:KV) (N1:KE) (ρ:Env) (w:World) : Prop :=
 px prog (bSem .len #[9] 3 #[(ρ 0)]) w fun v15 w =>
 px prog (binSem .lss 3 (.tmp 13) (.tmp 15) (ρ 3) v15) w fun v16 w =>
 pC v16 (
 px prog (Instr.index 9 (ρ 0) (ρ 3)) w fun v21 w =>
 px prog (binSem .geq 5 (.tmp 22) (.const (.int .u8 97)) v21 (.int .u8 97)) w fun v23 w =>
 pG v23 true (fun k => k v21 w) (w := w) (next := fun v25 w =>
 pG v23 true (fun k => px prog (binSem .leq 5 (.tmp 25) (.const (.int .u8 122)) v25 (.int .u8 122)) w k) (w := w) (next := fun v26 w =>
 px prog (pickSem v23 v26 (.bool false)) w fun v27 w =>
 pG v27 false (fun k => k v21 w) (w := w) (next := fun v29 w =>
 pG v27 false (fun k => px prog (binSem .geq 5 (.tmp 29) (.const (.int .u8 48)) v29 (.int .u8 48)) w k) (w := w) (next := fun v30 w =>
 pG v27 false (fun k => k v30 w) (w := w) (next := fun v31 w =>
 pG v31 true (fun k => k v21 w) (w := w) (next := fun v32 w =>
 pG v31 true (fun k => px prog (binSem .leq 5 (.tmp 32) (.const (.int .u8 57)) v32 (.int .u8 57)) w k) (w := w) (next := fun v33 w =>
 pG v27 false (fun k => px prog (pickSem v31 v33 (.bool false)) w k) (w := w) (next := fun v34 w =>
 px prog (pickSem v27 (.bool true) v34) w fun v35 w =>
 pG v35 false (fun k => k v21 w) (w := w) (next := fun v37 w =>
 pG v35 false (fun k => px prog (binSem .eql 5 (.tmp 37) (.const (.int .u8 46)) v37 (.int .u8 46)) w k) (w := w) (next := fun v38 w =>
 px prog (pickSem v35 (.bool true) v38) w fun v39 w =>
 pG v39 false (fun k => k v21 w) (w := w) (next := fun v41 w =>
 pG v39 false (fun k => px prog (binSem .eql 5 (.tmp 41) (.const (.int .u8 45)) v41 (.int .u8 45)) w k) (w := w) (next := fun v42 w =>
 px prog (pickSem v39 (.bool true) v42) w fun v43 w =>
 pG v43 false (fun k => k v21 w) (w := w) (next := fun v45 w =>
 pG v43 false (fun k => px prog (binSem .eql 5 (.tmp 45) (.const (.int .u8 95)) v45 (.int .u8 95)) w k) (w := w) (next := fun v46 w =>
 px prog (pickSem v43 (.bool true) v46) w fun v47 w =>
 pG v47 false (fun k => k v21 w) (w := w) (next := fun v49 w =>
 pG v47 false (fun k => px prog (binSem .eql 5 (.tmp 49) (.const (.int .u8 43)) v49 (.int .u8 43)) w k) (w := w) (next := fun v50 w =>
 px prog (pickSem v47 (.bool true) v50) w fun v51 w =>
 px prog (Op.unary .not v51) w fun v52 w =>
 pC v52 (
 k (.bool false) w)
 (
 px prog (binSem .add 3 (.tmp 17) (.const (.int .i64 1)) (ρ 3) (.int .i64 1)) w fun v18 w =>
 N1 (put (put (put (put (put (put (put (put (put (put (put (put (put (put (put (put (put (put (put (put (put (put (put (put (put (put (put (put (put (put (put (put (put (put (put (put (put (put (put (put (put (put ρ 13 (ρ 3)) 14 (ρ 0)) 15 v15) 16 v16) 19 (ρ 0)) 20 (ρ 3)) 21 v21) 4 v21) 22 v21) 23 v23) 24 v23) 25 v25) 26 v26) 27 v27) 28 v27) 29 v29) 30 v30) 31 v31) 32 v32) 33 v33) 34 v34) 35 v35) 36 v35) 37 v37) 38 v38) 39 v39) 40 v39) 41 v41) 42 v42) 43 v43) 44 v43) 45 v45) 46 v46) 47 v47) 48 v47) 49 v49) 50 v50) 51 v51) 52 v52) 17 (ρ 3)) 18 v18) 3 v18) w))))))))))))))))))
 (
 F48A k [1,1,1] (put (put (put (put ρ 13 (ρ 3)) 14 (ρ 0)) 15 v15) 16 v16) w)
theorem F48_1_eq (k:KV) (N1:KE) (ρ:Env) (w:World) : F48A1 k N1 [] ρ w = F48_1 k N1 ρ w := by kernel_rfl
def F48_2 (k:KV) (ρ:Env) (w:World) : Prop :=
 k (.bool true) w
theorem F48_2_eq (k:KV) (ρ:Env) (w:World) : F48A k [1,1,1] ρ w = F48_2 k ρ w := by kernel_rfl
theorem F48_in (name0:Value) (w:World) (k:KV) (h:F48_0 name0 w k) : pFn prog 48 [name0] w k :=
 pFn_of_at mixed func48 (by kernel_rfl) (by kernel_rfl) ntmps48 (by kernel_rfl) (by kernel_rfl) (by simp) ((F48_0_eq name0 w k).mpr h)
noncomputable def F47B : Code := bodyOf f47
def F47A (k:KV) (q:List Nat) (ρ:Env) (w:World) : Prop := At prog 15 F47B (retQ prog f47.results.toList k) q ρ w
def F47_0 (name0:Value) (w:World) (k:KV) : Prop :=
 pFn prog 48 [name0] w fun v4 w =>
 pG v4 true (fun k => k name0 w) (w := w) (next := fun v6 w =>
 pG v4 true (fun k => px prog (bSem .len #[9] 3 #[v6]) w k) (w := w) (next := fun v7 w =>
 pG v4 true (fun k => px prog (binSem .lss 3 (.tmp 7) (.const (.int .i64 112)) v7 (.int .i64 112)) w k) (w := w) (next := fun v8 w =>
 px prog (pickSem v4 v8 (.bool false)) w fun v9 w =>
 pG v9 true (fun k => k name0 w) (w := w) (next := fun v11 w =>
 pG v9 true (fun k => px prog (Instr.index 9 v11 (.int .i64 0)) w k) (w := w) (next := fun v12 w =>
 pG v9 true (fun k => px prog (binSem .neq 5 (.tmp 12) (.const (.int .u8 43)) v12 (.int .u8 43)) w k) (w := w) (next := fun v13 w =>
 px prog (pickSem v9 v13 (.bool false)) w fun v14 w =>
 k v14 w))))))
theorem F47_0_eq (name0:Value) (w:World) (k:KV) : F47A k [] (argEnv [name0]) w = F47_0 name0 w k := by kernel_rfl
theorem F47_in (name0:Value) (w:World) (k:KV) (h:F47_0 name0 w k) : pFn prog 47 [name0] w k :=
 pFn_of_at mixed func47 (by kernel_rfl) (by kernel_rfl) ntmps47 (by kernel_rfl) (by kernel_rfl) (by simp) ((F47_0_eq name0 w k).mpr h)
end Go.Proofs.YteeeggphkhimcaaGreatDoor
