/- Put together by a program (wip/tools/shake.py): R1. -/
import Derived.Test.YtcdcojpfealppaaGreatY1
import Derived.Test.YtcdcojpfealppaaGreatProg
import Derived.Test.YtcdcojpfealppaaGreatMix
set_option linter.unusedVariables false
set_option maxRecDepth 100000
open Go.Proofs.Tryz renaming prog → Z
open Go renaming World → Y, Value → V
open Go.Instr renaming fieldAt → U, loadAt → F, storeAt → Za, indexAt → Zb
namespace Go.Proofs.YtcdcojpfealppaaGreat
open Go Go.Proofs Go.Proofs.XRed Tryz
open Go.Instr (fieldAt loadAt storeAt indexAt sliceAt extract)
noncomputable def zl7:Code:=Z1 f21
def gX (k:KV) (q:List Nat) (ρ:Env) (w:Y):Prop:=At Z 30 zl7 (Z8 Z f21.results.toList k) q ρ w
def yC (d0:V) (name1:V) (w:Y) (k:KV):Prop:=
 px Z (Instr.box 29 d0) w fun v2 w=>
 px Z (Instr.box 9 name1) w fun v3 w=>
 px Z (F 29 v2) w fun v9 w=>
 px Z (F 9 v3) w fun v10 w=>
 pFn Z 78 [v9,v10] w fun v11 w=>
 px Z (extract v11 0) w fun v12 w=>
 px Z (extract v11 1) w fun v13 w=>
 px Z (Zd .eql 43 (.tmp 14) (.const (.int .i64 0)) v13 (.int .i64 0)) w fun v17 w=>
 pC v17 (
 k (.int .i64 52) w)
 (
 px Z (Zd .eql 43 (.tmp 14) (.const (.int .i64 53)) v13 (.int .i64 53)) w fun v19 w=>
 pC v19 (
 px Z (F 29 v2) w fun v20 w=>
 px Z (Zh v20) w fun v21 w=>
 px Z (U 58 v21 1) w fun v22 w=>
 px Z (F 54 v22) w fun v23 w=>
 px Z (bSem .len #[54] 3 #[v23]) w fun v24 w=>
 px Z (Zd .geq 3 (.tmp 24) (.const (.int .i64 256)) v24 (.int .i64 256)) w fun v25 w=>
 pC v25 (
 gX k [1,1,1,1] (put (put (put (put (put (put (put (put (put (put (put (put (put (put (put (put (put (put (put (put (put (put (put (put (Zq [d0,name1]) 2 v2) 3 v3) 4 (.int .i64 0)) 9 v9) 10 v10) 11 v11) 8 v11) 12 v12) 13 v13) 5 v12) 6 v13) 14 v13) 17 v17) 16 v17) 19 v19) 18 v19) 7 (.int .i64 0)) 20 v20) 21 v21) 22 v22) 23 v23) 24 v24) 25 v25) 7 (.int .i64 56)) w)
 (
 gX k [1,1,1,1] (put (put (put (put (put (put (put (put (put (put (put (put (put (put (put (put (put (put (put (put (put (put (put (Zq [d0,name1]) 2 v2) 3 v3) 4 (.int .i64 0)) 9 v9) 10 v10) 11 v11) 8 v11) 12 v12) 13 v13) 5 v12) 6 v13) 14 v13) 17 v17) 16 v17) 19 v19) 18 v19) 7 (.int .i64 0)) 20 v20) 21 v21) 22 v22) 23 v23) 24 v24) 25 v25) w))
 (
 k v13 w))
theorem PC (d0:V) (name1:V) (w:Y) (k:KV):gX k [] (Zq [d0,name1]) w=yC d0 name1 w k:=by kernel_rfl
def gY (k:KV) (ρ:Env) (w:Y):Prop:=
 px Z (F 29 (ρ 2)) w fun v26 w=>
 px Z (Instr.makeFunc (Fn.func 80) #[] #[(ρ 2),(ρ 3)]) w fun v28 w=>
 pFn Z 79 [v26,(.int .i64 1),(ρ 7),v28] w fun v29 w=>
 k v29 w
theorem PD (k:KV) (ρ:Env) (w:Y):gX k [1,1,1,1] ρ w=gY k ρ w:=by kernel_rfl
theorem gZ (d0:V) (name1:V) (w:Y) (k:KV) (h:yC d0 name1 w k):pFn Z 21 [d0,name1] w k:=
 Zm mixed func21 (by kernel_rfl) (by kernel_rfl) ntmps21 (by kernel_rfl) (by kernel_rfl) (by simp) ((PC d0 name1 w k).mpr h)
noncomputable def zl8:Code:=Z1 f22
def zl9 (k:KV) (q:List Nat) (ρ:Env) (w:Y):Prop:=At Z 14 zl8 (Z8 Z f22.results.toList k) q ρ w
def yD (d0:V) (p1:V) (w:Y) (k:KV):Prop:=
 px Z (Instr.box 38 p1) w fun v3 w=>
 pFn Z 26 [d0] w fun v5 w=>
 px Z (Op.unary .not v5) w fun v6 w=>
 pC v6 (
 px Z (F 38 v3) w fun v9 w=>
 px Z (Zh d0) w fun v10 w=>
 px Z (U 58 v10 5) w fun v11 w=>
 pu Z (Za 38 v11 v9) w fun w=>
 px Z (Zh d0) w fun v12 w=>
 px Z (U 58 v12 6) w fun v13 w=>
 pu Z (Za 3 v13 (.int .i64 0)) w fun w=>
 k (.tuple #[]) w)
 (
 k (.tuple #[]) w)
theorem PE (d0:V) (p1:V) (w:Y) (k:KV):zl9 k [] (Zq [d0,p1]) w=yD d0 p1 w k:=by kernel_rfl
theorem zaa (d0:V) (p1:V) (w:Y) (k:KV) (h:yD d0 p1 w k):pFn Z 22 [d0,p1] w k:=
 Zm mixed func22 (by kernel_rfl) (by kernel_rfl) ntmps22 (by kernel_rfl) (by kernel_rfl) (by simp) ((PE d0 p1 w k).mpr h)
noncomputable def zma:Code:=Z1 f23
def zmb (k:KV) (q:List Nat) (ρ:Env) (w:Y):Prop:=At Z 27 zma (Z8 Z f23.results.toList k) q ρ w
def yE (d0:V) (name1:V) (data2:V) (w:Y) (k:KV):Prop:=
 pFn Z 78 [d0,name1] w fun v12 w=>
 px Z (extract v12 0) w fun v13 w=>
 px Z (extract v12 1) w fun v14 w=>
 px Z (Zd .neq 43 (.tmp 15) (.const (.int .i64 0)) v14 (.int .i64 0)) w fun v16 w=>
 pC v16 (
 k v14 w)
 (
 px Z (Zh v13) w fun v21 w=>
 px Z (U 124 v21 1) w fun v22 w=>
 px Z (F 36 v22) w fun v23 w=>
 px Z (bSem .len #[36] 3 #[v23]) w fun v24 w=>
 pFn Z 62 [d0,name1,v24,data2] w fun v26 w=>
 k v26 w)
theorem PF (d0:V) (name1:V) (data2:V) (w:Y) (k:KV):zmb k [] (Zq [d0,name1,data2]) w=yE d0 name1 data2 w k:=by kernel_rfl
theorem zab (d0:V) (name1:V) (data2:V) (w:Y) (k:KV) (h:yE d0 name1 data2 w k):pFn Z 23 [d0,name1,data2] w k:=
 Zm mixed func23 (by kernel_rfl) (by kernel_rfl) ntmps23 (by kernel_rfl) (by kernel_rfl) (by simp) ((PF d0 name1 data2 w k).mpr h)
noncomputable def Ep:Code:=Z1 f24
def yF (k:KV) (q:List Nat) (ρ:Env) (w:Y):Prop:=At Z 94 Ep (Z8 Z f24.results.toList k) q ρ w
noncomputable def zh0:Code:=sub Ep [1,1,1,1,1,1,0,1,0,0]
def zh1 (k:KV) (N1:KE):Xt→KE:=ZX N1 (ZJ Z 94 Ep (Z8 Z f24.results.toList k) [1,1,1,1,1,1,0,1,0])
def zac (k:KV) (N1:KE) (q:List Nat) (ρ:Env) (w:Y):Prop:=At Z 94 zh0 (zh1 k N1) q ρ w
def yG (k:KV) (ρ:Env) (w:Y):Prop:=ZN Z 94 Ep (Z8 Z f24.results.toList k) [1,1,1,1,1,1,0,1,0] ρ w
theorem Kv (k:KV) (I:Nat→KE) (round:∀m ρ w,I m ρ w→zac k (fun ρ' w'=>∃m',m'<m∧I m' ρ' w') [] ρ w) {m:Nat} {ρ:Env} {w:Y} (h:I m ρ w):yG k ρ w:=
 Zw mixed (B:=Ep) (Q:=(Z8 Z f24.results.toList k)) (p:=[1,1,1,1,1,1,0,1,0]) (by kernel_rfl) (by kernel_rfl) I round h
noncomputable def zh2:Code:=sub Ep [1,1,1,1,1,1,1,0,1,0,0]
def zh3 (k:KV) (N2:KE):Xt→KE:=ZX N2 (ZJ Z 94 Ep (Z8 Z f24.results.toList k) [1,1,1,1,1,1,1,0,1,0])
def zad (k:KV) (N2:KE) (q:List Nat) (ρ:Env) (w:Y):Prop:=At Z 94 zh2 (zh3 k N2) q ρ w
def yH (k:KV) (ρ:Env) (w:Y):Prop:=ZN Z 94 Ep (Z8 Z f24.results.toList k) [1,1,1,1,1,1,1,0,1,0] ρ w
theorem Kw (k:KV) (I:Nat→KE) (round:∀m ρ w,I m ρ w→zad k (fun ρ' w'=>∃m',m'<m∧I m' ρ' w') [] ρ w) {m:Nat} {ρ:Env} {w:Y} (h:I m ρ w):yH k ρ w:=
 Zw mixed (B:=Ep) (Q:=(Z8 Z f24.results.toList k)) (p:=[1,1,1,1,1,1,1,0,1,0]) (by kernel_rfl) (by kernel_rfl) I round h
noncomputable def zh4:Code:=sub Ep [1,1,1,1,1,1,1,1,0,1,0,0]
def zh5 (k:KV) (N3:KE):Xt→KE:=ZX N3 (ZJ Z 94 Ep (Z8 Z f24.results.toList k) [1,1,1,1,1,1,1,1,0,1,0])
def Er (k:KV) (N3:KE) (q:List Nat) (ρ:Env) (w:Y):Prop:=At Z 94 zh4 (zh5 k N3) q ρ w
def yI (k:KV) (ρ:Env) (w:Y):Prop:=ZN Z 94 Ep (Z8 Z f24.results.toList k) [1,1,1,1,1,1,1,1,0,1,0] ρ w
theorem Kx (k:KV) (I:Nat→KE) (round:∀m ρ w,I m ρ w→Er k (fun ρ' w'=>∃m',m'<m∧I m' ρ' w') [] ρ w) {m:Nat} {ρ:Env} {w:Y} (h:I m ρ w):yI k ρ w:=
 Zw mixed (B:=Ep) (Q:=(Z8 Z f24.results.toList k)) (p:=[1,1,1,1,1,1,1,1,0,1,0]) (by kernel_rfl) (by kernel_rfl) I round h
def yJ (d0:V) (w:Y) (k:KV):Prop:=
 pFn Z 82 [d0] w fun v15 w=>
 pC v15 (
 px Z (Instr.build 58 #[]) w fun v16 w=>
 px Z (Instr.box 58 v16) w fun v17 w=>
 k v17 w)
 (
 px Z (Instr.makeMap 127 none) w fun v18 w=>
 px Z (Instr.alloc 127 true (.tuple #[])) w fun v3 w=>
 pu Z (Za 127 v3 v18) w fun w=>
 px Z (Instr.makeFunc (Fn.func 83) #[] #[v3]) w fun v19 w=>
 px Z (Zh d0) w fun v21 w=>
 px Z (F 58 v21) w fun v22 w=>
 px Z (Instr.alloc 58 true (.tuple #[])) w fun v5 w=>
 pu Z (Za 58 v5 v22) w fun w=>
 px Z (Instr.makeMap 54 none) w fun v23 w=>
 px Z (Instr.makeMap 54 none) w fun v24 w=>
 px Z (Zh d0) w fun v26 w=>
 px Z (U 58 v26 8) w fun v27 w=>
 px Z (F 56 v27) w fun v28 w=>
 pFn Z 85 [v28] w fun v29 w=>
 px Z (U 58 v5 1) w fun v30 w=>
 pu Z (Za 54 v30 v23) w fun w=>
 px Z (U 58 v5 2) w fun v31 w=>
 pu Z (Za 54 v31 v24) w fun w=>
 px Z (U 58 v5 3) w fun v32 w=>
 pu Z (Za 55 v32 (.slice none 0 0)) w fun w=>
 px Z (U 58 v5 8) w fun v33 w=>
 pu Z (Za 56 v33 v29) w fun w=>
 px Z (Zh d0) w fun v35 w=>
 px Z (U 58 v35 1) w fun v36 w=>
 px Z (F 54 v36) w fun v37 w=>
 px Z (Instr.range 54 v37) w fun v38 w=>
 yG k (put (put (put (put (put (put (put (put (put (put (put (put (put (put (put (put (put (put (put (put (put (put (put (put (put (put (put (Zq [d0]) 2 (.pointer none)) 14 d0) 15 v15) 18 v18) 3 v3) 19 v19) 4 v19) 20 d0) 21 v21) 22 v22) 5 v5) 23 v23) 24 v24) 25 d0) 26 v26) 27 v27) 28 v28) 29 v29) 30 v30) 31 v31) 32 v32) 33 v33) 34 d0) 35 v35) 36 v36) 37 v37) 38 v38) w)
theorem PG (d0:V) (w:Y) (k:KV):yF k [] (Zq [d0]) w=yJ d0 w k:=by kernel_rfl
def zae (k:KV) (N1:KE) (ρ:Env) (w:Y):Prop:=
 px Z (Instr.next (ρ 38) false 0) w fun v39 w=>
 px Z (extract v39 0) w fun v40 w=>
 pC v40 (
 px Z (Instr.entry (ρ 38)) w fun v41 w=>
 px Z (extract v41 0) w fun v42 w=>
 px Z (extract v41 1) w fun v43 w=>
 ∃S:Y→Prop,S w.drew∧(fun w=>
 pq Z S (U 58 (ρ 5) 1) fun v44=>
 pq Z S (F 54 v44) fun v45=>
 Cf Z (ρ 4) [v43] w fun v49 w=>S w∧(
 pu Z (Instr.mapUpdate 54 v45 v42 v49) w fun w=>(
 N1 (put (put (put (put (put (put (put (put (put (put (put (put (put ρ 39 v39) 40 v40) 41 v41) 42 v42) 43 v43) 6 v42) 7 v43) 44 v44) 45 v45) 46 v42) 47 (ρ 4)) 48 v43) 49 v49) w))) w.drew)
 (
 yF k [1,1,1,1,1,1,1] (put (put ρ 39 v39) 40 v40) w)
theorem PH (k:KV) (N1:KE) (ρ:Env) (w:Y):zac k N1 [] ρ w=zae k N1 ρ w:=by kernel_rfl
def yK (k:KV) (ρ:Env) (w:Y):Prop:=
 px Z (Zh (ρ 0)) w fun v51 w=>
 px Z (U 58 v51 2) w fun v52 w=>
 px Z (F 54 v52) w fun v53 w=>
 px Z (Instr.range 54 v53) w fun v54 w=>
 yH k (put (put (put (put (put ρ 50 (ρ 0)) 51 v51) 52 v52) 53 v53) 54 v54) w
theorem PI (k:KV) (ρ:Env) (w:Y):yF k [1,1,1,1,1,1,1] ρ w=yK k ρ w:=by kernel_rfl
def zaf (k:KV) (N2:KE) (ρ:Env) (w:Y):Prop:=
 px Z (Instr.next (ρ 54) false 0) w fun v55 w=>
 px Z (extract v55 0) w fun v56 w=>
 pC v56 (
 px Z (Instr.entry (ρ 54)) w fun v57 w=>
 px Z (extract v57 0) w fun v58 w=>
 px Z (extract v57 1) w fun v59 w=>
 ∃S:Y→Prop,S w.drew∧(fun w=>
 pq Z S (U 58 (ρ 5) 2) fun v60=>
 pq Z S (F 54 v60) fun v61=>
 Cf Z (ρ 4) [v59] w fun v65 w=>S w∧(
 pu Z (Instr.mapUpdate 54 v61 v58 v65) w fun w=>(
 N2 (put (put (put (put (put (put (put (put (put (put (put (put (put ρ 55 v55) 56 v56) 57 v57) 58 v58) 59 v59) 8 v58) 9 v59) 60 v60) 61 v61) 62 v58) 63 (ρ 4)) 64 v59) 65 v65) w))) w.drew)
 (
 yF k [1,1,1,1,1,1,1,1] (put (put ρ 55 v55) 56 v56) w)
theorem PJ (k:KV) (N2:KE) (ρ:Env) (w:Y):zad k N2 [] ρ w=zaf k N2 ρ w:=by kernel_rfl
def yL (k:KV) (ρ:Env) (w:Y):Prop:=
 px Z (Zh (ρ 0)) w fun v67 w=>
 px Z (U 58 v67 3) w fun v68 w=>
 px Z (F 55 v68) w fun v69 w=>
 px Z (bSem .len #[55] 3 #[v69]) w fun v70 w=>
 yI k (put (put (put (put (put (put ρ 66 (ρ 0)) 67 v67) 68 v68) 69 v69) 70 v70) 71 (.int .i64 0)) w
theorem PK (k:KV) (ρ:Env) (w:Y):yF k [1,1,1,1,1,1,1,1] ρ w=yL k ρ w:=by kernel_rfl
def zag (k:KV) (N3:KE) (ρ:Env) (w:Y):Prop:=
 px Z (Zd .lss 3 (.tmp 71) (.tmp 70) (ρ 71) (ρ 70)) w fun v72 w=>
 pC v72 (
 px Z (Zb 55 (ρ 69) (ρ 71)) w fun v73 w=>
 px Z (F 136 v73) w fun v74 w=>
 px Z (Instr.typeAssert v74 136 126 true) w fun v77 w=>
 px Z (extract v77 0) w fun v78 w=>
 px Z (extract v77 1) w fun v79 w=>
 px Z (Instr.alloc 126 true (.tuple #[])) w fun v12 w=>
 pu Z (Za 126 v12 v78) w fun w=>
 pC v79 (
 px Z (U 126 v12 1) w fun v82 w=>
 px Z (F 117 v82) w fun v83 w=>
 Cf Z (ρ 4) [v83] w fun v84 w=>
 Er k N3 [1,1,0,0,1,1] (put (put (put (put (put (put (put (put (put (put (put (put (put (put (put (put ρ 72 v72) 73 v73) 74 v74) 11 v74) 76 v74) 77 v77) 75 v77) 78 v78) 79 v79) 12 v12) 13 v79) 80 v79) 81 (ρ 4)) 82 v82) 83 v83) 84 v84) w)
 (
 Er k N3 [1,1,0,0,1,1] (put (put (put (put (put (put (put (put (put (put (put (put ρ 72 v72) 73 v73) 74 v74) 11 v74) 76 v74) 77 v77) 75 v77) 78 v78) 79 v79) 12 v12) 13 v79) 80 v79) w))
 (
 yF k [1,1,1,1,1,1,1,1,1] (put ρ 72 v72) w)
theorem PL (k:KV) (N3:KE) (ρ:Env) (w:Y):Er k N3 [] ρ w=zag k N3 ρ w:=by kernel_rfl
def zah (k:KV) (N3:KE) (ρ:Env) (w:Y):Prop:=
 ∃S:Y→Prop,S w.drew∧(fun w=>
 pq Z S (U 58 (ρ 5) 3) fun v85=>
 pq Z S (F 55 v85) fun v86=>
 pq Z S (F 127 (ρ 3)) fun v88=>
 AS Z (ρ 11) "freight/disk.twin" [v88] w fun v89 w=>S w∧(
 px Z (Instr.buildSlice 55 1 #[(0,v89)]) w fun v90 w=>S w∧(
 px Z (bSem .append #[55,55] 55 #[v86,v90]) w fun v91 w=>S w∧(
 pq Z S (U 58 (ρ 5) 3) fun v92=>
 pu Z (Za 55 v92 v91) w fun w=>(
 px Z (Zd .add 3 (.tmp 71) (.const (.int .i64 1)) (ρ 71) (.int .i64 1)) w fun v93 w=>
 N3 (put (put (put (put (put (put (put (put (put (put ρ 85 v85) 86 v86) 87 (ρ 11)) 88 v88) 89 v89) 90 v90) 91 v91) 92 v92) 93 v93) 71 v93) w))))) w.drew
theorem PM (k:KV) (N3:KE) (ρ:Env) (w:Y):Er k N3 [1,1,0,0,1,1] ρ w=zah k N3 ρ w:=by kernel_rfl
def yM (k:KV) (ρ:Env) (w:Y):Prop:=
 k (ρ 5) w
theorem PN (k:KV) (ρ:Env) (w:Y):yF k [1,1,1,1,1,1,1,1,1] ρ w=yM k ρ w:=by kernel_rfl
theorem zai (d0:V) (w:Y) (k:KV) (h:yJ d0 w k):pFn Z 24 [d0] w k:=
 Zm mixed func24 (by kernel_rfl) (by kernel_rfl) ntmps24 (by kernel_rfl) (by kernel_rfl) (by simp) ((PG d0 w k).mpr h)
noncomputable def zmc:Code:=Z1 f26
def zmd (k:KV) (q:List Nat) (ρ:Env) (w:Y):Prop:=At Z 11 zmc (Z8 Z f26.results.toList k) q ρ w
def yN (d0:V) (w:Y) (k:KV):Prop:=
 pFn Z 82 [d0] w fun v4 w=>
 pG v4 false (fun k=>k d0 w) (w:=w) (next:=fun v6 w=>
 pG v4 false (fun k=>px Z (Zh v6) w k) (w:=w) (next:=fun v7 w=>
 pG v4 false (fun k=>px Z (U 58 v7 7) w k) (w:=w) (next:=fun v8 w=>
 pG v4 false (fun k=>px Z (F 4 v8) w k) (w:=w) (next:=fun v9 w=>
 px Z (Zs v4 (.bool true) v9) w fun v10 w=>
 k v10 w))))
theorem PO (d0:V) (w:Y) (k:KV):zmd k [] (Zq [d0]) w=yN d0 w k:=by kernel_rfl
theorem zaj (d0:V) (w:Y) (k:KV) (h:yN d0 w k):pFn Z 26 [d0] w k:=
 Zm mixed func26 (by kernel_rfl) (by kernel_rfl) ntmps26 (by kernel_rfl) (by kernel_rfl) (by simp) ((PO d0 w k).mpr h)
noncomputable def zme:Code:=Z1 f27
def zmf (k:KV) (q:List Nat) (ρ:Env) (w:Y):Prop:=At Z 9 zme (Z8 Z f27.results.toList k) q ρ w
def yO (d0:V) (w:Y) (k:KV):Prop:=
 pFn Z 82 [d0] w fun v4 w=>
 pC v4 (
 k (.int .i64 0) w)
 (
 px Z (Zh d0) w fun v6 w=>
 px Z (U 58 v6 0) w fun v7 w=>
 px Z (F 3 v7) w fun v8 w=>
 k v8 w)
theorem PQ (d0:V) (w:Y) (k:KV):zmf k [] (Zq [d0]) w=yO d0 w k:=by kernel_rfl
theorem zak (d0:V) (w:Y) (k:KV) (h:yO d0 w k):pFn Z 27 [d0] w k:=
 Zm mixed func27 (by kernel_rfl) (by kernel_rfl) ntmps27 (by kernel_rfl) (by kernel_rfl) (by simp) ((PQ d0 w k).mpr h)
noncomputable def zal:Code:=Z1 f28
def zh6 (k:KV) (q:List Nat) (ρ:Env) (w:Y):Prop:=At Z 35 zal (Z8 Z f28.results.toList k) q ρ w
noncomputable def zh7:Code:=sub zal [1,1,1,0,1,0,0]
def zh8 (k:KV) (N1:KE):Xt→KE:=ZX N1 (ZJ Z 35 zal (Z8 Z f28.results.toList k) [1,1,1,0,1,0])
def zam (k:KV) (N1:KE) (q:List Nat) (ρ:Env) (w:Y):Prop:=At Z 35 zh7 (zh8 k N1) q ρ w
def zan (k:KV) (ρ:Env) (w:Y):Prop:=ZN Z 35 zal (Z8 Z f28.results.toList k) [1,1,1,0,1,0] ρ w
theorem BT (k:KV) (I:Nat→KE) (round:∀m ρ w,I m ρ w→zam k (fun ρ' w'=>∃m',m'<m∧I m' ρ' w') [] ρ w) {m:Nat} {ρ:Env} {w:Y} (h:I m ρ w):zan k ρ w:=
 Zw mixed (B:=zal) (Q:=(Z8 Z f28.results.toList k)) (p:=[1,1,1,0,1,0]) (by kernel_rfl) (by kernel_rfl) I round h
def PR (d0:V) (w:Y) (k:KV):Prop:=
 pFn Z 82 [d0] w fun v7 w=>
 pC v7 (
 k (.slice none 0 0) w)
 (
 px Z (Zh d0) w fun v9 w=>
 px Z (U 58 v9 1) w fun v10 w=>
 px Z (F 54 v10) w fun v11 w=>
 pFn Z 88 [v11] w fun v12 w=>
 px Z (bSem .len #[73] 3 #[v12]) w fun v13 w=>
 zan k (put (put (put (put (put (put (put (put (put (put (put (Zq [d0]) 2 (.slice none 0 0)) 6 d0) 7 v7) 3 (.slice none 0 0)) 8 d0) 9 v9) 10 v10) 11 v11) 12 v12) 13 v13) 14 (.int .i64 0)) w)
theorem PS (d0:V) (w:Y) (k:KV):zh6 k [] (Zq [d0]) w=PR d0 w k:=by kernel_rfl
def yP (k:KV) (N1:KE) (ρ:Env) (w:Y):Prop:=
 px Z (Zd .lss 3 (.tmp 14) (.tmp 13) (ρ 14) (ρ 13)) w fun v15 w=>
 pC v15 (
 px Z (Zb 73 (ρ 12) (ρ 14)) w fun v16 w=>
 px Z (F 9 v16) w fun v17 w=>
 px Z (Zh (ρ 0)) w fun v21 w=>
 px Z (U 58 v21 1) w fun v22 w=>
 px Z (F 54 v22) w fun v23 w=>
 px Z (Instr.lookup 54 v23 v17 false) w fun v25 w=>
 px Z (Zh v25) w fun v26 w=>
 px Z (U 124 v26 1) w fun v27 w=>
 px Z (F 36 v27) w fun v28 w=>
 pFn Z 89 [v28] w fun v29 w=>
 px Z (Instr.build 83 #[(0,v17),(1,v29)]) w fun v30 w=>
 px Z (Instr.buildSlice 71 1 #[(0,v30)]) w fun v31 w=>
 px Z (bSem .append #[71,71] 71 #[(ρ 3),v31]) w fun v32 w=>
 px Z (Zd .add 3 (.tmp 14) (.const (.int .i64 1)) (ρ 14) (.int .i64 1)) w fun v33 w=>
 N1 (put (put (put (put (put (put (put (put (put (put (put (put (put (put (put (put (put (put (put (put (put (put ρ 15 v15) 16 v16) 17 v17) 5 v17) 18 (ρ 3)) 19 v17) 20 (ρ 0)) 21 v21) 22 v22) 23 v23) 24 v17) 25 v25) 26 v26) 27 v27) 28 v28) 29 v29) 30 v30) 31 v31) 32 v32) 3 v32) 33 v33) 14 v33) w)
 (
 zh6 k [1,1,1,1] (put ρ 15 v15) w)
theorem D2 (k:KV) (N1:KE) (ρ:Env) (w:Y):zam k N1 [] ρ w=yP k N1 ρ w:=by kernel_rfl
def yQ (k:KV) (ρ:Env) (w:Y):Prop:=
 k (ρ 3) w
theorem D3 (k:KV) (ρ:Env) (w:Y):zh6 k [1,1,1,1] ρ w=yQ k ρ w:=by kernel_rfl
theorem Tf (d0:V) (w:Y) (k:KV) (h:PR d0 w k):pFn Z 28 [d0] w k:=
 Zm mixed func28 (by kernel_rfl) (by kernel_rfl) ntmps28 (by kernel_rfl) (by kernel_rfl) (by simp) ((PS d0 w k).mpr h)
noncomputable def zao:Code:=Z1 f29
def zh9 (k:KV) (q:List Nat) (ρ:Env) (w:Y):Prop:=At Z 35 zao (Z8 Z f29.results.toList k) q ρ w
noncomputable def zia:Code:=sub zao [1,1,1,0,1,0,0]
def zib (k:KV) (N1:KE):Xt→KE:=ZX N1 (ZJ Z 35 zao (Z8 Z f29.results.toList k) [1,1,1,0,1,0])
def zap (k:KV) (N1:KE) (q:List Nat) (ρ:Env) (w:Y):Prop:=At Z 35 zia (zib k N1) q ρ w
def zaq (k:KV) (ρ:Env) (w:Y):Prop:=ZN Z 35 zao (Z8 Z f29.results.toList k) [1,1,1,0,1,0] ρ w
theorem BU (k:KV) (I:Nat→KE) (round:∀m ρ w,I m ρ w→zap k (fun ρ' w'=>∃m',m'<m∧I m' ρ' w') [] ρ w) {m:Nat} {ρ:Env} {w:Y} (h:I m ρ w):zaq k ρ w:=
 Zw mixed (B:=zao) (Q:=(Z8 Z f29.results.toList k)) (p:=[1,1,1,0,1,0]) (by kernel_rfl) (by kernel_rfl) I round h
def PT (d0:V) (w:Y) (k:KV):Prop:=
 pFn Z 82 [d0] w fun v7 w=>
 pC v7 (
 k (.slice none 0 0) w)
 (
 px Z (Zh d0) w fun v9 w=>
 px Z (U 58 v9 2) w fun v10 w=>
 px Z (F 54 v10) w fun v11 w=>
 pFn Z 88 [v11] w fun v12 w=>
 px Z (bSem .len #[73] 3 #[v12]) w fun v13 w=>
 zaq k (put (put (put (put (put (put (put (put (put (put (put (Zq [d0]) 2 (.slice none 0 0)) 6 d0) 7 v7) 3 (.slice none 0 0)) 8 d0) 9 v9) 10 v10) 11 v11) 12 v12) 13 v13) 14 (.int .i64 0)) w)
theorem PU (d0:V) (w:Y) (k:KV):zh9 k [] (Zq [d0]) w=PT d0 w k:=by kernel_rfl
def yR (k:KV) (N1:KE) (ρ:Env) (w:Y):Prop:=
 px Z (Zd .lss 3 (.tmp 14) (.tmp 13) (ρ 14) (ρ 13)) w fun v15 w=>
 pC v15 (
 px Z (Zb 73 (ρ 12) (ρ 14)) w fun v16 w=>
 px Z (F 9 v16) w fun v17 w=>
 px Z (Zh (ρ 0)) w fun v21 w=>
 px Z (U 58 v21 2) w fun v22 w=>
 px Z (F 54 v22) w fun v23 w=>
 px Z (Instr.lookup 54 v23 v17 false) w fun v25 w=>
 px Z (Zh v25) w fun v26 w=>
 px Z (U 124 v26 0) w fun v27 w=>
 px Z (F 36 v27) w fun v28 w=>
 pFn Z 89 [v28] w fun v29 w=>
 px Z (Instr.build 83 #[(0,v17),(1,v29)]) w fun v30 w=>
 px Z (Instr.buildSlice 71 1 #[(0,v30)]) w fun v31 w=>
 px Z (bSem .append #[71,71] 71 #[(ρ 3),v31]) w fun v32 w=>
 px Z (Zd .add 3 (.tmp 14) (.const (.int .i64 1)) (ρ 14) (.int .i64 1)) w fun v33 w=>
 N1 (put (put (put (put (put (put (put (put (put (put (put (put (put (put (put (put (put (put (put (put (put (put ρ 15 v15) 16 v16) 17 v17) 5 v17) 18 (ρ 3)) 19 v17) 20 (ρ 0)) 21 v21) 22 v22) 23 v23) 24 v17) 25 v25) 26 v26) 27 v27) 28 v28) 29 v29) 30 v30) 31 v31) 32 v32) 3 v32) 33 v33) 14 v33) w)
 (
 zh9 k [1,1,1,1] (put ρ 15 v15) w)
theorem D4 (k:KV) (N1:KE) (ρ:Env) (w:Y):zap k N1 [] ρ w=yR k N1 ρ w:=by kernel_rfl
def yS (k:KV) (ρ:Env) (w:Y):Prop:=
 k (ρ 3) w
theorem D5 (k:KV) (ρ:Env) (w:Y):zh9 k [1,1,1,1] ρ w=yS k ρ w:=by kernel_rfl
theorem Tg (d0:V) (w:Y) (k:KV) (h:PT d0 w k):pFn Z 29 [d0] w k:=
 Zm mixed func29 (by kernel_rfl) (by kernel_rfl) ntmps29 (by kernel_rfl) (by kernel_rfl) (by simp) ((PU d0 w k).mpr h)
noncomputable def zmg:Code:=Z1 f30
def zmh (k:KV) (q:List Nat) (ρ:Env) (w:Y):Prop:=At Z 14 zmg (Z8 Z f30.results.toList k) q ρ w
def PV (d0:V) (prefix1:V) (w:Y) (k:KV):Prop:=
 px Z (Instr.box 9 prefix1) w fun v3 w=>
 pFn Z 26 [d0] w fun v6 w=>
 pC v6 (
 k (.slice none 0 0) w)
 (
 px Z (Zh d0) w fun v8 w=>
 px Z (U 58 v8 1) w fun v9 w=>
 px Z (F 54 v9) w fun v10 w=>
 pFn Z 88 [v10] w fun v11 w=>
 px Z (Instr.makeFunc (Fn.func 91) #[] #[v3]) w fun v12 w=>
 pFn Z 90 [v11,v12] w fun v13 w=>
 k v13 w)
theorem PW (d0:V) (prefix1:V) (w:Y) (k:KV):zmh k [] (Zq [d0,prefix1]) w=PV d0 prefix1 w k:=by kernel_rfl
theorem Th (d0:V) (prefix1:V) (w:Y) (k:KV) (h:PV d0 prefix1 w k):pFn Z 30 [d0,prefix1] w k:=
 Zm mixed func30 (by kernel_rfl) (by kernel_rfl) ntmps30 (by kernel_rfl) (by kernel_rfl) (by simp) ((PW d0 prefix1 w k).mpr h)
noncomputable def zmi:Code:=Z1 f31
def zmj (k:KV) (q:List Nat) (ρ:Env) (w:Y):Prop:=At Z 10 zmi (Z8 Z f31.results.toList k) q ρ w
def PX (d0:V) (w:Y) (k:KV):Prop:=
 pFn Z 82 [d0] w fun v4 w=>
 pC v4 (
 k (.slice none 0 0) w)
 (
 px Z (Zh d0) w fun v6 w=>
 px Z (U 58 v6 8) w fun v7 w=>
 px Z (F 56 v7) w fun v8 w=>
 pFn Z 85 [v8] w fun v9 w=>
 k v9 w)
theorem PY (d0:V) (w:Y) (k:KV):zmj k [] (Zq [d0]) w=PX d0 w k:=by kernel_rfl
theorem Ti (d0:V) (w:Y) (k:KV) (h:PX d0 w k):pFn Z 31 [d0] w k:=
 Zm mixed func31 (by kernel_rfl) (by kernel_rfl) ntmps31 (by kernel_rfl) (by kernel_rfl) (by simp) ((PY d0 w k).mpr h)
noncomputable def zmk:Code:=Z1 f32
def zml (k:KV) (q:List Nat) (ρ:Env) (w:Y):Prop:=At Z 72 zmk (Z8 Z f32.results.toList k) q ρ w
def PZ (d0:V) (name1:V) (at2:V) (n3:V) (w:Y) (k:KV):Prop:=
 pFn Z 78 [d0,name1] w fun v15 w=>
 px Z (extract v15 0) w fun v16 w=>
 px Z (extract v15 1) w fun v17 w=>
 px Z (Zd .neq 43 (.tmp 19) (.const (.int .i64 0)) v17 (.int .i64 0)) w fun v20 w=>
 pC v20 (
 k (.tuple #[(.slice none 0 0),v17]) w)
 (
 px Z (Zd .lss 3 (.tmp 23) (.const (.int .i64 0)) at2 (.int .i64 0)) w fun v24 w=>
 pG v24 false (fun k=>k n3 w) (w:=w) (next:=fun v26 w=>
 pG v24 false (fun k=>px Z (Zd .lss 3 (.tmp 26) (.const (.int .i64 0)) v26 (.int .i64 0)) w k) (w:=w) (next:=fun v27 w=>
 px Z (Zs v24 (.bool true) v27) w fun v28 w=>
 pG v28 false (fun k=>k at2 w) (w:=w) (next:=fun v30 w=>
 pG v28 false (fun k=>k v16 w) (w:=w) (next:=fun v31 w=>
 pG v28 false (fun k=>px Z (Zh v31) w k) (w:=w) (next:=fun v32 w=>
 pG v28 false (fun k=>px Z (U 124 v32 1) w k) (w:=w) (next:=fun v33 w=>
 pG v28 false (fun k=>px Z (F 36 v33) w k) (w:=w) (next:=fun v34 w=>
 pG v28 false (fun k=>px Z (bSem .len #[36] 3 #[v34]) w k) (w:=w) (next:=fun v35 w=>
 pG v28 false (fun k=>px Z (Zd .gtr 3 (.tmp 30) (.tmp 35) v30 v35) w k) (w:=w) (next:=fun v36 w=>
 px Z (Zs v28 (.bool true) v36) w fun v37 w=>
 pG v37 false (fun k=>k n3 w) (w:=w) (next:=fun v39 w=>
 pG v37 false (fun k=>k v16 w) (w:=w) (next:=fun v40 w=>
 pG v37 false (fun k=>px Z (Zh v40) w k) (w:=w) (next:=fun v41 w=>
 pG v37 false (fun k=>px Z (U 124 v41 1) w k) (w:=w) (next:=fun v42 w=>
 pG v37 false (fun k=>px Z (F 36 v42) w k) (w:=w) (next:=fun v43 w=>
 pG v37 false (fun k=>px Z (bSem .len #[36] 3 #[v43]) w k) (w:=w) (next:=fun v44 w=>
 pG v37 false (fun k=>k at2 w) (w:=w) (next:=fun v45 w=>
 pG v37 false (fun k=>px Z (Zd .sub 3 (.tmp 44) (.tmp 45) v44 v45) w k) (w:=w) (next:=fun v46 w=>
 pG v37 false (fun k=>px Z (Zd .gtr 3 (.tmp 39) (.tmp 46) v39 v46) w k) (w:=w) (next:=fun v47 w=>
 px Z (Zs v37 (.bool true) v47) w fun v48 w=>
 pC v48 (
 k (.tuple #[(.slice none 0 0),(.int .i64 54)]) w)
 (
 px Z (Zh d0) w fun v51 w=>
 px Z (U 58 v51 8) w fun v52 w=>
 px Z (F 56 v52) w fun v53 w=>
 px Z (Instr.build 134 #[(0,name1),(1,at2),(2,n3)]) w fun v57 w=>
 px Z (Instr.buildSlice 56 1 #[(0,v57)]) w fun v58 w=>
 px Z (bSem .append #[56,56] 56 #[v53,v58]) w fun v59 w=>
 px Z (Zh d0) w fun v60 w=>
 px Z (U 58 v60 8) w fun v61 w=>
 pu Z (Za 56 v61 v59) w fun w=>
 px Z (Zh v16) w fun v63 w=>
 px Z (U 124 v63 1) w fun v64 w=>
 px Z (F 36 v64) w fun v65 w=>
 px Z (Zd .add 3 (.tmp 67) (.tmp 68) at2 n3) w fun v69 w=>
 px Z (sliceAt 36 v65 (some at2) (some v69) none) w fun v70 w=>
 px Z (bSem .append #[36,36] 36 #[(.slice none 0 0),v70]) w fun v71 w=>
 k (.tuple #[v71,(.int .i64 0)]) w))))))))))))))))))))
theorem Ra (d0:V) (name1:V) (at2:V) (n3:V) (w:Y) (k:KV):zml k [] (Zq [d0,name1,at2,n3]) w=PZ d0 name1 at2 n3 w k:=by kernel_rfl
theorem Tj (d0:V) (name1:V) (at2:V) (n3:V) (w:Y) (k:KV) (h:PZ d0 name1 at2 n3 w k):pFn Z 32 [d0,name1,at2,n3] w k:=
 Zm mixed func32 (by kernel_rfl) (by kernel_rfl) ntmps32 (by kernel_rfl) (by kernel_rfl) (by simp) ((Ra d0 name1 at2 n3 w k).mpr h)
noncomputable def zmm:Code:=Z1 f54
def zmn (k:KV) (q:List Nat) (ρ:Env) (w:Y):Prop:=At Z 20 zmm (Z8 Z f54.results.toList k) q ρ w
def yT (d0:V) (name1:V) (w:Y) (k:KV):Prop:=
 pFn Z 78 [d0,name1] w fun v10 w=>
 px Z (extract v10 0) w fun v11 w=>
 px Z (extract v10 1) w fun v12 w=>
 px Z (Zd .neq 43 (.tmp 13) (.const (.int .i64 0)) v12 (.int .i64 0)) w fun v14 w=>
 pC v14 (
 k v12 w)
 (
 px Z (Instr.makeFunc (Fn.func 102) #[v11] #[]) w fun v18 w=>
 pFn Z 79 [d0,(.int .i64 2),(.int .i64 0),v18] w fun v19 w=>
 k v19 w)
theorem Rb (d0:V) (name1:V) (w:Y) (k:KV):zmn k [] (Zq [d0,name1]) w=yT d0 name1 w k:=by kernel_rfl
theorem zar (d0:V) (name1:V) (w:Y) (k:KV) (h:yT d0 name1 w k):pFn Z 54 [d0,name1] w k:=
 Zm mixed func54 (by kernel_rfl) (by kernel_rfl) ntmps54 (by kernel_rfl) (by kernel_rfl) (by simp) ((Rb d0 name1 w k).mpr h)
noncomputable def zmo:Code:=Z1 f55
def zmp (k:KV) (q:List Nat) (ρ:Env) (w:Y):Prop:=At Z 8 zmo (Z8 Z f55.results.toList k) q ρ w
def yU (d0:V) (w:Y) (k:KV):Prop:=
 px Z (Instr.box 29 d0) w fun v1 w=>
 px Z (F 29 v1) w fun v3 w=>
 pFn Z 26 [v3] w fun v4 w=>
 pC v4 (
 k (.int .i64 50) w)
 (
 px Z (F 29 v1) w fun v5 w=>
 px Z (Instr.makeFunc (Fn.func 103) #[] #[v1]) w fun v6 w=>
 pFn Z 79 [v5,(.int .i64 2),(.int .i64 0),v6] w fun v7 w=>
 k v7 w)
theorem Rc (d0:V) (w:Y) (k:KV):zmp k [] (Zq [d0]) w=yU d0 w k:=by kernel_rfl
theorem zas (d0:V) (w:Y) (k:KV) (h:yU d0 w k):pFn Z 55 [d0] w k:=
 Zm mixed func55 (by kernel_rfl) (by kernel_rfl) ntmps55 (by kernel_rfl) (by kernel_rfl) (by simp) ((Rc d0 w k).mpr h)
noncomputable def zmq:Code:=Z1 f56
def zmr (k:KV) (q:List Nat) (ρ:Env) (w:Y):Prop:=At Z 30 zmq (Z8 Z f56.results.toList k) q ρ w
def yV (d0:V) (from1:V) (to2:V) (w:Y) (k:KV):Prop:=
 px Z (Instr.box 29 d0) w fun v3 w=>
 px Z (Instr.box 9 from1) w fun v4 w=>
 px Z (Instr.box 9 to2) w fun v5 w=>
 px Z (F 29 v3) w fun v8 w=>
 pFn Z 26 [v8] w fun v9 w=>
 pC v9 (
 k (.int .i64 50) w)
 (
 px Z (F 9 v4) w fun v11 w=>
 pFn Z 98 [v11] w fun v12 w=>
 px Z (Op.unary .not v12) w fun v13 w=>
 pG v13 false (fun k=>px Z (F 9 v5) w k) (w:=w) (next:=fun v15 w=>
 pG v13 false (fun k=>pFn Z 98 [v15] w k) (w:=w) (next:=fun v16 w=>
 pG v13 false (fun k=>px Z (Op.unary .not v16) w k) (w:=w) (next:=fun v17 w=>
 px Z (Zs v13 (.bool true) v17) w fun v18 w=>
 pC v18 (
 k (.int .i64 51) w)
 (
 ∃S:Y→Prop,S w.drew∧(fun w=>
 pq Z S (F 29 v3) fun v20=>
 pq Z S (Zh v20) fun v21=>
 pq Z S (U 58 v21 1) fun v22=>
 pq Z S (F 54 v22) fun v23=>
 pq Z S (F 9 v4) fun v24=>
 pq Z S (Instr.lookup 54 v23 v24 false) fun v25=>
 pq Z S (Zd .eql 117 (.tmp 25) (.const (.pointer none)) v25 (.pointer none)) fun v26=>
 pC v26 (
 k (.int .i64 53) w)
 (
 px Z (F 29 v3) w fun v27 w=>
 px Z (Instr.makeFunc (Fn.func 105) #[] #[v4,v5,v3]) w fun v28 w=>
 pFn Z 79 [v27,(.int .i64 0),(.int .i64 0),v28] w fun v29 w=>
 k v29 w)) w.drew)))))
theorem Re (d0:V) (from1:V) (to2:V) (w:Y) (k:KV):zmr k [] (Zq [d0,from1,to2]) w=yV d0 from1 to2 w k:=by kernel_rfl
theorem zat (d0:V) (from1:V) (to2:V) (w:Y) (k:KV) (h:yV d0 from1 to2 w k):pFn Z 56 [d0,from1,to2] w k:=
 Zm mixed func56 (by kernel_rfl) (by kernel_rfl) ntmps56 (by kernel_rfl) (by kernel_rfl) (by simp) ((Re d0 from1 to2 w k).mpr h)
noncomputable def zms:Code:=Z1 f57
def zmt (k:KV) (q:List Nat) (ρ:Env) (w:Y):Prop:=At Z 9 zms (Z8 Z f57.results.toList k) q ρ w
def yW (d0:V) (w:Y) (k:KV):Prop:=
 pFn Z 82 [d0] w fun v4 w=>
 pC v4 (
 k (.int .i64 0) w)
 (
 px Z (Zh d0) w fun v6 w=>
 px Z (U 58 v6 4) w fun v7 w=>
 px Z (F 3 v7) w fun v8 w=>
 k v8 w)
theorem Rf (d0:V) (w:Y) (k:KV):zmt k [] (Zq [d0]) w=yW d0 w k:=by kernel_rfl
theorem zau (d0:V) (w:Y) (k:KV) (h:yW d0 w k):pFn Z 57 [d0] w k:=
 Zm mixed func57 (by kernel_rfl) (by kernel_rfl) ntmps57 (by kernel_rfl) (by kernel_rfl) (by simp) ((Rf d0 w k).mpr h)
noncomputable def Rg:Code:=Z1 f58
def zav (k:KV) (q:List Nat) (ρ:Env) (w:Y):Prop:=At Z 89 Rg (Z8 Z f58.results.toList k) q ρ w
noncomputable def zic:Code:=sub Rg [1,1,1,1,0,1,0,0]
def zid (k:KV) (N1:KE):Xt→KE:=ZX N1 (ZJ Z 89 Rg (Z8 Z f58.results.toList k) [1,1,1,1,0,1,0])
def zaw (k:KV) (N1:KE) (q:List Nat) (ρ:Env) (w:Y):Prop:=At Z 89 zic (zid k N1) q ρ w
def zax (k:KV) (ρ:Env) (w:Y):Prop:=ZN Z 89 Rg (Z8 Z f58.results.toList k) [1,1,1,1,0,1,0] ρ w
theorem Ky (k:KV) (I:Nat→KE) (round:∀m ρ w,I m ρ w→zaw k (fun ρ' w'=>∃m',m'<m∧I m' ρ' w') [] ρ w) {m:Nat} {ρ:Env} {w:Y} (h:I m ρ w):zax k ρ w:=
 Zw mixed (B:=Rg) (Q:=(Z8 Z f58.results.toList k)) (p:=[1,1,1,1,0,1,0]) (by kernel_rfl) (by kernel_rfl) I round h
noncomputable def zie:Code:=sub Rg [1,1,1,1,1,0,1,0,0]
def zif (k:KV) (N2:KE):Xt→KE:=ZX N2 (ZJ Z 89 Rg (Z8 Z f58.results.toList k) [1,1,1,1,1,0,1,0])
def zay (k:KV) (N2:KE) (q:List Nat) (ρ:Env) (w:Y):Prop:=At Z 89 zie (zif k N2) q ρ w
def yX (k:KV) (ρ:Env) (w:Y):Prop:=ZN Z 89 Rg (Z8 Z f58.results.toList k) [1,1,1,1,1,0,1,0] ρ w
theorem Kz (k:KV) (I:Nat→KE) (round:∀m ρ w,I m ρ w→zay k (fun ρ' w'=>∃m',m'<m∧I m' ρ' w') [] ρ w) {m:Nat} {ρ:Env} {w:Y} (h:I m ρ w):yX k ρ w:=
 Zw mixed (B:=Rg) (Q:=(Z8 Z f58.results.toList k)) (p:=[1,1,1,1,1,0,1,0]) (by kernel_rfl) (by kernel_rfl) I round h
def yY (d0:V) (picks1:V) (w:Y) (k:KV):Prop:=
 px Z (Instr.box 39 picks1) w fun v3 w=>
 pFn Z 82 [d0] w fun v12 w=>
 pC v12 (
 k (.tuple #[]) w)
 (
 px Z (Instr.makeFunc (Fn.func 106) #[] #[v3]) w fun v13 w=>
 px Z (Zh d0) w fun v15 w=>
 px Z (U 58 v15 2) w fun v16 w=>
 px Z (F 54 v16) w fun v17 w=>
 pFn Z 104 [v17] w fun v18 w=>
 ∃S:Y→Prop,S w.drew∧(fun w=>
 pq Z S (Zh d0) fun v20=>
 pq Z S (U 58 v20 3) fun v21=>
 pq Z S (F 55 v21) fun v22=>
 pq Z S (Zh d0) fun v25=>
 pq Z S (U 58 v25 3) fun v26=>
 pq Z S (F 55 v26) fun v27=>
 pq Z S (bSem .len #[55] 3 #[v27]) fun v28=>
 Cf Z v13 [v28] w fun v29 w=>S w∧(
 pq Z S (sliceAt 55 v22 none (some v29) none) fun v30=>
 pq Z S (bSem .len #[55] 3 #[v30]) fun v31=>
 zax k (put (put (put (put (put (put (put (put (put (put (put (put (put (put (put (put (put (put (put (put (put (put (put (put (put (Zq [d0,picks1]) 3 v3) 11 d0) 12 v12) 13 v13) 4 v13) 14 d0) 15 v15) 16 v16) 17 v17) 18 v18) 5 v18) 19 d0) 20 v20) 21 v21) 22 v22) 23 v13) 24 d0) 25 v25) 26 v26) 27 v27) 28 v28) 32 (.int .i64 0)) 29 v29) 30 v30) 31 v31) w)) w.drew)
theorem Rh (d0:V) (picks1:V) (w:Y) (k:KV):zav k [] (Zq [d0,picks1]) w=yY d0 picks1 w k:=by kernel_rfl
def zaz (k:KV) (N1:KE) (ρ:Env) (w:Y):Prop:=
 px Z (Zd .lss 3 (.tmp 32) (.tmp 31) (ρ 32) (ρ 31)) w fun v33 w=>
 pC v33 (
 px Z (Zb 55 (ρ 30) (ρ 32)) w fun v34 w=>
 px Z (F 136 v34) w fun v35 w=>
 AS Z v35 "freight/disk.on" [(ρ 5)] w fun v38 w=>
 px Z (Zd .add 3 (.tmp 32) (.const (.int .i64 1)) (ρ 32) (.int .i64 1)) w fun v39 w=>
 N1 (put (put (put (put (put (put (put (put (put ρ 33 v33) 34 v34) 35 v35) 7 v35) 36 v35) 37 (ρ 5)) 38 v38) 39 v39) 32 v39) w)
 (
 zav k [1,1,1,1,1] (put ρ 33 v33) w)
theorem Ri (k:KV) (N1:KE) (ρ:Env) (w:Y):zaw k N1 [] ρ w=zaz k N1 ρ w:=by kernel_rfl
def za0 (k:KV) (ρ:Env) (w:Y):Prop:=
 pFn Z 88 [(ρ 5)] w fun v41 w=>
 px Z (bSem .len #[73] 3 #[v41]) w fun v42 w=>
 yX k (put (put (put (put ρ 40 (ρ 5)) 41 v41) 42 v42) 43 (.int .i64 0)) w
theorem Rj (k:KV) (ρ:Env) (w:Y):zav k [1,1,1,1,1] ρ w=za0 k ρ w:=by kernel_rfl
def za1 (k:KV) (N2:KE) (ρ:Env) (w:Y):Prop:=
 px Z (Zd .lss 3 (.tmp 43) (.tmp 42) (ρ 43) (ρ 42)) w fun v44 w=>
 pC v44 (
 px Z (Zb 73 (ρ 41) (ρ 43)) w fun v45 w=>
 px Z (F 9 v45) w fun v46 w=>
 ∃S:Y→Prop,S w.drew∧(fun w=>
 pq Z S (Instr.lookup 54 (ρ 5) v46 false) fun v49=>
 pq Z S (Instr.lookup 54 (ρ 5) v46 false) fun v53=>
 pFn Z 109 [v53] w fun v54 w=>S w∧(
 Cf Z (ρ 4) [v54] w fun v55 w=>S w∧(
 pFn Z 108 [v49,v55] w fun v56 w=>S w∧(
 px Z (Instr.build 124 #[(0,v56),(1,v56)]) w fun v61 w=>
 px Z (Instr.box 124 v61) w fun v62 w=>
 pu Z (Instr.mapUpdate 54 (ρ 5) v46 v62) w fun w=>
 px Z (Zd .add 3 (.tmp 43) (.const (.int .i64 1)) (ρ 43) (.int .i64 1)) w fun v63 w=>
 N2 (put (put (put (put (put (put (put (put (put (put (put (put (put (put (put (put (put (put (put (put (put (put (put ρ 44 v44) 45 v45) 46 v46) 9 v46) 47 (ρ 5)) 48 v46) 49 v49) 50 (ρ 4)) 51 (ρ 5)) 52 v46) 53 v53) 54 v54) 55 v55) 56 v56) 10 v56) 57 (ρ 5)) 58 v46) 59 v56) 60 v56) 61 v61) 62 v62) 63 v63) 43 v63) w)))) w.drew)
 (
 zav k [1,1,1,1,1,1] (put ρ 44 v44) w)
theorem Rl (k:KV) (N2:KE) (ρ:Env) (w:Y):zay k N2 [] ρ w=za1 k N2 ρ w:=by kernel_rfl
def yZ (k:KV) (ρ:Env) (w:Y):Prop:=
 pFn Z 104 [(ρ 5)] w fun v69 w=>
 px Z (Zh (ρ 0)) w fun v70 w=>
 px Z (U 58 v70 2) w fun v71 w=>
 pu Z (Za 54 v71 (ρ 5)) w fun w=>
 px Z (Zh (ρ 0)) w fun v72 w=>
 px Z (U 58 v72 1) w fun v73 w=>
 pu Z (Za 54 v73 v69) w fun w=>
 px Z (Zh (ρ 0)) w fun v74 w=>
 px Z (U 58 v74 3) w fun v75 w=>
 pu Z (Za 55 v75 (.slice none 0 0)) w fun w=>
 px Z (Instr.build 38 #[]) w fun v80 w=>
 px Z (Zh (ρ 0)) w fun v81 w=>
 px Z (U 58 v81 7) w fun v82 w=>
 pu Z (Za 4 v82 (.bool false)) w fun w=>
 px Z (Zh (ρ 0)) w fun v83 w=>
 px Z (U 58 v83 5) w fun v84 w=>
 pu Z (Za 38 v84 v80) w fun w=>
 px Z (Zh (ρ 0)) w fun v85 w=>
 px Z (U 58 v85 6) w fun v86 w=>
 pu Z (Za 3 v86 (.int .i64 0)) w fun w=>
 px Z (Zh (ρ 0)) w fun v87 w=>
 px Z (U 58 v87 4) w fun v88 w=>
 pu Z (Za 3 v88 (.int .i64 0)) w fun w=>
 k (.tuple #[]) w
theorem Rm (k:KV) (ρ:Env) (w:Y):zav k [1,1,1,1,1,1] ρ w=yZ k ρ w:=by kernel_rfl
theorem za2 (d0:V) (picks1:V) (w:Y) (k:KV) (h:yY d0 picks1 w k):pFn Z 58 [d0,picks1] w k:=
 Zm mixed func58 (by kernel_rfl) (by kernel_rfl) ntmps58 (by kernel_rfl) (by kernel_rfl) (by simp) ((Rh d0 picks1 w k).mpr h)
noncomputable def zmu:Code:=Z1 f59
def zmv (k:KV) (q:List Nat) (ρ:Env) (w:Y):Prop:=At Z 19 zmu (Z8 Z f59.results.toList k) q ρ w
def xa (d0:V) (name1:V) (w:Y) (k:KV):Prop:=
 px Z (Instr.box 29 d0) w fun v2 w=>
 px Z (Instr.box 9 name1) w fun v3 w=>
 px Z (F 29 v2) w fun v8 w=>
 px Z (F 9 v3) w fun v9 w=>
 pFn Z 78 [v8,v9] w fun v10 w=>
 px Z (extract v10 0) w fun v11 w=>
 px Z (extract v10 1) w fun v12 w=>
 px Z (Zd .neq 43 (.tmp 13) (.const (.int .i64 0)) v12 (.int .i64 0)) w fun v14 w=>
 pC v14 (
 k v12 w)
 (
 px Z (F 29 v2) w fun v16 w=>
 px Z (Instr.makeFunc (Fn.func 110) #[] #[v2,v3]) w fun v17 w=>
 pFn Z 79 [v16,(.int .i64 0),(.int .i64 0),v17] w fun v18 w=>
 k v18 w)
theorem Rn (d0:V) (name1:V) (w:Y) (k:KV):zmv k [] (Zq [d0,name1]) w=xa d0 name1 w k:=by kernel_rfl
theorem za3 (d0:V) (name1:V) (w:Y) (k:KV) (h:xa d0 name1 w k):pFn Z 59 [d0,name1] w k:=
 Zm mixed func59 (by kernel_rfl) (by kernel_rfl) ntmps59 (by kernel_rfl) (by kernel_rfl) (by simp) ((Rn d0 name1 w k).mpr h)
noncomputable def za4:Code:=Z1 f60
def zig (k:KV) (q:List Nat) (ρ:Env) (w:Y):Prop:=At Z 25 za4 (Z8 Z f60.results.toList k) q ρ w
noncomputable def zih:Code:=sub za4 [1,1,1,0,1,0,0]
def zii (k:KV) (N1:KE):Xt→KE:=ZX N1 (ZJ Z 25 za4 (Z8 Z f60.results.toList k) [1,1,1,0,1,0])
def za5 (k:KV) (N1:KE) (q:List Nat) (ρ:Env) (w:Y):Prop:=At Z 25 zih (zii k N1) q ρ w
def za6 (k:KV) (ρ:Env) (w:Y):Prop:=ZN Z 25 za4 (Z8 Z f60.results.toList k) [1,1,1,0,1,0] ρ w
theorem K9 (k:KV) (I:Nat→KE) (round:∀m ρ w,I m ρ w→za5 k (fun ρ' w'=>∃m',m'<m∧I m' ρ' w') [] ρ w) {m:Nat} {ρ:Env} {w:Y} (h:I m ρ w):za6 k ρ w:=
 Zw mixed (B:=za4) (Q:=(Z8 Z f60.results.toList k)) (p:=[1,1,1,0,1,0]) (by kernel_rfl) (by kernel_rfl) I round h
def xc (d0:V) (w:Y) (k:KV):Prop:=
 pFn Z 82 [d0] w fun v7 w=>
 pC v7 (
 k (.int .i64 0) w)
 (
 px Z (Zh d0) w fun v9 w=>
 px Z (U 58 v9 1) w fun v10 w=>
 px Z (F 54 v10) w fun v11 w=>
 px Z (Instr.range 54 v11) w fun v12 w=>
 za6 k (put (put (put (put (put (put (put (put (put (Zq [d0]) 2 (.int .i64 0)) 6 d0) 7 v7) 3 (.int .i64 0)) 8 d0) 9 v9) 10 v10) 11 v11) 12 v12) w)
theorem Ro (d0:V) (w:Y) (k:KV):zig k [] (Zq [d0]) w=xc d0 w k:=by kernel_rfl
def za7 (k:KV) (N1:KE) (ρ:Env) (w:Y):Prop:=
 px Z (Instr.next (ρ 12) false 0) w fun v13 w=>
 px Z (extract v13 0) w fun v14 w=>
 pC v14 (
 px Z (Instr.entry (ρ 12)) w fun v15 w=>
 px Z (extract v15 1) w fun v16 w=>
 px Z (Zh v16) w fun v19 w=>
 px Z (U 124 v19 1) w fun v20 w=>
 px Z (F 36 v20) w fun v21 w=>
 px Z (bSem .len #[36] 3 #[v21]) w fun v22 w=>
 px Z (Zd .add 3 (.tmp 17) (.tmp 22) (ρ 3) v22) w fun v23 w=>
 N1 (put (put (put (put (put (put (put (put (put (put (put (put (put ρ 13 v13) 14 v14) 15 v15) 16 v16) 5 v16) 17 (ρ 3)) 18 v16) 19 v19) 20 v20) 21 v21) 22 v22) 23 v23) 3 v23) w)
 (
 zig k [1,1,1,1] (put (put ρ 13 v13) 14 v14) w)
theorem Rp (k:KV) (N1:KE) (ρ:Env) (w:Y):za5 k N1 [] ρ w=za7 k N1 ρ w:=by kernel_rfl
def za8 (k:KV) (ρ:Env) (w:Y):Prop:=
 k (ρ 3) w
theorem Rq (k:KV) (ρ:Env) (w:Y):zig k [1,1,1,1] ρ w=za8 k ρ w:=by kernel_rfl
theorem za9 (d0:V) (w:Y) (k:KV) (h:xc d0 w k):pFn Z 60 [d0] w k:=
 Zm mixed func60 (by kernel_rfl) (by kernel_rfl) ntmps60 (by kernel_rfl) (by kernel_rfl) (by simp) ((Ro d0 w k).mpr h)
noncomputable def zmw:Code:=Z1 f62
def zba (k:KV) (q:List Nat) (ρ:Env) (w:Y):Prop:=At Z 60 zmw (Z8 Z f62.results.toList k) q ρ w
def xe (d0:V) (name1:V) (at2:V) (data3:V) (w:Y) (k:KV):Prop:=
 px Z (Instr.box 3 at2) w fun v6 w=>
 px Z (Instr.box 36 data3) w fun v7 w=>
 pFn Z 78 [d0,name1] w fun v16 w=>
 px Z (extract v16 0) w fun v17 w=>
 px Z (extract v16 1) w fun v18 w=>
 px Z (Instr.alloc 117 true (.tuple #[])) w fun v9 w=>
 pu Z (Za 117 v9 v17) w fun w=>
 px Z (Zd .neq 43 (.tmp 19) (.const (.int .i64 0)) v18 (.int .i64 0)) w fun v20 w=>
 pC v20 (
 k v18 w)
 (
 ∃S:Y→Prop,S w.drew∧(fun w=>
 pq Z S (F 3 v6) fun v22=>
 pq Z S (Zd .lss 3 (.tmp 22) (.const (.int .i64 0)) v22 (.int .i64 0)) fun v23=>
 pGq v23 false (fun k=>pq Z S (F 3 v6) k) (next:=fun v25=>
 pGq v23 false (fun k=>pq Z S (F 117 v9) k) (next:=fun v26=>
 pGq v23 false (fun k=>pq Z S (Zh v26) k) (next:=fun v27=>
 pGq v23 false (fun k=>pq Z S (U 124 v27 1) k) (next:=fun v28=>
 pGq v23 false (fun k=>pq Z S (F 36 v28) k) (next:=fun v29=>
 pGq v23 false (fun k=>pq Z S (bSem .len #[36] 3 #[v29]) k) (next:=fun v30=>
 pGq v23 false (fun k=>pq Z S (Zd .gtr 3 (.tmp 25) (.tmp 30) v25 v30) k) (next:=fun v31=>
 pq Z S (Zs v23 (.bool true) v31) fun v32=>
 pC v32 (
 k (.int .i64 54) w)
 (
 ∃S:Y→Prop,S w.drew∧(fun w=>
 pq Z S (F 3 v6) fun v33=>
 pq Z S (F 36 v7) fun v34=>
 pq Z S (bSem .len #[36] 3 #[v34]) fun v35=>
 pq Z S (Zd .add 3 (.tmp 33) (.tmp 35) v33 v35) fun v36=>
 pq Z S (F 117 v9) fun v37=>
 pq Z S (Zh v37) fun v38=>
 pq Z S (U 124 v38 1) fun v39=>
 pq Z S (F 36 v39) fun v40=>
 pq Z S (bSem .len #[36] 3 #[v40]) fun v41=>
 pq Z S (Zd .sub 3 (.tmp 36) (.tmp 41) v36 v41) fun v42=>
 ∃S:Y→Prop,S w.drew∧(fun w=>
 pq Z S (Zd .gtr 3 (.tmp 43) (.const (.int .i64 0)) v42 (.int .i64 0)) fun v44=>
 pGq v44 true (fun k=>k d0) (next:=fun v46=>
 pGq v44 true (fun k=>k v42) (next:=fun v48=>
 pGq v44 true (fun k=>k d0) (next:=fun v50=>
 pGq v44 true (fun k=>pq Z S (Zh v50) k) (next:=fun v51=>
 pGq v44 true (fun k=>pq Z S (U 58 v51 0) k) (next:=fun v52=>
 pGq v44 true (fun k=>pq Z S (F 3 v52) k) (next:=fun v53=>
 pG v44 true (fun k=>pFn Z 60 [v46] w k) (w:=w) (next:=fun v47 w=>S w∧(
 pGq v44 true (fun k=>pq Z S (Zd .add 3 (.tmp 47) (.tmp 48) v47 v48) k) (next:=fun v49=>
 pGq v44 true (fun k=>pq Z S (Zd .gtr 3 (.tmp 49) (.tmp 53) v49 v53) k) (next:=fun v54=>
 pq Z S (Zs v44 v54 (.bool false)) fun v55=>
 pC v55 (
 zba k [1,1,1,1,1,1] (put (put (put (put (put (put (put (put (put (put (put (put (put (put (put (put (put (put (put (put (put (put (put (put (put (put (put (put (put (put (put (put (put (put (put (put (put (put (put (put (put (put (put (put (put (put (put (put (put (put (Zq [d0,name1,at2,data3]) 6 v6) 7 v7) 8 (.int .i64 0)) 14 d0) 15 name1) 16 v16) 13 v16) 17 v17) 18 v18) 9 v9) 10 v18) 19 v18) 20 v20) 22 v22) 23 v23) 24 v23) 25 v25) 26 v26) 27 v27) 28 v28) 29 v29) 30 v30) 31 v31) 32 v32) 11 (.int .i64 0)) 33 v33) 34 v34) 35 v35) 36 v36) 37 v37) 38 v38) 39 v39) 40 v40) 41 v41) 42 v42) 12 v42) 43 v42) 44 v44) 45 v44) 46 v46) 48 v48) 50 v50) 51 v51) 52 v52) 53 v53) 47 v47) 49 v49) 54 v54) 55 v55) 11 (.int .i64 55)) w)
 (
 zba k [1,1,1,1,1,1] (put (put (put (put (put (put (put (put (put (put (put (put (put (put (put (put (put (put (put (put (put (put (put (put (put (put (put (put (put (put (put (put (put (put (put (put (put (put (put (put (put (put (put (put (put (put (put (put (put (Zq [d0,name1,at2,data3]) 6 v6) 7 v7) 8 (.int .i64 0)) 14 d0) 15 name1) 16 v16) 13 v16) 17 v17) 18 v18) 9 v9) 10 v18) 19 v18) 20 v20) 22 v22) 23 v23) 24 v23) 25 v25) 26 v26) 27 v27) 28 v28) 29 v29) 30 v30) 31 v31) 32 v32) 11 (.int .i64 0)) 33 v33) 34 v34) 35 v35) 36 v36) 37 v37) 38 v38) 39 v39) 40 v40) 41 v41) 42 v42) 12 v42) 43 v42) 44 v44) 45 v44) 46 v46) 48 v48) 50 v50) 51 v51) 52 v52) 53 v53) 47 v47) 49 v49) 54 v54) 55 v55) w)))))))))))) w.drew) w.drew))))))))) w.drew)
theorem Rr (d0:V) (name1:V) (at2:V) (data3:V) (w:Y) (k:KV):zba k [] (Zq [d0,name1,at2,data3]) w=xe d0 name1 at2 data3 w k:=by kernel_rfl
def zbb (k:KV) (ρ:Env) (w:Y):Prop:=
 px Z (Instr.makeFunc (Fn.func 114) #[] #[(ρ 9),(ρ 6),(ρ 7)]) w fun v58 w=>
 pFn Z 79 [(ρ 0),(.int .i64 1),(ρ 11),v58] w fun v59 w=>
 k v59 w
theorem Rs (k:KV) (ρ:Env) (w:Y):zba k [1,1,1,1,1,1] ρ w=zbb k ρ w:=by kernel_rfl
theorem zbc (d0:V) (name1:V) (at2:V) (data3:V) (w:Y) (k:KV) (h:xe d0 name1 at2 data3 w k):pFn Z 62 [d0,name1,at2,data3] w k:=
 Zm mixed func62 (by kernel_rfl) (by kernel_rfl) ntmps62 (by kernel_rfl) (by kernel_rfl) (by simp) ((Rr d0 name1 at2 data3 w k).mpr h)
noncomputable def zmx:Code:=Z1 f67
def zmy (k:KV) (q:List Nat) (ρ:Env) (w:Y):Prop:=At Z 32 zmx (Z8 Z f67.results.toList k) q ρ w
def xf (d0:V) (name1:V) (n2:V) (w:Y) (k:KV):Prop:=
 px Z (Instr.box 3 n2) w fun v5 w=>
 pFn Z 78 [d0,name1] w fun v12 w=>
 px Z (extract v12 0) w fun v13 w=>
 px Z (extract v12 1) w fun v14 w=>
 px Z (Instr.alloc 117 true (.tuple #[])) w fun v7 w=>
 pu Z (Za 117 v7 v13) w fun w=>
 px Z (Zd .neq 43 (.tmp 15) (.const (.int .i64 0)) v14 (.int .i64 0)) w fun v16 w=>
 pC v16 (
 k v14 w)
 (
 ∃S:Y→Prop,S w.drew∧(fun w=>
 pq Z S (F 3 v5) fun v18=>
 pq Z S (Zd .lss 3 (.tmp 18) (.const (.int .i64 0)) v18 (.int .i64 0)) fun v19=>
 pGq v19 false (fun k=>pq Z S (F 3 v5) k) (next:=fun v21=>
 pGq v19 false (fun k=>pq Z S (F 117 v7) k) (next:=fun v22=>
 pGq v19 false (fun k=>pq Z S (Zh v22) k) (next:=fun v23=>
 pGq v19 false (fun k=>pq Z S (U 124 v23 1) k) (next:=fun v24=>
 pGq v19 false (fun k=>pq Z S (F 36 v24) k) (next:=fun v25=>
 pGq v19 false (fun k=>pq Z S (bSem .len #[36] 3 #[v25]) k) (next:=fun v26=>
 pGq v19 false (fun k=>pq Z S (Zd .gtr 3 (.tmp 21) (.tmp 26) v21 v26) k) (next:=fun v27=>
 pq Z S (Zs v19 (.bool true) v27) fun v28=>
 pC v28 (
 k (.int .i64 54) w)
 (
 px Z (Instr.makeFunc (Fn.func 118) #[] #[v7,v5]) w fun v30 w=>
 pFn Z 79 [d0,(.int .i64 0),(.int .i64 0),v30] w fun v31 w=>
 k v31 w))))))))) w.drew)
theorem Rt (d0:V) (name1:V) (n2:V) (w:Y) (k:KV):zmy k [] (Zq [d0,name1,n2]) w=xf d0 name1 n2 w k:=by kernel_rfl
theorem zbd (d0:V) (name1:V) (n2:V) (w:Y) (k:KV) (h:xf d0 name1 n2 w k):pFn Z 67 [d0,name1,n2] w k:=
 Zm mixed func67 (by kernel_rfl) (by kernel_rfl) ntmps67 (by kernel_rfl) (by kernel_rfl) (by simp) ((Rt d0 name1 n2 w k).mpr h)
noncomputable def zmz:Code:=Z1 f78
def zm0 (k:KV) (q:List Nat) (ρ:Env) (w:Y):Prop:=At Z 27 zmz (Z8 Z f78.results.toList k) q ρ w
def xg (d0:V) (name1:V) (w:Y) (k:KV):Prop:=
 pFn Z 26 [d0] w fun v8 w=>
 pC v8 (
 k (.tuple #[(.pointer none),(.int .i64 50)]) w)
 (
 pFn Z 98 [name1] w fun v11 w=>
 px Z (Op.unary .not v11) w fun v12 w=>
 pC v12 (
 k (.tuple #[(.pointer none),(.int .i64 51)]) w)
 (
 px Z (Zh d0) w fun v15 w=>
 px Z (U 58 v15 1) w fun v16 w=>
 px Z (F 54 v16) w fun v17 w=>
 px Z (Instr.lookup 54 v17 name1 false) w fun v19 w=>
 px Z (Zd .eql 117 (.tmp 19) (.const (.pointer none)) v19 (.pointer none)) w fun v20 w=>
 pC v20 (
 k (.tuple #[(.pointer none),(.int .i64 53)]) w)
 (
 px Z (Zh d0) w fun v22 w=>
 px Z (U 58 v22 1) w fun v23 w=>
 px Z (F 54 v23) w fun v24 w=>
 px Z (Instr.lookup 54 v24 name1 false) w fun v26 w=>
 k (.tuple #[v26,(.int .i64 0)]) w)))
theorem Ru (d0:V) (name1:V) (w:Y) (k:KV):zm0 k [] (Zq [d0,name1]) w=xg d0 name1 w k:=by kernel_rfl
theorem zbe (d0:V) (name1:V) (w:Y) (k:KV) (h:xg d0 name1 w k):pFn Z 78 [d0,name1] w k:=
 Zm mixed func78 (by kernel_rfl) (by kernel_rfl) ntmps78 (by kernel_rfl) (by kernel_rfl) (by simp) ((Ru d0 name1 w k).mpr h)
noncomputable def zm1:Code:=Z1 f79
def Tk (k:KV) (q:List Nat) (ρ:Env) (w:Y):Prop:=At Z 86 zm1 (Z8 Z f79.results.toList k) q ρ w
def xh (d0:V) (kind1:V) (refused2:V) (do3:V) (w:Y) (k:KV):Prop:=
 px Z (Zh d0) w fun v10 w=>
 px Z (U 58 v10 4) w fun v11 w=>
 px Z (F 3 v11) w fun v12 w=>
 px Z (Zd .add 3 (.tmp 12) (.const (.int .i64 1)) v12 (.int .i64 1)) w fun v13 w=>
 px Z (Zh d0) w fun v14 w=>
 px Z (U 58 v14 4) w fun v15 w=>
 pu Z (Za 3 v15 v13) w fun w=>
 px Z (Zh d0) w fun v17 w=>
 px Z (U 58 v17 6) w fun v18 w=>
 px Z (F 3 v18) w fun v19 w=>
 px Z (Zd .add 3 (.tmp 19) (.const (.int .i64 1)) v19 (.int .i64 1)) w fun v20 w=>
 px Z (Zh d0) w fun v21 w=>
 px Z (U 58 v21 6) w fun v22 w=>
 pu Z (Za 3 v22 v20) w fun w=>
 ∃S:Y→Prop,S w.drew∧(fun w=>
 pq Z S (Zd .eql 43 (.tmp 23) (.const (.int .i64 0)) refused2 (.int .i64 0)) fun v24=>
 pGq v24 true (fun k=>k kind1) (next:=fun v26=>
 pGq v24 true (fun k=>pq Z S (Zd .eql 3 (.tmp 26) (.const (.int .i64 1)) v26 (.int .i64 1)) k) (next:=fun v27=>
 pq Z S (Zs v24 v27 (.bool false)) fun v28=>
 pGq v28 true (fun k=>k d0) (next:=fun v30=>
 pGq v28 true (fun k=>pq Z S (Zh v30) k) (next:=fun v31=>
 pGq v28 true (fun k=>pq Z S (U 58 v31 6) k) (next:=fun v32=>
 pGq v28 true (fun k=>pq Z S (F 3 v32) k) (next:=fun v33=>
 pGq v28 true (fun k=>k d0) (next:=fun v34=>
 pGq v28 true (fun k=>pq Z S (Zh v34) k) (next:=fun v35=>
 pGq v28 true (fun k=>pq Z S (U 58 v35 5) k) (next:=fun v36=>
 pGq v28 true (fun k=>pq Z S (U 38 v36 1) k) (next:=fun v37=>
 pGq v28 true (fun k=>pq Z S (F 3 v37) k) (next:=fun v38=>
 pGq v28 true (fun k=>pq Z S (Zd .geq 3 (.tmp 33) (.tmp 38) v33 v38) k) (next:=fun v39=>
 pq Z S (Zs v28 v39 (.bool false)) fun v40=>
 pGq v40 true (fun k=>k d0) (next:=fun v42=>
 pGq v40 true (fun k=>pq Z S (Zh v42) k) (next:=fun v43=>
 pGq v40 true (fun k=>pq Z S (U 58 v43 6) k) (next:=fun v44=>
 pGq v40 true (fun k=>pq Z S (F 3 v44) k) (next:=fun v45=>
 pGq v40 true (fun k=>k d0) (next:=fun v46=>
 pGq v40 true (fun k=>pq Z S (Zh v46) k) (next:=fun v47=>
 pGq v40 true (fun k=>pq Z S (U 58 v47 5) k) (next:=fun v48=>
 pGq v40 true (fun k=>pq Z S (U 38 v48 2) k) (next:=fun v49=>
 pGq v40 true (fun k=>pq Z S (F 3 v49) k) (next:=fun v50=>
 pGq v40 true (fun k=>pq Z S (Zd .leq 3 (.tmp 45) (.tmp 50) v45 v50) k) (next:=fun v51=>
 pq Z S (Zs v40 v51 (.bool false)) fun v52=>
 pC v52 (
 Tk k [1,1,1,1] (put (put (put (put (put (put (put (put (put (put (put (put (put (put (put (put (put (put (put (put (put (put (put (put (put (put (put (put (put (put (put (put (put (put (put (put (put (put (put (put (put (put (put (put (put (put (Zq [d0,kind1,refused2,do3]) 8 (.int .i64 0)) 9 d0) 10 v10) 11 v11) 12 v12) 13 v13) 14 v14) 15 v15) 16 d0) 17 v17) 18 v18) 19 v19) 20 v20) 21 v21) 22 v22) 23 refused2) 24 v24) 25 v24) 26 v26) 27 v27) 28 v28) 29 v28) 30 v30) 31 v31) 32 v32) 33 v33) 34 v34) 35 v35) 36 v36) 37 v37) 38 v38) 39 v39) 40 v40) 41 v40) 42 v42) 43 v43) 44 v44) 45 v45) 46 v46) 47 v47) 48 v48) 49 v49) 50 v50) 51 v51) 52 v52) 2 (.int .i64 55)) w)
 (
 Tk k [1,1,1,1] (put (put (put (put (put (put (put (put (put (put (put (put (put (put (put (put (put (put (put (put (put (put (put (put (put (put (put (put (put (put (put (put (put (put (put (put (put (put (put (put (put (put (put (put (put (Zq [d0,kind1,refused2,do3]) 8 (.int .i64 0)) 9 d0) 10 v10) 11 v11) 12 v12) 13 v13) 14 v14) 15 v15) 16 d0) 17 v17) 18 v18) 19 v19) 20 v20) 21 v21) 22 v22) 23 refused2) 24 v24) 25 v24) 26 v26) 27 v27) 28 v28) 29 v28) 30 v30) 31 v31) 32 v32) 33 v33) 34 v34) 35 v35) 36 v36) 37 v37) 38 v38) 39 v39) 40 v40) 41 v40) 42 v42) 43 v43) 44 v44) 45 v45) 46 v46) 47 v47) 48 v48) 49 v49) 50 v50) 51 v51) 52 v52) w)))))))))))))))))))))))) w.drew
theorem Rv (d0:V) (kind1:V) (refused2:V) (do3:V) (w:Y) (k:KV):Tk k [] (Zq [d0,kind1,refused2,do3]) w=xh d0 kind1 refused2 do3 w k:=by kernel_rfl
def xi (k:KV) (ρ:Env) (w:Y):Prop:=
 ∃S:Y→Prop,S w.drew∧(fun w=>
 pq Z S (Zh (ρ 0)) fun v55=>
 pq Z S (U 58 v55 6) fun v56=>
 pq Z S (F 3 v56) fun v57=>
 pq Z S (Zh (ρ 0)) fun v59=>
 pq Z S (U 58 v59 5) fun v60=>
 pq Z S (U 38 v60 0) fun v61=>
 pq Z S (F 3 v61) fun v62=>
 pq Z S (Zd .eql 3 (.tmp 57) (.tmp 62) v57 v62) fun v63=>
 pq Z S (Zh (ρ 0)) fun v64=>
 pq Z S (U 58 v64 7) fun v65=>
 pu Z (Za 4 v65 v63) w fun w=>(
 px Z (Zd .eql 43 (.tmp 66) (.const (.int .i64 0)) (ρ 2) (.int .i64 0)) w fun v67 w=>
 pG v67 true (fun k=>k (ρ 0) w) (w:=w) (next:=fun v69 w=>
 pG v67 true (fun k=>px Z (Zh v69) w k) (w:=w) (next:=fun v70 w=>
 pG v67 true (fun k=>px Z (U 58 v70 7) w k) (w:=w) (next:=fun v71 w=>
 pG v67 true (fun k=>px Z (F 4 v71) w k) (w:=w) (next:=fun v72 w=>
 pG v67 true (fun k=>k v72 w) (w:=w) (next:=fun v73 w=>
 pG v73 true (fun k=>k (ρ 1) w) (w:=w) (next:=fun v74 w=>
 pG v73 true (fun k=>px Z (Zd .eql 3 (.tmp 74) (.const (.int .i64 2)) v74 (.int .i64 2)) w k) (w:=w) (next:=fun v75 w=>
 pG v67 true (fun k=>px Z (Zs v73 v75 (.bool false)) w k) (w:=w) (next:=fun v76 w=>
 pG v67 true (fun k=>px Z (Op.unary .not v76) w k) (w:=w) (next:=fun v77 w=>
 px Z (Zs v67 v77 (.bool false)) w fun v78 w=>
 pC v78 (
 Cf Z (ρ 3) [] w fun v80 w=>
 Tk k [1,1,1,1,1,1] (put (put (put (put (put (put (put (put (put (put (put (put (put (put (put (put (put (put (put (put (put (put (put (put (put (put (put (put ρ 53 (ρ 0)) 54 (ρ 0)) 55 v55) 56 v56) 57 v57) 58 (ρ 0)) 59 v59) 60 v60) 61 v61) 62 v62) 63 v63) 64 v64) 65 v65) 66 (ρ 2)) 67 v67) 68 v67) 69 v69) 70 v70) 71 v71) 72 v72) 73 v73) 74 v74) 75 v75) 76 v76) 77 v77) 78 v78) 79 (ρ 3)) 80 v80) w)
 (
 Tk k [1,1,1,1,1,1] (put (put (put (put (put (put (put (put (put (put (put (put (put (put (put (put (put (put (put (put (put (put (put (put (put (put ρ 53 (ρ 0)) 54 (ρ 0)) 55 v55) 56 v56) 57 v57) 58 (ρ 0)) 59 v59) 60 v60) 61 v61) 62 v62) 63 v63) 64 v64) 65 v65) 66 (ρ 2)) 67 v67) 68 v67) 69 v69) 70 v70) 71 v71) 72 v72) 73 v73) 74 v74) 75 v75) 76 v76) 77 v77) 78 v78) w)))))))))))) w.drew
theorem Rw (k:KV) (ρ:Env) (w:Y):Tk k [1,1,1,1] ρ w=xi k ρ w:=by kernel_rfl
def xj (k:KV) (ρ:Env) (w:Y):Prop:=
 px Z (Zh (ρ 0)) w fun v82 w=>
 px Z (U 58 v82 7) w fun v83 w=>
 px Z (F 4 v83) w fun v84 w=>
 pC v84 (
 k (.int .i64 50) w)
 (
 k (ρ 2) w)
theorem Qz (k:KV) (ρ:Env) (w:Y):Tk k [1,1,1,1,1,1] ρ w=xj k ρ w:=by kernel_rfl
theorem zbf (d0:V) (kind1:V) (refused2:V) (do3:V) (w:Y) (k:KV) (h:xh d0 kind1 refused2 do3 w k):pFn Z 79 [d0,kind1,refused2,do3] w k:=
 Zm mixed func79 (by kernel_rfl) (by kernel_rfl) ntmps79 (by kernel_rfl) (by kernel_rfl) (by simp) ((Rv d0 kind1 refused2 do3 w k).mpr h)
noncomputable def zm2:Code:=Z1 f81
def zm3 (k:KV) (q:List Nat) (ρ:Env) (w:Y):Prop:=At Z 23 zm2 (Z8 Z f81.results.toList k) q ρ w
def xk (d0:V) (c1:V) (w:Y) (k:KV):Prop:=
 px Z (Zh d0) w fun v6 w=>
 px Z (U 58 v6 3) w fun v7 w=>
 px Z (F 55 v7) w fun v8 w=>
 px Z (Instr.buildSlice 55 1 #[(0,c1)]) w fun v10 w=>
 px Z (bSem .append #[55,55] 55 #[v8,v10]) w fun v11 w=>
 px Z (Zh d0) w fun v12 w=>
 px Z (U 58 v12 3) w fun v13 w=>
 pu Z (Za 55 v13 v11) w fun w=>
 ∃S:Y→Prop,S w.drew∧(fun w=>
 pq Z S (Zh d0) fun v16=>
 pq Z S (U 58 v16 1) fun v17=>
 pq Z S (F 54 v17) fun v18=>
 pq Z S (Instr.makeFunc (Fn.method "freight/disk.on") #[c1] #[]) fun v19=>
 pq Z S (Zh v19) fun v20=>
 AS Z c1 "freight/disk.on" [v18] w fun v22 w=>(
 k (.tuple #[]) w)) w.drew
theorem Rx (d0:V) (c1:V) (w:Y) (k:KV):zm3 k [] (Zq [d0,c1]) w=xk d0 c1 w k:=by kernel_rfl
theorem zbg (d0:V) (c1:V) (w:Y) (k:KV) (h:xk d0 c1 w k):pFn Z 81 [d0,c1] w k:=
 Zm mixed func81 (by kernel_rfl) (by kernel_rfl) ntmps81 (by kernel_rfl) (by kernel_rfl) (by simp) ((Rx d0 c1 w k).mpr h)
noncomputable def zm4:Code:=Z1 f82
def zm5 (k:KV) (q:List Nat) (ρ:Env) (w:Y):Prop:=At Z 12 zm4 (Z8 Z f82.results.toList k) q ρ w
def xl (d0:V) (w:Y) (k:KV):Prop:=
 px Z (Zd .eql 29 (.tmp 3) (.const (.pointer none)) d0 (.pointer none)) w fun v4 w=>
 pG v4 false (fun k=>k d0 w) (w:=w) (next:=fun v6 w=>
 pG v4 false (fun k=>px Z (Zh v6) w k) (w:=w) (next:=fun v7 w=>
 pG v4 false (fun k=>px Z (U 58 v7 0) w k) (w:=w) (next:=fun v8 w=>
 pG v4 false (fun k=>px Z (F 3 v8) w k) (w:=w) (next:=fun v9 w=>
 pG v4 false (fun k=>px Z (Zd .eql 3 (.tmp 9) (.const (.int .i64 0)) v9 (.int .i64 0)) w k) (w:=w) (next:=fun v10 w=>
 px Z (Zs v4 (.bool true) v10) w fun v11 w=>
 k v11 w)))))
theorem Ry (d0:V) (w:Y) (k:KV):zm5 k [] (Zq [d0]) w=xl d0 w k:=by kernel_rfl
theorem zbh (d0:V) (w:Y) (k:KV) (h:xl d0 w k):pFn Z 82 [d0] w k:=
 Zm mixed func82 (by kernel_rfl) (by kernel_rfl) ntmps82 (by kernel_rfl) (by kernel_rfl) (by simp) ((Ry d0 w k).mpr h)
noncomputable def zij:Code:=Z1 f119
def zik (k:KV) (q:List Nat) (ρ:Env) (w:Y):Prop:=At Z 22 zij (Z8 Z f119.results.toList k) q ρ w
def KA (d0:V) (name1:V) (w:Y) (k:KV):Prop:=
 pFn Z 78 [d0,name1] w fun v11 w=>
 px Z (extract v11 0) w fun v12 w=>
 px Z (extract v11 1) w fun v13 w=>
 px Z (Zd .neq 43 (.tmp 14) (.const (.int .i64 0)) v13 (.int .i64 0)) w fun v15 w=>
 pC v15 (
 k (.tuple #[(.int .i64 0),v13]) w)
 (
 px Z (Zh v12) w fun v18 w=>
 px Z (U 124 v18 1) w fun v19 w=>
 px Z (F 36 v19) w fun v20 w=>
 px Z (bSem .len #[36] 3 #[v20]) w fun v21 w=>
 k (.tuple #[v21,(.int .i64 0)]) w)
theorem KB (d0:V) (name1:V) (w:Y) (k:KV):zik k [] (Zq [d0,name1]) w=KA d0 name1 w k:=by kernel_rfl
theorem xm (d0:V) (name1:V) (w:Y) (k:KV) (h:KA d0 name1 w k):pFn Z 119 [d0,name1] w k:=
 Zm mixed func119 (by kernel_rfl) (by kernel_rfl) ntmps119 (by kernel_rfl) (by kernel_rfl) (by simp) ((KB d0 name1 w k).mpr h)
noncomputable def zil:Code:=Z1 f125
def zim (k:KV) (q:List Nat) (ρ:Env) (w:Y):Prop:=At Z 8 zil (Z8 Z f125.results.toList k) q ρ w
def KC (d0:V) (w:Y) (k:KV):Prop:=
 pFn Z 82 [d0] w fun v3 w=>
 px Z (Op.unary .not v3) w fun v4 w=>
 pC v4 (
 px Z (Zh d0) w fun v6 w=>
 px Z (U 58 v6 8) w fun v7 w=>
 pu Z (Za 56 v7 (.slice none 0 0)) w fun w=>
 k (.tuple #[]) w)
 (
 k (.tuple #[]) w)
theorem KD (d0:V) (w:Y) (k:KV):zim k [] (Zq [d0]) w=KC d0 w k:=by kernel_rfl
theorem xn (d0:V) (w:Y) (k:KV) (h:KC d0 w k):pFn Z 125 [d0] w k:=
 Zm mixed func125 (by kernel_rfl) (by kernel_rfl) ntmps125 (by kernel_rfl) (by kernel_rfl) (by simp) ((KD d0 w k).mpr h)
noncomputable def zm6:Code:=Z1 f52
def zm7 (k:KV) (q:List Nat) (ρ:Env) (w:Y):Prop:=At Z 15 zm6 (Z8 Z f52.results.toList k) q ρ w
def xo (room0:V) (w:Y) (k:KV):Prop:=
 px Z (Zd .lss 3 (.tmp 4) (.const (.int .i64 1)) room0 (.int .i64 1)) w fun v5 w=>
 pG v5 false (fun k=>k room0 w) (w:=w) (next:=fun v7 w=>
 pG v5 false (fun k=>px Z (Zd .gtr 3 (.tmp 7) (.const (.int .i64 1048576)) v7 (.int .i64 1048576)) w k) (w:=w) (next:=fun v8 w=>
 px Z (Zs v5 (.bool true) v8) w fun v9 w=>
 pC v9 (
 k (.tuple #[(.pointer none),(.int .i64 1)]) w)
 (
 px Z (Instr.makeMap 54 none) w fun v11 w=>
 px Z (Instr.makeMap 54 none) w fun v12 w=>
 px Z (Instr.build 58 #[(0,room0),(1,v11),(2,v12)]) w fun v13 w=>
 px Z (Instr.box 58 v13) w fun v14 w=>
 k (.tuple #[v14,(.int .i64 0)]) w)))
theorem Rz (room0:V) (w:Y) (k:KV):zm7 k [] (Zq [room0]) w=xo room0 w k:=by kernel_rfl
theorem zbi (room0:V) (w:Y) (k:KV) (h:xo room0 w k):pFn Z 52 [room0] w k:=
 Zm mixed func52 (by kernel_rfl) (by kernel_rfl) ntmps52 (by kernel_rfl) (by kernel_rfl) (by simp) ((Rz room0 w k).mpr h)
end Go.Proofs.YtcdcojpfealppaaGreat
