/- Put together by a program (wip/tools/shake.py): R7. -/
import Derived.Test.YtcdcojpfealppaaGreatY1
import Derived.Test.YtcdcojpfealppaaGreatProg
import Derived.Test.YtcdcojpfealppaaGreatMix
set_option linter.unusedVariables false
set_option maxRecDepth 100000
open Go.Proofs.Tryz renaming prog → Z
open Go renaming World → Y, Value → V
open Go.Instr renaming fieldAt → U, loadAt → F, storeAt → Za, indexAt → Zb
namespace Go.Proofs.YtcdcojpfealppaaGreat
open Go Go.Proofs Go.Proofs.XRed Tryz
open Go.Instr (fieldAt loadAt storeAt indexAt sliceAt extract)
noncomputable def ju:Code:=Z1 f36
def ze4 (k:KV) (q:List Nat) (ρ:Env) (w:Y):Prop:=At Z 39 ju (Z8 Z f36.results.toList k) q ρ w
noncomputable def ze5:Code:=sub ju [1,0,1,0,0]
def ze6 (k:KV) (N1:KE):Xt→KE:=ZX N1 (ZJ Z 39 ju (Z8 Z f36.results.toList k) [1,0,1,0])
def jv (k:KV) (N1:KE) (q:List Nat) (ρ:Env) (w:Y):Prop:=At Z 39 ze5 (ze6 k N1) q ρ w
def jw (k:KV) (ρ:Env) (w:Y):Prop:=ZN Z 39 ju (Z8 Z f36.results.toList k) [1,0,1,0] ρ w
theorem GW (k:KV) (I:Nat→KE) (round:∀m ρ w,I m ρ w→jv k (fun ρ' w'=>∃m',m'<m∧I m' ρ' w') [] ρ w) {m:Nat} {ρ:Env} {w:Y} (h:I m ρ w):jw k ρ w:=
 Zw mixed (B:=ju) (Q:=(Z8 Z f36.results.toList k)) (p:=[1,0,1,0]) (by kernel_rfl) (by kernel_rfl) I round h
def zm (b0:V) (l1:V) (w:Y) (k:KV):Prop:=
 px Z (Zh b0) w fun v9 w=>
 px Z (U 70 v9 0) w fun v10 w=>
 px Z (F 65 v10) w fun v11 w=>
 px Z (bSem .len #[65] 3 #[v11]) w fun v12 w=>
 px Z (Zd .rem 3 (.tmp 12) (.const (.int .i64 100)) v12 (.int .i64 100)) w fun v13 w=>
 px Z (Zd .mul 3 (.const (.int .i64 2)) (.tmp 13) (.int .i64 2) v13) w fun v14 w=>
 px Z (Zd .add 3 (.const (.int .i64 1)) (.tmp 14) (.int .i64 1) v14) w fun v15 w=>
 px Z (convert 3 5 v15) w fun v16 w=>
 px Z (Instr.build 158 #[(0,l1),(1,l1),(2,v16)]) w fun v17 w=>
 px Z (Instr.alloc 158 true (.tuple #[])) w fun v4 w=>
 pu Z (Za 158 v4 v17) w fun w=>
 jw k (put (put (put (put (put (put (put (put (put (put (put (put (put (put (Zq [b0,l1]) 6 l1) 7 l1) 8 b0) 9 v9) 10 v10) 11 v11) 12 v12) 13 v13) 14 v14) 15 v15) 16 v16) 17 v17) 4 v4) 5 (.int .i64 0)) w
theorem NZ (b0:V) (l1:V) (w:Y) (k:KV):ze4 k [] (Zq [b0,l1]) w=zm b0 l1 w k:=by kernel_rfl
def jx (k:KV) (N1:KE) (ρ:Env) (w:Y):Prop:=
 px Z (bSem .len #[36] 3 #[(ρ 1)]) w fun v20 w=>
 px Z (Zd .lss 3 (.tmp 18) (.tmp 20) (ρ 5) v20) w fun v21 w=>
 pC v21 (
 px Z (U 158 (ρ 4) 2) w fun v26 w=>
 px Z (F 5 v26) w fun v27 w=>
 px Z (Zb 36 (ρ 1) (ρ 5)) w fun v28 w=>
 pu Z (Za 5 v28 v27) w fun w=>
 px Z (Zd .add 3 (.tmp 22) (.const (.int .i64 1)) (ρ 5) (.int .i64 1)) w fun v23 w=>
 N1 (put (put (put (put (put (put (put (put (put (put (put (put ρ 18 (ρ 5)) 19 (ρ 1)) 20 v20) 21 v21) 24 (ρ 1)) 25 (ρ 5)) 26 v26) 27 v27) 28 v28) 22 (ρ 5)) 23 v23) 5 v23) w)
 (
 ze4 k [1,1] (put (put (put (put ρ 18 (ρ 5)) 19 (ρ 1)) 20 v20) 21 v21) w)
theorem Oe (k:KV) (N1:KE) (ρ:Env) (w:Y):jv k N1 [] ρ w=jx k N1 ρ w:=by kernel_rfl
def zn (k:KV) (ρ:Env) (w:Y):Prop:=
 ∃S:Y→Prop,S w.drew∧(fun w=>
 pq Z S (Zh (ρ 0)) fun v31=>
 pq Z S (U 70 v31 0) fun v32=>
 pq Z S (F 65 v32) fun v33=>
 pq Z S (F 158 (ρ 4)) fun v34=>
 px Z (Instr.buildSlice 65 1 #[(0,v34)]) w fun v35 w=>S w∧(
 px Z (bSem .append #[65,65] 65 #[v33,v35]) w fun v36 w=>S w∧(
 pq Z S (Zh (ρ 0)) fun v37=>
 pq Z S (U 70 v37 0) fun v38=>
 pu Z (Za 65 v38 v36) w fun w=>(
 k (.tuple #[]) w)))) w.drew
theorem Og (k:KV) (ρ:Env) (w:Y):ze4 k [1,1] ρ w=zn k ρ w:=by kernel_rfl
theorem jy (b0:V) (l1:V) (w:Y) (k:KV) (h:zm b0 l1 w k):pFn Z 36 [b0,l1] w k:=
 Zm mixed func36 (by kernel_rfl) (by kernel_rfl) ntmps36 (by kernel_rfl) (by kernel_rfl) (by simp) ((NZ b0 l1 w k).mpr h)
noncomputable def jz:Code:=Z1 f37
def ze7 (k:KV) (q:List Nat) (ρ:Env) (w:Y):Prop:=At Z 45 jz (Z8 Z f37.results.toList k) q ρ w
noncomputable def ze8:Code:=sub jz [1,0,1,0,0]
def ze9 (k:KV) (N1:KE):Xt→KE:=ZX N1 (ZJ Z 45 jz (Z8 Z f37.results.toList k) [1,0,1,0])
def j0 (k:KV) (N1:KE) (q:List Nat) (ρ:Env) (w:Y):Prop:=At Z 45 ze8 (ze9 k N1) q ρ w
def j1 (k:KV) (ρ:Env) (w:Y):Prop:=ZN Z 45 jz (Z8 Z f37.results.toList k) [1,0,1,0] ρ w
theorem GX (k:KV) (I:Nat→KE) (round:∀m ρ w,I m ρ w→j0 k (fun ρ' w'=>∃m',m'<m∧I m' ρ' w') [] ρ w) {m:Nat} {ρ:Env} {w:Y} (h:I m ρ w):j1 k ρ w:=
 Zw mixed (B:=jz) (Q:=(Z8 Z f37.results.toList k)) (p:=[1,0,1,0]) (by kernel_rfl) (by kernel_rfl) I round h
def zo (b0:V) (l1:V) (w:Y) (k:KV):Prop:=
 px Z (Zh b0) w fun v9 w=>
 px Z (U 70 v9 2) w fun v10 w=>
 px Z (F 67 v10) w fun v11 w=>
 px Z (bSem .len #[67] 3 #[v11]) w fun v12 w=>
 px Z (Zd .mul 3 (.const (.int .i64 2)) (.tmp 12) (.int .i64 2) v12) w fun v13 w=>
 pFn Z 95 [v13] w fun v14 w=>
 px Z (Instr.build 161 #[(0,l1),(1,l1),(2,v14)]) w fun v15 w=>
 px Z (Instr.alloc 161 true (.tuple #[])) w fun v4 w=>
 pu Z (Za 161 v4 v15) w fun w=>
 j1 k (put (put (put (put (put (put (put (put (put (put (put (put (Zq [b0,l1]) 6 l1) 7 l1) 8 b0) 9 v9) 10 v10) 11 v11) 12 v12) 13 v13) 14 v14) 15 v15) 4 v4) 5 (.int .i64 0)) w
theorem Oh (b0:V) (l1:V) (w:Y) (k:KV):ze7 k [] (Zq [b0,l1]) w=zo b0 l1 w k:=by kernel_rfl
def j2 (k:KV) (N1:KE) (ρ:Env) (w:Y):Prop:=
 px Z (bSem .len #[71] 3 #[(ρ 1)]) w fun v18 w=>
 px Z (Zd .lss 3 (.tmp 16) (.tmp 18) (ρ 5) v18) w fun v19 w=>
 pC v19 (
 px Z (Zb 71 (ρ 1) (ρ 5)) w fun v25 w=>
 px Z (U 83 v25 1) w fun v26 w=>
 px Z (F 36 v26) w fun v27 w=>
 pFn Z 36 [(ρ 0),v27] w fun v28 w=>
 px Z (U 161 (ρ 4) 2) w fun v31 w=>
 px Z (F 9 v31) w fun v32 w=>
 px Z (Instr.build 83 #[(0,v32)]) w fun v33 w=>
 px Z (Zb 71 (ρ 1) (ρ 5)) w fun v34 w=>
 pu Z (Za 83 v34 v33) w fun w=>
 px Z (Zd .add 3 (.tmp 20) (.const (.int .i64 1)) (ρ 5) (.int .i64 1)) w fun v21 w=>
 N1 (put (put (put (put (put (put (put (put (put (put (put (put (put (put (put (put (put (put (put (put ρ 16 (ρ 5)) 17 (ρ 1)) 18 v18) 19 v19) 22 (ρ 0)) 23 (ρ 1)) 24 (ρ 5)) 25 v25) 26 v26) 27 v27) 28 v28) 29 (ρ 1)) 30 (ρ 5)) 31 v31) 32 v32) 33 v33) 34 v34) 20 (ρ 5)) 21 v21) 5 v21) w)
 (
 ze7 k [1,1] (put (put (put (put ρ 16 (ρ 5)) 17 (ρ 1)) 18 v18) 19 v19) w)
theorem Oi (k:KV) (N1:KE) (ρ:Env) (w:Y):j0 k N1 [] ρ w=j2 k N1 ρ w:=by kernel_rfl
def zp (k:KV) (ρ:Env) (w:Y):Prop:=
 ∃S:Y→Prop,S w.drew∧(fun w=>
 pq Z S (Zh (ρ 0)) fun v37=>
 pq Z S (U 70 v37 2) fun v38=>
 pq Z S (F 67 v38) fun v39=>
 pq Z S (F 161 (ρ 4)) fun v40=>
 px Z (Instr.buildSlice 67 1 #[(0,v40)]) w fun v41 w=>S w∧(
 px Z (bSem .append #[67,67] 67 #[v39,v41]) w fun v42 w=>S w∧(
 pq Z S (Zh (ρ 0)) fun v43=>
 pq Z S (U 70 v43 2) fun v44=>
 pu Z (Za 67 v44 v42) w fun w=>(
 k (.tuple #[]) w)))) w.drew
theorem Oj (k:KV) (ρ:Env) (w:Y):ze7 k [1,1] ρ w=zp k ρ w:=by kernel_rfl
theorem j3 (b0:V) (l1:V) (w:Y) (k:KV) (h:zo b0 l1 w k):pFn Z 37 [b0,l1] w k:=
 Zm mixed func37 (by kernel_rfl) (by kernel_rfl) ntmps37 (by kernel_rfl) (by kernel_rfl) (by simp) ((Oh b0 l1 w k).mpr h)
noncomputable def j4:Code:=Z1 f38
def zfa (k:KV) (q:List Nat) (ρ:Env) (w:Y):Prop:=At Z 37 j4 (Z8 Z f38.results.toList k) q ρ w
noncomputable def zfb:Code:=sub j4 [1,0,1,0,0]
def zfc (k:KV) (N1:KE):Xt→KE:=ZX N1 (ZJ Z 37 j4 (Z8 Z f38.results.toList k) [1,0,1,0])
def j5 (k:KV) (N1:KE) (q:List Nat) (ρ:Env) (w:Y):Prop:=At Z 37 zfb (zfc k N1) q ρ w
def j6 (k:KV) (ρ:Env) (w:Y):Prop:=ZN Z 37 j4 (Z8 Z f38.results.toList k) [1,0,1,0] ρ w
theorem GY (k:KV) (I:Nat→KE) (round:∀m ρ w,I m ρ w→j5 k (fun ρ' w'=>∃m',m'<m∧I m' ρ' w') [] ρ w) {m:Nat} {ρ:Env} {w:Y} (h:I m ρ w):j6 k ρ w:=
 Zw mixed (B:=j4) (Q:=(Z8 Z f38.results.toList k)) (p:=[1,0,1,0]) (by kernel_rfl) (by kernel_rfl) I round h
def zq (b0:V) (l1:V) (w:Y) (k:KV):Prop:=
 px Z (Zh b0) w fun v9 w=>
 px Z (U 70 v9 1) w fun v10 w=>
 px Z (F 66 v10) w fun v11 w=>
 px Z (bSem .len #[66] 3 #[v11]) w fun v12 w=>
 px Z (Zd .mul 3 (.const (.int .i64 2)) (.tmp 12) (.int .i64 2) v12) w fun v13 w=>
 pFn Z 95 [v13] w fun v14 w=>
 px Z (Instr.build 163 #[(0,l1),(1,l1),(2,v14)]) w fun v15 w=>
 px Z (Instr.alloc 163 true (.tuple #[])) w fun v4 w=>
 pu Z (Za 163 v4 v15) w fun w=>
 j6 k (put (put (put (put (put (put (put (put (put (put (put (put (Zq [b0,l1]) 6 l1) 7 l1) 8 b0) 9 v9) 10 v10) 11 v11) 12 v12) 13 v13) 14 v14) 15 v15) 4 v4) 5 (.int .i64 0)) w
theorem Ol (b0:V) (l1:V) (w:Y) (k:KV):zfa k [] (Zq [b0,l1]) w=zq b0 l1 w k:=by kernel_rfl
def j7 (k:KV) (N1:KE) (ρ:Env) (w:Y):Prop:=
 px Z (bSem .len #[73] 3 #[(ρ 1)]) w fun v18 w=>
 px Z (Zd .lss 3 (.tmp 16) (.tmp 18) (ρ 5) v18) w fun v19 w=>
 pC v19 (
 px Z (U 163 (ρ 4) 2) w fun v24 w=>
 px Z (F 9 v24) w fun v25 w=>
 px Z (Zb 73 (ρ 1) (ρ 5)) w fun v26 w=>
 pu Z (Za 9 v26 v25) w fun w=>
 px Z (Zd .add 3 (.tmp 20) (.const (.int .i64 1)) (ρ 5) (.int .i64 1)) w fun v21 w=>
 N1 (put (put (put (put (put (put (put (put (put (put (put (put ρ 16 (ρ 5)) 17 (ρ 1)) 18 v18) 19 v19) 22 (ρ 1)) 23 (ρ 5)) 24 v24) 25 v25) 26 v26) 20 (ρ 5)) 21 v21) 5 v21) w)
 (
 zfa k [1,1] (put (put (put (put ρ 16 (ρ 5)) 17 (ρ 1)) 18 v18) 19 v19) w)
theorem Om (k:KV) (N1:KE) (ρ:Env) (w:Y):j5 k N1 [] ρ w=j7 k N1 ρ w:=by kernel_rfl
def zr (k:KV) (ρ:Env) (w:Y):Prop:=
 ∃S:Y→Prop,S w.drew∧(fun w=>
 pq Z S (Zh (ρ 0)) fun v29=>
 pq Z S (U 70 v29 1) fun v30=>
 pq Z S (F 66 v30) fun v31=>
 pq Z S (F 163 (ρ 4)) fun v32=>
 px Z (Instr.buildSlice 66 1 #[(0,v32)]) w fun v33 w=>S w∧(
 px Z (bSem .append #[66,66] 66 #[v31,v33]) w fun v34 w=>S w∧(
 pq Z S (Zh (ρ 0)) fun v35=>
 pq Z S (U 70 v35 1) fun v36=>
 pu Z (Za 66 v36 v34) w fun w=>(
 k (.tuple #[]) w)))) w.drew
theorem On (k:KV) (ρ:Env) (w:Y):zfa k [1,1] ρ w=zr k ρ w:=by kernel_rfl
theorem j8 (b0:V) (l1:V) (w:Y) (k:KV) (h:zq b0 l1 w k):pFn Z 38 [b0,l1] w k:=
 Zm mixed func38 (by kernel_rfl) (by kernel_rfl) ntmps38 (by kernel_rfl) (by kernel_rfl) (by simp) ((Ol b0 l1 w k).mpr h)
noncomputable def j9:Code:=Z1 f39
def zfd (k:KV) (q:List Nat) (ρ:Env) (w:Y):Prop:=At Z 38 j9 (Z8 Z f39.results.toList k) q ρ w
noncomputable def zfe:Code:=sub j9 [1,0,1,0,0]
def zff (k:KV) (N1:KE):Xt→KE:=ZX N1 (ZJ Z 38 j9 (Z8 Z f39.results.toList k) [1,0,1,0])
def jA (k:KV) (N1:KE) (q:List Nat) (ρ:Env) (w:Y):Prop:=At Z 38 zfe (zff k N1) q ρ w
def jB (k:KV) (ρ:Env) (w:Y):Prop:=ZN Z 38 j9 (Z8 Z f39.results.toList k) [1,0,1,0] ρ w
theorem GZ (k:KV) (I:Nat→KE) (round:∀m ρ w,I m ρ w→jA k (fun ρ' w'=>∃m',m'<m∧I m' ρ' w') [] ρ w) {m:Nat} {ρ:Env} {w:Y} (h:I m ρ w):jB k ρ w:=
 Zw mixed (B:=j9) (Q:=(Z8 Z f39.results.toList k)) (p:=[1,0,1,0]) (by kernel_rfl) (by kernel_rfl) I round h
def zt (b0:V) (l1:V) (w:Y) (k:KV):Prop:=
 px Z (Zh b0) w fun v9 w=>
 px Z (U 70 v9 3) w fun v10 w=>
 px Z (F 68 v10) w fun v11 w=>
 px Z (bSem .len #[68] 3 #[v11]) w fun v12 w=>
 px Z (Zd .mul 3 (.const (.int .i64 2)) (.tmp 12) (.int .i64 2) v12) w fun v13 w=>
 px Z (Zd .add 3 (.const (.int .i64 1000)) (.tmp 13) (.int .i64 1000) v13) w fun v14 w=>
 px Z (Instr.build 165 #[(0,l1),(1,l1),(2,v14)]) w fun v15 w=>
 px Z (Instr.alloc 165 true (.tuple #[])) w fun v4 w=>
 pu Z (Za 165 v4 v15) w fun w=>
 jB k (put (put (put (put (put (put (put (put (put (put (put (put (Zq [b0,l1]) 6 l1) 7 l1) 8 b0) 9 v9) 10 v10) 11 v11) 12 v12) 13 v13) 14 v14) 15 v15) 4 v4) 5 (.int .i64 0)) w
theorem Oo (b0:V) (l1:V) (w:Y) (k:KV):zfd k [] (Zq [b0,l1]) w=zt b0 l1 w k:=by kernel_rfl
def jC (k:KV) (N1:KE) (ρ:Env) (w:Y):Prop:=
 px Z (bSem .len #[56] 3 #[(ρ 1)]) w fun v18 w=>
 px Z (Zd .lss 3 (.tmp 16) (.tmp 18) (ρ 5) v18) w fun v19 w=>
 pC v19 (
 px Z (U 165 (ρ 4) 2) w fun v24 w=>
 px Z (F 3 v24) w fun v25 w=>
 px Z (Instr.build 134 #[(1,v25)]) w fun v26 w=>
 px Z (Zb 56 (ρ 1) (ρ 5)) w fun v27 w=>
 pu Z (Za 134 v27 v26) w fun w=>
 px Z (Zd .add 3 (.tmp 20) (.const (.int .i64 1)) (ρ 5) (.int .i64 1)) w fun v21 w=>
 N1 (put (put (put (put (put (put (put (put (put (put (put (put (put ρ 16 (ρ 5)) 17 (ρ 1)) 18 v18) 19 v19) 22 (ρ 1)) 23 (ρ 5)) 24 v24) 25 v25) 26 v26) 27 v27) 20 (ρ 5)) 21 v21) 5 v21) w)
 (
 zfd k [1,1] (put (put (put (put ρ 16 (ρ 5)) 17 (ρ 1)) 18 v18) 19 v19) w)
theorem Oq (k:KV) (N1:KE) (ρ:Env) (w:Y):jA k N1 [] ρ w=jC k N1 ρ w:=by kernel_rfl
def zu (k:KV) (ρ:Env) (w:Y):Prop:=
 ∃S:Y→Prop,S w.drew∧(fun w=>
 pq Z S (Zh (ρ 0)) fun v30=>
 pq Z S (U 70 v30 3) fun v31=>
 pq Z S (F 68 v31) fun v32=>
 pq Z S (F 165 (ρ 4)) fun v33=>
 px Z (Instr.buildSlice 68 1 #[(0,v33)]) w fun v34 w=>S w∧(
 px Z (bSem .append #[68,68] 68 #[v32,v34]) w fun v35 w=>S w∧(
 pq Z S (Zh (ρ 0)) fun v36=>
 pq Z S (U 70 v36 3) fun v37=>
 pu Z (Za 68 v37 v35) w fun w=>(
 k (.tuple #[]) w)))) w.drew
theorem Ou (k:KV) (ρ:Env) (w:Y):zfd k [1,1] ρ w=zu k ρ w:=by kernel_rfl
theorem jD (b0:V) (l1:V) (w:Y) (k:KV) (h:zt b0 l1 w k):pFn Z 39 [b0,l1] w k:=
 Zm mixed func39 (by kernel_rfl) (by kernel_rfl) ntmps39 (by kernel_rfl) (by kernel_rfl) (by simp) ((Oo b0 l1 w k).mpr h)
noncomputable def B9:Code:=Z1 f46
def Ov (k:KV) (q:List Nat) (ρ:Env) (w:Y):Prop:=At Z 285 B9 (Z8 Z f46.results.toList k) q ρ w
noncomputable def Ha:Code:=sub B9 [1,0,1,0,0]
def Ow (k:KV) (N1:KE):Xt→KE:=ZX N1 (ZJ Z 285 B9 (Z8 Z f46.results.toList k) [1,0,1,0])
def Ox (k:KV) (N1:KE) (q:List Nat) (ρ:Env) (w:Y):Prop:=At Z 285 Ha (Ow k N1) q ρ w
def zv (k:KV) (ρ:Env) (w:Y):Prop:=ZN Z 285 B9 (Z8 Z f46.results.toList k) [1,0,1,0] ρ w
theorem Hb (k:KV) (I:Nat→KE) (round:∀m ρ w,I m ρ w→Ox k (fun ρ' w'=>∃m',m'<m∧I m' ρ' w') [] ρ w) {m:Nat} {ρ:Env} {w:Y} (h:I m ρ w):zv k ρ w:=
 Zw mixed (B:=B9) (Q:=(Z8 Z f46.results.toList k)) (p:=[1,0,1,0]) (by kernel_rfl) (by kernel_rfl) I round h
noncomputable def zfg:Code:=sub Ha [1,0,0,1,1,0,0]
def zfh (k:KV) (N1:KE) (N2:KE):Xt→KE:=ZX N2 (ZJ Z 285 Ha (Ow k N1) [1,0,0,1,1,0])
def jE (k:KV) (N1:KE) (N2:KE) (q:List Nat) (ρ:Env) (w:Y):Prop:=At Z 285 zfg (zfh k N1 N2) q ρ w
def zx (k:KV) (N1:KE) (ρ:Env) (w:Y):Prop:=ZN Z 285 Ha (Ow k N1) [1,0,0,1,1,0] ρ w
theorem Hc (k:KV) (N1:KE) (I:Nat→KE) (round:∀m ρ w,I m ρ w→jE k N1 (fun ρ' w'=>∃m',m'<m∧I m' ρ' w') [] ρ w) {m:Nat} {ρ:Env} {w:Y} (h:I m ρ w):zx k N1 ρ w:=
 Zw mixed (B:=Ha) (Q:=(Ow k N1)) (p:=[1,0,0,1,1,0]) (by kernel_rfl) (by kernel_rfl) I round h
noncomputable def Hd:Code:=sub B9 [1,1,0,1,0,0]
def Oy (k:KV) (N3:KE):Xt→KE:=ZX N3 (ZJ Z 285 B9 (Z8 Z f46.results.toList k) [1,1,0,1,0])
def Oz (k:KV) (N3:KE) (q:List Nat) (ρ:Env) (w:Y):Prop:=At Z 285 Hd (Oy k N3) q ρ w
def zy (k:KV) (ρ:Env) (w:Y):Prop:=ZN Z 285 B9 (Z8 Z f46.results.toList k) [1,1,0,1,0] ρ w
theorem He (k:KV) (I:Nat→KE) (round:∀m ρ w,I m ρ w→Oz k (fun ρ' w'=>∃m',m'<m∧I m' ρ' w') [] ρ w) {m:Nat} {ρ:Env} {w:Y} (h:I m ρ w):zy k ρ w:=
 Zw mixed (B:=B9) (Q:=(Z8 Z f46.results.toList k)) (p:=[1,1,0,1,0]) (by kernel_rfl) (by kernel_rfl) I round h
noncomputable def zfi:Code:=sub Hd [1,0,0,1,1,0,0]
def zfj (k:KV) (N3:KE) (N4:KE):Xt→KE:=ZX N4 (ZJ Z 285 Hd (Oy k N3) [1,0,0,1,1,0])
def jF (k:KV) (N3:KE) (N4:KE) (q:List Nat) (ρ:Env) (w:Y):Prop:=At Z 285 zfi (zfj k N3 N4) q ρ w
def zz (k:KV) (N3:KE) (ρ:Env) (w:Y):Prop:=ZN Z 285 Hd (Oy k N3) [1,0,0,1,1,0] ρ w
theorem Hf (k:KV) (N3:KE) (I:Nat→KE) (round:∀m ρ w,I m ρ w→jF k N3 (fun ρ' w'=>∃m',m'<m∧I m' ρ' w') [] ρ w) {m:Nat} {ρ:Env} {w:Y} (h:I m ρ w):zz k N3 ρ w:=
 Zw mixed (B:=Hd) (Q:=(Oy k N3)) (p:=[1,0,0,1,1,0]) (by kernel_rfl) (by kernel_rfl) I round h
noncomputable def Hg:Code:=sub B9 [1,1,1,0,1,0,0]
def O0 (k:KV) (N5:KE):Xt→KE:=ZX N5 (ZJ Z 285 B9 (Z8 Z f46.results.toList k) [1,1,1,0,1,0])
def OA (k:KV) (N5:KE) (q:List Nat) (ρ:Env) (w:Y):Prop:=At Z 285 Hg (O0 k N5) q ρ w
def zB (k:KV) (ρ:Env) (w:Y):Prop:=ZN Z 285 B9 (Z8 Z f46.results.toList k) [1,1,1,0,1,0] ρ w
theorem Hh (k:KV) (I:Nat→KE) (round:∀m ρ w,I m ρ w→OA k (fun ρ' w'=>∃m',m'<m∧I m' ρ' w') [] ρ w) {m:Nat} {ρ:Env} {w:Y} (h:I m ρ w):zB k ρ w:=
 Zw mixed (B:=B9) (Q:=(Z8 Z f46.results.toList k)) (p:=[1,1,1,0,1,0]) (by kernel_rfl) (by kernel_rfl) I round h
noncomputable def zfk:Code:=sub Hg [1,0,0,1,1,0,0]
def zfl (k:KV) (N5:KE) (N6:KE):Xt→KE:=ZX N6 (ZJ Z 285 Hg (O0 k N5) [1,0,0,1,1,0])
def jG (k:KV) (N5:KE) (N6:KE) (q:List Nat) (ρ:Env) (w:Y):Prop:=At Z 285 zfk (zfl k N5 N6) q ρ w
def zD (k:KV) (N5:KE) (ρ:Env) (w:Y):Prop:=ZN Z 285 Hg (O0 k N5) [1,0,0,1,1,0] ρ w
theorem Hi (k:KV) (N5:KE) (I:Nat→KE) (round:∀m ρ w,I m ρ w→jG k N5 (fun ρ' w'=>∃m',m'<m∧I m' ρ' w') [] ρ w) {m:Nat} {ρ:Env} {w:Y} (h:I m ρ w):zD k N5 ρ w:=
 Zw mixed (B:=Hg) (Q:=(O0 k N5)) (p:=[1,0,0,1,1,0]) (by kernel_rfl) (by kernel_rfl) I round h
noncomputable def Hj:Code:=sub B9 [1,1,1,1,0,1,0,0]
def OB (k:KV) (N7:KE):Xt→KE:=ZX N7 (ZJ Z 285 B9 (Z8 Z f46.results.toList k) [1,1,1,1,0,1,0])
def OC (k:KV) (N7:KE) (q:List Nat) (ρ:Env) (w:Y):Prop:=At Z 285 Hj (OB k N7) q ρ w
def zE (k:KV) (ρ:Env) (w:Y):Prop:=ZN Z 285 B9 (Z8 Z f46.results.toList k) [1,1,1,1,0,1,0] ρ w
theorem Hk (k:KV) (I:Nat→KE) (round:∀m ρ w,I m ρ w→OC k (fun ρ' w'=>∃m',m'<m∧I m' ρ' w') [] ρ w) {m:Nat} {ρ:Env} {w:Y} (h:I m ρ w):zE k ρ w:=
 Zw mixed (B:=B9) (Q:=(Z8 Z f46.results.toList k)) (p:=[1,1,1,1,0,1,0]) (by kernel_rfl) (by kernel_rfl) I round h
noncomputable def zfm:Code:=sub Hj [1,0,0,1,1,0,0]
def zfn (k:KV) (N7:KE) (N8:KE):Xt→KE:=ZX N8 (ZJ Z 285 Hj (OB k N7) [1,0,0,1,1,0])
def jH (k:KV) (N7:KE) (N8:KE) (q:List Nat) (ρ:Env) (w:Y):Prop:=At Z 285 zfm (zfn k N7 N8) q ρ w
def zG (k:KV) (N7:KE) (ρ:Env) (w:Y):Prop:=ZN Z 285 Hj (OB k N7) [1,0,0,1,1,0] ρ w
theorem Hl (k:KV) (N7:KE) (I:Nat→KE) (round:∀m ρ w,I m ρ w→jH k N7 (fun ρ' w'=>∃m',m'<m∧I m' ρ' w') [] ρ w) {m:Nat} {ρ:Env} {w:Y} (h:I m ρ w):zG k N7 ρ w:=
 Zw mixed (B:=Hj) (Q:=(OB k N7)) (p:=[1,0,0,1,1,0]) (by kernel_rfl) (by kernel_rfl) I round h
def zH (b0:V) (w:Y) (k:KV):Prop:=
 zv k (put (put (Zq [b0]) 2 (.bool false)) 3 (.int .i64 0)) w
theorem OD (b0:V) (w:Y) (k:KV):Ov k [] (Zq [b0]) w=zH b0 w k:=by kernel_rfl
def jI (k:KV) (N1:KE) (ρ:Env) (w:Y):Prop:=
 px Z (Zh (ρ 0)) w fun v17 w=>
 px Z (U 70 v17 0) w fun v18 w=>
 px Z (F 65 v18) w fun v19 w=>
 px Z (bSem .len #[65] 3 #[v19]) w fun v20 w=>
 px Z (Zd .lss 3 (.tmp 15) (.tmp 20) (ρ 3) v20) w fun v21 w=>
 pC v21 (
 px Z (Zh (ρ 0)) w fun v25 w=>
 px Z (U 70 v25 0) w fun v26 w=>
 px Z (F 65 v26) w fun v27 w=>
 px Z (Zb 65 v27 (ρ 3)) w fun v29 w=>
 px Z (F 158 v29) w fun v30 w=>
 px Z (Instr.alloc 158 true (.tuple #[])) w fun v4 w=>
 pu Z (Za 158 v4 v30) w fun w=>
 zx k N1 (put (put (put (put (put (put (put (put (put (put (put (put (put (put (put (put ρ 15 (ρ 3)) 16 (ρ 0)) 17 v17) 18 v18) 19 v19) 20 v20) 21 v21) 24 (ρ 0)) 25 v25) 26 v26) 27 v27) 28 (ρ 3)) 29 v29) 30 v30) 4 v4) 5 (.int .i64 0)) w)
 (
 Ov k [1,1] (put (put (put (put (put (put (put ρ 15 (ρ 3)) 16 (ρ 0)) 17 v17) 18 v18) 19 v19) 20 v20) 21 v21) w)
theorem OE (k:KV) (N1:KE) (ρ:Env) (w:Y):Ox k N1 [] ρ w=jI k N1 ρ w:=by kernel_rfl
def jJ (k:KV) (N1:KE) (N2:KE) (ρ:Env) (w:Y):Prop:=
 px Z (U 158 (ρ 4) 1) w fun v32 w=>
 px Z (F 36 v32) w fun v33 w=>
 px Z (bSem .len #[36] 3 #[v33]) w fun v34 w=>
 px Z (Zd .lss 3 (.tmp 31) (.tmp 34) (ρ 5) v34) w fun v35 w=>
 pC v35 (
 ∃S:Y→Prop,S w.drew∧(fun w=>
 pq Z S (U 158 (ρ 4) 0) fun v39=>
 pq Z S (F 36 v39) fun v40=>
 pq Z S (bSem .len #[36] 3 #[v40]) fun v41=>
 pq Z S (Zd .lss 3 (.tmp 38) (.tmp 41) (ρ 5) v41) fun v42=>
 pGq v42 true (fun k=>pq Z S (U 158 (ρ 4) 0) k) (next:=fun v44=>
 pGq v42 true (fun k=>pq Z S (F 36 v44) k) (next:=fun v45=>
 pGq v42 true (fun k=>k (ρ 5)) (next:=fun v46=>
 pGq v42 true (fun k=>pq Z S (Zb 36 v45 v46) k) (next:=fun v47=>
 pGq v42 true (fun k=>pq Z S (F 5 v47) k) (next:=fun v48=>
 pGq v42 true (fun k=>pq Z S (U 158 (ρ 4) 2) k) (next:=fun v49=>
 pGq v42 true (fun k=>pq Z S (F 5 v49) k) (next:=fun v50=>
 pGq v42 true (fun k=>pq Z S (Zd .neq 5 (.tmp 48) (.tmp 50) v48 v50) k) (next:=fun v51=>
 pGq v42 true (fun k=>k v51) (next:=fun v52=>
 pGq v52 false (fun k=>pq Z S (U 158 (ρ 4) 1) k) (next:=fun v53=>
 pGq v52 false (fun k=>pq Z S (F 36 v53) k) (next:=fun v54=>
 pGq v52 false (fun k=>k (ρ 5)) (next:=fun v55=>
 pGq v52 false (fun k=>pq Z S (Zb 36 v54 v55) k) (next:=fun v56=>
 pGq v52 false (fun k=>pq Z S (F 5 v56) k) (next:=fun v57=>
 pGq v52 false (fun k=>pq Z S (U 158 (ρ 4) 2) k) (next:=fun v58=>
 pGq v52 false (fun k=>pq Z S (F 5 v58) k) (next:=fun v59=>
 pGq v52 false (fun k=>pq Z S (Zd .neq 5 (.tmp 57) (.tmp 59) v57 v59) k) (next:=fun v60=>
 pGq v42 true (fun k=>pq Z S (Zs v52 (.bool true) v60) k) (next:=fun v61=>
 pq Z S (Zs v42 v61 (.bool false)) fun v62=>
 pGq v62 false (fun k=>k (ρ 5)) (next:=fun v64=>
 pGq v62 false (fun k=>pq Z S (U 158 (ρ 4) 0) k) (next:=fun v65=>
 pGq v62 false (fun k=>pq Z S (F 36 v65) k) (next:=fun v66=>
 pGq v62 false (fun k=>pq Z S (bSem .len #[36] 3 #[v66]) k) (next:=fun v67=>
 pGq v62 false (fun k=>pq Z S (Zd .geq 3 (.tmp 64) (.tmp 67) v64 v67) k) (next:=fun v68=>
 pGq v62 false (fun k=>k v68) (next:=fun v69=>
 pGq v69 true (fun k=>pq Z S (U 158 (ρ 4) 1) k) (next:=fun v70=>
 pGq v69 true (fun k=>pq Z S (F 36 v70) k) (next:=fun v71=>
 pGq v69 true (fun k=>k (ρ 5)) (next:=fun v72=>
 pGq v69 true (fun k=>pq Z S (Zb 36 v71 v72) k) (next:=fun v73=>
 pGq v69 true (fun k=>pq Z S (F 5 v73) k) (next:=fun v74=>
 pGq v69 true (fun k=>pq Z S (U 158 (ρ 4) 2) k) (next:=fun v75=>
 pGq v69 true (fun k=>pq Z S (F 5 v75) k) (next:=fun v76=>
 pGq v69 true (fun k=>pq Z S (Zd .add 5 (.tmp 76) (.const (.int .u8 1)) v76 (.int .u8 1)) k) (next:=fun v77=>
 pGq v69 true (fun k=>pq Z S (Zd .neq 5 (.tmp 74) (.tmp 77) v74 v77) k) (next:=fun v78=>
 pGq v62 false (fun k=>pq Z S (Zs v69 v78 (.bool false)) k) (next:=fun v79=>
 pq Z S (Zs v62 (.bool true) v79) fun v80=>
 pC v80 (
 k (.bool false) w)
 (
 px Z (Zd .add 3 (.tmp 36) (.const (.int .i64 1)) (ρ 5) (.int .i64 1)) w fun v37 w=>
 N2 (put (put (put (put (put (put (put (put (put (put (put (put (put (put (put (put (put (put (put (put (put (put (put (put (put (put (put (put (put (put (put (put (put (put (put (put (put (put (put (put (put (put (put (put (put (put (put (put (put (put (put ρ 31 (ρ 5)) 32 v32) 33 v33) 34 v34) 35 v35) 38 (ρ 5)) 39 v39) 40 v40) 41 v41) 42 v42) 43 v42) 44 v44) 45 v45) 46 v46) 47 v47) 48 v48) 49 v49) 50 v50) 51 v51) 52 v52) 53 v53) 54 v54) 55 v55) 56 v56) 57 v57) 58 v58) 59 v59) 60 v60) 61 v61) 62 v62) 63 v62) 64 v64) 65 v65) 66 v66) 67 v67) 68 v68) 69 v69) 70 v70) 71 v71) 72 v72) 73 v73) 74 v74) 75 v75) 76 v76) 77 v77) 78 v78) 79 v79) 80 v80) 36 (ρ 5)) 37 v37) 5 v37) w)))))))))))))))))))))))))))))))))))) w.drew)
 (
 Ox k N1 [1,1] (put (put (put (put (put ρ 31 (ρ 5)) 32 v32) 33 v33) 34 v34) 35 v35) w)
theorem OF (k:KV) (N1:KE) (N2:KE) (ρ:Env) (w:Y):jE k N1 N2 [] ρ w=jJ k N1 N2 ρ w:=by kernel_rfl
def zI (k:KV) (ρ:Env) (w:Y):Prop:=
 zy k (put ρ 6 (.int .i64 0)) w
theorem OG (k:KV) (ρ:Env) (w:Y):Ov k [1,1] ρ w=zI k ρ w:=by kernel_rfl
def zJ (k:KV) (N1:KE) (ρ:Env) (w:Y):Prop:=
 px Z (Zd .add 3 (.tmp 22) (.const (.int .i64 1)) (ρ 3) (.int .i64 1)) w fun v23 w=>
 N1 (put (put (put ρ 22 (ρ 3)) 23 v23) 3 v23) w
theorem OH (k:KV) (N1:KE) (ρ:Env) (w:Y):Ox k N1 [1,1] ρ w=zJ k N1 ρ w:=by kernel_rfl
def jK (k:KV) (N3:KE) (ρ:Env) (w:Y):Prop:=
 px Z (Zh (ρ 0)) w fun v83 w=>
 px Z (U 70 v83 1) w fun v84 w=>
 px Z (F 66 v84) w fun v85 w=>
 px Z (bSem .len #[66] 3 #[v85]) w fun v86 w=>
 px Z (Zd .lss 3 (.tmp 81) (.tmp 86) (ρ 6) v86) w fun v87 w=>
 pC v87 (
 px Z (Zh (ρ 0)) w fun v91 w=>
 px Z (U 70 v91 1) w fun v92 w=>
 px Z (F 66 v92) w fun v93 w=>
 px Z (Zb 66 v93 (ρ 6)) w fun v95 w=>
 px Z (F 163 v95) w fun v96 w=>
 px Z (Instr.alloc 163 true (.tuple #[])) w fun v7 w=>
 pu Z (Za 163 v7 v96) w fun w=>
 zz k N3 (put (put (put (put (put (put (put (put (put (put (put (put (put (put (put (put ρ 81 (ρ 6)) 82 (ρ 0)) 83 v83) 84 v84) 85 v85) 86 v86) 87 v87) 90 (ρ 0)) 91 v91) 92 v92) 93 v93) 94 (ρ 6)) 95 v95) 96 v96) 7 v7) 8 (.int .i64 0)) w)
 (
 Ov k [1,1,1] (put (put (put (put (put (put (put ρ 81 (ρ 6)) 82 (ρ 0)) 83 v83) 84 v84) 85 v85) 86 v86) 87 v87) w)
theorem OI (k:KV) (N3:KE) (ρ:Env) (w:Y):Oz k N3 [] ρ w=jK k N3 ρ w:=by kernel_rfl
def jL (k:KV) (N3:KE) (N4:KE) (ρ:Env) (w:Y):Prop:=
 px Z (U 163 (ρ 7) 1) w fun v98 w=>
 px Z (F 73 v98) w fun v99 w=>
 px Z (bSem .len #[73] 3 #[v99]) w fun v100 w=>
 px Z (Zd .lss 3 (.tmp 97) (.tmp 100) (ρ 8) v100) w fun v101 w=>
 pC v101 (
 ∃S:Y→Prop,S w.drew∧(fun w=>
 pq Z S (U 163 (ρ 7) 0) fun v105=>
 pq Z S (F 73 v105) fun v106=>
 pq Z S (bSem .len #[73] 3 #[v106]) fun v107=>
 pq Z S (Zd .lss 3 (.tmp 104) (.tmp 107) (ρ 8) v107) fun v108=>
 pGq v108 true (fun k=>pq Z S (U 163 (ρ 7) 0) k) (next:=fun v110=>
 pGq v108 true (fun k=>pq Z S (F 73 v110) k) (next:=fun v111=>
 pGq v108 true (fun k=>k (ρ 8)) (next:=fun v112=>
 pGq v108 true (fun k=>pq Z S (Zb 73 v111 v112) k) (next:=fun v113=>
 pGq v108 true (fun k=>pq Z S (F 9 v113) k) (next:=fun v114=>
 pGq v108 true (fun k=>pq Z S (U 163 (ρ 7) 2) k) (next:=fun v115=>
 pGq v108 true (fun k=>pq Z S (F 9 v115) k) (next:=fun v116=>
 pGq v108 true (fun k=>pq Z S (Zd .neq 9 (.tmp 114) (.tmp 116) v114 v116) k) (next:=fun v117=>
 pGq v108 true (fun k=>k v117) (next:=fun v118=>
 pGq v118 false (fun k=>pq Z S (U 163 (ρ 7) 1) k) (next:=fun v119=>
 pGq v118 false (fun k=>pq Z S (F 73 v119) k) (next:=fun v120=>
 pGq v118 false (fun k=>k (ρ 8)) (next:=fun v121=>
 pGq v118 false (fun k=>pq Z S (Zb 73 v120 v121) k) (next:=fun v122=>
 pGq v118 false (fun k=>pq Z S (F 9 v122) k) (next:=fun v123=>
 pGq v118 false (fun k=>pq Z S (U 163 (ρ 7) 2) k) (next:=fun v124=>
 pGq v118 false (fun k=>pq Z S (F 9 v124) k) (next:=fun v125=>
 pGq v118 false (fun k=>pq Z S (Zd .neq 9 (.tmp 123) (.tmp 125) v123 v125) k) (next:=fun v126=>
 pGq v108 true (fun k=>pq Z S (Zs v118 (.bool true) v126) k) (next:=fun v127=>
 pq Z S (Zs v108 v127 (.bool false)) fun v128=>
 pGq v128 false (fun k=>k (ρ 8)) (next:=fun v130=>
 pGq v128 false (fun k=>pq Z S (U 163 (ρ 7) 0) k) (next:=fun v131=>
 pGq v128 false (fun k=>pq Z S (F 73 v131) k) (next:=fun v132=>
 pGq v128 false (fun k=>pq Z S (bSem .len #[73] 3 #[v132]) k) (next:=fun v133=>
 pGq v128 false (fun k=>pq Z S (Zd .geq 3 (.tmp 130) (.tmp 133) v130 v133) k) (next:=fun v134=>
 pGq v128 false (fun k=>k v134) (next:=fun v135=>
 pGq v135 true (fun k=>pq Z S (U 163 (ρ 7) 1) k) (next:=fun v136=>
 pGq v135 true (fun k=>pq Z S (F 73 v136) k) (next:=fun v137=>
 pGq v135 true (fun k=>k (ρ 8)) (next:=fun v138=>
 pGq v135 true (fun k=>pq Z S (Zb 73 v137 v138) k) (next:=fun v139=>
 pGq v135 true (fun k=>pq Z S (F 9 v139) k) (next:=fun v140=>
 pGq v135 true (fun k=>pq Z S (U 163 (ρ 7) 2) k) (next:=fun v141=>
 pGq v135 true (fun k=>pq Z S (F 9 v141) k) (next:=fun v142=>
 pGq v135 true (fun k=>pq Z S (Zd .add 9 (.tmp 142) (.const (.string (ByteArray.mk #[120]))) v142 (.string (ByteArray.mk #[120]))) k) (next:=fun v143=>
 pGq v135 true (fun k=>pq Z S (Zd .neq 9 (.tmp 140) (.tmp 143) v140 v143) k) (next:=fun v144=>
 pGq v128 false (fun k=>pq Z S (Zs v135 v144 (.bool false)) k) (next:=fun v145=>
 pq Z S (Zs v128 (.bool true) v145) fun v146=>
 pC v146 (
 k (.bool false) w)
 (
 px Z (Zd .add 3 (.tmp 102) (.const (.int .i64 1)) (ρ 8) (.int .i64 1)) w fun v103 w=>
 N4 (put (put (put (put (put (put (put (put (put (put (put (put (put (put (put (put (put (put (put (put (put (put (put (put (put (put (put (put (put (put (put (put (put (put (put (put (put (put (put (put (put (put (put (put (put (put (put (put (put (put (put ρ 97 (ρ 8)) 98 v98) 99 v99) 100 v100) 101 v101) 104 (ρ 8)) 105 v105) 106 v106) 107 v107) 108 v108) 109 v108) 110 v110) 111 v111) 112 v112) 113 v113) 114 v114) 115 v115) 116 v116) 117 v117) 118 v118) 119 v119) 120 v120) 121 v121) 122 v122) 123 v123) 124 v124) 125 v125) 126 v126) 127 v127) 128 v128) 129 v128) 130 v130) 131 v131) 132 v132) 133 v133) 134 v134) 135 v135) 136 v136) 137 v137) 138 v138) 139 v139) 140 v140) 141 v141) 142 v142) 143 v143) 144 v144) 145 v145) 146 v146) 102 (ρ 8)) 103 v103) 8 v103) w)))))))))))))))))))))))))))))))))))) w.drew)
 (
 Oz k N3 [1,1] (put (put (put (put (put ρ 97 (ρ 8)) 98 v98) 99 v99) 100 v100) 101 v101) w)
theorem OJ (k:KV) (N3:KE) (N4:KE) (ρ:Env) (w:Y):jF k N3 N4 [] ρ w=jL k N3 N4 ρ w:=by kernel_rfl
def zK (k:KV) (ρ:Env) (w:Y):Prop:=
 zB k (put ρ 9 (.int .i64 0)) w
theorem OK (k:KV) (ρ:Env) (w:Y):Ov k [1,1,1] ρ w=zK k ρ w:=by kernel_rfl
def zL (k:KV) (N3:KE) (ρ:Env) (w:Y):Prop:=
 px Z (Zd .add 3 (.tmp 88) (.const (.int .i64 1)) (ρ 6) (.int .i64 1)) w fun v89 w=>
 N3 (put (put (put ρ 88 (ρ 6)) 89 v89) 6 v89) w
theorem OL (k:KV) (N3:KE) (ρ:Env) (w:Y):Oz k N3 [1,1] ρ w=zL k N3 ρ w:=by kernel_rfl
def jM (k:KV) (N5:KE) (ρ:Env) (w:Y):Prop:=
 px Z (Zh (ρ 0)) w fun v149 w=>
 px Z (U 70 v149 2) w fun v150 w=>
 px Z (F 67 v150) w fun v151 w=>
 px Z (bSem .len #[67] 3 #[v151]) w fun v152 w=>
 px Z (Zd .lss 3 (.tmp 147) (.tmp 152) (ρ 9) v152) w fun v153 w=>
 pC v153 (
 px Z (Zh (ρ 0)) w fun v157 w=>
 px Z (U 70 v157 2) w fun v158 w=>
 px Z (F 67 v158) w fun v159 w=>
 px Z (Zb 67 v159 (ρ 9)) w fun v161 w=>
 px Z (F 161 v161) w fun v162 w=>
 px Z (Instr.alloc 161 true (.tuple #[])) w fun v10 w=>
 pu Z (Za 161 v10 v162) w fun w=>
 zD k N5 (put (put (put (put (put (put (put (put (put (put (put (put (put (put (put (put ρ 147 (ρ 9)) 148 (ρ 0)) 149 v149) 150 v150) 151 v151) 152 v152) 153 v153) 156 (ρ 0)) 157 v157) 158 v158) 159 v159) 160 (ρ 9)) 161 v161) 162 v162) 10 v10) 11 (.int .i64 0)) w)
 (
 Ov k [1,1,1,1] (put (put (put (put (put (put (put ρ 147 (ρ 9)) 148 (ρ 0)) 149 v149) 150 v150) 151 v151) 152 v152) 153 v153) w)
theorem OM (k:KV) (N5:KE) (ρ:Env) (w:Y):OA k N5 [] ρ w=jM k N5 ρ w:=by kernel_rfl
def SF (k:KV) (N5:KE) (N6:KE) (ρ:Env) (w:Y):Prop:=
 px Z (U 161 (ρ 10) 1) w fun v164 w=>
 px Z (F 71 v164) w fun v165 w=>
 px Z (bSem .len #[71] 3 #[v165]) w fun v166 w=>
 px Z (Zd .lss 3 (.tmp 163) (.tmp 166) (ρ 11) v166) w fun v167 w=>
 pC v167 (
 ∃S:Y→Prop,S w.drew∧(fun w=>
 pq Z S (U 161 (ρ 10) 0) fun v171=>
 pq Z S (F 71 v171) fun v172=>
 pq Z S (bSem .len #[71] 3 #[v172]) fun v173=>
 pq Z S (Zd .lss 3 (.tmp 170) (.tmp 173) (ρ 11) v173) fun v174=>
 pGq v174 true (fun k=>pq Z S (U 161 (ρ 10) 0) k) (next:=fun v176=>
 pGq v174 true (fun k=>pq Z S (F 71 v176) k) (next:=fun v177=>
 pGq v174 true (fun k=>k (ρ 11)) (next:=fun v178=>
 pGq v174 true (fun k=>pq Z S (Zb 71 v177 v178) k) (next:=fun v179=>
 pGq v174 true (fun k=>pq Z S (U 83 v179 0) k) (next:=fun v180=>
 pGq v174 true (fun k=>pq Z S (F 9 v180) k) (next:=fun v181=>
 pGq v174 true (fun k=>pq Z S (U 161 (ρ 10) 2) k) (next:=fun v182=>
 pGq v174 true (fun k=>pq Z S (F 9 v182) k) (next:=fun v183=>
 pGq v174 true (fun k=>pq Z S (Zd .neq 9 (.tmp 181) (.tmp 183) v181 v183) k) (next:=fun v184=>
 pGq v174 true (fun k=>k v184) (next:=fun v185=>
 pGq v185 false (fun k=>pq Z S (U 161 (ρ 10) 1) k) (next:=fun v186=>
 pGq v185 false (fun k=>pq Z S (F 71 v186) k) (next:=fun v187=>
 pGq v185 false (fun k=>k (ρ 11)) (next:=fun v188=>
 pGq v185 false (fun k=>pq Z S (Zb 71 v187 v188) k) (next:=fun v189=>
 pGq v185 false (fun k=>pq Z S (U 83 v189 0) k) (next:=fun v190=>
 pGq v185 false (fun k=>pq Z S (F 9 v190) k) (next:=fun v191=>
 pGq v185 false (fun k=>pq Z S (U 161 (ρ 10) 2) k) (next:=fun v192=>
 pGq v185 false (fun k=>pq Z S (F 9 v192) k) (next:=fun v193=>
 pGq v185 false (fun k=>pq Z S (Zd .neq 9 (.tmp 191) (.tmp 193) v191 v193) k) (next:=fun v194=>
 pGq v174 true (fun k=>pq Z S (Zs v185 (.bool true) v194) k) (next:=fun v195=>
 pq Z S (Zs v174 v195 (.bool false)) fun v196=>
 pGq v196 false (fun k=>k (ρ 11)) (next:=fun v198=>
 pGq v196 false (fun k=>pq Z S (U 161 (ρ 10) 0) k) (next:=fun v199=>
 pGq v196 false (fun k=>pq Z S (F 71 v199) k) (next:=fun v200=>
 pGq v196 false (fun k=>pq Z S (bSem .len #[71] 3 #[v200]) k) (next:=fun v201=>
 pGq v196 false (fun k=>pq Z S (Zd .geq 3 (.tmp 198) (.tmp 201) v198 v201) k) (next:=fun v202=>
 pGq v196 false (fun k=>k v202) (next:=fun v203=>
 pGq v203 true (fun k=>pq Z S (U 161 (ρ 10) 1) k) (next:=fun v204=>
 pGq v203 true (fun k=>pq Z S (F 71 v204) k) (next:=fun v205=>
 pGq v203 true (fun k=>k (ρ 11)) (next:=fun v206=>
 pGq v203 true (fun k=>pq Z S (Zb 71 v205 v206) k) (next:=fun v207=>
 pGq v203 true (fun k=>pq Z S (U 83 v207 0) k) (next:=fun v208=>
 pGq v203 true (fun k=>pq Z S (F 9 v208) k) (next:=fun v209=>
 pGq v203 true (fun k=>pq Z S (U 161 (ρ 10) 2) k) (next:=fun v210=>
 pGq v203 true (fun k=>pq Z S (F 9 v210) k) (next:=fun v211=>
 pGq v203 true (fun k=>pq Z S (Zd .add 9 (.tmp 211) (.const (.string (ByteArray.mk #[120]))) v211 (.string (ByteArray.mk #[120]))) k) (next:=fun v212=>
 pGq v203 true (fun k=>pq Z S (Zd .neq 9 (.tmp 209) (.tmp 212) v209 v212) k) (next:=fun v213=>
 pGq v196 false (fun k=>pq Z S (Zs v203 v213 (.bool false)) k) (next:=fun v214=>
 pq Z S (Zs v196 (.bool true) v214) fun v215=>
 pC v215 (
 k (.bool false) w)
 (
 px Z (Zd .add 3 (.tmp 168) (.const (.int .i64 1)) (ρ 11) (.int .i64 1)) w fun v169 w=>
 N6 (put (put (put (put (put (put (put (put (put (put (put (put (put (put (put (put (put (put (put (put (put (put (put (put (put (put (put (put (put (put (put (put (put (put (put (put (put (put (put (put (put (put (put (put (put (put (put (put (put (put (put (put (put (put ρ 163 (ρ 11)) 164 v164) 165 v165) 166 v166) 167 v167) 170 (ρ 11)) 171 v171) 172 v172) 173 v173) 174 v174) 175 v174) 176 v176) 177 v177) 178 v178) 179 v179) 180 v180) 181 v181) 182 v182) 183 v183) 184 v184) 185 v185) 186 v186) 187 v187) 188 v188) 189 v189) 190 v190) 191 v191) 192 v192) 193 v193) 194 v194) 195 v195) 196 v196) 197 v196) 198 v198) 199 v199) 200 v200) 201 v201) 202 v202) 203 v203) 204 v204) 205 v205) 206 v206) 207 v207) 208 v208) 209 v209) 210 v210) 211 v211) 212 v212) 213 v213) 214 v214) 215 v215) 168 (ρ 11)) 169 v169) 11 v169) w))))))))))))))))))))))))))))))))))))))) w.drew)
 (
 OA k N5 [1,1] (put (put (put (put (put ρ 163 (ρ 11)) 164 v164) 165 v165) 166 v166) 167 v167) w)
theorem Hm (k:KV) (N5:KE) (N6:KE) (ρ:Env) (w:Y):jG k N5 N6 [] ρ w=SF k N5 N6 ρ w:=by kernel_rfl
def Hn (k:KV) (ρ:Env) (w:Y):Prop:=
 zE k (put ρ 12 (.int .i64 0)) w
theorem Ho (k:KV) (ρ:Env) (w:Y):Ov k [1,1,1,1] ρ w=Hn k ρ w:=by kernel_rfl
def Hp (k:KV) (N5:KE) (ρ:Env) (w:Y):Prop:=
 px Z (Zd .add 3 (.tmp 154) (.const (.int .i64 1)) (ρ 9) (.int .i64 1)) w fun v155 w=>
 N5 (put (put (put ρ 154 (ρ 9)) 155 v155) 9 v155) w
theorem Hq (k:KV) (N5:KE) (ρ:Env) (w:Y):OA k N5 [1,1] ρ w=Hp k N5 ρ w:=by kernel_rfl
def SG (k:KV) (N7:KE) (ρ:Env) (w:Y):Prop:=
 px Z (Zh (ρ 0)) w fun v218 w=>
 px Z (U 70 v218 3) w fun v219 w=>
 px Z (F 68 v219) w fun v220 w=>
 px Z (bSem .len #[68] 3 #[v220]) w fun v221 w=>
 px Z (Zd .lss 3 (.tmp 216) (.tmp 221) (ρ 12) v221) w fun v222 w=>
 pC v222 (
 px Z (Zh (ρ 0)) w fun v226 w=>
 px Z (U 70 v226 3) w fun v227 w=>
 px Z (F 68 v227) w fun v228 w=>
 px Z (Zb 68 v228 (ρ 12)) w fun v230 w=>
 px Z (F 165 v230) w fun v231 w=>
 px Z (Instr.alloc 165 true (.tuple #[])) w fun v13 w=>
 pu Z (Za 165 v13 v231) w fun w=>
 zG k N7 (put (put (put (put (put (put (put (put (put (put (put (put (put (put (put (put ρ 216 (ρ 12)) 217 (ρ 0)) 218 v218) 219 v219) 220 v220) 221 v221) 222 v222) 225 (ρ 0)) 226 v226) 227 v227) 228 v228) 229 (ρ 12)) 230 v230) 231 v231) 13 v13) 14 (.int .i64 0)) w)
 (
 Ov k [1,1,1,1,1] (put (put (put (put (put (put (put ρ 216 (ρ 12)) 217 (ρ 0)) 218 v218) 219 v219) 220 v220) 221 v221) 222 v222) w)
theorem Hr (k:KV) (N7:KE) (ρ:Env) (w:Y):OC k N7 [] ρ w=SG k N7 ρ w:=by kernel_rfl
def SH (k:KV) (N7:KE) (N8:KE) (ρ:Env) (w:Y):Prop:=
 px Z (U 165 (ρ 13) 1) w fun v233 w=>
 px Z (F 56 v233) w fun v234 w=>
 px Z (bSem .len #[56] 3 #[v234]) w fun v235 w=>
 px Z (Zd .lss 3 (.tmp 232) (.tmp 235) (ρ 14) v235) w fun v236 w=>
 pC v236 (
 ∃S:Y→Prop,S w.drew∧(fun w=>
 pq Z S (U 165 (ρ 13) 0) fun v240=>
 pq Z S (F 56 v240) fun v241=>
 pq Z S (bSem .len #[56] 3 #[v241]) fun v242=>
 pq Z S (Zd .lss 3 (.tmp 239) (.tmp 242) (ρ 14) v242) fun v243=>
 pGq v243 true (fun k=>pq Z S (U 165 (ρ 13) 0) k) (next:=fun v245=>
 pGq v243 true (fun k=>pq Z S (F 56 v245) k) (next:=fun v246=>
 pGq v243 true (fun k=>k (ρ 14)) (next:=fun v247=>
 pGq v243 true (fun k=>pq Z S (Zb 56 v246 v247) k) (next:=fun v248=>
 pGq v243 true (fun k=>pq Z S (U 134 v248 1) k) (next:=fun v249=>
 pGq v243 true (fun k=>pq Z S (F 3 v249) k) (next:=fun v250=>
 pGq v243 true (fun k=>pq Z S (U 165 (ρ 13) 2) k) (next:=fun v251=>
 pGq v243 true (fun k=>pq Z S (F 3 v251) k) (next:=fun v252=>
 pGq v243 true (fun k=>pq Z S (Zd .neq 3 (.tmp 250) (.tmp 252) v250 v252) k) (next:=fun v253=>
 pGq v243 true (fun k=>k v253) (next:=fun v254=>
 pGq v254 false (fun k=>pq Z S (U 165 (ρ 13) 1) k) (next:=fun v255=>
 pGq v254 false (fun k=>pq Z S (F 56 v255) k) (next:=fun v256=>
 pGq v254 false (fun k=>k (ρ 14)) (next:=fun v257=>
 pGq v254 false (fun k=>pq Z S (Zb 56 v256 v257) k) (next:=fun v258=>
 pGq v254 false (fun k=>pq Z S (U 134 v258 1) k) (next:=fun v259=>
 pGq v254 false (fun k=>pq Z S (F 3 v259) k) (next:=fun v260=>
 pGq v254 false (fun k=>pq Z S (U 165 (ρ 13) 2) k) (next:=fun v261=>
 pGq v254 false (fun k=>pq Z S (F 3 v261) k) (next:=fun v262=>
 pGq v254 false (fun k=>pq Z S (Zd .neq 3 (.tmp 260) (.tmp 262) v260 v262) k) (next:=fun v263=>
 pGq v243 true (fun k=>pq Z S (Zs v254 (.bool true) v263) k) (next:=fun v264=>
 pq Z S (Zs v243 v264 (.bool false)) fun v265=>
 pGq v265 false (fun k=>k (ρ 14)) (next:=fun v267=>
 pGq v265 false (fun k=>pq Z S (U 165 (ρ 13) 0) k) (next:=fun v268=>
 pGq v265 false (fun k=>pq Z S (F 56 v268) k) (next:=fun v269=>
 pGq v265 false (fun k=>pq Z S (bSem .len #[56] 3 #[v269]) k) (next:=fun v270=>
 pGq v265 false (fun k=>pq Z S (Zd .geq 3 (.tmp 267) (.tmp 270) v267 v270) k) (next:=fun v271=>
 pGq v265 false (fun k=>k v271) (next:=fun v272=>
 pGq v272 true (fun k=>pq Z S (U 165 (ρ 13) 1) k) (next:=fun v273=>
 pGq v272 true (fun k=>pq Z S (F 56 v273) k) (next:=fun v274=>
 pGq v272 true (fun k=>k (ρ 14)) (next:=fun v275=>
 pGq v272 true (fun k=>pq Z S (Zb 56 v274 v275) k) (next:=fun v276=>
 pGq v272 true (fun k=>pq Z S (U 134 v276 1) k) (next:=fun v277=>
 pGq v272 true (fun k=>pq Z S (F 3 v277) k) (next:=fun v278=>
 pGq v272 true (fun k=>pq Z S (U 165 (ρ 13) 2) k) (next:=fun v279=>
 pGq v272 true (fun k=>pq Z S (F 3 v279) k) (next:=fun v280=>
 pGq v272 true (fun k=>pq Z S (Zd .add 3 (.tmp 280) (.const (.int .i64 1)) v280 (.int .i64 1)) k) (next:=fun v281=>
 pGq v272 true (fun k=>pq Z S (Zd .neq 3 (.tmp 278) (.tmp 281) v278 v281) k) (next:=fun v282=>
 pGq v265 false (fun k=>pq Z S (Zs v272 v282 (.bool false)) k) (next:=fun v283=>
 pq Z S (Zs v265 (.bool true) v283) fun v284=>
 pC v284 (
 k (.bool false) w)
 (
 px Z (Zd .add 3 (.tmp 237) (.const (.int .i64 1)) (ρ 14) (.int .i64 1)) w fun v238 w=>
 N8 (put (put (put (put (put (put (put (put (put (put (put (put (put (put (put (put (put (put (put (put (put (put (put (put (put (put (put (put (put (put (put (put (put (put (put (put (put (put (put (put (put (put (put (put (put (put (put (put (put (put (put (put (put (put ρ 232 (ρ 14)) 233 v233) 234 v234) 235 v235) 236 v236) 239 (ρ 14)) 240 v240) 241 v241) 242 v242) 243 v243) 244 v243) 245 v245) 246 v246) 247 v247) 248 v248) 249 v249) 250 v250) 251 v251) 252 v252) 253 v253) 254 v254) 255 v255) 256 v256) 257 v257) 258 v258) 259 v259) 260 v260) 261 v261) 262 v262) 263 v263) 264 v264) 265 v265) 266 v265) 267 v267) 268 v268) 269 v269) 270 v270) 271 v271) 272 v272) 273 v273) 274 v274) 275 v275) 276 v276) 277 v277) 278 v278) 279 v279) 280 v280) 281 v281) 282 v282) 283 v283) 284 v284) 237 (ρ 14)) 238 v238) 14 v238) w))))))))))))))))))))))))))))))))))))))) w.drew)
 (
 OC k N7 [1,1] (put (put (put (put (put ρ 232 (ρ 14)) 233 v233) 234 v234) 235 v235) 236 v236) w)
theorem Hs (k:KV) (N7:KE) (N8:KE) (ρ:Env) (w:Y):jH k N7 N8 [] ρ w=SH k N7 N8 ρ w:=by kernel_rfl
def Ht (k:KV) (ρ:Env) (w:Y):Prop:=
 k (.bool true) w
theorem Hu (k:KV) (ρ:Env) (w:Y):Ov k [1,1,1,1,1] ρ w=Ht k ρ w:=by kernel_rfl
def Hv (k:KV) (N7:KE) (ρ:Env) (w:Y):Prop:=
 px Z (Zd .add 3 (.tmp 223) (.const (.int .i64 1)) (ρ 12) (.int .i64 1)) w fun v224 w=>
 N7 (put (put (put ρ 223 (ρ 12)) 224 v224) 12 v224) w
theorem Hw (k:KV) (N7:KE) (ρ:Env) (w:Y):OC k N7 [1,1] ρ w=Hv k N7 ρ w:=by kernel_rfl
theorem jN (b0:V) (w:Y) (k:KV) (h:zH b0 w k):pFn Z 46 [b0] w k:=
 Zm mixed func46 (by kernel_rfl) (by kernel_rfl) ntmps46 (by kernel_rfl) (by kernel_rfl) (by simp) ((OD b0 w k).mpr h)
noncomputable def BA:Code:=Z1 f47
def zM (k:KV) (q:List Nat) (ρ:Env) (w:Y):Prop:=At Z 200 BA (Z8 Z f47.results.toList k) q ρ w
noncomputable def Hx:Code:=sub BA [0,1,0,0]
def ON (k:KV) (N1:KE):Xt→KE:=ZX N1 (ZJ Z 200 BA (Z8 Z f47.results.toList k) [0,1,0])
def OO (k:KV) (N1:KE) (q:List Nat) (ρ:Env) (w:Y):Prop:=At Z 200 Hx (ON k N1) q ρ w
def zN (k:KV) (ρ:Env) (w:Y):Prop:=ZN Z 200 BA (Z8 Z f47.results.toList k) [0,1,0] ρ w
theorem Hy (k:KV) (I:Nat→KE) (round:∀m ρ w,I m ρ w→OO k (fun ρ' w'=>∃m',m'<m∧I m' ρ' w') [] ρ w) {m:Nat} {ρ:Env} {w:Y} (h:I m ρ w):zN k ρ w:=
 Zw mixed (B:=BA) (Q:=(Z8 Z f47.results.toList k)) (p:=[0,1,0]) (by kernel_rfl) (by kernel_rfl) I round h
noncomputable def zfo:Code:=sub Hx [1,0,0,1,0,0]
def zfp (k:KV) (N1:KE) (N2:KE):Xt→KE:=ZX N2 (ZJ Z 200 Hx (ON k N1) [1,0,0,1,0])
def jO (k:KV) (N1:KE) (N2:KE) (q:List Nat) (ρ:Env) (w:Y):Prop:=At Z 200 zfo (zfp k N1 N2) q ρ w
def zO (k:KV) (N1:KE) (ρ:Env) (w:Y):Prop:=ZN Z 200 Hx (ON k N1) [1,0,0,1,0] ρ w
theorem Hz (k:KV) (N1:KE) (I:Nat→KE) (round:∀m ρ w,I m ρ w→jO k N1 (fun ρ' w'=>∃m',m'<m∧I m' ρ' w') [] ρ w) {m:Nat} {ρ:Env} {w:Y} (h:I m ρ w):zO k N1 ρ w:=
 Zw mixed (B:=Hx) (Q:=(ON k N1)) (p:=[1,0,0,1,0]) (by kernel_rfl) (by kernel_rfl) I round h
noncomputable def H0:Code:=sub BA [1,0,1,0,0]
def OP (k:KV) (N3:KE):Xt→KE:=ZX N3 (ZJ Z 200 BA (Z8 Z f47.results.toList k) [1,0,1,0])
def OQ (k:KV) (N3:KE) (q:List Nat) (ρ:Env) (w:Y):Prop:=At Z 200 H0 (OP k N3) q ρ w
def zP (k:KV) (ρ:Env) (w:Y):Prop:=ZN Z 200 BA (Z8 Z f47.results.toList k) [1,0,1,0] ρ w
theorem H2 (k:KV) (I:Nat→KE) (round:∀m ρ w,I m ρ w→OQ k (fun ρ' w'=>∃m',m'<m∧I m' ρ' w') [] ρ w) {m:Nat} {ρ:Env} {w:Y} (h:I m ρ w):zP k ρ w:=
 Zw mixed (B:=BA) (Q:=(Z8 Z f47.results.toList k)) (p:=[1,0,1,0]) (by kernel_rfl) (by kernel_rfl) I round h
noncomputable def zfq:Code:=sub H0 [1,0,0,1,0,0]
def zfr (k:KV) (N3:KE) (N4:KE):Xt→KE:=ZX N4 (ZJ Z 200 H0 (OP k N3) [1,0,0,1,0])
def jP (k:KV) (N3:KE) (N4:KE) (q:List Nat) (ρ:Env) (w:Y):Prop:=At Z 200 zfq (zfr k N3 N4) q ρ w
def zQ (k:KV) (N3:KE) (ρ:Env) (w:Y):Prop:=ZN Z 200 H0 (OP k N3) [1,0,0,1,0] ρ w
theorem H3 (k:KV) (N3:KE) (I:Nat→KE) (round:∀m ρ w,I m ρ w→jP k N3 (fun ρ' w'=>∃m',m'<m∧I m' ρ' w') [] ρ w) {m:Nat} {ρ:Env} {w:Y} (h:I m ρ w):zQ k N3 ρ w:=
 Zw mixed (B:=H0) (Q:=(OP k N3)) (p:=[1,0,0,1,0]) (by kernel_rfl) (by kernel_rfl) I round h
noncomputable def H4:Code:=sub BA [1,1,0,1,0,0]
def OR (k:KV) (N5:KE):Xt→KE:=ZX N5 (ZJ Z 200 BA (Z8 Z f47.results.toList k) [1,1,0,1,0])
def OS (k:KV) (N5:KE) (q:List Nat) (ρ:Env) (w:Y):Prop:=At Z 200 H4 (OR k N5) q ρ w
def zR (k:KV) (ρ:Env) (w:Y):Prop:=ZN Z 200 BA (Z8 Z f47.results.toList k) [1,1,0,1,0] ρ w
theorem H5 (k:KV) (I:Nat→KE) (round:∀m ρ w,I m ρ w→OS k (fun ρ' w'=>∃m',m'<m∧I m' ρ' w') [] ρ w) {m:Nat} {ρ:Env} {w:Y} (h:I m ρ w):zR k ρ w:=
 Zw mixed (B:=BA) (Q:=(Z8 Z f47.results.toList k)) (p:=[1,1,0,1,0]) (by kernel_rfl) (by kernel_rfl) I round h
noncomputable def zfs:Code:=sub H4 [1,0,0,1,0,0]
def zft (k:KV) (N5:KE) (N6:KE):Xt→KE:=ZX N6 (ZJ Z 200 H4 (OR k N5) [1,0,0,1,0])
def jQ (k:KV) (N5:KE) (N6:KE) (q:List Nat) (ρ:Env) (w:Y):Prop:=At Z 200 zfs (zft k N5 N6) q ρ w
def zS (k:KV) (N5:KE) (ρ:Env) (w:Y):Prop:=ZN Z 200 H4 (OR k N5) [1,0,0,1,0] ρ w
theorem H6 (k:KV) (N5:KE) (I:Nat→KE) (round:∀m ρ w,I m ρ w→jQ k N5 (fun ρ' w'=>∃m',m'<m∧I m' ρ' w') [] ρ w) {m:Nat} {ρ:Env} {w:Y} (h:I m ρ w):zS k N5 ρ w:=
 Zw mixed (B:=H4) (Q:=(OR k N5)) (p:=[1,0,0,1,0]) (by kernel_rfl) (by kernel_rfl) I round h
noncomputable def H7:Code:=sub BA [1,1,1,1,0,0]
def OT (k:KV) (N7:KE):Xt→KE:=ZX N7 (ZJ Z 200 BA (Z8 Z f47.results.toList k) [1,1,1,1,0])
def OU (k:KV) (N7:KE) (q:List Nat) (ρ:Env) (w:Y):Prop:=At Z 200 H7 (OT k N7) q ρ w
def zU (k:KV) (ρ:Env) (w:Y):Prop:=ZN Z 200 BA (Z8 Z f47.results.toList k) [1,1,1,1,0] ρ w
theorem H8 (k:KV) (I:Nat→KE) (round:∀m ρ w,I m ρ w→OU k (fun ρ' w'=>∃m',m'<m∧I m' ρ' w') [] ρ w) {m:Nat} {ρ:Env} {w:Y} (h:I m ρ w):zU k ρ w:=
 Zw mixed (B:=BA) (Q:=(Z8 Z f47.results.toList k)) (p:=[1,1,1,1,0]) (by kernel_rfl) (by kernel_rfl) I round h
noncomputable def zfu:Code:=sub H7 [1,0,0,1,0,0]
def zfv (k:KV) (N7:KE) (N8:KE):Xt→KE:=ZX N8 (ZJ Z 200 H7 (OT k N7) [1,0,0,1,0])
def jR (k:KV) (N7:KE) (N8:KE) (q:List Nat) (ρ:Env) (w:Y):Prop:=At Z 200 zfu (zfv k N7 N8) q ρ w
def zV (k:KV) (N7:KE) (ρ:Env) (w:Y):Prop:=ZN Z 200 H7 (OT k N7) [1,0,0,1,0] ρ w
theorem H9 (k:KV) (N7:KE) (I:Nat→KE) (round:∀m ρ w,I m ρ w→jR k N7 (fun ρ' w'=>∃m',m'<m∧I m' ρ' w') [] ρ w) {m:Nat} {ρ:Env} {w:Y} (h:I m ρ w):zV k N7 ρ w:=
 Zw mixed (B:=H7) (Q:=(OT k N7)) (p:=[1,0,0,1,0]) (by kernel_rfl) (by kernel_rfl) I round h
def zW (b0:V) (w:Y) (k:KV):Prop:=
 zN k (put (Zq [b0]) 2 (.int .i64 0)) w
theorem OV (b0:V) (w:Y) (k:KV):zM k [] (Zq [b0]) w=zW b0 w k:=by kernel_rfl
def jS (k:KV) (N1:KE) (ρ:Env) (w:Y):Prop:=
 px Z (Zh (ρ 0)) w fun v12 w=>
 px Z (U 70 v12 0) w fun v13 w=>
 px Z (F 65 v13) w fun v14 w=>
 px Z (bSem .len #[65] 3 #[v14]) w fun v15 w=>
 px Z (Zd .lss 3 (.tmp 10) (.tmp 15) (ρ 2) v15) w fun v16 w=>
 pC v16 (
 zO k N1 (put (put (put (put (put (put (put (put ρ 10 (ρ 2)) 11 (ρ 0)) 12 v12) 13 v13) 14 v14) 15 v15) 16 v16) 3 (.int .i64 0)) w)
 (
 zM k [1] (put (put (put (put (put (put (put ρ 10 (ρ 2)) 11 (ρ 0)) 12 v12) 13 v13) 14 v14) 15 v15) 16 v16) w)
theorem OW (k:KV) (N1:KE) (ρ:Env) (w:Y):OO k N1 [] ρ w=jS k N1 ρ w:=by kernel_rfl
def jT (k:KV) (N1:KE) (N2:KE) (ρ:Env) (w:Y):Prop:=
 px Z (Zd .lss 3 (.tmp 19) (.const (.int .i64 2)) (ρ 3) (.int .i64 2)) w fun v20 w=>
 pG v20 false (fun k=>k (ρ 2) w) (w:=w) (next:=fun v22 w=>
 pG v20 false (fun k=>px Z (Zd .lss 3 (.tmp 22) (.const (.int .i64 64)) v22 (.int .i64 64)) w k) (w:=w) (next:=fun v23 w=>
 pG v20 false (fun k=>k v23 w) (w:=w) (next:=fun v24 w=>
 pG v24 true (fun k=>k (ρ 3) w) (w:=w) (next:=fun v25 w=>
 pG v24 true (fun k=>px Z (Zd .lss 3 (.tmp 25) (.const (.int .i64 64)) v25 (.int .i64 64)) w k) (w:=w) (next:=fun v26 w=>
 pG v20 false (fun k=>px Z (Zs v24 v26 (.bool false)) w k) (w:=w) (next:=fun v27 w=>
 px Z (Zs v20 (.bool true) v27) w fun v28 w=>
 pC v28 (
 ∃S:Y→Prop,S w.drew∧(fun w=>
 pq Z S (Zh (ρ 0)) fun v32=>
 pq Z S (U 70 v32 0) fun v33=>
 pq Z S (F 65 v33) fun v34=>
 pq Z S (Zh (ρ 0)) fun v37=>
 pq Z S (U 70 v37 0) fun v38=>
 pq Z S (F 65 v38) fun v39=>
 pq Z S (Zb 65 v39 (ρ 2)) fun v41=>
 pq Z S (U 158 v41 1) fun v42=>
 pq Z S (F 36 v42) fun v43=>
 pq Z S (Zh (ρ 0)) fun v45=>
 pq Z S (U 70 v45 0) fun v46=>
 pq Z S (F 65 v46) fun v47=>
 pq Z S (Zb 65 v47 (ρ 2)) fun v49=>
 pq Z S (U 158 v49 2) fun v50=>
 pq Z S (F 5 v50) fun v51=>
 pq Z S (Zd .add 5 (.tmp 51) (.const (.int .u8 1)) v51 (.int .u8 1)) fun v52=>
 px Z (Instr.buildSlice 36 1 #[(0,v52)]) w fun v53 w=>S w∧(
 px Z (bSem .append #[36,36] 36 #[v43,v53]) w fun v54 w=>S w∧(
 pq Z S (Zb 65 v34 (ρ 2)) fun v55=>
 pq Z S (U 158 v55 1) fun v56=>
 pu Z (Za 36 v56 v54) w fun w=>(
 px Z (Zd .add 3 (.tmp 29) (.const (.int .i64 1)) (ρ 3) (.int .i64 1)) w fun v30 w=>
 N2 (put (put (put (put (put (put (put (put (put (put (put (put (put (put (put (put (put (put (put (put (put (put (put (put (put (put (put (put (put (put (put (put (put (put (put (put (put (put (put ρ 19 (ρ 3)) 20 v20) 21 v20) 22 v22) 23 v23) 24 v24) 25 v25) 26 v26) 27 v27) 28 v28) 31 (ρ 0)) 32 v32) 33 v33) 34 v34) 35 (ρ 2)) 36 (ρ 0)) 37 v37) 38 v38) 39 v39) 40 (ρ 2)) 41 v41) 42 v42) 43 v43) 44 (ρ 0)) 45 v45) 46 v46) 47 v47) 48 (ρ 2)) 49 v49) 50 v50) 51 v51) 52 v52) 53 v53) 54 v54) 55 v55) 56 v56) 29 (ρ 3)) 30 v30) 3 v30) w)))) w.drew)
 (
 OO k N1 [1,1] (put (put (put (put (put (put (put (put (put (put ρ 19 (ρ 3)) 20 v20) 21 v20) 22 v22) 23 v23) 24 v24) 25 v25) 26 v26) 27 v27) 28 v28) w)))))))
theorem OX (k:KV) (N1:KE) (N2:KE) (ρ:Env) (w:Y):jO k N1 N2 [] ρ w=jT k N1 N2 ρ w:=by kernel_rfl
def zY (k:KV) (ρ:Env) (w:Y):Prop:=
 zP k (put ρ 4 (.int .i64 0)) w
theorem OY (k:KV) (ρ:Env) (w:Y):zM k [1] ρ w=zY k ρ w:=by kernel_rfl
def zZ (k:KV) (N1:KE) (ρ:Env) (w:Y):Prop:=
 px Z (Zd .add 3 (.tmp 17) (.const (.int .i64 1)) (ρ 2) (.int .i64 1)) w fun v18 w=>
 N1 (put (put (put ρ 17 (ρ 2)) 18 v18) 2 v18) w
theorem OZ (k:KV) (N1:KE) (ρ:Env) (w:Y):OO k N1 [1,1] ρ w=zZ k N1 ρ w:=by kernel_rfl
def jU (k:KV) (N3:KE) (ρ:Env) (w:Y):Prop:=
 px Z (Zh (ρ 0)) w fun v59 w=>
 px Z (U 70 v59 1) w fun v60 w=>
 px Z (F 66 v60) w fun v61 w=>
 px Z (bSem .len #[66] 3 #[v61]) w fun v62 w=>
 px Z (Zd .lss 3 (.tmp 57) (.tmp 62) (ρ 4) v62) w fun v63 w=>
 pC v63 (
 zQ k N3 (put (put (put (put (put (put (put (put ρ 57 (ρ 4)) 58 (ρ 0)) 59 v59) 60 v60) 61 v61) 62 v62) 63 v63) 5 (.int .i64 0)) w)
 (
 zM k [1,1] (put (put (put (put (put (put (put ρ 57 (ρ 4)) 58 (ρ 0)) 59 v59) 60 v60) 61 v61) 62 v62) 63 v63) w)
theorem Pa (k:KV) (N3:KE) (ρ:Env) (w:Y):OQ k N3 [] ρ w=jU k N3 ρ w:=by kernel_rfl
def jV (k:KV) (N3:KE) (N4:KE) (ρ:Env) (w:Y):Prop:=
 px Z (Zd .lss 3 (.tmp 66) (.const (.int .i64 2)) (ρ 5) (.int .i64 2)) w fun v67 w=>
 pG v67 false (fun k=>k (ρ 4) w) (w:=w) (next:=fun v69 w=>
 pG v67 false (fun k=>px Z (Zd .lss 3 (.tmp 69) (.const (.int .i64 64)) v69 (.int .i64 64)) w k) (w:=w) (next:=fun v70 w=>
 pG v67 false (fun k=>k v70 w) (w:=w) (next:=fun v71 w=>
 pG v71 true (fun k=>k (ρ 5) w) (w:=w) (next:=fun v72 w=>
 pG v71 true (fun k=>px Z (Zd .lss 3 (.tmp 72) (.const (.int .i64 64)) v72 (.int .i64 64)) w k) (w:=w) (next:=fun v73 w=>
 pG v67 false (fun k=>px Z (Zs v71 v73 (.bool false)) w k) (w:=w) (next:=fun v74 w=>
 px Z (Zs v67 (.bool true) v74) w fun v75 w=>
 pC v75 (
 ∃S:Y→Prop,S w.drew∧(fun w=>
 pq Z S (Zh (ρ 0)) fun v79=>
 pq Z S (U 70 v79 1) fun v80=>
 pq Z S (F 66 v80) fun v81=>
 pq Z S (Zh (ρ 0)) fun v84=>
 pq Z S (U 70 v84 1) fun v85=>
 pq Z S (F 66 v85) fun v86=>
 pq Z S (Zb 66 v86 (ρ 4)) fun v88=>
 pq Z S (U 163 v88 1) fun v89=>
 pq Z S (F 73 v89) fun v90=>
 pq Z S (Zh (ρ 0)) fun v92=>
 pq Z S (U 70 v92 1) fun v93=>
 pq Z S (F 66 v93) fun v94=>
 pq Z S (Zb 66 v94 (ρ 4)) fun v96=>
 pq Z S (U 163 v96 2) fun v97=>
 pq Z S (F 9 v97) fun v98=>
 pq Z S (Zd .add 9 (.tmp 98) (.const (.string (ByteArray.mk #[120]))) v98 (.string (ByteArray.mk #[120]))) fun v99=>
 px Z (Instr.buildSlice 73 1 #[(0,v99)]) w fun v100 w=>S w∧(
 px Z (bSem .append #[73,73] 73 #[v90,v100]) w fun v101 w=>S w∧(
 pq Z S (Zb 66 v81 (ρ 4)) fun v102=>
 pq Z S (U 163 v102 1) fun v103=>
 pu Z (Za 73 v103 v101) w fun w=>(
 px Z (Zd .add 3 (.tmp 76) (.const (.int .i64 1)) (ρ 5) (.int .i64 1)) w fun v77 w=>
 N4 (put (put (put (put (put (put (put (put (put (put (put (put (put (put (put (put (put (put (put (put (put (put (put (put (put (put (put (put (put (put (put (put (put (put (put (put (put (put (put ρ 66 (ρ 5)) 67 v67) 68 v67) 69 v69) 70 v70) 71 v71) 72 v72) 73 v73) 74 v74) 75 v75) 78 (ρ 0)) 79 v79) 80 v80) 81 v81) 82 (ρ 4)) 83 (ρ 0)) 84 v84) 85 v85) 86 v86) 87 (ρ 4)) 88 v88) 89 v89) 90 v90) 91 (ρ 0)) 92 v92) 93 v93) 94 v94) 95 (ρ 4)) 96 v96) 97 v97) 98 v98) 99 v99) 100 v100) 101 v101) 102 v102) 103 v103) 76 (ρ 5)) 77 v77) 5 v77) w)))) w.drew)
 (
 OQ k N3 [1,1] (put (put (put (put (put (put (put (put (put (put ρ 66 (ρ 5)) 67 v67) 68 v67) 69 v69) 70 v70) 71 v71) 72 v72) 73 v73) 74 v74) 75 v75) w)))))))
theorem Pc (k:KV) (N3:KE) (N4:KE) (ρ:Env) (w:Y):jP k N3 N4 [] ρ w=jV k N3 N4 ρ w:=by kernel_rfl
def ya (k:KV) (ρ:Env) (w:Y):Prop:=
 zR k (put ρ 6 (.int .i64 0)) w
theorem Pd (k:KV) (ρ:Env) (w:Y):zM k [1,1] ρ w=ya k ρ w:=by kernel_rfl
def yb (k:KV) (N3:KE) (ρ:Env) (w:Y):Prop:=
 px Z (Zd .add 3 (.tmp 64) (.const (.int .i64 1)) (ρ 4) (.int .i64 1)) w fun v65 w=>
 N3 (put (put (put ρ 64 (ρ 4)) 65 v65) 4 v65) w
theorem Pe (k:KV) (N3:KE) (ρ:Env) (w:Y):OQ k N3 [1,1] ρ w=yb k N3 ρ w:=by kernel_rfl
def jW (k:KV) (N5:KE) (ρ:Env) (w:Y):Prop:=
 px Z (Zh (ρ 0)) w fun v106 w=>
 px Z (U 70 v106 2) w fun v107 w=>
 px Z (F 67 v107) w fun v108 w=>
 px Z (bSem .len #[67] 3 #[v108]) w fun v109 w=>
 px Z (Zd .lss 3 (.tmp 104) (.tmp 109) (ρ 6) v109) w fun v110 w=>
 pC v110 (
 zS k N5 (put (put (put (put (put (put (put (put ρ 104 (ρ 6)) 105 (ρ 0)) 106 v106) 107 v107) 108 v108) 109 v109) 110 v110) 7 (.int .i64 0)) w)
 (
 zM k [1,1,1] (put (put (put (put (put (put (put ρ 104 (ρ 6)) 105 (ρ 0)) 106 v106) 107 v107) 108 v108) 109 v109) 110 v110) w)
theorem Pf (k:KV) (N5:KE) (ρ:Env) (w:Y):OS k N5 [] ρ w=jW k N5 ρ w:=by kernel_rfl
def SI (k:KV) (N5:KE) (N6:KE) (ρ:Env) (w:Y):Prop:=
 px Z (Zd .lss 3 (.tmp 113) (.const (.int .i64 2)) (ρ 7) (.int .i64 2)) w fun v114 w=>
 pG v114 false (fun k=>k (ρ 6) w) (w:=w) (next:=fun v116 w=>
 pG v114 false (fun k=>px Z (Zd .lss 3 (.tmp 116) (.const (.int .i64 64)) v116 (.int .i64 64)) w k) (w:=w) (next:=fun v117 w=>
 pG v114 false (fun k=>k v117 w) (w:=w) (next:=fun v118 w=>
 pG v118 true (fun k=>k (ρ 7) w) (w:=w) (next:=fun v119 w=>
 pG v118 true (fun k=>px Z (Zd .lss 3 (.tmp 119) (.const (.int .i64 64)) v119 (.int .i64 64)) w k) (w:=w) (next:=fun v120 w=>
 pG v114 false (fun k=>px Z (Zs v118 v120 (.bool false)) w k) (w:=w) (next:=fun v121 w=>
 px Z (Zs v114 (.bool true) v121) w fun v122 w=>
 pC v122 (
 ∃S:Y→Prop,S w.drew∧(fun w=>
 pq Z S (Zh (ρ 0)) fun v126=>
 pq Z S (U 70 v126 2) fun v127=>
 pq Z S (F 67 v127) fun v128=>
 pq Z S (Zh (ρ 0)) fun v131=>
 pq Z S (U 70 v131 2) fun v132=>
 pq Z S (F 67 v132) fun v133=>
 pq Z S (Zb 67 v133 (ρ 6)) fun v135=>
 pq Z S (U 161 v135 1) fun v136=>
 pq Z S (F 71 v136) fun v137=>
 pq Z S (Zh (ρ 0)) fun v139=>
 pq Z S (U 70 v139 2) fun v140=>
 pq Z S (F 67 v140) fun v141=>
 pq Z S (Zb 67 v141 (ρ 6)) fun v143=>
 pq Z S (U 161 v143 2) fun v144=>
 pq Z S (F 9 v144) fun v145=>
 pq Z S (Zd .add 9 (.tmp 145) (.const (.string (ByteArray.mk #[120]))) v145 (.string (ByteArray.mk #[120]))) fun v146=>
 pq Z S (Instr.build 83 #[(0,v146)]) fun v147=>
 px Z (Instr.buildSlice 71 1 #[(0,v147)]) w fun v148 w=>S w∧(
 px Z (bSem .append #[71,71] 71 #[v137,v148]) w fun v149 w=>S w∧(
 pq Z S (Zb 67 v128 (ρ 6)) fun v150=>
 pq Z S (U 161 v150 1) fun v151=>
 pu Z (Za 71 v151 v149) w fun w=>(
 px Z (Zd .add 3 (.tmp 123) (.const (.int .i64 1)) (ρ 7) (.int .i64 1)) w fun v124 w=>
 N6 (put (put (put (put (put (put (put (put (put (put (put (put (put (put (put (put (put (put (put (put (put (put (put (put (put (put (put (put (put (put (put (put (put (put (put (put (put (put (put (put ρ 113 (ρ 7)) 114 v114) 115 v114) 116 v116) 117 v117) 118 v118) 119 v119) 120 v120) 121 v121) 122 v122) 125 (ρ 0)) 126 v126) 127 v127) 128 v128) 129 (ρ 6)) 130 (ρ 0)) 131 v131) 132 v132) 133 v133) 134 (ρ 6)) 135 v135) 136 v136) 137 v137) 138 (ρ 0)) 139 v139) 140 v140) 141 v141) 142 (ρ 6)) 143 v143) 144 v144) 145 v145) 146 v146) 147 v147) 148 v148) 149 v149) 150 v150) 151 v151) 123 (ρ 7)) 124 v124) 7 v124) w)))) w.drew)
 (
 OS k N5 [1,1] (put (put (put (put (put (put (put (put (put (put ρ 113 (ρ 7)) 114 v114) 115 v114) 116 v116) 117 v117) 118 v118) 119 v119) 120 v120) 121 v121) 122 v122) w)))))))
theorem HA (k:KV) (N5:KE) (N6:KE) (ρ:Env) (w:Y):jQ k N5 N6 [] ρ w=SI k N5 N6 ρ w:=by kernel_rfl
def HB (k:KV) (ρ:Env) (w:Y):Prop:=
 zU k (put ρ 8 (.int .i64 0)) w
theorem HC (k:KV) (ρ:Env) (w:Y):zM k [1,1,1] ρ w=HB k ρ w:=by kernel_rfl
def HD (k:KV) (N5:KE) (ρ:Env) (w:Y):Prop:=
 px Z (Zd .add 3 (.tmp 111) (.const (.int .i64 1)) (ρ 6) (.int .i64 1)) w fun v112 w=>
 N5 (put (put (put ρ 111 (ρ 6)) 112 v112) 6 v112) w
theorem HE (k:KV) (N5:KE) (ρ:Env) (w:Y):OS k N5 [1,1] ρ w=HD k N5 ρ w:=by kernel_rfl
def SJ (k:KV) (N7:KE) (ρ:Env) (w:Y):Prop:=
 px Z (Zh (ρ 0)) w fun v154 w=>
 px Z (U 70 v154 3) w fun v155 w=>
 px Z (F 68 v155) w fun v156 w=>
 px Z (bSem .len #[68] 3 #[v156]) w fun v157 w=>
 px Z (Zd .lss 3 (.tmp 152) (.tmp 157) (ρ 8) v157) w fun v158 w=>
 pC v158 (
 zV k N7 (put (put (put (put (put (put (put (put ρ 152 (ρ 8)) 153 (ρ 0)) 154 v154) 155 v155) 156 v156) 157 v157) 158 v158) 9 (.int .i64 0)) w)
 (
 k (.tuple #[]) w)
theorem HF (k:KV) (N7:KE) (ρ:Env) (w:Y):OU k N7 [] ρ w=SJ k N7 ρ w:=by kernel_rfl
def SK (k:KV) (N7:KE) (N8:KE) (ρ:Env) (w:Y):Prop:=
 px Z (Zd .lss 3 (.tmp 161) (.const (.int .i64 2)) (ρ 9) (.int .i64 2)) w fun v162 w=>
 pG v162 false (fun k=>k (ρ 8) w) (w:=w) (next:=fun v164 w=>
 pG v162 false (fun k=>px Z (Zd .lss 3 (.tmp 164) (.const (.int .i64 64)) v164 (.int .i64 64)) w k) (w:=w) (next:=fun v165 w=>
 pG v162 false (fun k=>k v165 w) (w:=w) (next:=fun v166 w=>
 pG v166 true (fun k=>k (ρ 9) w) (w:=w) (next:=fun v167 w=>
 pG v166 true (fun k=>px Z (Zd .lss 3 (.tmp 167) (.const (.int .i64 64)) v167 (.int .i64 64)) w k) (w:=w) (next:=fun v168 w=>
 pG v162 false (fun k=>px Z (Zs v166 v168 (.bool false)) w k) (w:=w) (next:=fun v169 w=>
 px Z (Zs v162 (.bool true) v169) w fun v170 w=>
 pC v170 (
 ∃S:Y→Prop,S w.drew∧(fun w=>
 pq Z S (Zh (ρ 0)) fun v174=>
 pq Z S (U 70 v174 3) fun v175=>
 pq Z S (F 68 v175) fun v176=>
 pq Z S (Zh (ρ 0)) fun v179=>
 pq Z S (U 70 v179 3) fun v180=>
 pq Z S (F 68 v180) fun v181=>
 pq Z S (Zb 68 v181 (ρ 8)) fun v183=>
 pq Z S (U 165 v183 1) fun v184=>
 pq Z S (F 56 v184) fun v185=>
 pq Z S (Zh (ρ 0)) fun v187=>
 pq Z S (U 70 v187 3) fun v188=>
 pq Z S (F 68 v188) fun v189=>
 pq Z S (Zb 68 v189 (ρ 8)) fun v191=>
 pq Z S (U 165 v191 2) fun v192=>
 pq Z S (F 3 v192) fun v193=>
 pq Z S (Zd .add 3 (.tmp 193) (.const (.int .i64 1)) v193 (.int .i64 1)) fun v194=>
 pq Z S (Instr.build 134 #[(1,v194)]) fun v195=>
 px Z (Instr.buildSlice 56 1 #[(0,v195)]) w fun v196 w=>S w∧(
 px Z (bSem .append #[56,56] 56 #[v185,v196]) w fun v197 w=>S w∧(
 pq Z S (Zb 68 v176 (ρ 8)) fun v198=>
 pq Z S (U 165 v198 1) fun v199=>
 pu Z (Za 56 v199 v197) w fun w=>(
 px Z (Zd .add 3 (.tmp 171) (.const (.int .i64 1)) (ρ 9) (.int .i64 1)) w fun v172 w=>
 N8 (put (put (put (put (put (put (put (put (put (put (put (put (put (put (put (put (put (put (put (put (put (put (put (put (put (put (put (put (put (put (put (put (put (put (put (put (put (put (put (put ρ 161 (ρ 9)) 162 v162) 163 v162) 164 v164) 165 v165) 166 v166) 167 v167) 168 v168) 169 v169) 170 v170) 173 (ρ 0)) 174 v174) 175 v175) 176 v176) 177 (ρ 8)) 178 (ρ 0)) 179 v179) 180 v180) 181 v181) 182 (ρ 8)) 183 v183) 184 v184) 185 v185) 186 (ρ 0)) 187 v187) 188 v188) 189 v189) 190 (ρ 8)) 191 v191) 192 v192) 193 v193) 194 v194) 195 v195) 196 v196) 197 v197) 198 v198) 199 v199) 171 (ρ 9)) 172 v172) 9 v172) w)))) w.drew)
 (
 OU k N7 [1,1] (put (put (put (put (put (put (put (put (put (put ρ 161 (ρ 9)) 162 v162) 163 v162) 164 v164) 165 v165) 166 v166) 167 v167) 168 v168) 169 v169) 170 v170) w)))))))
theorem HG (k:KV) (N7:KE) (N8:KE) (ρ:Env) (w:Y):jR k N7 N8 [] ρ w=SK k N7 N8 ρ w:=by kernel_rfl
def HH (k:KV) (N7:KE) (ρ:Env) (w:Y):Prop:=
 px Z (Zd .add 3 (.tmp 159) (.const (.int .i64 1)) (ρ 8) (.int .i64 1)) w fun v160 w=>
 N7 (put (put (put ρ 159 (ρ 8)) 160 v160) 8 v160) w
theorem HI (k:KV) (N7:KE) (ρ:Env) (w:Y):OU k N7 [1,1] ρ w=HH k N7 ρ w:=by kernel_rfl
theorem jX (b0:V) (w:Y) (k:KV) (h:zW b0 w k):pFn Z 47 [b0] w k:=
 Zm mixed func47 (by kernel_rfl) (by kernel_rfl) ntmps47 (by kernel_rfl) (by kernel_rfl) (by simp) ((OV b0 w k).mpr h)
end Go.Proofs.YtcdcojpfealppaaGreat
