/- Put together by a program (wip/tools/shake.py): R2. -/
import Derived.Test.YtcdcojpfealppaaGreatY1
import Derived.Test.YtcdcojpfealppaaGreatProg
import Derived.Test.YtcdcojpfealppaaGreatMix
set_option linter.unusedVariables false
set_option maxRecDepth 100000
open Go.Proofs.Tryz renaming prog → Z
open Go renaming World → Y, Value → V
open Go.Instr renaming fieldAt → U, loadAt → F, storeAt → Za, indexAt → Zb
namespace Go.Proofs.YtcdcojpfealppaaGreat
open Go Go.Proofs Go.Proofs.XRed Tryz
open Go.Instr (fieldAt loadAt storeAt indexAt sliceAt extract)
noncomputable def zm8:Code:=Z1 f80
def zm9 (k:KV) (q:List Nat) (ρ:Env) (w:Y):Prop:=At Z 9 zm8 (Z8 Z f80.results.toList k) q ρ w
def xp (a0:V) (a1:V) (w:Y) (k:KV):Prop:=
 px Z (F 29 a0) w fun v2 w=>
 px Z (F 9 a1) w fun v3 w=>
 px Z (Instr.build 124 #[]) w fun v4 w=>
 px Z (Instr.box 124 v4) w fun v5 w=>
 px Z (Instr.build 126 #[(0,v3),(1,v5)]) w fun v6 w=>
 px Z (Instr.makeInterface 126 v6) w fun v7 w=>
 pFn Z 81 [v2,v7] w fun v8 w=>
 k (.tuple #[]) w
theorem R1 (a0:V) (a1:V) (w:Y) (k:KV):zm9 k [] (Zq [a0,a1]) w=xp a0 a1 w k:=by kernel_rfl
theorem zbj (a0:V) (a1:V) (w:Y) (k:KV) (h:xp a0 a1 w k):pFn Z 80 [a0,a1] w k:=
 Zm mixed func80 (by kernel_rfl) (by kernel_rfl) ntmps80 (by kernel_rfl) (by kernel_rfl) (by simp) ((R1 a0 a1 w k).mpr h)
noncomputable def zna:Code:=Z1 f83
def zcq (k:KV) (q:List Nat) (ρ:Env) (w:Y):Prop:=At Z 28 zna (Z8 Z f83.results.toList k) q ρ w
def xq (t0:V) (a1:V) (w:Y) (k:KV):Prop:=
 px Z (F 127 a1) w fun v4 w=>
 px Z (Instr.lookup 127 v4 t0 false) w fun v6 w=>
 px Z (Zd .eql 117 (.tmp 6) (.const (.pointer none)) v6 (.pointer none)) w fun v7 w=>
 pC v7 (
 ∃S:Y→Prop,S w.drew∧(fun w=>
 pq Z S (F 127 a1) fun v8=>
 pq Z S (Zh t0) fun v11=>
 pq Z S (U 124 v11 0) fun v12=>
 pq Z S (F 36 v12) fun v13=>
 pq Z S (Zh t0) fun v15=>
 pq Z S (U 124 v15 1) fun v16=>
 pq Z S (F 36 v16) fun v17=>
 pq Z S (Zh t0) fun v19=>
 pq Z S (U 124 v19 2) fun v20=>
 pq Z S (F 122 v20) fun v21=>
 pFn Z 84 [v21] w fun v22 w=>S w∧(
 pq Z S (Instr.build 124 #[(0,v13),(1,v17),(2,v22)]) fun v23=>
 px Z (Instr.box 124 v23) w fun v24 w=>S w∧(
 pu Z (Instr.mapUpdate 127 v8 t0 v24) w fun w=>(
 zcq k [1,1] (put (put (put (put (put (put (put (put (put (put (put (put (put (put (put (put (put (put (put (put (put (put (Zq [t0,a1]) 3 (.pointer none)) 4 v4) 5 t0) 6 v6) 7 v7) 8 v8) 9 t0) 10 t0) 11 v11) 12 v12) 13 v13) 14 t0) 15 v15) 16 v16) 17 v17) 18 t0) 19 v19) 20 v20) 21 v21) 22 v22) 23 v23) 24 v24) w)))) w.drew)
 (
 zcq k [1,1] (put (put (put (put (put (Zq [t0,a1]) 3 (.pointer none)) 4 v4) 5 t0) 6 v6) 7 v7) w)
theorem R2 (t0:V) (a1:V) (w:Y) (k:KV):zcq k [] (Zq [t0,a1]) w=xq t0 a1 w k:=by kernel_rfl
def xr (k:KV) (ρ:Env) (w:Y):Prop:=
 px Z (F 127 (ρ 1)) w fun v25 w=>
 px Z (Instr.lookup 127 v25 (ρ 0) false) w fun v27 w=>
 k v27 w
theorem D6 (k:KV) (ρ:Env) (w:Y):zcq k [1,1] ρ w=xr k ρ w:=by kernel_rfl
theorem zbk (t0:V) (a1:V) (w:Y) (k:KV) (h:xq t0 a1 w k):pFn Z 83 [t0,a1] w k:=
 Zm mixed func83 (by kernel_rfl) (by kernel_rfl) ntmps83 (by kernel_rfl) (by kernel_rfl) (by simp) ((R2 t0 a1 w k).mpr h)
noncomputable def znb:Code:=Z1 f91
def znc (k:KV) (q:List Nat) (ρ:Env) (w:Y):Prop:=At Z 8 znb (Z8 Z f91.results.toList k) q ρ w
def xt (n0:V) (a1:V) (w:Y) (k:KV):Prop:=
 px Z (F 9 a1) w fun v5 w=>
 pFn Z 92 [n0,v5] w fun v6 w=>
 px Z (Op.unary .not v6) w fun v7 w=>
 k v7 w
theorem R3 (n0:V) (a1:V) (w:Y) (k:KV):znc k [] (Zq [n0,a1]) w=xt n0 a1 w k:=by kernel_rfl
theorem zbl (n0:V) (a1:V) (w:Y) (k:KV) (h:xt n0 a1 w k):pFn Z 91 [n0,a1] w k:=
 Zm mixed func91 (by kernel_rfl) (by kernel_rfl) ntmps91 (by kernel_rfl) (by kernel_rfl) (by simp) ((R3 n0 a1 w k).mpr h)
noncomputable def zin:Code:=Z1 f103
def zio (k:KV) (q:List Nat) (ρ:Env) (w:Y):Prop:=At Z 12 zin (Z8 Z f103.results.toList k) q ρ w
def KF (a0:V) (w:Y) (k:KV):Prop:=
 ∃S:Y→Prop,S w.drew∧(fun w=>
 pq Z S (F 29 a0) fun v1=>
 pq Z S (F 29 a0) fun v2=>
 pq Z S (F 29 a0) fun v3=>
 pq Z S (Zh v3) fun v4=>
 pq Z S (U 58 v4 1) fun v5=>
 pq Z S (F 54 v5) fun v6=>
 pFn Z 104 [v6] w fun v7 w=>S w∧(
 pq Z S (Zh v1) fun v8=>
 pq Z S (U 58 v8 2) fun v9=>
 pu Z (Za 54 v9 v7) w fun w=>S w∧(
 pq Z S (Zh v2) fun v10=>
 pq Z S (U 58 v10 3) fun v11=>
 pu Z (Za 55 v11 (.slice none 0 0)) w fun w=>(
 k (.tuple #[]) w)))) w.drew
theorem KG (a0:V) (w:Y) (k:KV):zio k [] (Zq [a0]) w=KF a0 w k:=by kernel_rfl
theorem xu (a0:V) (w:Y) (k:KV) (h:KF a0 w k):pFn Z 103 [a0] w k:=
 Zm mixed func103 (by kernel_rfl) (by kernel_rfl) ntmps103 (by kernel_rfl) (by kernel_rfl) (by simp) ((KG a0 w k).mpr h)
noncomputable def ziq:Code:=Z1 f105
def zir (k:KV) (q:List Nat) (ρ:Env) (w:Y):Prop:=At Z 12 ziq (Z8 Z f105.results.toList k) q ρ w
def KH (a0:V) (a1:V) (a2:V) (w:Y) (k:KV):Prop:=
 px Z (F 9 a0) w fun v3 w=>
 px Z (F 9 a1) w fun v4 w=>
 px Z (Zd .neq 9 (.tmp 3) (.tmp 4) v3 v4) w fun v5 w=>
 pC v5 (
 px Z (F 29 a2) w fun v6 w=>
 px Z (F 9 a0) w fun v7 w=>
 px Z (F 9 a1) w fun v8 w=>
 px Z (Instr.build 172 #[(0,v7),(1,v8)]) w fun v9 w=>
 px Z (Instr.makeInterface 172 v9) w fun v10 w=>
 pFn Z 81 [v6,v10] w fun v11 w=>
 k (.tuple #[]) w)
 (
 k (.tuple #[]) w)
theorem KI (a0:V) (a1:V) (a2:V) (w:Y) (k:KV):zir k [] (Zq [a0,a1,a2]) w=KH a0 a1 a2 w k:=by kernel_rfl
theorem xv (a0:V) (a1:V) (a2:V) (w:Y) (k:KV) (h:KH a0 a1 a2 w k):pFn Z 105 [a0,a1,a2] w k:=
 Zm mixed func105 (by kernel_rfl) (by kernel_rfl) ntmps105 (by kernel_rfl) (by kernel_rfl) (by simp) ((KI a0 a1 a2 w k).mpr h)
noncomputable def zis:Code:=Z1 f106
def zit (k:KV) (q:List Nat) (ρ:Env) (w:Y):Prop:=At Z 16 zis (Z8 Z f106.results.toList k) q ρ w
def KJ (most0:V) (a1:V) (w:Y) (k:KV):Prop:=
 px Z (F 39 a1) w fun v5 w=>
 px Z (bSem .len #[39] 3 #[v5]) w fun v6 w=>
 px Z (Zd .eql 3 (.tmp 6) (.const (.int .i64 0)) v6 (.int .i64 0)) w fun v7 w=>
 pC v7 (
 k (.int .i64 0) w)
 (
 px Z (F 39 a1) w fun v8 w=>
 px Z (Zb 39 v8 (.int .i64 0)) w fun v9 w=>
 px Z (F 3 v9) w fun v10 w=>
 px Z (F 39 a1) w fun v11 w=>
 px Z (sliceAt 39 v11 (some (.int .i64 1)) none none) w fun v12 w=>
 pu Z (Za 39 a1 v12) w fun w=>
 pFn Z 107 [v10,most0] w fun v15 w=>
 k v15 w)
theorem KK (most0:V) (a1:V) (w:Y) (k:KV):zit k [] (Zq [most0,a1]) w=KJ most0 a1 w k:=by kernel_rfl
theorem xw (most0:V) (a1:V) (w:Y) (k:KV) (h:KJ most0 a1 w k):pFn Z 106 [most0,a1] w k:=
 Zm mixed func106 (by kernel_rfl) (by kernel_rfl) ntmps106 (by kernel_rfl) (by kernel_rfl) (by simp) ((KK most0 a1 w k).mpr h)
noncomputable def ziu:Code:=Z1 f110
def ziv (k:KV) (q:List Nat) (ρ:Env) (w:Y):Prop:=At Z 6 ziu (Z8 Z f110.results.toList k) q ρ w
def KL (a0:V) (a1:V) (w:Y) (k:KV):Prop:=
 px Z (F 29 a0) w fun v2 w=>
 px Z (F 9 a1) w fun v3 w=>
 px Z (Instr.makeInterface 177 v3) w fun v4 w=>
 pFn Z 81 [v2,v4] w fun v5 w=>
 k (.tuple #[]) w
theorem KM (a0:V) (a1:V) (w:Y) (k:KV):ziv k [] (Zq [a0,a1]) w=KL a0 a1 w k:=by kernel_rfl
theorem xx (a0:V) (a1:V) (w:Y) (k:KV) (h:KL a0 a1 w k):pFn Z 110 [a0,a1] w k:=
 Zm mixed func110 (by kernel_rfl) (by kernel_rfl) ntmps110 (by kernel_rfl) (by kernel_rfl) (by simp) ((KM a0 a1 w k).mpr h)
noncomputable def ziw:Code:=Z1 f114
def zix (k:KV) (q:List Nat) (ρ:Env) (w:Y):Prop:=At Z 10 ziw (Z8 Z f114.results.toList k) q ρ w
def KN (a0:V) (a1:V) (a2:V) (w:Y) (k:KV):Prop:=
 ∃S:Y→Prop,S w.drew∧(fun w=>
 pq Z S (F 117 a0) fun v3=>
 pq Z S (F 3 a1) fun v4=>
 pq Z S (F 36 a2) fun v5=>
 pFn Z 89 [v5] w fun v6 w=>S w∧(
 pq Z S (Instr.build 184 #[(0,v4),(1,v6)]) fun v7=>
 pq Z S (Instr.makeInterface 184 v7) fun v8=>
 pFn Z 115 [v3,v8] w fun v9 w=>(
 k (.tuple #[]) w))) w.drew
theorem KO (a0:V) (a1:V) (a2:V) (w:Y) (k:KV):zix k [] (Zq [a0,a1,a2]) w=KN a0 a1 a2 w k:=by kernel_rfl
theorem xy (a0:V) (a1:V) (a2:V) (w:Y) (k:KV) (h:KN a0 a1 a2 w k):pFn Z 114 [a0,a1,a2] w k:=
 Zm mixed func114 (by kernel_rfl) (by kernel_rfl) ntmps114 (by kernel_rfl) (by kernel_rfl) (by simp) ((KO a0 a1 a2 w k).mpr h)
noncomputable def ziy:Code:=Z1 f118
def ziz (k:KV) (q:List Nat) (ρ:Env) (w:Y):Prop:=At Z 6 ziy (Z8 Z f118.results.toList k) q ρ w
def KP (a0:V) (a1:V) (w:Y) (k:KV):Prop:=
 px Z (F 117 a0) w fun v2 w=>
 px Z (F 3 a1) w fun v3 w=>
 px Z (Instr.makeInterface 189 v3) w fun v4 w=>
 pFn Z 115 [v2,v4] w fun v5 w=>
 k (.tuple #[]) w
theorem KQ (a0:V) (a1:V) (w:Y) (k:KV):ziz k [] (Zq [a0,a1]) w=KP a0 a1 w k:=by kernel_rfl
theorem xz (a0:V) (a1:V) (w:Y) (k:KV) (h:KP a0 a1 w k):pFn Z 118 [a0,a1] w k:=
 Zm mixed func118 (by kernel_rfl) (by kernel_rfl) ntmps118 (by kernel_rfl) (by kernel_rfl) (by simp) ((KQ a0 a1 w k).mpr h)
noncomputable def zi0:Code:=Z1 f102
def zi1 (k:KV) (q:List Nat) (ρ:Env) (w:Y):Prop:=At Z 12 zi0 (Z8 Z f102.results.toList k) q ρ w
def KR (t0:V) (w:Y) (k:KV):Prop:=
 px Z (Zh t0) w fun v5 w=>
 px Z (U 124 v5 1) w fun v6 w=>
 px Z (F 36 v6) w fun v7 w=>
 px Z (Zh t0) w fun v8 w=>
 px Z (U 124 v8 0) w fun v9 w=>
 pu Z (Za 36 v9 v7) w fun w=>
 px Z (Zh t0) w fun v10 w=>
 px Z (U 124 v10 2) w fun v11 w=>
 pu Z (Za 122 v11 (.slice none 0 0)) w fun w=>
 k (.tuple #[]) w
theorem KS (t0:V) (w:Y) (k:KV):zi1 k [] (Zq [t0]) w=KR t0 w k:=by kernel_rfl
theorem xA (t0:V) (w:Y) (k:KV) (h:KR t0 w k):pFn Z 102 [t0] w k:=
 Zm mixed func102 (by kernel_rfl) (by kernel_rfl) ntmps102 (by kernel_rfl) (by kernel_rfl) (by simp) ((KS t0 w k).mpr h)
noncomputable def KT:Code:=Z1 f108
def xB (k:KV) (q:List Nat) (ρ:Env) (w:Y):Prop:=At Z 36 KT (Z8 Z f108.results.toList k) q ρ w
noncomputable def zbm:Code:=sub KT [1,1,0,1,0,0]
def zbn (k:KV) (N1:KE):Xt→KE:=ZX N1 (ZJ Z 36 KT (Z8 Z f108.results.toList k) [1,1,0,1,0])
def Tl (k:KV) (N1:KE) (q:List Nat) (ρ:Env) (w:Y):Prop:=At Z 36 zbm (zbn k N1) q ρ w
def Tm (k:KV) (ρ:Env) (w:Y):Prop:=ZN Z 36 KT (Z8 Z f108.results.toList k) [1,1,0,1,0] ρ w
theorem Es (k:KV) (I:Nat→KE) (round:∀m ρ w,I m ρ w→Tl k (fun ρ' w'=>∃m',m'<m∧I m' ρ' w') [] ρ w) {m:Nat} {ρ:Env} {w:Y} (h:I m ρ w):Tm k ρ w:=
 Zw mixed (B:=KT) (Q:=(Z8 Z f108.results.toList k)) (p:=[1,1,0,1,0]) (by kernel_rfl) (by kernel_rfl) I round h
def KU (t0:V) (units1:V) (w:Y) (k:KV):Prop:=
 px Z (Zh t0) w fun v10 w=>
 px Z (U 124 v10 0) w fun v11 w=>
 px Z (F 36 v11) w fun v12 w=>
 px Z (Zh t0) w fun v14 w=>
 px Z (U 124 v14 2) w fun v15 w=>
 px Z (F 122 v15) w fun v16 w=>
 px Z (bSem .len #[122] 3 #[v16]) w fun v17 w=>
 Tm k (put (put (put (put (put (put (put (put (put (put (put (put (Zq [t0,units1]) 4 (.slice none 0 0)) 9 t0) 10 v10) 11 v11) 12 v12) 5 v12) 13 t0) 14 v14) 15 v15) 16 v16) 17 v17) 18 (.int .i64 0)) w
theorem KW (t0:V) (units1:V) (w:Y) (k:KV):xB k [] (Zq [t0,units1]) w=KU t0 units1 w k:=by kernel_rfl
def Tn (k:KV) (N1:KE) (ρ:Env) (w:Y):Prop:=
 px Z (Zd .lss 3 (.tmp 18) (.tmp 17) (ρ 18) (ρ 17)) w fun v19 w=>
 pC v19 (
 px Z (Zb 122 (ρ 16) (ρ 18)) w fun v20 w=>
 px Z (F 130 v20) w fun v21 w=>
 AS Z v21 "freight/disk.units" [] w fun v24 w=>
 px Z (bSem .min #[3,3] 3 #[(ρ 1),v24]) w fun v25 w=>
 AS Z v21 "freight/disk.made" [(ρ 5),v25] w fun v29 w=>
 px Z (Zd .sub 3 (.tmp 30) (.tmp 31) (ρ 1) v25) w fun v32 w=>
 px Z (Zd .add 3 (.tmp 18) (.const (.int .i64 1)) (ρ 18) (.int .i64 1)) w fun v33 w=>
 N1 (put (put (put (put (put (put (put (put (put (put (put (put (put (put (put (put (put (put (put (put ρ 19 v19) 20 v20) 21 v21) 7 v21) 22 (ρ 1)) 23 v21) 24 v24) 25 v25) 8 v25) 26 v21) 27 (ρ 5)) 28 v25) 29 v29) 5 v29) 30 (ρ 1)) 31 v25) 32 v32) 1 v32) 33 v33) 18 v33) w)
 (
 xB k [1,1,1] (put ρ 19 v19) w)
theorem KX (k:KV) (N1:KE) (ρ:Env) (w:Y):Tl k N1 [] ρ w=Tn k N1 ρ w:=by kernel_rfl
def To (k:KV) (ρ:Env) (w:Y):Prop:=
 pFn Z 89 [(ρ 5)] w fun v35 w=>
 k v35 w
theorem KY (k:KV) (ρ:Env) (w:Y):xB k [1,1,1] ρ w=To k ρ w:=by kernel_rfl
theorem xC (t0:V) (units1:V) (w:Y) (k:KV) (h:KU t0 units1 w k):pFn Z 108 [t0,units1] w k:=
 Zm mixed func108 (by kernel_rfl) (by kernel_rfl) ntmps108 (by kernel_rfl) (by kernel_rfl) (by simp) ((KW t0 units1 w k).mpr h)
noncomputable def KZ:Code:=Z1 f109
def xD (k:KV) (q:List Nat) (ρ:Env) (w:Y):Prop:=At Z 21 KZ (Z8 Z f109.results.toList k) q ρ w
noncomputable def zbo:Code:=sub KZ [1,1,0,1,0,0]
def zbp (k:KV) (N1:KE):Xt→KE:=ZX N1 (ZJ Z 21 KZ (Z8 Z f109.results.toList k) [1,1,0,1,0])
def Tp (k:KV) (N1:KE) (q:List Nat) (ρ:Env) (w:Y):Prop:=At Z 21 zbo (zbp k N1) q ρ w
def Tq (k:KV) (ρ:Env) (w:Y):Prop:=ZN Z 21 KZ (Z8 Z f109.results.toList k) [1,1,0,1,0] ρ w
theorem Et (k:KV) (I:Nat→KE) (round:∀m ρ w,I m ρ w→Tp k (fun ρ' w'=>∃m',m'<m∧I m' ρ' w') [] ρ w) {m:Nat} {ρ:Env} {w:Y} (h:I m ρ w):Tq k ρ w:=
 Zw mixed (B:=KZ) (Q:=(Z8 Z f109.results.toList k)) (p:=[1,1,0,1,0]) (by kernel_rfl) (by kernel_rfl) I round h
def Lb (t0:V) (w:Y) (k:KV):Prop:=
 px Z (Zh t0) w fun v7 w=>
 px Z (U 124 v7 2) w fun v8 w=>
 px Z (F 122 v8) w fun v9 w=>
 px Z (bSem .len #[122] 3 #[v9]) w fun v10 w=>
 Tq k (put (put (put (put (put (put (put (put (Zq [t0]) 2 (.int .i64 0)) 3 (.int .i64 0)) 6 t0) 7 v7) 8 v8) 9 v9) 10 v10) 11 (.int .i64 0)) w
theorem Lc (t0:V) (w:Y) (k:KV):xD k [] (Zq [t0]) w=Lb t0 w k:=by kernel_rfl
def Tr (k:KV) (N1:KE) (ρ:Env) (w:Y):Prop:=
 px Z (Zd .lss 3 (.tmp 11) (.tmp 10) (ρ 11) (ρ 10)) w fun v12 w=>
 pC v12 (
 px Z (Zb 122 (ρ 9) (ρ 11)) w fun v13 w=>
 px Z (F 130 v13) w fun v14 w=>
 AS Z v14 "freight/disk.units" [] w fun v17 w=>
 px Z (Zd .add 3 (.tmp 15) (.tmp 17) (ρ 3) v17) w fun v18 w=>
 px Z (Zd .add 3 (.tmp 11) (.const (.int .i64 1)) (ρ 11) (.int .i64 1)) w fun v19 w=>
 N1 (put (put (put (put (put (put (put (put (put (put (put ρ 12 v12) 13 v13) 14 v14) 5 v14) 15 (ρ 3)) 16 v14) 17 v17) 18 v18) 3 v18) 19 v19) 11 v19) w)
 (
 xD k [1,1,1] (put ρ 12 v12) w)
theorem Le (k:KV) (N1:KE) (ρ:Env) (w:Y):Tp k N1 [] ρ w=Tr k N1 ρ w:=by kernel_rfl
def Ts (k:KV) (ρ:Env) (w:Y):Prop:=
 k (ρ 3) w
theorem Lg (k:KV) (ρ:Env) (w:Y):xD k [1,1,1] ρ w=Ts k ρ w:=by kernel_rfl
theorem xE (t0:V) (w:Y) (k:KV) (h:Lb t0 w k):pFn Z 109 [t0] w k:=
 Zm mixed func109 (by kernel_rfl) (by kernel_rfl) ntmps109 (by kernel_rfl) (by kernel_rfl) (by simp) ((Lc t0 w k).mpr h)
noncomputable def zi2:Code:=Z1 f115
def zi3 (k:KV) (q:List Nat) (ρ:Env) (w:Y):Prop:=At Z 28 zi2 (Z8 Z f115.results.toList k) q ρ w
def Lh (t0:V) (c1:V) (w:Y) (k:KV):Prop:=
 px Z (Zh t0) w fun v6 w=>
 px Z (U 124 v6 2) w fun v7 w=>
 px Z (F 122 v7) w fun v8 w=>
 px Z (Instr.buildSlice 122 1 #[(0,c1)]) w fun v10 w=>
 px Z (bSem .append #[122,122] 122 #[v8,v10]) w fun v11 w=>
 px Z (Zh t0) w fun v12 w=>
 px Z (U 124 v12 2) w fun v13 w=>
 pu Z (Za 122 v13 v11) w fun w=>
 ∃S:Y→Prop,S w.drew∧(fun w=>
 pq Z S (Zh t0) fun v17=>
 pq Z S (U 124 v17 1) fun v18=>
 pq Z S (F 36 v18) fun v19=>
 pq Z S (Instr.makeFunc (Fn.method "freight/disk.made") #[c1] #[]) fun v22=>
 pq Z S (Zh v22) fun v23=>
 AS Z c1 "freight/disk.units" [] w fun v21 w=>S w∧(
 AS Z c1 "freight/disk.made" [v19,v21] w fun v25 w=>S w∧(
 pq Z S (Zh t0) fun v26=>
 pq Z S (U 124 v26 1) fun v27=>
 pu Z (Za 36 v27 v25) w fun w=>(
 k (.tuple #[]) w)))) w.drew
theorem Li (t0:V) (c1:V) (w:Y) (k:KV):zi3 k [] (Zq [t0,c1]) w=Lh t0 c1 w k:=by kernel_rfl
theorem xF (t0:V) (c1:V) (w:Y) (k:KV) (h:Lh t0 c1 w k):pFn Z 115 [t0,c1] w k:=
 Zm mixed func115 (by kernel_rfl) (by kernel_rfl) ntmps115 (by kernel_rfl) (by kernel_rfl) (by simp) ((Li t0 c1 w k).mpr h)
noncomputable def znd:Code:=Z1 f88
def zne (k:KV) (q:List Nat) (ρ:Env) (w:Y):Prop:=At Z 6 znd (Z8 Z f88.results.toList k) q ρ w
def xG (n0:V) (w:Y) (k:KV):Prop:=
 pFn Z 128 [n0] w fun v4 w=>
 pFn Z 127 [v4] w fun v5 w=>
 k v5 w
theorem R4 (n0:V) (w:Y) (k:KV):zne k [] (Zq [n0]) w=xG n0 w k:=by kernel_rfl
theorem zbq (n0:V) (w:Y) (k:KV) (h:xG n0 w k):pFn Z 88 [n0] w k:=
 Zm mixed func88 (by kernel_rfl) (by kernel_rfl) ntmps88 (by kernel_rfl) (by kernel_rfl) (by simp) ((R4 n0 w k).mpr h)
noncomputable def zbr:Code:=Z1 f98
def zi4 (k:KV) (q:List Nat) (ρ:Env) (w:Y):Prop:=At Z 40 zbr (Z8 Z f98.results.toList k) q ρ w
noncomputable def zi5:Code:=sub zbr [1,0,1,0,0]
def zi6 (k:KV) (N1:KE):Xt→KE:=ZX N1 (ZJ Z 40 zbr (Z8 Z f98.results.toList k) [1,0,1,0])
def zbs (k:KV) (N1:KE) (q:List Nat) (ρ:Env) (w:Y):Prop:=At Z 40 zi5 (zi6 k N1) q ρ w
def zbt (k:KV) (ρ:Env) (w:Y):Prop:=ZN Z 40 zbr (Z8 Z f98.results.toList k) [1,0,1,0] ρ w
theorem Lj (k:KV) (I:Nat→KE) (round:∀m ρ w,I m ρ w→zbs k (fun ρ' w'=>∃m',m'<m∧I m' ρ' w') [] ρ w) {m:Nat} {ρ:Env} {w:Y} (h:I m ρ w):zbt k ρ w:=
 Zw mixed (B:=zbr) (Q:=(Z8 Z f98.results.toList k)) (p:=[1,0,1,0]) (by kernel_rfl) (by kernel_rfl) I round h
def xH (s0:V) (w:Y) (k:KV):Prop:=
 px Z (bSem .len #[9] 3 #[s0]) w fun v6 w=>
 zbt k (put (put (put (put (Zq [s0]) 2 (.bool false)) 5 s0) 6 v6) 7 (.int .i64 0)) w
theorem R5 (s0:V) (w:Y) (k:KV):zi4 k [] (Zq [s0]) w=xH s0 w k:=by kernel_rfl
def zbu (k:KV) (N1:KE) (ρ:Env) (w:Y):Prop:=
 px Z (Zd .lss 3 (.tmp 7) (.tmp 6) (ρ 7) (ρ 6)) w fun v8 w=>
 pC v8 (
 px Z (Instr.index 9 (ρ 0) (ρ 7)) w fun v12 w=>
 px Z (Zd .lss 5 (.tmp 13) (.const (.int .u8 97)) v12 (.int .u8 97)) w fun v14 w=>
 pG v14 false (fun k=>k v12 w) (w:=w) (next:=fun v16 w=>
 pG v14 false (fun k=>px Z (Zd .gtr 5 (.tmp 16) (.const (.int .u8 122)) v16 (.int .u8 122)) w k) (w:=w) (next:=fun v17 w=>
 px Z (Zs v14 (.bool true) v17) w fun v18 w=>
 pG v18 true (fun k=>k v12 w) (w:=w) (next:=fun v20 w=>
 pG v18 true (fun k=>px Z (Zd .lss 5 (.tmp 20) (.const (.int .u8 48)) v20 (.int .u8 48)) w k) (w:=w) (next:=fun v21 w=>
 pG v18 true (fun k=>k v21 w) (w:=w) (next:=fun v22 w=>
 pG v22 false (fun k=>k v12 w) (w:=w) (next:=fun v23 w=>
 pG v22 false (fun k=>px Z (Zd .gtr 5 (.tmp 23) (.const (.int .u8 57)) v23 (.int .u8 57)) w k) (w:=w) (next:=fun v24 w=>
 pG v18 true (fun k=>px Z (Zs v22 (.bool true) v24) w k) (w:=w) (next:=fun v25 w=>
 px Z (Zs v18 v25 (.bool false)) w fun v26 w=>
 pG v26 true (fun k=>k v12 w) (w:=w) (next:=fun v28 w=>
 pG v26 true (fun k=>pFn Z 132 [(.string (ByteArray.mk #[46,45,95,43])),v28] w k) (w:=w) (next:=fun v29 w=>
 pG v26 true (fun k=>px Z (Zd .lss 3 (.tmp 29) (.const (.int .i64 0)) v29 (.int .i64 0)) w k) (w:=w) (next:=fun v30 w=>
 px Z (Zs v26 v30 (.bool false)) w fun v31 w=>
 pC v31 (
 k (.bool false) w)
 (
 px Z (Zd .add 3 (.tmp 7) (.const (.int .i64 1)) (ρ 7) (.int .i64 1)) w fun v32 w=>
 N1 (put (put (put (put (put (put (put (put (put (put (put (put (put (put (put (put (put (put (put (put (put (put (put (put (put (put (put (put ρ 8 v8) 9 (ρ 7)) 3 (ρ 7)) 10 (ρ 0)) 11 (ρ 7)) 12 v12) 4 v12) 13 v12) 14 v14) 15 v14) 16 v16) 17 v17) 18 v18) 19 v18) 20 v20) 21 v21) 22 v22) 23 v23) 24 v24) 25 v25) 26 v26) 27 v26) 28 v28) 29 v29) 30 v30) 31 v31) 32 v32) 7 v32) w)))))))))))))
 (
 zi4 k [1,1] (put ρ 8 v8) w)
theorem R6 (k:KV) (N1:KE) (ρ:Env) (w:Y):zbs k N1 [] ρ w=zbu k N1 ρ w:=by kernel_rfl
def zbv (k:KV) (ρ:Env) (w:Y):Prop:=
 px Z (Zd .neq 9 (.tmp 33) (.const (.string (ByteArray.mk #[]))) (ρ 0) (.string (ByteArray.mk #[]))) w fun v34 w=>
 pG v34 true (fun k=>k (ρ 0) w) (w:=w) (next:=fun v36 w=>
 pG v34 true (fun k=>px Z (bSem .len #[9] 3 #[v36]) w k) (w:=w) (next:=fun v37 w=>
 pG v34 true (fun k=>px Z (Zd .leq 3 (.tmp 37) (.const (.int .i64 112)) v37 (.int .i64 112)) w k) (w:=w) (next:=fun v38 w=>
 px Z (Zs v34 v38 (.bool false)) w fun v39 w=>
 k v39 w)))
theorem R7 (k:KV) (ρ:Env) (w:Y):zi4 k [1,1] ρ w=zbv k ρ w:=by kernel_rfl
theorem zbw (s0:V) (w:Y) (k:KV) (h:xH s0 w k):pFn Z 98 [s0] w k:=
 Zm mixed func98 (by kernel_rfl) (by kernel_rfl) ntmps98 (by kernel_rfl) (by kernel_rfl) (by simp) ((R5 s0 w k).mpr h)
noncomputable def zi7:Code:=Z1 f107
def R8 (k:KV) (q:List Nat) (ρ:Env) (w:Y):Prop:=At Z 17 zi7 (Z8 Z f107.results.toList k) q ρ w
def Lk (pick0:V) (most1:V) (w:Y) (k:KV):Prop:=
 px Z (Zd .add 3 (.tmp 7) (.const (.int .i64 1)) most1 (.int .i64 1)) w fun v8 w=>
 px Z (Zd .rem 3 (.tmp 6) (.tmp 8) pick0 v8) w fun v9 w=>
 px Z (Zd .lss 3 (.tmp 10) (.const (.int .i64 0)) v9 (.int .i64 0)) w fun v11 w=>
 pC v11 (
 px Z (Zd .add 3 (.tmp 13) (.const (.int .i64 1)) most1 (.int .i64 1)) w fun v14 w=>
 px Z (Zd .add 3 (.tmp 12) (.tmp 14) v9 v14) w fun v15 w=>
 R8 k [1,1,1] (put (put (put (put (put (put (put (put (put (put (put (put (put (Zq [pick0,most1]) 4 (.int .i64 0)) 6 pick0) 7 most1) 8 v8) 9 v9) 5 v9) 10 v9) 11 v11) 12 v9) 13 most1) 14 v14) 15 v15) 5 v15) w)
 (
 R8 k [1,1,1] (put (put (put (put (put (put (put (put (Zq [pick0,most1]) 4 (.int .i64 0)) 6 pick0) 7 most1) 8 v8) 9 v9) 5 v9) 10 v9) 11 v11) w)
theorem Ll (pick0:V) (most1:V) (w:Y) (k:KV):R8 k [] (Zq [pick0,most1]) w=Lk pick0 most1 w k:=by kernel_rfl
def Lm (k:KV) (ρ:Env) (w:Y):Prop:=
 k (ρ 5) w
theorem BV (k:KV) (ρ:Env) (w:Y):R8 k [1,1,1] ρ w=Lm k ρ w:=by kernel_rfl
theorem xI (pick0:V) (most1:V) (w:Y) (k:KV) (h:Lk pick0 most1 w k):pFn Z 107 [pick0,most1] w k:=
 Zm mixed func107 (by kernel_rfl) (by kernel_rfl) ntmps107 (by kernel_rfl) (by kernel_rfl) (by simp) ((Ll pick0 most1 w k).mpr h)
noncomputable def zi8:Code:=Z1 f179
def zi9 (k:KV) (q:List Nat) (ρ:Env) (w:Y):Prop:=At Z 9 zi8 (Z8 Z f179.results.toList k) q ρ w
def Ln (m0:V) (n1:V) (w:Y) (k:KV):Prop:=
 px Z (Instr.box 126 m0) w fun v2 w=>
 px Z (U 126 v2 0) w fun v5 w=>
 px Z (F 9 v5) w fun v6 w=>
 px Z (U 126 v2 1) w fun v7 w=>
 px Z (F 117 v7) w fun v8 w=>
 pu Z (Instr.mapUpdate 54 n1 v6 v8) w fun w=>
 k (.tuple #[]) w
theorem Lo (m0:V) (n1:V) (w:Y) (k:KV):zi9 k [] (Zq [m0,n1]) w=Ln m0 n1 w k:=by kernel_rfl
theorem xJ (m0:V) (n1:V) (w:Y) (k:KV) (h:Ln m0 n1 w k):pFn Z 179 [m0,n1] w k:=
 Zm mixed func179 (by kernel_rfl) (by kernel_rfl) ntmps179 (by kernel_rfl) (by kernel_rfl) (by simp) ((Lo m0 n1 w k).mpr h)
noncomputable def zja:Code:=Z1 f180
def zjb (k:KV) (q:List Nat) (ρ:Env) (w:Y):Prop:=At Z 13 zja (Z8 Z f180.results.toList k) q ρ w
def Lp (m0:V) (of1:V) (w:Y) (k:KV):Prop:=
 px Z (Instr.box 126 m0) w fun v2 w=>
 px Z (U 126 v2 0) w fun v5 w=>
 px Z (F 9 v5) w fun v6 w=>
 px Z (U 126 v2 1) w fun v8 w=>
 px Z (F 117 v8) w fun v9 w=>
 px Z (Instr.lookup 127 of1 v9 false) w fun v10 w=>
 px Z (Instr.build 126 #[(0,v6),(1,v10)]) w fun v11 w=>
 px Z (Instr.makeInterface 126 v11) w fun v12 w=>
 k v12 w
theorem Lq (m0:V) (of1:V) (w:Y) (k:KV):zjb k [] (Zq [m0,of1]) w=Lp m0 of1 w k:=by kernel_rfl
theorem xK (m0:V) (of1:V) (w:Y) (k:KV) (h:Lp m0 of1 w k):pFn Z 180 [m0,of1] w k:=
 Zm mixed func180 (by kernel_rfl) (by kernel_rfl) ntmps180 (by kernel_rfl) (by kernel_rfl) (by simp) ((Lq m0 of1 w k).mpr h)
noncomputable def zjc:Code:=Z1 f181
def zjd (k:KV) (q:List Nat) (ρ:Env) (w:Y):Prop:=At Z 16 zjc (Z8 Z f181.results.toList k) q ρ w
def Lr (g0:V) (n1:V) (w:Y) (k:KV):Prop:=
 px Z (Instr.box 172 g0) w fun v2 w=>
 px Z (U 172 v2 0) w fun v6 w=>
 px Z (F 9 v6) w fun v7 w=>
 px Z (Instr.lookup 54 n1 v7 false) w fun v8 w=>
 px Z (U 172 v2 0) w fun v10 w=>
 px Z (F 9 v10) w fun v11 w=>
 px Z (bSem .delete #[54,9] 0 #[n1,v11]) w fun _ w=>
 px Z (U 172 v2 1) w fun v13 w=>
 px Z (F 9 v13) w fun v14 w=>
 pu Z (Instr.mapUpdate 54 n1 v14 v8) w fun w=>
 k (.tuple #[]) w
theorem Ls (g0:V) (n1:V) (w:Y) (k:KV):zjd k [] (Zq [g0,n1]) w=Lr g0 n1 w k:=by kernel_rfl
theorem xL (g0:V) (n1:V) (w:Y) (k:KV) (h:Lr g0 n1 w k):pFn Z 181 [g0,n1] w k:=
 Zm mixed func181 (by kernel_rfl) (by kernel_rfl) ntmps181 (by kernel_rfl) (by kernel_rfl) (by simp) ((Ls g0 n1 w k).mpr h)
noncomputable def zje:Code:=Z1 f182
def zjf (k:KV) (q:List Nat) (ρ:Env) (w:Y):Prop:=At Z 7 zje (Z8 Z f182.results.toList k) q ρ w
def Lt (g0:V) (a1:V) (w:Y) (k:KV):Prop:=
 px Z (Instr.box 172 g0) w fun v2 w=>
 px Z (F 172 v2) w fun v5 w=>
 px Z (Instr.makeInterface 172 v5) w fun v6 w=>
 k v6 w
theorem Lu (g0:V) (a1:V) (w:Y) (k:KV):zjf k [] (Zq [g0,a1]) w=Lt g0 a1 w k:=by kernel_rfl
theorem xM (g0:V) (a1:V) (w:Y) (k:KV) (h:Lt g0 a1 w k):pFn Z 182 [g0,a1] w k:=
 Zm mixed func182 (by kernel_rfl) (by kernel_rfl) ntmps182 (by kernel_rfl) (by kernel_rfl) (by simp) ((Lu g0 a1 w k).mpr h)
noncomputable def zjg:Code:=Z1 f183
def zjh (k:KV) (q:List Nat) (ρ:Env) (w:Y):Prop:=At Z 6 zjg (Z8 Z f183.results.toList k) q ρ w
def Lv (t0:V) (n1:V) (w:Y) (k:KV):Prop:=
 px Z (bSem .delete #[54,9] 0 #[n1,t0]) w fun _ w=>
 k (.tuple #[]) w
theorem Lw (t0:V) (n1:V) (w:Y) (k:KV):zjh k [] (Zq [t0,n1]) w=Lv t0 n1 w k:=by kernel_rfl
theorem xN (t0:V) (n1:V) (w:Y) (k:KV) (h:Lv t0 n1 w k):pFn Z 183 [t0,n1] w k:=
 Zm mixed func183 (by kernel_rfl) (by kernel_rfl) ntmps183 (by kernel_rfl) (by kernel_rfl) (by simp) ((Lw t0 n1 w k).mpr h)
noncomputable def zji:Code:=Z1 f184
def zjj (k:KV) (q:List Nat) (ρ:Env) (w:Y):Prop:=At Z 7 zji (Z8 Z f184.results.toList k) q ρ w
def Lx (t0:V) (a1:V) (w:Y) (k:KV):Prop:=
 px Z (Instr.makeInterface 177 t0) w fun v6 w=>
 k v6 w
theorem Ly (t0:V) (a1:V) (w:Y) (k:KV):zjj k [] (Zq [t0,a1]) w=Lx t0 a1 w k:=by kernel_rfl
theorem xO (t0:V) (a1:V) (w:Y) (k:KV) (h:Lx t0 a1 w k):pFn Z 184 [t0,a1] w k:=
 Zm mixed func184 (by kernel_rfl) (by kernel_rfl) ntmps184 (by kernel_rfl) (by kernel_rfl) (by simp) ((Ly t0 a1 w k).mpr h)
noncomputable def zjk:Code:=Z1 f185
def zjl (k:KV) (q:List Nat) (ρ:Env) (w:Y):Prop:=At Z 32 zjk (Z8 Z f185.results.toList k) q ρ w
def Lz (w0:V) (on1:V) (units2:V) (w:Y) (k:KV):Prop:=
 px Z (Instr.box 184 w0) w fun v3 w=>
 px Z (Zd .eql 3 (.tmp 8) (.const (.int .i64 0)) units2 (.int .i64 0)) w fun v9 w=>
 pC v9 (
 k on1 w)
 (
 px Z (bSem .len #[36] 3 #[on1]) w fun v12 w=>
 px Z (U 184 v3 0) w fun v13 w=>
 px Z (F 3 v13) w fun v14 w=>
 px Z (Zd .add 3 (.tmp 14) (.tmp 15) v14 units2) w fun v16 w=>
 px Z (bSem .max #[3,3] 3 #[v12,v16]) w fun v17 w=>
 px Z (Instr.makeSlice 36 v17 v17) w fun v18 w=>
 px Z (bSem .copy #[36,36] 3 #[v18,on1]) w fun v21 w=>
 ∃S:Y→Prop,S w.drew∧(fun w=>
 pq Z S (U 184 v3 0) fun v23=>
 pq Z S (F 3 v23) fun v24=>
 pq Z S (sliceAt 36 v18 (some v24) none none) fun v25=>
 pq Z S (U 184 v3 1) fun v26=>
 pq Z S (F 36 v26) fun v27=>
 pq Z S (sliceAt 36 v27 none (some units2) none) fun v29=>
 px Z (bSem .copy #[36,36] 3 #[v25,v29]) w fun v30 w=>(
 k v18 w)) w.drew)
theorem LA (w0:V) (on1:V) (units2:V) (w:Y) (k:KV):zjl k [] (Zq [w0,on1,units2]) w=Lz w0 on1 units2 w k:=by kernel_rfl
theorem xP (w0:V) (on1:V) (units2:V) (w:Y) (k:KV) (h:Lz w0 on1 units2 w k):pFn Z 185 [w0,on1,units2] w k:=
 Zm mixed func185 (by kernel_rfl) (by kernel_rfl) ntmps185 (by kernel_rfl) (by kernel_rfl) (by simp) ((LA w0 on1 units2 w k).mpr h)
noncomputable def zjm:Code:=Z1 f186
def zjn (k:KV) (q:List Nat) (ρ:Env) (w:Y):Prop:=At Z 6 zjm (Z8 Z f186.results.toList k) q ρ w
def LB (w0:V) (w:Y) (k:KV):Prop:=
 px Z (Instr.box 184 w0) w fun v1 w=>
 px Z (U 184 v1 1) w fun v3 w=>
 px Z (F 36 v3) w fun v4 w=>
 px Z (bSem .len #[36] 3 #[v4]) w fun v5 w=>
 k v5 w
theorem LC (w0:V) (w:Y) (k:KV):zjn k [] (Zq [w0]) w=LB w0 w k:=by kernel_rfl
theorem xQ (w0:V) (w:Y) (k:KV) (h:LB w0 w k):pFn Z 186 [w0] w k:=
 Zm mixed func186 (by kernel_rfl) (by kernel_rfl) ntmps186 (by kernel_rfl) (by kernel_rfl) (by simp) ((LC w0 w k).mpr h)
noncomputable def zjo:Code:=Z1 f187
def zjp (k:KV) (q:List Nat) (ρ:Env) (w:Y):Prop:=At Z 13 zjo (Z8 Z f187.results.toList k) q ρ w
def LD (c0:V) (on1:V) (units2:V) (w:Y) (k:KV):Prop:=
 px Z (Zd .eql 3 (.tmp 7) (.const (.int .i64 0)) units2 (.int .i64 0)) w fun v8 w=>
 pC v8 (
 k on1 w)
 (
 px Z (sliceAt 36 on1 none (some c0) none) w fun v12 w=>
 k v12 w)
theorem LF (c0:V) (on1:V) (units2:V) (w:Y) (k:KV):zjp k [] (Zq [c0,on1,units2]) w=LD c0 on1 units2 w k:=by kernel_rfl
theorem xR (c0:V) (on1:V) (units2:V) (w:Y) (k:KV) (h:LD c0 on1 units2 w k):pFn Z 187 [c0,on1,units2] w k:=
 Zm mixed func187 (by kernel_rfl) (by kernel_rfl) ntmps187 (by kernel_rfl) (by kernel_rfl) (by simp) ((LF c0 on1 units2 w k).mpr h)
noncomputable def zjq:Code:=Z1 f188
def zjr (k:KV) (q:List Nat) (ρ:Env) (w:Y):Prop:=At Z 3 zjq (Z8 Z f188.results.toList k) q ρ w
def Tt (c0:V) (w:Y) (k:KV):Prop:=
 k (.int .i64 1) w
theorem LG (c0:V) (w:Y) (k:KV):zjr k [] (Zq [c0]) w=Tt c0 w k:=by kernel_rfl
theorem xS (c0:V) (w:Y) (k:KV) (h:Tt c0 w k):pFn Z 188 [c0] w k:=
 Zm mixed func188 (by kernel_rfl) (by kernel_rfl) ntmps188 (by kernel_rfl) (by kernel_rfl) (by simp) ((LG c0 w k).mpr h)
noncomputable def znf:Code:=Z1 f84
def zng (k:KV) (q:List Nat) (ρ:Env) (w:Y):Prop:=At Z 8 znf (Z8 Z f84.results.toList k) q ρ w
def xU (s0:V) (w:Y) (k:KV):Prop:=
 px Z (Zd .eql 122 (.tmp 3) (.const (.slice none 0 0)) s0 (.slice none 0 0)) w fun v4 w=>
 pC v4 (
 k (.slice none 0 0) w)
 (
 px Z (Instr.buildSlice 122 0 #[]) w fun v5 w=>
 px Z (bSem .append #[122,122] 122 #[v5,s0]) w fun v7 w=>
 k v7 w)
theorem R9 (s0:V) (w:Y) (k:KV):zng k [] (Zq [s0]) w=xU s0 w k:=by kernel_rfl
theorem zbx (s0:V) (w:Y) (k:KV) (h:xU s0 w k):pFn Z 84 [s0] w k:=
 Zm mixed func84 (by kernel_rfl) (by kernel_rfl) ntmps84 (by kernel_rfl) (by kernel_rfl) (by simp) ((R9 s0 w k).mpr h)
noncomputable def znh:Code:=Z1 f85
def zni (k:KV) (q:List Nat) (ρ:Env) (w:Y):Prop:=At Z 8 znh (Z8 Z f85.results.toList k) q ρ w
def RA (s0:V) (w:Y) (k:KV):Prop:=
 px Z (Zd .eql 56 (.tmp 3) (.const (.slice none 0 0)) s0 (.slice none 0 0)) w fun v4 w=>
 pC v4 (
 k (.slice none 0 0) w)
 (
 px Z (Instr.buildSlice 56 0 #[]) w fun v5 w=>
 px Z (bSem .append #[56,56] 56 #[v5,s0]) w fun v7 w=>
 k v7 w)
theorem RB (s0:V) (w:Y) (k:KV):zni k [] (Zq [s0]) w=RA s0 w k:=by kernel_rfl
theorem Tu (s0:V) (w:Y) (k:KV) (h:RA s0 w k):pFn Z 85 [s0] w k:=
 Zm mixed func85 (by kernel_rfl) (by kernel_rfl) ntmps85 (by kernel_rfl) (by kernel_rfl) (by simp) ((RB s0 w k).mpr h)
noncomputable def znj:Code:=Z1 f89
def znk (k:KV) (q:List Nat) (ρ:Env) (w:Y):Prop:=At Z 8 znj (Z8 Z f89.results.toList k) q ρ w
def RC (s0:V) (w:Y) (k:KV):Prop:=
 px Z (Zd .eql 36 (.tmp 3) (.const (.slice none 0 0)) s0 (.slice none 0 0)) w fun v4 w=>
 pC v4 (
 k (.slice none 0 0) w)
 (
 px Z (Instr.buildSlice 36 0 #[]) w fun v5 w=>
 px Z (bSem .append #[36,36] 36 #[v5,s0]) w fun v7 w=>
 k v7 w)
theorem RD (s0:V) (w:Y) (k:KV):znk k [] (Zq [s0]) w=RC s0 w k:=by kernel_rfl
theorem Tv (s0:V) (w:Y) (k:KV) (h:RC s0 w k):pFn Z 89 [s0] w k:=
 Zm mixed func89 (by kernel_rfl) (by kernel_rfl) ntmps89 (by kernel_rfl) (by kernel_rfl) (by simp) ((RD s0 w k).mpr h)
noncomputable def zby:Code:=Z1 f90
def zjs (k:KV) (q:List Nat) (ρ:Env) (w:Y):Prop:=At Z 42 zby (Z8 Z f90.results.toList k) q ρ w
noncomputable def zjt:Code:=sub zby [1,1,1,0,1,0,0]
def zju (k:KV) (N1:KE):Xt→KE:=ZX N1 (ZJ Z 42 zby (Z8 Z f90.results.toList k) [1,1,1,0,1,0])
def LH (k:KV) (N1:KE) (q:List Nat) (ρ:Env) (w:Y):Prop:=At Z 42 zjt (zju k N1) q ρ w
def zbz (k:KV) (ρ:Env) (w:Y):Prop:=ZN Z 42 zby (Z8 Z f90.results.toList k) [1,1,1,0,1,0] ρ w
theorem LI (k:KV) (I:Nat→KE) (round:∀m ρ w,I m ρ w→LH k (fun ρ' w'=>∃m',m'<m∧I m' ρ' w') [] ρ w) {m:Nat} {ρ:Env} {w:Y} (h:I m ρ w):zbz k ρ w:=
 Zw mixed (B:=zby) (Q:=(Z8 Z f90.results.toList k)) (p:=[1,1,1,0,1,0]) (by kernel_rfl) (by kernel_rfl) I round h
def RE (s0:V) (del1:V) (w:Y) (k:KV):Prop:=
 pFn Z 129 [s0,del1] w fun v10 w=>
 px Z (Zd .eql 3 (.tmp 11) (.const (.int .i64 (-1))) v10 (.int .i64 (-1))) w fun v12 w=>
 pC v12 (
 k s0 w)
 (
 px Z (Zd .add 3 (.tmp 14) (.const (.int .i64 1)) v10 (.int .i64 1)) w fun v15 w=>
 zbz k (put (put (put (put (put (put (put (put (put (put (Zq [s0,del1]) 4 (.slice none 0 0)) 8 s0) 9 del1) 10 v10) 5 v10) 11 v10) 12 v12) 14 v10) 15 v15) 6 v15) w)
theorem RF (s0:V) (del1:V) (w:Y) (k:KV):zjs k [] (Zq [s0,del1]) w=RE s0 del1 w k:=by kernel_rfl
def zb0 (k:KV) (N1:KE) (ρ:Env) (w:Y):Prop:=
 px Z (bSem .len #[73] 3 #[(ρ 0)]) w fun v18 w=>
 px Z (Zd .lss 3 (.tmp 16) (.tmp 18) (ρ 6) v18) w fun v19 w=>
 pC v19 (
 px Z (Zb 73 (ρ 0) (ρ 6)) w fun v24 w=>
 px Z (F 9 v24) w fun v25 w=>
 Cf Z (ρ 1) [v25] w fun v28 w=>
 px Z (Op.unary .not v28) w fun v29 w=>
 pC v29 (
 px Z (Zb 73 (ρ 0) (ρ 5)) w fun v33 w=>
 pu Z (Za 9 v33 v25) w fun w=>
 px Z (Zd .add 3 (.tmp 34) (.const (.int .i64 1)) (ρ 5) (.int .i64 1)) w fun v35 w=>
 LH k N1 [1,1] (put (put (put (put (put (put (put (put (put (put (put (put (put (put (put (put (put (put (put (put ρ 16 (ρ 6)) 17 (ρ 0)) 18 v18) 19 v19) 22 (ρ 0)) 23 (ρ 6)) 24 v24) 25 v25) 7 v25) 26 (ρ 1)) 27 v25) 28 v28) 29 v29) 30 (ρ 0)) 31 (ρ 5)) 32 v25) 33 v33) 34 (ρ 5)) 35 v35) 5 v35) w)
 (
 LH k N1 [1,1] (put (put (put (put (put (put (put (put (put (put (put (put (put ρ 16 (ρ 6)) 17 (ρ 0)) 18 v18) 19 v19) 22 (ρ 0)) 23 (ρ 6)) 24 v24) 25 v25) 7 v25) 26 (ρ 1)) 27 v25) 28 v28) 29 v29) w))
 (
 zjs k [1,1,1,1] (put (put (put (put ρ 16 (ρ 6)) 17 (ρ 0)) 18 v18) 19 v19) w)
theorem RG (k:KV) (N1:KE) (ρ:Env) (w:Y):LH k N1 [] ρ w=zb0 k N1 ρ w:=by kernel_rfl
def xV (k:KV) (N1:KE) (ρ:Env) (w:Y):Prop:=
 px Z (Zd .add 3 (.tmp 20) (.const (.int .i64 1)) (ρ 6) (.int .i64 1)) w fun v21 w=>
 N1 (put (put (put ρ 20 (ρ 6)) 21 v21) 6 v21) w
theorem D7 (k:KV) (N1:KE) (ρ:Env) (w:Y):LH k N1 [1,1] ρ w=xV k N1 ρ w:=by kernel_rfl
def zb1 (k:KV) (ρ:Env) (w:Y):Prop:=
 px Z (sliceAt 73 (ρ 0) (some (ρ 5)) none none) w fun v38 w=>
 px Z (bSem .clear #[73] 0 #[v38]) w fun _ w=>
 px Z (sliceAt 73 (ρ 0) none (some (ρ 5)) none) w fun v41 w=>
 k v41 w
theorem RH (k:KV) (ρ:Env) (w:Y):zjs k [1,1,1,1] ρ w=zb1 k ρ w:=by kernel_rfl
theorem Tx (s0:V) (del1:V) (w:Y) (k:KV) (h:RE s0 del1 w k):pFn Z 90 [s0,del1] w k:=
 Zm mixed func90 (by kernel_rfl) (by kernel_rfl) ntmps90 (by kernel_rfl) (by kernel_rfl) (by simp) ((RF s0 del1 w k).mpr h)
noncomputable def LJ:Code:=Z1 f129
def xW (k:KV) (q:List Nat) (ρ:Env) (w:Y):Prop:=At Z 19 LJ (Z8 Z f129.results.toList k) q ρ w
noncomputable def zb2:Code:=sub LJ [1,0,1,0,0]
def zb3 (k:KV) (N1:KE):Xt→KE:=ZX N1 (ZJ Z 19 LJ (Z8 Z f129.results.toList k) [1,0,1,0])
def Ty (k:KV) (N1:KE) (q:List Nat) (ρ:Env) (w:Y):Prop:=At Z 19 zb2 (zb3 k N1) q ρ w
def Tz (k:KV) (ρ:Env) (w:Y):Prop:=ZN Z 19 LJ (Z8 Z f129.results.toList k) [1,0,1,0] ρ w
theorem Eu (k:KV) (I:Nat→KE) (round:∀m ρ w,I m ρ w→Ty k (fun ρ' w'=>∃m',m'<m∧I m' ρ' w') [] ρ w) {m:Nat} {ρ:Env} {w:Y} (h:I m ρ w):Tz k ρ w:=
 Zw mixed (B:=LJ) (Q:=(Z8 Z f129.results.toList k)) (p:=[1,0,1,0]) (by kernel_rfl) (by kernel_rfl) I round h
def LK (s0:V) (f1:V) (w:Y) (k:KV):Prop:=
 px Z (bSem .len #[73] 3 #[s0]) w fun v7 w=>
 Tz k (put (put (put (put (Zq [s0,f1]) 4 (.int .i64 0)) 6 s0) 7 v7) 8 (.int .i64 0)) w
theorem LL (s0:V) (f1:V) (w:Y) (k:KV):xW k [] (Zq [s0,f1]) w=LK s0 f1 w k:=by kernel_rfl
def T0 (k:KV) (N1:KE) (ρ:Env) (w:Y):Prop:=
 px Z (Zd .lss 3 (.tmp 8) (.tmp 7) (ρ 8) (ρ 7)) w fun v9 w=>
 pC v9 (
 px Z (Zb 73 (ρ 0) (ρ 8)) w fun v14 w=>
 px Z (F 9 v14) w fun v15 w=>
 Cf Z (ρ 1) [v15] w fun v16 w=>
 pC v16 (
 k (ρ 8) w)
 (
 px Z (Zd .add 3 (.tmp 8) (.const (.int .i64 1)) (ρ 8) (.int .i64 1)) w fun v18 w=>
 N1 (put (put (put (put (put (put (put (put (put (put (put ρ 9 v9) 10 (ρ 8)) 5 (ρ 8)) 11 (ρ 1)) 12 (ρ 0)) 13 (ρ 8)) 14 v14) 15 v15) 16 v16) 18 v18) 8 v18) w))
 (
 xW k [1,1] (put ρ 9 v9) w)
theorem LM (k:KV) (N1:KE) (ρ:Env) (w:Y):Ty k N1 [] ρ w=T0 k N1 ρ w:=by kernel_rfl
def zb4 (k:KV) (ρ:Env) (w:Y):Prop:=
 k (.int .i64 (-1)) w
theorem LN (k:KV) (ρ:Env) (w:Y):xW k [1,1] ρ w=zb4 k ρ w:=by kernel_rfl
theorem xX (s0:V) (f1:V) (w:Y) (k:KV) (h:LK s0 f1 w k):pFn Z 129 [s0,f1] w k:=
 Zm mixed func129 (by kernel_rfl) (by kernel_rfl) ntmps129 (by kernel_rfl) (by kernel_rfl) (by simp) ((LL s0 f1 w k).mpr h)
noncomputable def zjv:Code:=Z1 f104
def zjw (k:KV) (q:List Nat) (ρ:Env) (w:Y):Prop:=At Z 9 zjv (Z8 Z f104.results.toList k) q ρ w
def LO (m0:V) (w:Y) (k:KV):Prop:=
 px Z (Zd .eql 54 (.tmp 3) (.const (.map none)) m0 (.map none)) w fun v4 w=>
 pC v4 (
 k (.map none) w)
 (
 px Z (Instr.makeInterface 54 m0) w fun v6 w=>
 pFn Z 134 [v6] w fun v7 w=>
 px Z (Instr.typeAssert v7 20 54 false) w fun v8 w=>
 k v8 w)
theorem LP (m0:V) (w:Y) (k:KV):zjw k [] (Zq [m0]) w=LO m0 w k:=by kernel_rfl
theorem xY (m0:V) (w:Y) (k:KV) (h:LO m0 w k):pFn Z 104 [m0] w k:=
 Zm mixed func104 (by kernel_rfl) (by kernel_rfl) ntmps104 (by kernel_rfl) (by kernel_rfl) (by simp) ((LP m0 w k).mpr h)
noncomputable def znl:Code:=Z1 f92
def znm (k:KV) (q:List Nat) (ρ:Env) (w:Y):Prop:=At Z 8 znl (Z8 Z f92.results.toList k) q ρ w
def xZ (s0:V) (prefix1:V) (w:Y) (k:KV):Prop:=
 pFn Z 130 [s0,prefix1] w fun v7 w=>
 k v7 w
theorem RI (s0:V) (prefix1:V) (w:Y) (k:KV):znm k [] (Zq [s0,prefix1]) w=xZ s0 prefix1 w k:=by kernel_rfl
theorem zb5 (s0:V) (prefix1:V) (w:Y) (k:KV) (h:xZ s0 prefix1 w k):pFn Z 92 [s0,prefix1] w k:=
 Zm mixed func92 (by kernel_rfl) (by kernel_rfl) ntmps92 (by kernel_rfl) (by kernel_rfl) (by simp) ((RI s0 prefix1 w k).mpr h)
noncomputable def zjx:Code:=Z1 f132
def zjy (k:KV) (q:List Nat) (ρ:Env) (w:Y):Prop:=At Z 8 zjx (Z8 Z f132.results.toList k) q ρ w
def LQ (s0:V) (c1:V) (w:Y) (k:KV):Prop:=
 pFn Z 140 [s0,c1] w fun v7 w=>
 k v7 w
theorem LR (s0:V) (c1:V) (w:Y) (k:KV):zjy k [] (Zq [s0,c1]) w=LQ s0 c1 w k:=by kernel_rfl
theorem vd (s0:V) (c1:V) (w:Y) (k:KV) (h:LQ s0 c1 w k):pFn Z 132 [s0,c1] w k:=
 Zm mixed func132 (by kernel_rfl) (by kernel_rfl) ntmps132 (by kernel_rfl) (by kernel_rfl) (by simp) ((LR s0 c1 w k).mpr h)
noncomputable def zjz:Code:=Z1 f130
def zj0 (k:KV) (q:List Nat) (ρ:Env) (w:Y):Prop:=At Z 18 zjz (Z8 Z f130.results.toList k) q ρ w
def LS (s0:V) (prefix1:V) (w:Y) (k:KV):Prop:=
 px Z (bSem .len #[9] 3 #[s0]) w fun v6 w=>
 px Z (bSem .len #[9] 3 #[prefix1]) w fun v8 w=>
 px Z (Zd .geq 3 (.tmp 6) (.tmp 8) v6 v8) w fun v9 w=>
 pG v9 true (fun k=>k s0 w) (w:=w) (next:=fun v11 w=>
 pG v9 true (fun k=>k prefix1 w) (w:=w) (next:=fun v12 w=>
 pG v9 true (fun k=>px Z (bSem .len #[9] 3 #[v12]) w k) (w:=w) (next:=fun v13 w=>
 pG v9 true (fun k=>px Z (sliceAt 9 v11 none (some v13) none) w k) (w:=w) (next:=fun v14 w=>
 pG v9 true (fun k=>k prefix1 w) (w:=w) (next:=fun v15 w=>
 pG v9 true (fun k=>px Z (Zd .eql 9 (.tmp 14) (.tmp 15) v14 v15) w k) (w:=w) (next:=fun v16 w=>
 px Z (Zs v9 v16 (.bool false)) w fun v17 w=>
 k v17 w))))))
theorem LU (s0:V) (prefix1:V) (w:Y) (k:KV):zj0 k [] (Zq [s0,prefix1]) w=LS s0 prefix1 w k:=by kernel_rfl
theorem vf (s0:V) (prefix1:V) (w:Y) (k:KV) (h:LS s0 prefix1 w k):pFn Z 130 [s0,prefix1] w k:=
 Zm mixed func130 (by kernel_rfl) (by kernel_rfl) ntmps130 (by kernel_rfl) (by kernel_rfl) (by simp) ((LU s0 prefix1 w k).mpr h)
noncomputable def zj1:Code:=Z1 f140
def zj2 (k:KV) (q:List Nat) (ρ:Env) (w:Y):Prop:=At Z 8 zj1 (Z8 Z f140.results.toList k) q ρ w
def LV (s0:V) (c1:V) (w:Y) (k:KV):Prop:=
 pFn Z 144 [s0,c1] w fun v7 w=>
 k v7 w
theorem LW (s0:V) (c1:V) (w:Y) (k:KV):zj2 k [] (Zq [s0,c1]) w=LV s0 c1 w k:=by kernel_rfl
theorem vg (s0:V) (c1:V) (w:Y) (k:KV) (h:LV s0 c1 w k):pFn Z 140 [s0,c1] w k:=
 Zm mixed func140 (by kernel_rfl) (by kernel_rfl) ntmps140 (by kernel_rfl) (by kernel_rfl) (by simp) ((LW s0 c1 w k).mpr h)
end Go.Proofs.YtcdcojpfealppaaGreat
