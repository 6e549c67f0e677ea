/- Put together by a program (wip/tools/shake.py): R4. -/
import Derived.Test.YtcdcojpfealppaaGreatY1
import Derived.Test.YtcdcojpfealppaaGreatProg
import Derived.Test.YtcdcojpfealppaaGreatMix
set_option linter.unusedVariables false
set_option maxRecDepth 100000
open Go.Proofs.Tryz renaming prog → Z
open Go renaming World → Y, Value → V
open Go.Instr renaming fieldAt → U, loadAt → F, storeAt → Za, indexAt → Zb
namespace Go.Proofs.YtcdcojpfealppaaGreat
open Go Go.Proofs Go.Proofs.XRed Tryz
open Go.Instr (fieldAt loadAt storeAt indexAt sliceAt extract)
noncomputable def Qn:Code:=Z1 f25
def DG (k:KV) (q:List Nat) (ρ:Env) (w:Y):Prop:=At Z 202 Qn (Z8 Z f25.results.toList k) q ρ w
noncomputable def zdh:Code:=sub Qn [1,1,1,1,1,1,1,1,1,0,1,0,0]
def zdi (k:KV) (N1:KE):Xt→KE:=ZX N1 (ZJ Z 202 Qn (Z8 Z f25.results.toList k) [1,1,1,1,1,1,1,1,1,0,1,0])
def uC (k:KV) (N1:KE) (q:List Nat) (ρ:Env) (w:Y):Prop:=At Z 202 zdh (zdi k N1) q ρ w
def We (k:KV) (ρ:Env) (w:Y):Prop:=ZN Z 202 Qn (Z8 Z f25.results.toList k) [1,1,1,1,1,1,1,1,1,0,1,0] ρ w
theorem Fh (k:KV) (I:Nat→KE) (round:∀m ρ w,I m ρ w→uC k (fun ρ' w'=>∃m',m'<m∧I m' ρ' w') [] ρ w) {m:Nat} {ρ:Env} {w:Y} (h:I m ρ w):We k ρ w:=
 Zw mixed (B:=Qn) (Q:=(Z8 Z f25.results.toList k)) (p:=[1,1,1,1,1,1,1,1,1,0,1,0]) (by kernel_rfl) (by kernel_rfl) I round h
noncomputable def zdj:Code:=sub Qn [1,1,1,1,1,1,1,1,1,1,0,1,0,0]
def zdk (k:KV) (N2:KE):Xt→KE:=ZX N2 (ZJ Z 202 Qn (Z8 Z f25.results.toList k) [1,1,1,1,1,1,1,1,1,1,0,1,0])
def uD (k:KV) (N2:KE) (q:List Nat) (ρ:Env) (w:Y):Prop:=At Z 202 zdj (zdk k N2) q ρ w
def Wf (k:KV) (ρ:Env) (w:Y):Prop:=ZN Z 202 Qn (Z8 Z f25.results.toList k) [1,1,1,1,1,1,1,1,1,1,0,1,0] ρ w
theorem Fi (k:KV) (I:Nat→KE) (round:∀m ρ w,I m ρ w→uD k (fun ρ' w'=>∃m',m'<m∧I m' ρ' w') [] ρ w) {m:Nat} {ρ:Env} {w:Y} (h:I m ρ w):Wf k ρ w:=
 Zw mixed (B:=Qn) (Q:=(Z8 Z f25.results.toList k)) (p:=[1,1,1,1,1,1,1,1,1,1,0,1,0]) (by kernel_rfl) (by kernel_rfl) I round h
noncomputable def zdl:Code:=sub Qn [1,1,1,1,1,1,1,1,1,1,1,0,1,0,0]
def zdm (k:KV) (N3:KE):Xt→KE:=ZX N3 (ZJ Z 202 Qn (Z8 Z f25.results.toList k) [1,1,1,1,1,1,1,1,1,1,1,0,1,0])
def uE (k:KV) (N3:KE) (q:List Nat) (ρ:Env) (w:Y):Prop:=At Z 202 zdl (zdm k N3) q ρ w
def Wg (k:KV) (ρ:Env) (w:Y):Prop:=ZN Z 202 Qn (Z8 Z f25.results.toList k) [1,1,1,1,1,1,1,1,1,1,1,0,1,0] ρ w
theorem Fj (k:KV) (I:Nat→KE) (round:∀m ρ w,I m ρ w→uE k (fun ρ' w'=>∃m',m'<m∧I m' ρ' w') [] ρ w) {m:Nat} {ρ:Env} {w:Y} (h:I m ρ w):Wg k ρ w:=
 Zw mixed (B:=Qn) (Q:=(Z8 Z f25.results.toList k)) (p:=[1,1,1,1,1,1,1,1,1,1,1,0,1,0]) (by kernel_rfl) (by kernel_rfl) I round h
noncomputable def zdn:Code:=sub Qn [1,1,1,1,1,1,1,1,1,1,1,1,0,1,0,0]
def zdo (k:KV) (N4:KE):Xt→KE:=ZX N4 (ZJ Z 202 Qn (Z8 Z f25.results.toList k) [1,1,1,1,1,1,1,1,1,1,1,1,0,1,0])
def uF (k:KV) (N4:KE) (q:List Nat) (ρ:Env) (w:Y):Prop:=At Z 202 zdn (zdo k N4) q ρ w
def Wh (k:KV) (ρ:Env) (w:Y):Prop:=ZN Z 202 Qn (Z8 Z f25.results.toList k) [1,1,1,1,1,1,1,1,1,1,1,1,0,1,0] ρ w
theorem Fk (k:KV) (I:Nat→KE) (round:∀m ρ w,I m ρ w→uF k (fun ρ' w'=>∃m',m'<m∧I m' ρ' w') [] ρ w) {m:Nat} {ρ:Env} {w:Y} (h:I m ρ w):Wh k ρ w:=
 Zw mixed (B:=Qn) (Q:=(Z8 Z f25.results.toList k)) (p:=[1,1,1,1,1,1,1,1,1,1,1,1,0,1,0]) (by kernel_rfl) (by kernel_rfl) I round h
noncomputable def zdp:Code:=sub Qn [1,1,1,1,1,1,1,1,1,1,1,1,1,0,1,0,0]
def zdq (k:KV) (N5:KE):Xt→KE:=ZX N5 (ZJ Z 202 Qn (Z8 Z f25.results.toList k) [1,1,1,1,1,1,1,1,1,1,1,1,1,0,1,0])
def uG (k:KV) (N5:KE) (q:List Nat) (ρ:Env) (w:Y):Prop:=At Z 202 zdp (zdq k N5) q ρ w
def Wi (k:KV) (ρ:Env) (w:Y):Prop:=ZN Z 202 Qn (Z8 Z f25.results.toList k) [1,1,1,1,1,1,1,1,1,1,1,1,1,0,1,0] ρ w
theorem Fl (k:KV) (I:Nat→KE) (round:∀m ρ w,I m ρ w→uG k (fun ρ' w'=>∃m',m'<m∧I m' ρ' w') [] ρ w) {m:Nat} {ρ:Env} {w:Y} (h:I m ρ w):Wi k ρ w:=
 Zw mixed (B:=Qn) (Q:=(Z8 Z f25.results.toList k)) (p:=[1,1,1,1,1,1,1,1,1,1,1,1,1,0,1,0]) (by kernel_rfl) (by kernel_rfl) I round h
noncomputable def zdr:Code:=sub Qn [1,1,1,1,1,1,1,1,1,1,1,1,1,1,0,1,0,0]
def zds (k:KV) (N6:KE):Xt→KE:=ZX N6 (ZJ Z 202 Qn (Z8 Z f25.results.toList k) [1,1,1,1,1,1,1,1,1,1,1,1,1,1,0,1,0])
def uH (k:KV) (N6:KE) (q:List Nat) (ρ:Env) (w:Y):Prop:=At Z 202 zdr (zds k N6) q ρ w
def Wj (k:KV) (ρ:Env) (w:Y):Prop:=ZN Z 202 Qn (Z8 Z f25.results.toList k) [1,1,1,1,1,1,1,1,1,1,1,1,1,1,0,1,0] ρ w
theorem Fm (k:KV) (I:Nat→KE) (round:∀m ρ w,I m ρ w→uH k (fun ρ' w'=>∃m',m'<m∧I m' ρ' w') [] ρ w) {m:Nat} {ρ:Env} {w:Y} (h:I m ρ w):Wj k ρ w:=
 Zw mixed (B:=Qn) (Q:=(Z8 Z f25.results.toList k)) (p:=[1,1,1,1,1,1,1,1,1,1,1,1,1,1,0,1,0]) (by kernel_rfl) (by kernel_rfl) I round h
def Wk (d0:V) (w:Y) (k:KV):Prop:=
 px Z (Zd .eql 30 (.tmp 13) (.const (.pointer none)) d0 (.pointer none)) w fun v14 w=>
 pG v14 false (fun k=>k d0 w) (w:=w) (next:=fun v16 w=>
 pG v14 false (fun k=>px Z (Zh v16) w k) (w:=w) (next:=fun v17 w=>
 pG v14 false (fun k=>px Z (U 62 v17 1) w k) (w:=w) (next:=fun v18 w=>
 pG v14 false (fun k=>px Z (F 3 v18) w k) (w:=w) (next:=fun v19 w=>
 pG v14 false (fun k=>px Z (Zd .eql 3 (.tmp 19) (.const (.int .i64 0)) v19 (.int .i64 0)) w k) (w:=w) (next:=fun v20 w=>
 px Z (Zs v14 (.bool true) v20) w fun v21 w=>
 pC v21 (
 px Z (Instr.build 62 #[]) w fun v22 w=>
 px Z (Instr.box 62 v22) w fun v23 w=>
 k v23 w)
 (
 px Z (Zh d0) w fun v25 w=>
 px Z (F 62 v25) w fun v26 w=>
 px Z (Instr.alloc 62 true (.tuple #[])) w fun v3 w=>
 pu Z (Za 62 v3 v26) w fun w=>
 px Z (U 62 v3 2) w fun v27 w=>
 pu Z (Za 59 v27 (.slice none 0 0)) w fun w=>
 px Z (U 62 v3 3) w fun v28 w=>
 pu Z (Za 59 v28 (.slice none 0 0)) w fun w=>
 px Z (U 62 v3 4) w fun v29 w=>
 pu Z (Za 60 v29 (.slice none 0 0)) w fun w=>
 px Z (Instr.buildSlice 56 0 #[]) w fun v30 w=>
 px Z (Zh d0) w fun v32 w=>
 px Z (U 62 v32 8) w fun v33 w=>
 px Z (F 56 v33) w fun v34 w=>
 px Z (bSem .append #[56,56] 56 #[v30,v34]) w fun v35 w=>
 px Z (U 62 v3 8) w fun v36 w=>
 pu Z (Za 56 v36 v35) w fun w=>
 We k (put (put (put (put (put (put (put (put (put (put (put (put (put (put (put (put (put (put (put (put (put (put (put (put (put (put (put (Zq [d0]) 2 (.pointer none)) 13 d0) 14 v14) 15 v14) 16 v16) 17 v17) 18 v18) 19 v19) 20 v20) 21 v21) 24 d0) 25 v25) 26 v26) 3 v3) 27 v27) 28 v28) 29 v29) 30 v30) 31 d0) 32 v32) 33 v33) 34 v34) 35 v35) 36 v36) 4 (.slice none 0 0)) 5 (.slice none 0 0)) 6 (.int .i64 0)) w))))))
theorem ML (d0:V) (w:Y) (k:KV):DG k [] (Zq [d0]) w=Wk d0 w k:=by kernel_rfl
def Wl (k:KV) (N1:KE) (ρ:Env) (w:Y):Prop:=
 px Z (Zh (ρ 0)) w fun v39 w=>
 px Z (U 62 v39 2) w fun v40 w=>
 px Z (F 59 v40) w fun v41 w=>
 px Z (bSem .len #[59] 3 #[v41]) w fun v42 w=>
 px Z (Zd .lss 3 (.tmp 37) (.tmp 42) (ρ 6) v42) w fun v43 w=>
 pC v43 (
 px Z (Zh (ρ 0)) w fun v50 w=>
 px Z (U 62 v50 2) w fun v51 w=>
 px Z (F 59 v51) w fun v52 w=>
 px Z (Zb 59 v52 (ρ 6)) w fun v54 w=>
 px Z (U 144 v54 1) w fun v55 w=>
 px Z (F 142 v55) w fun v56 w=>
 pFn Z 86 [(ρ 4),(ρ 5),v56] w fun v57 w=>
 px Z (extract v57 0) w fun v58 w=>
 px Z (extract v57 1) w fun v59 w=>
 px Z (Zd .add 3 (.tmp 44) (.const (.int .i64 1)) (ρ 6) (.int .i64 1)) w fun v45 w=>
 N1 (put (put (put (put (put (put (put (put (put (put (put (put (put (put (put (put (put (put (put (put (put (put (put (put (put (put ρ 37 (ρ 6)) 38 (ρ 0)) 39 v39) 40 v40) 41 v41) 42 v42) 43 v43) 47 (ρ 4)) 48 (ρ 5)) 49 (ρ 0)) 50 v50) 51 v51) 52 v52) 53 (ρ 6)) 54 v54) 55 v55) 56 v56) 57 v57) 46 v57) 58 v58) 59 v59) 4 v58) 5 v59) 44 (ρ 6)) 45 v45) 6 v45) w)
 (
 DG k [1,1,1,1,1,1,1,1,1,1] (put (put (put (put (put (put (put ρ 37 (ρ 6)) 38 (ρ 0)) 39 v39) 40 v40) 41 v41) 42 v42) 43 v43) w)
theorem MM (k:KV) (N1:KE) (ρ:Env) (w:Y):uC k N1 [] ρ w=Wl k N1 ρ w:=by kernel_rfl
def Wm (k:KV) (ρ:Env) (w:Y):Prop:=
 Wf k (put ρ 7 (.int .i64 0)) w
theorem MN (k:KV) (ρ:Env) (w:Y):DG k [1,1,1,1,1,1,1,1,1,1] ρ w=Wm k ρ w:=by kernel_rfl
def Wn (k:KV) (N2:KE) (ρ:Env) (w:Y):Prop:=
 px Z (Zh (ρ 0)) w fun v62 w=>
 px Z (U 62 v62 3) w fun v63 w=>
 px Z (F 59 v63) w fun v64 w=>
 px Z (bSem .len #[59] 3 #[v64]) w fun v65 w=>
 px Z (Zd .lss 3 (.tmp 60) (.tmp 65) (ρ 7) v65) w fun v66 w=>
 pC v66 (
 px Z (Zh (ρ 0)) w fun v73 w=>
 px Z (U 62 v73 3) w fun v74 w=>
 px Z (F 59 v74) w fun v75 w=>
 px Z (Zb 59 v75 (ρ 7)) w fun v77 w=>
 px Z (U 144 v77 1) w fun v78 w=>
 px Z (F 142 v78) w fun v79 w=>
 pFn Z 86 [(ρ 4),(ρ 5),v79] w fun v80 w=>
 px Z (extract v80 0) w fun v81 w=>
 px Z (extract v80 1) w fun v82 w=>
 px Z (Zd .add 3 (.tmp 67) (.const (.int .i64 1)) (ρ 7) (.int .i64 1)) w fun v68 w=>
 N2 (put (put (put (put (put (put (put (put (put (put (put (put (put (put (put (put (put (put (put (put (put (put (put (put (put (put ρ 60 (ρ 7)) 61 (ρ 0)) 62 v62) 63 v63) 64 v64) 65 v65) 66 v66) 70 (ρ 4)) 71 (ρ 5)) 72 (ρ 0)) 73 v73) 74 v74) 75 v75) 76 (ρ 7)) 77 v77) 78 v78) 79 v79) 80 v80) 69 v80) 81 v81) 82 v82) 4 v81) 5 v82) 67 (ρ 7)) 68 v68) 7 v68) w)
 (
 DG k [1,1,1,1,1,1,1,1,1,1,1] (put (put (put (put (put (put (put ρ 60 (ρ 7)) 61 (ρ 0)) 62 v62) 63 v63) 64 v64) 65 v65) 66 v66) w)
theorem MO (k:KV) (N2:KE) (ρ:Env) (w:Y):uD k N2 [] ρ w=Wn k N2 ρ w:=by kernel_rfl
def Wo (k:KV) (ρ:Env) (w:Y):Prop:=
 Wg k (put ρ 8 (.int .i64 0)) w
theorem MP (k:KV) (ρ:Env) (w:Y):DG k [1,1,1,1,1,1,1,1,1,1,1] ρ w=Wo k ρ w:=by kernel_rfl
def Wp (k:KV) (N3:KE) (ρ:Env) (w:Y):Prop:=
 px Z (Zh (ρ 0)) w fun v85 w=>
 px Z (U 62 v85 4) w fun v86 w=>
 px Z (F 60 v86) w fun v87 w=>
 px Z (bSem .len #[60] 3 #[v87]) w fun v88 w=>
 px Z (Zd .lss 3 (.tmp 83) (.tmp 88) (ρ 8) v88) w fun v89 w=>
 pC v89 (
 px Z (Zh (ρ 0)) w fun v96 w=>
 px Z (U 62 v96 4) w fun v97 w=>
 px Z (F 60 v97) w fun v98 w=>
 px Z (Zb 60 v98 (ρ 8)) w fun v100 w=>
 px Z (U 146 v100 3) w fun v101 w=>
 px Z (F 142 v101) w fun v102 w=>
 pFn Z 86 [(ρ 4),(ρ 5),v102] w fun v103 w=>
 px Z (extract v103 0) w fun v104 w=>
 px Z (extract v103 1) w fun v105 w=>
 px Z (Zd .add 3 (.tmp 90) (.const (.int .i64 1)) (ρ 8) (.int .i64 1)) w fun v91 w=>
 N3 (put (put (put (put (put (put (put (put (put (put (put (put (put (put (put (put (put (put (put (put (put (put (put (put (put (put ρ 83 (ρ 8)) 84 (ρ 0)) 85 v85) 86 v86) 87 v87) 88 v88) 89 v89) 93 (ρ 4)) 94 (ρ 5)) 95 (ρ 0)) 96 v96) 97 v97) 98 v98) 99 (ρ 8)) 100 v100) 101 v101) 102 v102) 103 v103) 92 v103) 104 v104) 105 v105) 4 v104) 5 v105) 90 (ρ 8)) 91 v91) 8 v91) w)
 (
 DG k [1,1,1,1,1,1,1,1,1,1,1,1] (put (put (put (put (put (put (put ρ 83 (ρ 8)) 84 (ρ 0)) 85 v85) 86 v86) 87 v87) 88 v88) 89 v89) w)
theorem MQ (k:KV) (N3:KE) (ρ:Env) (w:Y):uE k N3 [] ρ w=Wp k N3 ρ w:=by kernel_rfl
def Wq (k:KV) (ρ:Env) (w:Y):Prop:=
 Wh k (put ρ 9 (.int .i64 0)) w
theorem MR (k:KV) (ρ:Env) (w:Y):DG k [1,1,1,1,1,1,1,1,1,1,1,1] ρ w=Wq k ρ w:=by kernel_rfl
def Wr (k:KV) (N4:KE) (ρ:Env) (w:Y):Prop:=
 px Z (Zh (ρ 0)) w fun v108 w=>
 px Z (U 62 v108 2) w fun v109 w=>
 px Z (F 59 v109) w fun v110 w=>
 px Z (bSem .len #[59] 3 #[v110]) w fun v111 w=>
 px Z (Zd .lss 3 (.tmp 106) (.tmp 111) (ρ 9) v111) w fun v112 w=>
 pC v112 (
 ∃S:Y→Prop,S w.drew∧(fun w=>
 pq Z S (U 62 (ρ 3) 2) fun v115=>
 pq Z S (F 59 v115) fun v116=>
 pq Z S (Zh (ρ 0)) fun v118=>
 pq Z S (U 62 v118 2) fun v119=>
 pq Z S (F 59 v119) fun v120=>
 pq Z S (Zb 59 v120 (ρ 9)) fun v122=>
 pq Z S (U 144 v122 0) fun v123=>
 pq Z S (F 9 v123) fun v124=>
 pq Z S (Zh (ρ 0)) fun v128=>
 pq Z S (U 62 v128 2) fun v129=>
 pq Z S (F 59 v129) fun v130=>
 pq Z S (Zb 59 v130 (ρ 9)) fun v132=>
 pq Z S (U 144 v132 1) fun v133=>
 pq Z S (F 142 v133) fun v134=>
 pFn Z 87 [(ρ 4),(ρ 5),v134] w fun v135 w=>S w∧(
 pq Z S (Instr.build 144 #[(0,v124),(1,v135)]) fun v136=>
 px Z (Instr.buildSlice 59 1 #[(0,v136)]) w fun v137 w=>S w∧(
 px Z (bSem .append #[59,59] 59 #[v116,v137]) w fun v138 w=>S w∧(
 pq Z S (U 62 (ρ 3) 2) fun v139=>
 pu Z (Za 59 v139 v138) w fun w=>(
 px Z (Zd .add 3 (.tmp 113) (.const (.int .i64 1)) (ρ 9) (.int .i64 1)) w fun v114 w=>
 N4 (put (put (put (put (put (put (put (put (put (put (put (put (put (put (put (put (put (put (put (put (put (put (put (put (put (put (put (put (put (put (put (put (put (put (put ρ 106 (ρ 9)) 107 (ρ 0)) 108 v108) 109 v109) 110 v110) 111 v111) 112 v112) 115 v115) 116 v116) 117 (ρ 0)) 118 v118) 119 v119) 120 v120) 121 (ρ 9)) 122 v122) 123 v123) 124 v124) 125 (ρ 4)) 126 (ρ 5)) 127 (ρ 0)) 128 v128) 129 v129) 130 v130) 131 (ρ 9)) 132 v132) 133 v133) 134 v134) 135 v135) 136 v136) 137 v137) 138 v138) 139 v139) 113 (ρ 9)) 114 v114) 9 v114) w))))) w.drew)
 (
 DG k [1,1,1,1,1,1,1,1,1,1,1,1,1] (put (put (put (put (put (put (put ρ 106 (ρ 9)) 107 (ρ 0)) 108 v108) 109 v109) 110 v110) 111 v111) 112 v112) w)
theorem MS (k:KV) (N4:KE) (ρ:Env) (w:Y):uF k N4 [] ρ w=Wr k N4 ρ w:=by kernel_rfl
def Ws (k:KV) (ρ:Env) (w:Y):Prop:=
 Wi k (put ρ 10 (.int .i64 0)) w
theorem MT (k:KV) (ρ:Env) (w:Y):DG k [1,1,1,1,1,1,1,1,1,1,1,1,1] ρ w=Ws k ρ w:=by kernel_rfl
def Wt (k:KV) (N5:KE) (ρ:Env) (w:Y):Prop:=
 px Z (Zh (ρ 0)) w fun v142 w=>
 px Z (U 62 v142 3) w fun v143 w=>
 px Z (F 59 v143) w fun v144 w=>
 px Z (bSem .len #[59] 3 #[v144]) w fun v145 w=>
 px Z (Zd .lss 3 (.tmp 140) (.tmp 145) (ρ 10) v145) w fun v146 w=>
 pC v146 (
 ∃S:Y→Prop,S w.drew∧(fun w=>
 pq Z S (U 62 (ρ 3) 3) fun v149=>
 pq Z S (F 59 v149) fun v150=>
 pq Z S (Zh (ρ 0)) fun v152=>
 pq Z S (U 62 v152 3) fun v153=>
 pq Z S (F 59 v153) fun v154=>
 pq Z S (Zb 59 v154 (ρ 10)) fun v156=>
 pq Z S (U 144 v156 0) fun v157=>
 pq Z S (F 9 v157) fun v158=>
 pq Z S (Zh (ρ 0)) fun v162=>
 pq Z S (U 62 v162 3) fun v163=>
 pq Z S (F 59 v163) fun v164=>
 pq Z S (Zb 59 v164 (ρ 10)) fun v166=>
 pq Z S (U 144 v166 1) fun v167=>
 pq Z S (F 142 v167) fun v168=>
 pFn Z 87 [(ρ 4),(ρ 5),v168] w fun v169 w=>S w∧(
 pq Z S (Instr.build 144 #[(0,v158),(1,v169)]) fun v170=>
 px Z (Instr.buildSlice 59 1 #[(0,v170)]) w fun v171 w=>S w∧(
 px Z (bSem .append #[59,59] 59 #[v150,v171]) w fun v172 w=>S w∧(
 pq Z S (U 62 (ρ 3) 3) fun v173=>
 pu Z (Za 59 v173 v172) w fun w=>(
 px Z (Zd .add 3 (.tmp 147) (.const (.int .i64 1)) (ρ 10) (.int .i64 1)) w fun v148 w=>
 N5 (put (put (put (put (put (put (put (put (put (put (put (put (put (put (put (put (put (put (put (put (put (put (put (put (put (put (put (put (put (put (put (put (put (put (put ρ 140 (ρ 10)) 141 (ρ 0)) 142 v142) 143 v143) 144 v144) 145 v145) 146 v146) 149 v149) 150 v150) 151 (ρ 0)) 152 v152) 153 v153) 154 v154) 155 (ρ 10)) 156 v156) 157 v157) 158 v158) 159 (ρ 4)) 160 (ρ 5)) 161 (ρ 0)) 162 v162) 163 v163) 164 v164) 165 (ρ 10)) 166 v166) 167 v167) 168 v168) 169 v169) 170 v170) 171 v171) 172 v172) 173 v173) 147 (ρ 10)) 148 v148) 10 v148) w))))) w.drew)
 (
 DG k [1,1,1,1,1,1,1,1,1,1,1,1,1,1] (put (put (put (put (put (put (put ρ 140 (ρ 10)) 141 (ρ 0)) 142 v142) 143 v143) 144 v144) 145 v145) 146 v146) w)
theorem MU (k:KV) (N5:KE) (ρ:Env) (w:Y):uG k N5 [] ρ w=Wt k N5 ρ w:=by kernel_rfl
def Fo (k:KV) (ρ:Env) (w:Y):Prop:=
 Wj k (put ρ 11 (.int .i64 0)) w
theorem Fp (k:KV) (ρ:Env) (w:Y):DG k [1,1,1,1,1,1,1,1,1,1,1,1,1,1] ρ w=Fo k ρ w:=by kernel_rfl
def Fq (k:KV) (N6:KE) (ρ:Env) (w:Y):Prop:=
 px Z (Zh (ρ 0)) w fun v176 w=>
 px Z (U 62 v176 4) w fun v177 w=>
 px Z (F 60 v177) w fun v178 w=>
 px Z (bSem .len #[60] 3 #[v178]) w fun v179 w=>
 px Z (Zd .lss 3 (.tmp 174) (.tmp 179) (ρ 11) v179) w fun v180 w=>
 pC v180 (
 px Z (Zh (ρ 0)) w fun v184 w=>
 px Z (U 62 v184 4) w fun v185 w=>
 px Z (F 60 v185) w fun v186 w=>
 px Z (Zb 60 v186 (ρ 11)) w fun v188 w=>
 px Z (F 146 v188) w fun v189 w=>
 px Z (Instr.alloc 146 true (.tuple #[])) w fun v12 w=>
 pu Z (Za 146 v12 v189) w fun w=>
 px Z (U 146 v12 3) w fun v192 w=>
 px Z (F 142 v192) w fun v193 w=>
 pFn Z 87 [(ρ 4),(ρ 5),v193] w fun v194 w=>
 px Z (U 146 v12 3) w fun v195 w=>
 pu Z (Za 142 v195 v194) w fun w=>
 px Z (U 62 (ρ 3) 4) w fun v196 w=>
 px Z (F 60 v196) w fun v197 w=>
 px Z (F 146 v12) w fun v198 w=>
 px Z (Instr.buildSlice 60 1 #[(0,v198)]) w fun v199 w=>
 px Z (bSem .append #[60,60] 60 #[v197,v199]) w fun v200 w=>
 px Z (U 62 (ρ 3) 4) w fun v201 w=>
 pu Z (Za 60 v201 v200) w fun w=>
 px Z (Zd .add 3 (.tmp 181) (.const (.int .i64 1)) (ρ 11) (.int .i64 1)) w fun v182 w=>
 N6 (put (put (put (put (put (put (put (put (put (put (put (put (put (put (put (put (put (put (put (put (put (put (put (put (put (put (put (put (put (put ρ 174 (ρ 11)) 175 (ρ 0)) 176 v176) 177 v177) 178 v178) 179 v179) 180 v180) 183 (ρ 0)) 184 v184) 185 v185) 186 v186) 187 (ρ 11)) 188 v188) 189 v189) 12 v12) 190 (ρ 4)) 191 (ρ 5)) 192 v192) 193 v193) 194 v194) 195 v195) 196 v196) 197 v197) 198 v198) 199 v199) 200 v200) 201 v201) 181 (ρ 11)) 182 v182) 11 v182) w)
 (
 DG k [1,1,1,1,1,1,1,1,1,1,1,1,1,1,1] (put (put (put (put (put (put (put ρ 174 (ρ 11)) 175 (ρ 0)) 176 v176) 177 v177) 178 v178) 179 v179) 180 v180) w)
theorem Fs (k:KV) (N6:KE) (ρ:Env) (w:Y):uH k N6 [] ρ w=Fq k N6 ρ w:=by kernel_rfl
def Fu (k:KV) (ρ:Env) (w:Y):Prop:=
 k (ρ 3) w
theorem Fv (k:KV) (ρ:Env) (w:Y):DG k [1,1,1,1,1,1,1,1,1,1,1,1,1,1,1] ρ w=Fu k ρ w:=by kernel_rfl
theorem uI (d0:V) (w:Y) (k:KV) (h:Wk d0 w k):pFn Z 25 [d0] w k:=
 Zm mixed func25 (by kernel_rfl) (by kernel_rfl) ntmps25 (by kernel_rfl) (by kernel_rfl) (by simp) ((ML d0 w k).mpr h)
noncomputable def zkt:Code:=Z1 f33
def zku (k:KV) (q:List Nat) (ρ:Env) (w:Y):Prop:=At Z 11 zkt (Z8 Z f33.results.toList k) q ρ w
def Wu (d0:V) (w:Y) (k:KV):Prop:=
 px Z (Zd .eql 30 (.tmp 3) (.const (.pointer none)) d0 (.pointer none)) w fun v4 w=>
 pC v4 (
 k (.slice none 0 0) w)
 (
 px Z (Instr.buildSlice 56 0 #[]) w fun v5 w=>
 px Z (Zh d0) w fun v7 w=>
 px Z (U 62 v7 8) w fun v8 w=>
 px Z (F 56 v8) w fun v9 w=>
 px Z (bSem .append #[56,56] 56 #[v5,v9]) w fun v10 w=>
 k v10 w)
theorem MV (d0:V) (w:Y) (k:KV):zku k [] (Zq [d0]) w=Wu d0 w k:=by kernel_rfl
theorem uJ (d0:V) (w:Y) (k:KV) (h:Wu d0 w k):pFn Z 33 [d0] w k:=
 Zm mixed func33 (by kernel_rfl) (by kernel_rfl) ntmps33 (by kernel_rfl) (by kernel_rfl) (by simp) ((MV d0 w k).mpr h)
noncomputable def zkv:Code:=Z1 f34
def zkw (k:KV) (q:List Nat) (ρ:Env) (w:Y):Prop:=At Z 73 zkv (Z8 Z f34.results.toList k) q ρ w
def Wv (d0:V) (name1:V) (at2:V) (n3:V) (w:Y) (k:KV):Prop:=
 pFn Z 93 [d0,name1] w fun v16 w=>
 px Z (extract v16 0) w fun v17 w=>
 px Z (extract v16 1) w fun v18 w=>
 px Z (Zd .neq 3 (.tmp 19) (.const (.int .i64 0)) v18 (.int .i64 0)) w fun v20 w=>
 pC v20 (
 k (.tuple #[(.slice none 0 0),v18]) w)
 (
 px Z (Zh d0) w fun v23 w=>
 px Z (U 62 v23 2) w fun v24 w=>
 px Z (F 59 v24) w fun v25 w=>
 px Z (Zb 59 v25 v17) w fun v27 w=>
 px Z (U 144 v27 1) w fun v28 w=>
 px Z (F 142 v28) w fun v29 w=>
 px Z (Zh v29) w fun v30 w=>
 px Z (U 156 v30 1) w fun v31 w=>
 px Z (F 36 v31) w fun v32 w=>
 px Z (Zd .lss 3 (.tmp 33) (.const (.int .i64 0)) at2 (.int .i64 0)) w fun v34 w=>
 pG v34 false (fun k=>k n3 w) (w:=w) (next:=fun v36 w=>
 pG v34 false (fun k=>px Z (Zd .lss 3 (.tmp 36) (.const (.int .i64 0)) v36 (.int .i64 0)) w k) (w:=w) (next:=fun v37 w=>
 px Z (Zs v34 (.bool true) v37) w fun v38 w=>
 pG v38 false (fun k=>k at2 w) (w:=w) (next:=fun v40 w=>
 pG v38 false (fun k=>k v32 w) (w:=w) (next:=fun v41 w=>
 pG v38 false (fun k=>px Z (bSem .len #[36] 3 #[v41]) w k) (w:=w) (next:=fun v42 w=>
 pG v38 false (fun k=>px Z (Zd .gtr 3 (.tmp 40) (.tmp 42) v40 v42) w k) (w:=w) (next:=fun v43 w=>
 px Z (Zs v38 (.bool true) v43) w fun v44 w=>
 pG v44 false (fun k=>k n3 w) (w:=w) (next:=fun v46 w=>
 pG v44 false (fun k=>k v32 w) (w:=w) (next:=fun v47 w=>
 pG v44 false (fun k=>px Z (bSem .len #[36] 3 #[v47]) w k) (w:=w) (next:=fun v48 w=>
 pG v44 false (fun k=>k at2 w) (w:=w) (next:=fun v49 w=>
 pG v44 false (fun k=>px Z (Zd .sub 3 (.tmp 48) (.tmp 49) v48 v49) w k) (w:=w) (next:=fun v50 w=>
 pG v44 false (fun k=>px Z (Zd .gtr 3 (.tmp 46) (.tmp 50) v46 v50) w k) (w:=w) (next:=fun v51 w=>
 px Z (Zs v44 (.bool true) v51) w fun v52 w=>
 pC v52 (
 k (.tuple #[(.slice none 0 0),(.int .i64 54)]) w)
 (
 px Z (Zh d0) w fun v55 w=>
 px Z (U 62 v55 8) w fun v56 w=>
 px Z (F 56 v56) w fun v57 w=>
 px Z (Instr.build 134 #[(0,name1),(1,at2),(2,n3)]) w fun v61 w=>
 px Z (Instr.buildSlice 56 1 #[(0,v61)]) w fun v62 w=>
 px Z (bSem .append #[56,56] 56 #[v57,v62]) w fun v63 w=>
 px Z (Zh d0) w fun v64 w=>
 px Z (U 62 v64 8) w fun v65 w=>
 pu Z (Za 56 v65 v63) w fun w=>
 px Z (Zd .add 3 (.tmp 68) (.tmp 69) at2 n3) w fun v70 w=>
 px Z (sliceAt 36 v32 (some at2) (some v70) none) w fun v71 w=>
 pFn Z 94 [v71] w fun v72 w=>
 k (.tuple #[v72,(.int .i64 0)]) w))))))))))))))
theorem MW (d0:V) (name1:V) (at2:V) (n3:V) (w:Y) (k:KV):zkw k [] (Zq [d0,name1,at2,n3]) w=Wv d0 name1 at2 n3 w k:=by kernel_rfl
theorem uK (d0:V) (name1:V) (at2:V) (n3:V) (w:Y) (k:KV) (h:Wv d0 name1 at2 n3 w k):pFn Z 34 [d0,name1,at2,n3] w k:=
 Zm mixed func34 (by kernel_rfl) (by kernel_rfl) ntmps34 (by kernel_rfl) (by kernel_rfl) (by simp) ((MW d0 name1 at2 n3 w k).mpr h)
noncomputable def uL:Code:=Z1 f41
def zdt (k:KV) (q:List Nat) (ρ:Env) (w:Y):Prop:=At Z 41 uL (Z8 Z f41.results.toList k) q ρ w
noncomputable def zdu:Code:=sub uL [1,1,1,0,1,0,0]
def zdv (k:KV) (N1:KE):Xt→KE:=ZX N1 (ZJ Z 41 uL (Z8 Z f41.results.toList k) [1,1,1,0,1,0])
def uM (k:KV) (N1:KE) (q:List Nat) (ρ:Env) (w:Y):Prop:=At Z 41 zdu (zdv k N1) q ρ w
def uN (k:KV) (ρ:Env) (w:Y):Prop:=ZN Z 41 uL (Z8 Z f41.results.toList k) [1,1,1,0,1,0] ρ w
theorem Fw (k:KV) (I:Nat→KE) (round:∀m ρ w,I m ρ w→uM k (fun ρ' w'=>∃m',m'<m∧I m' ρ' w') [] ρ w) {m:Nat} {ρ:Env} {w:Y} (h:I m ρ w):uN k ρ w:=
 Zw mixed (B:=uL) (Q:=(Z8 Z f41.results.toList k)) (p:=[1,1,1,0,1,0]) (by kernel_rfl) (by kernel_rfl) I round h
def Ww (d0:V) (w:Y) (k:KV):Prop:=
 px Z (Zd .eql 30 (.tmp 5) (.const (.pointer none)) d0 (.pointer none)) w fun v6 w=>
 pC v6 (
 k (.slice none 0 0) w)
 (
 uN k (put (put (put (put (put (Zq [d0]) 2 (.slice none 0 0)) 3 (.slice none 0 0)) 5 d0) 6 v6) 4 (.int .i64 0)) w)
theorem MX (d0:V) (w:Y) (k:KV):zdt k [] (Zq [d0]) w=Ww d0 w k:=by kernel_rfl
def uO (k:KV) (N1:KE) (ρ:Env) (w:Y):Prop:=
 px Z (Zh (ρ 0)) w fun v9 w=>
 px Z (U 62 v9 2) w fun v10 w=>
 px Z (F 59 v10) w fun v11 w=>
 px Z (bSem .len #[59] 3 #[v11]) w fun v12 w=>
 px Z (Zd .lss 3 (.tmp 7) (.tmp 12) (ρ 4) v12) w fun v13 w=>
 pC v13 (
 ∃S:Y→Prop,S w.drew∧(fun w=>
 pq Z S (Zh (ρ 0)) fun v18=>
 pq Z S (U 62 v18 2) fun v19=>
 pq Z S (F 59 v19) fun v20=>
 pq Z S (Zb 59 v20 (ρ 4)) fun v22=>
 pq Z S (U 144 v22 0) fun v23=>
 pq Z S (F 9 v23) fun v24=>
 pq Z S (Zh (ρ 0)) fun v26=>
 pq Z S (U 62 v26 2) fun v27=>
 pq Z S (F 59 v27) fun v28=>
 pq Z S (Zb 59 v28 (ρ 4)) fun v30=>
 pq Z S (U 144 v30 1) fun v31=>
 pq Z S (F 142 v31) fun v32=>
 pq Z S (Zh v32) fun v33=>
 pq Z S (U 156 v33 1) fun v34=>
 pq Z S (F 36 v34) fun v35=>
 pFn Z 94 [v35] w fun v36 w=>S w∧(
 pq Z S (Instr.build 83 #[(0,v24),(1,v36)]) fun v37=>
 px Z (Instr.buildSlice 71 1 #[(0,v37)]) w fun v38 w=>S w∧(
 px Z (bSem .append #[71,71] 71 #[(ρ 3),v38]) w fun v39 w=>S w∧(
 px Z (Zd .add 3 (.tmp 14) (.const (.int .i64 1)) (ρ 4) (.int .i64 1)) w fun v15 w=>
 N1 (put (put (put (put (put (put (put (put (put (put (put (put (put (put (put (put (put (put (put (put (put (put (put (put (put (put (put (put (put (put (put (put (put (put (put ρ 7 (ρ 4)) 8 (ρ 0)) 9 v9) 10 v10) 11 v11) 12 v12) 13 v13) 16 (ρ 3)) 17 (ρ 0)) 18 v18) 19 v19) 20 v20) 21 (ρ 4)) 22 v22) 23 v23) 24 v24) 25 (ρ 0)) 26 v26) 27 v27) 28 v28) 29 (ρ 4)) 30 v30) 31 v31) 32 v32) 33 v33) 34 v34) 35 v35) 36 v36) 37 v37) 38 v38) 39 v39) 3 v39) 14 (ρ 4)) 15 v15) 4 v15) w)))) w.drew)
 (
 zdt k [1,1,1,1] (put (put (put (put (put (put (put ρ 7 (ρ 4)) 8 (ρ 0)) 9 v9) 10 v10) 11 v11) 12 v12) 13 v13) w)
theorem MY (k:KV) (N1:KE) (ρ:Env) (w:Y):uM k N1 [] ρ w=uO k N1 ρ w:=by kernel_rfl
def uP (k:KV) (ρ:Env) (w:Y):Prop:=
 k (ρ 3) w
theorem MZ (k:KV) (ρ:Env) (w:Y):zdt k [1,1,1,1] ρ w=uP k ρ w:=by kernel_rfl
theorem uQ (d0:V) (w:Y) (k:KV) (h:Ww d0 w k):pFn Z 41 [d0] w k:=
 Zm mixed func41 (by kernel_rfl) (by kernel_rfl) ntmps41 (by kernel_rfl) (by kernel_rfl) (by simp) ((MX d0 w k).mpr h)
noncomputable def uR:Code:=Z1 f42
def zdw (k:KV) (q:List Nat) (ρ:Env) (w:Y):Prop:=At Z 41 uR (Z8 Z f42.results.toList k) q ρ w
noncomputable def zdx:Code:=sub uR [1,1,1,0,1,0,0]
def zdy (k:KV) (N1:KE):Xt→KE:=ZX N1 (ZJ Z 41 uR (Z8 Z f42.results.toList k) [1,1,1,0,1,0])
def uS (k:KV) (N1:KE) (q:List Nat) (ρ:Env) (w:Y):Prop:=At Z 41 zdx (zdy k N1) q ρ w
def uT (k:KV) (ρ:Env) (w:Y):Prop:=ZN Z 41 uR (Z8 Z f42.results.toList k) [1,1,1,0,1,0] ρ w
theorem Fx (k:KV) (I:Nat→KE) (round:∀m ρ w,I m ρ w→uS k (fun ρ' w'=>∃m',m'<m∧I m' ρ' w') [] ρ w) {m:Nat} {ρ:Env} {w:Y} (h:I m ρ w):uT k ρ w:=
 Zw mixed (B:=uR) (Q:=(Z8 Z f42.results.toList k)) (p:=[1,1,1,0,1,0]) (by kernel_rfl) (by kernel_rfl) I round h
def Wx (d0:V) (w:Y) (k:KV):Prop:=
 px Z (Zd .eql 30 (.tmp 5) (.const (.pointer none)) d0 (.pointer none)) w fun v6 w=>
 pC v6 (
 k (.slice none 0 0) w)
 (
 uT k (put (put (put (put (put (Zq [d0]) 2 (.slice none 0 0)) 3 (.slice none 0 0)) 5 d0) 6 v6) 4 (.int .i64 0)) w)
theorem Na (d0:V) (w:Y) (k:KV):zdw k [] (Zq [d0]) w=Wx d0 w k:=by kernel_rfl
def uU (k:KV) (N1:KE) (ρ:Env) (w:Y):Prop:=
 px Z (Zh (ρ 0)) w fun v9 w=>
 px Z (U 62 v9 3) w fun v10 w=>
 px Z (F 59 v10) w fun v11 w=>
 px Z (bSem .len #[59] 3 #[v11]) w fun v12 w=>
 px Z (Zd .lss 3 (.tmp 7) (.tmp 12) (ρ 4) v12) w fun v13 w=>
 pC v13 (
 ∃S:Y→Prop,S w.drew∧(fun w=>
 pq Z S (Zh (ρ 0)) fun v18=>
 pq Z S (U 62 v18 3) fun v19=>
 pq Z S (F 59 v19) fun v20=>
 pq Z S (Zb 59 v20 (ρ 4)) fun v22=>
 pq Z S (U 144 v22 0) fun v23=>
 pq Z S (F 9 v23) fun v24=>
 pq Z S (Zh (ρ 0)) fun v26=>
 pq Z S (U 62 v26 3) fun v27=>
 pq Z S (F 59 v27) fun v28=>
 pq Z S (Zb 59 v28 (ρ 4)) fun v30=>
 pq Z S (U 144 v30 1) fun v31=>
 pq Z S (F 142 v31) fun v32=>
 pq Z S (Zh v32) fun v33=>
 pq Z S (U 156 v33 0) fun v34=>
 pq Z S (F 36 v34) fun v35=>
 pFn Z 94 [v35] w fun v36 w=>S w∧(
 pq Z S (Instr.build 83 #[(0,v24),(1,v36)]) fun v37=>
 px Z (Instr.buildSlice 71 1 #[(0,v37)]) w fun v38 w=>S w∧(
 px Z (bSem .append #[71,71] 71 #[(ρ 3),v38]) w fun v39 w=>S w∧(
 px Z (Zd .add 3 (.tmp 14) (.const (.int .i64 1)) (ρ 4) (.int .i64 1)) w fun v15 w=>
 N1 (put (put (put (put (put (put (put (put (put (put (put (put (put (put (put (put (put (put (put (put (put (put (put (put (put (put (put (put (put (put (put (put (put (put (put ρ 7 (ρ 4)) 8 (ρ 0)) 9 v9) 10 v10) 11 v11) 12 v12) 13 v13) 16 (ρ 3)) 17 (ρ 0)) 18 v18) 19 v19) 20 v20) 21 (ρ 4)) 22 v22) 23 v23) 24 v24) 25 (ρ 0)) 26 v26) 27 v27) 28 v28) 29 (ρ 4)) 30 v30) 31 v31) 32 v32) 33 v33) 34 v34) 35 v35) 36 v36) 37 v37) 38 v38) 39 v39) 3 v39) 14 (ρ 4)) 15 v15) 4 v15) w)))) w.drew)
 (
 zdw k [1,1,1,1] (put (put (put (put (put (put (put ρ 7 (ρ 4)) 8 (ρ 0)) 9 v9) 10 v10) 11 v11) 12 v12) 13 v13) w)
theorem Nb (k:KV) (N1:KE) (ρ:Env) (w:Y):uS k N1 [] ρ w=uU k N1 ρ w:=by kernel_rfl
def uV (k:KV) (ρ:Env) (w:Y):Prop:=
 k (ρ 3) w
theorem Nc (k:KV) (ρ:Env) (w:Y):zdw k [1,1,1,1] ρ w=uV k ρ w:=by kernel_rfl
theorem uW (d0:V) (w:Y) (k:KV) (h:Wx d0 w k):pFn Z 42 [d0] w k:=
 Zm mixed func42 (by kernel_rfl) (by kernel_rfl) ntmps42 (by kernel_rfl) (by kernel_rfl) (by simp) ((Na d0 w k).mpr h)
noncomputable def uX:Code:=Z1 f44
def zdz (k:KV) (q:List Nat) (ρ:Env) (w:Y):Prop:=At Z 45 uX (Z8 Z f44.results.toList k) q ρ w
noncomputable def zd0:Code:=sub uX [1,1,1,0,1,0,0]
def zd1 (k:KV) (N1:KE):Xt→KE:=ZX N1 (ZJ Z 45 uX (Z8 Z f44.results.toList k) [1,1,1,0,1,0])
def Fy (k:KV) (N1:KE) (q:List Nat) (ρ:Env) (w:Y):Prop:=At Z 45 zd0 (zd1 k N1) q ρ w
def uY (k:KV) (ρ:Env) (w:Y):Prop:=ZN Z 45 uX (Z8 Z f44.results.toList k) [1,1,1,0,1,0] ρ w
theorem Fz (k:KV) (I:Nat→KE) (round:∀m ρ w,I m ρ w→Fy k (fun ρ' w'=>∃m',m'<m∧I m' ρ' w') [] ρ w) {m:Nat} {ρ:Env} {w:Y} (h:I m ρ w):uY k ρ w:=
 Zw mixed (B:=uX) (Q:=(Z8 Z f44.results.toList k)) (p:=[1,1,1,0,1,0]) (by kernel_rfl) (by kernel_rfl) I round h
def Wy (d0:V) (prefix1:V) (w:Y) (k:KV):Prop:=
 pFn Z 74 [d0] w fun v9 w=>
 pC v9 (
 k (.slice none 0 0) w)
 (
 uY k (put (put (put (put (put (Zq [d0,prefix1]) 4 (.slice none 0 0)) 5 (.slice none 0 0)) 8 d0) 9 v9) 6 (.int .i64 0)) w)
theorem Nd (d0:V) (prefix1:V) (w:Y) (k:KV):zdz k [] (Zq [d0,prefix1]) w=Wy d0 prefix1 w k:=by kernel_rfl
def uZ (k:KV) (N1:KE) (ρ:Env) (w:Y):Prop:=
 px Z (Zh (ρ 0)) w fun v12 w=>
 px Z (U 62 v12 2) w fun v13 w=>
 px Z (F 59 v13) w fun v14 w=>
 px Z (bSem .len #[59] 3 #[v14]) w fun v15 w=>
 px Z (Zd .lss 3 (.tmp 10) (.tmp 15) (ρ 6) v15) w fun v16 w=>
 pC v16 (
 px Z (Zh (ρ 0)) w fun v20 w=>
 px Z (U 62 v20 2) w fun v21 w=>
 px Z (F 59 v21) w fun v22 w=>
 px Z (Zb 59 v22 (ρ 6)) w fun v24 w=>
 px Z (U 144 v24 0) w fun v25 w=>
 px Z (F 9 v25) w fun v26 w=>
 px Z (bSem .len #[9] 3 #[v26]) w fun v28 w=>
 px Z (bSem .len #[9] 3 #[(ρ 1)]) w fun v30 w=>
 px Z (Zd .geq 3 (.tmp 28) (.tmp 30) v28 v30) w fun v31 w=>
 pG v31 true (fun k=>k v26 w) (w:=w) (next:=fun v33 w=>
 pG v31 true (fun k=>k (ρ 1) w) (w:=w) (next:=fun v34 w=>
 pG v31 true (fun k=>px Z (bSem .len #[9] 3 #[v34]) w k) (w:=w) (next:=fun v35 w=>
 pG v31 true (fun k=>px Z (sliceAt 9 v33 none (some v35) none) w k) (w:=w) (next:=fun v36 w=>
 pG v31 true (fun k=>k (ρ 1) w) (w:=w) (next:=fun v37 w=>
 pG v31 true (fun k=>px Z (Zd .eql 9 (.tmp 36) (.tmp 37) v36 v37) w k) (w:=w) (next:=fun v38 w=>
 px Z (Zs v31 v38 (.bool false)) w fun v39 w=>
 pC v39 (
 px Z (Instr.buildSlice 73 1 #[(0,v26)]) w fun v42 w=>
 px Z (bSem .append #[73,73] 73 #[(ρ 5),v42]) w fun v43 w=>
 Fy k N1 [1,1] (put (put (put (put (put (put (put (put (put (put (put (put (put (put (put (put (put (put (put (put (put (put (put (put (put (put (put (put (put (put (put (put (put (put ρ 10 (ρ 6)) 11 (ρ 0)) 12 v12) 13 v13) 14 v14) 15 v15) 16 v16) 19 (ρ 0)) 20 v20) 21 v21) 22 v22) 23 (ρ 6)) 24 v24) 25 v25) 26 v26) 7 v26) 27 v26) 28 v28) 29 (ρ 1)) 30 v30) 31 v31) 32 v31) 33 v33) 34 v34) 35 v35) 36 v36) 37 v37) 38 v38) 39 v39) 40 (ρ 5)) 41 v26) 42 v42) 43 v43) 5 v43) w)
 (
 Fy k N1 [1,1] (put (put (put (put (put (put (put (put (put (put (put (put (put (put (put (put (put (put (put (put (put (put (put (put (put (put (put (put (put ρ 10 (ρ 6)) 11 (ρ 0)) 12 v12) 13 v13) 14 v14) 15 v15) 16 v16) 19 (ρ 0)) 20 v20) 21 v21) 22 v22) 23 (ρ 6)) 24 v24) 25 v25) 26 v26) 7 v26) 27 v26) 28 v28) 29 (ρ 1)) 30 v30) 31 v31) 32 v31) 33 v33) 34 v34) 35 v35) 36 v36) 37 v37) 38 v38) 39 v39) w))))))))
 (
 zdz k [1,1,1,1] (put (put (put (put (put (put (put ρ 10 (ρ 6)) 11 (ρ 0)) 12 v12) 13 v13) 14 v14) 15 v15) 16 v16) w)
theorem Nf (k:KV) (N1:KE) (ρ:Env) (w:Y):Fy k N1 [] ρ w=uZ k N1 ρ w:=by kernel_rfl
def Wz (k:KV) (N1:KE) (ρ:Env) (w:Y):Prop:=
 px Z (Zd .add 3 (.tmp 17) (.const (.int .i64 1)) (ρ 6) (.int .i64 1)) w fun v18 w=>
 N1 (put (put (put ρ 17 (ρ 6)) 18 v18) 6 v18) w
theorem JU (k:KV) (N1:KE) (ρ:Env) (w:Y):Fy k N1 [1,1] ρ w=Wz k N1 ρ w:=by kernel_rfl
def qa (k:KV) (ρ:Env) (w:Y):Prop:=
 k (ρ 5) w
theorem Ng (k:KV) (ρ:Env) (w:Y):zdz k [1,1,1,1] ρ w=qa k ρ w:=by kernel_rfl
theorem qb (d0:V) (prefix1:V) (w:Y) (k:KV) (h:Wy d0 prefix1 w k):pFn Z 44 [d0,prefix1] w k:=
 Zm mixed func44 (by kernel_rfl) (by kernel_rfl) ntmps44 (by kernel_rfl) (by kernel_rfl) (by simp) ((Nd d0 prefix1 w k).mpr h)
noncomputable def zkx:Code:=Z1 f53
def zky (k:KV) (q:List Nat) (ρ:Env) (w:Y):Prop:=At Z 13 zkx (Z8 Z f53.results.toList k) q ρ w
def W0 (room0:V) (w:Y) (k:KV):Prop:=
 px Z (Zd .lss 3 (.tmp 4) (.const (.int .i64 1)) room0 (.int .i64 1)) w fun v5 w=>
 pG v5 false (fun k=>k room0 w) (w:=w) (next:=fun v7 w=>
 pG v5 false (fun k=>px Z (Zd .gtr 3 (.tmp 7) (.const (.int .i64 1048576)) v7 (.int .i64 1048576)) w k) (w:=w) (next:=fun v8 w=>
 px Z (Zs v5 (.bool true) v8) w fun v9 w=>
 pC v9 (
 k (.tuple #[(.pointer none),(.int .i64 1)]) w)
 (
 px Z (Instr.build 62 #[(0,(.bool true)),(1,room0)]) w fun v11 w=>
 px Z (Instr.box 62 v11) w fun v12 w=>
 k (.tuple #[v12,(.int .i64 0)]) w)))
theorem Nh (room0:V) (w:Y) (k:KV):zky k [] (Zq [room0]) w=W0 room0 w k:=by kernel_rfl
theorem qc (room0:V) (w:Y) (k:KV) (h:W0 room0 w k):pFn Z 53 [room0] w k:=
 Zm mixed func53 (by kernel_rfl) (by kernel_rfl) ntmps53 (by kernel_rfl) (by kernel_rfl) (by simp) ((Nh room0 w k).mpr h)
noncomputable def zkz:Code:=Z1 f61
def zk0 (k:KV) (q:List Nat) (ρ:Env) (w:Y):Prop:=At Z 64 zkz (Z8 Z f61.results.toList k) q ρ w
def W1 (d0:V) (name1:V) (w:Y) (k:KV):Prop:=
 pFn Z 74 [d0] w fun v9 w=>
 pC v9 (
 k (.int .i64 50) w)
 (
 pFn Z 99 [name1] w fun v11 w=>
 px Z (Op.unary .not v11) w fun v12 w=>
 pC v12 (
 k (.int .i64 51) w)
 (
 px Z (Zh d0) w fun v14 w=>
 px Z (U 62 v14 2) w fun v15 w=>
 px Z (F 59 v15) w fun v16 w=>
 pFn Z 100 [v16,name1] w fun v18 w=>
 px Z (Zd .geq 3 (.tmp 18) (.const (.int .i64 0)) v18 (.int .i64 0)) w fun v19 w=>
 pC v19 (
 k (.int .i64 52) w)
 (
 pFn Z 111 [d0] w fun v22 w=>
 px Z (extract v22 0) w fun v23 w=>
 px Z (extract v22 1) w fun v24 w=>
 px Z (Zh d0) w fun v26 w=>
 px Z (U 62 v26 2) w fun v27 w=>
 px Z (F 59 v27) w fun v28 w=>
 px Z (bSem .len #[59] 3 #[v28]) w fun v29 w=>
 px Z (Zd .geq 3 (.tmp 29) (.const (.int .i64 256)) v29 (.int .i64 256)) w fun v30 w=>
 pC v30 (
 pFn Z 112 [d0,v24,(.int .i64 56)] w fun v33 w=>
 k v33 w)
 (
 pC v23 (
 pFn Z 112 [d0,v24,(.int .i64 55)] w fun v37 w=>
 k v37 w)
 (
 px Z (Instr.build 156 #[]) w fun v39 w=>
 px Z (Instr.box 156 v39) w fun v40 w=>
 px Z (Instr.build 146 #[(0,(.int .i64 1)),(1,name1),(3,v40)]) w fun v41 w=>
 px Z (Instr.alloc 146 true (.tuple #[])) w fun v7 w=>
 pu Z (Za 146 v7 v41) w fun w=>
 ∃S:Y→Prop,S w.drew∧(fun w=>
 pq Z S (Zh d0) fun v44=>
 pq Z S (U 62 v44 2) fun v45=>
 pq Z S (F 59 v45) fun v46=>
 pq Z S (F 146 v7) fun v47=>
 pFn Z 113 [v46,v47] w fun v48 w=>S w∧(
 pq Z S (Zh d0) fun v49=>
 pq Z S (U 62 v49 2) fun v50=>
 pu Z (Za 59 v50 v48) w fun w=>(
 ∃S:Y→Prop,S w.drew∧(fun w=>
 pq Z S (Zh d0) fun v53=>
 pq Z S (U 62 v53 4) fun v54=>
 pq Z S (F 60 v54) fun v55=>
 pq Z S (F 146 v7) fun v56=>
 px Z (Instr.buildSlice 60 1 #[(0,v56)]) w fun v57 w=>S w∧(
 px Z (bSem .append #[60,60] 60 #[v55,v57]) w fun v58 w=>S w∧(
 pq Z S (Zh d0) fun v59=>
 pq Z S (U 62 v59 4) fun v60=>
 pu Z (Za 60 v60 v58) w fun w=>(
 pFn Z 112 [d0,v24,(.int .i64 0)] w fun v63 w=>
 k v63 w)))) w.drew))) w.drew)))))
theorem Ni (d0:V) (name1:V) (w:Y) (k:KV):zk0 k [] (Zq [d0,name1]) w=W1 d0 name1 w k:=by kernel_rfl
theorem qd (d0:V) (name1:V) (w:Y) (k:KV) (h:W1 d0 name1 w k):pFn Z 61 [d0,name1] w k:=
 Zm mixed func61 (by kernel_rfl) (by kernel_rfl) ntmps61 (by kernel_rfl) (by kernel_rfl) (by simp) ((Ni d0 name1 w k).mpr h)
noncomputable def zk1:Code:=Z1 f64
def zk2 (k:KV) (q:List Nat) (ρ:Env) (w:Y):Prop:=At Z 106 zk1 (Z8 Z f64.results.toList k) q ρ w
def W2 (d0:V) (name1:V) (at2:V) (data3:V) (w:Y) (k:KV):Prop:=
 pFn Z 93 [d0,name1] w fun v19 w=>
 px Z (extract v19 0) w fun v20 w=>
 px Z (extract v19 1) w fun v21 w=>
 px Z (Zd .neq 3 (.tmp 22) (.const (.int .i64 0)) v21 (.int .i64 0)) w fun v23 w=>
 pC v23 (
 k v21 w)
 (
 px Z (Zh d0) w fun v26 w=>
 px Z (U 62 v26 2) w fun v27 w=>
 px Z (F 59 v27) w fun v28 w=>
 px Z (Zb 59 v28 v20) w fun v30 w=>
 px Z (U 144 v30 1) w fun v31 w=>
 px Z (F 142 v31) w fun v32 w=>
 px Z (Zd .lss 3 (.tmp 33) (.const (.int .i64 0)) at2 (.int .i64 0)) w fun v34 w=>
 pG v34 false (fun k=>k at2 w) (w:=w) (next:=fun v36 w=>
 pG v34 false (fun k=>k v32 w) (w:=w) (next:=fun v37 w=>
 pG v34 false (fun k=>px Z (Zh v37) w k) (w:=w) (next:=fun v38 w=>
 pG v34 false (fun k=>px Z (U 156 v38 1) w k) (w:=w) (next:=fun v39 w=>
 pG v34 false (fun k=>px Z (F 36 v39) w k) (w:=w) (next:=fun v40 w=>
 pG v34 false (fun k=>px Z (bSem .len #[36] 3 #[v40]) w k) (w:=w) (next:=fun v41 w=>
 pG v34 false (fun k=>px Z (Zd .gtr 3 (.tmp 36) (.tmp 41) v36 v41) w k) (w:=w) (next:=fun v42 w=>
 px Z (Zs v34 (.bool true) v42) w fun v43 w=>
 pC v43 (
 k (.int .i64 54) w)
 (
 pFn Z 111 [d0] w fun v46 w=>
 px Z (extract v46 0) w fun v47 w=>
 px Z (extract v46 1) w fun v48 w=>
 px Z (bSem .len #[36] 3 #[data3]) w fun v51 w=>
 px Z (Zd .add 3 (.tmp 49) (.tmp 51) at2 v51) w fun v52 w=>
 px Z (Zh v32) w fun v54 w=>
 px Z (U 156 v54 1) w fun v55 w=>
 px Z (F 36 v55) w fun v56 w=>
 px Z (bSem .len #[36] 3 #[v56]) w fun v57 w=>
 px Z (Zd .sub 3 (.tmp 52) (.tmp 57) v52 v57) w fun v58 w=>
 ∃S:Y→Prop,S w.drew∧(fun w=>
 pGq v47 false (fun k=>k v58) (next:=fun v61=>
 pGq v47 false (fun k=>pq Z S (Zd .gtr 3 (.tmp 61) (.const (.int .i64 0)) v61 (.int .i64 0)) k) (next:=fun v62=>
 pGq v47 false (fun k=>k v62) (next:=fun v63=>
 pGq v63 true (fun k=>k d0) (next:=fun v64=>
 pGq v63 true (fun k=>k v58) (next:=fun v66=>
 pGq v63 true (fun k=>k d0) (next:=fun v68=>
 pGq v63 true (fun k=>pq Z S (Zh v68) k) (next:=fun v69=>
 pGq v63 true (fun k=>pq Z S (U 62 v69 1) k) (next:=fun v70=>
 pGq v63 true (fun k=>pq Z S (F 3 v70) k) (next:=fun v71=>
 pG v63 true (fun k=>pFn Z 76 [v64] w k) (w:=w) (next:=fun v65 w=>S w∧(
 pGq v63 true (fun k=>pq Z S (Zd .add 3 (.tmp 65) (.tmp 66) v65 v66) k) (next:=fun v67=>
 pGq v63 true (fun k=>pq Z S (Zd .gtr 3 (.tmp 67) (.tmp 71) v67 v71) k) (next:=fun v72=>
 pGq v47 false (fun k=>pq Z S (Zs v63 v72 (.bool false)) k) (next:=fun v73=>
 pq Z S (Zs v47 (.bool true) v73) fun v74=>
 pC v74 (
 pFn Z 112 [d0,v48,(.int .i64 55)] w fun v77 w=>
 k v77 w)
 (
 pFn Z 94 [data3] w fun v80 w=>
 px Z (Instr.build 186 #[(1,at2),(2,v80)]) w fun v81 w=>
 px Z (Instr.alloc 186 true (.tuple #[])) w fun v15 w=>
 pu Z (Za 186 v15 v81) w fun w=>
 ∃S:Y→Prop,S w.drew∧(fun w=>
 pq Z S (Zh v32) fun v84=>
 pq Z S (U 156 v84 1) fun v85=>
 pq Z S (F 36 v85) fun v86=>
 pq Z S (F 186 v15) fun v87=>
 pq Z S (bSem .len #[36] 3 #[data3]) fun v89=>
 pFn Z 116 [v86,v87,v89] w fun v90 w=>S w∧(
 pq Z S (Zh v32) fun v91=>
 pq Z S (U 156 v91 1) fun v92=>
 pu Z (Za 36 v92 v90) w fun w=>(
 ∃S:Y→Prop,S w.drew∧(fun w=>
 pq Z S (Zh v32) fun v95=>
 pq Z S (U 156 v95 2) fun v96=>
 pq Z S (F 154 v96) fun v97=>
 pq Z S (F 186 v15) fun v98=>
 px Z (Instr.buildSlice 154 1 #[(0,v98)]) w fun v99 w=>S w∧(
 px Z (bSem .append #[154,154] 154 #[v97,v99]) w fun v100 w=>S w∧(
 pq Z S (Zh v32) fun v101=>
 pq Z S (U 156 v101 2) fun v102=>
 pu Z (Za 154 v102 v100) w fun w=>(
 pFn Z 112 [d0,v48,(.int .i64 0)] w fun v105 w=>
 k v105 w)))) w.drew))) w.drew)))))))))))))))) w.drew)))))))))
theorem Nj (d0:V) (name1:V) (at2:V) (data3:V) (w:Y) (k:KV):zk2 k [] (Zq [d0,name1,at2,data3]) w=W2 d0 name1 at2 data3 w k:=by kernel_rfl
theorem qe (d0:V) (name1:V) (at2:V) (data3:V) (w:Y) (k:KV) (h:W2 d0 name1 at2 data3 w k):pFn Z 64 [d0,name1,at2,data3] w k:=
 Zm mixed func64 (by kernel_rfl) (by kernel_rfl) ntmps64 (by kernel_rfl) (by kernel_rfl) (by simp) ((Nj d0 name1 at2 data3 w k).mpr h)
noncomputable def zk3:Code:=Z1 f66
def zk4 (k:KV) (q:List Nat) (ρ:Env) (w:Y):Prop:=At Z 34 zk3 (Z8 Z f66.results.toList k) q ρ w
def W3 (d0:V) (name1:V) (data2:V) (w:Y) (k:KV):Prop:=
 pFn Z 93 [d0,name1] w fun v12 w=>
 px Z (extract v12 0) w fun v13 w=>
 px Z (extract v12 1) w fun v14 w=>
 px Z (Zd .neq 3 (.tmp 15) (.const (.int .i64 0)) v14 (.int .i64 0)) w fun v16 w=>
 pC v16 (
 k v14 w)
 (
 px Z (Zh d0) w fun v21 w=>
 px Z (U 62 v21 2) w fun v22 w=>
 px Z (F 59 v22) w fun v23 w=>
 px Z (Zb 59 v23 v13) w fun v25 w=>
 px Z (U 144 v25 1) w fun v26 w=>
 px Z (F 142 v26) w fun v27 w=>
 px Z (Zh v27) w fun v28 w=>
 px Z (U 156 v28 1) w fun v29 w=>
 px Z (F 36 v29) w fun v30 w=>
 px Z (bSem .len #[36] 3 #[v30]) w fun v31 w=>
 pFn Z 64 [d0,name1,v31,data2] w fun v33 w=>
 k v33 w)
theorem Nk (d0:V) (name1:V) (data2:V) (w:Y) (k:KV):zk4 k [] (Zq [d0,name1,data2]) w=W3 d0 name1 data2 w k:=by kernel_rfl
theorem qf (d0:V) (name1:V) (data2:V) (w:Y) (k:KV) (h:W3 d0 name1 data2 w k):pFn Z 66 [d0,name1,data2] w k:=
 Zm mixed func66 (by kernel_rfl) (by kernel_rfl) ntmps66 (by kernel_rfl) (by kernel_rfl) (by simp) ((Nk d0 name1 data2 w k).mpr h)
noncomputable def zk5:Code:=Z1 f68
def zk6 (k:KV) (q:List Nat) (ρ:Env) (w:Y):Prop:=At Z 70 zk5 (Z8 Z f68.results.toList k) q ρ w
def W4 (d0:V) (name1:V) (n2:V) (w:Y) (k:KV):Prop:=
 pFn Z 93 [d0,name1] w fun v16 w=>
 px Z (extract v16 0) w fun v17 w=>
 px Z (extract v16 1) w fun v18 w=>
 px Z (Zd .neq 3 (.tmp 19) (.const (.int .i64 0)) v18 (.int .i64 0)) w fun v20 w=>
 pC v20 (
 k v18 w)
 (
 px Z (Zh d0) w fun v23 w=>
 px Z (U 62 v23 2) w fun v24 w=>
 px Z (F 59 v24) w fun v25 w=>
 px Z (Zb 59 v25 v17) w fun v27 w=>
 px Z (U 144 v27 1) w fun v28 w=>
 px Z (F 142 v28) w fun v29 w=>
 px Z (Zd .lss 3 (.tmp 30) (.const (.int .i64 0)) n2 (.int .i64 0)) w fun v31 w=>
 pG v31 false (fun k=>k n2 w) (w:=w) (next:=fun v33 w=>
 pG v31 false (fun k=>k v29 w) (w:=w) (next:=fun v34 w=>
 pG v31 false (fun k=>px Z (Zh v34) w k) (w:=w) (next:=fun v35 w=>
 pG v31 false (fun k=>px Z (U 156 v35 1) w k) (w:=w) (next:=fun v36 w=>
 pG v31 false (fun k=>px Z (F 36 v36) w k) (w:=w) (next:=fun v37 w=>
 pG v31 false (fun k=>px Z (bSem .len #[36] 3 #[v37]) w k) (w:=w) (next:=fun v38 w=>
 pG v31 false (fun k=>px Z (Zd .gtr 3 (.tmp 33) (.tmp 38) v33 v38) w k) (w:=w) (next:=fun v39 w=>
 px Z (Zs v31 (.bool true) v39) w fun v40 w=>
 pC v40 (
 k (.int .i64 54) w)
 (
 pFn Z 111 [d0] w fun v43 w=>
 px Z (extract v43 0) w fun v44 w=>
 px Z (extract v43 1) w fun v45 w=>
 px Z (Instr.build 186 #[(0,(.bool true)),(1,n2)]) w fun v47 w=>
 px Z (Instr.alloc 186 true (.tuple #[])) w fun v12 w=>
 pu Z (Za 186 v12 v47) w fun w=>
 ∃S:Y→Prop,S w.drew∧(fun w=>
 pq Z S (Zh v29) fun v50=>
 pq Z S (U 156 v50 1) fun v51=>
 pq Z S (F 36 v51) fun v52=>
 pq Z S (F 186 v12) fun v53=>
 pFn Z 116 [v52,v53,(.int .i64 1)] w fun v54 w=>S w∧(
 pq Z S (Zh v29) fun v55=>
 pq Z S (U 156 v55 1) fun v56=>
 pu Z (Za 36 v56 v54) w fun w=>(
 ∃S:Y→Prop,S w.drew∧(fun w=>
 pq Z S (Zh v29) fun v59=>
 pq Z S (U 156 v59 2) fun v60=>
 pq Z S (F 154 v60) fun v61=>
 pq Z S (F 186 v12) fun v62=>
 px Z (Instr.buildSlice 154 1 #[(0,v62)]) w fun v63 w=>S w∧(
 px Z (bSem .append #[154,154] 154 #[v61,v63]) w fun v64 w=>S w∧(
 pq Z S (Zh v29) fun v65=>
 pq Z S (U 156 v65 2) fun v66=>
 pu Z (Za 154 v66 v64) w fun w=>(
 pFn Z 112 [d0,v45,(.int .i64 0)] w fun v69 w=>
 k v69 w)))) w.drew))) w.drew)))))))))
theorem Nl (d0:V) (name1:V) (n2:V) (w:Y) (k:KV):zk6 k [] (Zq [d0,name1,n2]) w=W4 d0 name1 n2 w k:=by kernel_rfl
theorem qg (d0:V) (name1:V) (n2:V) (w:Y) (k:KV) (h:W4 d0 name1 n2 w k):pFn Z 68 [d0,name1,n2] w k:=
 Zm mixed func68 (by kernel_rfl) (by kernel_rfl) ntmps68 (by kernel_rfl) (by kernel_rfl) (by simp) ((Nl d0 name1 n2 w k).mpr h)
noncomputable def zk7:Code:=Z1 f69
def zcg (k:KV) (q:List Nat) (ρ:Env) (w:Y):Prop:=At Z 60 zk7 (Z8 Z f69.results.toList k) q ρ w
def W5 (d0:V) (from1:V) (to2:V) (w:Y) (k:KV):Prop:=
 pFn Z 74 [d0] w fun v11 w=>
 pC v11 (
 k (.int .i64 50) w)
 (
 pFn Z 99 [from1] w fun v13 w=>
 px Z (Op.unary .not v13) w fun v14 w=>
 pG v14 false (fun k=>k to2 w) (w:=w) (next:=fun v16 w=>
 pG v14 false (fun k=>pFn Z 99 [v16] w k) (w:=w) (next:=fun v17 w=>
 pG v14 false (fun k=>px Z (Op.unary .not v17) w k) (w:=w) (next:=fun v18 w=>
 px Z (Zs v14 (.bool true) v18) w fun v19 w=>
 pC v19 (
 k (.int .i64 51) w)
 (
 px Z (Zh d0) w fun v21 w=>
 px Z (U 62 v21 2) w fun v22 w=>
 px Z (F 59 v22) w fun v23 w=>
 pFn Z 100 [v23,from1] w fun v25 w=>
 px Z (Zd .lss 3 (.tmp 25) (.const (.int .i64 0)) v25 (.int .i64 0)) w fun v26 w=>
 pC v26 (
 k (.int .i64 53) w)
 (
 pFn Z 111 [d0] w fun v29 w=>
 px Z (extract v29 0) w fun v30 w=>
 px Z (extract v29 1) w fun v31 w=>
 px Z (Zd .neq 9 (.tmp 32) (.tmp 33) from1 to2) w fun v34 w=>
 pC v34 (
 px Z (Instr.build 146 #[(0,(.int .i64 2)),(1,from1),(2,to2)]) w fun v37 w=>
 px Z (Instr.alloc 146 true (.tuple #[])) w fun v9 w=>
 pu Z (Za 146 v9 v37) w fun w=>
 ∃S:Y→Prop,S w.drew∧(fun w=>
 pq Z S (Zh d0) fun v40=>
 pq Z S (U 62 v40 2) fun v41=>
 pq Z S (F 59 v41) fun v42=>
 pq Z S (F 146 v9) fun v43=>
 pFn Z 113 [v42,v43] w fun v44 w=>S w∧(
 pq Z S (Zh d0) fun v45=>
 pq Z S (U 62 v45 2) fun v46=>
 pu Z (Za 59 v46 v44) w fun w=>(
 ∃S:Y→Prop,S w.drew∧(fun w=>
 pq Z S (Zh d0) fun v49=>
 pq Z S (U 62 v49 4) fun v50=>
 pq Z S (F 60 v50) fun v51=>
 pq Z S (F 146 v9) fun v52=>
 px Z (Instr.buildSlice 60 1 #[(0,v52)]) w fun v53 w=>S w∧(
 px Z (bSem .append #[60,60] 60 #[v51,v53]) w fun v54 w=>S w∧(
 pq Z S (Zh d0) fun v55=>
 pq Z S (U 62 v55 4) fun v56=>
 pu Z (Za 60 v56 v54) w fun w=>(
 zcg k [1,1,1,1,1,1] (put (put (put (put (put (put (put (put (put (put (put (put (put (put (put (put (put (put (put (put (put (put (put (put (put (put (put (put (put (put (put (put (put (put (put (put (put (put (put (put (put (put (put (put (put (put (put (put (put (put (put (Zq [d0,from1,to2]) 6 (.int .i64 0)) 10 d0) 11 v11) 12 from1) 13 v13) 14 v14) 15 v14) 16 v16) 17 v17) 18 v18) 19 v19) 20 d0) 21 v21) 22 v22) 23 v23) 24 from1) 25 v25) 26 v26) 28 d0) 29 v29) 27 v29) 30 v30) 31 v31) 7 v30) 8 v31) 32 from1) 33 to2) 34 v34) 35 from1) 36 to2) 37 v37) 9 v9) 38 d0) 39 d0) 40 v40) 41 v41) 42 v42) 43 v43) 44 v44) 45 v45) 46 v46) 47 d0) 48 d0) 49 v49) 50 v50) 51 v51) 52 v52) 53 v53) 54 v54) 55 v55) 56 v56) w)))) w.drew))) w.drew)
 (
 zcg k [1,1,1,1,1,1] (put (put (put (put (put (put (put (put (put (put (put (put (put (put (put (put (put (put (put (put (put (put (put (put (put (put (put (put (Zq [d0,from1,to2]) 6 (.int .i64 0)) 10 d0) 11 v11) 12 from1) 13 v13) 14 v14) 15 v14) 16 v16) 17 v17) 18 v18) 19 v19) 20 d0) 21 v21) 22 v22) 23 v23) 24 from1) 25 v25) 26 v26) 28 d0) 29 v29) 27 v29) 30 v30) 31 v31) 7 v30) 8 v31) 32 from1) 33 to2) 34 v34) w)))))))
theorem Nm (d0:V) (from1:V) (to2:V) (w:Y) (k:KV):zcg k [] (Zq [d0,from1,to2]) w=W5 d0 from1 to2 w k:=by kernel_rfl
def W6 (k:KV) (ρ:Env) (w:Y):Prop:=
 pFn Z 112 [(ρ 0),(ρ 8),(.int .i64 0)] w fun v59 w=>
 k v59 w
theorem CS (k:KV) (ρ:Env) (w:Y):zcg k [1,1,1,1,1,1] ρ w=W6 k ρ w:=by kernel_rfl
theorem qh (d0:V) (from1:V) (to2:V) (w:Y) (k:KV) (h:W5 d0 from1 to2 w k):pFn Z 69 [d0,from1,to2] w k:=
 Zm mixed func69 (by kernel_rfl) (by kernel_rfl) ntmps69 (by kernel_rfl) (by kernel_rfl) (by simp) ((Nm d0 from1 to2 w k).mpr h)
noncomputable def zk8:Code:=Z1 f70
def zk9 (k:KV) (q:List Nat) (ρ:Env) (w:Y):Prop:=At Z 48 zk8 (Z8 Z f70.results.toList k) q ρ w
def W7 (d0:V) (name1:V) (w:Y) (k:KV):Prop:=
 pFn Z 93 [d0,name1] w fun v13 w=>
 px Z (extract v13 0) w fun v14 w=>
 px Z (extract v13 1) w fun v15 w=>
 px Z (Zd .neq 3 (.tmp 16) (.const (.int .i64 0)) v15 (.int .i64 0)) w fun v17 w=>
 pC v17 (
 k v15 w)
 (
 pFn Z 111 [d0] w fun v21 w=>
 px Z (extract v21 0) w fun v22 w=>
 px Z (extract v21 1) w fun v23 w=>
 px Z (Instr.build 146 #[(0,(.int .i64 3)),(1,name1)]) w fun v25 w=>
 px Z (Instr.alloc 146 true (.tuple #[])) w fun v9 w=>
 pu Z (Za 146 v9 v25) w fun w=>
 ∃S:Y→Prop,S w.drew∧(fun w=>
 pq Z S (Zh d0) fun v28=>
 pq Z S (U 62 v28 2) fun v29=>
 pq Z S (F 59 v29) fun v30=>
 pq Z S (F 146 v9) fun v31=>
 pFn Z 113 [v30,v31] w fun v32 w=>S w∧(
 pq Z S (Zh d0) fun v33=>
 pq Z S (U 62 v33 2) fun v34=>
 pu Z (Za 59 v34 v32) w fun w=>(
 ∃S:Y→Prop,S w.drew∧(fun w=>
 pq Z S (Zh d0) fun v37=>
 pq Z S (U 62 v37 4) fun v38=>
 pq Z S (F 60 v38) fun v39=>
 pq Z S (F 146 v9) fun v40=>
 px Z (Instr.buildSlice 60 1 #[(0,v40)]) w fun v41 w=>S w∧(
 px Z (bSem .append #[60,60] 60 #[v39,v41]) w fun v42 w=>S w∧(
 pq Z S (Zh d0) fun v43=>
 pq Z S (U 62 v43 4) fun v44=>
 pu Z (Za 60 v44 v42) w fun w=>(
 pFn Z 112 [d0,v23,(.int .i64 0)] w fun v47 w=>
 k v47 w)))) w.drew))) w.drew)
theorem Nn (d0:V) (name1:V) (w:Y) (k:KV):zk9 k [] (Zq [d0,name1]) w=W7 d0 name1 w k:=by kernel_rfl
theorem qi (d0:V) (name1:V) (w:Y) (k:KV) (h:W7 d0 name1 w k):pFn Z 70 [d0,name1] w k:=
 Zm mixed func70 (by kernel_rfl) (by kernel_rfl) ntmps70 (by kernel_rfl) (by kernel_rfl) (by simp) ((Nn d0 name1 w k).mpr h)
noncomputable def zla:Code:=Z1 f71
def zch (k:KV) (q:List Nat) (ρ:Env) (w:Y):Prop:=At Z 48 zla (Z8 Z f71.results.toList k) q ρ w
def W8 (d0:V) (name1:V) (w:Y) (k:KV):Prop:=
 pFn Z 93 [d0,name1] w fun v13 w=>
 px Z (extract v13 0) w fun v14 w=>
 px Z (extract v13 1) w fun v15 w=>
 px Z (Zd .neq 3 (.tmp 16) (.const (.int .i64 0)) v15 (.int .i64 0)) w fun v17 w=>
 pC v17 (
 k v15 w)
 (
 pFn Z 111 [d0] w fun v21 w=>
 px Z (extract v21 0) w fun v22 w=>
 px Z (extract v21 1) w fun v23 w=>
 px Z (Op.unary .not v23) w fun v25 w=>
 pC v25 (
 px Z (Zh d0) w fun v27 w=>
 px Z (U 62 v27 2) w fun v28 w=>
 px Z (F 59 v28) w fun v29 w=>
 px Z (Zb 59 v29 v14) w fun v31 w=>
 px Z (U 144 v31 1) w fun v32 w=>
 px Z (F 142 v32) w fun v33 w=>
 px Z (Zh v33) w fun v36 w=>
 px Z (U 156 v36 1) w fun v37 w=>
 px Z (F 36 v37) w fun v38 w=>
 pFn Z 94 [v38] w fun v39 w=>
 px Z (Zh v33) w fun v40 w=>
 px Z (U 156 v40 0) w fun v41 w=>
 pu Z (Za 36 v41 v39) w fun w=>
 px Z (Zh v33) w fun v43 w=>
 px Z (U 156 v43 2) w fun v44 w=>
 pu Z (Za 154 v44 (.slice none 0 0)) w fun w=>
 zch k [1,1,1,1,1] (put (put (put (put (put (put (put (put (put (put (put (put (put (put (put (put (put (put (put (put (put (put (put (put (put (put (put (put (put (put (put (put (put (put (put (put (put (put (put (put (Zq [d0,name1]) 4 (.int .i64 0)) 11 d0) 12 name1) 13 v13) 10 v13) 14 v14) 15 v15) 5 v14) 6 v15) 16 v15) 17 v17) 20 d0) 21 v21) 19 v21) 22 v22) 23 v23) 7 v22) 8 v23) 24 v23) 25 v25) 26 d0) 27 v27) 28 v28) 29 v29) 30 v14) 31 v31) 32 v32) 33 v33) 9 v33) 34 v33) 35 v33) 36 v36) 37 v37) 38 v38) 39 v39) 40 v40) 41 v41) 42 v33) 43 v43) 44 v44) w)
 (
 zch k [1,1,1,1,1] (put (put (put (put (put (put (put (put (put (put (put (put (put (put (put (put (put (put (put (put (Zq [d0,name1]) 4 (.int .i64 0)) 11 d0) 12 name1) 13 v13) 10 v13) 14 v14) 15 v15) 5 v14) 6 v15) 16 v15) 17 v17) 20 d0) 21 v21) 19 v21) 22 v22) 23 v23) 7 v22) 8 v23) 24 v23) 25 v25) w))
theorem No (d0:V) (name1:V) (w:Y) (k:KV):zch k [] (Zq [d0,name1]) w=W8 d0 name1 w k:=by kernel_rfl
def W9 (k:KV) (ρ:Env) (w:Y):Prop:=
 pFn Z 112 [(ρ 0),(ρ 8),(.int .i64 0)] w fun v47 w=>
 k v47 w
theorem CT (k:KV) (ρ:Env) (w:Y):zch k [1,1,1,1,1] ρ w=W9 k ρ w:=by kernel_rfl
theorem qj (d0:V) (name1:V) (w:Y) (k:KV) (h:W8 d0 name1 w k):pFn Z 71 [d0,name1] w k:=
 Zm mixed func71 (by kernel_rfl) (by kernel_rfl) ntmps71 (by kernel_rfl) (by kernel_rfl) (by simp) ((No d0 name1 w k).mpr h)
noncomputable def zlb:Code:=Z1 f72
def zci (k:KV) (q:List Nat) (ρ:Env) (w:Y):Prop:=At Z 27 zlb (Z8 Z f72.results.toList k) q ρ w
def WA (d0:V) (w:Y) (k:KV):Prop:=
 pFn Z 74 [d0] w fun v6 w=>
 pC v6 (
 k (.int .i64 50) w)
 (
 pFn Z 111 [d0] w fun v9 w=>
 px Z (extract v9 0) w fun v10 w=>
 px Z (extract v9 1) w fun v11 w=>
 px Z (Op.unary .not v11) w fun v13 w=>
 pC v13 (
 px Z (Zh d0) w fun v16 w=>
 px Z (U 62 v16 2) w fun v17 w=>
 px Z (F 59 v17) w fun v18 w=>
 px Z (Zh d0) w fun v19 w=>
 px Z (U 62 v19 3) w fun v20 w=>
 pu Z (Za 59 v20 v18) w fun w=>
 px Z (Zh d0) w fun v22 w=>
 px Z (U 62 v22 4) w fun v23 w=>
 pu Z (Za 60 v23 (.slice none 0 0)) w fun w=>
 zci k [1,1,1,1] (put (put (put (put (put (put (put (put (put (put (put (put (put (put (put (put (put (put (put (put (put (put (Zq [d0]) 2 (.int .i64 0)) 5 d0) 6 v6) 8 d0) 9 v9) 7 v9) 10 v10) 11 v11) 3 v10) 4 v11) 12 v11) 13 v13) 14 d0) 15 d0) 16 v16) 17 v17) 18 v18) 19 v19) 20 v20) 21 d0) 22 v22) 23 v23) w)
 (
 zci k [1,1,1,1] (put (put (put (put (put (put (put (put (put (put (put (put (Zq [d0]) 2 (.int .i64 0)) 5 d0) 6 v6) 8 d0) 9 v9) 7 v9) 10 v10) 11 v11) 3 v10) 4 v11) 12 v11) 13 v13) w))
theorem Np (d0:V) (w:Y) (k:KV):zci k [] (Zq [d0]) w=WA d0 w k:=by kernel_rfl
def WB (k:KV) (ρ:Env) (w:Y):Prop:=
 pFn Z 112 [(ρ 0),(ρ 4),(.int .i64 0)] w fun v26 w=>
 k v26 w
theorem CU (k:KV) (ρ:Env) (w:Y):zci k [1,1,1,1] ρ w=WB k ρ w:=by kernel_rfl
theorem qk (d0:V) (w:Y) (k:KV) (h:WA d0 w k):pFn Z 72 [d0] w k:=
 Zm mixed func72 (by kernel_rfl) (by kernel_rfl) ntmps72 (by kernel_rfl) (by kernel_rfl) (by simp) ((Np d0 w k).mpr h)
noncomputable def zlc:Code:=Z1 f74
def zld (k:KV) (q:List Nat) (ρ:Env) (w:Y):Prop:=At Z 12 zlc (Z8 Z f74.results.toList k) q ρ w
def WC (d0:V) (w:Y) (k:KV):Prop:=
 px Z (Zd .eql 30 (.tmp 3) (.const (.pointer none)) d0 (.pointer none)) w fun v4 w=>
 pG v4 false (fun k=>k d0 w) (w:=w) (next:=fun v6 w=>
 pG v4 false (fun k=>px Z (Zh v6) w k) (w:=w) (next:=fun v7 w=>
 pG v4 false (fun k=>px Z (U 62 v7 0) w k) (w:=w) (next:=fun v8 w=>
 pG v4 false (fun k=>px Z (F 4 v8) w k) (w:=w) (next:=fun v9 w=>
 pG v4 false (fun k=>px Z (Op.unary .not v9) w k) (w:=w) (next:=fun v10 w=>
 px Z (Zs v4 (.bool true) v10) w fun v11 w=>
 k v11 w)))))
theorem Nq (d0:V) (w:Y) (k:KV):zld k [] (Zq [d0]) w=WC d0 w k:=by kernel_rfl
theorem ql (d0:V) (w:Y) (k:KV) (h:WC d0 w k):pFn Z 74 [d0] w k:=
 Zm mixed func74 (by kernel_rfl) (by kernel_rfl) ntmps74 (by kernel_rfl) (by kernel_rfl) (by simp) ((Nq d0 w k).mpr h)
noncomputable def zle:Code:=Z1 f75
def zlf (k:KV) (q:List Nat) (ρ:Env) (w:Y):Prop:=At Z 9 zle (Z8 Z f75.results.toList k) q ρ w
def WD (d0:V) (w:Y) (k:KV):Prop:=
 px Z (Zd .eql 30 (.tmp 3) (.const (.pointer none)) d0 (.pointer none)) w fun v4 w=>
 pC v4 (
 k (.int .i64 0) w)
 (
 px Z (Zh d0) w fun v6 w=>
 px Z (U 62 v6 5) w fun v7 w=>
 px Z (F 3 v7) w fun v8 w=>
 k v8 w)
theorem Nr (d0:V) (w:Y) (k:KV):zlf k [] (Zq [d0]) w=WD d0 w k:=by kernel_rfl
theorem qm (d0:V) (w:Y) (k:KV) (h:WD d0 w k):pFn Z 75 [d0] w k:=
 Zm mixed func75 (by kernel_rfl) (by kernel_rfl) ntmps75 (by kernel_rfl) (by kernel_rfl) (by simp) ((Nr d0 w k).mpr h)
noncomputable def qn:Code:=Z1 f76
def zd2 (k:KV) (q:List Nat) (ρ:Env) (w:Y):Prop:=At Z 31 qn (Z8 Z f76.results.toList k) q ρ w
noncomputable def zd3:Code:=sub qn [1,1,1,0,1,0,0]
def zd4 (k:KV) (N1:KE):Xt→KE:=ZX N1 (ZJ Z 31 qn (Z8 Z f76.results.toList k) [1,1,1,0,1,0])
def qo (k:KV) (N1:KE) (q:List Nat) (ρ:Env) (w:Y):Prop:=At Z 31 zd3 (zd4 k N1) q ρ w
def qp (k:KV) (ρ:Env) (w:Y):Prop:=ZN Z 31 qn (Z8 Z f76.results.toList k) [1,1,1,0,1,0] ρ w
theorem F0 (k:KV) (I:Nat→KE) (round:∀m ρ w,I m ρ w→qo k (fun ρ' w'=>∃m',m'<m∧I m' ρ' w') [] ρ w) {m:Nat} {ρ:Env} {w:Y} (h:I m ρ w):qp k ρ w:=
 Zw mixed (B:=qn) (Q:=(Z8 Z f76.results.toList k)) (p:=[1,1,1,0,1,0]) (by kernel_rfl) (by kernel_rfl) I round h
def WE (d0:V) (w:Y) (k:KV):Prop:=
 px Z (Zd .eql 30 (.tmp 5) (.const (.pointer none)) d0 (.pointer none)) w fun v6 w=>
 pC v6 (
 k (.int .i64 0) w)
 (
 qp k (put (put (put (put (put (Zq [d0]) 2 (.int .i64 0)) 5 d0) 6 v6) 3 (.int .i64 0)) 4 (.int .i64 0)) w)
theorem Ns (d0:V) (w:Y) (k:KV):zd2 k [] (Zq [d0]) w=WE d0 w k:=by kernel_rfl
def qq (k:KV) (N1:KE) (ρ:Env) (w:Y):Prop:=
 px Z (Zh (ρ 0)) w fun v9 w=>
 px Z (U 62 v9 2) w fun v10 w=>
 px Z (F 59 v10) w fun v11 w=>
 px Z (bSem .len #[59] 3 #[v11]) w fun v12 w=>
 px Z (Zd .lss 3 (.tmp 7) (.tmp 12) (ρ 4) v12) w fun v13 w=>
 pC v13 (
 px Z (Zh (ρ 0)) w fun v18 w=>
 px Z (U 62 v18 2) w fun v19 w=>
 px Z (F 59 v19) w fun v20 w=>
 px Z (Zb 59 v20 (ρ 4)) w fun v22 w=>
 px Z (U 144 v22 1) w fun v23 w=>
 px Z (F 142 v23) w fun v24 w=>
 px Z (Zh v24) w fun v25 w=>
 px Z (U 156 v25 1) w fun v26 w=>
 px Z (F 36 v26) w fun v27 w=>
 px Z (bSem .len #[36] 3 #[v27]) w fun v28 w=>
 px Z (Zd .add 3 (.tmp 16) (.tmp 28) (ρ 3) v28) w fun v29 w=>
 px Z (Zd .add 3 (.tmp 14) (.const (.int .i64 1)) (ρ 4) (.int .i64 1)) w fun v15 w=>
 N1 (put (put (put (put (put (put (put (put (put (put (put (put (put (put (put (put (put (put (put (put (put (put (put (put (put ρ 7 (ρ 4)) 8 (ρ 0)) 9 v9) 10 v10) 11 v11) 12 v12) 13 v13) 16 (ρ 3)) 17 (ρ 0)) 18 v18) 19 v19) 20 v20) 21 (ρ 4)) 22 v22) 23 v23) 24 v24) 25 v25) 26 v26) 27 v27) 28 v28) 29 v29) 3 v29) 14 (ρ 4)) 15 v15) 4 v15) w)
 (
 zd2 k [1,1,1,1] (put (put (put (put (put (put (put ρ 7 (ρ 4)) 8 (ρ 0)) 9 v9) 10 v10) 11 v11) 12 v12) 13 v13) w)
theorem Nt (k:KV) (N1:KE) (ρ:Env) (w:Y):qo k N1 [] ρ w=qq k N1 ρ w:=by kernel_rfl
def qt (k:KV) (ρ:Env) (w:Y):Prop:=
 k (ρ 3) w
theorem Nu (k:KV) (ρ:Env) (w:Y):zd2 k [1,1,1,1] ρ w=qt k ρ w:=by kernel_rfl
theorem qu (d0:V) (w:Y) (k:KV) (h:WE d0 w k):pFn Z 76 [d0] w k:=
 Zm mixed func76 (by kernel_rfl) (by kernel_rfl) ntmps76 (by kernel_rfl) (by kernel_rfl) (by simp) ((Ns d0 w k).mpr h)
noncomputable def zlg:Code:=Z1 f77
def zlh (k:KV) (q:List Nat) (ρ:Env) (w:Y):Prop:=At Z 9 zlg (Z8 Z f77.results.toList k) q ρ w
def WG (d0:V) (w:Y) (k:KV):Prop:=
 px Z (Zd .eql 30 (.tmp 3) (.const (.pointer none)) d0 (.pointer none)) w fun v4 w=>
 pC v4 (
 k (.int .i64 0) w)
 (
 px Z (Zh d0) w fun v6 w=>
 px Z (U 62 v6 1) w fun v7 w=>
 px Z (F 3 v7) w fun v8 w=>
 k v8 w)
theorem Nv (d0:V) (w:Y) (k:KV):zlh k [] (Zq [d0]) w=WG d0 w k:=by kernel_rfl
theorem qv (d0:V) (w:Y) (k:KV) (h:WG d0 w k):pFn Z 77 [d0] w k:=
 Zm mixed func77 (by kernel_rfl) (by kernel_rfl) ntmps77 (by kernel_rfl) (by kernel_rfl) (by simp) ((Nv d0 w k).mpr h)
noncomputable def qw:Code:=Z1 f86
def zd5 (k:KV) (q:List Nat) (ρ:Env) (w:Y):Prop:=At Z 72 qw (Z8 Z f86.results.toList k) q ρ w
noncomputable def zd6:Code:=sub qw [1,1,1,0,1,0,0]
def zd7 (k:KV) (N1:KE):Xt→KE:=ZX N1 (ZJ Z 72 qw (Z8 Z f86.results.toList k) [1,1,1,0,1,0])
def qx (k:KV) (N1:KE) (q:List Nat) (ρ:Env) (w:Y):Prop:=At Z 72 zd6 (zd7 k N1) q ρ w
def qy (k:KV) (ρ:Env) (w:Y):Prop:=ZN Z 72 qw (Z8 Z f86.results.toList k) [1,1,1,0,1,0] ρ w
theorem F1 (k:KV) (I:Nat→KE) (round:∀m ρ w,I m ρ w→qx k (fun ρ' w'=>∃m',m'<m∧I m' ρ' w') [] ρ w) {m:Nat} {ρ:Env} {w:Y} (h:I m ρ w):qy k ρ w:=
 Zw mixed (B:=qw) (Q:=(Z8 Z f86.results.toList k)) (p:=[1,1,1,0,1,0]) (by kernel_rfl) (by kernel_rfl) I round h
def F2 (old0:V) (made1:V) (t2:V) (w:Y) (k:KV):Prop:=
 px Z (Zd .eql 142 (.tmp 11) (.const (.pointer none)) t2 (.pointer none)) w fun v12 w=>
 pG v12 false (fun k=>k old0 w) (w:=w) (next:=fun v14 w=>
 pG v12 false (fun k=>k made1 w) (w:=w) (next:=fun v15 w=>
 pG v12 false (fun k=>k t2 w) (w:=w) (next:=fun v16 w=>
 pG v12 false (fun k=>pFn Z 87 [v14,v15,v16] w k) (w:=w) (next:=fun v17 w=>
 pG v12 false (fun k=>px Z (Zd .neq 142 (.tmp 17) (.const (.pointer none)) v17 (.pointer none)) w k) (w:=w) (next:=fun v18 w=>
 px Z (Zs v12 (.bool true) v18) w fun v19 w=>
 pC v19 (
 k (.tuple #[old0,made1]) w)
 (
 ∃S:Y→Prop,S w.drew∧(fun w=>
 pq Z S (Zh t2) fun v23=>
 pq Z S (U 156 v23 0) fun v24=>
 pq Z S (F 36 v24) fun v25=>
 pq Z S (Zh t2) fun v28=>
 pq Z S (U 156 v28 1) fun v29=>
 pq Z S (F 36 v29) fun v30=>
 pFn Z 94 [v25] w fun v26 w=>S w∧(
 pFn Z 94 [v30] w fun v31 w=>S w∧(
 pq Z S (Instr.build 156 #[(0,v26),(1,v31)]) fun v32=>
 px Z (Instr.box 156 v32) w fun v33 w=>S w∧(
 qy k (put (put (put (put (put (put (put (put (put (put (put (put (put (put (put (put (put (put (put (put (put (put (put (put (put (Zq [old0,made1,t2]) 6 (.slice none 0 0)) 7 (.slice none 0 0)) 11 t2) 12 v12) 13 v12) 14 v14) 15 v15) 16 v16) 17 v17) 18 v18) 19 v19) 22 t2) 23 v23) 24 v24) 25 v25) 27 t2) 28 v28) 29 v29) 30 v30) 26 v26) 31 v31) 32 v32) 33 v33) 8 v33) 9 (.int .i64 0)) w)))) w.drew))))))
theorem Nw (old0:V) (made1:V) (t2:V) (w:Y) (k:KV):zd5 k [] (Zq [old0,made1,t2]) w=F2 old0 made1 t2 w k:=by kernel_rfl
def qz (k:KV) (N1:KE) (ρ:Env) (w:Y):Prop:=
 px Z (Zh (ρ 2)) w fun v36 w=>
 px Z (U 156 v36 2) w fun v37 w=>
 px Z (F 154 v37) w fun v38 w=>
 px Z (bSem .len #[154] 3 #[v38]) w fun v39 w=>
 px Z (Zd .lss 3 (.tmp 34) (.tmp 39) (ρ 9) v39) w fun v40 w=>
 pC v40 (
 px Z (Zh (ρ 2)) w fun v44 w=>
 px Z (U 156 v44 2) w fun v45 w=>
 px Z (F 154 v45) w fun v46 w=>
 px Z (Zb 154 v46 (ρ 9)) w fun v48 w=>
 px Z (F 186 v48) w fun v49 w=>
 px Z (Instr.alloc 186 true (.tuple #[])) w fun v10 w=>
 pu Z (Za 186 v10 v49) w fun w=>
 px Z (U 186 v10 2) w fun v50 w=>
 px Z (F 36 v50) w fun v51 w=>
 pFn Z 94 [v51] w fun v52 w=>
 px Z (U 186 v10 2) w fun v53 w=>
 pu Z (Za 36 v53 v52) w fun w=>
 ∃S:Y→Prop,S w.drew∧(fun w=>
 pq Z S (Zh (ρ 8)) fun v56=>
 pq Z S (U 156 v56 2) fun v57=>
 pq Z S (F 154 v57) fun v58=>
 pq Z S (F 186 v10) fun v59=>
 px Z (Instr.buildSlice 154 1 #[(0,v59)]) w fun v60 w=>S w∧(
 px Z (bSem .append #[154,154] 154 #[v58,v60]) w fun v61 w=>S w∧(
 pq Z S (Zh (ρ 8)) fun v62=>
 pq Z S (U 156 v62 2) fun v63=>
 pu Z (Za 154 v63 v61) w fun w=>(
 px Z (Zd .add 3 (.tmp 41) (.const (.int .i64 1)) (ρ 9) (.int .i64 1)) w fun v42 w=>
 N1 (put (put (put (put (put (put (put (put (put (put (put (put (put (put (put (put (put (put (put (put (put (put (put (put (put (put (put (put (put (put (put (put ρ 34 (ρ 9)) 35 (ρ 2)) 36 v36) 37 v37) 38 v38) 39 v39) 40 v40) 43 (ρ 2)) 44 v44) 45 v45) 46 v46) 47 (ρ 9)) 48 v48) 49 v49) 10 v10) 50 v50) 51 v51) 52 v52) 53 v53) 54 (ρ 8)) 55 (ρ 8)) 56 v56) 57 v57) 58 v58) 59 v59) 60 v60) 61 v61) 62 v62) 63 v63) 41 (ρ 9)) 42 v42) 9 v42) w)))) w.drew)
 (
 zd5 k [1,1,1,1] (put (put (put (put (put (put (put ρ 34 (ρ 9)) 35 (ρ 2)) 36 v36) 37 v37) 38 v38) 39 v39) 40 v40) w)
theorem Ny (k:KV) (N1:KE) (ρ:Env) (w:Y):qx k N1 [] ρ w=qz k N1 ρ w:=by kernel_rfl
def WH (k:KV) (ρ:Env) (w:Y):Prop:=
 px Z (Instr.buildSlice 139 1 #[(0,(ρ 2))]) w fun v66 w=>
 px Z (bSem .append #[139,139] 139 #[(ρ 0),v66]) w fun v67 w=>
 px Z (Instr.buildSlice 139 1 #[(0,(ρ 8))]) w fun v70 w=>
 px Z (bSem .append #[139,139] 139 #[(ρ 1),v70]) w fun v71 w=>
 k (.tuple #[v67,v71]) w
theorem Nz (k:KV) (ρ:Env) (w:Y):zd5 k [1,1,1,1] ρ w=WH k ρ w:=by kernel_rfl
theorem F3 (old0:V) (made1:V) (t2:V) (w:Y) (k:KV) (h:F2 old0 made1 t2 w k):pFn Z 86 [old0,made1,t2] w k:=
 Zm mixed func86 (by kernel_rfl) (by kernel_rfl) ntmps86 (by kernel_rfl) (by kernel_rfl) (by simp) ((Nw old0 made1 t2 w k).mpr h)
noncomputable def qA:Code:=Z1 f87
def zd8 (k:KV) (q:List Nat) (ρ:Env) (w:Y):Prop:=At Z 24 qA (Z8 Z f87.results.toList k) q ρ w
noncomputable def zd9:Code:=sub qA [1,0,1,0,0]
def zea (k:KV) (N1:KE):Xt→KE:=ZX N1 (ZJ Z 24 qA (Z8 Z f87.results.toList k) [1,0,1,0])
def qB (k:KV) (N1:KE) (q:List Nat) (ρ:Env) (w:Y):Prop:=At Z 24 zd9 (zea k N1) q ρ w
def qC (k:KV) (ρ:Env) (w:Y):Prop:=ZN Z 24 qA (Z8 Z f87.results.toList k) [1,0,1,0] ρ w
theorem Bg (k:KV) (I:Nat→KE) (round:∀m ρ w,I m ρ w→qB k (fun ρ' w'=>∃m',m'<m∧I m' ρ' w') [] ρ w) {m:Nat} {ρ:Env} {w:Y} (h:I m ρ w):qC k ρ w:=
 Zw mixed (B:=qA) (Q:=(Z8 Z f87.results.toList k)) (p:=[1,0,1,0]) (by kernel_rfl) (by kernel_rfl) I round h
def N0 (old0:V) (made1:V) (t2:V) (w:Y) (k:KV):Prop:=
 qC k (put (put (Zq [old0,made1,t2]) 6 (.pointer none)) 7 (.int .i64 0)) w
theorem N9 (old0:V) (made1:V) (t2:V) (w:Y) (k:KV):zd8 k [] (Zq [old0,made1,t2]) w=N0 old0 made1 t2 w k:=by kernel_rfl
def WI (k:KV) (N1:KE) (ρ:Env) (w:Y):Prop:=
 px Z (bSem .len #[139] 3 #[(ρ 0)]) w fun v10 w=>
 px Z (Zd .lss 3 (.tmp 8) (.tmp 10) (ρ 7) v10) w fun v11 w=>
 pC v11 (
 px Z (Zb 139 (ρ 0) (ρ 7)) w fun v16 w=>
 px Z (F 142 v16) w fun v17 w=>
 px Z (Zd .eql 142 (.tmp 17) (.tmp 18) v17 (ρ 2)) w fun v19 w=>
 pC v19 (
 px Z (Zb 139 (ρ 1) (ρ 7)) w fun v22 w=>
 px Z (F 142 v22) w fun v23 w=>
 k v23 w)
 (
 px Z (Zd .add 3 (.tmp 12) (.const (.int .i64 1)) (ρ 7) (.int .i64 1)) w fun v13 w=>
 N1 (put (put (put (put (put (put (put (put (put (put (put (put (put ρ 8 (ρ 7)) 9 (ρ 0)) 10 v10) 11 v11) 14 (ρ 0)) 15 (ρ 7)) 16 v16) 17 v17) 18 (ρ 2)) 19 v19) 12 (ρ 7)) 13 v13) 7 v13) w))
 (
 zd8 k [1,1] (put (put (put (put ρ 8 (ρ 7)) 9 (ρ 0)) 10 v10) 11 v11) w)
theorem CV (k:KV) (N1:KE) (ρ:Env) (w:Y):qB k N1 [] ρ w=WI k N1 ρ w:=by kernel_rfl
def zeb (k:KV) (ρ:Env) (w:Y):Prop:=
 k (.pointer none) w
theorem CW (k:KV) (ρ:Env) (w:Y):zd8 k [1,1] ρ w=zeb k ρ w:=by kernel_rfl
theorem RX (old0:V) (made1:V) (t2:V) (w:Y) (k:KV) (h:N0 old0 made1 t2 w k):pFn Z 87 [old0,made1,t2] w k:=
 Zm mixed func87 (by kernel_rfl) (by kernel_rfl) ntmps87 (by kernel_rfl) (by kernel_rfl) (by simp) ((N9 old0 made1 t2 w k).mpr h)
noncomputable def zli:Code:=Z1 f93
def zlj (k:KV) (q:List Nat) (ρ:Env) (w:Y):Prop:=At Z 21 zli (Z8 Z f93.results.toList k) q ρ w
def WJ (d0:V) (name1:V) (w:Y) (k:KV):Prop:=
 pFn Z 74 [d0] w fun v8 w=>
 pC v8 (
 k (.tuple #[(.int .i64 0),(.int .i64 50)]) w)
 (
 pFn Z 99 [name1] w fun v10 w=>
 px Z (Op.unary .not v10) w fun v11 w=>
 pC v11 (
 k (.tuple #[(.int .i64 0),(.int .i64 51)]) w)
 (
 px Z (Zh d0) w fun v13 w=>
 px Z (U 62 v13 2) w fun v14 w=>
 px Z (F 59 v14) w fun v15 w=>
 pFn Z 100 [v15,name1] w fun v17 w=>
 px Z (Zd .lss 3 (.tmp 18) (.const (.int .i64 0)) v17 (.int .i64 0)) w fun v19 w=>
 pC v19 (
 k (.tuple #[(.int .i64 0),(.int .i64 53)]) w)
 (
 k (.tuple #[v17,(.int .i64 0)]) w)))
theorem NA (d0:V) (name1:V) (w:Y) (k:KV):zlj k [] (Zq [d0,name1]) w=WJ d0 name1 w k:=by kernel_rfl
theorem qD (d0:V) (name1:V) (w:Y) (k:KV) (h:WJ d0 name1 w k):pFn Z 93 [d0,name1] w k:=
 Zm mixed func93 (by kernel_rfl) (by kernel_rfl) ntmps93 (by kernel_rfl) (by kernel_rfl) (by simp) ((NA d0 name1 w k).mpr h)
noncomputable def zlk:Code:=Z1 f94
def zll (k:KV) (q:List Nat) (ρ:Env) (w:Y):Prop:=At Z 6 zlk (Z8 Z f94.results.toList k) q ρ w
def WK (b0:V) (w:Y) (k:KV):Prop:=
 px Z (Instr.buildSlice 36 0 #[]) w fun v3 w=>
 px Z (bSem .append #[36,36] 36 #[v3,b0]) w fun v5 w=>
 k v5 w
theorem NB (b0:V) (w:Y) (k:KV):zll k [] (Zq [b0]) w=WK b0 w k:=by kernel_rfl
theorem qE (b0:V) (w:Y) (k:KV) (h:WK b0 w k):pFn Z 94 [b0] w k:=
 Zm mixed func94 (by kernel_rfl) (by kernel_rfl) ntmps94 (by kernel_rfl) (by kernel_rfl) (by simp) ((NB b0 w k).mpr h)
noncomputable def qF:Code:=Z1 f99
def zec (k:KV) (q:List Nat) (ρ:Env) (w:Y):Prop:=At Z 53 qF (Z8 Z f99.results.toList k) q ρ w
noncomputable def zed:Code:=sub qF [1,1,0,1,0,0]
def zee (k:KV) (N1:KE):Xt→KE:=ZX N1 (ZJ Z 53 qF (Z8 Z f99.results.toList k) [1,1,0,1,0])
def qG (k:KV) (N1:KE) (q:List Nat) (ρ:Env) (w:Y):Prop:=At Z 53 zed (zee k N1) q ρ w
def qH (k:KV) (ρ:Env) (w:Y):Prop:=ZN Z 53 qF (Z8 Z f99.results.toList k) [1,1,0,1,0] ρ w
theorem F4 (k:KV) (I:Nat→KE) (round:∀m ρ w,I m ρ w→qG k (fun ρ' w'=>∃m',m'<m∧I m' ρ' w') [] ρ w) {m:Nat} {ρ:Env} {w:Y} (h:I m ρ w):qH k ρ w:=
 Zw mixed (B:=qF) (Q:=(Z8 Z f99.results.toList k)) (p:=[1,1,0,1,0]) (by kernel_rfl) (by kernel_rfl) I round h
def WL (name0:V) (w:Y) (k:KV):Prop:=
 px Z (bSem .len #[9] 3 #[name0]) w fun v6 w=>
 px Z (Zd .lss 3 (.tmp 6) (.const (.int .i64 1)) v6 (.int .i64 1)) w fun v7 w=>
 pG v7 false (fun k=>k name0 w) (w:=w) (next:=fun v9 w=>
 pG v7 false (fun k=>px Z (bSem .len #[9] 3 #[v9]) w k) (w:=w) (next:=fun v10 w=>
 pG v7 false (fun k=>px Z (Zd .gtr 3 (.tmp 10) (.const (.int .i64 112)) v10 (.int .i64 112)) w k) (w:=w) (next:=fun v11 w=>
 px Z (Zs v7 (.bool true) v11) w fun v12 w=>
 pC v12 (
 k (.bool false) w)
 (
 qH k (put (put (put (put (put (put (put (put (put (put (Zq [name0]) 2 (.bool false)) 5 name0) 6 v6) 7 v7) 8 v7) 9 v9) 10 v10) 11 v11) 12 v12) 3 (.int .i64 0)) w))))
theorem NC (name0:V) (w:Y) (k:KV):zec k [] (Zq [name0]) w=WL name0 w k:=by kernel_rfl
def qI (k:KV) (N1:KE) (ρ:Env) (w:Y):Prop:=
 px Z (bSem .len #[9] 3 #[(ρ 0)]) w fun v15 w=>
 px Z (Zd .lss 3 (.tmp 13) (.tmp 15) (ρ 3) v15) w fun v16 w=>
 pC v16 (
 px Z (Instr.index 9 (ρ 0) (ρ 3)) w fun v21 w=>
 px Z (Zd .geq 5 (.tmp 22) (.const (.int .u8 97)) v21 (.int .u8 97)) w fun v23 w=>
 pG v23 true (fun k=>k v21 w) (w:=w) (next:=fun v25 w=>
 pG v23 true (fun k=>px Z (Zd .leq 5 (.tmp 25) (.const (.int .u8 122)) v25 (.int .u8 122)) w k) (w:=w) (next:=fun v26 w=>
 px Z (Zs v23 v26 (.bool false)) w fun v27 w=>
 pG v27 false (fun k=>k v21 w) (w:=w) (next:=fun v29 w=>
 pG v27 false (fun k=>px Z (Zd .geq 5 (.tmp 29) (.const (.int .u8 48)) v29 (.int .u8 48)) w k) (w:=w) (next:=fun v30 w=>
 pG v27 false (fun k=>k v30 w) (w:=w) (next:=fun v31 w=>
 pG v31 true (fun k=>k v21 w) (w:=w) (next:=fun v32 w=>
 pG v31 true (fun k=>px Z (Zd .leq 5 (.tmp 32) (.const (.int .u8 57)) v32 (.int .u8 57)) w k) (w:=w) (next:=fun v33 w=>
 pG v27 false (fun k=>px Z (Zs v31 v33 (.bool false)) w k) (w:=w) (next:=fun v34 w=>
 px Z (Zs v27 (.bool true) v34) w fun v35 w=>
 pG v35 false (fun k=>k v21 w) (w:=w) (next:=fun v37 w=>
 pG v35 false (fun k=>px Z (Zd .eql 5 (.tmp 37) (.const (.int .u8 46)) v37 (.int .u8 46)) w k) (w:=w) (next:=fun v38 w=>
 px Z (Zs v35 (.bool true) v38) w fun v39 w=>
 pG v39 false (fun k=>k v21 w) (w:=w) (next:=fun v41 w=>
 pG v39 false (fun k=>px Z (Zd .eql 5 (.tmp 41) (.const (.int .u8 45)) v41 (.int .u8 45)) w k) (w:=w) (next:=fun v42 w=>
 px Z (Zs v39 (.bool true) v42) w fun v43 w=>
 pG v43 false (fun k=>k v21 w) (w:=w) (next:=fun v45 w=>
 pG v43 false (fun k=>px Z (Zd .eql 5 (.tmp 45) (.const (.int .u8 95)) v45 (.int .u8 95)) w k) (w:=w) (next:=fun v46 w=>
 px Z (Zs v43 (.bool true) v46) w fun v47 w=>
 pG v47 false (fun k=>k v21 w) (w:=w) (next:=fun v49 w=>
 pG v47 false (fun k=>px Z (Zd .eql 5 (.tmp 49) (.const (.int .u8 43)) v49 (.int .u8 43)) w k) (w:=w) (next:=fun v50 w=>
 px Z (Zs v47 (.bool true) v50) w fun v51 w=>
 px Z (Op.unary .not v51) w fun v52 w=>
 pC v52 (
 k (.bool false) w)
 (
 px Z (Zd .add 3 (.tmp 17) (.const (.int .i64 1)) (ρ 3) (.int .i64 1)) w fun v18 w=>
 N1 (put (put (put (put (put (put (put (put (put (put (put (put (put (put (put (put (put (put (put (put (put (put (put (put (put (put (put (put (put (put (put (put (put (put (put (put (put (put (put (put (put (put ρ 13 (ρ 3)) 14 (ρ 0)) 15 v15) 16 v16) 19 (ρ 0)) 20 (ρ 3)) 21 v21) 4 v21) 22 v21) 23 v23) 24 v23) 25 v25) 26 v26) 27 v27) 28 v27) 29 v29) 30 v30) 31 v31) 32 v32) 33 v33) 34 v34) 35 v35) 36 v35) 37 v37) 38 v38) 39 v39) 40 v39) 41 v41) 42 v42) 43 v43) 44 v43) 45 v45) 46 v46) 47 v47) 48 v47) 49 v49) 50 v50) 51 v51) 52 v52) 17 (ρ 3)) 18 v18) 3 v18) w))))))))))))))))))
 (
 zec k [1,1,1] (put (put (put (put ρ 13 (ρ 3)) 14 (ρ 0)) 15 v15) 16 v16) w)
theorem ND (k:KV) (N1:KE) (ρ:Env) (w:Y):qG k N1 [] ρ w=qI k N1 ρ w:=by kernel_rfl
def zef (k:KV) (ρ:Env) (w:Y):Prop:=
 k (.bool true) w
theorem NF (k:KV) (ρ:Env) (w:Y):zec k [1,1,1] ρ w=zef k ρ w:=by kernel_rfl
theorem qJ (name0:V) (w:Y) (k:KV) (h:WL name0 w k):pFn Z 99 [name0] w k:=
 Zm mixed func99 (by kernel_rfl) (by kernel_rfl) ntmps99 (by kernel_rfl) (by kernel_rfl) (by simp) ((NC name0 w k).mpr h)
noncomputable def F5:Code:=Z1 f100
def WM (k:KV) (q:List Nat) (ρ:Env) (w:Y):Prop:=At Z 20 F5 (Z8 Z f100.results.toList k) q ρ w
noncomputable def qK:Code:=sub F5 [1,0,1,0,0]
def qL (k:KV) (N1:KE):Xt→KE:=ZX N1 (ZJ Z 20 F5 (Z8 Z f100.results.toList k) [1,0,1,0])
def RY (k:KV) (N1:KE) (q:List Nat) (ρ:Env) (w:Y):Prop:=At Z 20 qK (qL k N1) q ρ w
def RZ (k:KV) (ρ:Env) (w:Y):Prop:=ZN Z 20 F5 (Z8 Z f100.results.toList k) [1,0,1,0] ρ w
theorem DH (k:KV) (I:Nat→KE) (round:∀m ρ w,I m ρ w→RY k (fun ρ' w'=>∃m',m'<m∧I m' ρ' w') [] ρ w) {m:Nat} {ρ:Env} {w:Y} (h:I m ρ w):RZ k ρ w:=
 Zw mixed (B:=F5) (Q:=(Z8 Z f100.results.toList k)) (p:=[1,0,1,0]) (by kernel_rfl) (by kernel_rfl) I round h
def F6 (l0:V) (name1:V) (w:Y) (k:KV):Prop:=
 RZ k (put (put (Zq [l0,name1]) 4 (.int .i64 0)) 5 (.int .i64 0)) w
theorem F7 (l0:V) (name1:V) (w:Y) (k:KV):WM k [] (Zq [l0,name1]) w=F6 l0 name1 w k:=by kernel_rfl
def Sa (k:KV) (N1:KE) (ρ:Env) (w:Y):Prop:=
 px Z (bSem .len #[59] 3 #[(ρ 0)]) w fun v8 w=>
 px Z (Zd .lss 3 (.tmp 6) (.tmp 8) (ρ 5) v8) w fun v9 w=>
 pC v9 (
 px Z (Zb 59 (ρ 0) (ρ 5)) w fun v14 w=>
 px Z (U 144 v14 0) w fun v15 w=>
 px Z (F 9 v15) w fun v16 w=>
 px Z (Zd .eql 9 (.tmp 16) (.tmp 17) v16 (ρ 1)) w fun v18 w=>
 pC v18 (
 k (ρ 5) w)
 (
 px Z (Zd .add 3 (.tmp 10) (.const (.int .i64 1)) (ρ 5) (.int .i64 1)) w fun v11 w=>
 N1 (put (put (put (put (put (put (put (put (put (put (put (put (put (put ρ 6 (ρ 5)) 7 (ρ 0)) 8 v8) 9 v9) 12 (ρ 0)) 13 (ρ 5)) 14 v14) 15 v15) 16 v16) 17 (ρ 1)) 18 v18) 10 (ρ 5)) 11 v11) 5 v11) w))
 (
 WM k [1,1] (put (put (put (put ρ 6 (ρ 5)) 7 (ρ 0)) 8 v8) 9 v9) w)
theorem F8 (k:KV) (N1:KE) (ρ:Env) (w:Y):RY k N1 [] ρ w=Sa k N1 ρ w:=by kernel_rfl
def qM (k:KV) (ρ:Env) (w:Y):Prop:=
 k (.int .i64 (-1)) w
theorem F9 (k:KV) (ρ:Env) (w:Y):WM k [1,1] ρ w=qM k ρ w:=by kernel_rfl
theorem WN (l0:V) (name1:V) (w:Y) (k:KV) (h:F6 l0 name1 w k):pFn Z 100 [l0,name1] w k:=
 Zm mixed func100 (by kernel_rfl) (by kernel_rfl) ntmps100 (by kernel_rfl) (by kernel_rfl) (by simp) ((F7 l0 name1 w k).mpr h)
noncomputable def FA:Code:=Z1 f101
def DI (k:KV) (q:List Nat) (ρ:Env) (w:Y):Prop:=At Z 52 FA (Z8 Z f101.results.toList k) q ρ w
noncomputable def qN:Code:=sub FA [1,1,1,1,0,1,0,0]
def qO (k:KV) (N1:KE):Xt→KE:=ZX N1 (ZJ Z 52 FA (Z8 Z f101.results.toList k) [1,1,1,1,0,1,0])
def Bh (k:KV) (N1:KE) (q:List Nat) (ρ:Env) (w:Y):Prop:=At Z 52 qN (qO k N1) q ρ w
def Sb (k:KV) (ρ:Env) (w:Y):Prop:=ZN Z 52 FA (Z8 Z f101.results.toList k) [1,1,1,1,0,1,0] ρ w
theorem DJ (k:KV) (I:Nat→KE) (round:∀m ρ w,I m ρ w→Bh k (fun ρ' w'=>∃m',m'<m∧I m' ρ' w') [] ρ w) {m:Nat} {ρ:Env} {w:Y} (h:I m ρ w):Sb k ρ w:=
 Zw mixed (B:=FA) (Q:=(Z8 Z f101.results.toList k)) (p:=[1,1,1,1,0,1,0]) (by kernel_rfl) (by kernel_rfl) I round h
def FB (l0:V) (name1:V) (t2:V) (w:Y) (k:KV):Prop:=
 pFn Z 133 [l0,name1] w fun v12 w=>
 Sb k (put (put (put (put (put (put (put (put (Zq [l0,name1,t2]) 6 (.slice none 0 0)) 10 l0) 11 name1) 12 v12) 0 v12) 7 (.slice none 0 0)) 8 (.bool false)) 9 (.int .i64 0)) w
theorem FC (l0:V) (name1:V) (t2:V) (w:Y) (k:KV):DI k [] (Zq [l0,name1,t2]) w=FB l0 name1 t2 w k:=by kernel_rfl
def Sc (k:KV) (N1:KE) (ρ:Env) (w:Y):Prop:=
 px Z (bSem .len #[59] 3 #[(ρ 0)]) w fun v15 w=>
 px Z (Zd .lss 3 (.tmp 13) (.tmp 15) (ρ 9) v15) w fun v16 w=>
 pC v16 (
 px Z (Op.unary .not (ρ 8)) w fun v20 w=>
 pG v20 true (fun k=>k (ρ 1) w) (w:=w) (next:=fun v22 w=>
 pG v20 true (fun k=>k (ρ 0) w) (w:=w) (next:=fun v23 w=>
 pG v20 true (fun k=>k (ρ 9) w) (w:=w) (next:=fun v24 w=>
 pG v20 true (fun k=>px Z (Zb 59 v23 v24) w k) (w:=w) (next:=fun v25 w=>
 pG v20 true (fun k=>px Z (U 144 v25 0) w k) (w:=w) (next:=fun v26 w=>
 pG v20 true (fun k=>px Z (F 9 v26) w k) (w:=w) (next:=fun v27 w=>
 pG v20 true (fun k=>px Z (Zd .lss 9 (.tmp 22) (.tmp 27) v22 v27) w k) (w:=w) (next:=fun v28 w=>
 px Z (Zs v20 v28 (.bool false)) w fun v29 w=>
 pC v29 (
 px Z (Instr.build 144 #[(0,(ρ 1)),(1,(ρ 2))]) w fun v33 w=>
 px Z (Instr.buildSlice 59 1 #[(0,v33)]) w fun v34 w=>
 px Z (bSem .append #[59,59] 59 #[(ρ 7),v34]) w fun v35 w=>
 Bh k N1 [1,0,0,1] (put (put (put (put (put (put (put (put (put (put (put (put (put (put (put (put (put (put (put (put (put (put (put ρ 13 (ρ 9)) 14 (ρ 0)) 15 v15) 16 v16) 19 (ρ 8)) 20 v20) 21 v20) 22 v22) 23 v23) 24 v24) 25 v25) 26 v26) 27 v27) 28 v28) 29 v29) 30 (ρ 7)) 31 (ρ 1)) 32 (ρ 2)) 33 v33) 34 v34) 35 v35) 7 v35) 8 (.bool true)) w)
 (
 Bh k N1 [1,0,0,1] (put (put (put (put (put (put (put (put (put (put (put (put (put (put (put ρ 13 (ρ 9)) 14 (ρ 0)) 15 v15) 16 v16) 19 (ρ 8)) 20 v20) 21 v20) 22 v22) 23 v23) 24 v24) 25 v25) 26 v26) 27 v27) 28 v28) 29 v29) w)))))))))
 (
 DI k [1,1,1,1,1] (put (put (put (put ρ 13 (ρ 9)) 14 (ρ 0)) 15 v15) 16 v16) w)
theorem FD (k:KV) (N1:KE) (ρ:Env) (w:Y):Bh k N1 [] ρ w=Sc k N1 ρ w:=by kernel_rfl
def FE (k:KV) (N1:KE) (ρ:Env) (w:Y):Prop:=
 px Z (Zb 59 (ρ 0) (ρ 9)) w fun v39 w=>
 px Z (F 144 v39) w fun v40 w=>
 px Z (Instr.buildSlice 59 1 #[(0,v40)]) w fun v41 w=>
 px Z (bSem .append #[59,59] 59 #[(ρ 7),v41]) w fun v42 w=>
 px Z (Zd .add 3 (.tmp 17) (.const (.int .i64 1)) (ρ 9) (.int .i64 1)) w fun v18 w=>
 N1 (put (put (put (put (put (put (put (put (put (put (put ρ 36 (ρ 7)) 37 (ρ 0)) 38 (ρ 9)) 39 v39) 40 v40) 41 v41) 42 v42) 7 v42) 17 (ρ 9)) 18 v18) 9 v18) w
theorem Q6 (k:KV) (N1:KE) (ρ:Env) (w:Y):Bh k N1 [1,0,0,1] ρ w=FE k N1 ρ w:=by kernel_rfl
def Sd (k:KV) (ρ:Env) (w:Y):Prop:=
 px Z (Op.unary .not (ρ 8)) w fun v44 w=>
 pC v44 (
 px Z (Instr.build 144 #[(0,(ρ 1)),(1,(ρ 2))]) w fun v48 w=>
 px Z (Instr.buildSlice 59 1 #[(0,v48)]) w fun v49 w=>
 px Z (bSem .append #[59,59] 59 #[(ρ 7),v49]) w fun v50 w=>
 DI k [1,1,1,1,1,1] (put (put (put (put (put (put (put (put (put ρ 43 (ρ 8)) 44 v44) 45 (ρ 7)) 46 (ρ 1)) 47 (ρ 2)) 48 v48) 49 v49) 50 v50) 7 v50) w)
 (
 DI k [1,1,1,1,1,1] (put (put ρ 43 (ρ 8)) 44 v44) w)
theorem FF (k:KV) (ρ:Env) (w:Y):DI k [1,1,1,1,1] ρ w=Sd k ρ w:=by kernel_rfl
def qP (k:KV) (ρ:Env) (w:Y):Prop:=
 k (ρ 7) w
theorem Bi (k:KV) (ρ:Env) (w:Y):DI k [1,1,1,1,1,1] ρ w=qP k ρ w:=by kernel_rfl
theorem WO (l0:V) (name1:V) (t2:V) (w:Y) (k:KV) (h:FB l0 name1 t2 w k):pFn Z 101 [l0,name1,t2] w k:=
 Zm mixed func101 (by kernel_rfl) (by kernel_rfl) ntmps101 (by kernel_rfl) (by kernel_rfl) (by simp) ((FC l0 name1 t2 w k).mpr h)
noncomputable def zeg:Code:=Z1 f111
def zeh (k:KV) (q:List Nat) (ρ:Env) (w:Y):Prop:=At Z 52 zeg (Z8 Z f111.results.toList k) q ρ w
def FG (d0:V) (w:Y) (k:KV):Prop:=
 px Z (Zh d0) w fun v6 w=>
 px Z (U 62 v6 5) w fun v7 w=>
 px Z (F 3 v7) w fun v8 w=>
 px Z (Zd .add 3 (.tmp 8) (.const (.int .i64 1)) v8 (.int .i64 1)) w fun v9 w=>
 px Z (Zh d0) w fun v10 w=>
 px Z (U 62 v10 5) w fun v11 w=>
 pu Z (Za 3 v11 v9) w fun w=>
 px Z (Zh d0) w fun v14 w=>
 px Z (U 62 v14 6) w fun v15 w=>
 px Z (F 3 v15) w fun v16 w=>
 px Z (Zd .add 3 (.tmp 16) (.const (.int .i64 1)) v16 (.int .i64 1)) w fun v17 w=>
 px Z (Zh d0) w fun v18 w=>
 px Z (U 62 v18 6) w fun v19 w=>
 pu Z (Za 3 v19 v17) w fun w=>
 ∃S:Y→Prop,S w.drew∧(fun w=>
 pq Z S (Zh d0) fun v21=>
 pq Z S (U 62 v21 6) fun v22=>
 pq Z S (F 3 v22) fun v23=>
 pq Z S (Zh d0) fun v25=>
 pq Z S (U 62 v25 7) fun v26=>
 pq Z S (U 38 v26 1) fun v27=>
 pq Z S (F 3 v27) fun v28=>
 pq Z S (Zd .geq 3 (.tmp 23) (.tmp 28) v23 v28) fun v29=>
 pGq v29 true (fun k=>k d0) (next:=fun v31=>
 pGq v29 true (fun k=>pq Z S (Zh v31) k) (next:=fun v32=>
 pGq v29 true (fun k=>pq Z S (U 62 v32 6) k) (next:=fun v33=>
 pGq v29 true (fun k=>pq Z S (F 3 v33) k) (next:=fun v34=>
 pGq v29 true (fun k=>k d0) (next:=fun v35=>
 pGq v29 true (fun k=>pq Z S (Zh v35) k) (next:=fun v36=>
 pGq v29 true (fun k=>pq Z S (U 62 v36 7) k) (next:=fun v37=>
 pGq v29 true (fun k=>pq Z S (U 38 v37 2) k) (next:=fun v38=>
 pGq v29 true (fun k=>pq Z S (F 3 v38) k) (next:=fun v39=>
 pGq v29 true (fun k=>pq Z S (Zd .leq 3 (.tmp 34) (.tmp 39) v34 v39) k) (next:=fun v40=>
 pq Z S (Zs v29 v40 (.bool false)) fun v41=>
 pq Z S (Zh d0) fun v43=>
 pq Z S (U 62 v43 6) fun v44=>
 pq Z S (F 3 v44) fun v45=>
 pq Z S (Zh d0) fun v47=>
 pq Z S (U 62 v47 7) fun v48=>
 pq Z S (U 38 v48 0) fun v49=>
 pq Z S (F 3 v49) fun v50=>
 pq Z S (Zd .eql 3 (.tmp 45) (.tmp 50) v45 v50) fun v51=>
 k (.tuple #[v41,v51]) w))))))))))) w.drew
theorem FH (d0:V) (w:Y) (k:KV):zeh k [] (Zq [d0]) w=FG d0 w k:=by kernel_rfl
theorem WQ (d0:V) (w:Y) (k:KV) (h:FG d0 w k):pFn Z 111 [d0] w k:=
 Zm mixed func111 (by kernel_rfl) (by kernel_rfl) ntmps111 (by kernel_rfl) (by kernel_rfl) (by simp) ((FH d0 w k).mpr h)
noncomputable def zei:Code:=Z1 f112
def zej (k:KV) (q:List Nat) (ρ:Env) (w:Y):Prop:=At Z 12 zei (Z8 Z f112.results.toList k) q ρ w
def FI (d0:V) (out1:V) (e2:V) (w:Y) (k:KV):Prop:=
 pC out1 (
 px Z (Zh d0) w fun v9 w=>
 px Z (U 62 v9 0) w fun v10 w=>
 pu Z (Za 4 v10 (.bool false)) w fun w=>
 k (.int .i64 50) w)
 (
 k e2 w)
theorem FJ (d0:V) (out1:V) (e2:V) (w:Y) (k:KV):zej k [] (Zq [d0,out1,e2]) w=FI d0 out1 e2 w k:=by kernel_rfl
theorem WR (d0:V) (out1:V) (e2:V) (w:Y) (k:KV) (h:FI d0 out1 e2 w k):pFn Z 112 [d0,out1,e2] w k:=
 Zm mixed func112 (by kernel_rfl) (by kernel_rfl) ntmps112 (by kernel_rfl) (by kernel_rfl) (by simp) ((FJ d0 out1 e2 w k).mpr h)
noncomputable def zek:Code:=Z1 f113
def zel (k:KV) (q:List Nat) (ρ:Env) (w:Y):Prop:=At Z 38 zek (Z8 Z f113.results.toList k) q ρ w
def FK (l0:V) (x1:V) (w:Y) (k:KV):Prop:=
 px Z (Instr.box 146 x1) w fun v3 w=>
 px Z (U 146 v3 0) w fun v6 w=>
 px Z (F 3 v6) w fun v7 w=>
 px Z (Zd .eql 3 (.tmp 7) (.const (.int .i64 1)) v7 (.int .i64 1)) w fun v9 w=>
 pC v9 (
 px Z (U 146 v3 1) w fun v11 w=>
 px Z (F 9 v11) w fun v12 w=>
 px Z (U 146 v3 3) w fun v13 w=>
 px Z (F 142 v13) w fun v14 w=>
 pFn Z 101 [l0,v12,v14] w fun v15 w=>
 k v15 w)
 (
 px Z (Zd .eql 3 (.tmp 7) (.const (.int .i64 2)) v7 (.int .i64 2)) w fun v17 w=>
 pC v17 (
 px Z (U 146 v3 1) w fun v19 w=>
 px Z (F 9 v19) w fun v20 w=>
 pFn Z 100 [l0,v20] w fun v21 w=>
 ∃S:Y→Prop,S w.drew∧(fun w=>
 pq Z S (U 146 v3 1) fun v23=>
 pq Z S (F 9 v23) fun v24=>
 pq Z S (U 146 v3 2) fun v26=>
 pq Z S (F 9 v26) fun v27=>
 pq Z S (Zb 59 l0 v21) fun v30=>
 pq Z S (U 144 v30 1) fun v31=>
 pq Z S (F 142 v31) fun v32=>
 pFn Z 133 [l0,v24] w fun v25 w=>S w∧(
 pFn Z 101 [v25,v27,v32] w fun v33 w=>S w∧(
 k v33 w))) w.drew)
 (
 px Z (U 146 v3 1) w fun v35 w=>
 px Z (F 9 v35) w fun v36 w=>
 pFn Z 133 [l0,v36] w fun v37 w=>
 k v37 w))
theorem FL (l0:V) (x1:V) (w:Y) (k:KV):zel k [] (Zq [l0,x1]) w=FK l0 x1 w k:=by kernel_rfl
theorem WS (l0:V) (x1:V) (w:Y) (k:KV) (h:FK l0 x1 w k):pFn Z 113 [l0,x1] w k:=
 Zm mixed func113 (by kernel_rfl) (by kernel_rfl) ntmps113 (by kernel_rfl) (by kernel_rfl) (by simp) ((FL l0 x1 w k).mpr h)
noncomputable def FM:Code:=Z1 f116
def DK (k:KV) (q:List Nat) (ρ:Env) (w:Y):Prop:=At Z 60 FM (Z8 Z f116.results.toList k) q ρ w
noncomputable def qQ:Code:=sub FM [1,1,1,1,0,1,0,0]
def qR (k:KV) (N1:KE):Xt→KE:=ZX N1 (ZJ Z 60 FM (Z8 Z f116.results.toList k) [1,1,1,1,0,1,0])
def Bj (k:KV) (N1:KE) (q:List Nat) (ρ:Env) (w:Y):Prop:=At Z 60 qQ (qR k N1) q ρ w
def Se (k:KV) (ρ:Env) (w:Y):Prop:=ZN Z 60 FM (Z8 Z f116.results.toList k) [1,1,1,1,0,1,0] ρ w
theorem DL (k:KV) (I:Nat→KE) (round:∀m ρ w,I m ρ w→Bj k (fun ρ' w'=>∃m',m'<m∧I m' ρ' w') [] ρ w) {m:Nat} {ρ:Env} {w:Y} (h:I m ρ w):Se k ρ w:=
 Zw mixed (B:=FM) (Q:=(Z8 Z f116.results.toList k)) (p:=[1,1,1,1,0,1,0]) (by kernel_rfl) (by kernel_rfl) I round h
def FN (b0:V) (c1:V) (units2:V) (w:Y) (k:KV):Prop:=
 px Z (Instr.box 186 c1) w fun v4 w=>
 px Z (U 186 v4 0) w fun v8 w=>
 px Z (F 4 v8) w fun v9 w=>
 pC v9 (
 px Z (Zd .lss 3 (.tmp 10) (.const (.int .i64 1)) units2 (.int .i64 1)) w fun v11 w=>
 pC v11 (
 k b0 w)
 (
 px Z (U 186 v4 1) w fun v14 w=>
 px Z (F 3 v14) w fun v15 w=>
 px Z (sliceAt 36 b0 none (some v15) none) w fun v16 w=>
 pFn Z 94 [v16] w fun v17 w=>
 k v17 w))
 (
 px Z (U 186 v4 2) w fun v19 w=>
 px Z (F 36 v19) w fun v20 w=>
 px Z (bSem .len #[36] 3 #[v20]) w fun v21 w=>
 px Z (Zd .gtr 3 (.tmp 18) (.tmp 21) units2 v21) w fun v22 w=>
 pC v22 (
 px Z (U 186 v4 2) w fun v23 w=>
 px Z (F 36 v23) w fun v24 w=>
 px Z (bSem .len #[36] 3 #[v24]) w fun v25 w=>
 DK k [1,1,1] (put (put (put (put (put (put (put (put (put (put (put (put (put (Zq [b0,c1,units2]) 4 v4) 6 (.slice none 0 0)) 8 v8) 9 v9) 18 units2) 19 v19) 20 v20) 21 v21) 22 v22) 23 v23) 24 v24) 25 v25) 2 v25) w)
 (
 DK k [1,1,1] (put (put (put (put (put (put (put (put (put (Zq [b0,c1,units2]) 4 v4) 6 (.slice none 0 0)) 8 v8) 9 v9) 18 units2) 19 v19) 20 v20) 21 v21) 22 v22) w))
theorem FO (b0:V) (c1:V) (units2:V) (w:Y) (k:KV):DK k [] (Zq [b0,c1,units2]) w=FN b0 c1 units2 w k:=by kernel_rfl
def Sf (k:KV) (ρ:Env) (w:Y):Prop:=
 pFn Z 94 [(ρ 0)] w fun v27 w=>
 Se k (put (put (put (put ρ 26 (ρ 0)) 27 v27) 0 v27) 7 (.int .i64 0)) w
theorem FP (k:KV) (ρ:Env) (w:Y):DK k [1,1,1] ρ w=Sf k ρ w:=by kernel_rfl
def Sg (k:KV) (N1:KE) (ρ:Env) (w:Y):Prop:=
 px Z (Zd .lss 3 (.tmp 28) (.tmp 29) (ρ 7) (ρ 2)) w fun v30 w=>
 pC v30 (
 px Z (U 186 (ρ 4) 1) w fun v33 w=>
 px Z (F 3 v33) w fun v34 w=>
 px Z (Zd .add 3 (.tmp 34) (.tmp 35) v34 (ρ 7)) w fun v36 w=>
 px Z (bSem .len #[36] 3 #[(ρ 0)]) w fun v38 w=>
 px Z (Zd .lss 3 (.tmp 36) (.tmp 38) v36 v38) w fun v39 w=>
 pC v39 (
 ∃S:Y→Prop,S w.drew∧(fun w=>
 pq Z S (U 186 (ρ 4) 1) fun v41=>
 pq Z S (F 3 v41) fun v42=>
 pq Z S (Zd .add 3 (.tmp 42) (.tmp 43) v42 (ρ 7)) fun v44=>
 pq Z S (U 186 (ρ 4) 2) fun v45=>
 pq Z S (F 36 v45) fun v46=>
 pq Z S (Zb 36 v46 (ρ 7)) fun v48=>
 pq Z S (F 5 v48) fun v49=>
 pq Z S (Zb 36 (ρ 0) v44) fun v50=>
 pu Z (Za 5 v50 v49) w fun w=>(
 Bj k N1 [1,1] (put (put (put (put (put (put (put (put (put (put (put (put (put (put (put (put (put (put (put (put (put ρ 28 (ρ 7)) 29 (ρ 2)) 30 v30) 33 v33) 34 v34) 35 (ρ 7)) 36 v36) 37 (ρ 0)) 38 v38) 39 v39) 40 (ρ 0)) 41 v41) 42 v42) 43 (ρ 7)) 44 v44) 45 v45) 46 v46) 47 (ρ 7)) 48 v48) 49 v49) 50 v50) w)) w.drew)
 (
 px Z (U 186 (ρ 4) 2) w fun v52 w=>
 px Z (F 36 v52) w fun v53 w=>
 px Z (Zb 36 v53 (ρ 7)) w fun v55 w=>
 px Z (F 5 v55) w fun v56 w=>
 px Z (Instr.buildSlice 36 1 #[(0,v56)]) w fun v57 w=>
 px Z (bSem .append #[36,36] 36 #[(ρ 0),v57]) w fun v58 w=>
 Bj k N1 [1,1] (put (put (put (put (put (put (put (put (put (put (put (put (put (put (put (put (put (put (put ρ 28 (ρ 7)) 29 (ρ 2)) 30 v30) 33 v33) 34 v34) 35 (ρ 7)) 36 v36) 37 (ρ 0)) 38 v38) 39 v39) 51 (ρ 0)) 52 v52) 53 v53) 54 (ρ 7)) 55 v55) 56 v56) 57 v57) 58 v58) 0 v58) w))
 (
 DK k [1,1,1,1,1] (put (put (put ρ 28 (ρ 7)) 29 (ρ 2)) 30 v30) w)
theorem FQ (k:KV) (N1:KE) (ρ:Env) (w:Y):Bj k N1 [] ρ w=Sg k N1 ρ w:=by kernel_rfl
def FR (k:KV) (N1:KE) (ρ:Env) (w:Y):Prop:=
 px Z (Zd .add 3 (.tmp 31) (.const (.int .i64 1)) (ρ 7) (.int .i64 1)) w fun v32 w=>
 N1 (put (put (put ρ 31 (ρ 7)) 32 v32) 7 v32) w
theorem Bl (k:KV) (N1:KE) (ρ:Env) (w:Y):Bj k N1 [1,1] ρ w=FR k N1 ρ w:=by kernel_rfl
def Sh (k:KV) (ρ:Env) (w:Y):Prop:=
 k (ρ 0) w
theorem FT (k:KV) (ρ:Env) (w:Y):DK k [1,1,1,1,1] ρ w=Sh k ρ w:=by kernel_rfl
theorem WT (b0:V) (c1:V) (units2:V) (w:Y) (k:KV) (h:FN b0 c1 units2 w k):pFn Z 116 [b0,c1,units2] w k:=
 Zm mixed func116 (by kernel_rfl) (by kernel_rfl) ntmps116 (by kernel_rfl) (by kernel_rfl) (by simp) ((FO b0 c1 units2 w k).mpr h)
noncomputable def zem:Code:=Z1 f120
def zen (k:KV) (q:List Nat) (ρ:Env) (w:Y):Prop:=At Z 29 zem (Z8 Z f120.results.toList k) q ρ w
def FU (d0:V) (name1:V) (w:Y) (k:KV):Prop:=
 pFn Z 93 [d0,name1] w fun v11 w=>
 px Z (extract v11 0) w fun v12 w=>
 px Z (extract v11 1) w fun v13 w=>
 px Z (Zd .neq 3 (.tmp 14) (.const (.int .i64 0)) v13 (.int .i64 0)) w fun v15 w=>
 pC v15 (
 k (.tuple #[(.int .i64 0),v13]) w)
 (
 px Z (Zh d0) w fun v18 w=>
 px Z (U 62 v18 2) w fun v19 w=>
 px Z (F 59 v19) w fun v20 w=>
 px Z (Zb 59 v20 v12) w fun v22 w=>
 px Z (U 144 v22 1) w fun v23 w=>
 px Z (F 142 v23) w fun v24 w=>
 px Z (Zh v24) w fun v25 w=>
 px Z (U 156 v25 1) w fun v26 w=>
 px Z (F 36 v26) w fun v27 w=>
 px Z (bSem .len #[36] 3 #[v27]) w fun v28 w=>
 k (.tuple #[v28,(.int .i64 0)]) w)
theorem FV (d0:V) (name1:V) (w:Y) (k:KV):zen k [] (Zq [d0,name1]) w=FU d0 name1 w k:=by kernel_rfl
theorem WU (d0:V) (name1:V) (w:Y) (k:KV) (h:FU d0 name1 w k):pFn Z 120 [d0,name1] w k:=
 Zm mixed func120 (by kernel_rfl) (by kernel_rfl) ntmps120 (by kernel_rfl) (by kernel_rfl) (by simp) ((FV d0 name1 w k).mpr h)
noncomputable def zeo:Code:=Z1 f121
def zep (k:KV) (q:List Nat) (ρ:Env) (w:Y):Prop:=At Z 14 zeo (Z8 Z f121.results.toList k) q ρ w
def FW (d0:V) (p1:V) (w:Y) (k:KV):Prop:=
 px Z (Instr.box 38 p1) w fun v3 w=>
 pFn Z 74 [d0] w fun v5 w=>
 px Z (Op.unary .not v5) w fun v6 w=>
 pC v6 (
 px Z (F 38 v3) w fun v8 w=>
 px Z (Zh d0) w fun v9 w=>
 px Z (U 62 v9 7) w fun v10 w=>
 pu Z (Za 38 v10 v8) w fun w=>
 px Z (Zh d0) w fun v12 w=>
 px Z (U 62 v12 6) w fun v13 w=>
 pu Z (Za 3 v13 (.int .i64 0)) w fun w=>
 k (.tuple #[]) w)
 (
 k (.tuple #[]) w)
theorem FX (d0:V) (p1:V) (w:Y) (k:KV):zep k [] (Zq [d0,p1]) w=FW d0 p1 w k:=by kernel_rfl
theorem WV (d0:V) (p1:V) (w:Y) (k:KV) (h:FW d0 p1 w k):pFn Z 121 [d0,p1] w k:=
 Zm mixed func121 (by kernel_rfl) (by kernel_rfl) ntmps121 (by kernel_rfl) (by kernel_rfl) (by simp) ((FX d0 p1 w k).mpr h)
noncomputable def JV:Code:=Z1 f123
def FY (k:KV) (q:List Nat) (ρ:Env) (w:Y):Prop:=At Z 166 JV (Z8 Z f123.results.toList k) q ρ w
noncomputable def qS:Code:=sub JV [1,1,1,0,1,0,0]
def qT (k:KV) (N1:KE):Xt→KE:=ZX N1 (ZJ Z 166 JV (Z8 Z f123.results.toList k) [1,1,1,0,1,0])
def Si (k:KV) (N1:KE) (q:List Nat) (ρ:Env) (w:Y):Prop:=At Z 166 qS (qT k N1) q ρ w
def Sj (k:KV) (ρ:Env) (w:Y):Prop:=ZN Z 166 JV (Z8 Z f123.results.toList k) [1,1,1,0,1,0] ρ w
theorem DM (k:KV) (I:Nat→KE) (round:∀m ρ w,I m ρ w→Si k (fun ρ' w'=>∃m',m'<m∧I m' ρ' w') [] ρ w) {m:Nat} {ρ:Env} {w:Y} (h:I m ρ w):Sj k ρ w:=
 Zw mixed (B:=JV) (Q:=(Z8 Z f123.results.toList k)) (p:=[1,1,1,0,1,0]) (by kernel_rfl) (by kernel_rfl) I round h
noncomputable def Uz:Code:=sub JV [1,1,1,1,1,0,1,0,0]
def Q7 (k:KV) (N2:KE):Xt→KE:=ZX N2 (ZJ Z 166 JV (Z8 Z f123.results.toList k) [1,1,1,1,1,0,1,0])
def Jz (k:KV) (N2:KE) (q:List Nat) (ρ:Env) (w:Y):Prop:=At Z 166 Uz (Q7 k N2) q ρ w
def Sk (k:KV) (ρ:Env) (w:Y):Prop:=ZN Z 166 JV (Z8 Z f123.results.toList k) [1,1,1,1,1,0,1,0] ρ w
theorem DN (k:KV) (I:Nat→KE) (round:∀m ρ w,I m ρ w→Jz k (fun ρ' w'=>∃m',m'<m∧I m' ρ' w') [] ρ w) {m:Nat} {ρ:Env} {w:Y} (h:I m ρ w):Sk k ρ w:=
 Zw mixed (B:=JV) (Q:=(Z8 Z f123.results.toList k)) (p:=[1,1,1,1,1,0,1,0]) (by kernel_rfl) (by kernel_rfl) I round h
noncomputable def qU:Code:=sub Uz [1,0,0,1,1,0,1,0,0]
def qV (k:KV) (N2:KE) (N3:KE):Xt→KE:=ZX N3 (ZJ Z 166 Uz (Q7 k N2) [1,0,0,1,1,0,1,0])
def Sl (k:KV) (N2:KE) (N3:KE) (q:List Nat) (ρ:Env) (w:Y):Prop:=At Z 166 qU (qV k N2 N3) q ρ w
def FZ (k:KV) (N2:KE) (ρ:Env) (w:Y):Prop:=ZN Z 166 Uz (Q7 k N2) [1,0,0,1,1,0,1,0] ρ w
theorem DO (k:KV) (N2:KE) (I:Nat→KE) (round:∀m ρ w,I m ρ w→Sl k N2 (fun ρ' w'=>∃m',m'<m∧I m' ρ' w') [] ρ w) {m:Nat} {ρ:Env} {w:Y} (h:I m ρ w):FZ k N2 ρ w:=
 Zw mixed (B:=Uz) (Q:=(Q7 k N2)) (p:=[1,0,0,1,1,0,1,0]) (by kernel_rfl) (by kernel_rfl) I round h
noncomputable def qW:Code:=sub Uz [1,0,0,1,1,1,1,1,0,1,0,0]
def qX (k:KV) (N2:KE) (N4:KE):Xt→KE:=ZX N4 (ZJ Z 166 Uz (Q7 k N2) [1,0,0,1,1,1,1,1,0,1,0])
def Bm (k:KV) (N2:KE) (N4:KE) (q:List Nat) (ρ:Env) (w:Y):Prop:=At Z 166 qW (qX k N2 N4) q ρ w
def Sm (k:KV) (N2:KE) (ρ:Env) (w:Y):Prop:=ZN Z 166 Uz (Q7 k N2) [1,0,0,1,1,1,1,1,0,1,0] ρ w
theorem DP (k:KV) (N2:KE) (I:Nat→KE) (round:∀m ρ w,I m ρ w→Bm k N2 (fun ρ' w'=>∃m',m'<m∧I m' ρ' w') [] ρ w) {m:Nat} {ρ:Env} {w:Y} (h:I m ρ w):Sm k N2 ρ w:=
 Zw mixed (B:=Uz) (Q:=(Q7 k N2)) (p:=[1,0,0,1,1,1,1,1,0,1,0]) (by kernel_rfl) (by kernel_rfl) I round h
def Ga (d0:V) (picks1:V) (w:Y) (k:KV):Prop:=
 px Z (Zd .eql 30 (.tmp 16) (.const (.pointer none)) d0 (.pointer none)) w fun v17 w=>
 pG v17 false (fun k=>k d0 w) (w:=w) (next:=fun v19 w=>
 pG v17 false (fun k=>px Z (Zh v19) w k) (w:=w) (next:=fun v20 w=>
 pG v17 false (fun k=>px Z (U 62 v20 1) w k) (w:=w) (next:=fun v21 w=>
 pG v17 false (fun k=>px Z (F 3 v21) w k) (w:=w) (next:=fun v22 w=>
 pG v17 false (fun k=>px Z (Zd .eql 3 (.tmp 22) (.const (.int .i64 0)) v22 (.int .i64 0)) w k) (w:=w) (next:=fun v23 w=>
 px Z (Zs v17 (.bool true) v23) w fun v24 w=>
 pC v24 (
 k (.tuple #[]) w)
 (
 px Z (Zh d0) w fun v26 w=>
 px Z (U 62 v26 3) w fun v27 w=>
 px Z (F 59 v27) w fun v28 w=>
 px Z (Zh d0) w fun v31 w=>
 px Z (U 62 v31 4) w fun v32 w=>
 px Z (F 60 v32) w fun v33 w=>
 px Z (bSem .len #[60] 3 #[v33]) w fun v34 w=>
 pFn Z 135 [picks1,(.int .i64 0),v34] w fun v35 w=>
 Sj k (put (put (put (put (put (put (put (put (put (put (put (put (put (put (put (put (put (put (put (put (put (put (put (Zq [d0,picks1]) 16 d0) 17 v17) 18 v17) 19 v19) 20 v20) 21 v21) 22 v22) 23 v23) 24 v24) 25 d0) 26 v26) 27 v27) 28 v28) 4 v28) 29 picks1) 30 d0) 31 v31) 32 v32) 33 v33) 34 v34) 35 v35) 5 v35) 6 (.int .i64 0)) w))))))
theorem Gb (d0:V) (picks1:V) (w:Y) (k:KV):FY k [] (Zq [d0,picks1]) w=Ga d0 picks1 w k:=by kernel_rfl
def Sn (k:KV) (N1:KE) (ρ:Env) (w:Y):Prop:=
 px Z (Zd .lss 3 (.tmp 36) (.tmp 37) (ρ 6) (ρ 5)) w fun v38 w=>
 pC v38 (
 px Z (Zh (ρ 0)) w fun v43 w=>
 px Z (U 62 v43 4) w fun v44 w=>
 px Z (F 60 v44) w fun v45 w=>
 px Z (Zb 60 v45 (ρ 6)) w fun v47 w=>
 px Z (F 146 v47) w fun v48 w=>
 pFn Z 113 [(ρ 4),v48] w fun v49 w=>
 px Z (Zd .add 3 (.tmp 39) (.const (.int .i64 1)) (ρ 6) (.int .i64 1)) w fun v40 w=>
 N1 (put (put (put (put (put (put (put (put (put (put (put (put (put (put (put (put ρ 36 (ρ 6)) 37 (ρ 5)) 38 v38) 41 (ρ 4)) 42 (ρ 0)) 43 v43) 44 v44) 45 v45) 46 (ρ 6)) 47 v47) 48 v48) 49 v49) 4 v49) 39 (ρ 6)) 40 v40) 6 v40) w)
 (
 FY k [1,1,1,1] (put (put (put ρ 36 (ρ 6)) 37 (ρ 5)) 38 v38) w)
theorem Gc (k:KV) (N1:KE) (ρ:Env) (w:Y):Si k N1 [] ρ w=Sn k N1 ρ w:=by kernel_rfl
def Sp (k:KV) (ρ:Env) (w:Y):Prop:=
 Sk k (put (put ρ 7 (.slice none 0 0)) 8 (.int .i64 0)) w
theorem Gd (k:KV) (ρ:Env) (w:Y):FY k [1,1,1,1] ρ w=Sp k ρ w:=by kernel_rfl
def Sq (k:KV) (N2:KE) (ρ:Env) (w:Y):Prop:=
 px Z (bSem .len #[59] 3 #[(ρ 4)]) w fun v52 w=>
 px Z (Zd .lss 3 (.tmp 50) (.tmp 52) (ρ 8) v52) w fun v53 w=>
 pC v53 (
 px Z (Zb 59 (ρ 4) (ρ 8)) w fun v58 w=>
 px Z (U 144 v58 1) w fun v59 w=>
 px Z (F 142 v59) w fun v60 w=>
 FZ k N2 (put (put (put (put (put (put (put (put (put (put (put (put ρ 50 (ρ 8)) 51 (ρ 4)) 52 v52) 53 v53) 56 (ρ 4)) 57 (ρ 8)) 58 v58) 59 v59) 60 v60) 9 v60) 10 (.int .i64 0)) 11 (.int .i64 0)) w)
 (
 FY k [1,1,1,1,1,1] (put (put (put (put ρ 50 (ρ 8)) 51 (ρ 4)) 52 v52) 53 v53) w)
theorem Ge (k:KV) (N2:KE) (ρ:Env) (w:Y):Jz k N2 [] ρ w=Sq k N2 ρ w:=by kernel_rfl
def Sr (k:KV) (N2:KE) (N3:KE) (ρ:Env) (w:Y):Prop:=
 px Z (Zh (ρ 9)) w fun v63 w=>
 px Z (U 156 v63 2) w fun v64 w=>
 px Z (F 154 v64) w fun v65 w=>
 px Z (bSem .len #[154] 3 #[v65]) w fun v66 w=>
 px Z (Zd .lss 3 (.tmp 61) (.tmp 66) (ρ 11) v66) w fun v67 w=>
 pC v67 (
 px Z (Zh (ρ 9)) w fun v72 w=>
 px Z (U 156 v72 2) w fun v73 w=>
 px Z (F 154 v73) w fun v74 w=>
 px Z (Zb 154 v74 (ρ 11)) w fun v76 w=>
 px Z (F 186 v76) w fun v77 w=>
 pFn Z 136 [v77] w fun v78 w=>
 px Z (Zd .add 3 (.tmp 70) (.tmp 78) (ρ 10) v78) w fun v79 w=>
 px Z (Zd .add 3 (.tmp 68) (.const (.int .i64 1)) (ρ 11) (.int .i64 1)) w fun v69 w=>
 N3 (put (put (put (put (put (put (put (put (put (put (put (put (put (put (put (put (put (put (put (put (put ρ 61 (ρ 11)) 62 (ρ 9)) 63 v63) 64 v64) 65 v65) 66 v66) 67 v67) 70 (ρ 10)) 71 (ρ 9)) 72 v72) 73 v73) 74 v74) 75 (ρ 11)) 76 v76) 77 v77) 78 v78) 79 v79) 10 v79) 68 (ρ 11)) 69 v69) 11 v69) w)
 (
 Jz k N2 [1,0,0,1,1,1] (put (put (put (put (put (put (put ρ 61 (ρ 11)) 62 (ρ 9)) 63 v63) 64 v64) 65 v65) 66 v66) 67 v67) w)
theorem Gf (k:KV) (N2:KE) (N3:KE) (ρ:Env) (w:Y):Sl k N2 N3 [] ρ w=Sr k N2 N3 ρ w:=by kernel_rfl
def Gg (k:KV) (ρ:Env) (w:Y):Prop:=
 px Z (Zh (ρ 0)) w fun v144 w=>
 px Z (U 62 v144 2) w fun v145 w=>
 pu Z (Za 59 v145 (ρ 7)) w fun w=>
 px Z (Zh (ρ 0)) w fun v148 w=>
 px Z (U 62 v148 3) w fun v149 w=>
 pu Z (Za 59 v149 (ρ 7)) w fun w=>
 px Z (Zh (ρ 0)) w fun v151 w=>
 px Z (U 62 v151 4) w fun v152 w=>
 pu Z (Za 60 v152 (.slice none 0 0)) w fun w=>
 px Z (Zh (ρ 0)) w fun v154 w=>
 px Z (U 62 v154 0) w fun v155 w=>
 pu Z (Za 4 v155 (.bool true)) w fun w=>
 px Z (Instr.build 38 #[]) w fun v157 w=>
 px Z (Zh (ρ 0)) w fun v158 w=>
 px Z (U 62 v158 7) w fun v159 w=>
 pu Z (Za 38 v159 v157) w fun w=>
 px Z (Zh (ρ 0)) w fun v161 w=>
 px Z (U 62 v161 5) w fun v162 w=>
 pu Z (Za 3 v162 (.int .i64 0)) w fun w=>
 px Z (Zh (ρ 0)) w fun v164 w=>
 px Z (U 62 v164 6) w fun v165 w=>
 pu Z (Za 3 v165 (.int .i64 0)) w fun w=>
 k (.tuple #[]) w
theorem Gh (k:KV) (ρ:Env) (w:Y):FY k [1,1,1,1,1,1] ρ w=Gg k ρ w:=by kernel_rfl
def CX (k:KV) (N2:KE) (ρ:Env) (w:Y):Prop:=
 px Z (Zd .add 3 (.tmp 81) (.const (.int .i64 1)) (ρ 8) (.int .i64 1)) w fun v82 w=>
 pFn Z 135 [(ρ 1),v82,(ρ 10)] w fun v84 w=>
 px Z (Zh (ρ 9)) w fun v86 w=>
 px Z (U 156 v86 0) w fun v87 w=>
 px Z (F 36 v87) w fun v88 w=>
 pFn Z 94 [v88] w fun v89 w=>
 Sm k N2 (put (put (put (put (put (put (put (put (put (put (put (put (put ρ 80 (ρ 1)) 81 (ρ 8)) 82 v82) 83 (ρ 10)) 84 v84) 12 v84) 85 (ρ 9)) 86 v86) 87 v87) 88 v88) 89 v89) 13 v89) 14 (.int .i64 0)) w
theorem Gi (k:KV) (N2:KE) (ρ:Env) (w:Y):Jz k N2 [1,0,0,1,1,1] ρ w=CX k N2 ρ w:=by kernel_rfl
def Ss (k:KV) (N2:KE) (N4:KE) (ρ:Env) (w:Y):Prop:=
 px Z (Zh (ρ 9)) w fun v92 w=>
 px Z (U 156 v92 2) w fun v93 w=>
 px Z (F 154 v93) w fun v94 w=>
 px Z (bSem .len #[154] 3 #[v94]) w fun v95 w=>
 px Z (Zd .lss 3 (.tmp 90) (.tmp 95) (ρ 14) v95) w fun v96 w=>
 pG v96 true (fun k=>k (ρ 12) w) (w:=w) (next:=fun v98 w=>
 pG v96 true (fun k=>px Z (Zd .gtr 3 (.tmp 98) (.const (.int .i64 0)) v98 (.int .i64 0)) w k) (w:=w) (next:=fun v99 w=>
 px Z (Zs v96 v99 (.bool false)) w fun v100 w=>
 pC v100 (
 px Z (Zh (ρ 9)) w fun v104 w=>
 px Z (U 156 v104 2) w fun v105 w=>
 px Z (F 154 v105) w fun v106 w=>
 px Z (Zb 154 v106 (ρ 14)) w fun v108 w=>
 px Z (F 186 v108) w fun v109 w=>
 pFn Z 136 [v109] w fun v110 w=>
 px Z (Zd .gtr 3 (.tmp 111) (.tmp 112) v110 (ρ 12)) w fun v113 w=>
 pC v113 (
 Bm k N2 N4 [1,0,0,1,1] (put (put (put (put (put (put (put (put (put (put (put (put (put (put (put (put (put (put (put (put (put (put (put (put (put ρ 90 (ρ 14)) 91 (ρ 9)) 92 v92) 93 v93) 94 v94) 95 v95) 96 v96) 97 v96) 98 v98) 99 v99) 100 v100) 103 (ρ 9)) 104 v104) 105 v105) 106 v106) 107 (ρ 14)) 108 v108) 109 v109) 110 v110) 15 v110) 111 v110) 112 (ρ 12)) 113 v113) 114 (ρ 12)) 15 (ρ 12)) w)
 (
 Bm k N2 N4 [1,0,0,1,1] (put (put (put (put (put (put (put (put (put (put (put (put (put (put (put (put (put (put (put (put (put (put (put ρ 90 (ρ 14)) 91 (ρ 9)) 92 v92) 93 v93) 94 v94) 95 v95) 96 v96) 97 v96) 98 v98) 99 v99) 100 v100) 103 (ρ 9)) 104 v104) 105 v105) 106 v106) 107 (ρ 14)) 108 v108) 109 v109) 110 v110) 15 v110) 111 v110) 112 (ρ 12)) 113 v113) w))
 (
 Jz k N2 [1,0,0,1,1,1,1,1,1] (put (put (put (put (put (put (put (put (put (put (put ρ 90 (ρ 14)) 91 (ρ 9)) 92 v92) 93 v93) 94 v94) 95 v95) 96 v96) 97 v96) 98 v98) 99 v99) 100 v100) w)))
theorem Gj (k:KV) (N2:KE) (N4:KE) (ρ:Env) (w:Y):Bm k N2 N4 [] ρ w=Ss k N2 N4 ρ w:=by kernel_rfl
def Gk (k:KV) (N2:KE) (N4:KE) (ρ:Env) (w:Y):Prop:=
 px Z (Zh (ρ 9)) w fun v117 w=>
 px Z (U 156 v117 2) w fun v118 w=>
 px Z (F 154 v118) w fun v119 w=>
 px Z (Zb 154 v119 (ρ 14)) w fun v121 w=>
 px Z (F 186 v121) w fun v122 w=>
 pFn Z 116 [(ρ 13),v122,(ρ 15)] w fun v124 w=>
 px Z (Zd .sub 3 (.tmp 125) (.tmp 126) (ρ 12) (ρ 15)) w fun v127 w=>
 px Z (Zd .add 3 (.tmp 101) (.const (.int .i64 1)) (ρ 14) (.int .i64 1)) w fun v102 w=>
 N4 (put (put (put (put (put (put (put (put (put (put (put (put (put (put (put (put (put (put ρ 115 (ρ 13)) 116 (ρ 9)) 117 v117) 118 v118) 119 v119) 120 (ρ 14)) 121 v121) 122 v122) 123 (ρ 15)) 124 v124) 13 v124) 125 (ρ 12)) 126 (ρ 15)) 127 v127) 12 v127) 101 (ρ 14)) 102 v102) 14 v102) w
theorem Bn (k:KV) (N2:KE) (N4:KE) (ρ:Env) (w:Y):Bm k N2 N4 [1,0,0,1,1] ρ w=Gk k N2 N4 ρ w:=by kernel_rfl
def Bo (k:KV) (N2:KE) (ρ:Env) (w:Y):Prop:=
 ∃S:Y→Prop,S w.drew∧(fun w=>
 pq Z S (Zb 59 (ρ 4) (ρ 8)) fun v131=>
 pq Z S (U 144 v131 0) fun v132=>
 pq Z S (F 9 v132) fun v133=>
 pFn Z 94 [(ρ 13)] w fun v136 w=>S w∧(
 pq Z S (Instr.build 156 #[(0,(ρ 13)),(1,v136)]) fun v137=>
 px Z (Instr.box 156 v137) w fun v138 w=>S w∧(
 pq Z S (Instr.build 144 #[(0,v133),(1,v138)]) fun v139=>
 px Z (Instr.buildSlice 59 1 #[(0,v139)]) w fun v140 w=>S w∧(
 px Z (bSem .append #[59,59] 59 #[(ρ 7),v140]) w fun v141 w=>S w∧(
 px Z (Zd .add 3 (.tmp 54) (.const (.int .i64 1)) (ρ 8) (.int .i64 1)) w fun v55 w=>
 N2 (put (put (put (put (put (put (put (put (put (put (put (put (put (put (put (put (put (put ρ 128 (ρ 7)) 129 (ρ 4)) 130 (ρ 8)) 131 v131) 132 v132) 133 v133) 134 (ρ 13)) 135 (ρ 13)) 136 v136) 137 v137) 138 v138) 139 v139) 140 v140) 141 v141) 7 v141) 54 (ρ 8)) 55 v55) 8 v55) w))))) w.drew
theorem Bp (k:KV) (N2:KE) (ρ:Env) (w:Y):Jz k N2 [1,0,0,1,1,1,1,1,1] ρ w=Bo k N2 ρ w:=by kernel_rfl
theorem WW (d0:V) (picks1:V) (w:Y) (k:KV) (h:Ga d0 picks1 w k):pFn Z 123 [d0,picks1] w k:=
 Zm mixed func123 (by kernel_rfl) (by kernel_rfl) ntmps123 (by kernel_rfl) (by kernel_rfl) (by simp) ((Gb d0 picks1 w k).mpr h)
noncomputable def zeq:Code:=Z1 f126
def zer (k:KV) (q:List Nat) (ρ:Env) (w:Y):Prop:=At Z 7 zeq (Z8 Z f126.results.toList k) q ρ w
def Gl (d0:V) (w:Y) (k:KV):Prop:=
 px Z (Zd .neq 30 (.tmp 2) (.const (.pointer none)) d0 (.pointer none)) w fun v3 w=>
 pC v3 (
 px Z (Zh d0) w fun v5 w=>
 px Z (U 62 v5 8) w fun v6 w=>
 pu Z (Za 56 v6 (.slice none 0 0)) w fun w=>
 k (.tuple #[]) w)
 (
 k (.tuple #[]) w)
theorem Gm (d0:V) (w:Y) (k:KV):zer k [] (Zq [d0]) w=Gl d0 w k:=by kernel_rfl
theorem WX (d0:V) (w:Y) (k:KV) (h:Gl d0 w k):pFn Z 126 [d0] w k:=
 Zm mixed func126 (by kernel_rfl) (by kernel_rfl) ntmps126 (by kernel_rfl) (by kernel_rfl) (by simp) ((Gm d0 w k).mpr h)
noncomputable def Gn:Code:=Z1 f133
def WY (k:KV) (q:List Nat) (ρ:Env) (w:Y):Prop:=At Z 28 Gn (Z8 Z f133.results.toList k) q ρ w
noncomputable def qY:Code:=sub Gn [1,1,0,1,0,0]
def qZ (k:KV) (N1:KE):Xt→KE:=ZX N1 (ZJ Z 28 Gn (Z8 Z f133.results.toList k) [1,1,0,1,0])
def Bq (k:KV) (N1:KE) (q:List Nat) (ρ:Env) (w:Y):Prop:=At Z 28 qY (qZ k N1) q ρ w
def Su (k:KV) (ρ:Env) (w:Y):Prop:=ZN Z 28 Gn (Z8 Z f133.results.toList k) [1,1,0,1,0] ρ w
theorem DQ (k:KV) (I:Nat→KE) (round:∀m ρ w,I m ρ w→Bq k (fun ρ' w'=>∃m',m'<m∧I m' ρ' w') [] ρ w) {m:Nat} {ρ:Env} {w:Y} (h:I m ρ w):Su k ρ w:=
 Zw mixed (B:=Gn) (Q:=(Z8 Z f133.results.toList k)) (p:=[1,1,0,1,0]) (by kernel_rfl) (by kernel_rfl) I round h
def Gp (l0:V) (name1:V) (w:Y) (k:KV):Prop:=
 Su k (put (put (put (Zq [l0,name1]) 4 (.slice none 0 0)) 5 (.slice none 0 0)) 6 (.int .i64 0)) w
theorem Gq (l0:V) (name1:V) (w:Y) (k:KV):WY k [] (Zq [l0,name1]) w=Gp l0 name1 w k:=by kernel_rfl
def Sv (k:KV) (N1:KE) (ρ:Env) (w:Y):Prop:=
 px Z (bSem .len #[59] 3 #[(ρ 0)]) w fun v9 w=>
 px Z (Zd .lss 3 (.tmp 7) (.tmp 9) (ρ 6) v9) w fun v10 w=>
 pC v10 (
 px Z (Zb 59 (ρ 0) (ρ 6)) w fun v15 w=>
 px Z (U 144 v15 0) w fun v16 w=>
 px Z (F 9 v16) w fun v17 w=>
 px Z (Zd .neq 9 (.tmp 17) (.tmp 18) v17 (ρ 1)) w fun v19 w=>
 pC v19 (
 px Z (Zb 59 (ρ 0) (ρ 6)) w fun v23 w=>
 px Z (F 144 v23) w fun v24 w=>
 px Z (Instr.buildSlice 59 1 #[(0,v24)]) w fun v25 w=>
 px Z (bSem .append #[59,59] 59 #[(ρ 5),v25]) w fun v26 w=>
 Bq k N1 [1,1] (put (put (put (put (put (put (put (put (put (put (put (put (put (put (put (put (put (put (put ρ 7 (ρ 6)) 8 (ρ 0)) 9 v9) 10 v10) 13 (ρ 0)) 14 (ρ 6)) 15 v15) 16 v16) 17 v17) 18 (ρ 1)) 19 v19) 20 (ρ 5)) 21 (ρ 0)) 22 (ρ 6)) 23 v23) 24 v24) 25 v25) 26 v26) 5 v26) w)
 (
 Bq k N1 [1,1] (put (put (put (put (put (put (put (put (put (put (put ρ 7 (ρ 6)) 8 (ρ 0)) 9 v9) 10 v10) 13 (ρ 0)) 14 (ρ 6)) 15 v15) 16 v16) 17 v17) 18 (ρ 1)) 19 v19) w))
 (
 WY k [1,1,1] (put (put (put (put ρ 7 (ρ 6)) 8 (ρ 0)) 9 v9) 10 v10) w)
theorem Gr (k:KV) (N1:KE) (ρ:Env) (w:Y):Bq k N1 [] ρ w=Sv k N1 ρ w:=by kernel_rfl
def Gs (k:KV) (N1:KE) (ρ:Env) (w:Y):Prop:=
 px Z (Zd .add 3 (.tmp 11) (.const (.int .i64 1)) (ρ 6) (.int .i64 1)) w fun v12 w=>
 N1 (put (put (put ρ 11 (ρ 6)) 12 v12) 6 v12) w
theorem Br (k:KV) (N1:KE) (ρ:Env) (w:Y):Bq k N1 [1,1] ρ w=Gs k N1 ρ w:=by kernel_rfl
def Sw (k:KV) (ρ:Env) (w:Y):Prop:=
 k (ρ 5) w
theorem Gt (k:KV) (ρ:Env) (w:Y):WY k [1,1,1] ρ w=Sw k ρ w:=by kernel_rfl
theorem WZ (l0:V) (name1:V) (w:Y) (k:KV) (h:Gp l0 name1 w k):pFn Z 133 [l0,name1] w k:=
 Zm mixed func133 (by kernel_rfl) (by kernel_rfl) ntmps133 (by kernel_rfl) (by kernel_rfl) (by simp) ((Gq l0 name1 w k).mpr h)
noncomputable def zes:Code:=Z1 f135
def NG (k:KV) (q:List Nat) (ρ:Env) (w:Y):Prop:=At Z 26 zes (Z8 Z f135.results.toList k) q ρ w
def Gu (picks0:V) (k1:V) (n2:V) (w:Y) (k:KV):Prop:=
 px Z (bSem .len #[39] 3 #[picks0]) w fun v10 w=>
 px Z (Zd .geq 3 (.tmp 8) (.tmp 10) k1 v10) w fun v11 w=>
 pC v11 (
 k (.int .i64 0) w)
 (
 px Z (Zb 39 picks0 k1) w fun v14 w=>
 px Z (F 3 v14) w fun v15 w=>
 px Z (Zd .add 3 (.tmp 16) (.const (.int .i64 1)) n2 (.int .i64 1)) w fun v17 w=>
 px Z (Zd .rem 3 (.tmp 15) (.tmp 17) v15 v17) w fun v18 w=>
 px Z (Zd .lss 3 (.tmp 19) (.const (.int .i64 0)) v18 (.int .i64 0)) w fun v20 w=>
 pC v20 (
 px Z (Zd .add 3 (.tmp 21) (.tmp 22) v18 n2) w fun v23 w=>
 px Z (Zd .add 3 (.tmp 23) (.const (.int .i64 1)) v23 (.int .i64 1)) w fun v24 w=>
 NG k [1,1,1,1] (put (put (put (put (put (put (put (put (put (put (put (put (put (put (put (put (put (put (put (put (Zq [picks0,k1,n2]) 6 (.int .i64 0)) 8 k1) 9 picks0) 10 v10) 11 v11) 12 picks0) 13 k1) 14 v14) 15 v15) 16 n2) 17 v17) 18 v18) 7 v18) 19 v18) 20 v20) 21 v18) 22 n2) 23 v23) 24 v24) 7 v24) w)
 (
 NG k [1,1,1,1] (put (put (put (put (put (put (put (put (put (put (put (put (put (put (put (Zq [picks0,k1,n2]) 6 (.int .i64 0)) 8 k1) 9 picks0) 10 v10) 11 v11) 12 picks0) 13 k1) 14 v14) 15 v15) 16 n2) 17 v17) 18 v18) 7 v18) 19 v18) 20 v20) w))
theorem Gv (picks0:V) (k1:V) (n2:V) (w:Y) (k:KV):NG k [] (Zq [picks0,k1,n2]) w=Gu picks0 k1 n2 w k:=by kernel_rfl
def Gw (k:KV) (ρ:Env) (w:Y):Prop:=
 k (ρ 7) w
theorem Bs (k:KV) (ρ:Env) (w:Y):NG k [1,1,1,1] ρ w=Gw k ρ w:=by kernel_rfl
theorem za (picks0:V) (k1:V) (n2:V) (w:Y) (k:KV) (h:Gu picks0 k1 n2 w k):pFn Z 135 [picks0,k1,n2] w k:=
 Zm mixed func135 (by kernel_rfl) (by kernel_rfl) ntmps135 (by kernel_rfl) (by kernel_rfl) (by simp) ((Gv picks0 k1 n2 w k).mpr h)
noncomputable def zet:Code:=Z1 f136
def zeu (k:KV) (q:List Nat) (ρ:Env) (w:Y):Prop:=At Z 8 zet (Z8 Z f136.results.toList k) q ρ w
def Gx (c0:V) (w:Y) (k:KV):Prop:=
 px Z (Instr.box 186 c0) w fun v1 w=>
 px Z (U 186 v1 0) w fun v3 w=>
 px Z (F 4 v3) w fun v4 w=>
 pC v4 (
 k (.int .i64 1) w)
 (
 px Z (U 186 v1 2) w fun v5 w=>
 px Z (F 36 v5) w fun v6 w=>
 px Z (bSem .len #[36] 3 #[v6]) w fun v7 w=>
 k v7 w)
theorem Gy (c0:V) (w:Y) (k:KV):zeu k [] (Zq [c0]) w=Gx c0 w k:=by kernel_rfl
theorem zb (c0:V) (w:Y) (k:KV) (h:Gx c0 w k):pFn Z 136 [c0] w k:=
 Zm mixed func136 (by kernel_rfl) (by kernel_rfl) ntmps136 (by kernel_rfl) (by kernel_rfl) (by simp) ((Gy c0 w k).mpr h)
end Go.Proofs.YtcdcojpfealppaaGreat
