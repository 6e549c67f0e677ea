/- Put together by a program (wip/tools/shake.py): R3. -/
import Derived.Test.YtcdcojpfealppaaGreatY1
import Derived.Test.YtcdcojpfealppaaGreatProg
import Derived.Test.YtcdcojpfealppaaGreatMix
set_option linter.unusedVariables false
set_option maxRecDepth 100000
open Go.Proofs.Tryz renaming prog → Z
open Go renaming World → Y, Value → V
open Go.Instr renaming fieldAt → U, loadAt → F, storeAt → Za, indexAt → Zb
namespace Go.Proofs.YtcdcojpfealppaaGreat
open Go Go.Proofs Go.Proofs.XRed Tryz
open Go.Instr (fieldAt loadAt storeAt indexAt sliceAt extract)
noncomputable def Ml:Code:=Z1 f12
def vv (k:KV) (q:List Nat) (ρ:Env) (w:Y):Prop:=At Z 315 Ml (Z8 Z f12.results.toList k) q ρ w
noncomputable def EE:Code:=sub Ml [1,1,1,1,1,1,1,0,1,0,0]
def Mm (k:KV) (N1:KE):Xt→KE:=ZX N1 (ZJ Z 315 Ml (Z8 Z f12.results.toList k) [1,1,1,1,1,1,1,0,1,0])
def Mn (k:KV) (N1:KE) (q:List Nat) (ρ:Env) (w:Y):Prop:=At Z 315 EE (Mm k N1) q ρ w
def TD (k:KV) (ρ:Env) (w:Y):Prop:=ZN Z 315 Ml (Z8 Z f12.results.toList k) [1,1,1,1,1,1,1,0,1,0] ρ w
theorem EF (k:KV) (I:Nat→KE) (round:∀m ρ w,I m ρ w→Mn k (fun ρ' w'=>∃m',m'<m∧I m' ρ' w') [] ρ w) {m:Nat} {ρ:Env} {w:Y} (h:I m ρ w):TD k ρ w:=
 Zw mixed (B:=Ml) (Q:=(Z8 Z f12.results.toList k)) (p:=[1,1,1,1,1,1,1,0,1,0]) (by kernel_rfl) (by kernel_rfl) I round h
noncomputable def zcs:Code:=sub EE [1,0,0,1,1,1,1,1,1,1,1,1,1,1,1,0,1,0,1,0,1,0,0]
def zct (k:KV) (N1:KE) (N2:KE):Xt→KE:=ZX N2 (ZJ Z 315 EE (Mm k N1) [1,0,0,1,1,1,1,1,1,1,1,1,1,1,1,0,1,0,1,0,1,0])
def vw (k:KV) (N1:KE) (N2:KE) (q:List Nat) (ρ:Env) (w:Y):Prop:=At Z 315 zcs (zct k N1 N2) q ρ w
def TE (k:KV) (N1:KE) (ρ:Env) (w:Y):Prop:=ZN Z 315 EE (Mm k N1) [1,0,0,1,1,1,1,1,1,1,1,1,1,1,1,0,1,0,1,0,1,0] ρ w
theorem EG (k:KV) (N1:KE) (I:Nat→KE) (round:∀m ρ w,I m ρ w→vw k N1 (fun ρ' w'=>∃m',m'<m∧I m' ρ' w') [] ρ w) {m:Nat} {ρ:Env} {w:Y} (h:I m ρ w):TE k N1 ρ w:=
 Zw mixed (B:=EE) (Q:=(Mm k N1)) (p:=[1,0,0,1,1,1,1,1,1,1,1,1,1,1,1,0,1,0,1,0,1,0]) (by kernel_rfl) (by kernel_rfl) I round h
noncomputable def zcu:Code:=sub Ml [1,1,1,1,1,1,1,1,1,1,0,1,0,0]
def zcv (k:KV) (N3:KE):Xt→KE:=ZX N3 (ZJ Z 315 Ml (Z8 Z f12.results.toList k) [1,1,1,1,1,1,1,1,1,1,0,1,0])
def vx (k:KV) (N3:KE) (q:List Nat) (ρ:Env) (w:Y):Prop:=At Z 315 zcu (zcv k N3) q ρ w
def TF (k:KV) (ρ:Env) (w:Y):Prop:=ZN Z 315 Ml (Z8 Z f12.results.toList k) [1,1,1,1,1,1,1,1,1,1,0,1,0] ρ w
theorem EH (k:KV) (I:Nat→KE) (round:∀m ρ w,I m ρ w→vx k (fun ρ' w'=>∃m',m'<m∧I m' ρ' w') [] ρ w) {m:Nat} {ρ:Env} {w:Y} (h:I m ρ w):TF k ρ w:=
 Zw mixed (B:=Ml) (Q:=(Z8 Z f12.results.toList k)) (p:=[1,1,1,1,1,1,1,1,1,1,0,1,0]) (by kernel_rfl) (by kernel_rfl) I round h
def TG (room0:V) (script1:V) (w:Y) (k:KV):Prop:=
 pFn Z 15 [script1] w fun v31 w=>
 pC v31 (
 k (.bool true) w)
 (
 pFn Z 16 [room0] w fun v34 w=>
 px Z (extract v34 0) w fun v35 w=>
 px Z (extract v34 1) w fun v36 w=>
 px Z (Op.unary .not v36) w fun v38 w=>
 pG v38 false (fun k=>k v35 w) (w:=w) (next:=fun v40 w=>
 pG v38 false (fun k=>px Z (Zh v40) w k) (w:=w) (next:=fun v41 w=>
 pG v38 false (fun k=>px Z (U 33 v41 0) w k) (w:=w) (next:=fun v42 w=>
 pG v38 false (fun k=>px Z (F 29 v42) w k) (w:=w) (next:=fun v43 w=>
 pG v38 false (fun k=>px Z (Zd .eql 29 (.tmp 43) (.const (.pointer none)) v43 (.pointer none)) w k) (w:=w) (next:=fun v44 w=>
 px Z (Zs v38 (.bool true) v44) w fun v45 w=>
 pC v45 (
 pG v36 true (fun k=>pFn Z 17 [] w k) (w:=w) (next:=fun v48 w=>
 px Z (Zs v36 v48 (.bool false)) w fun v49 w=>
 k v49 w))
 (
 px Z (Instr.build 70 #[]) w fun v50 w=>
 px Z (Instr.box 70 v50) w fun v51 w=>
 TD k (put (put (put (put (put (put (put (put (put (put (put (put (put (put (put (put (put (put (put (put (put (put (put (put (put (Zq [room0,script1]) 4 (.bool false)) 30 script1) 31 v31) 33 room0) 34 v34) 32 v34) 35 v35) 36 v36) 5 v35) 6 v36) 37 v36) 38 v38) 39 v38) 40 v40) 41 v41) 42 v42) 43 v43) 44 v44) 45 v45) 50 v50) 51 v51) 7 v51) 8 (.slice none 0 0)) 9 (.slice none 0 0)) 10 (.int .i64 0)) w)))))))
theorem Mo (room0:V) (script1:V) (w:Y) (k:KV):vv k [] (Zq [room0,script1]) w=TG room0 script1 w k:=by kernel_rfl
def vy (k:KV) (N1:KE) (ρ:Env) (w:Y):Prop:=
 px Z (bSem .len #[22] 3 #[(ρ 1)]) w fun v54 w=>
 px Z (Zd .lss 3 (.tmp 52) (.tmp 54) (ρ 10) v54) w fun v55 w=>
 pG v55 true (fun k=>k (ρ 10) w) (w:=w) (next:=fun v57 w=>
 pG v55 true (fun k=>px Z (Zd .lss 3 (.tmp 57) (.const (.int .i64 40)) v57 (.int .i64 40)) w k) (w:=w) (next:=fun v58 w=>
 px Z (Zs v55 v58 (.bool false)) w fun v59 w=>
 pC v59 (
 px Z (Zb 22 (ρ 1) (ρ 10)) w fun v64 w=>
 px Z (F 41 v64) w fun v65 w=>
 px Z (Instr.alloc 41 true (.tuple #[])) w fun v11 w=>
 pu Z (Za 41 v11 v65) w fun w=>
 px Z (F 41 v11) w fun v67 w=>
 pFn Z 18 [(ρ 5),v67] w fun v68 w=>
 px Z (Op.unary .not v68) w fun v69 w=>
 pC v69 (
 k (.bool false) w)
 (
 ∃S:Y→Prop,S w.drew∧(fun w=>
 pq Z S (Zh (ρ 5)) fun v71=>
 pq Z S (U 33 v71 0) fun v72=>
 pq Z S (F 29 v72) fun v73=>
 pq Z S (Zh (ρ 5)) fun v76=>
 pq Z S (U 33 v76 0) fun v77=>
 pq Z S (F 29 v77) fun v78=>
 pFn Z 28 [v73] w fun v74 w=>S w∧(
 pFn Z 28 [v78] w fun v79 w=>S w∧(
 ∃S:Y→Prop,S w.drew∧(fun w=>
 pq Z S (Zh (ρ 5)) fun v81=>
 pq Z S (U 33 v81 0) fun v82=>
 pq Z S (F 29 v82) fun v83=>
 pq Z S (Zh (ρ 5)) fun v86=>
 pq Z S (U 33 v86 0) fun v87=>
 pq Z S (F 29 v87) fun v88=>
 pFn Z 29 [v83] w fun v84 w=>S w∧(
 pFn Z 29 [v88] w fun v89 w=>S w∧(
 ∃S:Y→Prop,S w.drew∧(fun w=>
 pq Z S (Zh (ρ 5)) fun v91=>
 pq Z S (U 33 v91 0) fun v92=>
 pq Z S (F 29 v92) fun v93=>
 pq Z S (Zh (ρ 5)) fun v96=>
 pq Z S (U 33 v96 0) fun v97=>
 pq Z S (F 29 v97) fun v98=>
 pFn Z 30 [v93,(.string (ByteArray.mk #[]))] w fun v94 w=>S w∧(
 pFn Z 30 [v98,(.string (ByteArray.mk #[]))] w fun v99 w=>S w∧(
 ∃S:Y→Prop,S w.drew∧(fun w=>
 pq Z S (Zh (ρ 5)) fun v101=>
 pq Z S (U 33 v101 0) fun v102=>
 pq Z S (F 29 v102) fun v103=>
 pq Z S (Zh (ρ 5)) fun v106=>
 pq Z S (U 33 v106 0) fun v107=>
 pq Z S (F 29 v107) fun v108=>
 pFn Z 31 [v103] w fun v104 w=>S w∧(
 pFn Z 31 [v108] w fun v109 w=>S w∧(
 ∃S:Y→Prop,S w.drew∧(fun w=>
 pq Z S (Zh (ρ 5)) fun v112=>
 pq Z S (U 33 v112 0) fun v113=>
 pq Z S (F 29 v113) fun v114=>
 pq Z S (U 41 v11 1) fun v115=>
 pq Z S (F 9 v115) fun v116=>
 pFn Z 32 [v114,v116,(.int .i64 0),(.int .i64 2)] w fun v117 w=>S w∧(
 pq Z S (extract v117 0) fun v118=>
 pq Z S (extract v117 1) fun v119=>
 ∃S:Y→Prop,S w.drew∧(fun w=>
 pq Z S (Zh (ρ 5)) fun v122=>
 pq Z S (U 33 v122 0) fun v123=>
 pq Z S (F 29 v123) fun v124=>
 pq Z S (U 41 v11 1) fun v125=>
 pq Z S (F 9 v125) fun v126=>
 pFn Z 32 [v124,v126,(.int .i64 0),(.int .i64 2)] w fun v127 w=>S w∧(
 pq Z S (extract v127 0) fun v128=>
 pq Z S (extract v127 1) fun v129=>
 px Z (Zh (ρ 5)) w fun v131 w=>
 px Z (U 33 v131 1) w fun v132 w=>
 px Z (F 30 v132) w fun v133 w=>
 pFn Z 33 [v133] w fun v134 w=>
 ∃S:Y→Prop,S w.drew∧(fun w=>
 pq Z S (Zh (ρ 5)) fun v137=>
 pq Z S (U 33 v137 1) fun v138=>
 pq Z S (F 30 v138) fun v139=>
 pq Z S (U 41 v11 1) fun v140=>
 pq Z S (F 9 v140) fun v141=>
 pFn Z 34 [v139,v141,(.int .i64 0),(.int .i64 2)] w fun v142 w=>S w∧(
 pq Z S (extract v142 0) fun v143=>
 pq Z S (extract v142 1) fun v144=>
 ∃S:Y→Prop,S w.drew∧(fun w=>
 pq Z S (Zh (ρ 5)) fun v146=>
 pq Z S (U 33 v146 1) fun v147=>
 pq Z S (F 30 v147) fun v148=>
 pq Z S (U 41 v11 1) fun v149=>
 pq Z S (F 9 v149) fun v150=>
 pFn Z 34 [v148,v150,(.int .i64 0),(.int .i64 2)] w fun v151 w=>(
 pFn Z 35 [v118,v143] w fun v154 w=>
 px Z (Op.unary .not v154) w fun v155 w=>
 pG v155 false (fun k=>k v128 w) (w:=w) (next:=fun v157 w=>
 pG v155 false (fun k=>k v143 w) (w:=w) (next:=fun v158 w=>
 pG v155 false (fun k=>pFn Z 35 [v157,v158] w k) (w:=w) (next:=fun v159 w=>
 pG v155 false (fun k=>px Z (Op.unary .not v159) w k) (w:=w) (next:=fun v160 w=>
 px Z (Zs v155 (.bool true) v160) w fun v161 w=>
 pC v161 (
 k (.bool false) w)
 (
 px Z (bSem .len #[71] 3 #[(ρ 8)]) w fun v163 w=>
 px Z (Zd .lss 3 (.tmp 163) (.const (.int .i64 300)) v163 (.int .i64 300)) w fun v164 w=>
 pC v164 (
 px Z (Zh (ρ 5)) w fun v166 w=>
 px Z (U 33 v166 0) w fun v167 w=>
 px Z (F 29 v167) w fun v168 w=>
 pFn Z 28 [v168] w fun v169 w=>
 TE k N1 (put (put (put (put (put (put (put (put (put (put (put (put (put (put (put (put (put (put (put (put (put (put (put (put (put (put (put (put (put (put (put (put (put (put (put (put (put (put (put (put (put (put (put (put (put (put (put (put (put (put (put (put (put (put (put (put (put (put (put (put (put (put (put (put (put (put (put (put (put (put (put (put (put (put (put (put (put (put (put (put (put (put (put (put (put (put (put (put (put (put (put (put (put (put (put (put (put (put (put (put (put (put (put (put (put (put (put (put (put (put (put (put (put (put (put (put (put (put (put (put (put (put (put (put (put (put (put (put (put (put (put (put (put (put ρ 52 (ρ 10)) 53 (ρ 1)) 54 v54) 55 v55) 56 v55) 57 v57) 58 v58) 59 v59) 62 (ρ 1)) 63 (ρ 10)) 64 v64) 65 v65) 11 v11) 66 (ρ 5)) 67 v67) 68 v68) 69 v69) 70 (ρ 5)) 71 v71) 72 v72) 73 v73) 75 (ρ 5)) 76 v76) 77 v77) 78 v78) 74 v74) 79 v79) 12 v74) 13 v79) 80 (ρ 5)) 81 v81) 82 v82) 83 v83) 85 (ρ 5)) 86 v86) 87 v87) 88 v88) 84 v84) 89 v89) 14 v84) 15 v89) 90 (ρ 5)) 91 v91) 92 v92) 93 v93) 95 (ρ 5)) 96 v96) 97 v97) 98 v98) 94 v94) 99 v99) 16 v94) 17 v99) 100 (ρ 5)) 101 v101) 102 v102) 103 v103) 105 (ρ 5)) 106 v106) 107 v107) 108 v108) 104 v104) 109 v109) 18 v104) 19 v109) 111 (ρ 5)) 112 v112) 113 v113) 114 v114) 115 v115) 116 v116) 117 v117) 110 v117) 118 v118) 119 v119) 20 v118) 21 v119) 121 (ρ 5)) 122 v122) 123 v123) 124 v124) 125 v125) 126 v126) 127 v127) 120 v127) 128 v128) 129 v129) 22 v128) 23 v129) 130 (ρ 5)) 131 v131) 132 v132) 133 v133) 134 v134) 24 v134) 136 (ρ 5)) 137 v137) 138 v138) 139 v139) 140 v140) 141 v141) 142 v142) 135 v142) 143 v143) 144 v144) 25 v143) 26 v144) 145 (ρ 5)) 146 v146) 147 v147) 148 v148) 149 v149) 150 v150) 151 v151) 152 v118) 153 v143) 154 v154) 155 v155) 156 v155) 157 v157) 158 v158) 159 v159) 160 v160) 161 v161) 162 (ρ 8)) 163 v163) 164 v164) 165 (ρ 5)) 166 v166) 167 v167) 168 v168) 169 v169) 27 v169) 28 (.int .i64 0)) w)
 (
 pFn Z 36 [(ρ 7),v118] w fun v213 w=>
 pFn Z 37 [(ρ 7),v74] w fun v216 w=>
 pFn Z 37 [(ρ 7),v84] w fun v219 w=>
 pFn Z 38 [(ρ 7),v94] w fun v222 w=>
 pFn Z 39 [(ρ 7),v104] w fun v225 w=>
 px Z (Zh (ρ 5)) w fun v228 w=>
 px Z (U 33 v228 1) w fun v229 w=>
 px Z (F 30 v229) w fun v230 w=>
 pFn Z 41 [v230] w fun v231 w=>
 pFn Z 40 [v79,v231] w fun v232 w=>
 px Z (Op.unary .not v232) w fun v233 w=>
 pG v233 false (fun k=>k v89 w) (w:=w) (next:=fun v235 w=>
 pG v233 false (fun k=>k (ρ 5) w) (w:=w) (next:=fun v236 w=>
 pG v233 false (fun k=>px Z (Zh v236) w k) (w:=w) (next:=fun v237 w=>
 pG v233 false (fun k=>px Z (U 33 v237 1) w k) (w:=w) (next:=fun v238 w=>
 pG v233 false (fun k=>px Z (F 30 v238) w k) (w:=w) (next:=fun v239 w=>
 pG v233 false (fun k=>pFn Z 42 [v239] w k) (w:=w) (next:=fun v240 w=>
 pG v233 false (fun k=>pFn Z 40 [v235,v240] w k) (w:=w) (next:=fun v241 w=>
 pG v233 false (fun k=>px Z (Op.unary .not v241) w k) (w:=w) (next:=fun v242 w=>
 px Z (Zs v233 (.bool true) v242) w fun v243 w=>
 pG v243 false (fun k=>k v99 w) (w:=w) (next:=fun v245 w=>
 pG v243 false (fun k=>k (ρ 5) w) (w:=w) (next:=fun v246 w=>
 pG v243 false (fun k=>px Z (Zh v246) w k) (w:=w) (next:=fun v247 w=>
 pG v243 false (fun k=>px Z (U 33 v247 1) w k) (w:=w) (next:=fun v248 w=>
 pG v243 false (fun k=>px Z (F 30 v248) w k) (w:=w) (next:=fun v249 w=>
 pG v243 false (fun k=>pFn Z 44 [v249,(.string (ByteArray.mk #[]))] w k) (w:=w) (next:=fun v250 w=>
 pG v243 false (fun k=>pFn Z 43 [v245,v250] w k) (w:=w) (next:=fun v251 w=>
 pG v243 false (fun k=>px Z (Op.unary .not v251) w k) (w:=w) (next:=fun v252 w=>
 px Z (Zs v243 (.bool true) v252) w fun v253 w=>
 pG v253 false (fun k=>k v109 w) (w:=w) (next:=fun v255 w=>
 pG v253 false (fun k=>k v134 w) (w:=w) (next:=fun v256 w=>
 pG v253 false (fun k=>pFn Z 45 [v255,v256] w k) (w:=w) (next:=fun v257 w=>
 pG v253 false (fun k=>px Z (Op.unary .not v257) w k) (w:=w) (next:=fun v258 w=>
 px Z (Zs v253 (.bool true) v258) w fun v259 w=>
 pC v259 (
 k (.bool false) w)
 (
 pFn Z 37 [(ρ 7),v79] w fun v262 w=>
 pFn Z 37 [(ρ 7),v89] w fun v265 w=>
 pFn Z 38 [(ρ 7),v99] w fun v268 w=>
 pFn Z 39 [(ρ 7),v109] w fun v271 w=>
 pFn Z 19 [(ρ 5)] w fun v273 w=>
 px Z (Op.unary .not v273) w fun v274 w=>
 pG v274 false (fun k=>k (ρ 7) w) (w:=w) (next:=fun v276 w=>
 pG v274 false (fun k=>pFn Z 46 [v276] w k) (w:=w) (next:=fun v277 w=>
 pG v274 false (fun k=>px Z (Op.unary .not v277) w k) (w:=w) (next:=fun v278 w=>
 px Z (Zs v274 (.bool true) v278) w fun v279 w=>
 pC v279 (
 k (.bool false) w)
 (
 px Z (Zd .add 3 (.tmp 60) (.const (.int .i64 1)) (ρ 10) (.int .i64 1)) w fun v61 w=>
 N1 (put (put (put (put (put (put (put (put (put (put (put (put (put (put (put (put (put (put (put (put (put (put (put (put (put (put (put (put (put (put (put (put (put (put (put (put (put (put (put (put (put (put (put (put (put (put (put (put (put (put (put (put (put (put (put (put (put (put (put (put (put (put (put (put (put (put (put (put (put (put (put (put (put (put (put (put (put (put (put (put (put (put (put (put (put (put (put (put (put (put (put (put (put (put (put (put (put (put (put (put (put (put (put (put (put (put (put (put (put (put (put (put (put (put (put (put (put (put (put (put (put (put (put (put (put (put (put (put (put (put (put (put (put (put (put (put (put (put (put (put (put (put (put (put (put (put (put (put (put (put (put (put (put (put (put (put (put (put (put (put (put (put (put (put (put (put (put (put (put (put (put (put (put (put (put (put (put (put (put (put (put (put (put (put (put (put (put (put (put (put (put (put (put (put (put (put (put (put (put ρ 52 (ρ 10)) 53 (ρ 1)) 54 v54) 55 v55) 56 v55) 57 v57) 58 v58) 59 v59) 62 (ρ 1)) 63 (ρ 10)) 64 v64) 65 v65) 11 v11) 66 (ρ 5)) 67 v67) 68 v68) 69 v69) 70 (ρ 5)) 71 v71) 72 v72) 73 v73) 75 (ρ 5)) 76 v76) 77 v77) 78 v78) 74 v74) 79 v79) 12 v74) 13 v79) 80 (ρ 5)) 81 v81) 82 v82) 83 v83) 85 (ρ 5)) 86 v86) 87 v87) 88 v88) 84 v84) 89 v89) 14 v84) 15 v89) 90 (ρ 5)) 91 v91) 92 v92) 93 v93) 95 (ρ 5)) 96 v96) 97 v97) 98 v98) 94 v94) 99 v99) 16 v94) 17 v99) 100 (ρ 5)) 101 v101) 102 v102) 103 v103) 105 (ρ 5)) 106 v106) 107 v107) 108 v108) 104 v104) 109 v109) 18 v104) 19 v109) 111 (ρ 5)) 112 v112) 113 v113) 114 v114) 115 v115) 116 v116) 117 v117) 110 v117) 118 v118) 119 v119) 20 v118) 21 v119) 121 (ρ 5)) 122 v122) 123 v123) 124 v124) 125 v125) 126 v126) 127 v127) 120 v127) 128 v128) 129 v129) 22 v128) 23 v129) 130 (ρ 5)) 131 v131) 132 v132) 133 v133) 134 v134) 24 v134) 136 (ρ 5)) 137 v137) 138 v138) 139 v139) 140 v140) 141 v141) 142 v142) 135 v142) 143 v143) 144 v144) 25 v143) 26 v144) 145 (ρ 5)) 146 v146) 147 v147) 148 v148) 149 v149) 150 v150) 151 v151) 152 v118) 153 v143) 154 v154) 155 v155) 156 v155) 157 v157) 158 v158) 159 v159) 160 v160) 161 v161) 162 (ρ 8)) 163 v163) 164 v164) 211 (ρ 7)) 212 v118) 213 v213) 214 (ρ 7)) 215 v74) 216 v216) 217 (ρ 7)) 218 v84) 219 v219) 220 (ρ 7)) 221 v94) 222 v222) 223 (ρ 7)) 224 v104) 225 v225) 226 v79) 227 (ρ 5)) 228 v228) 229 v229) 230 v230) 231 v231) 232 v232) 233 v233) 234 v233) 235 v235) 236 v236) 237 v237) 238 v238) 239 v239) 240 v240) 241 v241) 242 v242) 243 v243) 244 v243) 245 v245) 246 v246) 247 v247) 248 v248) 249 v249) 250 v250) 251 v251) 252 v252) 253 v253) 254 v253) 255 v255) 256 v256) 257 v257) 258 v258) 259 v259) 260 (ρ 7)) 261 v79) 262 v262) 263 (ρ 7)) 264 v89) 265 v265) 266 (ρ 7)) 267 v99) 268 v268) 269 (ρ 7)) 270 v109) 271 v271) 272 (ρ 5)) 273 v273) 274 v274) 275 v274) 276 v276) 277 v277) 278 v278) 279 v279) 60 (ρ 10)) 61 v61) 10 v61) w))))))))))))))))))))))))))))))))) w.drew)) w.drew)) w.drew)) w.drew))) w.drew))) w.drew))) w.drew))) w.drew))
 (
 vv k [1,1,1,1,1,1,1,1] (put (put (put (put (put (put (put (put ρ 52 (ρ 10)) 53 (ρ 1)) 54 v54) 55 v55) 56 v55) 57 v57) 58 v58) 59 v59) w)))
theorem Mp (k:KV) (N1:KE) (ρ:Env) (w:Y):Mn k N1 [] ρ w=vy k N1 ρ w:=by kernel_rfl
def vz (k:KV) (N1:KE) (N2:KE) (ρ:Env) (w:Y):Prop:=
 px Z (bSem .len #[71] 3 #[(ρ 27)]) w fun v172 w=>
 px Z (Zd .lss 3 (.tmp 170) (.tmp 172) (ρ 28) v172) w fun v173 w=>
 pC v173 (
 px Z (Zb 71 (ρ 27) (ρ 28)) w fun v179 w=>
 px Z (F 83 v179) w fun v180 w=>
 px Z (Instr.buildSlice 71 1 #[(0,v180)]) w fun v181 w=>
 px Z (bSem .append #[71,71] 71 #[(ρ 8),v181]) w fun v182 w=>
 ∃S:Y→Prop,S w.drew∧(fun w=>
 pq Z S (Zb 71 (ρ 27) (ρ 28)) fun v186=>
 pq Z S (U 83 v186 0) fun v187=>
 pq Z S (F 9 v187) fun v188=>
 pq Z S (Zb 71 (ρ 27) (ρ 28)) fun v192=>
 pq Z S (U 83 v192 1) fun v193=>
 pq Z S (F 36 v193) fun v194=>
 px Z (Instr.buildSlice 36 0 #[]) w fun v189 w=>S w∧(
 px Z (bSem .append #[36,36] 36 #[v189,v194]) w fun v195 w=>S w∧(
 pq Z S (Instr.build 83 #[(0,v188),(1,v195)]) fun v196=>
 px Z (Instr.buildSlice 71 1 #[(0,v196)]) w fun v197 w=>S w∧(
 px Z (bSem .append #[71,71] 71 #[(ρ 9),v197]) w fun v198 w=>S w∧(
 px Z (Zd .add 3 (.tmp 174) (.const (.int .i64 1)) (ρ 28) (.int .i64 1)) w fun v175 w=>
 N2 (put (put (put (put (put (put (put (put (put (put (put (put (put (put (put (put (put (put (put (put (put (put (put (put (put (put (put (put (put (put (put (put ρ 170 (ρ 28)) 171 (ρ 27)) 172 v172) 173 v173) 176 (ρ 8)) 177 (ρ 27)) 178 (ρ 28)) 179 v179) 180 v180) 181 v181) 182 v182) 8 v182) 183 (ρ 9)) 184 (ρ 27)) 185 (ρ 28)) 186 v186) 187 v187) 188 v188) 190 (ρ 27)) 191 (ρ 28)) 192 v192) 193 v193) 194 v194) 189 v189) 195 v195) 196 v196) 197 v197) 198 v198) 9 v198) 174 (ρ 28)) 175 v175) 28 v175) w))))) w.drew)
 (
 Mn k N1 [1,0,0,1,1,1,1,1,1,1,1,1,1,1,1,0,1,0,1,1] (put (put (put (put ρ 170 (ρ 28)) 171 (ρ 27)) 172 v172) 173 v173) w)
theorem Mq (k:KV) (N1:KE) (N2:KE) (ρ:Env) (w:Y):vw k N1 N2 [] ρ w=vz k N1 N2 ρ w:=by kernel_rfl
def TH (k:KV) (ρ:Env) (w:Y):Prop:=
 pFn Z 47 [(ρ 7)] w fun v281 w=>
 pFn Z 40 [(ρ 8),(ρ 9)] w fun v284 w=>
 px Z (Op.unary .not v284) w fun v285 w=>
 pG v285 false (fun k=>k (ρ 5) w) (w:=w) (next:=fun v287 w=>
 pG v285 false (fun k=>pFn Z 19 [v287] w k) (w:=w) (next:=fun v288 w=>
 pG v285 false (fun k=>px Z (Op.unary .not v288) w k) (w:=w) (next:=fun v289 w=>
 px Z (Zs v285 (.bool true) v289) w fun v290 w=>
 pC v290 (
 k (.bool false) w)
 (
 TF k (put (put (put (put (put (put (put (put (put (put (put (put ρ 280 (ρ 7)) 281 v281) 282 (ρ 8)) 283 (ρ 9)) 284 v284) 285 v285) 286 v285) 287 v287) 288 v288) 289 v289) 290 v290) 29 (.int .i64 0)) w))))
theorem CO (k:KV) (ρ:Env) (w:Y):vv k [1,1,1,1,1,1,1,1] ρ w=TH k ρ w:=by kernel_rfl
def TI (k:KV) (N1:KE) (ρ:Env) (w:Y):Prop:=
 px Z (Instr.build 83 #[(1,(ρ 22))]) w fun v201 w=>
 px Z (Instr.buildSlice 71 1 #[(0,v201)]) w fun v202 w=>
 px Z (bSem .append #[71,71] 71 #[(ρ 8),v202]) w fun v203 w=>
 px Z (Instr.buildSlice 36 0 #[]) w fun v205 w=>
 px Z (bSem .append #[36,36] 36 #[v205,(ρ 20)]) w fun v207 w=>
 px Z (Instr.build 83 #[(1,v207)]) w fun v208 w=>
 px Z (Instr.buildSlice 71 1 #[(0,v208)]) w fun v209 w=>
 px Z (bSem .append #[71,71] 71 #[(ρ 9),v209]) w fun v210 w=>
 pFn Z 36 [(ρ 7),(ρ 20)] w fun v213 w=>
 pFn Z 37 [(ρ 7),(ρ 12)] w fun v216 w=>
 pFn Z 37 [(ρ 7),(ρ 14)] w fun v219 w=>
 pFn Z 38 [(ρ 7),(ρ 16)] w fun v222 w=>
 pFn Z 39 [(ρ 7),(ρ 18)] w fun v225 w=>
 px Z (Zh (ρ 5)) w fun v228 w=>
 px Z (U 33 v228 1) w fun v229 w=>
 px Z (F 30 v229) w fun v230 w=>
 pFn Z 41 [v230] w fun v231 w=>
 pFn Z 40 [(ρ 13),v231] w fun v232 w=>
 px Z (Op.unary .not v232) w fun v233 w=>
 pG v233 false (fun k=>k (ρ 15) w) (w:=w) (next:=fun v235 w=>
 pG v233 false (fun k=>k (ρ 5) w) (w:=w) (next:=fun v236 w=>
 pG v233 false (fun k=>px Z (Zh v236) w k) (w:=w) (next:=fun v237 w=>
 pG v233 false (fun k=>px Z (U 33 v237 1) w k) (w:=w) (next:=fun v238 w=>
 pG v233 false (fun k=>px Z (F 30 v238) w k) (w:=w) (next:=fun v239 w=>
 pG v233 false (fun k=>pFn Z 42 [v239] w k) (w:=w) (next:=fun v240 w=>
 pG v233 false (fun k=>pFn Z 40 [v235,v240] w k) (w:=w) (next:=fun v241 w=>
 pG v233 false (fun k=>px Z (Op.unary .not v241) w k) (w:=w) (next:=fun v242 w=>
 px Z (Zs v233 (.bool true) v242) w fun v243 w=>
 pG v243 false (fun k=>k (ρ 17) w) (w:=w) (next:=fun v245 w=>
 pG v243 false (fun k=>k (ρ 5) w) (w:=w) (next:=fun v246 w=>
 pG v243 false (fun k=>px Z (Zh v246) w k) (w:=w) (next:=fun v247 w=>
 pG v243 false (fun k=>px Z (U 33 v247 1) w k) (w:=w) (next:=fun v248 w=>
 pG v243 false (fun k=>px Z (F 30 v248) w k) (w:=w) (next:=fun v249 w=>
 pG v243 false (fun k=>pFn Z 44 [v249,(.string (ByteArray.mk #[]))] w k) (w:=w) (next:=fun v250 w=>
 pG v243 false (fun k=>pFn Z 43 [v245,v250] w k) (w:=w) (next:=fun v251 w=>
 pG v243 false (fun k=>px Z (Op.unary .not v251) w k) (w:=w) (next:=fun v252 w=>
 px Z (Zs v243 (.bool true) v252) w fun v253 w=>
 pG v253 false (fun k=>k (ρ 19) w) (w:=w) (next:=fun v255 w=>
 pG v253 false (fun k=>k (ρ 24) w) (w:=w) (next:=fun v256 w=>
 pG v253 false (fun k=>pFn Z 45 [v255,v256] w k) (w:=w) (next:=fun v257 w=>
 pG v253 false (fun k=>px Z (Op.unary .not v257) w k) (w:=w) (next:=fun v258 w=>
 px Z (Zs v253 (.bool true) v258) w fun v259 w=>
 pC v259 (
 k (.bool false) w)
 (
 pFn Z 37 [(ρ 7),(ρ 13)] w fun v262 w=>
 pFn Z 37 [(ρ 7),(ρ 15)] w fun v265 w=>
 pFn Z 38 [(ρ 7),(ρ 17)] w fun v268 w=>
 pFn Z 39 [(ρ 7),(ρ 19)] w fun v271 w=>
 pFn Z 19 [(ρ 5)] w fun v273 w=>
 px Z (Op.unary .not v273) w fun v274 w=>
 pG v274 false (fun k=>k (ρ 7) w) (w:=w) (next:=fun v276 w=>
 pG v274 false (fun k=>pFn Z 46 [v276] w k) (w:=w) (next:=fun v277 w=>
 pG v274 false (fun k=>px Z (Op.unary .not v277) w k) (w:=w) (next:=fun v278 w=>
 px Z (Zs v274 (.bool true) v278) w fun v279 w=>
 pC v279 (
 k (.bool false) w)
 (
 px Z (Zd .add 3 (.tmp 60) (.const (.int .i64 1)) (ρ 10) (.int .i64 1)) w fun v61 w=>
 N1 (put (put (put (put (put (put (put (put (put (put (put (put (put (put (put (put (put (put (put (put (put (put (put (put (put (put (put (put (put (put (put (put (put (put (put (put (put (put (put (put (put (put (put (put (put (put (put (put (put (put (put (put (put (put (put (put (put (put (put (put (put (put (put (put (put (put (put (put (put (put (put (put (put (put (put (put (put (put (put (put (put (put (put (put (put (put ρ 199 (ρ 8)) 200 (ρ 22)) 201 v201) 202 v202) 203 v203) 8 v203) 204 (ρ 9)) 205 v205) 206 (ρ 20)) 207 v207) 208 v208) 209 v209) 210 v210) 9 v210) 211 (ρ 7)) 212 (ρ 20)) 213 v213) 214 (ρ 7)) 215 (ρ 12)) 216 v216) 217 (ρ 7)) 218 (ρ 14)) 219 v219) 220 (ρ 7)) 221 (ρ 16)) 222 v222) 223 (ρ 7)) 224 (ρ 18)) 225 v225) 226 (ρ 13)) 227 (ρ 5)) 228 v228) 229 v229) 230 v230) 231 v231) 232 v232) 233 v233) 234 v233) 235 v235) 236 v236) 237 v237) 238 v238) 239 v239) 240 v240) 241 v241) 242 v242) 243 v243) 244 v243) 245 v245) 246 v246) 247 v247) 248 v248) 249 v249) 250 v250) 251 v251) 252 v252) 253 v253) 254 v253) 255 v255) 256 v256) 257 v257) 258 v258) 259 v259) 260 (ρ 7)) 261 (ρ 13)) 262 v262) 263 (ρ 7)) 264 (ρ 15)) 265 v265) 266 (ρ 7)) 267 (ρ 17)) 268 v268) 269 (ρ 7)) 270 (ρ 19)) 271 v271) 272 (ρ 5)) 273 v273) 274 v274) 275 v274) 276 v276) 277 v277) 278 v278) 279 v279) 60 (ρ 10)) 61 v61) 10 v61) w)))))))))))))))))))))))))
theorem Mr (k:KV) (N1:KE) (ρ:Env) (w:Y):Mn k N1 [1,0,0,1,1,1,1,1,1,1,1,1,1,1,1,0,1,0,1,1] ρ w=TI k N1 ρ w:=by kernel_rfl
def vA (k:KV) (N3:KE) (ρ:Env) (w:Y):Prop:=
 px Z (bSem .len #[71] 3 #[(ρ 8)]) w fun v293 w=>
 px Z (Zd .lss 3 (.tmp 291) (.tmp 293) (ρ 29) v293) w fun v294 w=>
 pC v294 (
 px Z (Zb 71 (ρ 8) (ρ 29)) w fun v300 w=>
 px Z (U 83 v300 1) w fun v301 w=>
 px Z (F 36 v301) w fun v302 w=>
 pFn Z 36 [(ρ 7),v302] w fun v303 w=>
 px Z (Zd .add 3 (.tmp 295) (.const (.int .i64 1)) (ρ 29) (.int .i64 1)) w fun v296 w=>
 N3 (put (put (put (put (put (put (put (put (put (put (put (put (put (put ρ 291 (ρ 29)) 292 (ρ 8)) 293 v293) 294 v294) 297 (ρ 7)) 298 (ρ 8)) 299 (ρ 29)) 300 v300) 301 v301) 302 v302) 303 v303) 295 (ρ 29)) 296 v296) 29 v296) w)
 (
 vv k [1,1,1,1,1,1,1,1,1,1,1] (put (put (put (put ρ 291 (ρ 29)) 292 (ρ 8)) 293 v293) 294 v294) w)
theorem Ms (k:KV) (N3:KE) (ρ:Env) (w:Y):vx k N3 [] ρ w=vA k N3 ρ w:=by kernel_rfl
def TJ (k:KV) (ρ:Env) (w:Y):Prop:=
 pFn Z 47 [(ρ 7)] w fun v305 w=>
 pFn Z 46 [(ρ 7)] w fun v307 w=>
 pG v307 true (fun k=>k (ρ 5) w) (w:=w) (next:=fun v309 w=>
 pG v307 true (fun k=>pFn Z 19 [v309] w k) (w:=w) (next:=fun v310 w=>
 px Z (Zs v307 v310 (.bool false)) w fun v311 w=>
 pG v311 true (fun k=>pFn Z 17 [] w k) (w:=w) (next:=fun v313 w=>
 px Z (Zs v311 v313 (.bool false)) w fun v314 w=>
 k v314 w)))
theorem Mt (k:KV) (ρ:Env) (w:Y):vv k [1,1,1,1,1,1,1,1,1,1,1] ρ w=TJ k ρ w:=by kernel_rfl
theorem vB (room0:V) (script1:V) (w:Y) (k:KV) (h:TG room0 script1 w k):pFn Z 12 [room0,script1] w k:=
 Zm mixed func12 (by kernel_rfl) (by kernel_rfl) ntmps12 (by kernel_rfl) (by kernel_rfl) (by simp) ((Mo room0 script1 w k).mpr h)
noncomputable def vC:Code:=Z1 f15
def zcw (k:KV) (q:List Nat) (ρ:Env) (w:Y):Prop:=At Z 32 vC (Z8 Z f15.results.toList k) q ρ w
noncomputable def zcx:Code:=sub vC [1,1,1,0,1,0,0]
def zcy (k:KV) (N1:KE):Xt→KE:=ZX N1 (ZJ Z 32 vC (Z8 Z f15.results.toList k) [1,1,1,0,1,0])
def vD (k:KV) (N1:KE) (q:List Nat) (ρ:Env) (w:Y):Prop:=At Z 32 zcx (zcy k N1) q ρ w
def vE (k:KV) (ρ:Env) (w:Y):Prop:=ZN Z 32 vC (Z8 Z f15.results.toList k) [1,1,1,0,1,0] ρ w
theorem EI (k:KV) (I:Nat→KE) (round:∀m ρ w,I m ρ w→vD k (fun ρ' w'=>∃m',m'<m∧I m' ρ' w') [] ρ w) {m:Nat} {ρ:Env} {w:Y} (h:I m ρ w):vE k ρ w:=
 Zw mixed (B:=vC) (Q:=(Z8 Z f15.results.toList k)) (p:=[1,1,1,0,1,0]) (by kernel_rfl) (by kernel_rfl) I round h
def TK (script0:V) (w:Y) (k:KV):Prop:=
 px Z (bSem .len #[22] 3 #[script0]) w fun v6 w=>
 px Z (Zd .gtr 3 (.tmp 6) (.const (.int .i64 300)) v6 (.int .i64 300)) w fun v7 w=>
 pC v7 (
 k (.bool true) w)
 (
 vE k (put (put (put (put (put (put (Zq [script0]) 2 (.bool false)) 3 (.int .i64 0)) 5 script0) 6 v6) 7 v7) 4 (.int .i64 0)) w)
theorem Mu (script0:V) (w:Y) (k:KV):zcw k [] (Zq [script0]) w=TK script0 w k:=by kernel_rfl
def vF (k:KV) (N1:KE) (ρ:Env) (w:Y):Prop:=
 px Z (bSem .len #[22] 3 #[(ρ 0)]) w fun v10 w=>
 px Z (Zd .lss 3 (.tmp 8) (.tmp 10) (ρ 4) v10) w fun v11 w=>
 pC v11 (
 ∃S:Y→Prop,S w.drew∧(fun w=>
 pq Z S (Zb 22 (ρ 0) (ρ 4)) fun v17=>
 pq Z S (U 41 v17 5) fun v18=>
 pq Z S (F 36 v18) fun v19=>
 pq Z S (bSem .len #[36] 3 #[v19]) fun v20=>
 pq Z S (Zd .add 3 (.tmp 14) (.tmp 20) (ρ 3) v20) fun v21=>
 pq Z S (Zb 22 (ρ 0) (ρ 4)) fun v24=>
 pq Z S (U 41 v24 7) fun v25=>
 pq Z S (F 39 v25) fun v26=>
 pq Z S (bSem .len #[39] 3 #[v26]) fun v27=>
 pq Z S (Zd .mul 3 (.const (.int .i64 8)) (.tmp 27) (.int .i64 8) v27) fun v28=>
 pq Z S (Zd .add 3 (.tmp 21) (.tmp 28) v21 v28) fun v29=>
 px Z (Zd .gtr 3 (.tmp 30) (.const (.int .i64 100000)) v29 (.int .i64 100000)) w fun v31 w=>
 pC v31 (
 k (.bool true) w)
 (
 px Z (Zd .add 3 (.tmp 12) (.const (.int .i64 1)) (ρ 4) (.int .i64 1)) w fun v13 w=>
 N1 (put (put (put (put (put (put (put (put (put (put (put (put (put (put (put (put (put (put (put (put (put (put (put (put (put (put ρ 8 (ρ 4)) 9 (ρ 0)) 10 v10) 11 v11) 14 (ρ 3)) 15 (ρ 0)) 16 (ρ 4)) 17 v17) 18 v18) 19 v19) 20 v20) 21 v21) 22 (ρ 0)) 23 (ρ 4)) 24 v24) 25 v25) 26 v26) 27 v27) 28 v28) 29 v29) 3 v29) 30 v29) 31 v31) 12 (ρ 4)) 13 v13) 4 v13) w)) w.drew)
 (
 zcw k [1,1,1,1] (put (put (put (put ρ 8 (ρ 4)) 9 (ρ 0)) 10 v10) 11 v11) w)
theorem Mv (k:KV) (N1:KE) (ρ:Env) (w:Y):vD k N1 [] ρ w=vF k N1 ρ w:=by kernel_rfl
def zcz (k:KV) (ρ:Env) (w:Y):Prop:=
 k (.bool false) w
theorem Mw (k:KV) (ρ:Env) (w:Y):zcw k [1,1,1,1] ρ w=zcz k ρ w:=by kernel_rfl
theorem vG (script0:V) (w:Y) (k:KV) (h:TK script0 w k):pFn Z 15 [script0] w k:=
 Zm mixed func15 (by kernel_rfl) (by kernel_rfl) ntmps15 (by kernel_rfl) (by kernel_rfl) (by simp) ((Mu script0 w k).mpr h)
noncomputable def zkg:Code:=Z1 f16
def zkh (k:KV) (q:List Nat) (ρ:Env) (w:Y):Prop:=At Z 35 zkg (Z8 Z f16.results.toList k) q ρ w
def TL (room0:V) (w:Y) (k:KV):Prop:=
 pFn Z 52 [room0] w fun v10 w=>
 px Z (extract v10 0) w fun v11 w=>
 px Z (extract v10 1) w fun v12 w=>
 pFn Z 53 [room0] w fun v15 w=>
 px Z (extract v15 0) w fun v16 w=>
 px Z (extract v15 1) w fun v17 w=>
 px Z (Instr.build 51 #[]) w fun v20 w=>
 px Z (Instr.box 51 v20) w fun v21 w=>
 px Z (Instr.build 33 #[(0,v11),(1,v16),(2,v21)]) w fun v22 w=>
 px Z (Instr.box 33 v22) w fun v23 w=>
 pFn Z 20 [v12] w fun v25 w=>
 px Z (Zd .eql 3 (.tmp 25) (.tmp 26) v25 v17) w fun v27 w=>
 pG v27 true (fun k=>k v11 w) (w:=w) (next:=fun v29 w=>
 pG v27 true (fun k=>px Z (Zd .eql 29 (.tmp 29) (.const (.pointer none)) v29 (.pointer none)) w k) (w:=w) (next:=fun v30 w=>
 pG v27 true (fun k=>k v17 w) (w:=w) (next:=fun v31 w=>
 pG v27 true (fun k=>px Z (Zd .neq 3 (.tmp 31) (.const (.int .i64 0)) v31 (.int .i64 0)) w k) (w:=w) (next:=fun v32 w=>
 pG v27 true (fun k=>px Z (Zd .eql 4 (.tmp 30) (.tmp 32) v30 v32) w k) (w:=w) (next:=fun v33 w=>
 px Z (Zs v27 v33 (.bool false)) w fun v34 w=>
 k (.tuple #[v23,v34]) w)))))
theorem Mx (room0:V) (w:Y) (k:KV):zkh k [] (Zq [room0]) w=TL room0 w k:=by kernel_rfl
theorem vH (room0:V) (w:Y) (k:KV) (h:TL room0 w k):pFn Z 16 [room0] w k:=
 Zm mixed func16 (by kernel_rfl) (by kernel_rfl) ntmps16 (by kernel_rfl) (by kernel_rfl) (by simp) ((Mx room0 w k).mpr h)
noncomputable def zki:Code:=Z1 f17
def zkj (k:KV) (q:List Nat) (ρ:Env) (w:Y):Prop:=At Z 115 zki (Z8 Z f17.results.toList k) q ρ w
def TM (w:Y) (k:KV):Prop:=
 pFn Z 52 [(.int .i64 20)] w fun v13 w=>
 px Z (extract v13 0) w fun v14 w=>
 px Z (extract v13 1) w fun v15 w=>
 pFn Z 20 [v15] w fun v17 w=>
 px Z (Zd .neq 3 (.tmp 17) (.const (.int .i64 0)) v17 (.int .i64 0)) w fun v18 w=>
 pG v18 false (fun k=>k v14 w) (w:=w) (next:=fun v20 w=>
 pG v18 false (fun k=>px Z (Zd .eql 29 (.tmp 20) (.const (.pointer none)) v20 (.pointer none)) w k) (w:=w) (next:=fun v21 w=>
 px Z (Zs v18 (.bool true) v21) w fun v22 w=>
 pC v22 (
 k (.bool false) w)
 (
 pFn Z 21 [v14,(.string (ByteArray.mk #[97]))] w fun v24 w=>
 px Z (Instr.buildSlice 36 3 #[(0,(.int .u8 120)),(1,(.int .u8 121)),(2,(.int .u8 122))]) w fun v26 w=>
 px Z (convert 36 36 v26) w fun v27 w=>
 pFn Z 23 [v14,(.string (ByteArray.mk #[97])),v27] w fun v28 w=>
 pFn Z 54 [v14,(.string (ByteArray.mk #[97]))] w fun v30 w=>
 pFn Z 55 [v14] w fun v32 w=>
 px Z (Instr.buildSlice 36 2 #[(0,(.int .u8 49)),(1,(.int .u8 50))]) w fun v34 w=>
 px Z (convert 36 36 v34) w fun v35 w=>
 pFn Z 23 [v14,(.string (ByteArray.mk #[97])),v35] w fun v36 w=>
 pFn Z 56 [v14,(.string (ByteArray.mk #[97])),(.string (ByteArray.mk #[98]))] w fun v38 w=>
 pFn Z 32 [v14,(.string (ByteArray.mk #[98])),(.int .i64 2),(.int .i64 2)] w fun v41 w=>
 px Z (extract v41 0) w fun v42 w=>
 px Z (extract v41 1) w fun v43 w=>
 pFn Z 20 [v24] w fun v45 w=>
 pFn Z 20 [v28] w fun v47 w=>
 px Z (Zd .add 3 (.tmp 45) (.tmp 47) v45 v47) w fun v48 w=>
 pFn Z 20 [v30] w fun v50 w=>
 px Z (Zd .add 3 (.tmp 48) (.tmp 50) v48 v50) w fun v51 w=>
 pFn Z 20 [v32] w fun v53 w=>
 px Z (Zd .add 3 (.tmp 51) (.tmp 53) v51 v53) w fun v54 w=>
 pFn Z 20 [v36] w fun v56 w=>
 px Z (Zd .add 3 (.tmp 54) (.tmp 56) v54 v56) w fun v57 w=>
 pFn Z 20 [v38] w fun v59 w=>
 px Z (Zd .add 3 (.tmp 57) (.tmp 59) v57 v59) w fun v60 w=>
 pFn Z 20 [v43] w fun v62 w=>
 px Z (Zd .add 3 (.tmp 60) (.tmp 62) v60 v62) w fun v63 w=>
 px Z (Zd .neq 3 (.tmp 63) (.const (.int .i64 0)) v63 (.int .i64 0)) w fun v64 w=>
 pG v64 false (fun k=>k v42 w) (w:=w) (next:=fun v66 w=>
 pG v64 false (fun k=>px Z (convert 36 9 v66) w k) (w:=w) (next:=fun v67 w=>
 pG v64 false (fun k=>px Z (Zd .neq 9 (.tmp 67) (.const (.string (ByteArray.mk #[122,49]))) v67 (.string (ByteArray.mk #[122,49]))) w k) (w:=w) (next:=fun v68 w=>
 px Z (Zs v64 (.bool true) v68) w fun v69 w=>
 pG v69 false (fun k=>k v14 w) (w:=w) (next:=fun v71 w=>
 pG v69 false (fun k=>pFn Z 57 [v71] w k) (w:=w) (next:=fun v72 w=>
 pG v69 false (fun k=>px Z (Zd .neq 3 (.tmp 72) (.const (.int .i64 6)) v72 (.int .i64 6)) w k) (w:=w) (next:=fun v73 w=>
 px Z (Zs v69 (.bool true) v73) w fun v74 w=>
 pG v74 false (fun k=>k v14 w) (w:=w) (next:=fun v76 w=>
 pG v74 false (fun k=>pFn Z 31 [v76] w k) (w:=w) (next:=fun v77 w=>
 pG v74 false (fun k=>px Z (bSem .len #[56] 3 #[v77]) w k) (w:=w) (next:=fun v78 w=>
 pG v74 false (fun k=>px Z (Zd .neq 3 (.tmp 78) (.const (.int .i64 1)) v78 (.int .i64 1)) w k) (w:=w) (next:=fun v79 w=>
 px Z (Zs v74 (.bool true) v79) w fun v80 w=>
 pC v80 (
 k (.bool false) w)
 (
 px Z (Instr.buildSlice 39 2 #[(0,(.int .i64 1)),(1,(.int .i64 1))]) w fun v82 w=>
 pFn Z 58 [v14,v82] w fun v83 w=>
 pFn Z 28 [v14] w fun v85 w=>
 px Z (bSem .len #[71] 3 #[v85]) w fun v87 w=>
 px Z (Zd .eql 3 (.tmp 87) (.const (.int .i64 1)) v87 (.int .i64 1)) w fun v88 w=>
 pG v88 true (fun k=>k v85 w) (w:=w) (next:=fun v90 w=>
 pG v88 true (fun k=>px Z (Zb 71 v90 (.int .i64 0)) w k) (w:=w) (next:=fun v91 w=>
 pG v88 true (fun k=>px Z (U 83 v91 0) w k) (w:=w) (next:=fun v92 w=>
 pG v88 true (fun k=>px Z (F 9 v92) w k) (w:=w) (next:=fun v93 w=>
 pG v88 true (fun k=>px Z (Zd .eql 9 (.tmp 93) (.const (.string (ByteArray.mk #[98]))) v93 (.string (ByteArray.mk #[98]))) w k) (w:=w) (next:=fun v94 w=>
 px Z (Zs v88 v94 (.bool false)) w fun v95 w=>
 pG v95 true (fun k=>k v85 w) (w:=w) (next:=fun v97 w=>
 pG v95 true (fun k=>px Z (Zb 71 v97 (.int .i64 0)) w k) (w:=w) (next:=fun v98 w=>
 pG v95 true (fun k=>px Z (U 83 v98 1) w k) (w:=w) (next:=fun v99 w=>
 pG v95 true (fun k=>px Z (F 36 v99) w k) (w:=w) (next:=fun v100 w=>
 pG v95 true (fun k=>px Z (convert 36 9 v100) w k) (w:=w) (next:=fun v101 w=>
 pG v95 true (fun k=>px Z (Zd .eql 9 (.tmp 101) (.const (.string (ByteArray.mk #[120,121,122,49]))) v101 (.string (ByteArray.mk #[120,121,122,49]))) w k) (w:=w) (next:=fun v102 w=>
 px Z (Zs v95 v102 (.bool false)) w fun v103 w=>
 pG v103 true (fun k=>k v14 w) (w:=w) (next:=fun v105 w=>
 pG v103 true (fun k=>pFn Z 59 [v105,(.string (ByteArray.mk #[97]))] w k) (w:=w) (next:=fun v106 w=>
 pG v103 true (fun k=>pFn Z 20 [v106] w k) (w:=w) (next:=fun v107 w=>
 pG v103 true (fun k=>px Z (Zd .eql 3 (.tmp 107) (.const (.int .i64 53)) v107 (.int .i64 53)) w k) (w:=w) (next:=fun v108 w=>
 px Z (Zs v103 v108 (.bool false)) w fun v109 w=>
 pG v109 true (fun k=>k v14 w) (w:=w) (next:=fun v111 w=>
 pG v109 true (fun k=>pFn Z 60 [v111] w k) (w:=w) (next:=fun v112 w=>
 pG v109 true (fun k=>px Z (Zd .eql 3 (.tmp 112) (.const (.int .i64 4)) v112 (.int .i64 4)) w k) (w:=w) (next:=fun v113 w=>
 px Z (Zs v109 v113 (.bool false)) w fun v114 w=>
 k v114 w))))))))))))))))))))))))))))))))
theorem My (w:Y) (k:KV):zkj k [] (Zq []) w=TM w k:=by kernel_rfl
theorem vI (w:Y) (k:KV) (h:TM w k):pFn Z 17 [] w k:=
 Zm mixed func17 (by kernel_rfl) (by kernel_rfl) ntmps17 (by kernel_rfl) (by kernel_rfl) (by simp) ((My w k).mpr h)
noncomputable def zkk:Code:=Z1 f20
def zkl (k:KV) (q:List Nat) (ρ:Env) (w:Y):Prop:=At Z 4 zkk (Z8 Z f20.results.toList k) q ρ w
def vJ (e0:V) (w:Y) (k:KV):Prop:=
 k e0 w
theorem Mz (e0:V) (w:Y) (k:KV):zkl k [] (Zq [e0]) w=vJ e0 w k:=by kernel_rfl
theorem vK (e0:V) (w:Y) (k:KV) (h:vJ e0 w k):pFn Z 20 [e0] w k:=
 Zm mixed func20 (by kernel_rfl) (by kernel_rfl) ntmps20 (by kernel_rfl) (by kernel_rfl) (by simp) ((Mz e0 w k).mpr h)
noncomputable def vL:Code:=Z1 f35
def zc0 (k:KV) (q:List Nat) (ρ:Env) (w:Y):Prop:=At Z 26 vL (Z8 Z f35.results.toList k) q ρ w
noncomputable def zc1:Code:=sub vL [1,1,0,1,0,0]
def zc2 (k:KV) (N1:KE):Xt→KE:=ZX N1 (ZJ Z 26 vL (Z8 Z f35.results.toList k) [1,1,0,1,0])
def vM (k:KV) (N1:KE) (q:List Nat) (ρ:Env) (w:Y):Prop:=At Z 26 zc1 (zc2 k N1) q ρ w
def vN (k:KV) (ρ:Env) (w:Y):Prop:=ZN Z 26 vL (Z8 Z f35.results.toList k) [1,1,0,1,0] ρ w
theorem EJ (k:KV) (I:Nat→KE) (round:∀m ρ w,I m ρ w→vM k (fun ρ' w'=>∃m',m'<m∧I m' ρ' w') [] ρ w) {m:Nat} {ρ:Env} {w:Y} (h:I m ρ w):vN k ρ w:=
 Zw mixed (B:=vL) (Q:=(Z8 Z f35.results.toList k)) (p:=[1,1,0,1,0]) (by kernel_rfl) (by kernel_rfl) I round h
def TN (a0:V) (b1:V) (w:Y) (k:KV):Prop:=
 px Z (bSem .len #[36] 3 #[a0]) w fun v7 w=>
 px Z (bSem .len #[36] 3 #[b1]) w fun v9 w=>
 px Z (Zd .neq 3 (.tmp 7) (.tmp 9) v7 v9) w fun v10 w=>
 pC v10 (
 k (.bool false) w)
 (
 vN k (put (put (put (put (put (put (put (Zq [a0,b1]) 4 (.bool false)) 6 a0) 7 v7) 8 b1) 9 v9) 10 v10) 5 (.int .i64 0)) w)
theorem M0 (a0:V) (b1:V) (w:Y) (k:KV):zc0 k [] (Zq [a0,b1]) w=TN a0 b1 w k:=by kernel_rfl
def vO (k:KV) (N1:KE) (ρ:Env) (w:Y):Prop:=
 px Z (bSem .len #[36] 3 #[(ρ 0)]) w fun v13 w=>
 px Z (Zd .lss 3 (.tmp 11) (.tmp 13) (ρ 5) v13) w fun v14 w=>
 pC v14 (
 ∃S:Y→Prop,S w.drew∧(fun w=>
 pq Z S (Zb 36 (ρ 0) (ρ 5)) fun v19=>
 pq Z S (F 5 v19) fun v20=>
 pq Z S (Zb 36 (ρ 1) (ρ 5)) fun v23=>
 pq Z S (F 5 v23) fun v24=>
 pq Z S (Zd .neq 5 (.tmp 20) (.tmp 24) v20 v24) fun v25=>
 pC v25 (
 k (.bool false) w)
 (
 px Z (Zd .add 3 (.tmp 15) (.const (.int .i64 1)) (ρ 5) (.int .i64 1)) w fun v16 w=>
 N1 (put (put (put (put (put (put (put (put (put (put (put (put (put (put (put (put ρ 11 (ρ 5)) 12 (ρ 0)) 13 v13) 14 v14) 17 (ρ 0)) 18 (ρ 5)) 19 v19) 20 v20) 21 (ρ 1)) 22 (ρ 5)) 23 v23) 24 v24) 25 v25) 15 (ρ 5)) 16 v16) 5 v16) w)) w.drew)
 (
 zc0 k [1,1,1] (put (put (put (put ρ 11 (ρ 5)) 12 (ρ 0)) 13 v13) 14 v14) w)
theorem M1 (k:KV) (N1:KE) (ρ:Env) (w:Y):vM k N1 [] ρ w=vO k N1 ρ w:=by kernel_rfl
def vP (k:KV) (ρ:Env) (w:Y):Prop:=
 k (.bool true) w
theorem M3 (k:KV) (ρ:Env) (w:Y):zc0 k [1,1,1] ρ w=vP k ρ w:=by kernel_rfl
theorem vQ (a0:V) (b1:V) (w:Y) (k:KV) (h:TN a0 b1 w k):pFn Z 35 [a0,b1] w k:=
 Zm mixed func35 (by kernel_rfl) (by kernel_rfl) ntmps35 (by kernel_rfl) (by kernel_rfl) (by simp) ((M0 a0 b1 w k).mpr h)
noncomputable def vR:Code:=Z1 f40
def zc3 (k:KV) (q:List Nat) (ρ:Env) (w:Y):Prop:=At Z 42 vR (Z8 Z f40.results.toList k) q ρ w
noncomputable def zc4:Code:=sub vR [1,1,0,1,0,0]
def zc5 (k:KV) (N1:KE):Xt→KE:=ZX N1 (ZJ Z 42 vR (Z8 Z f40.results.toList k) [1,1,0,1,0])
def vS (k:KV) (N1:KE) (q:List Nat) (ρ:Env) (w:Y):Prop:=At Z 42 zc4 (zc5 k N1) q ρ w
def vT (k:KV) (ρ:Env) (w:Y):Prop:=ZN Z 42 vR (Z8 Z f40.results.toList k) [1,1,0,1,0] ρ w
theorem EK (k:KV) (I:Nat→KE) (round:∀m ρ w,I m ρ w→vS k (fun ρ' w'=>∃m',m'<m∧I m' ρ' w') [] ρ w) {m:Nat} {ρ:Env} {w:Y} (h:I m ρ w):vT k ρ w:=
 Zw mixed (B:=vR) (Q:=(Z8 Z f40.results.toList k)) (p:=[1,1,0,1,0]) (by kernel_rfl) (by kernel_rfl) I round h
def TO (a0:V) (b1:V) (w:Y) (k:KV):Prop:=
 px Z (bSem .len #[71] 3 #[a0]) w fun v7 w=>
 px Z (bSem .len #[71] 3 #[b1]) w fun v9 w=>
 px Z (Zd .neq 3 (.tmp 7) (.tmp 9) v7 v9) w fun v10 w=>
 pC v10 (
 k (.bool false) w)
 (
 vT k (put (put (put (put (put (put (put (Zq [a0,b1]) 4 (.bool false)) 6 a0) 7 v7) 8 b1) 9 v9) 10 v10) 5 (.int .i64 0)) w)
theorem M4 (a0:V) (b1:V) (w:Y) (k:KV):zc3 k [] (Zq [a0,b1]) w=TO a0 b1 w k:=by kernel_rfl
def vU (k:KV) (N1:KE) (ρ:Env) (w:Y):Prop:=
 px Z (bSem .len #[71] 3 #[(ρ 0)]) w fun v13 w=>
 px Z (Zd .lss 3 (.tmp 11) (.tmp 13) (ρ 5) v13) w fun v14 w=>
 pC v14 (
 ∃S:Y→Prop,S w.drew∧(fun w=>
 pq Z S (Zb 71 (ρ 0) (ρ 5)) fun v19=>
 pq Z S (U 83 v19 0) fun v20=>
 pq Z S (F 9 v20) fun v21=>
 pq Z S (Zb 71 (ρ 1) (ρ 5)) fun v24=>
 pq Z S (U 83 v24 0) fun v25=>
 pq Z S (F 9 v25) fun v26=>
 pq Z S (Zd .neq 9 (.tmp 21) (.tmp 26) v21 v26) fun v27=>
 pGq v27 false (fun k=>k (ρ 0)) (next:=fun v29=>
 pGq v27 false (fun k=>k (ρ 5)) (next:=fun v30=>
 pGq v27 false (fun k=>pq Z S (Zb 71 v29 v30) k) (next:=fun v31=>
 pGq v27 false (fun k=>pq Z S (U 83 v31 1) k) (next:=fun v32=>
 pGq v27 false (fun k=>pq Z S (F 36 v32) k) (next:=fun v33=>
 pGq v27 false (fun k=>k (ρ 1)) (next:=fun v34=>
 pGq v27 false (fun k=>k (ρ 5)) (next:=fun v35=>
 pGq v27 false (fun k=>pq Z S (Zb 71 v34 v35) k) (next:=fun v36=>
 pGq v27 false (fun k=>pq Z S (U 83 v36 1) k) (next:=fun v37=>
 pGq v27 false (fun k=>pq Z S (F 36 v37) k) (next:=fun v38=>
 pG v27 false (fun k=>pFn Z 35 [v33,v38] w k) (w:=w) (next:=fun v39 w=>S w∧(
 pGq v27 false (fun k=>pq Z S (Op.unary .not v39) k) (next:=fun v40=>
 pq Z S (Zs v27 (.bool true) v40) fun v41=>
 pC v41 (
 k (.bool false) w)
 (
 px Z (Zd .add 3 (.tmp 15) (.const (.int .i64 1)) (ρ 5) (.int .i64 1)) w fun v16 w=>
 N1 (put (put (put (put (put (put (put (put (put (put (put (put (put (put (put (put (put (put (put (put (put (put (put (put (put (put (put (put (put (put (put (put ρ 11 (ρ 5)) 12 (ρ 0)) 13 v13) 14 v14) 17 (ρ 0)) 18 (ρ 5)) 19 v19) 20 v20) 21 v21) 22 (ρ 1)) 23 (ρ 5)) 24 v24) 25 v25) 26 v26) 27 v27) 28 v27) 29 v29) 30 v30) 31 v31) 32 v32) 33 v33) 34 v34) 35 v35) 36 v36) 37 v37) 38 v38) 39 v39) 40 v40) 41 v41) 15 (ρ 5)) 16 v16) 5 v16) w))))))))))))))) w.drew)
 (
 zc3 k [1,1,1] (put (put (put (put ρ 11 (ρ 5)) 12 (ρ 0)) 13 v13) 14 v14) w)
theorem M5 (k:KV) (N1:KE) (ρ:Env) (w:Y):vS k N1 [] ρ w=vU k N1 ρ w:=by kernel_rfl
def vV (k:KV) (ρ:Env) (w:Y):Prop:=
 k (.bool true) w
theorem M6 (k:KV) (ρ:Env) (w:Y):zc3 k [1,1,1] ρ w=vV k ρ w:=by kernel_rfl
theorem vW (a0:V) (b1:V) (w:Y) (k:KV) (h:TO a0 b1 w k):pFn Z 40 [a0,b1] w k:=
 Zm mixed func40 (by kernel_rfl) (by kernel_rfl) ntmps40 (by kernel_rfl) (by kernel_rfl) (by simp) ((M4 a0 b1 w k).mpr h)
noncomputable def vX:Code:=Z1 f43
def zc6 (k:KV) (q:List Nat) (ρ:Env) (w:Y):Prop:=At Z 26 vX (Z8 Z f43.results.toList k) q ρ w
noncomputable def zc7:Code:=sub vX [1,1,0,1,0,0]
def zc8 (k:KV) (N1:KE):Xt→KE:=ZX N1 (ZJ Z 26 vX (Z8 Z f43.results.toList k) [1,1,0,1,0])
def vY (k:KV) (N1:KE) (q:List Nat) (ρ:Env) (w:Y):Prop:=At Z 26 zc7 (zc8 k N1) q ρ w
def vZ (k:KV) (ρ:Env) (w:Y):Prop:=ZN Z 26 vX (Z8 Z f43.results.toList k) [1,1,0,1,0] ρ w
theorem EL (k:KV) (I:Nat→KE) (round:∀m ρ w,I m ρ w→vY k (fun ρ' w'=>∃m',m'<m∧I m' ρ' w') [] ρ w) {m:Nat} {ρ:Env} {w:Y} (h:I m ρ w):vZ k ρ w:=
 Zw mixed (B:=vX) (Q:=(Z8 Z f43.results.toList k)) (p:=[1,1,0,1,0]) (by kernel_rfl) (by kernel_rfl) I round h
def TP (a0:V) (b1:V) (w:Y) (k:KV):Prop:=
 px Z (bSem .len #[73] 3 #[a0]) w fun v7 w=>
 px Z (bSem .len #[73] 3 #[b1]) w fun v9 w=>
 px Z (Zd .neq 3 (.tmp 7) (.tmp 9) v7 v9) w fun v10 w=>
 pC v10 (
 k (.bool false) w)
 (
 vZ k (put (put (put (put (put (put (put (Zq [a0,b1]) 4 (.bool false)) 6 a0) 7 v7) 8 b1) 9 v9) 10 v10) 5 (.int .i64 0)) w)
theorem M7 (a0:V) (b1:V) (w:Y) (k:KV):zc6 k [] (Zq [a0,b1]) w=TP a0 b1 w k:=by kernel_rfl
def ua (k:KV) (N1:KE) (ρ:Env) (w:Y):Prop:=
 px Z (bSem .len #[73] 3 #[(ρ 0)]) w fun v13 w=>
 px Z (Zd .lss 3 (.tmp 11) (.tmp 13) (ρ 5) v13) w fun v14 w=>
 pC v14 (
 ∃S:Y→Prop,S w.drew∧(fun w=>
 pq Z S (Zb 73 (ρ 0) (ρ 5)) fun v19=>
 pq Z S (F 9 v19) fun v20=>
 pq Z S (Zb 73 (ρ 1) (ρ 5)) fun v23=>
 pq Z S (F 9 v23) fun v24=>
 pq Z S (Zd .neq 9 (.tmp 20) (.tmp 24) v20 v24) fun v25=>
 pC v25 (
 k (.bool false) w)
 (
 px Z (Zd .add 3 (.tmp 15) (.const (.int .i64 1)) (ρ 5) (.int .i64 1)) w fun v16 w=>
 N1 (put (put (put (put (put (put (put (put (put (put (put (put (put (put (put (put ρ 11 (ρ 5)) 12 (ρ 0)) 13 v13) 14 v14) 17 (ρ 0)) 18 (ρ 5)) 19 v19) 20 v20) 21 (ρ 1)) 22 (ρ 5)) 23 v23) 24 v24) 25 v25) 15 (ρ 5)) 16 v16) 5 v16) w)) w.drew)
 (
 zc6 k [1,1,1] (put (put (put (put ρ 11 (ρ 5)) 12 (ρ 0)) 13 v13) 14 v14) w)
theorem M8 (k:KV) (N1:KE) (ρ:Env) (w:Y):vY k N1 [] ρ w=ua k N1 ρ w:=by kernel_rfl
def zc9 (k:KV) (ρ:Env) (w:Y):Prop:=
 k (.bool true) w
theorem M9 (k:KV) (ρ:Env) (w:Y):zc6 k [1,1,1] ρ w=zc9 k ρ w:=by kernel_rfl
theorem ub (a0:V) (b1:V) (w:Y) (k:KV) (h:TP a0 b1 w k):pFn Z 43 [a0,b1] w k:=
 Zm mixed func43 (by kernel_rfl) (by kernel_rfl) ntmps43 (by kernel_rfl) (by kernel_rfl) (by simp) ((M7 a0 b1 w k).mpr h)
noncomputable def uc:Code:=Z1 f45
def zda (k:KV) (q:List Nat) (ρ:Env) (w:Y):Prop:=At Z 26 uc (Z8 Z f45.results.toList k) q ρ w
noncomputable def zdb:Code:=sub uc [1,1,0,1,0,0]
def zdc (k:KV) (N1:KE):Xt→KE:=ZX N1 (ZJ Z 26 uc (Z8 Z f45.results.toList k) [1,1,0,1,0])
def ud (k:KV) (N1:KE) (q:List Nat) (ρ:Env) (w:Y):Prop:=At Z 26 zdb (zdc k N1) q ρ w
def ue (k:KV) (ρ:Env) (w:Y):Prop:=ZN Z 26 uc (Z8 Z f45.results.toList k) [1,1,0,1,0] ρ w
theorem EM (k:KV) (I:Nat→KE) (round:∀m ρ w,I m ρ w→ud k (fun ρ' w'=>∃m',m'<m∧I m' ρ' w') [] ρ w) {m:Nat} {ρ:Env} {w:Y} (h:I m ρ w):ue k ρ w:=
 Zw mixed (B:=uc) (Q:=(Z8 Z f45.results.toList k)) (p:=[1,1,0,1,0]) (by kernel_rfl) (by kernel_rfl) I round h
def TQ (a0:V) (b1:V) (w:Y) (k:KV):Prop:=
 px Z (bSem .len #[56] 3 #[a0]) w fun v7 w=>
 px Z (bSem .len #[56] 3 #[b1]) w fun v9 w=>
 px Z (Zd .neq 3 (.tmp 7) (.tmp 9) v7 v9) w fun v10 w=>
 pC v10 (
 k (.bool false) w)
 (
 ue k (put (put (put (put (put (put (put (Zq [a0,b1]) 4 (.bool false)) 6 a0) 7 v7) 8 b1) 9 v9) 10 v10) 5 (.int .i64 0)) w)
theorem MA (a0:V) (b1:V) (w:Y) (k:KV):zda k [] (Zq [a0,b1]) w=TQ a0 b1 w k:=by kernel_rfl
def uf (k:KV) (N1:KE) (ρ:Env) (w:Y):Prop:=
 px Z (bSem .len #[56] 3 #[(ρ 0)]) w fun v13 w=>
 px Z (Zd .lss 3 (.tmp 11) (.tmp 13) (ρ 5) v13) w fun v14 w=>
 pC v14 (
 ∃S:Y→Prop,S w.drew∧(fun w=>
 pq Z S (Zb 56 (ρ 0) (ρ 5)) fun v19=>
 pq Z S (F 134 v19) fun v20=>
 pq Z S (Zb 56 (ρ 1) (ρ 5)) fun v23=>
 pq Z S (F 134 v23) fun v24=>
 pq Z S (Zd .neq 134 (.tmp 20) (.tmp 24) v20 v24) fun v25=>
 pC v25 (
 k (.bool false) w)
 (
 px Z (Zd .add 3 (.tmp 15) (.const (.int .i64 1)) (ρ 5) (.int .i64 1)) w fun v16 w=>
 N1 (put (put (put (put (put (put (put (put (put (put (put (put (put (put (put (put ρ 11 (ρ 5)) 12 (ρ 0)) 13 v13) 14 v14) 17 (ρ 0)) 18 (ρ 5)) 19 v19) 20 v20) 21 (ρ 1)) 22 (ρ 5)) 23 v23) 24 v24) 25 v25) 15 (ρ 5)) 16 v16) 5 v16) w)) w.drew)
 (
 zda k [1,1,1] (put (put (put (put ρ 11 (ρ 5)) 12 (ρ 0)) 13 v13) 14 v14) w)
theorem MB (k:KV) (N1:KE) (ρ:Env) (w:Y):ud k N1 [] ρ w=uf k N1 ρ w:=by kernel_rfl
def zdd (k:KV) (ρ:Env) (w:Y):Prop:=
 k (.bool true) w
theorem MC (k:KV) (ρ:Env) (w:Y):zda k [1,1,1] ρ w=zdd k ρ w:=by kernel_rfl
theorem ug (a0:V) (b1:V) (w:Y) (k:KV) (h:TQ a0 b1 w k):pFn Z 45 [a0,b1] w k:=
 Zm mixed func45 (by kernel_rfl) (by kernel_rfl) ntmps45 (by kernel_rfl) (by kernel_rfl) (by simp) ((MA a0 b1 w k).mpr h)
noncomputable def zkm:Code:=Z1 f95
def zkn (k:KV) (q:List Nat) (ρ:Env) (w:Y):Prop:=At Z 19 zkm (Z8 Z f95.results.toList k) q ρ w
def TR (n0:V) (w:Y) (k:KV):Prop:=
 px Z (Zd .rem 3 (.tmp 3) (.const (.int .i64 26)) n0 (.int .i64 26)) w fun v4 w=>
 px Z (Zd .add 3 (.const (.int .i64 97)) (.tmp 4) (.int .i64 97) v4) w fun v5 w=>
 px Z (convert 3 5 v5) w fun v6 w=>
 px Z (Zd .quo 3 (.tmp 7) (.const (.int .i64 26)) n0 (.int .i64 26)) w fun v8 w=>
 px Z (Zd .rem 3 (.tmp 8) (.const (.int .i64 26)) v8 (.int .i64 26)) w fun v9 w=>
 px Z (Zd .add 3 (.const (.int .i64 97)) (.tmp 9) (.int .i64 97) v9) w fun v10 w=>
 px Z (convert 3 5 v10) w fun v11 w=>
 px Z (Zd .quo 3 (.tmp 12) (.const (.int .i64 676)) n0 (.int .i64 676)) w fun v13 w=>
 px Z (Zd .rem 3 (.tmp 13) (.const (.int .i64 26)) v13 (.int .i64 26)) w fun v14 w=>
 px Z (Zd .add 3 (.const (.int .i64 97)) (.tmp 14) (.int .i64 97) v14) w fun v15 w=>
 px Z (convert 3 5 v15) w fun v16 w=>
 px Z (Instr.buildSlice 36 3 #[(0,v6),(1,v11),(2,v16)]) w fun v17 w=>
 px Z (convert 36 9 v17) w fun v18 w=>
 k v18 w
theorem MD (n0:V) (w:Y) (k:KV):zkn k [] (Zq [n0]) w=TR n0 w k:=by kernel_rfl
theorem uh (n0:V) (w:Y) (k:KV) (h:TR n0 w k):pFn Z 95 [n0] w k:=
 Zm mixed func95 (by kernel_rfl) (by kernel_rfl) ntmps95 (by kernel_rfl) (by kernel_rfl) (by simp) ((MD n0 w k).mpr h)
noncomputable def zko:Code:=Z1 f18
def zkp (k:KV) (q:List Nat) (ρ:Env) (w:Y):Prop:=At Z 190 zko (Z8 Z f18.results.toList k) q ρ w
def TS (p0:V) (x1:V) (w:Y) (k:KV):Prop:=
 px Z (Instr.box 41 x1) w fun v3 w=>
 px Z (U 41 v3 0) w fun v5 w=>
 px Z (F 3 v5) w fun v6 w=>
 px Z (Zd .eql 3 (.tmp 6) (.const (.int .i64 1)) v6 (.int .i64 1)) w fun v8 w=>
 pC v8 (
 ∃S:Y→Prop,S w.drew∧(fun w=>
 pq Z S (Zh p0) fun v10=>
 pq Z S (U 33 v10 0) fun v11=>
 pq Z S (F 29 v11) fun v12=>
 pq Z S (U 41 v3 1) fun v13=>
 pq Z S (F 9 v13) fun v14=>
 pq Z S (Zh p0) fun v18=>
 pq Z S (U 33 v18 1) fun v19=>
 pq Z S (F 30 v19) fun v20=>
 pq Z S (U 41 v3 1) fun v21=>
 pq Z S (F 9 v21) fun v22=>
 pFn Z 21 [v12,v14] w fun v15 w=>S w∧(
 pFn Z 20 [v15] w fun v16 w=>S w∧(
 pFn Z 61 [v20,v22] w fun v23 w=>S w∧(
 pq Z S (Zd .eql 3 (.tmp 16) (.tmp 23) v16 v23) fun v24=>
 k v24 w)))) w.drew)
 (
 px Z (Zd .eql 3 (.tmp 6) (.const (.int .i64 2)) v6 (.int .i64 2)) w fun v26 w=>
 pC v26 (
 ∃S:Y→Prop,S w.drew∧(fun w=>
 pq Z S (Zh p0) fun v28=>
 pq Z S (U 33 v28 0) fun v29=>
 pq Z S (F 29 v29) fun v30=>
 pq Z S (U 41 v3 1) fun v31=>
 pq Z S (F 9 v31) fun v32=>
 pq Z S (U 41 v3 3) fun v33=>
 pq Z S (F 3 v33) fun v34=>
 pq Z S (Zh p0) fun v36=>
 pq Z S (U 33 v36 2) fun v37=>
 pq Z S (F 31 v37) fun v38=>
 pq Z S (U 41 v3 5) fun v39=>
 pq Z S (F 36 v39) fun v40=>
 pq Z S (Zh p0) fun v45=>
 pq Z S (U 33 v45 1) fun v46=>
 pq Z S (F 30 v46) fun v47=>
 pq Z S (U 41 v3 1) fun v48=>
 pq Z S (F 9 v48) fun v49=>
 pq Z S (U 41 v3 3) fun v50=>
 pq Z S (F 3 v50) fun v51=>
 pq Z S (U 41 v3 5) fun v52=>
 pq Z S (F 36 v52) fun v53=>
 pFn Z 63 [v38,v40] w fun v41 w=>S w∧(
 pFn Z 62 [v30,v32,v34,v41] w fun v42 w=>S w∧(
 pFn Z 20 [v42] w fun v43 w=>S w∧(
 pFn Z 64 [v47,v49,v51,v53] w fun v54 w=>S w∧(
 pq Z S (Zd .eql 3 (.tmp 43) (.tmp 54) v43 v54) fun v55=>
 pGq v55 true (fun k=>k p0) (next:=fun v57=>
 pGq v55 true (fun k=>pq Z S (F 41 v3) k) (next:=fun v58=>
 pG v55 true (fun k=>pFn Z 65 [v57,v58] w k) (w:=w) (next:=fun v59 w=>S w∧(
 pq Z S (Zs v55 v59 (.bool false)) fun v60=>
 k v60 w))))))))) w.drew)
 (
 px Z (Zd .eql 3 (.tmp 6) (.const (.int .i64 3)) v6 (.int .i64 3)) w fun v62 w=>
 pC v62 (
 ∃S:Y→Prop,S w.drew∧(fun w=>
 pq Z S (Zh p0) fun v64=>
 pq Z S (U 33 v64 0) fun v65=>
 pq Z S (F 29 v65) fun v66=>
 pq Z S (U 41 v3 1) fun v67=>
 pq Z S (F 9 v67) fun v68=>
 pq Z S (Zh p0) fun v70=>
 pq Z S (U 33 v70 2) fun v71=>
 pq Z S (F 31 v71) fun v72=>
 pq Z S (U 41 v3 5) fun v73=>
 pq Z S (F 36 v73) fun v74=>
 pq Z S (Zh p0) fun v79=>
 pq Z S (U 33 v79 1) fun v80=>
 pq Z S (F 30 v80) fun v81=>
 pq Z S (U 41 v3 1) fun v82=>
 pq Z S (F 9 v82) fun v83=>
 pq Z S (U 41 v3 5) fun v84=>
 pq Z S (F 36 v84) fun v85=>
 pFn Z 63 [v72,v74] w fun v75 w=>S w∧(
 pFn Z 23 [v66,v68,v75] w fun v76 w=>S w∧(
 pFn Z 20 [v76] w fun v77 w=>S w∧(
 pFn Z 66 [v81,v83,v85] w fun v86 w=>S w∧(
 pq Z S (Zd .eql 3 (.tmp 77) (.tmp 86) v77 v86) fun v87=>
 pGq v87 true (fun k=>k p0) (next:=fun v89=>
 pGq v87 true (fun k=>pq Z S (F 41 v3) k) (next:=fun v90=>
 pG v87 true (fun k=>pFn Z 65 [v89,v90] w k) (w:=w) (next:=fun v91 w=>S w∧(
 pq Z S (Zs v87 v91 (.bool false)) fun v92=>
 k v92 w))))))))) w.drew)
 (
 px Z (Zd .eql 3 (.tmp 6) (.const (.int .i64 4)) v6 (.int .i64 4)) w fun v94 w=>
 pC v94 (
 ∃S:Y→Prop,S w.drew∧(fun w=>
 pq Z S (Zh p0) fun v96=>
 pq Z S (U 33 v96 0) fun v97=>
 pq Z S (F 29 v97) fun v98=>
 pq Z S (U 41 v3 1) fun v99=>
 pq Z S (F 9 v99) fun v100=>
 pq Z S (U 41 v3 4) fun v101=>
 pq Z S (F 3 v101) fun v102=>
 pq Z S (Zh p0) fun v106=>
 pq Z S (U 33 v106 1) fun v107=>
 pq Z S (F 30 v107) fun v108=>
 pq Z S (U 41 v3 1) fun v109=>
 pq Z S (F 9 v109) fun v110=>
 pq Z S (U 41 v3 4) fun v111=>
 pq Z S (F 3 v111) fun v112=>
 pFn Z 67 [v98,v100,v102] w fun v103 w=>S w∧(
 pFn Z 20 [v103] w fun v104 w=>S w∧(
 pFn Z 68 [v108,v110,v112] w fun v113 w=>S w∧(
 pq Z S (Zd .eql 3 (.tmp 104) (.tmp 113) v104 v113) fun v114=>
 k v114 w)))) w.drew)
 (
 px Z (Zd .eql 3 (.tmp 6) (.const (.int .i64 5)) v6 (.int .i64 5)) w fun v116 w=>
 pC v116 (
 ∃S:Y→Prop,S w.drew∧(fun w=>
 pq Z S (Zh p0) fun v118=>
 pq Z S (U 33 v118 0) fun v119=>
 pq Z S (F 29 v119) fun v120=>
 pq Z S (U 41 v3 1) fun v121=>
 pq Z S (F 9 v121) fun v122=>
 pq Z S (U 41 v3 2) fun v123=>
 pq Z S (F 9 v123) fun v124=>
 pq Z S (Zh p0) fun v128=>
 pq Z S (U 33 v128 1) fun v129=>
 pq Z S (F 30 v129) fun v130=>
 pq Z S (U 41 v3 1) fun v131=>
 pq Z S (F 9 v131) fun v132=>
 pq Z S (U 41 v3 2) fun v133=>
 pq Z S (F 9 v133) fun v134=>
 pFn Z 56 [v120,v122,v124] w fun v125 w=>S w∧(
 pFn Z 20 [v125] w fun v126 w=>S w∧(
 pFn Z 69 [v130,v132,v134] w fun v135 w=>S w∧(
 pq Z S (Zd .eql 3 (.tmp 126) (.tmp 135) v126 v135) fun v136=>
 k v136 w)))) w.drew)
 (
 px Z (Zd .eql 3 (.tmp 6) (.const (.int .i64 6)) v6 (.int .i64 6)) w fun v138 w=>
 pC v138 (
 ∃S:Y→Prop,S w.drew∧(fun w=>
 pq Z S (Zh p0) fun v140=>
 pq Z S (U 33 v140 0) fun v141=>
 pq Z S (F 29 v141) fun v142=>
 pq Z S (U 41 v3 1) fun v143=>
 pq Z S (F 9 v143) fun v144=>
 pq Z S (Zh p0) fun v148=>
 pq Z S (U 33 v148 1) fun v149=>
 pq Z S (F 30 v149) fun v150=>
 pq Z S (U 41 v3 1) fun v151=>
 pq Z S (F 9 v151) fun v152=>
 pFn Z 59 [v142,v144] w fun v145 w=>S w∧(
 pFn Z 20 [v145] w fun v146 w=>S w∧(
 pFn Z 70 [v150,v152] w fun v153 w=>S w∧(
 pq Z S (Zd .eql 3 (.tmp 146) (.tmp 153) v146 v153) fun v154=>
 k v154 w)))) w.drew)
 (
 px Z (Zd .eql 3 (.tmp 6) (.const (.int .i64 7)) v6 (.int .i64 7)) w fun v156 w=>
 pC v156 (
 ∃S:Y→Prop,S w.drew∧(fun w=>
 pq Z S (Zh p0) fun v158=>
 pq Z S (U 33 v158 0) fun v159=>
 pq Z S (F 29 v159) fun v160=>
 pq Z S (U 41 v3 1) fun v161=>
 pq Z S (F 9 v161) fun v162=>
 pq Z S (Zh p0) fun v166=>
 pq Z S (U 33 v166 1) fun v167=>
 pq Z S (F 30 v167) fun v168=>
 pq Z S (U 41 v3 1) fun v169=>
 pq Z S (F 9 v169) fun v170=>
 pFn Z 54 [v160,v162] w fun v163 w=>S w∧(
 pFn Z 20 [v163] w fun v164 w=>S w∧(
 pFn Z 71 [v168,v170] w fun v171 w=>S w∧(
 pq Z S (Zd .eql 3 (.tmp 164) (.tmp 171) v164 v171) fun v172=>
 k v172 w)))) w.drew)
 (
 px Z (Zd .eql 3 (.tmp 6) (.const (.int .i64 8)) v6 (.int .i64 8)) w fun v174 w=>
 pC v174 (
 ∃S:Y→Prop,S w.drew∧(fun w=>
 pq Z S (Zh p0) fun v176=>
 pq Z S (U 33 v176 0) fun v177=>
 pq Z S (F 29 v177) fun v178=>
 pq Z S (Zh p0) fun v182=>
 pq Z S (U 33 v182 1) fun v183=>
 pq Z S (F 30 v183) fun v184=>
 pFn Z 55 [v178] w fun v179 w=>S w∧(
 pFn Z 20 [v179] w fun v180 w=>S w∧(
 pFn Z 72 [v184] w fun v185 w=>S w∧(
 pq Z S (Zd .eql 3 (.tmp 180) (.tmp 185) v180 v185) fun v186=>
 k v186 w)))) w.drew)
 (
 px Z (F 41 v3) w fun v188 w=>
 pFn Z 73 [p0,v188] w fun v189 w=>
 k v189 w))))))))
theorem ME (p0:V) (x1:V) (w:Y) (k:KV):zkp k [] (Zq [p0,x1]) w=TS p0 x1 w k:=by kernel_rfl
theorem ui (p0:V) (x1:V) (w:Y) (k:KV) (h:TS p0 x1 w k):pFn Z 18 [p0,x1] w k:=
 Zm mixed func18 (by kernel_rfl) (by kernel_rfl) ntmps18 (by kernel_rfl) (by kernel_rfl) (by simp) ((ME p0 x1 w k).mpr h)
noncomputable def uj:Code:=Z1 f63
def vm (k:KV) (q:List Nat) (ρ:Env) (w:Y):Prop:=At Z 51 uj (Z8 Z f63.results.toList k) q ρ w
noncomputable def zde:Code:=sub uj [1,1,0,1,0,0]
def zdf (k:KV) (N1:KE):Xt→KE:=ZX N1 (ZJ Z 51 uj (Z8 Z f63.results.toList k) [1,1,0,1,0])
def uk (k:KV) (N1:KE) (q:List Nat) (ρ:Env) (w:Y):Prop:=At Z 51 zde (zdf k N1) q ρ w
def MF (k:KV) (ρ:Env) (w:Y):Prop:=ZN Z 51 uj (Z8 Z f63.results.toList k) [1,1,0,1,0] ρ w
theorem EN (k:KV) (I:Nat→KE) (round:∀m ρ w,I m ρ w→uk k (fun ρ' w'=>∃m',m'<m∧I m' ρ' w') [] ρ w) {m:Nat} {ρ:Env} {w:Y} (h:I m ρ w):MF k ρ w:=
 Zw mixed (B:=uj) (Q:=(Z8 Z f63.results.toList k)) (p:=[1,1,0,1,0]) (by kernel_rfl) (by kernel_rfl) I round h
def TT (d0:V) (data1:V) (w:Y) (k:KV):Prop:=
 px Z (Zh d0) w fun v7 w=>
 px Z (U 51 v7 0) w fun v8 w=>
 px Z (F 36 v8) w fun v9 w=>
 px Z (bSem .len #[36] 3 #[v9]) w fun v10 w=>
 px Z (bSem .len #[36] 3 #[data1]) w fun v12 w=>
 px Z (Zd .add 3 (.tmp 12) (.const (.int .i64 5)) v12 (.int .i64 5)) w fun v13 w=>
 px Z (Zd .lss 3 (.tmp 10) (.tmp 13) v10 v13) w fun v14 w=>
 pC v14 (
 px Z (bSem .len #[36] 3 #[data1]) w fun v17 w=>
 px Z (Zd .mul 3 (.const (.int .i64 2)) (.tmp 17) (.int .i64 2) v17) w fun v18 w=>
 px Z (Zd .add 3 (.tmp 18) (.const (.int .i64 40)) v18 (.int .i64 40)) w fun v19 w=>
 px Z (Instr.makeSlice 36 v19 v19) w fun v20 w=>
 px Z (Zh d0) w fun v21 w=>
 px Z (U 51 v21 0) w fun v22 w=>
 pu Z (Za 36 v22 v20) w fun w=>
 vm k [1,1] (put (put (put (put (put (put (put (put (put (put (put (put (put (put (put (put (put (put (Zq [d0,data1]) 4 (.slice none 0 0)) 6 d0) 7 v7) 8 v8) 9 v9) 10 v10) 11 data1) 12 v12) 13 v13) 14 v14) 15 d0) 16 data1) 17 v17) 18 v18) 19 v19) 20 v20) 21 v21) 22 v22) w)
 (
 vm k [1,1] (put (put (put (put (put (put (put (put (put (put (Zq [d0,data1]) 4 (.slice none 0 0)) 6 d0) 7 v7) 8 v8) 9 v9) 10 v10) 11 data1) 12 v12) 13 v13) 14 v14) w)
theorem MG (d0:V) (data1:V) (w:Y) (k:KV):vm k [] (Zq [d0,data1]) w=TT d0 data1 w k:=by kernel_rfl
def TU (k:KV) (ρ:Env) (w:Y):Prop:=
 MF k (put ρ 5 (.int .i64 0)) w
theorem CP (k:KV) (ρ:Env) (w:Y):vm k [1,1] ρ w=TU k ρ w:=by kernel_rfl
def um (k:KV) (N1:KE) (ρ:Env) (w:Y):Prop:=
 px Z (Zh (ρ 0)) w fun v25 w=>
 px Z (U 51 v25 0) w fun v26 w=>
 px Z (F 36 v26) w fun v27 w=>
 px Z (bSem .len #[36] 3 #[v27]) w fun v28 w=>
 px Z (Zd .lss 3 (.tmp 23) (.tmp 28) (ρ 5) v28) w fun v29 w=>
 pC v29 (
 px Z (Zh (ρ 0)) w fun v33 w=>
 px Z (U 51 v33 0) w fun v34 w=>
 px Z (F 36 v34) w fun v35 w=>
 px Z (Zb 36 v35 (ρ 5)) w fun v37 w=>
 pu Z (Za 5 v37 (.int .u8 171)) w fun w=>
 px Z (Zd .add 3 (.tmp 30) (.const (.int .i64 1)) (ρ 5) (.int .i64 1)) w fun v31 w=>
 N1 (put (put (put (put (put (put (put (put (put (put (put (put (put (put (put (put ρ 23 (ρ 5)) 24 (ρ 0)) 25 v25) 26 v26) 27 v27) 28 v28) 29 v29) 32 (ρ 0)) 33 v33) 34 v34) 35 v35) 36 (ρ 5)) 37 v37) 30 (ρ 5)) 31 v31) 5 v31) w)
 (
 vm k [1,1,1] (put (put (put (put (put (put (put ρ 23 (ρ 5)) 24 (ρ 0)) 25 v25) 26 v26) 27 v27) 28 v28) 29 v29) w)
theorem MH (k:KV) (N1:KE) (ρ:Env) (w:Y):uk k N1 [] ρ w=um k N1 ρ w:=by kernel_rfl
def TV (k:KV) (ρ:Env) (w:Y):Prop:=
 px Z (Zh (ρ 0)) w fun v39 w=>
 px Z (U 51 v39 0) w fun v40 w=>
 px Z (F 36 v40) w fun v41 w=>
 px Z (bSem .copy #[36,36] 3 #[v41,(ρ 1)]) w fun v43 w=>
 px Z (Zh (ρ 0)) w fun v45 w=>
 px Z (U 51 v45 0) w fun v46 w=>
 px Z (F 36 v46) w fun v47 w=>
 px Z (bSem .len #[36] 3 #[(ρ 1)]) w fun v49 w=>
 px Z (sliceAt 36 v47 none (some v49) none) w fun v50 w=>
 k v50 w
theorem MI (k:KV) (ρ:Env) (w:Y):vm k [1,1,1] ρ w=TV k ρ w:=by kernel_rfl
theorem uo (d0:V) (data1:V) (w:Y) (k:KV) (h:TT d0 data1 w k):pFn Z 63 [d0,data1] w k:=
 Zm mixed func63 (by kernel_rfl) (by kernel_rfl) ntmps63 (by kernel_rfl) (by kernel_rfl) (by simp) ((MG d0 data1 w k).mpr h)
noncomputable def zkq:Code:=Z1 f65
def zkr (k:KV) (q:List Nat) (ρ:Env) (w:Y):Prop:=At Z 19 zkq (Z8 Z f65.results.toList k) q ρ w
def TW (p0:V) (x1:V) (w:Y) (k:KV):Prop:=
 px Z (Instr.box 41 x1) w fun v3 w=>
 ∃S:Y→Prop,S w.drew∧(fun w=>
 pq Z S (Zh p0) fun v7=>
 pq Z S (U 33 v7 2) fun v8=>
 pq Z S (F 31 v8) fun v9=>
 pq Z S (U 41 v3 5) fun v10=>
 pq Z S (F 36 v10) fun v11=>
 pFn Z 117 [v9,v11] w fun v12 w=>S w∧(
 px Z (Zh p0) w fun v14 w=>
 px Z (U 33 v14 2) w fun v15 w=>
 px Z (F 31 v15) w fun v16 w=>
 pFn Z 63 [v16,(.slice none 0 0)] w fun v17 w=>
 k v12 w)) w.drew
theorem MJ (p0:V) (x1:V) (w:Y) (k:KV):zkr k [] (Zq [p0,x1]) w=TW p0 x1 w k:=by kernel_rfl
theorem uq (p0:V) (x1:V) (w:Y) (k:KV) (h:TW p0 x1 w k):pFn Z 65 [p0,x1] w k:=
 Zm mixed func65 (by kernel_rfl) (by kernel_rfl) ntmps65 (by kernel_rfl) (by kernel_rfl) (by simp) ((MJ p0 x1 w k).mpr h)
noncomputable def zks:Code:=Z1 f73
def vn (k:KV) (q:List Nat) (ρ:Env) (w:Y):Prop:=At Z 207 zks (Z8 Z f73.results.toList k) q ρ w
def TX (p0:V) (x1:V) (w:Y) (k:KV):Prop:=
 px Z (Instr.box 41 x1) w fun v3 w=>
 px Z (U 41 v3 0) w fun v16 w=>
 px Z (F 3 v16) w fun v17 w=>
 px Z (Zd .eql 3 (.tmp 17) (.const (.int .i64 9)) v17 (.int .i64 9)) w fun v19 w=>
 pC v19 (
 ∃S:Y→Prop,S w.drew∧(fun w=>
 pq Z S (Zh p0) fun v22=>
 pq Z S (U 33 v22 0) fun v23=>
 pq Z S (F 29 v23) fun v24=>
 pq Z S (U 41 v3 1) fun v25=>
 pq Z S (F 9 v25) fun v26=>
 pq Z S (U 41 v3 3) fun v27=>
 pq Z S (F 3 v27) fun v28=>
 pq Z S (U 41 v3 4) fun v29=>
 pq Z S (F 3 v29) fun v30=>
 pFn Z 32 [v24,v26,v28,v30] w fun v31 w=>S w∧(
 pq Z S (extract v31 0) fun v32=>
 pq Z S (extract v31 1) fun v33=>
 ∃S:Y→Prop,S w.drew∧(fun w=>
 pq Z S (Zh p0) fun v36=>
 pq Z S (U 33 v36 1) fun v37=>
 pq Z S (F 30 v37) fun v38=>
 pq Z S (U 41 v3 1) fun v39=>
 pq Z S (F 9 v39) fun v40=>
 pq Z S (U 41 v3 3) fun v41=>
 pq Z S (F 3 v41) fun v42=>
 pq Z S (U 41 v3 4) fun v43=>
 pq Z S (F 3 v43) fun v44=>
 pFn Z 34 [v38,v40,v42,v44] w fun v45 w=>S w∧(
 pq Z S (extract v45 0) fun v46=>
 pq Z S (extract v45 1) fun v47=>
 pFn Z 20 [v33] w fun v49 w=>
 px Z (Zd .eql 3 (.tmp 49) (.tmp 50) v49 v47) w fun v51 w=>
 pG v51 true (fun k=>k v32 w) (w:=w) (next:=fun v53 w=>
 pG v51 true (fun k=>k v46 w) (w:=w) (next:=fun v54 w=>
 pG v51 true (fun k=>pFn Z 35 [v53,v54] w k) (w:=w) (next:=fun v55 w=>
 px Z (Zs v51 v55 (.bool false)) w fun v56 w=>
 k v56 w))))) w.drew)) w.drew)
 (
 px Z (Zd .eql 3 (.tmp 17) (.const (.int .i64 10)) v17 (.int .i64 10)) w fun v58 w=>
 pC v58 (
 ∃S:Y→Prop,S w.drew∧(fun w=>
 pq Z S (Zh p0) fun v61=>
 pq Z S (U 33 v61 0) fun v62=>
 pq Z S (F 29 v62) fun v63=>
 pq Z S (U 41 v3 1) fun v64=>
 pq Z S (F 9 v64) fun v65=>
 pFn Z 119 [v63,v65] w fun v66 w=>S w∧(
 pq Z S (extract v66 0) fun v67=>
 pq Z S (extract v66 1) fun v68=>
 ∃S:Y→Prop,S w.drew∧(fun w=>
 pq Z S (Zh p0) fun v71=>
 pq Z S (U 33 v71 1) fun v72=>
 pq Z S (F 30 v72) fun v73=>
 pq Z S (U 41 v3 1) fun v74=>
 pq Z S (F 9 v74) fun v75=>
 pFn Z 120 [v73,v75] w fun v76 w=>S w∧(
 pq Z S (extract v76 0) fun v77=>
 pq Z S (extract v76 1) fun v78=>
 ∃S:Y→Prop,S w.drew∧(fun w=>
 pFn Z 20 [v68] w fun v80 w=>S w∧(
 pq Z S (Zd .eql 3 (.tmp 80) (.tmp 81) v80 v78) fun v82=>
 pGq v82 true (fun k=>k v67) (next:=fun v84=>
 pGq v82 true (fun k=>k v77) (next:=fun v85=>
 pGq v82 true (fun k=>pq Z S (Zd .eql 3 (.tmp 84) (.tmp 85) v84 v85) k) (next:=fun v86=>
 pq Z S (Zs v82 v86 (.bool false)) fun v87=>
 pGq v87 true (fun k=>k p0) (next:=fun v89=>
 pGq v87 true (fun k=>pq Z S (Zh v89) k) (next:=fun v90=>
 pGq v87 true (fun k=>pq Z S (U 33 v90 0) k) (next:=fun v91=>
 pGq v87 true (fun k=>pq Z S (F 29 v91) k) (next:=fun v92=>
 pGq v87 true (fun k=>pq Z S (U 41 v3 1) k) (next:=fun v93=>
 pGq v87 true (fun k=>pq Z S (F 9 v93) k) (next:=fun v94=>
 pGq v87 true (fun k=>k p0) (next:=fun v96=>
 pGq v87 true (fun k=>pq Z S (Zh v96) k) (next:=fun v97=>
 pGq v87 true (fun k=>pq Z S (U 33 v97 1) k) (next:=fun v98=>
 pGq v87 true (fun k=>pq Z S (F 30 v98) k) (next:=fun v99=>
 pGq v87 true (fun k=>pq Z S (U 41 v3 1) k) (next:=fun v100=>
 pGq v87 true (fun k=>pq Z S (F 9 v100) k) (next:=fun v101=>
 pG v87 true (fun k=>pFn Z 30 [v92,v94] w k) (w:=w) (next:=fun v95 w=>S w∧(
 pG v87 true (fun k=>pFn Z 44 [v99,v101] w k) (w:=w) (next:=fun v102 w=>S w∧(
 pG v87 true (fun k=>pFn Z 43 [v95,v102] w k) (w:=w) (next:=fun v103 w=>S w∧(
 pq Z S (Zs v87 v103 (.bool false)) fun v104=>
 k v104 w))))))))))))))))))))))) w.drew)) w.drew)) w.drew)
 (
 px Z (Zd .eql 3 (.tmp 17) (.const (.int .i64 11)) v17 (.int .i64 11)) w fun v106 w=>
 pC v106 (
 ∃S:Y→Prop,S w.drew∧(fun w=>
 pq Z S (Zh p0) fun v108=>
 pq Z S (U 33 v108 0) fun v109=>
 pq Z S (F 29 v109) fun v110=>
 pq Z S (U 41 v3 6) fun v111=>
 pq Z S (F 38 v111) fun v112=>
 pFn Z 22 [v110,v112] w fun v113 w=>(
 ∃S:Y→Prop,S w.drew∧(fun w=>
 pq Z S (Zh p0) fun v115=>
 pq Z S (U 33 v115 1) fun v116=>
 pq Z S (F 30 v116) fun v117=>
 pq Z S (U 41 v3 6) fun v118=>
 pq Z S (F 38 v118) fun v119=>
 pFn Z 121 [v117,v119] w fun v120 w=>(
 vn k [1,1] (put (put (put (put (put (put (put (put (put (put (put (put (put (put (put (put (put (put (put (put (put (put (put (put (Zq [p0,x1]) 3 v3) 4 (.bool false)) 16 v16) 17 v17) 19 v19) 18 v19) 58 v58) 57 v58) 106 v106) 105 v106) 107 p0) 108 v108) 109 v109) 110 v110) 111 v111) 112 v112) 113 v113) 114 p0) 115 v115) 116 v116) 117 v117) 118 v118) 119 v119) 120 v120) w)) w.drew)) w.drew)
 (
 px Z (Zd .eql 3 (.tmp 17) (.const (.int .i64 12)) v17 (.int .i64 12)) w fun v122 w=>
 pC v122 (
 ∃S:Y→Prop,S w.drew∧(fun w=>
 pq Z S (Zh p0) fun v124=>
 pq Z S (U 33 v124 0) fun v125=>
 pq Z S (F 29 v125) fun v126=>
 pq Z S (Zh p0) fun v128=>
 pq Z S (U 33 v128 2) fun v129=>
 pq Z S (F 31 v129) fun v130=>
 pq Z S (U 41 v3 7) fun v131=>
 pq Z S (F 39 v131) fun v132=>
 pFn Z 122 [v130,v132] w fun v133 w=>S w∧(
 pFn Z 58 [v126,v133] w fun v134 w=>(
 ∃S:Y→Prop,S w.drew∧(fun w=>
 pq Z S (Zh p0) fun v136=>
 pq Z S (U 33 v136 1) fun v137=>
 pq Z S (F 30 v137) fun v138=>
 pq Z S (U 41 v3 7) fun v139=>
 pq Z S (F 39 v139) fun v140=>
 pFn Z 123 [v138,v140] w fun v141 w=>(
 ∃S:Y→Prop,S w.drew∧(fun w=>
 pq Z S (Zh p0) fun v143=>
 pq Z S (U 33 v143 2) fun v144=>
 pq Z S (F 31 v144) fun v145=>
 pq Z S (U 41 v3 7) fun v146=>
 pq Z S (F 39 v146) fun v147=>
 pFn Z 124 [v145,v147] w fun v148 w=>S w∧(
 px Z (Zh p0) w fun v150 w=>
 px Z (U 33 v150 2) w fun v151 w=>
 px Z (F 31 v151) w fun v152 w=>
 pFn Z 122 [v152,(.slice none 0 0)] w fun v153 w=>
 k v148 w)) w.drew)) w.drew))) w.drew)
 (
 px Z (Zd .eql 3 (.tmp 17) (.const (.int .i64 13)) v17 (.int .i64 13)) w fun v156 w=>
 pC v156 (
 px Z (Zh p0) w fun v158 w=>
 px Z (U 33 v158 0) w fun v159 w=>
 px Z (F 29 v159) w fun v160 w=>
 pFn Z 125 [v160] w fun v161 w=>
 px Z (Zh p0) w fun v163 w=>
 px Z (U 33 v163 1) w fun v164 w=>
 px Z (F 30 v164) w fun v165 w=>
 pFn Z 126 [v165] w fun v166 w=>
 vn k [1,1] (put (put (put (put (put (put (put (put (put (put (put (put (put (put (put (put (put (put (put (put (put (put (put (put (Zq [p0,x1]) 3 v3) 4 (.bool false)) 16 v16) 17 v17) 19 v19) 18 v19) 58 v58) 57 v58) 106 v106) 105 v106) 122 v122) 121 v122) 156 v156) 155 v156) 157 p0) 158 v158) 159 v159) 160 v160) 161 v161) 162 p0) 163 v163) 164 v164) 165 v165) 166 v166) w)
 (
 px Z (Zd .eql 3 (.tmp 17) (.const (.int .i64 14)) v17 (.int .i64 14)) w fun v168 w=>
 pC v168 (
 px Z (Zh p0) w fun v170 w=>
 px Z (U 33 v170 0) w fun v171 w=>
 px Z (F 29 v171) w fun v172 w=>
 pFn Z 24 [v172] w fun v173 w=>
 px Z (Zd .eql 29 (.tmp 174) (.const (.pointer none)) v173 (.pointer none)) w fun v175 w=>
 pC v175 (
 k (.bool false) w)
 (
 px Z (Zh p0) w fun v177 w=>
 px Z (U 33 v177 0) w fun v178 w=>
 px Z (F 29 v178) w fun v179 w=>
 px Z (Zh p0) w fun v182 w=>
 px Z (U 33 v182 0) w fun v183 w=>
 pu Z (Za 29 v183 v173) w fun w=>
 px Z (Zh p0) w fun v186 w=>
 px Z (U 33 v186 1) w fun v187 w=>
 px Z (F 30 v187) w fun v188 w=>
 pFn Z 25 [v188] w fun v189 w=>
 px Z (Zh p0) w fun v190 w=>
 px Z (U 33 v190 1) w fun v191 w=>
 pu Z (Za 30 v191 v189) w fun w=>
 pFn Z 21 [v179,(.string (ByteArray.mk #[122,122]))] w fun v193 w=>
 px Z (Instr.buildSlice 36 1 #[(0,(.int .u8 119))]) w fun v195 w=>
 px Z (convert 36 36 v195) w fun v196 w=>
 pFn Z 23 [v179,(.string (ByteArray.mk #[122,122])),v196] w fun v197 w=>
 pFn Z 55 [v179] w fun v199 w=>
 pFn Z 125 [v179] w fun v201 w=>
 px Z (Instr.build 38 #[(0,(.int .i64 1))]) w fun v203 w=>
 pFn Z 22 [v179,v203] w fun v204 w=>
 pFn Z 59 [v179,(.string (ByteArray.mk #[122,122]))] w fun v206 w=>
 vn k [1,1] (put (put (put (put (put (put (put (put (put (put (put (put (put (put (put (put (put (put (put (put (put (put (put (put (put (put (put (put (put (put (put (put (put (put (put (put (put (put (put (put (put (put (put (put (put (put (put (put (put (put (put (put (put (put (put (put (Zq [p0,x1]) 3 v3) 4 (.bool false)) 16 v16) 17 v17) 19 v19) 18 v19) 58 v58) 57 v58) 106 v106) 105 v106) 122 v122) 121 v122) 156 v156) 155 v156) 168 v168) 167 v168) 169 p0) 170 v170) 171 v171) 172 v172) 173 v173) 14 v173) 174 v173) 175 v175) 176 p0) 177 v177) 178 v178) 179 v179) 15 v179) 180 p0) 181 v173) 182 v182) 183 v183) 184 p0) 185 p0) 186 v186) 187 v187) 188 v188) 189 v189) 190 v190) 191 v191) 192 v179) 193 v193) 194 v179) 195 v195) 196 v196) 197 v197) 198 v179) 199 v199) 200 v179) 201 v201) 202 v179) 203 v203) 204 v204) 205 v179) 206 v206) w))
 (
 vn k [1,1] (put (put (put (put (put (put (put (put (put (put (put (put (put (put (put (put (Zq [p0,x1]) 3 v3) 4 (.bool false)) 16 v16) 17 v17) 19 v19) 18 v19) 58 v58) 57 v58) 106 v106) 105 v106) 122 v122) 121 v122) 156 v156) 155 v156) 168 v168) 167 v168) w))))))
theorem MK (p0:V) (x1:V) (w:Y) (k:KV):vn k [] (Zq [p0,x1]) w=TX p0 x1 w k:=by kernel_rfl
def zdg (k:KV) (ρ:Env) (w:Y):Prop:=
 k (.bool true) w
theorem Qt (k:KV) (ρ:Env) (w:Y):vn k [1,1] ρ w=zdg k ρ w:=by kernel_rfl
theorem ur (p0:V) (x1:V) (w:Y) (k:KV) (h:TX p0 x1 w k):pFn Z 73 [p0,x1] w k:=
 Zm mixed func73 (by kernel_rfl) (by kernel_rfl) ntmps73 (by kernel_rfl) (by kernel_rfl) (by simp) ((MK p0 x1 w k).mpr h)
noncomputable def EO:Code:=Z1 f117
def TY (k:KV) (q:List Nat) (ρ:Env) (w:Y):Prop:=At Z 49 EO (Z8 Z f117.results.toList k) q ρ w
noncomputable def uu:Code:=sub EO [1,0,1,0,0]
def uv (k:KV) (N1:KE):Xt→KE:=ZX N1 (ZJ Z 49 EO (Z8 Z f117.results.toList k) [1,0,1,0])
def RP (k:KV) (N1:KE) (q:List Nat) (ρ:Env) (w:Y):Prop:=At Z 49 uu (uv k N1) q ρ w
def RQ (k:KV) (ρ:Env) (w:Y):Prop:=ZN Z 49 EO (Z8 Z f117.results.toList k) [1,0,1,0] ρ w
theorem DC (k:KV) (I:Nat→KE) (round:∀m ρ w,I m ρ w→RP k (fun ρ' w'=>∃m',m'<m∧I m' ρ' w') [] ρ w) {m:Nat} {ρ:Env} {w:Y} (h:I m ρ w):RQ k ρ w:=
 Zw mixed (B:=EO) (Q:=(Z8 Z f117.results.toList k)) (p:=[1,0,1,0]) (by kernel_rfl) (by kernel_rfl) I round h
def EP (d0:V) (data1:V) (w:Y) (k:KV):Prop:=
 RQ k (put (put (Zq [d0,data1]) 4 (.bool false)) 5 (.int .i64 0)) w
theorem ER (d0:V) (data1:V) (w:Y) (k:KV):TY k [] (Zq [d0,data1]) w=EP d0 data1 w k:=by kernel_rfl
def RR (k:KV) (N1:KE) (ρ:Env) (w:Y):Prop:=
 px Z (Zh (ρ 0)) w fun v8 w=>
 px Z (U 51 v8 0) w fun v9 w=>
 px Z (F 36 v9) w fun v10 w=>
 px Z (bSem .len #[36] 3 #[v10]) w fun v11 w=>
 px Z (Zd .lss 3 (.tmp 6) (.tmp 11) (ρ 5) v11) w fun v12 w=>
 pC v12 (
 ∃S:Y→Prop,S w.drew∧(fun w=>
 pq Z S (bSem .len #[36] 3 #[(ρ 1)]) fun v17=>
 pq Z S (Zd .lss 3 (.tmp 15) (.tmp 17) (ρ 5) v17) fun v18=>
 pGq v18 true (fun k=>k (ρ 0)) (next:=fun v20=>
 pGq v18 true (fun k=>pq Z S (Zh v20) k) (next:=fun v21=>
 pGq v18 true (fun k=>pq Z S (U 51 v21 0) k) (next:=fun v22=>
 pGq v18 true (fun k=>pq Z S (F 36 v22) k) (next:=fun v23=>
 pGq v18 true (fun k=>k (ρ 5)) (next:=fun v24=>
 pGq v18 true (fun k=>pq Z S (Zb 36 v23 v24) k) (next:=fun v25=>
 pGq v18 true (fun k=>pq Z S (F 5 v25) k) (next:=fun v26=>
 pGq v18 true (fun k=>k (ρ 1)) (next:=fun v27=>
 pGq v18 true (fun k=>k (ρ 5)) (next:=fun v28=>
 pGq v18 true (fun k=>pq Z S (Zb 36 v27 v28) k) (next:=fun v29=>
 pGq v18 true (fun k=>pq Z S (F 5 v29) k) (next:=fun v30=>
 pGq v18 true (fun k=>pq Z S (Zd .neq 5 (.tmp 26) (.tmp 30) v26 v30) k) (next:=fun v31=>
 pq Z S (Zs v18 v31 (.bool false)) fun v32=>
 pGq v32 false (fun k=>k (ρ 5)) (next:=fun v34=>
 pGq v32 false (fun k=>k (ρ 1)) (next:=fun v35=>
 pGq v32 false (fun k=>pq Z S (bSem .len #[36] 3 #[v35]) k) (next:=fun v36=>
 pGq v32 false (fun k=>pq Z S (Zd .geq 3 (.tmp 34) (.tmp 36) v34 v36) k) (next:=fun v37=>
 pGq v32 false (fun k=>k v37) (next:=fun v38=>
 pGq v38 true (fun k=>k (ρ 0)) (next:=fun v39=>
 pGq v38 true (fun k=>pq Z S (Zh v39) k) (next:=fun v40=>
 pGq v38 true (fun k=>pq Z S (U 51 v40 0) k) (next:=fun v41=>
 pGq v38 true (fun k=>pq Z S (F 36 v41) k) (next:=fun v42=>
 pGq v38 true (fun k=>k (ρ 5)) (next:=fun v43=>
 pGq v38 true (fun k=>pq Z S (Zb 36 v42 v43) k) (next:=fun v44=>
 pGq v38 true (fun k=>pq Z S (F 5 v44) k) (next:=fun v45=>
 pGq v38 true (fun k=>pq Z S (Zd .neq 5 (.tmp 45) (.const (.int .u8 171)) v45 (.int .u8 171)) k) (next:=fun v46=>
 pGq v32 false (fun k=>pq Z S (Zs v38 v46 (.bool false)) k) (next:=fun v47=>
 pq Z S (Zs v32 (.bool true) v47) fun v48=>
 pC v48 (
 k (.bool false) w)
 (
 px Z (Zd .add 3 (.tmp 13) (.const (.int .i64 1)) (ρ 5) (.int .i64 1)) w fun v14 w=>
 N1 (put (put (put (put (put (put (put (put (put (put (put (put (put (put (put (put (put (put (put (put (put (put (put (put (put (put (put (put (put (put (put (put (put (put (put (put (put (put (put (put (put (put (put (put ρ 6 (ρ 5)) 7 (ρ 0)) 8 v8) 9 v9) 10 v10) 11 v11) 12 v12) 15 (ρ 5)) 16 (ρ 1)) 17 v17) 18 v18) 19 v18) 20 v20) 21 v21) 22 v22) 23 v23) 24 v24) 25 v25) 26 v26) 27 v27) 28 v28) 29 v29) 30 v30) 31 v31) 32 v32) 33 v32) 34 v34) 35 v35) 36 v36) 37 v37) 38 v38) 39 v39) 40 v40) 41 v41) 42 v42) 43 v43) 44 v44) 45 v45) 46 v46) 47 v47) 48 v48) 13 (ρ 5)) 14 v14) 5 v14) w)))))))))))))))))))))))))))) w.drew)
 (
 TY k [1,1] (put (put (put (put (put (put (put ρ 6 (ρ 5)) 7 (ρ 0)) 8 v8) 9 v9) 10 v10) 11 v11) 12 v12) w)
theorem ES (k:KV) (N1:KE) (ρ:Env) (w:Y):RP k N1 [] ρ w=RR k N1 ρ w:=by kernel_rfl
def uw (k:KV) (ρ:Env) (w:Y):Prop:=
 k (.bool true) w
theorem ET (k:KV) (ρ:Env) (w:Y):TY k [1,1] ρ w=uw k ρ w:=by kernel_rfl
theorem TZ (d0:V) (data1:V) (w:Y) (k:KV) (h:EP d0 data1 w k):pFn Z 117 [d0,data1] w k:=
 Zm mixed func117 (by kernel_rfl) (by kernel_rfl) ntmps117 (by kernel_rfl) (by kernel_rfl) (by simp) ((ER d0 data1 w k).mpr h)
noncomputable def EU:Code:=Z1 f122
def Wa (k:KV) (q:List Nat) (ρ:Env) (w:Y):Prop:=At Z 41 EU (Z8 Z f122.results.toList k) q ρ w
noncomputable def ux:Code:=sub EU [1,1,0,1,0,0]
def uy (k:KV) (N1:KE):Xt→KE:=ZX N1 (ZJ Z 41 EU (Z8 Z f122.results.toList k) [1,1,0,1,0])
def RS (k:KV) (N1:KE) (q:List Nat) (ρ:Env) (w:Y):Prop:=At Z 41 ux (uy k N1) q ρ w
def CQ (k:KV) (ρ:Env) (w:Y):Prop:=ZN Z 41 EU (Z8 Z f122.results.toList k) [1,1,0,1,0] ρ w
theorem DE (k:KV) (I:Nat→KE) (round:∀m ρ w,I m ρ w→RS k (fun ρ' w'=>∃m',m'<m∧I m' ρ' w') [] ρ w) {m:Nat} {ρ:Env} {w:Y} (h:I m ρ w):CQ k ρ w:=
 Zw mixed (B:=EU) (Q:=(Z8 Z f122.results.toList k)) (p:=[1,1,0,1,0]) (by kernel_rfl) (by kernel_rfl) I round h
def EV (d0:V) (l1:V) (w:Y) (k:KV):Prop:=
 px Z (bSem .len #[39] 3 #[l1]) w fun v8 w=>
 px Z (Zd .add 3 (.tmp 8) (.const (.int .i64 3)) v8 (.int .i64 3)) w fun v9 w=>
 px Z (Instr.makeSlice 39 v9 v9) w fun v10 w=>
 px Z (Zh d0) w fun v11 w=>
 px Z (U 51 v11 1) w fun v12 w=>
 pu Z (Za 39 v12 v10) w fun w=>
 CQ k (put (put (put (put (put (put (put (put (put (Zq [d0,l1]) 4 (.slice none 0 0)) 6 d0) 7 l1) 8 v8) 9 v9) 10 v10) 11 v11) 12 v12) 5 (.int .i64 0)) w
theorem EW (d0:V) (l1:V) (w:Y) (k:KV):Wa k [] (Zq [d0,l1]) w=EV d0 l1 w k:=by kernel_rfl
def RT (k:KV) (N1:KE) (ρ:Env) (w:Y):Prop:=
 px Z (Zh (ρ 0)) w fun v15 w=>
 px Z (U 51 v15 1) w fun v16 w=>
 px Z (F 39 v16) w fun v17 w=>
 px Z (bSem .len #[39] 3 #[v17]) w fun v18 w=>
 px Z (Zd .lss 3 (.tmp 13) (.tmp 18) (ρ 5) v18) w fun v19 w=>
 pC v19 (
 px Z (Zh (ρ 0)) w fun v23 w=>
 px Z (U 51 v23 1) w fun v24 w=>
 px Z (F 39 v24) w fun v25 w=>
 px Z (Zb 39 v25 (ρ 5)) w fun v27 w=>
 pu Z (Za 3 v27 (.int .i64 77)) w fun w=>
 px Z (Zd .add 3 (.tmp 20) (.const (.int .i64 1)) (ρ 5) (.int .i64 1)) w fun v21 w=>
 N1 (put (put (put (put (put (put (put (put (put (put (put (put (put (put (put (put ρ 13 (ρ 5)) 14 (ρ 0)) 15 v15) 16 v16) 17 v17) 18 v18) 19 v19) 22 (ρ 0)) 23 v23) 24 v24) 25 v25) 26 (ρ 5)) 27 v27) 20 (ρ 5)) 21 v21) 5 v21) w)
 (
 Wa k [1,1,1] (put (put (put (put (put (put (put ρ 13 (ρ 5)) 14 (ρ 0)) 15 v15) 16 v16) 17 v17) 18 v18) 19 v19) w)
theorem EX (k:KV) (N1:KE) (ρ:Env) (w:Y):RS k N1 [] ρ w=RT k N1 ρ w:=by kernel_rfl
def EY (k:KV) (ρ:Env) (w:Y):Prop:=
 px Z (Zh (ρ 0)) w fun v29 w=>
 px Z (U 51 v29 1) w fun v30 w=>
 px Z (F 39 v30) w fun v31 w=>
 px Z (bSem .copy #[39,39] 3 #[v31,(ρ 1)]) w fun v33 w=>
 px Z (Zh (ρ 0)) w fun v35 w=>
 px Z (U 51 v35 1) w fun v36 w=>
 px Z (F 39 v36) w fun v37 w=>
 px Z (bSem .len #[39] 3 #[(ρ 1)]) w fun v39 w=>
 px Z (sliceAt 39 v37 none (some v39) none) w fun v40 w=>
 k v40 w
theorem EZ (k:KV) (ρ:Env) (w:Y):Wa k [1,1,1] ρ w=EY k ρ w:=by kernel_rfl
theorem Wb (d0:V) (l1:V) (w:Y) (k:KV) (h:EV d0 l1 w k):pFn Z 122 [d0,l1] w k:=
 Zm mixed func122 (by kernel_rfl) (by kernel_rfl) ntmps122 (by kernel_rfl) (by kernel_rfl) (by simp) ((EW d0 l1 w k).mpr h)
noncomputable def Fa:Code:=Z1 f124
def Wc (k:KV) (q:List Nat) (ρ:Env) (w:Y):Prop:=At Z 49 Fa (Z8 Z f124.results.toList k) q ρ w
noncomputable def uz:Code:=sub Fa [1,0,1,0,0]
def uA (k:KV) (N1:KE):Xt→KE:=ZX N1 (ZJ Z 49 Fa (Z8 Z f124.results.toList k) [1,0,1,0])
def RU (k:KV) (N1:KE) (q:List Nat) (ρ:Env) (w:Y):Prop:=At Z 49 uz (uA k N1) q ρ w
def RV (k:KV) (ρ:Env) (w:Y):Prop:=ZN Z 49 Fa (Z8 Z f124.results.toList k) [1,0,1,0] ρ w
theorem DF (k:KV) (I:Nat→KE) (round:∀m ρ w,I m ρ w→RU k (fun ρ' w'=>∃m',m'<m∧I m' ρ' w') [] ρ w) {m:Nat} {ρ:Env} {w:Y} (h:I m ρ w):RV k ρ w:=
 Zw mixed (B:=Fa) (Q:=(Z8 Z f124.results.toList k)) (p:=[1,0,1,0]) (by kernel_rfl) (by kernel_rfl) I round h
def Fb (d0:V) (l1:V) (w:Y) (k:KV):Prop:=
 RV k (put (put (Zq [d0,l1]) 4 (.bool false)) 5 (.int .i64 0)) w
theorem Fc (d0:V) (l1:V) (w:Y) (k:KV):Wc k [] (Zq [d0,l1]) w=Fb d0 l1 w k:=by kernel_rfl
def RW (k:KV) (N1:KE) (ρ:Env) (w:Y):Prop:=
 px Z (Zh (ρ 0)) w fun v8 w=>
 px Z (U 51 v8 1) w fun v9 w=>
 px Z (F 39 v9) w fun v10 w=>
 px Z (bSem .len #[39] 3 #[v10]) w fun v11 w=>
 px Z (Zd .lss 3 (.tmp 6) (.tmp 11) (ρ 5) v11) w fun v12 w=>
 pC v12 (
 ∃S:Y→Prop,S w.drew∧(fun w=>
 pq Z S (bSem .len #[39] 3 #[(ρ 1)]) fun v17=>
 pq Z S (Zd .lss 3 (.tmp 15) (.tmp 17) (ρ 5) v17) fun v18=>
 pGq v18 true (fun k=>k (ρ 0)) (next:=fun v20=>
 pGq v18 true (fun k=>pq Z S (Zh v20) k) (next:=fun v21=>
 pGq v18 true (fun k=>pq Z S (U 51 v21 1) k) (next:=fun v22=>
 pGq v18 true (fun k=>pq Z S (F 39 v22) k) (next:=fun v23=>
 pGq v18 true (fun k=>k (ρ 5)) (next:=fun v24=>
 pGq v18 true (fun k=>pq Z S (Zb 39 v23 v24) k) (next:=fun v25=>
 pGq v18 true (fun k=>pq Z S (F 3 v25) k) (next:=fun v26=>
 pGq v18 true (fun k=>k (ρ 1)) (next:=fun v27=>
 pGq v18 true (fun k=>k (ρ 5)) (next:=fun v28=>
 pGq v18 true (fun k=>pq Z S (Zb 39 v27 v28) k) (next:=fun v29=>
 pGq v18 true (fun k=>pq Z S (F 3 v29) k) (next:=fun v30=>
 pGq v18 true (fun k=>pq Z S (Zd .neq 3 (.tmp 26) (.tmp 30) v26 v30) k) (next:=fun v31=>
 pq Z S (Zs v18 v31 (.bool false)) fun v32=>
 pGq v32 false (fun k=>k (ρ 5)) (next:=fun v34=>
 pGq v32 false (fun k=>k (ρ 1)) (next:=fun v35=>
 pGq v32 false (fun k=>pq Z S (bSem .len #[39] 3 #[v35]) k) (next:=fun v36=>
 pGq v32 false (fun k=>pq Z S (Zd .geq 3 (.tmp 34) (.tmp 36) v34 v36) k) (next:=fun v37=>
 pGq v32 false (fun k=>k v37) (next:=fun v38=>
 pGq v38 true (fun k=>k (ρ 0)) (next:=fun v39=>
 pGq v38 true (fun k=>pq Z S (Zh v39) k) (next:=fun v40=>
 pGq v38 true (fun k=>pq Z S (U 51 v40 1) k) (next:=fun v41=>
 pGq v38 true (fun k=>pq Z S (F 39 v41) k) (next:=fun v42=>
 pGq v38 true (fun k=>k (ρ 5)) (next:=fun v43=>
 pGq v38 true (fun k=>pq Z S (Zb 39 v42 v43) k) (next:=fun v44=>
 pGq v38 true (fun k=>pq Z S (F 3 v44) k) (next:=fun v45=>
 pGq v38 true (fun k=>pq Z S (Zd .neq 3 (.tmp 45) (.const (.int .i64 77)) v45 (.int .i64 77)) k) (next:=fun v46=>
 pGq v32 false (fun k=>pq Z S (Zs v38 v46 (.bool false)) k) (next:=fun v47=>
 pq Z S (Zs v32 (.bool true) v47) fun v48=>
 pC v48 (
 k (.bool false) w)
 (
 px Z (Zd .add 3 (.tmp 13) (.const (.int .i64 1)) (ρ 5) (.int .i64 1)) w fun v14 w=>
 N1 (put (put (put (put (put (put (put (put (put (put (put (put (put (put (put (put (put (put (put (put (put (put (put (put (put (put (put (put (put (put (put (put (put (put (put (put (put (put (put (put (put (put (put (put ρ 6 (ρ 5)) 7 (ρ 0)) 8 v8) 9 v9) 10 v10) 11 v11) 12 v12) 15 (ρ 5)) 16 (ρ 1)) 17 v17) 18 v18) 19 v18) 20 v20) 21 v21) 22 v22) 23 v23) 24 v24) 25 v25) 26 v26) 27 v27) 28 v28) 29 v29) 30 v30) 31 v31) 32 v32) 33 v32) 34 v34) 35 v35) 36 v36) 37 v37) 38 v38) 39 v39) 40 v40) 41 v41) 42 v42) 43 v43) 44 v44) 45 v45) 46 v46) 47 v47) 48 v48) 13 (ρ 5)) 14 v14) 5 v14) w)))))))))))))))))))))))))))) w.drew)
 (
 Wc k [1,1] (put (put (put (put (put (put (put ρ 6 (ρ 5)) 7 (ρ 0)) 8 v8) 9 v9) 10 v10) 11 v11) 12 v12) w)
theorem Fe (k:KV) (N1:KE) (ρ:Env) (w:Y):RU k N1 [] ρ w=RW k N1 ρ w:=by kernel_rfl
def uB (k:KV) (ρ:Env) (w:Y):Prop:=
 k (.bool true) w
theorem Ff (k:KV) (ρ:Env) (w:Y):Wc k [1,1] ρ w=uB k ρ w:=by kernel_rfl
theorem Wd (d0:V) (l1:V) (w:Y) (k:KV) (h:Fb d0 l1 w k):pFn Z 124 [d0,l1] w k:=
 Zm mixed func124 (by kernel_rfl) (by kernel_rfl) ntmps124 (by kernel_rfl) (by kernel_rfl) (by simp) ((Fc d0 l1 w k).mpr h)
end Go.Proofs.YtcdcojpfealppaaGreat
