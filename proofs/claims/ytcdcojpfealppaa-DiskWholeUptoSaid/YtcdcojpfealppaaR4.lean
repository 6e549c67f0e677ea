/- PRINTED by wip/tools/redprint.py out of Lean's own print of the functions: their reduced forms; each is proved to be Go's code by the kernel. -/
import Derived.Test.YtcdcojpfealppaaXRed
import Derived.Test.YtcdcojpfealppaaProg
import Derived.Test.YtcdcojpfealppaaMix
set_option linter.unusedVariables false
set_option maxRecDepth 100000
namespace Go.Proofs.Ytcdcojpfealppaa
open Go Go.Proofs Go.Proofs.XRed

/-! ## 5 freight/freightlaw5.DiskRefuses -/
noncomputable def F5B : Code := bodyOf Try.f5
def F5A (k : Value → World → Prop) (q : List Nat) (ρ : Env) (w : World) : Prop := At Try.prog 235 F5B (retQ Try.prog Try.f5.results.toList k) q ρ w
noncomputable def F5B1 : Code := sub F5B [1, 1, 1, 1, 1, 0, 1, 0, 0]
def F5Q1 (k : Value → World → Prop) (N1 : Env → World → Prop) : Xt → Env → World → Prop := thenE N1 (contAt Try.prog 235 F5B (retQ Try.prog Try.f5.results.toList k) [1, 1, 1, 1, 1, 0, 1, 0])
def F5A1 (k : Value → World → Prop) (N1 : Env → World → Prop) (q : List Nat) (ρ : Env) (w : World) : Prop := At Try.prog 235 F5B1 (F5Q1 k N1) q ρ w
def F5L1 (k : Value → World → Prop) (ρ : Env) (w : World) : Prop := LoopAt Try.prog 235 F5B (retQ Try.prog Try.f5.results.toList k) [1, 1, 1, 1, 1, 0, 1, 0] ρ w
theorem F5L1_inv (k : Value → World → Prop) (I : Nat → Env → World → Prop) (round : ∀ m ρ w, I m ρ w → F5A1 k (fun ρ' w' => ∃ m', m' < m ∧ I m' ρ' w') [] ρ w) {m : Nat} {ρ : Env} {w : World} (h : I m ρ w) : F5L1 k ρ w :=
  LoopAt_inv Try.mixed (B := F5B) (Q := (retQ Try.prog Try.f5.results.toList k)) (p := [1, 1, 1, 1, 1, 0, 1, 0]) (by kernel_rfl) (by kernel_rfl) I round h
def F5_0 (a0 : Value) (a1 : Value) (w : World) (k : Value → World → Prop) : Prop :=
  pFn Try.prog 26 [a1] w fun v17 w =>
  pG v17 false (fun k => k a1 w) (w := w) (next := fun v19 w =>
  pG v17 false (fun k => px Try.prog (bSem .len #[55] 3 #[v19]) w k) (w := w) (next := fun v20 w =>
  pG v17 false (fun k => px Try.prog (binSem BinOp.gtr 3 (Operand.tmp 20) (Operand.const (Value.int IntKind.i64 60)) v20 (Value.int IntKind.i64 60)) w k) (w := w) (next := fun v21 w =>
  px Try.prog (pickSem v17 (Value.bool true) v21) w fun v22 w =>
  pC v22 (
    k (Value.bool true) w)
   (
    pFn Try.prog 9 [a0] w fun v25 w =>
    px Try.prog (Instr.extract v25 0) w fun v26 w =>
    px Try.prog (Instr.extract v25 1) w fun v27 w =>
    px Try.prog (binSem BinOp.lss 3 (Operand.tmp 28) (Operand.const (Value.int IntKind.i64 1)) a0 (Value.int IntKind.i64 1)) w fun v29 w =>
    pG v29 false (fun k => k a0 w) (w := w) (next := fun v31 w =>
    pG v29 false (fun k => px Try.prog (binSem BinOp.gtr 3 (Operand.tmp 31) (Operand.const (Value.int IntKind.i64 1048576)) v31 (Value.int IntKind.i64 1048576)) w k) (w := w) (next := fun v32 w =>
    px Try.prog (pickSem v29 (Value.bool true) v32) w fun v33 w =>
    pC v33 (
      px Try.prog (binSem BinOp.eql 25 (Operand.tmp 34) (Operand.const (Value.int IntKind.i64 1)) v27 (Value.int IntKind.i64 1)) w fun v35 w =>
      pG v35 true (fun k => k v26 w) (w := w) (next := fun v37 w =>
      pG v35 true (fun k => px Try.prog (binSem BinOp.eql 24 (Operand.tmp 37) (Operand.const (Value.pointer none)) v37 (Value.pointer none)) w k) (w := w) (next := fun v38 w =>
      px Try.prog (pickSem v35 v38 (Value.bool false)) w fun v39 w =>
      pG v39 true (fun k => pFn Try.prog 18 [] w k) (w := w) (next := fun v41 w =>
      px Try.prog (pickSem v39 v41 (Value.bool false)) w fun v42 w =>
      k v42 w))))
     (
      px Try.prog (binSem BinOp.neq 25 (Operand.tmp 43) (Operand.const (Value.int IntKind.i64 0)) v27 (Value.int IntKind.i64 0)) w fun v44 w =>
      pG v44 false (fun k => k v26 w) (w := w) (next := fun v46 w =>
      pG v44 false (fun k => px Try.prog (binSem BinOp.eql 24 (Operand.tmp 46) (Operand.const (Value.pointer none)) v46 (Value.pointer none)) w k) (w := w) (next := fun v47 w =>
      px Try.prog (pickSem v44 (Value.bool true) v47) w fun v48 w =>
      pC v48 (
        k (Value.bool false) w)
       (
        F5L1 k (put (put (put (put (put (put (put (put (put (put (put (put (put (put (put (put (put (put (put (put (put (put (put (put (put (put (put (put (argEnv [a0, a1]) 4 (Value.bool false)) 16 a1) 17 v17) 18 v17) 19 v19) 20 v20) 21 v21) 22 v22) 24 a0) 25 v25) 23 v25) 26 v26) 27 v27) 5 v26) 6 v27) 28 a0) 29 v29) 30 v29) 31 v31) 32 v32) 33 v33) 43 v27) 44 v44) 45 v44) 46 v46) 47 v47) 48 v48) 7 (Value.int IntKind.i64 0)) w))))))))))
theorem F5_0_eq (a0 : Value) (a1 : Value) (w : World) (k : Value → World → Prop) : F5A k [] (argEnv [a0, a1]) w = F5_0 a0 a1 w k := by kernel_rfl
def F5_1 (k : Value → World → Prop) (N1 : Env → World → Prop) (ρ : Env) (w : World) : Prop :=
  px Try.prog (bSem .len #[55] 3 #[(ρ 1)]) w fun v51 w =>
  px Try.prog (binSem BinOp.lss 3 (Operand.tmp 49) (Operand.tmp 51) (ρ 7) v51) w fun v52 w =>
  pC v52 (
    px Try.prog (Instr.indexAt 55 (ρ 1) (ρ 7)) w fun v57 w =>
    px Try.prog (Instr.loadAt 59 v57) w fun v58 w =>
    px Try.prog (Instr.alloc 59 true (.tuple #[])) w fun v8 w =>
    pu Try.prog (Instr.storeAt 59 v8 v58) w fun w =>
    pFn Try.prog 17 [(ρ 5)] w fun v60 w =>
    pFn Try.prog 27 [(ρ 5)] w fun v62 w =>
    pFn Try.prog 28 [(ρ 5)] w fun v64 w =>
    pFn Try.prog 29 [(ρ 5)] w fun v66 w =>
    pFn Try.prog 22 [(ρ 5)] w fun v68 w =>
    px Try.prog (Instr.loadAt 59 v8) w fun v70 w =>
    pFn Try.prog 30 [(ρ 5), v70] w fun v71 w =>
    pG v68 true (fun k => px Try.prog (Instr.fieldAt 59 v8 0) w k) (w := w) (next := fun v74 w =>
    pG v68 true (fun k => px Try.prog (Instr.loadAt 3 v74) w k) (w := w) (next := fun v75 w =>
    pG v68 true (fun k => px Try.prog (binSem BinOp.geq 3 (Operand.tmp 75) (Operand.const (Value.int IntKind.i64 1)) v75 (Value.int IntKind.i64 1)) w k) (w := w) (next := fun v76 w =>
    px Try.prog (pickSem v68 v76 (Value.bool false)) w fun v77 w =>
    pG v77 true (fun k => px Try.prog (Instr.fieldAt 59 v8 0) w k) (w := w) (next := fun v79 w =>
    pG v77 true (fun k => px Try.prog (Instr.loadAt 3 v79) w k) (w := w) (next := fun v80 w =>
    pG v77 true (fun k => px Try.prog (binSem BinOp.leq 3 (Operand.tmp 80) (Operand.const (Value.int IntKind.i64 10)) v80 (Value.int IntKind.i64 10)) w k) (w := w) (next := fun v81 w =>
    px Try.prog (pickSem v77 v81 (Value.bool false)) w fun v82 w =>
    pG v82 true (fun k => k v71 w) (w := w) (next := fun v84 w =>
    pG v82 true (fun k => px Try.prog (binSem BinOp.neq 25 (Operand.tmp 84) (Operand.const (Value.int IntKind.i64 50)) v84 (Value.int IntKind.i64 50)) w k) (w := w) (next := fun v85 w =>
    px Try.prog (pickSem v82 v85 (Value.bool false)) w fun v86 w =>
    pC v86 (
      k (Value.bool false) w)
     (
      px Try.prog (binSem BinOp.eql 25 (Operand.tmp 87) (Operand.const (Value.int IntKind.i64 0)) v71 (Value.int IntKind.i64 0)) w fun v88 w =>
      pC v88 (
        px Try.prog (Instr.loadAt 59 v8) w fun v89 w =>
        pFn Try.prog 31 [v89] w fun v90 w =>
        pG v90 true (fun k => k (ρ 5) w) (w := w) (next := fun v92 w =>
        pG v90 true (fun k => pFn Try.prog 29 [v92] w k) (w := w) (next := fun v93 w =>
        pG v90 true (fun k => k v66 w) (w := w) (next := fun v94 w =>
        pG v90 true (fun k => px Try.prog (binSem BinOp.add 3 (Operand.tmp 94) (Operand.const (Value.int IntKind.i64 1)) v94 (Value.int IntKind.i64 1)) w k) (w := w) (next := fun v95 w =>
        pG v90 true (fun k => px Try.prog (binSem BinOp.neq 3 (Operand.tmp 93) (Operand.tmp 95) v93 v95) w k) (w := w) (next := fun v96 w =>
        px Try.prog (pickSem v90 v96 (Value.bool false)) w fun v97 w =>
        pG v97 false (fun k => px Try.prog (Instr.loadAt 59 v8) w k) (w := w) (next := fun v99 w =>
        pG v97 false (fun k => pFn Try.prog 31 [v99] w k) (w := w) (next := fun v100 w =>
        pG v97 false (fun k => px Try.prog (Op.unary UnOp.not v100) w k) (w := w) (next := fun v101 w =>
        pG v97 false (fun k => k v101 w) (w := w) (next := fun v102 w =>
        pG v102 true (fun k => px Try.prog (Instr.fieldAt 59 v8 0) w k) (w := w) (next := fun v103 w =>
        pG v102 true (fun k => px Try.prog (Instr.loadAt 3 v103) w k) (w := w) (next := fun v104 w =>
        pG v102 true (fun k => px Try.prog (binSem BinOp.neq 3 (Operand.tmp 104) (Operand.const (Value.int IntKind.i64 12)) v104 (Value.int IntKind.i64 12)) w k) (w := w) (next := fun v105 w =>
        pG v97 false (fun k => px Try.prog (pickSem v102 v105 (Value.bool false)) w k) (w := w) (next := fun v106 w =>
        pG v97 false (fun k => k v106 w) (w := w) (next := fun v107 w =>
        pG v107 true (fun k => k (ρ 5) w) (w := w) (next := fun v108 w =>
        pG v107 true (fun k => pFn Try.prog 29 [v108] w k) (w := w) (next := fun v109 w =>
        pG v107 true (fun k => k v66 w) (w := w) (next := fun v110 w =>
        pG v107 true (fun k => px Try.prog (binSem BinOp.neq 3 (Operand.tmp 109) (Operand.tmp 110) v109 v110) w k) (w := w) (next := fun v111 w =>
        pG v97 false (fun k => px Try.prog (pickSem v107 v111 (Value.bool false)) w k) (w := w) (next := fun v112 w =>
        px Try.prog (pickSem v97 (Value.bool true) v112) w fun v113 w =>
        pC v113 (
          k (Value.bool false) w)
         (
          px Try.prog (Instr.fieldAt 59 v8 0) w fun v114 w =>
          px Try.prog (Instr.loadAt 3 v114) w fun v115 w =>
          px Try.prog (binSem BinOp.eql 3 (Operand.tmp 115) (Operand.const (Value.int IntKind.i64 12)) v115 (Value.int IntKind.i64 12)) w fun v116 w =>
          pG v116 true (fun k => k (ρ 5) w) (w := w) (next := fun v118 w =>
          pG v116 true (fun k => pFn Try.prog 29 [v118] w k) (w := w) (next := fun v119 w =>
          pG v116 true (fun k => px Try.prog (binSem BinOp.neq 3 (Operand.tmp 119) (Operand.const (Value.int IntKind.i64 0)) v119 (Value.int IntKind.i64 0)) w k) (w := w) (next := fun v120 w =>
          pG v116 true (fun k => k v120 w) (w := w) (next := fun v121 w =>
          pG v121 false (fun k => k (ρ 5) w) (w := w) (next := fun v122 w =>
          pG v121 false (fun k => pFn Try.prog 22 [v122] w k) (w := w) (next := fun v123 w =>
          pG v116 true (fun k => px Try.prog (pickSem v121 (Value.bool true) v123) w k) (w := w) (next := fun v124 w =>
          px Try.prog (pickSem v116 v124 (Value.bool false)) w fun v125 w =>
          pC v125 (
            k (Value.bool false) w)
           (
            px Try.prog (Instr.fieldAt 59 v8 0) w fun v126 w =>
            px Try.prog (Instr.loadAt 3 v126) w fun v127 w =>
            px Try.prog (binSem BinOp.eql 3 (Operand.tmp 127) (Operand.const (Value.int IntKind.i64 2)) v127 (Value.int IntKind.i64 2)) w fun v128 w =>
            pG v128 false (fun k => px Try.prog (Instr.fieldAt 59 v8 0) w k) (w := w) (next := fun v130 w =>
            pG v128 false (fun k => px Try.prog (Instr.loadAt 3 v130) w k) (w := w) (next := fun v131 w =>
            pG v128 false (fun k => px Try.prog (binSem BinOp.eql 3 (Operand.tmp 131) (Operand.const (Value.int IntKind.i64 3)) v131 (Value.int IntKind.i64 3)) w k) (w := w) (next := fun v132 w =>
            px Try.prog (pickSem v128 (Value.bool true) v132) w fun v133 w =>
            pG v133 true (fun k => k (ρ 5) w) (w := w) (next := fun v135 w =>
            pG v133 true (fun k => pFn Try.prog 32 [v135] w k) (w := w) (next := fun v136 w =>
            pG v133 true (fun k => k (ρ 0) w) (w := w) (next := fun v137 w =>
            pG v133 true (fun k => px Try.prog (binSem BinOp.gtr 3 (Operand.tmp 136) (Operand.tmp 137) v136 v137) w k) (w := w) (next := fun v138 w =>
            px Try.prog (pickSem v133 v138 (Value.bool false)) w fun v139 w =>
            pG v139 true (fun k => k (ρ 5) w) (w := w) (next := fun v141 w =>
            pG v139 true (fun k => pFn Try.prog 32 [v141] w k) (w := w) (next := fun v142 w =>
            pG v139 true (fun k => k v60 w) (w := w) (next := fun v143 w =>
            pG v139 true (fun k => pFn Try.prog 33 [v143] w k) (w := w) (next := fun v144 w =>
            pG v139 true (fun k => px Try.prog (binSem BinOp.gtr 3 (Operand.tmp 142) (Operand.tmp 144) v142 v144) w k) (w := w) (next := fun v145 w =>
            px Try.prog (pickSem v139 v145 (Value.bool false)) w fun v146 w =>
            pC v146 (
              k (Value.bool false) w)
             (
              F5A1 k N1 [1, 1] (put (put (put (put (put (put (put (put (put (put (put (put (put (put (put (put (put (put (put (put (put (put (put (put (put (put (put (put (put (put (put (put (put (put (put (put (put (put (put (put (put (put (put (put (put (put (put (put (put (put (put (put (put (put (put (put (put (put (put (put (put (put (put (put (put (put (put (put (put (put (put (put (put (put (put (put (put (put (put (put (put (put (put (put (put (put (put (put (put (put (put (put (put (put (put (put (put (put (put (put (put (put (put ρ 49 (ρ 7)) 50 (ρ 1)) 51 v51) 52 v52) 55 (ρ 1)) 56 (ρ 7)) 57 v57) 58 v58) 8 v8) 59 (ρ 5)) 60 v60) 9 v60) 61 (ρ 5)) 62 v62) 10 v62) 63 (ρ 5)) 64 v64) 11 v64) 65 (ρ 5)) 66 v66) 12 v66) 67 (ρ 5)) 68 v68) 13 v68) 69 (ρ 5)) 70 v70) 71 v71) 14 v71) 72 v68) 73 v68) 74 v74) 75 v75) 76 v76) 77 v77) 78 v77) 79 v79) 80 v80) 81 v81) 82 v82) 83 v82) 84 v84) 85 v85) 86 v86) 87 v71) 88 v88) 89 v89) 90 v90) 91 v90) 92 v92) 93 v93) 94 v94) 95 v95) 96 v96) 97 v97) 98 v97) 99 v99) 100 v100) 101 v101) 102 v102) 103 v103) 104 v104) 105 v105) 106 v106) 107 v107) 108 v108) 109 v109) 110 v110) 111 v111) 112 v112) 113 v113) 114 v114) 115 v115) 116 v116) 117 v116) 118 v118) 119 v119) 120 v120) 121 v121) 122 v122) 123 v123) 124 v124) 125 v125) 126 v126) 127 v127) 128 v128) 129 v128) 130 v130) 131 v131) 132 v132) 133 v133) 134 v133) 135 v135) 136 v136) 137 v137) 138 v138) 139 v139) 140 v139) 141 v141) 142 v142) 143 v143) 144 v144) 145 v145) 146 v146) w))))))))))))))))))))))))))))))))))))))))))
       (
        px Try.prog (binSem BinOp.eql 25 (Operand.tmp 147) (Operand.const (Value.int IntKind.i64 55)) v71 (Value.int IntKind.i64 55)) w fun v148 w =>
        pG v148 false (fun k => k v71 w) (w := w) (next := fun v150 w =>
        pG v148 false (fun k => px Try.prog (binSem BinOp.eql 25 (Operand.tmp 150) (Operand.const (Value.int IntKind.i64 56)) v150 (Value.int IntKind.i64 56)) w k) (w := w) (next := fun v151 w =>
        px Try.prog (pickSem v148 (Value.bool true) v151) w fun v152 w =>
        pG v152 true (fun k => k (ρ 5) w) (w := w) (next := fun v155 w =>
        pG v152 true (fun k => pFn Try.prog 29 [v155] w k) (w := w) (next := fun v156 w =>
        pG v152 true (fun k => k v66 w) (w := w) (next := fun v157 w =>
        pG v152 true (fun k => px Try.prog (binSem BinOp.add 3 (Operand.tmp 157) (Operand.const (Value.int IntKind.i64 1)) v157 (Value.int IntKind.i64 1)) w k) (w := w) (next := fun v158 w =>
        pG v152 true (fun k => px Try.prog (binSem BinOp.neq 3 (Operand.tmp 156) (Operand.tmp 158) v156 v158) w k) (w := w) (next := fun v159 w =>
        px Try.prog (pickSem v152 v159 (Value.bool false)) w fun v160 w =>
        pG v160 false (fun k => k v152 w) (w := w) (next := fun v162 w =>
        pG v160 false (fun k => px Try.prog (Op.unary UnOp.not v162) w k) (w := w) (next := fun v163 w =>
        pG v160 false (fun k => k v163 w) (w := w) (next := fun v164 w =>
        pG v164 true (fun k => k v71 w) (w := w) (next := fun v165 w =>
        pG v164 true (fun k => px Try.prog (binSem BinOp.neq 25 (Operand.tmp 165) (Operand.const (Value.int IntKind.i64 50)) v165 (Value.int IntKind.i64 50)) w k) (w := w) (next := fun v166 w =>
        pG v160 false (fun k => px Try.prog (pickSem v164 v166 (Value.bool false)) w k) (w := w) (next := fun v167 w =>
        pG v160 false (fun k => k v167 w) (w := w) (next := fun v168 w =>
        pG v168 true (fun k => k (ρ 5) w) (w := w) (next := fun v169 w =>
        pG v168 true (fun k => pFn Try.prog 29 [v169] w k) (w := w) (next := fun v170 w =>
        pG v168 true (fun k => k v66 w) (w := w) (next := fun v171 w =>
        pG v168 true (fun k => px Try.prog (binSem BinOp.neq 3 (Operand.tmp 170) (Operand.tmp 171) v170 v171) w k) (w := w) (next := fun v172 w =>
        pG v160 false (fun k => px Try.prog (pickSem v168 v172 (Value.bool false)) w k) (w := w) (next := fun v173 w =>
        px Try.prog (pickSem v160 (Value.bool true) v173) w fun v174 w =>
        pC v174 (
          k (Value.bool false) w)
         (
          pG v68 true (fun k => k v71 w) (w := w) (next := fun v177 w =>
          pG v68 true (fun k => px Try.prog (binSem BinOp.eql 25 (Operand.tmp 177) (Operand.const (Value.int IntKind.i64 50)) v177 (Value.int IntKind.i64 50)) w k) (w := w) (next := fun v178 w =>
          px Try.prog (pickSem v68 v178 (Value.bool false)) w fun v179 w =>
          pG v179 true (fun k => k (ρ 5) w) (w := w) (next := fun v181 w =>
          pG v179 true (fun k => pFn Try.prog 29 [v181] w k) (w := w) (next := fun v182 w =>
          pG v179 true (fun k => k v66 w) (w := w) (next := fun v183 w =>
          pG v179 true (fun k => px Try.prog (binSem BinOp.neq 3 (Operand.tmp 182) (Operand.tmp 183) v182 v183) w k) (w := w) (next := fun v184 w =>
          px Try.prog (pickSem v179 v184 (Value.bool false)) w fun v185 w =>
          pC v185 (
            k (Value.bool false) w)
           (
            px Try.prog (binSem BinOp.eql 25 (Operand.tmp 186) (Operand.const (Value.int IntKind.i64 50)) v71 (Value.int IntKind.i64 50)) w fun v187 w =>
            pG v187 true (fun k => k v68 w) (w := w) (next := fun v189 w =>
            pG v187 true (fun k => px Try.prog (Op.unary UnOp.not v189) w k) (w := w) (next := fun v190 w =>
            px Try.prog (pickSem v187 v190 (Value.bool false)) w fun v191 w =>
            pC v191 (
              pFn Try.prog 29 [(ρ 5)] w fun v193 w =>
              px Try.prog (binSem BinOp.add 3 (Operand.tmp 194) (Operand.const (Value.int IntKind.i64 1)) v66 (Value.int IntKind.i64 1)) w fun v195 w =>
              px Try.prog (binSem BinOp.neq 3 (Operand.tmp 193) (Operand.tmp 195) v193 v195) w fun v196 w =>
              pG v196 false (fun k => k (ρ 5) w) (w := w) (next := fun v198 w =>
              pG v196 false (fun k => pFn Try.prog 22 [v198] w k) (w := w) (next := fun v199 w =>
              pG v196 false (fun k => px Try.prog (Op.unary UnOp.not v199) w k) (w := w) (next := fun v200 w =>
              px Try.prog (pickSem v196 (Value.bool true) v200) w fun v201 w =>
              pG v201 false (fun k => k (ρ 5) w) (w := w) (next := fun v203 w =>
              pG v201 false (fun k => pFn Try.prog 27 [v203] w k) (w := w) (next := fun v204 w =>
              pG v201 false (fun k => k v62 w) (w := w) (next := fun v205 w =>
              pG v201 false (fun k => pFn Try.prog 16 [v204, v205] w k) (w := w) (next := fun v206 w =>
              pG v201 false (fun k => px Try.prog (Op.unary UnOp.not v206) w k) (w := w) (next := fun v207 w =>
              px Try.prog (pickSem v201 (Value.bool true) v207) w fun v208 w =>
              pC v208 (
                k (Value.bool false) w)
               (
                F5A1 k N1 [1, 1] (put (put (put (put (put (put (put (put (put (put (put (put (put (put (put (put (put (put (put (put (put (put (put (put (put (put (put (put (put (put (put (put (put (put (put (put (put (put (put (put (put (put (put (put (put (put (put (put (put (put (put (put (put (put (put (put (put (put (put (put (put (put (put (put (put (put (put (put (put (put (put (put (put (put (put (put (put (put (put (put (put (put (put (put (put (put (put (put (put (put (put (put (put (put (put (put (put (put (put (put (put (put (put (put (put (put (put (put ρ 49 (ρ 7)) 50 (ρ 1)) 51 v51) 52 v52) 55 (ρ 1)) 56 (ρ 7)) 57 v57) 58 v58) 8 v8) 59 (ρ 5)) 60 v60) 9 v60) 61 (ρ 5)) 62 v62) 10 v62) 63 (ρ 5)) 64 v64) 11 v64) 65 (ρ 5)) 66 v66) 12 v66) 67 (ρ 5)) 68 v68) 13 v68) 69 (ρ 5)) 70 v70) 71 v71) 14 v71) 72 v68) 73 v68) 74 v74) 75 v75) 76 v76) 77 v77) 78 v77) 79 v79) 80 v80) 81 v81) 82 v82) 83 v82) 84 v84) 85 v85) 86 v86) 87 v71) 88 v88) 147 v71) 148 v148) 149 v148) 150 v150) 151 v151) 152 v152) 15 v152) 153 v152) 154 v152) 155 v155) 156 v156) 157 v157) 158 v158) 159 v159) 160 v160) 161 v160) 162 v162) 163 v163) 164 v164) 165 v165) 166 v166) 167 v167) 168 v168) 169 v169) 170 v170) 171 v171) 172 v172) 173 v173) 174 v174) 175 v68) 176 v68) 177 v177) 178 v178) 179 v179) 180 v179) 181 v181) 182 v182) 183 v183) 184 v184) 185 v185) 186 v71) 187 v187) 188 v187) 189 v189) 190 v190) 191 v191) 192 (ρ 5)) 193 v193) 194 v66) 195 v195) 196 v196) 197 v196) 198 v198) 199 v199) 200 v200) 201 v201) 202 v201) 203 v203) 204 v204) 205 v205) 206 v206) 207 v207) 208 v208) w))))))))))
             (
              pFn Try.prog 17 [(ρ 5)] w fun v210 w =>
              pFn Try.prog 16 [v210, v60] w fun v212 w =>
              px Try.prog (Op.unary UnOp.not v212) w fun v213 w =>
              pG v213 false (fun k => k (ρ 5) w) (w := w) (next := fun v215 w =>
              pG v213 false (fun k => pFn Try.prog 27 [v215] w k) (w := w) (next := fun v216 w =>
              pG v213 false (fun k => k v62 w) (w := w) (next := fun v217 w =>
              pG v213 false (fun k => pFn Try.prog 16 [v216, v217] w k) (w := w) (next := fun v218 w =>
              pG v213 false (fun k => px Try.prog (Op.unary UnOp.not v218) w k) (w := w) (next := fun v219 w =>
              px Try.prog (pickSem v213 (Value.bool true) v219) w fun v220 w =>
              pG v220 false (fun k => k (ρ 5) w) (w := w) (next := fun v222 w =>
              pG v220 false (fun k => pFn Try.prog 28 [v222] w k) (w := w) (next := fun v223 w =>
              pG v220 false (fun k => k v64 w) (w := w) (next := fun v224 w =>
              pG v220 false (fun k => pFn Try.prog 34 [v223, v224] w k) (w := w) (next := fun v225 w =>
              pG v220 false (fun k => px Try.prog (Op.unary UnOp.not v225) w k) (w := w) (next := fun v226 w =>
              px Try.prog (pickSem v220 (Value.bool true) v226) w fun v227 w =>
              pG v227 false (fun k => k (ρ 5) w) (w := w) (next := fun v229 w =>
              pG v227 false (fun k => pFn Try.prog 22 [v229] w k) (w := w) (next := fun v230 w =>
              pG v227 false (fun k => k v68 w) (w := w) (next := fun v231 w =>
              pG v227 false (fun k => px Try.prog (binSem BinOp.neq 4 (Operand.tmp 230) (Operand.tmp 231) v230 v231) w k) (w := w) (next := fun v232 w =>
              px Try.prog (pickSem v227 (Value.bool true) v232) w fun v233 w =>
              pC v233 (
                k (Value.bool false) w)
               (
                F5A1 k N1 [1, 1] (put (put (put (put (put (put (put (put (put (put (put (put (put (put (put (put (put (put (put (put (put (put (put (put (put (put (put (put (put (put (put (put (put (put (put (put (put (put (put (put (put (put (put (put (put (put (put (put (put (put (put (put (put (put (put (put (put (put (put (put (put (put (put (put (put (put (put (put (put (put (put (put (put (put (put (put (put (put (put (put (put (put (put (put (put (put (put (put (put (put (put (put (put (put (put (put (put (put (put (put (put (put (put (put (put (put (put (put (put (put (put (put (put (put (put (put ρ 49 (ρ 7)) 50 (ρ 1)) 51 v51) 52 v52) 55 (ρ 1)) 56 (ρ 7)) 57 v57) 58 v58) 8 v8) 59 (ρ 5)) 60 v60) 9 v60) 61 (ρ 5)) 62 v62) 10 v62) 63 (ρ 5)) 64 v64) 11 v64) 65 (ρ 5)) 66 v66) 12 v66) 67 (ρ 5)) 68 v68) 13 v68) 69 (ρ 5)) 70 v70) 71 v71) 14 v71) 72 v68) 73 v68) 74 v74) 75 v75) 76 v76) 77 v77) 78 v77) 79 v79) 80 v80) 81 v81) 82 v82) 83 v82) 84 v84) 85 v85) 86 v86) 87 v71) 88 v88) 147 v71) 148 v148) 149 v148) 150 v150) 151 v151) 152 v152) 15 v152) 153 v152) 154 v152) 155 v155) 156 v156) 157 v157) 158 v158) 159 v159) 160 v160) 161 v160) 162 v162) 163 v163) 164 v164) 165 v165) 166 v166) 167 v167) 168 v168) 169 v169) 170 v170) 171 v171) 172 v172) 173 v173) 174 v174) 175 v68) 176 v68) 177 v177) 178 v178) 179 v179) 180 v179) 181 v181) 182 v182) 183 v183) 184 v184) 185 v185) 186 v71) 187 v187) 188 v187) 189 v189) 190 v190) 191 v191) 209 (ρ 5)) 210 v210) 211 v60) 212 v212) 213 v213) 214 v213) 215 v215) 216 v216) 217 v217) 218 v218) 219 v219) 220 v220) 221 v220) 222 v222) 223 v223) 224 v224) 225 v225) 226 v226) 227 v227) 228 v227) 229 v229) 230 v230) 231 v231) 232 v232) 233 v233) w))))))))))))))))))))))))))))))))))))))))))))))))))))))))
   (
    F5A k [1, 1, 1, 1, 1, 1] (put (put (put (put ρ 49 (ρ 7)) 50 (ρ 1)) 51 v51) 52 v52) w)
theorem F5_1_eq (k : Value → World → Prop) (N1 : Env → World → Prop) (ρ : Env) (w : World) : F5A1 k N1 [] ρ w = F5_1 k N1 ρ w := by kernel_rfl
def F5_2 (k : Value → World → Prop) (N1 : Env → World → Prop) (ρ : Env) (w : World) : Prop :=
  px Try.prog (binSem BinOp.add 3 (Operand.tmp 53) (Operand.const (Value.int IntKind.i64 1)) (ρ 7) (Value.int IntKind.i64 1)) w fun v54 w =>
  N1 (put (put (put ρ 53 (ρ 7)) 54 v54) 7 v54) w
theorem F5_2_eq (k : Value → World → Prop) (N1 : Env → World → Prop) (ρ : Env) (w : World) : F5A1 k N1 [1, 1] ρ w = F5_2 k N1 ρ w := by kernel_rfl
def F5_3 (k : Value → World → Prop) (ρ : Env) (w : World) : Prop :=
  pFn Try.prog 18 [] w fun v234 w =>
  k v234 w
theorem F5_3_eq (k : Value → World → Prop) (ρ : Env) (w : World) : F5A k [1, 1, 1, 1, 1, 1] ρ w = F5_3 k ρ w := by kernel_rfl
theorem F5_in (a0 : Value) (a1 : Value) (w : World) (k : Value → World → Prop) (h : F5_0 a0 a1 w k) : pFn Try.prog 5 [a0, a1] w k :=
  pFn_of_at Try.mixed Try.func5 (by kernel_rfl) (by kernel_rfl) Try.ntmps5 (by kernel_rfl) (by kernel_rfl) (by simp) ((F5_0_eq a0 a1 w k).mpr h)

/-! ## 6 freight/freightlaw5.DiskSafe -/
noncomputable def F6B : Code := bodyOf Try.f6
def F6A (k : Value → World → Prop) (q : List Nat) (ρ : Env) (w : World) : Prop := At Try.prog 147 F6B (retQ Try.prog Try.f6.results.toList k) q ρ w
noncomputable def F6B1 : Code := sub F6B [1, 1, 1, 1, 0, 1, 0, 0]
def F6Q1 (k : Value → World → Prop) (N1 : Env → World → Prop) : Xt → Env → World → Prop := thenE N1 (contAt Try.prog 147 F6B (retQ Try.prog Try.f6.results.toList k) [1, 1, 1, 1, 0, 1, 0])
def F6A1 (k : Value → World → Prop) (N1 : Env → World → Prop) (q : List Nat) (ρ : Env) (w : World) : Prop := At Try.prog 147 F6B1 (F6Q1 k N1) q ρ w
def F6L1 (k : Value → World → Prop) (ρ : Env) (w : World) : Prop := LoopAt Try.prog 147 F6B (retQ Try.prog Try.f6.results.toList k) [1, 1, 1, 1, 0, 1, 0] ρ w
theorem F6L1_inv (k : Value → World → Prop) (I : Nat → Env → World → Prop) (round : ∀ m ρ w, I m ρ w → F6A1 k (fun ρ' w' => ∃ m', m' < m ∧ I m' ρ' w') [] ρ w) {m : Nat} {ρ : Env} {w : World} (h : I m ρ w) : F6L1 k ρ w :=
  LoopAt_inv Try.mixed (B := F6B) (Q := (retQ Try.prog Try.f6.results.toList k)) (p := [1, 1, 1, 1, 0, 1, 0]) (by kernel_rfl) (by kernel_rfl) I round h
noncomputable def F6B2 : Code := sub F6B [1, 1, 1, 1, 1, 1, 1, 1, 1, 1, 1, 1, 1, 1, 1, 1, 1, 1, 1, 0, 1, 0, 0]
def F6Q2 (k : Value → World → Prop) (N2 : Env → World → Prop) : Xt → Env → World → Prop := thenE N2 (contAt Try.prog 147 F6B (retQ Try.prog Try.f6.results.toList k) [1, 1, 1, 1, 1, 1, 1, 1, 1, 1, 1, 1, 1, 1, 1, 1, 1, 1, 1, 0, 1, 0])
def F6A2 (k : Value → World → Prop) (N2 : Env → World → Prop) (q : List Nat) (ρ : Env) (w : World) : Prop := At Try.prog 147 F6B2 (F6Q2 k N2) q ρ w
def F6L2 (k : Value → World → Prop) (ρ : Env) (w : World) : Prop := LoopAt Try.prog 147 F6B (retQ Try.prog Try.f6.results.toList k) [1, 1, 1, 1, 1, 1, 1, 1, 1, 1, 1, 1, 1, 1, 1, 1, 1, 1, 1, 0, 1, 0] ρ w
theorem F6L2_inv (k : Value → World → Prop) (I : Nat → Env → World → Prop) (round : ∀ m ρ w, I m ρ w → F6A2 k (fun ρ' w' => ∃ m', m' < m ∧ I m' ρ' w') [] ρ w) {m : Nat} {ρ : Env} {w : World} (h : I m ρ w) : F6L2 k ρ w :=
  LoopAt_inv Try.mixed (B := F6B) (Q := (retQ Try.prog Try.f6.results.toList k)) (p := [1, 1, 1, 1, 1, 1, 1, 1, 1, 1, 1, 1, 1, 1, 1, 1, 1, 1, 1, 0, 1, 0]) (by kernel_rfl) (by kernel_rfl) I round h
def F6_0 (a0 : Value) (a1 : Value) (a2 : Value) (w : World) (k : Value → World → Prop) : Prop :=
  pFn Try.prog 26 [a1] w fun v16 w =>
  pG v16 false (fun k => k a2 w) (w := w) (next := fun v18 w =>
  pG v16 false (fun k => px Try.prog (bSem .len #[57] 3 #[v18]) w k) (w := w) (next := fun v19 w =>
  pG v16 false (fun k => px Try.prog (binSem BinOp.gtr 3 (Operand.tmp 19) (Operand.const (Value.int IntKind.i64 400)) v19 (Value.int IntKind.i64 400)) w k) (w := w) (next := fun v20 w =>
  px Try.prog (pickSem v16 (Value.bool true) v20) w fun v21 w =>
  pG v21 false (fun k => k a0 w) (w := w) (next := fun v23 w =>
  pG v21 false (fun k => px Try.prog (binSem BinOp.lss 3 (Operand.tmp 23) (Operand.const (Value.int IntKind.i64 1)) v23 (Value.int IntKind.i64 1)) w k) (w := w) (next := fun v24 w =>
  px Try.prog (pickSem v21 (Value.bool true) v24) w fun v25 w =>
  pG v25 false (fun k => k a0 w) (w := w) (next := fun v27 w =>
  pG v25 false (fun k => px Try.prog (binSem BinOp.gtr 3 (Operand.tmp 27) (Operand.const (Value.int IntKind.i64 1048576)) v27 (Value.int IntKind.i64 1048576)) w k) (w := w) (next := fun v28 w =>
  px Try.prog (pickSem v25 (Value.bool true) v28) w fun v29 w =>
  pC v29 (
    k (Value.bool true) w)
   (
    pFn Try.prog 9 [a0] w fun v32 w =>
    px Try.prog (Instr.extract v32 0) w fun v33 w =>
    px Try.prog (Instr.extract v32 1) w fun v34 w =>
    px Try.prog (binSem BinOp.neq 25 (Operand.tmp 35) (Operand.const (Value.int IntKind.i64 0)) v34 (Value.int IntKind.i64 0)) w fun v36 w =>
    pG v36 false (fun k => k v33 w) (w := w) (next := fun v38 w =>
    pG v36 false (fun k => px Try.prog (binSem BinOp.eql 24 (Operand.tmp 38) (Operand.const (Value.pointer none)) v38 (Value.pointer none)) w k) (w := w) (next := fun v39 w =>
    px Try.prog (pickSem v36 (Value.bool true) v39) w fun v40 w =>
    pC v40 (
      k (Value.bool false) w)
     (
      F6L1 k (put (put (put (put (put (put (put (put (put (put (put (put (put (put (put (put (put (put (put (put (put (put (put (put (put (put (put (put (put (put (argEnv [a0, a1, a2]) 6 (Value.bool false)) 15 a1) 16 v16) 17 v16) 18 v18) 19 v19) 20 v20) 21 v21) 22 v21) 23 v23) 24 v24) 25 v25) 26 v25) 27 v27) 28 v28) 29 v29) 31 a0) 32 v32) 30 v32) 33 v33) 34 v34) 7 v33) 8 v34) 35 v34) 36 v36) 37 v36) 38 v38) 39 v39) 40 v40) 9 (Value.int IntKind.i64 0)) w)))))))))))
theorem F6_0_eq (a0 : Value) (a1 : Value) (a2 : Value) (w : World) (k : Value → World → Prop) : F6A k [] (argEnv [a0, a1, a2]) w = F6_0 a0 a1 a2 w k := by kernel_rfl
def F6_1 (k : Value → World → Prop) (N1 : Env → World → Prop) (ρ : Env) (w : World) : Prop :=
  px Try.prog (bSem .len #[55] 3 #[(ρ 1)]) w fun v43 w =>
  px Try.prog (binSem BinOp.lss 3 (Operand.tmp 41) (Operand.tmp 43) (ρ 9) v43) w fun v44 w =>
  pC v44 (
    px Try.prog (Instr.indexAt 55 (ρ 1) (ρ 9)) w fun v50 w =>
    px Try.prog (Instr.loadAt 59 v50) w fun v51 w =>
    pFn Try.prog 30 [(ρ 7), v51] w fun v52 w =>
    px Try.prog (binSem BinOp.add 3 (Operand.tmp 45) (Operand.const (Value.int IntKind.i64 1)) (ρ 9) (Value.int IntKind.i64 1)) w fun v46 w =>
    N1 (put (put (put (put (put (put (put (put (put (put (put (put (put ρ 41 (ρ 9)) 42 (ρ 1)) 43 v43) 44 v44) 47 (ρ 7)) 48 (ρ 1)) 49 (ρ 9)) 50 v50) 51 v51) 52 v52) 45 (ρ 9)) 46 v46) 9 v46) w)
   (
    F6A k [1, 1, 1, 1, 1] (put (put (put (put ρ 41 (ρ 9)) 42 (ρ 1)) 43 v43) 44 v44) w)
theorem F6_1_eq (k : Value → World → Prop) (N1 : Env → World → Prop) (ρ : Env) (w : World) : F6A1 k N1 [] ρ w = F6_1 k N1 ρ w := by kernel_rfl
def F6_2 (k : Value → World → Prop) (ρ : Env) (w : World) : Prop :=
  pFn Try.prog 27 [(ρ 7)] w fun v54 w =>
  pFn Try.prog 35 [(ρ 7)] w fun v56 w =>
  px Try.prog (binSem BinOp.eql 24 (Operand.tmp 57) (Operand.const (Value.pointer none)) v56 (Value.pointer none)) w fun v58 w =>
  pC v58 (
    k (Value.bool false) w)
   (
    pFn Try.prog 15 [v56, (Value.slice none 0 0)] w fun v60 w =>
    pFn Try.prog 17 [v56] w fun v62 w =>
    pFn Try.prog 16 [v62, v54] w fun v64 w =>
    px Try.prog (Op.unary UnOp.not v64) w fun v65 w =>
    pG v65 false (fun k => k v56 w) (w := w) (next := fun v67 w =>
    pG v65 false (fun k => pFn Try.prog 27 [v67] w k) (w := w) (next := fun v68 w =>
    pG v65 false (fun k => k v54 w) (w := w) (next := fun v69 w =>
    pG v65 false (fun k => pFn Try.prog 16 [v68, v69] w k) (w := w) (next := fun v70 w =>
    pG v65 false (fun k => px Try.prog (Op.unary UnOp.not v70) w k) (w := w) (next := fun v71 w =>
    px Try.prog (pickSem v65 (Value.bool true) v71) w fun v72 w =>
    pG v72 false (fun k => k v56 w) (w := w) (next := fun v74 w =>
    pG v72 false (fun k => pFn Try.prog 22 [v74] w k) (w := w) (next := fun v75 w =>
    px Try.prog (pickSem v72 (Value.bool true) v75) w fun v76 w =>
    pG v76 false (fun k => k v56 w) (w := w) (next := fun v78 w =>
    pG v76 false (fun k => pFn Try.prog 29 [v78] w k) (w := w) (next := fun v79 w =>
    pG v76 false (fun k => px Try.prog (binSem BinOp.neq 3 (Operand.tmp 79) (Operand.const (Value.int IntKind.i64 0)) v79 (Value.int IntKind.i64 0)) w k) (w := w) (next := fun v80 w =>
    px Try.prog (pickSem v76 (Value.bool true) v80) w fun v81 w =>
    pC v81 (
      k (Value.bool false) w)
     (
      pFn Try.prog 35 [(ρ 7)] w fun v83 w =>
      pFn Try.prog 15 [v83, (ρ 2)] w fun v86 w =>
      pFn Try.prog 17 [v83] w fun v88 w =>
      pFn Try.prog 27 [v83] w fun v90 w =>
      pFn Try.prog 16 [v90, v88] w fun v92 w =>
      px Try.prog (Op.unary UnOp.not v92) w fun v93 w =>
      pC v93 (
        k (Value.bool false) w)
       (
        px Try.prog (Instr.buildSlice 57 3 #[(0, (Value.int IntKind.i64 7)), (1, (Value.int IntKind.i64 7)), (2, (Value.int IntKind.i64 7))]) w fun v95 w =>
        pFn Try.prog 15 [v83, v95] w fun v96 w =>
        pFn Try.prog 17 [v83] w fun v98 w =>
        pFn Try.prog 16 [v98, v88] w fun v100 w =>
        px Try.prog (Op.unary UnOp.not v100) w fun v101 w =>
        pC v101 (
          k (Value.bool false) w)
         (
          pFn Try.prog 22 [(ρ 7)] w fun v103 w =>
          pC v103 (
            pFn Try.prog 18 [] w fun v104 w =>
            k v104 w)
           (
            px Try.prog (Instr.build 46 #[]) w fun v106 w =>
            pFn Try.prog 19 [(ρ 7), v106] w fun v107 w =>
            pFn Try.prog 17 [(ρ 7)] w fun v109 w =>
            F6L2 k (put (put (put (put (put (put (put (put (put (put (put (put (put (put (put (put (put (put (put (put (put (put (put (put (put (put (put (put (put (put (put (put (put (put (put (put (put (put (put (put (put (put (put (put (put (put (put (put (put (put (put (put (put (put (put (put (put (put (put (put (put (put ρ 53 (ρ 7)) 54 v54) 10 v54) 55 (ρ 7)) 56 v56) 11 v56) 57 v56) 58 v58) 59 v56) 60 v60) 61 v56) 62 v62) 63 v54) 64 v64) 65 v65) 66 v65) 67 v67) 68 v68) 69 v69) 70 v70) 71 v71) 72 v72) 73 v72) 74 v74) 75 v75) 76 v76) 77 v76) 78 v78) 79 v79) 80 v80) 81 v81) 82 (ρ 7)) 83 v83) 11 v83) 84 v83) 85 (ρ 2)) 86 v86) 87 v83) 88 v88) 12 v88) 89 v83) 90 v90) 91 v88) 92 v92) 93 v93) 94 v83) 95 v95) 96 v96) 97 v83) 98 v98) 99 v88) 100 v100) 101 v101) 102 (ρ 7)) 103 v103) 105 (ρ 7)) 106 v106) 107 v107) 108 (ρ 7)) 109 v109) 13 v109) 14 (Value.int IntKind.i64 0)) w)))))))))))))))
theorem F6_2_eq (k : Value → World → Prop) (ρ : Env) (w : World) : F6A k [1, 1, 1, 1, 1] ρ w = F6_2 k ρ w := by kernel_rfl
def F6_3 (k : Value → World → Prop) (N2 : Env → World → Prop) (ρ : Env) (w : World) : Prop :=
  px Try.prog (bSem .len #[37] 3 #[(ρ 13)]) w fun v112 w =>
  px Try.prog (binSem BinOp.lss 3 (Operand.tmp 110) (Operand.tmp 112) (ρ 14) v112) w fun v113 w =>
  pC v113 (
    px Try.prog (bSem .len #[37] 3 #[(ρ 13)]) w fun v119 w =>
    px Try.prog (binSem BinOp.sub 3 (Operand.tmp 119) (Operand.const (Value.int IntKind.i64 1)) v119 (Value.int IntKind.i64 1)) w fun v120 w =>
    px Try.prog (binSem BinOp.sub 3 (Operand.tmp 120) (Operand.tmp 121) v120 (ρ 14)) w fun v122 w =>
    px Try.prog (Instr.indexAt 37 (ρ 13) v122) w fun v123 w =>
    px Try.prog (Instr.fieldAt 52 v123 0) w fun v124 w =>
    px Try.prog (Instr.loadAt 9 v124) w fun v125 w =>
    pFn Try.prog 12 [(ρ 7), v125] w fun v126 w =>
    px Try.prog (binSem BinOp.neq 25 (Operand.tmp 126) (Operand.const (Value.int IntKind.i64 0)) v126 (Value.int IntKind.i64 0)) w fun v127 w =>
    pC v127 (
      k (Value.bool false) w)
     (
      px Try.prog (binSem BinOp.add 3 (Operand.tmp 114) (Operand.const (Value.int IntKind.i64 1)) (ρ 14) (Value.int IntKind.i64 1)) w fun v115 w =>
      N2 (put (put (put (put (put (put (put (put (put (put (put (put (put (put (put (put (put (put (put ρ 110 (ρ 14)) 111 (ρ 13)) 112 v112) 113 v113) 116 (ρ 7)) 117 (ρ 13)) 118 (ρ 13)) 119 v119) 120 v120) 121 (ρ 14)) 122 v122) 123 v123) 124 v124) 125 v125) 126 v126) 127 v127) 114 (ρ 14)) 115 v115) 14 v115) w))
   (
    F6A k [1, 1, 1, 1, 1, 1, 1, 1, 1, 1, 1, 1, 1, 1, 1, 1, 1, 1, 1, 1] (put (put (put (put ρ 110 (ρ 14)) 111 (ρ 13)) 112 v112) 113 v113) w)
theorem F6_3_eq (k : Value → World → Prop) (N2 : Env → World → Prop) (ρ : Env) (w : World) : F6A2 k N2 [] ρ w = F6_3 k N2 ρ w := by kernel_rfl
def F6_4 (k : Value → World → Prop) (ρ : Env) (w : World) : Prop :=
  pFn Try.prog 13 [(ρ 7)] w fun v129 w =>
  px Try.prog (binSem BinOp.neq 25 (Operand.tmp 129) (Operand.const (Value.int IntKind.i64 0)) v129 (Value.int IntKind.i64 0)) w fun v130 w =>
  pC v130 (
    k (Value.bool false) w)
   (
    pFn Try.prog 15 [(ρ 7), (ρ 2)] w fun v133 w =>
    pFn Try.prog 17 [(ρ 7)] w fun v135 w =>
    pFn Try.prog 16 [v135, (ρ 13)] w fun v137 w =>
    pG v137 true (fun k => k (ρ 7) w) (w := w) (next := fun v139 w =>
    pG v137 true (fun k => pFn Try.prog 27 [v139] w k) (w := w) (next := fun v140 w =>
    pG v137 true (fun k => k (ρ 13) w) (w := w) (next := fun v141 w =>
    pG v137 true (fun k => pFn Try.prog 16 [v140, v141] w k) (w := w) (next := fun v142 w =>
    px Try.prog (pickSem v137 v142 (Value.bool false)) w fun v143 w =>
    pG v143 true (fun k => pFn Try.prog 18 [] w k) (w := w) (next := fun v145 w =>
    px Try.prog (pickSem v143 v145 (Value.bool false)) w fun v146 w =>
    k v146 w))))))
theorem F6_4_eq (k : Value → World → Prop) (ρ : Env) (w : World) : F6A k [1, 1, 1, 1, 1, 1, 1, 1, 1, 1, 1, 1, 1, 1, 1, 1, 1, 1, 1, 1] ρ w = F6_4 k ρ w := by kernel_rfl
theorem F6_in (a0 : Value) (a1 : Value) (a2 : Value) (w : World) (k : Value → World → Prop) (h : F6_0 a0 a1 a2 w k) : pFn Try.prog 6 [a0, a1, a2] w k :=
  pFn_of_at Try.mixed Try.func6 (by kernel_rfl) (by kernel_rfl) Try.ntmps6 (by kernel_rfl) (by kernel_rfl) (by simp) ((F6_0_eq a0 a1 a2 w k).mpr h)

/-! ## 7 freight/freightlaw5.DiskWhole -/
noncomputable def F7B : Code := bodyOf Try.f7
def F7A (k : Value → World → Prop) (q : List Nat) (ρ : Env) (w : World) : Prop := At Try.prog 205 F7B (retQ Try.prog Try.f7.results.toList k) q ρ w
noncomputable def F7B1 : Code := sub F7B [1, 1, 1, 1, 1, 0, 1, 0, 0]
def F7Q1 (k : Value → World → Prop) (N1 : Env → World → Prop) : Xt → Env → World → Prop := thenE N1 (contAt Try.prog 205 F7B (retQ Try.prog Try.f7.results.toList k) [1, 1, 1, 1, 1, 0, 1, 0])
def F7A1 (k : Value → World → Prop) (N1 : Env → World → Prop) (q : List Nat) (ρ : Env) (w : World) : Prop := At Try.prog 205 F7B1 (F7Q1 k N1) q ρ w
def F7L1 (k : Value → World → Prop) (ρ : Env) (w : World) : Prop := LoopAt Try.prog 205 F7B (retQ Try.prog Try.f7.results.toList k) [1, 1, 1, 1, 1, 0, 1, 0] ρ w
theorem F7L1_inv (k : Value → World → Prop) (I : Nat → Env → World → Prop) (round : ∀ m ρ w, I m ρ w → F7A1 k (fun ρ' w' => ∃ m', m' < m ∧ I m' ρ' w') [] ρ w) {m : Nat} {ρ : Env} {w : World} (h : I m ρ w) : F7L1 k ρ w :=
  LoopAt_inv Try.mixed (B := F7B) (Q := (retQ Try.prog Try.f7.results.toList k)) (p := [1, 1, 1, 1, 1, 0, 1, 0]) (by kernel_rfl) (by kernel_rfl) I round h
noncomputable def F7B2 : Code := sub F7B1 [1, 0, 0, 1, 1, 1, 1, 1, 0, 1, 0, 1, 1, 0, 0]
def F7Q2 (k : Value → World → Prop) (N1 : Env → World → Prop) (N2 : Env → World → Prop) : Xt → Env → World → Prop := thenE N2 (contAt Try.prog 205 F7B1 (F7Q1 k N1) [1, 0, 0, 1, 1, 1, 1, 1, 0, 1, 0, 1, 1, 0])
def F7A2 (k : Value → World → Prop) (N1 : Env → World → Prop) (N2 : Env → World → Prop) (q : List Nat) (ρ : Env) (w : World) : Prop := At Try.prog 205 F7B2 (F7Q2 k N1 N2) q ρ w
def F7L2 (k : Value → World → Prop) (N1 : Env → World → Prop) (ρ : Env) (w : World) : Prop := LoopAt Try.prog 205 F7B1 (F7Q1 k N1) [1, 0, 0, 1, 1, 1, 1, 1, 0, 1, 0, 1, 1, 0] ρ w
theorem F7L2_inv (k : Value → World → Prop) (N1 : Env → World → Prop) (I : Nat → Env → World → Prop) (round : ∀ m ρ w, I m ρ w → F7A2 k N1 (fun ρ' w' => ∃ m', m' < m ∧ I m' ρ' w') [] ρ w) {m : Nat} {ρ : Env} {w : World} (h : I m ρ w) : F7L2 k N1 ρ w :=
  LoopAt_inv Try.mixed (B := F7B1) (Q := (F7Q1 k N1)) (p := [1, 0, 0, 1, 1, 1, 1, 1, 0, 1, 0, 1, 1, 0]) (by kernel_rfl) (by kernel_rfl) I round h
def F7_0 (a0 : Value) (a1 : Value) (a2 : Value) (w : World) (k : Value → World → Prop) : Prop :=
  pFn Try.prog 26 [a1] w fun v21 w =>
  pG v21 false (fun k => k a1 w) (w := w) (next := fun v23 w =>
  pG v21 false (fun k => px Try.prog (bSem .len #[55] 3 #[v23]) w k) (w := w) (next := fun v24 w =>
  pG v21 false (fun k => px Try.prog (binSem BinOp.gtr 3 (Operand.tmp 24) (Operand.const (Value.int IntKind.i64 60)) v24 (Value.int IntKind.i64 60)) w k) (w := w) (next := fun v25 w =>
  px Try.prog (pickSem v21 (Value.bool true) v25) w fun v26 w =>
  pG v26 false (fun k => k a2 w) (w := w) (next := fun v28 w =>
  pG v26 false (fun k => px Try.prog (binSem BinOp.lss 3 (Operand.tmp 28) (Operand.const (Value.int IntKind.i64 (-1000))) v28 (Value.int IntKind.i64 (-1000))) w k) (w := w) (next := fun v29 w =>
  px Try.prog (pickSem v26 (Value.bool true) v29) w fun v30 w =>
  pG v30 false (fun k => k a2 w) (w := w) (next := fun v32 w =>
  pG v30 false (fun k => px Try.prog (binSem BinOp.gtr 3 (Operand.tmp 32) (Operand.const (Value.int IntKind.i64 1000)) v32 (Value.int IntKind.i64 1000)) w k) (w := w) (next := fun v33 w =>
  px Try.prog (pickSem v30 (Value.bool true) v33) w fun v34 w =>
  pG v34 false (fun k => k a0 w) (w := w) (next := fun v36 w =>
  pG v34 false (fun k => px Try.prog (binSem BinOp.lss 3 (Operand.tmp 36) (Operand.const (Value.int IntKind.i64 1)) v36 (Value.int IntKind.i64 1)) w k) (w := w) (next := fun v37 w =>
  px Try.prog (pickSem v34 (Value.bool true) v37) w fun v38 w =>
  pG v38 false (fun k => k a0 w) (w := w) (next := fun v40 w =>
  pG v38 false (fun k => px Try.prog (binSem BinOp.gtr 3 (Operand.tmp 40) (Operand.const (Value.int IntKind.i64 1048576)) v40 (Value.int IntKind.i64 1048576)) w k) (w := w) (next := fun v41 w =>
  px Try.prog (pickSem v38 (Value.bool true) v41) w fun v42 w =>
  pC v42 (
    k (Value.bool true) w)
   (
    pFn Try.prog 9 [a0] w fun v45 w =>
    px Try.prog (Instr.extract v45 0) w fun v46 w =>
    px Try.prog (Instr.extract v45 1) w fun v47 w =>
    px Try.prog (binSem BinOp.neq 25 (Operand.tmp 48) (Operand.const (Value.int IntKind.i64 0)) v47 (Value.int IntKind.i64 0)) w fun v49 w =>
    pG v49 false (fun k => k v46 w) (w := w) (next := fun v51 w =>
    pG v49 false (fun k => px Try.prog (binSem BinOp.eql 24 (Operand.tmp 51) (Operand.const (Value.pointer none)) v51 (Value.pointer none)) w k) (w := w) (next := fun v52 w =>
    px Try.prog (pickSem v49 (Value.bool true) v52) w fun v53 w =>
    pC v53 (
      k (Value.bool false) w)
     (
      px Try.prog (Instr.build 73 #[]) w fun v54 w =>
      px Try.prog (Instr.box 73 v54) w fun v55 w =>
      F7L1 k (put (put (put (put (put (put (put (put (put (put (put (put (put (put (put (put (put (put (put (put (put (put (put (put (put (put (put (put (put (put (put (put (put (put (put (put (put (put (put (put (put (argEnv [a0, a1, a2]) 6 (Value.bool false)) 20 a1) 21 v21) 22 v21) 23 v23) 24 v24) 25 v25) 26 v26) 27 v26) 28 v28) 29 v29) 30 v30) 31 v30) 32 v32) 33 v33) 34 v34) 35 v34) 36 v36) 37 v37) 38 v38) 39 v38) 40 v40) 41 v41) 42 v42) 44 a0) 45 v45) 43 v45) 46 v46) 47 v47) 7 v46) 8 v47) 48 v47) 49 v49) 50 v49) 51 v51) 52 v52) 53 v53) 54 v54) 55 v55) 9 v55) 10 (Value.int IntKind.i64 0)) w)))))))))))))))
theorem F7_0_eq (a0 : Value) (a1 : Value) (a2 : Value) (w : World) (k : Value → World → Prop) : F7A k [] (argEnv [a0, a1, a2]) w = F7_0 a0 a1 a2 w k := by kernel_rfl
def F7_1 (k : Value → World → Prop) (N1 : Env → World → Prop) (ρ : Env) (w : World) : Prop :=
  px Try.prog (bSem .len #[55] 3 #[(ρ 1)]) w fun v58 w =>
  px Try.prog (binSem BinOp.lss 3 (Operand.tmp 56) (Operand.tmp 58) (ρ 10) v58) w fun v59 w =>
  pC v59 (
    px Try.prog (Instr.indexAt 55 (ρ 1) (ρ 10)) w fun v64 w =>
    px Try.prog (Instr.loadAt 59 v64) w fun v65 w =>
    px Try.prog (Instr.alloc 59 true (.tuple #[])) w fun v11 w =>
    pu Try.prog (Instr.storeAt 59 v11 v65) w fun w =>
    pFn Try.prog 17 [(ρ 7)] w fun v67 w =>
    pFn Try.prog 22 [(ρ 7)] w fun v69 w =>
    px Try.prog (Instr.loadAt 59 v11) w fun v71 w =>
    pFn Try.prog 30 [(ρ 7), v71] w fun v72 w =>
    pFn Try.prog 17 [(ρ 7)] w fun v74 w =>
    px Try.prog (Instr.fieldAt 59 v11 0) w fun v75 w =>
    px Try.prog (Instr.loadAt 3 v75) w fun v76 w =>
    px Try.prog (binSem BinOp.eql 3 (Operand.tmp 76) (Operand.const (Value.int IntKind.i64 12)) v76 (Value.int IntKind.i64 12)) w fun v77 w =>
    pC v77 (
      px Try.prog (Instr.build 73 #[]) w fun v78 w =>
      px Try.prog (Instr.box 73 v78) w fun v79 w =>
      F7L2 k N1 (put (put (put (put (put (put (put (put (put (put (put (put (put (put (put (put (put (put (put (put (put (put (put (put (put (put (put (put (put ρ 56 (ρ 10)) 57 (ρ 1)) 58 v58) 59 v59) 62 (ρ 1)) 63 (ρ 10)) 64 v64) 65 v65) 11 v11) 66 (ρ 7)) 67 v67) 12 v67) 68 (ρ 7)) 69 v69) 13 v69) 70 (ρ 7)) 71 v71) 72 v72) 14 v72) 73 (ρ 7)) 74 v74) 15 v74) 75 v75) 76 v76) 77 v77) 78 v78) 79 v79) 9 v79) 16 (Value.int IntKind.i64 0)) w)
     (
      px Try.prog (binSem BinOp.eql 25 (Operand.tmp 101) (Operand.const (Value.int IntKind.i64 50)) v72 (Value.int IntKind.i64 50)) w fun v102 w =>
      pG v102 true (fun k => k v69 w) (w := w) (next := fun v104 w =>
      pG v102 true (fun k => px Try.prog (Op.unary UnOp.not v104) w k) (w := w) (next := fun v105 w =>
      px Try.prog (pickSem v102 v105 (Value.bool false)) w fun v106 w =>
      pG v106 true (fun k => k (ρ 7) w) (w := w) (next := fun v108 w =>
      pG v106 true (fun k => pFn Try.prog 22 [v108] w k) (w := w) (next := fun v109 w =>
      px Try.prog (pickSem v106 v109 (Value.bool false)) w fun v110 w =>
      pC v110 (
        px Try.prog (Instr.fieldAt 59 v11 0) w fun v111 w =>
        px Try.prog (Instr.loadAt 3 v111) w fun v112 w =>
        px Try.prog (binSem BinOp.eql 3 (Operand.tmp 112) (Operand.const (Value.int IntKind.i64 2)) v112 (Value.int IntKind.i64 2)) w fun v113 w =>
        pG v113 false (fun k => px Try.prog (Instr.fieldAt 59 v11 0) w k) (w := w) (next := fun v115 w =>
        pG v113 false (fun k => px Try.prog (Instr.loadAt 3 v115) w k) (w := w) (next := fun v116 w =>
        pG v113 false (fun k => px Try.prog (binSem BinOp.eql 3 (Operand.tmp 116) (Operand.const (Value.int IntKind.i64 3)) v116 (Value.int IntKind.i64 3)) w k) (w := w) (next := fun v117 w =>
        px Try.prog (pickSem v113 (Value.bool true) v117) w fun v118 w =>
        pG v118 true (fun k => px Try.prog (Instr.fieldAt 59 v11 5) w k) (w := w) (next := fun v120 w =>
        pG v118 true (fun k => px Try.prog (Instr.loadAt 30 v120) w k) (w := w) (next := fun v121 w =>
        pG v118 true (fun k => px Try.prog (bSem .len #[30] 3 #[v121]) w k) (w := w) (next := fun v122 w =>
        pG v118 true (fun k => px Try.prog (binSem BinOp.gtr 3 (Operand.tmp 122) (Operand.const (Value.int IntKind.i64 0)) v122 (Value.int IntKind.i64 0)) w k) (w := w) (next := fun v123 w =>
        px Try.prog (pickSem v118 v123 (Value.bool false)) w fun v124 w =>
        pG v124 true (fun k => k v74 w) (w := w) (next := fun v126 w =>
        pG v124 true (fun k => k v67 w) (w := w) (next := fun v127 w =>
        pG v124 true (fun k => pFn Try.prog 16 [v126, v127] w k) (w := w) (next := fun v128 w =>
        px Try.prog (pickSem v124 v128 (Value.bool false)) w fun v129 w =>
        pC v129 (
          pFn Try.prog 18 [] w fun v130 w =>
          k v130 w)
         (
          px Try.prog (Instr.fieldAt 59 v11 0) w fun v131 w =>
          px Try.prog (Instr.loadAt 3 v131) w fun v132 w =>
          px Try.prog (binSem BinOp.neq 3 (Operand.tmp 132) (Operand.const (Value.int IntKind.i64 7)) v132 (Value.int IntKind.i64 7)) w fun v133 w =>
          pG v133 true (fun k => px Try.prog (Instr.fieldAt 59 v11 0) w k) (w := w) (next := fun v135 w =>
          pG v133 true (fun k => px Try.prog (Instr.loadAt 3 v135) w k) (w := w) (next := fun v136 w =>
          pG v133 true (fun k => px Try.prog (binSem BinOp.neq 3 (Operand.tmp 136) (Operand.const (Value.int IntKind.i64 8)) v136 (Value.int IntKind.i64 8)) w k) (w := w) (next := fun v137 w =>
          px Try.prog (pickSem v133 v137 (Value.bool false)) w fun v138 w =>
          pG v138 true (fun k => px Try.prog (Instr.fieldAt 59 v11 0) w k) (w := w) (next := fun v140 w =>
          pG v138 true (fun k => px Try.prog (Instr.loadAt 3 v140) w k) (w := w) (next := fun v141 w =>
          pG v138 true (fun k => px Try.prog (binSem BinOp.neq 3 (Operand.tmp 141) (Operand.const (Value.int IntKind.i64 1)) v141 (Value.int IntKind.i64 1)) w k) (w := w) (next := fun v142 w =>
          pG v138 true (fun k => k v142 w) (w := w) (next := fun v143 w =>
          pG v143 false (fun k => k v74 w) (w := w) (next := fun v144 w =>
          pG v143 false (fun k => px Try.prog (bSem .len #[37] 3 #[v144]) w k) (w := w) (next := fun v145 w =>
          pG v143 false (fun k => k v67 w) (w := w) (next := fun v146 w =>
          pG v143 false (fun k => px Try.prog (bSem .len #[37] 3 #[v146]) w k) (w := w) (next := fun v147 w =>
          pG v143 false (fun k => px Try.prog (binSem BinOp.gtr 3 (Operand.tmp 145) (Operand.tmp 147) v145 v147) w k) (w := w) (next := fun v148 w =>
          pG v138 true (fun k => px Try.prog (pickSem v143 (Value.bool true) v148) w k) (w := w) (next := fun v149 w =>
          px Try.prog (pickSem v138 v149 (Value.bool false)) w fun v150 w =>
          pC v150 (
            px Try.prog (Instr.loadAt 59 v11) w fun v152 w =>
            pFn Try.prog 36 [(ρ 9), v152] w fun v153 w =>
            F7A1 k N1 [1, 0, 0, 1, 1, 1, 1, 1, 1, 1] (put (put (put (put (put (put (put (put (put (put (put (put (put (put (put (put (put (put (put (put (put (put (put (put (put (put (put (put (put (put (put (put (put (put (put (put (put (put (put (put (put (put (put (put (put (put (put (put (put (put (put (put (put (put (put (put (put (put (put (put (put (put (put (put (put (put (put (put (put (put (put (put (put (put (put (put (put ρ 56 (ρ 10)) 57 (ρ 1)) 58 v58) 59 v59) 62 (ρ 1)) 63 (ρ 10)) 64 v64) 65 v65) 11 v11) 66 (ρ 7)) 67 v67) 12 v67) 68 (ρ 7)) 69 v69) 13 v69) 70 (ρ 7)) 71 v71) 72 v72) 14 v72) 73 (ρ 7)) 74 v74) 15 v74) 75 v75) 76 v76) 77 v77) 101 v72) 102 v102) 103 v102) 104 v104) 105 v105) 106 v106) 107 v106) 108 v108) 109 v109) 110 v110) 111 v111) 112 v112) 113 v113) 114 v113) 115 v115) 116 v116) 117 v117) 118 v118) 119 v118) 120 v120) 121 v121) 122 v122) 123 v123) 124 v124) 125 v124) 126 v126) 127 v127) 128 v128) 129 v129) 131 v131) 132 v132) 133 v133) 134 v133) 135 v135) 136 v136) 137 v137) 138 v138) 139 v138) 140 v140) 141 v141) 142 v142) 143 v143) 144 v144) 145 v145) 146 v146) 147 v147) 148 v148) 149 v149) 150 v150) 151 (ρ 9)) 152 v152) 153 v153) w)
           (
            F7A1 k N1 [1, 0, 0, 1, 1, 1, 1, 1, 1, 1] (put (put (put (put (put (put (put (put (put (put (put (put (put (put (put (put (put (put (put (put (put (put (put (put (put (put (put (put (put (put (put (put (put (put (put (put (put (put (put (put (put (put (put (put (put (put (put (put (put (put (put (put (put (put (put (put (put (put (put (put (put (put (put (put (put (put (put (put (put (put (put (put (put (put ρ 56 (ρ 10)) 57 (ρ 1)) 58 v58) 59 v59) 62 (ρ 1)) 63 (ρ 10)) 64 v64) 65 v65) 11 v11) 66 (ρ 7)) 67 v67) 12 v67) 68 (ρ 7)) 69 v69) 13 v69) 70 (ρ 7)) 71 v71) 72 v72) 14 v72) 73 (ρ 7)) 74 v74) 15 v74) 75 v75) 76 v76) 77 v77) 101 v72) 102 v102) 103 v102) 104 v104) 105 v105) 106 v106) 107 v106) 108 v108) 109 v109) 110 v110) 111 v111) 112 v112) 113 v113) 114 v113) 115 v115) 116 v116) 117 v117) 118 v118) 119 v118) 120 v120) 121 v121) 122 v122) 123 v123) 124 v124) 125 v124) 126 v126) 127 v127) 128 v128) 129 v129) 131 v131) 132 v132) 133 v133) 134 v133) 135 v135) 136 v136) 137 v137) 138 v138) 139 v138) 140 v140) 141 v141) 142 v142) 143 v143) 144 v144) 145 v145) 146 v146) 147 v147) 148 v148) 149 v149) 150 v150) w))))))))))))))))))))))))))
       (
        F7A1 k N1 [1, 0, 0, 1, 1, 1, 1, 1, 1, 1] (put (put (put (put (put (put (put (put (put (put (put (put (put (put (put (put (put (put (put (put (put (put (put (put (put (put (put (put (put (put (put (put (put (put (put ρ 56 (ρ 10)) 57 (ρ 1)) 58 v58) 59 v59) 62 (ρ 1)) 63 (ρ 10)) 64 v64) 65 v65) 11 v11) 66 (ρ 7)) 67 v67) 12 v67) 68 (ρ 7)) 69 v69) 13 v69) 70 (ρ 7)) 71 v71) 72 v72) 14 v72) 73 (ρ 7)) 74 v74) 15 v74) 75 v75) 76 v76) 77 v77) 101 v72) 102 v102) 103 v102) 104 v104) 105 v105) 106 v106) 107 v106) 108 v108) 109 v109) 110 v110) w)))))))
   (
    F7A k [1, 1, 1, 1, 1, 1] (put (put (put (put ρ 56 (ρ 10)) 57 (ρ 1)) 58 v58) 59 v59) w)
theorem F7_1_eq (k : Value → World → Prop) (N1 : Env → World → Prop) (ρ : Env) (w : World) : F7A1 k N1 [] ρ w = F7_1 k N1 ρ w := by kernel_rfl
def F7_2 (k : Value → World → Prop) (N1 : Env → World → Prop) (N2 : Env → World → Prop) (ρ : Env) (w : World) : Prop :=
  px Try.prog (bSem .len #[37] 3 #[(ρ 15)]) w fun v82 w =>
  px Try.prog (binSem BinOp.lss 3 (Operand.tmp 80) (Operand.tmp 82) (ρ 16) v82) w fun v83 w =>
  pC v83 (
    ∃ S : World → Prop, S w.drew ∧ (fun w =>
    pq Try.prog S (nilSem (ρ 9)) fun v88 =>
    pq Try.prog S (Instr.fieldAt 73 v88 0) fun v89 =>
    pq Try.prog S (Instr.loadAt 71 v89) fun v90 =>
    pq Try.prog S (Instr.indexAt 37 (ρ 15) (ρ 16)) fun v93 =>
    pq Try.prog S (Instr.fieldAt 52 v93 0) fun v94 =>
    pq Try.prog S (Instr.loadAt 9 v94) fun v95 =>
    pq Try.prog S (Instr.build 75 #[(0, v95)]) fun v96 =>
    px Try.prog (Instr.buildSlice 71 1 #[(0, v96)]) w fun v97 w => S w ∧ (
    px Try.prog (bSem .append #[71, 71] 71 #[v90, v97]) w fun v98 w => S w ∧ (
    pq Try.prog S (nilSem (ρ 9)) fun v99 =>
    pq Try.prog S (Instr.fieldAt 73 v99 0) fun v100 =>
    pu Try.prog (Instr.storeAt 71 v100 v98) w fun w => (
    px Try.prog (binSem BinOp.add 3 (Operand.tmp 84) (Operand.const (Value.int IntKind.i64 1)) (ρ 16) (Value.int IntKind.i64 1)) w fun v85 w =>
    N2 (put (put (put (put (put (put (put (put (put (put (put (put (put (put (put (put (put (put (put (put (put (put ρ 80 (ρ 16)) 81 (ρ 15)) 82 v82) 83 v83) 86 (ρ 9)) 87 (ρ 9)) 88 v88) 89 v89) 90 v90) 91 (ρ 15)) 92 (ρ 16)) 93 v93) 94 v94) 95 v95) 96 v96) 97 v97) 98 v98) 99 v99) 100 v100) 84 (ρ 16)) 85 v85) 16 v85) w)))) w.drew)
   (
    F7A1 k N1 [1, 0, 0, 1, 1, 1, 1, 1, 1] (put (put (put (put ρ 80 (ρ 16)) 81 (ρ 15)) 82 v82) 83 v83) w)
theorem F7_2_eq (k : Value → World → Prop) (N1 : Env → World → Prop) (N2 : Env → World → Prop) (ρ : Env) (w : World) : F7A2 k N1 N2 [] ρ w = F7_2 k N1 N2 ρ w := by kernel_rfl
def F7_3 (k : Value → World → Prop) (N1 : Env → World → Prop) (ρ : Env) (w : World) : Prop :=
  px Try.prog (binSem BinOp.eql 25 (Operand.tmp 154) (Operand.const (Value.int IntKind.i64 0)) (ρ 14) (Value.int IntKind.i64 0)) w fun v155 w =>
  pG v155 true (fun k => px Try.prog (Instr.loadAt 59 (ρ 11)) w k) (w := w) (next := fun v157 w =>
  pG v155 true (fun k => pFn Try.prog 31 [v157] w k) (w := w) (next := fun v158 w =>
  px Try.prog (pickSem v155 v158 (Value.bool false)) w fun v159 w =>
  pC v159 (
    px Try.prog (Instr.loadAt 59 (ρ 11)) w fun v161 w =>
    pFn Try.prog 36 [(ρ 9), v161] w fun v162 w =>
    F7A1 k N1 [1, 0, 0, 1, 1, 1, 1, 1, 1, 1, 1] (put (put (put (put (put (put (put (put (put ρ 154 (ρ 14)) 155 v155) 156 v155) 157 v157) 158 v158) 159 v159) 160 (ρ 9)) 161 v161) 162 v162) w)
   (
    F7A1 k N1 [1, 0, 0, 1, 1, 1, 1, 1, 1, 1, 1] (put (put (put (put (put (put ρ 154 (ρ 14)) 155 v155) 156 v155) 157 v157) 158 v158) 159 v159) w)))
theorem F7_3_eq (k : Value → World → Prop) (N1 : Env → World → Prop) (ρ : Env) (w : World) : F7A1 k N1 [1, 0, 0, 1, 1, 1, 1, 1, 1, 1] ρ w = F7_3 k N1 ρ w := by kernel_rfl
def F7_4 (k : Value → World → Prop) (ρ : Env) (w : World) : Prop :=
  pFn Try.prog 18 [] w fun v204 w =>
  k v204 w
theorem F7_4_eq (k : Value → World → Prop) (ρ : Env) (w : World) : F7A k [1, 1, 1, 1, 1, 1] ρ w = F7_4 k ρ w := by kernel_rfl
def F7_5 (k : Value → World → Prop) (N1 : Env → World → Prop) (ρ : Env) (w : World) : Prop :=
  px Try.prog (binSem BinOp.eql 25 (Operand.tmp 101) (Operand.const (Value.int IntKind.i64 50)) (ρ 14) (Value.int IntKind.i64 50)) w fun v102 w =>
  pG v102 true (fun k => k (ρ 13) w) (w := w) (next := fun v104 w =>
  pG v102 true (fun k => px Try.prog (Op.unary UnOp.not v104) w k) (w := w) (next := fun v105 w =>
  px Try.prog (pickSem v102 v105 (Value.bool false)) w fun v106 w =>
  pG v106 true (fun k => k (ρ 7) w) (w := w) (next := fun v108 w =>
  pG v106 true (fun k => pFn Try.prog 22 [v108] w k) (w := w) (next := fun v109 w =>
  px Try.prog (pickSem v106 v109 (Value.bool false)) w fun v110 w =>
  pC v110 (
    px Try.prog (Instr.fieldAt 59 (ρ 11) 0) w fun v111 w =>
    px Try.prog (Instr.loadAt 3 v111) w fun v112 w =>
    px Try.prog (binSem BinOp.eql 3 (Operand.tmp 112) (Operand.const (Value.int IntKind.i64 2)) v112 (Value.int IntKind.i64 2)) w fun v113 w =>
    pG v113 false (fun k => px Try.prog (Instr.fieldAt 59 (ρ 11) 0) w k) (w := w) (next := fun v115 w =>
    pG v113 false (fun k => px Try.prog (Instr.loadAt 3 v115) w k) (w := w) (next := fun v116 w =>
    pG v113 false (fun k => px Try.prog (binSem BinOp.eql 3 (Operand.tmp 116) (Operand.const (Value.int IntKind.i64 3)) v116 (Value.int IntKind.i64 3)) w k) (w := w) (next := fun v117 w =>
    px Try.prog (pickSem v113 (Value.bool true) v117) w fun v118 w =>
    pG v118 true (fun k => px Try.prog (Instr.fieldAt 59 (ρ 11) 5) w k) (w := w) (next := fun v120 w =>
    pG v118 true (fun k => px Try.prog (Instr.loadAt 30 v120) w k) (w := w) (next := fun v121 w =>
    pG v118 true (fun k => px Try.prog (bSem .len #[30] 3 #[v121]) w k) (w := w) (next := fun v122 w =>
    pG v118 true (fun k => px Try.prog (binSem BinOp.gtr 3 (Operand.tmp 122) (Operand.const (Value.int IntKind.i64 0)) v122 (Value.int IntKind.i64 0)) w k) (w := w) (next := fun v123 w =>
    px Try.prog (pickSem v118 v123 (Value.bool false)) w fun v124 w =>
    pG v124 true (fun k => k (ρ 15) w) (w := w) (next := fun v126 w =>
    pG v124 true (fun k => k (ρ 12) w) (w := w) (next := fun v127 w =>
    pG v124 true (fun k => pFn Try.prog 16 [v126, v127] w k) (w := w) (next := fun v128 w =>
    px Try.prog (pickSem v124 v128 (Value.bool false)) w fun v129 w =>
    pC v129 (
      pFn Try.prog 18 [] w fun v130 w =>
      k v130 w)
     (
      px Try.prog (Instr.fieldAt 59 (ρ 11) 0) w fun v131 w =>
      px Try.prog (Instr.loadAt 3 v131) w fun v132 w =>
      px Try.prog (binSem BinOp.neq 3 (Operand.tmp 132) (Operand.const (Value.int IntKind.i64 7)) v132 (Value.int IntKind.i64 7)) w fun v133 w =>
      pG v133 true (fun k => px Try.prog (Instr.fieldAt 59 (ρ 11) 0) w k) (w := w) (next := fun v135 w =>
      pG v133 true (fun k => px Try.prog (Instr.loadAt 3 v135) w k) (w := w) (next := fun v136 w =>
      pG v133 true (fun k => px Try.prog (binSem BinOp.neq 3 (Operand.tmp 136) (Operand.const (Value.int IntKind.i64 8)) v136 (Value.int IntKind.i64 8)) w k) (w := w) (next := fun v137 w =>
      px Try.prog (pickSem v133 v137 (Value.bool false)) w fun v138 w =>
      pG v138 true (fun k => px Try.prog (Instr.fieldAt 59 (ρ 11) 0) w k) (w := w) (next := fun v140 w =>
      pG v138 true (fun k => px Try.prog (Instr.loadAt 3 v140) w k) (w := w) (next := fun v141 w =>
      pG v138 true (fun k => px Try.prog (binSem BinOp.neq 3 (Operand.tmp 141) (Operand.const (Value.int IntKind.i64 1)) v141 (Value.int IntKind.i64 1)) w k) (w := w) (next := fun v142 w =>
      pG v138 true (fun k => k v142 w) (w := w) (next := fun v143 w =>
      pG v143 false (fun k => k (ρ 15) w) (w := w) (next := fun v144 w =>
      pG v143 false (fun k => px Try.prog (bSem .len #[37] 3 #[v144]) w k) (w := w) (next := fun v145 w =>
      pG v143 false (fun k => k (ρ 12) w) (w := w) (next := fun v146 w =>
      pG v143 false (fun k => px Try.prog (bSem .len #[37] 3 #[v146]) w k) (w := w) (next := fun v147 w =>
      pG v143 false (fun k => px Try.prog (binSem BinOp.gtr 3 (Operand.tmp 145) (Operand.tmp 147) v145 v147) w k) (w := w) (next := fun v148 w =>
      pG v138 true (fun k => px Try.prog (pickSem v143 (Value.bool true) v148) w k) (w := w) (next := fun v149 w =>
      px Try.prog (pickSem v138 v149 (Value.bool false)) w fun v150 w =>
      pC v150 (
        px Try.prog (Instr.loadAt 59 (ρ 11)) w fun v152 w =>
        pFn Try.prog 36 [(ρ 9), v152] w fun v153 w =>
        F7A1 k N1 [1, 0, 0, 1, 1, 1, 1, 1, 1, 1] (put (put (put (put (put (put (put (put (put (put (put (put (put (put (put (put (put (put (put (put (put (put (put (put (put (put (put (put (put (put (put (put (put (put (put (put (put (put (put (put (put (put (put (put (put (put (put (put (put (put (put (put ρ 101 (ρ 14)) 102 v102) 103 v102) 104 v104) 105 v105) 106 v106) 107 v106) 108 v108) 109 v109) 110 v110) 111 v111) 112 v112) 113 v113) 114 v113) 115 v115) 116 v116) 117 v117) 118 v118) 119 v118) 120 v120) 121 v121) 122 v122) 123 v123) 124 v124) 125 v124) 126 v126) 127 v127) 128 v128) 129 v129) 131 v131) 132 v132) 133 v133) 134 v133) 135 v135) 136 v136) 137 v137) 138 v138) 139 v138) 140 v140) 141 v141) 142 v142) 143 v143) 144 v144) 145 v145) 146 v146) 147 v147) 148 v148) 149 v149) 150 v150) 151 (ρ 9)) 152 v152) 153 v153) w)
       (
        F7A1 k N1 [1, 0, 0, 1, 1, 1, 1, 1, 1, 1] (put (put (put (put (put (put (put (put (put (put (put (put (put (put (put (put (put (put (put (put (put (put (put (put (put (put (put (put (put (put (put (put (put (put (put (put (put (put (put (put (put (put (put (put (put (put (put (put (put ρ 101 (ρ 14)) 102 v102) 103 v102) 104 v104) 105 v105) 106 v106) 107 v106) 108 v108) 109 v109) 110 v110) 111 v111) 112 v112) 113 v113) 114 v113) 115 v115) 116 v116) 117 v117) 118 v118) 119 v118) 120 v120) 121 v121) 122 v122) 123 v123) 124 v124) 125 v124) 126 v126) 127 v127) 128 v128) 129 v129) 131 v131) 132 v132) 133 v133) 134 v133) 135 v135) 136 v136) 137 v137) 138 v138) 139 v138) 140 v140) 141 v141) 142 v142) 143 v143) 144 v144) 145 v145) 146 v146) 147 v147) 148 v148) 149 v149) 150 v150) w))))))))))))))))))))))))))
   (
    F7A1 k N1 [1, 0, 0, 1, 1, 1, 1, 1, 1, 1] (put (put (put (put (put (put (put (put (put (put ρ 101 (ρ 14)) 102 v102) 103 v102) 104 v104) 105 v105) 106 v106) 107 v106) 108 v108) 109 v109) 110 v110) w)))))
theorem F7_5_eq (k : Value → World → Prop) (N1 : Env → World → Prop) (ρ : Env) (w : World) : F7A1 k N1 [1, 0, 0, 1, 1, 1, 1, 1, 1] ρ w = F7_5 k N1 ρ w := by kernel_rfl
def F7_6 (k : Value → World → Prop) (N1 : Env → World → Prop) (ρ : Env) (w : World) : Prop :=
  pFn Try.prog 37 [(ρ 9), (ρ 15), (ρ 2)] w fun v167 w =>
  px Try.prog (Instr.extract v167 0) w fun v168 w =>
  px Try.prog (Instr.extract v167 1) w fun v169 w =>
  pFn Try.prog 35 [(ρ 7)] w fun v171 w =>
  px Try.prog (Op.unary UnOp.not v169) w fun v173 w =>
  pG v173 false (fun k => k v171 w) (w := w) (next := fun v175 w =>
  pG v173 false (fun k => px Try.prog (binSem BinOp.eql 24 (Operand.tmp 175) (Operand.const (Value.pointer none)) v175 (Value.pointer none)) w k) (w := w) (next := fun v176 w =>
  px Try.prog (pickSem v173 (Value.bool true) v176) w fun v177 w =>
  pC v177 (
    k (Value.bool false) w)
   (
    pFn Try.prog 15 [v171, v168] w fun v180 w =>
    pFn Try.prog 17 [v171] w fun v182 w =>
    pFn Try.prog 16 [v182, (ρ 15)] w fun v184 w =>
    px Try.prog (Op.unary UnOp.not v184) w fun v185 w =>
    pG v185 false (fun k => k v171 w) (w := w) (next := fun v187 w =>
    pG v185 false (fun k => pFn Try.prog 27 [v187] w k) (w := w) (next := fun v188 w =>
    pG v185 false (fun k => k (ρ 15) w) (w := w) (next := fun v189 w =>
    pG v185 false (fun k => pFn Try.prog 16 [v188, v189] w k) (w := w) (next := fun v190 w =>
    pG v185 false (fun k => px Try.prog (Op.unary UnOp.not v190) w k) (w := w) (next := fun v191 w =>
    px Try.prog (pickSem v185 (Value.bool true) v191) w fun v192 w =>
    pG v192 false (fun k => k v171 w) (w := w) (next := fun v194 w =>
    pG v192 false (fun k => pFn Try.prog 22 [v194] w k) (w := w) (next := fun v195 w =>
    px Try.prog (pickSem v192 (Value.bool true) v195) w fun v196 w =>
    pG v196 false (fun k => k v171 w) (w := w) (next := fun v198 w =>
    pG v196 false (fun k => pFn Try.prog 32 [v198] w k) (w := w) (next := fun v199 w =>
    pG v196 false (fun k => k (ρ 15) w) (w := w) (next := fun v200 w =>
    pG v196 false (fun k => pFn Try.prog 33 [v200] w k) (w := w) (next := fun v201 w =>
    pG v196 false (fun k => px Try.prog (binSem BinOp.neq 3 (Operand.tmp 199) (Operand.tmp 201) v199 v201) w k) (w := w) (next := fun v202 w =>
    px Try.prog (pickSem v196 (Value.bool true) v202) w fun v203 w =>
    pC v203 (
      k (Value.bool false) w)
     (
      px Try.prog (binSem BinOp.add 3 (Operand.tmp 60) (Operand.const (Value.int IntKind.i64 1)) (ρ 10) (Value.int IntKind.i64 1)) w fun v61 w =>
      N1 (put (put (put (put (put (put (put (put (put (put (put (put (put (put (put (put (put (put (put (put (put (put (put (put (put (put (put (put (put (put (put (put (put (put (put (put (put (put (put (put (put (put (put (put (put (put (put ρ 164 (ρ 9)) 165 (ρ 15)) 166 (ρ 2)) 167 v167) 163 v167) 168 v168) 169 v169) 17 v168) 18 v169) 170 (ρ 7)) 171 v171) 19 v171) 172 v169) 173 v173) 174 v173) 175 v175) 176 v176) 177 v177) 178 v171) 179 v168) 180 v180) 181 v171) 182 v182) 183 (ρ 15)) 184 v184) 185 v185) 186 v185) 187 v187) 188 v188) 189 v189) 190 v190) 191 v191) 192 v192) 193 v192) 194 v194) 195 v195) 196 v196) 197 v196) 198 v198) 199 v199) 200 v200) 201 v201) 202 v202) 203 v203) 60 (ρ 10)) 61 v61) 10 v61) w))))))))))))))))
theorem F7_6_eq (k : Value → World → Prop) (N1 : Env → World → Prop) (ρ : Env) (w : World) : F7A1 k N1 [1, 0, 0, 1, 1, 1, 1, 1, 1, 1, 1] ρ w = F7_6 k N1 ρ w := by kernel_rfl
theorem F7_in (a0 : Value) (a1 : Value) (a2 : Value) (w : World) (k : Value → World → Prop) (h : F7_0 a0 a1 a2 w k) : pFn Try.prog 7 [a0, a1, a2] w k :=
  pFn_of_at Try.mixed Try.func7 (by kernel_rfl) (by kernel_rfl) Try.ntmps7 (by kernel_rfl) (by kernel_rfl) (by simp) ((F7_0_eq a0 a1 a2 w k).mpr h)

/-! ## 8 freight/freightlaw5.DiskSees -/
noncomputable def F8B : Code := bodyOf Try.f8
def F8A (k : Value → World → Prop) (q : List Nat) (ρ : Env) (w : World) : Prop := At Try.prog 270 F8B (retQ Try.prog Try.f8.results.toList k) q ρ w
noncomputable def F8B1 : Code := sub F8B [1, 1, 1, 1, 0, 1, 0, 0]
def F8Q1 (k : Value → World → Prop) (N1 : Env → World → Prop) : Xt → Env → World → Prop := thenE N1 (contAt Try.prog 270 F8B (retQ Try.prog Try.f8.results.toList k) [1, 1, 1, 1, 0, 1, 0])
def F8A1 (k : Value → World → Prop) (N1 : Env → World → Prop) (q : List Nat) (ρ : Env) (w : World) : Prop := At Try.prog 270 F8B1 (F8Q1 k N1) q ρ w
def F8L1 (k : Value → World → Prop) (ρ : Env) (w : World) : Prop := LoopAt Try.prog 270 F8B (retQ Try.prog Try.f8.results.toList k) [1, 1, 1, 1, 0, 1, 0] ρ w
theorem F8L1_inv (k : Value → World → Prop) (I : Nat → Env → World → Prop) (round : ∀ m ρ w, I m ρ w → F8A1 k (fun ρ' w' => ∃ m', m' < m ∧ I m' ρ' w') [] ρ w) {m : Nat} {ρ : Env} {w : World} (h : I m ρ w) : F8L1 k ρ w :=
  LoopAt_inv Try.mixed (B := F8B) (Q := (retQ Try.prog Try.f8.results.toList k)) (p := [1, 1, 1, 1, 0, 1, 0]) (by kernel_rfl) (by kernel_rfl) I round h
noncomputable def F8B2 : Code := sub F8B [1, 1, 1, 1, 1, 1, 1, 1, 1, 1, 1, 0, 1, 0, 0]
def F8Q2 (k : Value → World → Prop) (N2 : Env → World → Prop) : Xt → Env → World → Prop := thenE N2 (contAt Try.prog 270 F8B (retQ Try.prog Try.f8.results.toList k) [1, 1, 1, 1, 1, 1, 1, 1, 1, 1, 1, 0, 1, 0])
def F8A2 (k : Value → World → Prop) (N2 : Env → World → Prop) (q : List Nat) (ρ : Env) (w : World) : Prop := At Try.prog 270 F8B2 (F8Q2 k N2) q ρ w
def F8L2 (k : Value → World → Prop) (ρ : Env) (w : World) : Prop := LoopAt Try.prog 270 F8B (retQ Try.prog Try.f8.results.toList k) [1, 1, 1, 1, 1, 1, 1, 1, 1, 1, 1, 0, 1, 0] ρ w
theorem F8L2_inv (k : Value → World → Prop) (I : Nat → Env → World → Prop) (round : ∀ m ρ w, I m ρ w → F8A2 k (fun ρ' w' => ∃ m', m' < m ∧ I m' ρ' w') [] ρ w) {m : Nat} {ρ : Env} {w : World} (h : I m ρ w) : F8L2 k ρ w :=
  LoopAt_inv Try.mixed (B := F8B) (Q := (retQ Try.prog Try.f8.results.toList k)) (p := [1, 1, 1, 1, 1, 1, 1, 1, 1, 1, 1, 0, 1, 0]) (by kernel_rfl) (by kernel_rfl) I round h
def F8_0 (a0 : Value) (a1 : Value) (a2 : Value) (a3 : Value) (a4 : Value) (w : World) (k : Value → World → Prop) : Prop :=
  pFn Try.prog 26 [a1] w fun v24 w =>
  pG v24 false (fun k => k a0 w) (w := w) (next := fun v26 w =>
  pG v24 false (fun k => px Try.prog (binSem BinOp.lss 3 (Operand.tmp 26) (Operand.const (Value.int IntKind.i64 1)) v26 (Value.int IntKind.i64 1)) w k) (w := w) (next := fun v27 w =>
  px Try.prog (pickSem v24 (Value.bool true) v27) w fun v28 w =>
  pG v28 false (fun k => k a0 w) (w := w) (next := fun v30 w =>
  pG v28 false (fun k => px Try.prog (binSem BinOp.gtr 3 (Operand.tmp 30) (Operand.const (Value.int IntKind.i64 1048576)) v30 (Value.int IntKind.i64 1048576)) w k) (w := w) (next := fun v31 w =>
  px Try.prog (pickSem v28 (Value.bool true) v31) w fun v32 w =>
  pC v32 (
    k (Value.bool true) w)
   (
    pFn Try.prog 9 [a0] w fun v35 w =>
    px Try.prog (Instr.extract v35 0) w fun v36 w =>
    px Try.prog (Instr.extract v35 1) w fun v37 w =>
    px Try.prog (binSem BinOp.neq 25 (Operand.tmp 38) (Operand.const (Value.int IntKind.i64 0)) v37 (Value.int IntKind.i64 0)) w fun v39 w =>
    pG v39 false (fun k => k v36 w) (w := w) (next := fun v41 w =>
    pG v39 false (fun k => px Try.prog (binSem BinOp.eql 24 (Operand.tmp 41) (Operand.const (Value.pointer none)) v41 (Value.pointer none)) w k) (w := w) (next := fun v42 w =>
    px Try.prog (pickSem v39 (Value.bool true) v42) w fun v43 w =>
    pC v43 (
      k (Value.bool false) w)
     (
      F8L1 k (put (put (put (put (put (put (put (put (put (put (put (put (put (put (put (put (put (put (put (put (put (put (put (put (put (argEnv [a0, a1, a2, a3, a4]) 10 (Value.bool false)) 23 a1) 24 v24) 25 v24) 26 v26) 27 v27) 28 v28) 29 v28) 30 v30) 31 v31) 32 v32) 34 a0) 35 v35) 33 v35) 36 v36) 37 v37) 11 v36) 12 v37) 38 v37) 39 v39) 40 v39) 41 v41) 42 v42) 43 v43) 13 (Value.int IntKind.i64 0)) w))))))))
theorem F8_0_eq (a0 : Value) (a1 : Value) (a2 : Value) (a3 : Value) (a4 : Value) (w : World) (k : Value → World → Prop) : F8A k [] (argEnv [a0, a1, a2, a3, a4]) w = F8_0 a0 a1 a2 a3 a4 w k := by kernel_rfl
def F8_1 (k : Value → World → Prop) (N1 : Env → World → Prop) (ρ : Env) (w : World) : Prop :=
  px Try.prog (bSem .len #[55] 3 #[(ρ 1)]) w fun v46 w =>
  px Try.prog (binSem BinOp.lss 3 (Operand.tmp 44) (Operand.tmp 46) (ρ 13) v46) w fun v47 w =>
  pC v47 (
    px Try.prog (Instr.indexAt 55 (ρ 1) (ρ 13)) w fun v53 w =>
    px Try.prog (Instr.loadAt 59 v53) w fun v54 w =>
    pFn Try.prog 30 [(ρ 11), v54] w fun v55 w =>
    px Try.prog (binSem BinOp.add 3 (Operand.tmp 48) (Operand.const (Value.int IntKind.i64 1)) (ρ 13) (Value.int IntKind.i64 1)) w fun v49 w =>
    N1 (put (put (put (put (put (put (put (put (put (put (put (put (put ρ 44 (ρ 13)) 45 (ρ 1)) 46 v46) 47 v47) 50 (ρ 11)) 51 (ρ 1)) 52 (ρ 13)) 53 v53) 54 v54) 55 v55) 48 (ρ 13)) 49 v49) 13 v49) w)
   (
    F8A k [1, 1, 1, 1, 1] (put (put (put (put ρ 44 (ρ 13)) 45 (ρ 1)) 46 v46) 47 v47) w)
theorem F8_1_eq (k : Value → World → Prop) (N1 : Env → World → Prop) (ρ : Env) (w : World) : F8A1 k N1 [] ρ w = F8_1 k N1 ρ w := by kernel_rfl
def F8_2 (k : Value → World → Prop) (ρ : Env) (w : World) : Prop :=
  pFn Try.prog 17 [(ρ 11)] w fun v57 w =>
  pFn Try.prog 32 [(ρ 11)] w fun v59 w =>
  pFn Try.prog 33 [v57] w fun v61 w =>
  px Try.prog (binSem BinOp.neq 3 (Operand.tmp 59) (Operand.tmp 61) v59 v61) w fun v62 w =>
  pG v62 false (fun k => k (ρ 11) w) (w := w) (next := fun v64 w =>
  pG v62 false (fun k => pFn Try.prog 38 [v64] w k) (w := w) (next := fun v65 w =>
  pG v62 false (fun k => k (ρ 0) w) (w := w) (next := fun v66 w =>
  pG v62 false (fun k => px Try.prog (binSem BinOp.neq 3 (Operand.tmp 65) (Operand.tmp 66) v65 v66) w k) (w := w) (next := fun v67 w =>
  px Try.prog (pickSem v62 (Value.bool true) v67) w fun v68 w =>
  pC v68 (
    k (Value.bool false) w)
   (
    pFn Try.prog 22 [(ρ 11)] w fun v70 w =>
    pC v70 (
      pFn Try.prog 39 [(ρ 11), (Value.string (ByteArray.mk #[]))] w fun v72 w =>
      px Try.prog (bSem .len #[22] 3 #[v72]) w fun v73 w =>
      px Try.prog (binSem BinOp.eql 3 (Operand.tmp 73) (Operand.const (Value.int IntKind.i64 0)) v73 (Value.int IntKind.i64 0)) w fun v74 w =>
      pG v74 true (fun k => pFn Try.prog 18 [] w k) (w := w) (next := fun v76 w =>
      px Try.prog (pickSem v74 v76 (Value.bool false)) w fun v77 w =>
      k v77 w))
     (
      pFn Try.prog 40 [(ρ 11)] w fun v79 w =>
      F8L2 k (put (put (put (put (put (put (put (put (put (put (put (put (put (put (put (put (put (put (put (put (put ρ 56 (ρ 11)) 57 v57) 14 v57) 58 (ρ 11)) 59 v59) 60 v57) 61 v61) 62 v62) 63 v62) 64 v64) 65 v65) 66 v66) 67 v67) 68 v68) 69 (ρ 11)) 70 v70) 78 (ρ 11)) 79 v79) 15 (Value.slice none 0 0)) 16 (Value.slice none 0 0)) 17 (Value.int IntKind.i64 0)) w))))))
theorem F8_2_eq (k : Value → World → Prop) (ρ : Env) (w : World) : F8A k [1, 1, 1, 1, 1] ρ w = F8_2 k ρ w := by kernel_rfl
def F8_3 (k : Value → World → Prop) (N2 : Env → World → Prop) (ρ : Env) (w : World) : Prop :=
  px Try.prog (bSem .len #[37] 3 #[(ρ 14)]) w fun v82 w =>
  px Try.prog (binSem BinOp.lss 3 (Operand.tmp 80) (Operand.tmp 82) (ρ 17) v82) w fun v83 w =>
  pC v83 (
    ∃ S : World → Prop, S w.drew ∧ (fun w =>
    pq Try.prog S (binSem BinOp.gtr 3 (Operand.tmp 86) (Operand.const (Value.int IntKind.i64 0)) (ρ 17) (Value.int IntKind.i64 0)) fun v87 =>
    pGq v87 true (fun k => k (ρ 14)) (next := fun v89 =>
    pGq v87 true (fun k => k (ρ 17)) (next := fun v90 =>
    pGq v87 true (fun k => pq Try.prog S (binSem BinOp.sub 3 (Operand.tmp 90) (Operand.const (Value.int IntKind.i64 1)) v90 (Value.int IntKind.i64 1)) k) (next := fun v91 =>
    pGq v87 true (fun k => pq Try.prog S (Instr.indexAt 37 v89 v91) k) (next := fun v92 =>
    pGq v87 true (fun k => pq Try.prog S (Instr.fieldAt 52 v92 0) k) (next := fun v93 =>
    pGq v87 true (fun k => pq Try.prog S (Instr.loadAt 9 v93) k) (next := fun v94 =>
    pGq v87 true (fun k => k (ρ 14)) (next := fun v95 =>
    pGq v87 true (fun k => k (ρ 17)) (next := fun v96 =>
    pGq v87 true (fun k => pq Try.prog S (Instr.indexAt 37 v95 v96) k) (next := fun v97 =>
    pGq v87 true (fun k => pq Try.prog S (Instr.fieldAt 52 v97 0) k) (next := fun v98 =>
    pGq v87 true (fun k => pq Try.prog S (Instr.loadAt 9 v98) k) (next := fun v99 =>
    pGq v87 true (fun k => pq Try.prog S (binSem BinOp.geq 9 (Operand.tmp 94) (Operand.tmp 99) v94 v99) k) (next := fun v100 =>
    pq Try.prog S (pickSem v87 v100 (Value.bool false)) fun v101 =>
    pC v101 (
      k (Value.bool false) w)
     (
      px Try.prog (Instr.indexAt 37 (ρ 14) (ρ 17)) w fun v104 w =>
      px Try.prog (Instr.fieldAt 52 v104 0) w fun v105 w =>
      px Try.prog (Instr.loadAt 9 v105) w fun v106 w =>
      px Try.prog (bSem .len #[9] 3 #[v106]) w fun v107 w =>
      px Try.prog (bSem .len #[9] 3 #[(ρ 2)]) w fun v109 w =>
      px Try.prog (binSem BinOp.geq 3 (Operand.tmp 107) (Operand.tmp 109) v107 v109) w fun v110 w =>
      pG v110 true (fun k => k (ρ 14) w) (w := w) (next := fun v112 w =>
      pG v110 true (fun k => k (ρ 17) w) (w := w) (next := fun v113 w =>
      pG v110 true (fun k => px Try.prog (Instr.indexAt 37 v112 v113) w k) (w := w) (next := fun v114 w =>
      pG v110 true (fun k => px Try.prog (Instr.fieldAt 52 v114 0) w k) (w := w) (next := fun v115 w =>
      pG v110 true (fun k => px Try.prog (Instr.loadAt 9 v115) w k) (w := w) (next := fun v116 w =>
      pG v110 true (fun k => k (ρ 2) w) (w := w) (next := fun v117 w =>
      pG v110 true (fun k => px Try.prog (bSem .len #[9] 3 #[v117]) w k) (w := w) (next := fun v118 w =>
      pG v110 true (fun k => px Try.prog (Instr.sliceAt 9 v116 none (some v118) none) w k) (w := w) (next := fun v119 w =>
      pG v110 true (fun k => k (ρ 2) w) (w := w) (next := fun v120 w =>
      pG v110 true (fun k => px Try.prog (binSem BinOp.eql 9 (Operand.tmp 119) (Operand.tmp 120) v119 v120) w k) (w := w) (next := fun v121 w =>
      px Try.prog (pickSem v110 v121 (Value.bool false)) w fun v122 w =>
      pC v122 (
        px Try.prog (Instr.indexAt 37 (ρ 14) (ρ 17)) w fun v126 w =>
        px Try.prog (Instr.fieldAt 52 v126 0) w fun v127 w =>
        px Try.prog (Instr.loadAt 9 v127) w fun v128 w =>
        px Try.prog (Instr.buildSlice 22 1 #[(0, v128)]) w fun v129 w =>
        px Try.prog (bSem .append #[22, 22] 22 #[(ρ 16), v129]) w fun v130 w =>
        F8A2 k N2 [1, 0, 0, 1, 1] (put (put (put (put (put (put (put (put (put (put (put (put (put (put (put (put (put (put (put (put (put (put (put (put (put (put (put (put (put (put (put (put (put (put (put (put (put (put (put (put (put (put (put (put (put (put (put (put (put (put ρ 80 (ρ 17)) 81 (ρ 14)) 82 v82) 83 v83) 86 (ρ 17)) 87 v87) 88 v87) 89 v89) 90 v90) 91 v91) 92 v92) 93 v93) 94 v94) 95 v95) 96 v96) 97 v97) 98 v98) 99 v99) 100 v100) 101 v101) 102 (ρ 14)) 103 (ρ 17)) 104 v104) 105 v105) 106 v106) 107 v107) 108 (ρ 2)) 109 v109) 110 v110) 111 v110) 112 v112) 113 v113) 114 v114) 115 v115) 116 v116) 117 v117) 118 v118) 119 v119) 120 v120) 121 v121) 122 v122) 123 (ρ 16)) 124 (ρ 14)) 125 (ρ 17)) 126 v126) 127 v127) 128 v128) 129 v129) 130 v130) 16 v130) w)
       (
        F8A2 k N2 [1, 0, 0, 1, 1] (put (put (put (put (put (put (put (put (put (put (put (put (put (put (put (put (put (put (put (put (put (put (put (put (put (put (put (put (put (put (put (put (put (put (put (put (put (put (put (put (put ρ 80 (ρ 17)) 81 (ρ 14)) 82 v82) 83 v83) 86 (ρ 17)) 87 v87) 88 v87) 89 v89) 90 v90) 91 v91) 92 v92) 93 v93) 94 v94) 95 v95) 96 v96) 97 v97) 98 v98) 99 v99) 100 v100) 101 v101) 102 (ρ 14)) 103 (ρ 17)) 104 v104) 105 v105) 106 v106) 107 v107) 108 (ρ 2)) 109 v109) 110 v110) 111 v110) 112 v112) 113 v113) 114 v114) 115 v115) 116 v116) 117 v117) 118 v118) 119 v119) 120 v120) 121 v121) 122 v122) w))))))))))))))))))))))))) w.drew)
   (
    F8A k [1, 1, 1, 1, 1, 1, 1, 1, 1, 1, 1, 1] (put (put (put (put ρ 80 (ρ 17)) 81 (ρ 14)) 82 v82) 83 v83) w)
theorem F8_3_eq (k : Value → World → Prop) (N2 : Env → World → Prop) (ρ : Env) (w : World) : F8A2 k N2 [] ρ w = F8_3 k N2 ρ w := by kernel_rfl
def F8_4 (k : Value → World → Prop) (N2 : Env → World → Prop) (ρ : Env) (w : World) : Prop :=
  px Try.prog (Instr.indexAt 37 (ρ 14) (ρ 17)) w fun v135 w =>
  px Try.prog (Instr.fieldAt 52 v135 0) w fun v136 w =>
  px Try.prog (Instr.loadAt 9 v136) w fun v137 w =>
  pFn Try.prog 41 [(ρ 11), v137] w fun v138 w =>
  px Try.prog (Instr.extract v138 0) w fun v139 w =>
  px Try.prog (Instr.extract v138 1) w fun v140 w =>
  px Try.prog (Instr.indexAt 37 (ρ 14) (ρ 17)) w fun v145 w =>
  px Try.prog (Instr.fieldAt 52 v145 0) w fun v146 w =>
  px Try.prog (Instr.loadAt 9 v146) w fun v147 w =>
  pFn Try.prog 42 [(ρ 11), v147, (ρ 3), (ρ 4)] w fun v150 w =>
  px Try.prog (Instr.extract v150 0) w fun v151 w =>
  px Try.prog (Instr.extract v150 1) w fun v152 w =>
  px Try.prog (binSem BinOp.geq 3 (Operand.tmp 153) (Operand.const (Value.int IntKind.i64 0)) (ρ 3) (Value.int IntKind.i64 0)) w fun v154 w =>
  pG v154 true (fun k => k (ρ 4) w) (w := w) (next := fun v156 w =>
  pG v154 true (fun k => px Try.prog (binSem BinOp.geq 3 (Operand.tmp 156) (Operand.const (Value.int IntKind.i64 0)) v156 (Value.int IntKind.i64 0)) w k) (w := w) (next := fun v157 w =>
  px Try.prog (pickSem v154 v157 (Value.bool false)) w fun v158 w =>
  pG v158 true (fun k => k (ρ 3) w) (w := w) (next := fun v160 w =>
  pG v158 true (fun k => k (ρ 14) w) (w := w) (next := fun v161 w =>
  pG v158 true (fun k => k (ρ 17) w) (w := w) (next := fun v162 w =>
  pG v158 true (fun k => px Try.prog (Instr.indexAt 37 v161 v162) w k) (w := w) (next := fun v163 w =>
  pG v158 true (fun k => px Try.prog (Instr.fieldAt 52 v163 1) w k) (w := w) (next := fun v164 w =>
  pG v158 true (fun k => px Try.prog (Instr.loadAt 30 v164) w k) (w := w) (next := fun v165 w =>
  pG v158 true (fun k => px Try.prog (bSem .len #[30] 3 #[v165]) w k) (w := w) (next := fun v166 w =>
  pG v158 true (fun k => px Try.prog (binSem BinOp.leq 3 (Operand.tmp 160) (Operand.tmp 166) v160 v166) w k) (w := w) (next := fun v167 w =>
  px Try.prog (pickSem v158 v167 (Value.bool false)) w fun v168 w =>
  pG v168 true (fun k => k (ρ 4) w) (w := w) (next := fun v170 w =>
  pG v168 true (fun k => k (ρ 14) w) (w := w) (next := fun v171 w =>
  pG v168 true (fun k => k (ρ 17) w) (w := w) (next := fun v172 w =>
  pG v168 true (fun k => px Try.prog (Instr.indexAt 37 v171 v172) w k) (w := w) (next := fun v173 w =>
  pG v168 true (fun k => px Try.prog (Instr.fieldAt 52 v173 1) w k) (w := w) (next := fun v174 w =>
  pG v168 true (fun k => px Try.prog (Instr.loadAt 30 v174) w k) (w := w) (next := fun v175 w =>
  pG v168 true (fun k => px Try.prog (bSem .len #[30] 3 #[v175]) w k) (w := w) (next := fun v176 w =>
  pG v168 true (fun k => k (ρ 3) w) (w := w) (next := fun v177 w =>
  pG v168 true (fun k => px Try.prog (binSem BinOp.sub 3 (Operand.tmp 176) (Operand.tmp 177) v176 v177) w k) (w := w) (next := fun v178 w =>
  pG v168 true (fun k => px Try.prog (binSem BinOp.leq 3 (Operand.tmp 170) (Operand.tmp 178) v170 v178) w k) (w := w) (next := fun v179 w =>
  px Try.prog (pickSem v168 v179 (Value.bool false)) w fun v180 w =>
  px Try.prog (binSem BinOp.neq 25 (Operand.tmp 181) (Operand.const (Value.int IntKind.i64 0)) v140 (Value.int IntKind.i64 0)) w fun v182 w =>
  pG v182 false (fun k => k v139 w) (w := w) (next := fun v184 w =>
  pG v182 false (fun k => k (ρ 14) w) (w := w) (next := fun v185 w =>
  pG v182 false (fun k => k (ρ 17) w) (w := w) (next := fun v186 w =>
  pG v182 false (fun k => px Try.prog (Instr.indexAt 37 v185 v186) w k) (w := w) (next := fun v187 w =>
  pG v182 false (fun k => px Try.prog (Instr.fieldAt 52 v187 1) w k) (w := w) (next := fun v188 w =>
  pG v182 false (fun k => px Try.prog (Instr.loadAt 30 v188) w k) (w := w) (next := fun v189 w =>
  pG v182 false (fun k => px Try.prog (bSem .len #[30] 3 #[v189]) w k) (w := w) (next := fun v190 w =>
  pG v182 false (fun k => px Try.prog (binSem BinOp.neq 3 (Operand.tmp 184) (Operand.tmp 190) v184 v190) w k) (w := w) (next := fun v191 w =>
  px Try.prog (pickSem v182 (Value.bool true) v191) w fun v192 w =>
  pG v192 false (fun k => k v180 w) (w := w) (next := fun v194 w =>
  pG v192 false (fun k => k v152 w) (w := w) (next := fun v195 w =>
  pG v192 false (fun k => px Try.prog (binSem BinOp.eql 25 (Operand.tmp 195) (Operand.const (Value.int IntKind.i64 0)) v195 (Value.int IntKind.i64 0)) w k) (w := w) (next := fun v196 w =>
  pG v192 false (fun k => px Try.prog (binSem BinOp.neq 4 (Operand.tmp 194) (Operand.tmp 196) v194 v196) w k) (w := w) (next := fun v197 w =>
  px Try.prog (pickSem v192 (Value.bool true) v197) w fun v198 w =>
  pG v198 false (fun k => k v180 w) (w := w) (next := fun v200 w =>
  pG v198 false (fun k => px Try.prog (Op.unary UnOp.not v200) w k) (w := w) (next := fun v201 w =>
  pG v198 false (fun k => k v201 w) (w := w) (next := fun v202 w =>
  pG v202 true (fun k => k v152 w) (w := w) (next := fun v203 w =>
  pG v202 true (fun k => px Try.prog (binSem BinOp.neq 25 (Operand.tmp 203) (Operand.const (Value.int IntKind.i64 54)) v203 (Value.int IntKind.i64 54)) w k) (w := w) (next := fun v204 w =>
  pG v202 true (fun k => k v204 w) (w := w) (next := fun v205 w =>
  pG v205 false (fun k => k v151 w) (w := w) (next := fun v206 w =>
  pG v205 false (fun k => px Try.prog (bSem .len #[30] 3 #[v206]) w k) (w := w) (next := fun v207 w =>
  pG v205 false (fun k => px Try.prog (binSem BinOp.neq 3 (Operand.tmp 207) (Operand.const (Value.int IntKind.i64 0)) v207 (Value.int IntKind.i64 0)) w k) (w := w) (next := fun v208 w =>
  pG v202 true (fun k => px Try.prog (pickSem v205 (Value.bool true) v208) w k) (w := w) (next := fun v209 w =>
  pG v198 false (fun k => px Try.prog (pickSem v202 v209 (Value.bool false)) w k) (w := w) (next := fun v210 w =>
  px Try.prog (pickSem v198 (Value.bool true) v210) w fun v211 w =>
  pG v211 false (fun k => k v180 w) (w := w) (next := fun v213 w =>
  pG v211 false (fun k => k v213 w) (w := w) (next := fun v214 w =>
  pG v214 true (fun k => k v151 w) (w := w) (next := fun v215 w =>
  pG v214 true (fun k => k (ρ 14) w) (w := w) (next := fun v216 w =>
  pG v214 true (fun k => k (ρ 17) w) (w := w) (next := fun v217 w =>
  pG v214 true (fun k => px Try.prog (Instr.indexAt 37 v216 v217) w k) (w := w) (next := fun v218 w =>
  pG v214 true (fun k => px Try.prog (Instr.fieldAt 52 v218 1) w k) (w := w) (next := fun v219 w =>
  pG v214 true (fun k => px Try.prog (Instr.loadAt 30 v219) w k) (w := w) (next := fun v220 w =>
  pG v214 true (fun k => k (ρ 3) w) (w := w) (next := fun v221 w =>
  pG v214 true (fun k => k (ρ 3) w) (w := w) (next := fun v222 w =>
  pG v214 true (fun k => k (ρ 4) w) (w := w) (next := fun v223 w =>
  pG v214 true (fun k => px Try.prog (binSem BinOp.add 3 (Operand.tmp 222) (Operand.tmp 223) v222 v223) w k) (w := w) (next := fun v224 w =>
  pG v214 true (fun k => px Try.prog (Instr.sliceAt 30 v220 (some v221) (some v224) none) w k) (w := w) (next := fun v225 w =>
  pG v214 true (fun k => pFn Try.prog 25 [v215, v225] w k) (w := w) (next := fun v226 w =>
  pG v214 true (fun k => px Try.prog (Op.unary UnOp.not v226) w k) (w := w) (next := fun v227 w =>
  pG v211 false (fun k => px Try.prog (pickSem v214 v227 (Value.bool false)) w k) (w := w) (next := fun v228 w =>
  px Try.prog (pickSem v211 (Value.bool true) v228) w fun v229 w =>
  pC v229 (
    k (Value.bool false) w)
   (
    pC v180 (
      px Try.prog (Instr.indexAt 37 (ρ 14) (ρ 17)) w fun v234 w =>
      px Try.prog (Instr.fieldAt 52 v234 0) w fun v235 w =>
      px Try.prog (Instr.loadAt 9 v235) w fun v236 w =>
      px Try.prog (Instr.build 86 #[(0, v236), (1, (ρ 3)), (2, (ρ 4))]) w fun v239 w =>
      px Try.prog (Instr.buildSlice 60 1 #[(0, v239)]) w fun v240 w =>
      px Try.prog (bSem .append #[60, 60] 60 #[(ρ 15), v240]) w fun v241 w =>
      F8A2 k N2 [1, 1] (put (put (put (put (put (put (put (put (put (put (put (put (put (put (put (put (put (put (put (put (put (put (put (put (put (put (put (put (put (put (put (put (put (put (put (put (put (put (put (put (put (put (put (put (put (put (put (put (put (put (put (put (put (put (put (put (put (put (put (put (put (put (put (put (put (put (put (put (put (put (put (put (put (put (put (put (put (put (put (put (put (put (put (put (put (put (put (put (put (put (put (put (put (put (put (put (put (put (put (put (put (put (put (put (put (put (put (put (put (put (put (put (put (put (put (put (put ρ 132 (ρ 11)) 133 (ρ 14)) 134 (ρ 17)) 135 v135) 136 v136) 137 v137) 138 v138) 131 v138) 139 v139) 140 v140) 18 v139) 19 v140) 142 (ρ 11)) 143 (ρ 14)) 144 (ρ 17)) 145 v145) 146 v146) 147 v147) 148 (ρ 3)) 149 (ρ 4)) 150 v150) 141 v150) 151 v151) 152 v152) 20 v151) 21 v152) 153 (ρ 3)) 154 v154) 155 v154) 156 v156) 157 v157) 158 v158) 159 v158) 160 v160) 161 v161) 162 v162) 163 v163) 164 v164) 165 v165) 166 v166) 167 v167) 168 v168) 169 v168) 170 v170) 171 v171) 172 v172) 173 v173) 174 v174) 175 v175) 176 v176) 177 v177) 178 v178) 179 v179) 180 v180) 22 v180) 181 v140) 182 v182) 183 v182) 184 v184) 185 v185) 186 v186) 187 v187) 188 v188) 189 v189) 190 v190) 191 v191) 192 v192) 193 v192) 194 v194) 195 v195) 196 v196) 197 v197) 198 v198) 199 v198) 200 v200) 201 v201) 202 v202) 203 v203) 204 v204) 205 v205) 206 v206) 207 v207) 208 v208) 209 v209) 210 v210) 211 v211) 212 v211) 213 v213) 214 v214) 215 v215) 216 v216) 217 v217) 218 v218) 219 v219) 220 v220) 221 v221) 222 v222) 223 v223) 224 v224) 225 v225) 226 v226) 227 v227) 228 v228) 229 v229) 230 v180) 231 (ρ 15)) 232 (ρ 14)) 233 (ρ 17)) 234 v234) 235 v235) 236 v236) 237 (ρ 3)) 238 (ρ 4)) 239 v239) 240 v240) 241 v241) 15 v241) w)
     (
      F8A2 k N2 [1, 1] (put (put (put (put (put (put (put (put (put (put (put (put (put (put (put (put (put (put (put (put (put (put (put (put (put (put (put (put (put (put (put (put (put (put (put (put (put (put (put (put (put (put (put (put (put (put (put (put (put (put (put (put (put (put (put (put (put (put (put (put (put (put (put (put (put (put (put (put (put (put (put (put (put (put (put (put (put (put (put (put (put (put (put (put (put (put (put (put (put (put (put (put (put (put (put (put (put (put (put (put (put (put (put (put (put ρ 132 (ρ 11)) 133 (ρ 14)) 134 (ρ 17)) 135 v135) 136 v136) 137 v137) 138 v138) 131 v138) 139 v139) 140 v140) 18 v139) 19 v140) 142 (ρ 11)) 143 (ρ 14)) 144 (ρ 17)) 145 v145) 146 v146) 147 v147) 148 (ρ 3)) 149 (ρ 4)) 150 v150) 141 v150) 151 v151) 152 v152) 20 v151) 21 v152) 153 (ρ 3)) 154 v154) 155 v154) 156 v156) 157 v157) 158 v158) 159 v158) 160 v160) 161 v161) 162 v162) 163 v163) 164 v164) 165 v165) 166 v166) 167 v167) 168 v168) 169 v168) 170 v170) 171 v171) 172 v172) 173 v173) 174 v174) 175 v175) 176 v176) 177 v177) 178 v178) 179 v179) 180 v180) 22 v180) 181 v140) 182 v182) 183 v182) 184 v184) 185 v185) 186 v186) 187 v187) 188 v188) 189 v189) 190 v190) 191 v191) 192 v192) 193 v192) 194 v194) 195 v195) 196 v196) 197 v197) 198 v198) 199 v198) 200 v200) 201 v201) 202 v202) 203 v203) 204 v204) 205 v205) 206 v206) 207 v207) 208 v208) 209 v209) 210 v210) 211 v211) 212 v211) 213 v213) 214 v214) 215 v215) 216 v216) 217 v217) 218 v218) 219 v219) 220 v220) 221 v221) 222 v222) 223 v223) 224 v224) 225 v225) 226 v226) 227 v227) 228 v228) 229 v229) 230 v180) w)))))))))))))))))))))))))))))))))))))))))))))))))))))))))))))
theorem F8_4_eq (k : Value → World → Prop) (N2 : Env → World → Prop) (ρ : Env) (w : World) : F8A2 k N2 [1, 0, 0, 1, 1] ρ w = F8_4 k N2 ρ w := by kernel_rfl
def F8_5 (k : Value → World → Prop) (ρ : Env) (w : World) : Prop :=
  pFn Try.prog 39 [(ρ 11), (ρ 2)] w fun v244 w =>
  pFn Try.prog 43 [v244, (ρ 16)] w fun v246 w =>
  px Try.prog (Op.unary UnOp.not v246) w fun v247 w =>
  pG v247 false (fun k => k (ρ 11) w) (w := w) (next := fun v249 w =>
  pG v247 false (fun k => pFn Try.prog 28 [v249] w k) (w := w) (next := fun v250 w =>
  pG v247 false (fun k => k (ρ 15) w) (w := w) (next := fun v251 w =>
  pG v247 false (fun k => pFn Try.prog 34 [v250, v251] w k) (w := w) (next := fun v252 w =>
  pG v247 false (fun k => px Try.prog (Op.unary UnOp.not v252) w k) (w := w) (next := fun v253 w =>
  px Try.prog (pickSem v247 (Value.bool true) v253) w fun v254 w =>
  pC v254 (
    k (Value.bool false) w)
   (
    pFn Try.prog 40 [(ρ 11)] w fun v256 w =>
    pFn Try.prog 28 [(ρ 11)] w fun v258 w =>
    px Try.prog (bSem .len #[60] 3 #[v258]) w fun v259 w =>
    px Try.prog (binSem BinOp.eql 3 (Operand.tmp 259) (Operand.const (Value.int IntKind.i64 0)) v259 (Value.int IntKind.i64 0)) w fun v260 w =>
    pG v260 true (fun k => k (ρ 11) w) (w := w) (next := fun v262 w =>
    pG v260 true (fun k => pFn Try.prog 17 [v262] w k) (w := w) (next := fun v263 w =>
    pG v260 true (fun k => k (ρ 14) w) (w := w) (next := fun v264 w =>
    pG v260 true (fun k => pFn Try.prog 16 [v263, v264] w k) (w := w) (next := fun v265 w =>
    px Try.prog (pickSem v260 v265 (Value.bool false)) w fun v266 w =>
    pG v266 true (fun k => pFn Try.prog 18 [] w k) (w := w) (next := fun v268 w =>
    px Try.prog (pickSem v266 v268 (Value.bool false)) w fun v269 w =>
    k v269 w)))))))))))
theorem F8_5_eq (k : Value → World → Prop) (ρ : Env) (w : World) : F8A k [1, 1, 1, 1, 1, 1, 1, 1, 1, 1, 1, 1] ρ w = F8_5 k ρ w := by kernel_rfl
def F8_6 (k : Value → World → Prop) (N2 : Env → World → Prop) (ρ : Env) (w : World) : Prop :=
  px Try.prog (binSem BinOp.add 3 (Operand.tmp 84) (Operand.const (Value.int IntKind.i64 1)) (ρ 17) (Value.int IntKind.i64 1)) w fun v85 w =>
  N2 (put (put (put ρ 84 (ρ 17)) 85 v85) 17 v85) w
theorem F8_6_eq (k : Value → World → Prop) (N2 : Env → World → Prop) (ρ : Env) (w : World) : F8A2 k N2 [1, 1] ρ w = F8_6 k N2 ρ w := by kernel_rfl
theorem F8_in (a0 : Value) (a1 : Value) (a2 : Value) (a3 : Value) (a4 : Value) (w : World) (k : Value → World → Prop) (h : F8_0 a0 a1 a2 a3 a4 w k) : pFn Try.prog 8 [a0, a1, a2, a3, a4] w k :=
  pFn_of_at Try.mixed Try.func8 (by kernel_rfl) (by kernel_rfl) Try.ntmps8 (by kernel_rfl) (by kernel_rfl) (by simp) ((F8_0_eq a0 a1 a2 a3 a4 w k).mpr h)

/-! ## 30 freight/freightlaw5.do -/
noncomputable def F30B : Code := bodyOf Try.f30
def F30A (k : Value → World → Prop) (q : List Nat) (ρ : Env) (w : World) : Prop := At Try.prog 113 F30B (retQ Try.prog Try.f30.results.toList k) q ρ w
def F30_0 (a0 : Value) (a1 : Value) (w : World) (k : Value → World → Prop) : Prop :=
  px Try.prog (Instr.box 59 a1) w fun v3 w =>
  px Try.prog (Instr.fieldAt 59 v3 0) w fun v9 w =>
  px Try.prog (Instr.loadAt 3 v9) w fun v10 w =>
  px Try.prog (binSem BinOp.eql 3 (Operand.tmp 10) (Operand.const (Value.int IntKind.i64 1)) v10 (Value.int IntKind.i64 1)) w fun v12 w =>
  pC v12 (
    px Try.prog (Instr.fieldAt 59 v3 1) w fun v14 w =>
    px Try.prog (Instr.loadAt 9 v14) w fun v15 w =>
    pFn Try.prog 10 [a0, v15] w fun v16 w =>
    k v16 w)
   (
    px Try.prog (binSem BinOp.eql 3 (Operand.tmp 10) (Operand.const (Value.int IntKind.i64 2)) v10 (Value.int IntKind.i64 2)) w fun v18 w =>
    pC v18 (
      ∃ S : World → Prop, S w.drew ∧ (fun w =>
      pq Try.prog S (Instr.fieldAt 59 v3 1) fun v20 =>
      pq Try.prog S (Instr.loadAt 9 v20) fun v21 =>
      pq Try.prog S (Instr.fieldAt 59 v3 3) fun v22 =>
      pq Try.prog S (Instr.loadAt 3 v22) fun v23 =>
      pq Try.prog S (Instr.fieldAt 59 v3 5) fun v25 =>
      pq Try.prog S (Instr.loadAt 30 v25) fun v26 =>
      px Try.prog (Instr.buildSlice 30 0 #[]) w fun v24 w => S w ∧ (
      px Try.prog (bSem .append #[30, 30] 30 #[v24, v26]) w fun v27 w => S w ∧ (
      pFn Try.prog 21 [a0, v21, v23, v27] w fun v28 w => S w ∧ (
      k v28 w)))) w.drew)
     (
      px Try.prog (binSem BinOp.eql 3 (Operand.tmp 10) (Operand.const (Value.int IntKind.i64 3)) v10 (Value.int IntKind.i64 3)) w fun v30 w =>
      pC v30 (
        ∃ S : World → Prop, S w.drew ∧ (fun w =>
        pq Try.prog S (Instr.fieldAt 59 v3 1) fun v32 =>
        pq Try.prog S (Instr.loadAt 9 v32) fun v33 =>
        pq Try.prog S (Instr.fieldAt 59 v3 5) fun v35 =>
        pq Try.prog S (Instr.loadAt 30 v35) fun v36 =>
        px Try.prog (Instr.buildSlice 30 0 #[]) w fun v34 w => S w ∧ (
        px Try.prog (bSem .append #[30, 30] 30 #[v34, v36]) w fun v37 w => S w ∧ (
        pFn Try.prog 11 [a0, v33, v37] w fun v38 w => S w ∧ (
        k v38 w)))) w.drew)
       (
        px Try.prog (binSem BinOp.eql 3 (Operand.tmp 10) (Operand.const (Value.int IntKind.i64 4)) v10 (Value.int IntKind.i64 4)) w fun v40 w =>
        pC v40 (
          px Try.prog (Instr.fieldAt 59 v3 1) w fun v42 w =>
          px Try.prog (Instr.loadAt 9 v42) w fun v43 w =>
          px Try.prog (Instr.fieldAt 59 v3 4) w fun v44 w =>
          px Try.prog (Instr.loadAt 3 v44) w fun v45 w =>
          pFn Try.prog 20 [a0, v43, v45] w fun v46 w =>
          k v46 w)
         (
          px Try.prog (binSem BinOp.eql 3 (Operand.tmp 10) (Operand.const (Value.int IntKind.i64 5)) v10 (Value.int IntKind.i64 5)) w fun v48 w =>
          pC v48 (
            px Try.prog (Instr.fieldAt 59 v3 1) w fun v50 w =>
            px Try.prog (Instr.loadAt 9 v50) w fun v51 w =>
            px Try.prog (Instr.fieldAt 59 v3 2) w fun v52 w =>
            px Try.prog (Instr.loadAt 9 v52) w fun v53 w =>
            pFn Try.prog 52 [a0, v51, v53] w fun v54 w =>
            k v54 w)
           (
            px Try.prog (binSem BinOp.eql 3 (Operand.tmp 10) (Operand.const (Value.int IntKind.i64 6)) v10 (Value.int IntKind.i64 6)) w fun v56 w =>
            pC v56 (
              px Try.prog (Instr.fieldAt 59 v3 1) w fun v58 w =>
              px Try.prog (Instr.loadAt 9 v58) w fun v59 w =>
              pFn Try.prog 51 [a0, v59] w fun v60 w =>
              k v60 w)
             (
              px Try.prog (binSem BinOp.eql 3 (Operand.tmp 10) (Operand.const (Value.int IntKind.i64 7)) v10 (Value.int IntKind.i64 7)) w fun v62 w =>
              pC v62 (
                px Try.prog (Instr.fieldAt 59 v3 1) w fun v64 w =>
                px Try.prog (Instr.loadAt 9 v64) w fun v65 w =>
                pFn Try.prog 12 [a0, v65] w fun v66 w =>
                k v66 w)
               (
                px Try.prog (binSem BinOp.eql 3 (Operand.tmp 10) (Operand.const (Value.int IntKind.i64 8)) v10 (Value.int IntKind.i64 8)) w fun v68 w =>
                pC v68 (
                  pFn Try.prog 13 [a0] w fun v70 w =>
                  k v70 w)
                 (
                  px Try.prog (binSem BinOp.eql 3 (Operand.tmp 10) (Operand.const (Value.int IntKind.i64 9)) v10 (Value.int IntKind.i64 9)) w fun v72 w =>
                  pC v72 (
                    px Try.prog (Instr.fieldAt 59 v3 1) w fun v75 w =>
                    px Try.prog (Instr.loadAt 9 v75) w fun v76 w =>
                    px Try.prog (Instr.fieldAt 59 v3 3) w fun v77 w =>
                    px Try.prog (Instr.loadAt 3 v77) w fun v78 w =>
                    px Try.prog (Instr.fieldAt 59 v3 4) w fun v79 w =>
                    px Try.prog (Instr.loadAt 3 v79) w fun v80 w =>
                    pFn Try.prog 42 [a0, v76, v78, v80] w fun v81 w =>
                    px Try.prog (Instr.extract v81 0) w fun v82 w =>
                    px Try.prog (Instr.extract v81 1) w fun v83 w =>
                    k v83 w)
                   (
                    px Try.prog (binSem BinOp.eql 3 (Operand.tmp 10) (Operand.const (Value.int IntKind.i64 10)) v10 (Value.int IntKind.i64 10)) w fun v86 w =>
                    pC v86 (
                      px Try.prog (Instr.fieldAt 59 v3 1) w fun v89 w =>
                      px Try.prog (Instr.loadAt 9 v89) w fun v90 w =>
                      pFn Try.prog 41 [a0, v90] w fun v91 w =>
                      px Try.prog (Instr.extract v91 0) w fun v92 w =>
                      px Try.prog (Instr.extract v91 1) w fun v93 w =>
                      k v93 w)
                     (
                      px Try.prog (binSem BinOp.eql 3 (Operand.tmp 10) (Operand.const (Value.int IntKind.i64 11)) v10 (Value.int IntKind.i64 11)) w fun v96 w =>
                      pC v96 (
                        px Try.prog (Instr.fieldAt 59 v3 6) w fun v98 w =>
                        px Try.prog (Instr.loadAt 46 v98) w fun v99 w =>
                        pFn Try.prog 19 [a0, v99] w fun v100 w =>
                        F30A k [1, 1] (put (put (put (put (put (put (put (put (put (put (put (put (put (put (put (put (put (put (put (put (put (put (put (put (put (put (put (put (put (put (argEnv [a0, a1]) 3 v3) 4 (Value.int IntKind.i64 0)) 9 v9) 10 v10) 12 v12) 11 v12) 18 v18) 17 v18) 30 v30) 29 v30) 40 v40) 39 v40) 48 v48) 47 v48) 56 v56) 55 v56) 62 v62) 61 v62) 68 v68) 67 v68) 72 v72) 71 v72) 86 v86) 85 v86) 96 v96) 95 v96) 97 a0) 98 v98) 99 v99) 100 v100) w)
                       (
                        px Try.prog (binSem BinOp.eql 3 (Operand.tmp 10) (Operand.const (Value.int IntKind.i64 12)) v10 (Value.int IntKind.i64 12)) w fun v102 w =>
                        pC v102 (
                          px Try.prog (Instr.buildSlice 57 0 #[]) w fun v104 w =>
                          px Try.prog (Instr.fieldAt 59 v3 7) w fun v105 w =>
                          px Try.prog (Instr.loadAt 57 v105) w fun v106 w =>
                          px Try.prog (bSem .append #[57, 57] 57 #[v104, v106]) w fun v107 w =>
                          pFn Try.prog 15 [a0, v107] w fun v108 w =>
                          F30A k [1, 1] (put (put (put (put (put (put (put (put (put (put (put (put (put (put (put (put (put (put (put (put (put (put (put (put (put (put (put (put (put (put (put (put (put (put (argEnv [a0, a1]) 3 v3) 4 (Value.int IntKind.i64 0)) 9 v9) 10 v10) 12 v12) 11 v12) 18 v18) 17 v18) 30 v30) 29 v30) 40 v40) 39 v40) 48 v48) 47 v48) 56 v56) 55 v56) 62 v62) 61 v62) 68 v68) 67 v68) 72 v72) 71 v72) 86 v86) 85 v86) 96 v96) 95 v96) 102 v102) 101 v102) 103 a0) 104 v104) 105 v105) 106 v106) 107 v107) 108 v108) w)
                         (
                          px Try.prog (binSem BinOp.eql 3 (Operand.tmp 10) (Operand.const (Value.int IntKind.i64 13)) v10 (Value.int IntKind.i64 13)) w fun v110 w =>
                          pC v110 (
                            pFn Try.prog 40 [a0] w fun v112 w =>
                            F30A k [1, 1] (put (put (put (put (put (put (put (put (put (put (put (put (put (put (put (put (put (put (put (put (put (put (put (put (put (put (put (put (put (put (put (put (argEnv [a0, a1]) 3 v3) 4 (Value.int IntKind.i64 0)) 9 v9) 10 v10) 12 v12) 11 v12) 18 v18) 17 v18) 30 v30) 29 v30) 40 v40) 39 v40) 48 v48) 47 v48) 56 v56) 55 v56) 62 v62) 61 v62) 68 v68) 67 v68) 72 v72) 71 v72) 86 v86) 85 v86) 96 v96) 95 v96) 102 v102) 101 v102) 110 v110) 109 v110) 111 a0) 112 v112) w)
                           (
                            F30A k [1, 1] (put (put (put (put (put (put (put (put (put (put (put (put (put (put (put (put (put (put (put (put (put (put (put (put (put (put (put (put (put (put (argEnv [a0, a1]) 3 v3) 4 (Value.int IntKind.i64 0)) 9 v9) 10 v10) 12 v12) 11 v12) 18 v18) 17 v18) 30 v30) 29 v30) 40 v40) 39 v40) 48 v48) 47 v48) 56 v56) 55 v56) 62 v62) 61 v62) 68 v68) 67 v68) 72 v72) 71 v72) 86 v86) 85 v86) 96 v96) 95 v96) 102 v102) 101 v102) 110 v110) 109 v110) w)))))))))))))
theorem F30_0_eq (a0 : Value) (a1 : Value) (w : World) (k : Value → World → Prop) : F30A k [] (argEnv [a0, a1]) w = F30_0 a0 a1 w k := by kernel_rfl
def F30_1 (k : Value → World → Prop) (ρ : Env) (w : World) : Prop :=
  k (Value.int IntKind.i64 0) w
theorem F30_1_eq (k : Value → World → Prop) (ρ : Env) (w : World) : F30A k [1, 1] ρ w = F30_1 k ρ w := by kernel_rfl
theorem F30_in (a0 : Value) (a1 : Value) (w : World) (k : Value → World → Prop) (h : F30_0 a0 a1 w k) : pFn Try.prog 30 [a0, a1] w k :=
  pFn_of_at Try.mixed Try.func30 (by kernel_rfl) (by kernel_rfl) Try.ntmps30 (by kernel_rfl) (by kernel_rfl) (by simp) ((F30_0_eq a0 a1 w k).mpr h)

/-! ## 31 freight/freightlaw5.stroke -/
noncomputable def F31B : Code := bodyOf Try.f31
def F31A (k : Value → World → Prop) (q : List Nat) (ρ : Env) (w : World) : Prop := At Try.prog 11 F31B (retQ Try.prog Try.f31.results.toList k) q ρ w
def F31_0 (x0 : Value) (w : World) (k : Value → World → Prop) : Prop :=
  px Try.prog (Instr.box 59 x0) w fun v1 w =>
  px Try.prog (Instr.fieldAt 59 v1 0) w fun v3 w =>
  px Try.prog (Instr.loadAt 3 v3) w fun v4 w =>
  px Try.prog (binSem BinOp.geq 3 (Operand.tmp 4) (Operand.const (Value.int IntKind.i64 1)) v4 (Value.int IntKind.i64 1)) w fun v5 w =>
  pG v5 true (fun k => px Try.prog (Instr.fieldAt 59 v1 0) w k) (w := w) (next := fun v7 w =>
  pG v5 true (fun k => px Try.prog (Instr.loadAt 3 v7) w k) (w := w) (next := fun v8 w =>
  pG v5 true (fun k => px Try.prog (binSem BinOp.leq 3 (Operand.tmp 8) (Operand.const (Value.int IntKind.i64 8)) v8 (Value.int IntKind.i64 8)) w k) (w := w) (next := fun v9 w =>
  px Try.prog (pickSem v5 v9 (Value.bool false)) w fun v10 w =>
  k v10 w)))
theorem F31_0_eq (x0 : Value) (w : World) (k : Value → World → Prop) : F31A k [] (argEnv [x0]) w = F31_0 x0 w k := by kernel_rfl
theorem F31_in (x0 : Value) (w : World) (k : Value → World → Prop) (h : F31_0 x0 w k) : pFn Try.prog 31 [x0] w k :=
  pFn_of_at Try.mixed Try.func31 (by kernel_rfl) (by kernel_rfl) Try.ntmps31 (by kernel_rfl) (by kernel_rfl) (by simp) ((F31_0_eq x0 w k).mpr h)

/-! ## 33 freight/freightlaw5.total -/
noncomputable def F33B : Code := bodyOf Try.f33
def F33A (k : Value → World → Prop) (q : List Nat) (ρ : Env) (w : World) : Prop := At Try.prog 20 F33B (retQ Try.prog Try.f33.results.toList k) q ρ w
noncomputable def F33B1 : Code := sub F33B [1, 1, 0, 1, 0, 0]
def F33Q1 (k : Value → World → Prop) (N1 : Env → World → Prop) : Xt → Env → World → Prop := thenE N1 (contAt Try.prog 20 F33B (retQ Try.prog Try.f33.results.toList k) [1, 1, 0, 1, 0])
def F33A1 (k : Value → World → Prop) (N1 : Env → World → Prop) (q : List Nat) (ρ : Env) (w : World) : Prop := At Try.prog 20 F33B1 (F33Q1 k N1) q ρ w
def F33L1 (k : Value → World → Prop) (ρ : Env) (w : World) : Prop := LoopAt Try.prog 20 F33B (retQ Try.prog Try.f33.results.toList k) [1, 1, 0, 1, 0] ρ w
theorem F33L1_inv (k : Value → World → Prop) (I : Nat → Env → World → Prop) (round : ∀ m ρ w, I m ρ w → F33A1 k (fun ρ' w' => ∃ m', m' < m ∧ I m' ρ' w') [] ρ w) {m : Nat} {ρ : Env} {w : World} (h : I m ρ w) : F33L1 k ρ w :=
  LoopAt_inv Try.mixed (B := F33B) (Q := (retQ Try.prog Try.f33.results.toList k)) (p := [1, 1, 0, 1, 0]) (by kernel_rfl) (by kernel_rfl) I round h
def F33_0 (l0 : Value) (w : World) (k : Value → World → Prop) : Prop :=
  F33L1 k (put (put (put (argEnv [l0]) 2 (Value.int IntKind.i64 0)) 3 (Value.int IntKind.i64 0)) 4 (Value.int IntKind.i64 0)) w
theorem F33_0_eq (l0 : Value) (w : World) (k : Value → World → Prop) : F33A k [] (argEnv [l0]) w = F33_0 l0 w k := by kernel_rfl
def F33_1 (k : Value → World → Prop) (N1 : Env → World → Prop) (ρ : Env) (w : World) : Prop :=
  px Try.prog (bSem .len #[37] 3 #[(ρ 0)]) w fun v7 w =>
  px Try.prog (binSem BinOp.lss 3 (Operand.tmp 5) (Operand.tmp 7) (ρ 4) v7) w fun v8 w =>
  pC v8 (
    px Try.prog (Instr.indexAt 37 (ρ 0) (ρ 4)) w fun v14 w =>
    px Try.prog (Instr.fieldAt 52 v14 1) w fun v15 w =>
    px Try.prog (Instr.loadAt 30 v15) w fun v16 w =>
    px Try.prog (bSem .len #[30] 3 #[v16]) w fun v17 w =>
    px Try.prog (binSem BinOp.add 3 (Operand.tmp 11) (Operand.tmp 17) (ρ 3) v17) w fun v18 w =>
    px Try.prog (binSem BinOp.add 3 (Operand.tmp 9) (Operand.const (Value.int IntKind.i64 1)) (ρ 4) (Value.int IntKind.i64 1)) w fun v10 w =>
    N1 (put (put (put (put (put (put (put (put (put (put (put (put (put (put (put (put ρ 5 (ρ 4)) 6 (ρ 0)) 7 v7) 8 v8) 11 (ρ 3)) 12 (ρ 0)) 13 (ρ 4)) 14 v14) 15 v15) 16 v16) 17 v17) 18 v18) 3 v18) 9 (ρ 4)) 10 v10) 4 v10) w)
   (
    F33A k [1, 1, 1] (put (put (put (put ρ 5 (ρ 4)) 6 (ρ 0)) 7 v7) 8 v8) w)
theorem F33_1_eq (k : Value → World → Prop) (N1 : Env → World → Prop) (ρ : Env) (w : World) : F33A1 k N1 [] ρ w = F33_1 k N1 ρ w := by kernel_rfl
def F33_2 (k : Value → World → Prop) (ρ : Env) (w : World) : Prop :=
  k (ρ 3) w
theorem F33_2_eq (k : Value → World → Prop) (ρ : Env) (w : World) : F33A k [1, 1, 1] ρ w = F33_2 k ρ w := by kernel_rfl
theorem F33_in (l0 : Value) (w : World) (k : Value → World → Prop) (h : F33_0 l0 w k) : pFn Try.prog 33 [l0] w k :=
  pFn_of_at Try.mixed Try.func33 (by kernel_rfl) (by kernel_rfl) Try.ntmps33 (by kernel_rfl) (by kernel_rfl) (by simp) ((F33_0_eq l0 w k).mpr h)

/-! ## 34 freight/freightlaw5.spans -/
noncomputable def F34B : Code := bodyOf Try.f34
def F34A (k : Value → World → Prop) (q : List Nat) (ρ : Env) (w : World) : Prop := At Try.prog 26 F34B (retQ Try.prog Try.f34.results.toList k) q ρ w
noncomputable def F34B1 : Code := sub F34B [1, 1, 0, 1, 0, 0]
def F34Q1 (k : Value → World → Prop) (N1 : Env → World → Prop) : Xt → Env → World → Prop := thenE N1 (contAt Try.prog 26 F34B (retQ Try.prog Try.f34.results.toList k) [1, 1, 0, 1, 0])
def F34A1 (k : Value → World → Prop) (N1 : Env → World → Prop) (q : List Nat) (ρ : Env) (w : World) : Prop := At Try.prog 26 F34B1 (F34Q1 k N1) q ρ w
def F34L1 (k : Value → World → Prop) (ρ : Env) (w : World) : Prop := LoopAt Try.prog 26 F34B (retQ Try.prog Try.f34.results.toList k) [1, 1, 0, 1, 0] ρ w
theorem F34L1_inv (k : Value → World → Prop) (I : Nat → Env → World → Prop) (round : ∀ m ρ w, I m ρ w → F34A1 k (fun ρ' w' => ∃ m', m' < m ∧ I m' ρ' w') [] ρ w) {m : Nat} {ρ : Env} {w : World} (h : I m ρ w) : F34L1 k ρ w :=
  LoopAt_inv Try.mixed (B := F34B) (Q := (retQ Try.prog Try.f34.results.toList k)) (p := [1, 1, 0, 1, 0]) (by kernel_rfl) (by kernel_rfl) I round h
def F34_0 (a0 : Value) (b1 : Value) (w : World) (k : Value → World → Prop) : Prop :=
  px Try.prog (bSem .len #[60] 3 #[a0]) w fun v7 w =>
  px Try.prog (bSem .len #[60] 3 #[b1]) w fun v9 w =>
  px Try.prog (binSem BinOp.neq 3 (Operand.tmp 7) (Operand.tmp 9) v7 v9) w fun v10 w =>
  pC v10 (
    k (Value.bool false) w)
   (
    F34L1 k (put (put (put (put (put (put (put (argEnv [a0, b1]) 4 (Value.bool false)) 6 a0) 7 v7) 8 b1) 9 v9) 10 v10) 5 (Value.int IntKind.i64 0)) w)
theorem F34_0_eq (a0 : Value) (b1 : Value) (w : World) (k : Value → World → Prop) : F34A k [] (argEnv [a0, b1]) w = F34_0 a0 b1 w k := by kernel_rfl
def F34_1 (k : Value → World → Prop) (N1 : Env → World → Prop) (ρ : Env) (w : World) : Prop :=
  px Try.prog (bSem .len #[60] 3 #[(ρ 0)]) w fun v13 w =>
  px Try.prog (binSem BinOp.lss 3 (Operand.tmp 11) (Operand.tmp 13) (ρ 5) v13) w fun v14 w =>
  pC v14 (
    ∃ S : World → Prop, S w.drew ∧ (fun w =>
    pq Try.prog S (Instr.indexAt 60 (ρ 0) (ρ 5)) fun v19 =>
    pq Try.prog S (Instr.loadAt 86 v19) fun v20 =>
    pq Try.prog S (Instr.indexAt 60 (ρ 1) (ρ 5)) fun v23 =>
    pq Try.prog S (Instr.loadAt 86 v23) fun v24 =>
    pq Try.prog S (binSem BinOp.neq 86 (Operand.tmp 20) (Operand.tmp 24) v20 v24) fun v25 =>
    pC v25 (
      k (Value.bool false) w)
     (
      px Try.prog (binSem BinOp.add 3 (Operand.tmp 15) (Operand.const (Value.int IntKind.i64 1)) (ρ 5) (Value.int IntKind.i64 1)) w fun v16 w =>
      N1 (put (put (put (put (put (put (put (put (put (put (put (put (put (put (put (put ρ 11 (ρ 5)) 12 (ρ 0)) 13 v13) 14 v14) 17 (ρ 0)) 18 (ρ 5)) 19 v19) 20 v20) 21 (ρ 1)) 22 (ρ 5)) 23 v23) 24 v24) 25 v25) 15 (ρ 5)) 16 v16) 5 v16) w)) w.drew)
   (
    F34A k [1, 1, 1] (put (put (put (put ρ 11 (ρ 5)) 12 (ρ 0)) 13 v13) 14 v14) w)
theorem F34_1_eq (k : Value → World → Prop) (N1 : Env → World → Prop) (ρ : Env) (w : World) : F34A1 k N1 [] ρ w = F34_1 k N1 ρ w := by kernel_rfl
def F34_2 (k : Value → World → Prop) (ρ : Env) (w : World) : Prop :=
  k (Value.bool true) w
theorem F34_2_eq (k : Value → World → Prop) (ρ : Env) (w : World) : F34A k [1, 1, 1] ρ w = F34_2 k ρ w := by kernel_rfl
theorem F34_in (a0 : Value) (b1 : Value) (w : World) (k : Value → World → Prop) (h : F34_0 a0 b1 w k) : pFn Try.prog 34 [a0, b1] w k :=
  pFn_of_at Try.mixed Try.func34 (by kernel_rfl) (by kernel_rfl) Try.ntmps34 (by kernel_rfl) (by kernel_rfl) (by simp) ((F34_0_eq a0 b1 w k).mpr h)

/-! ## 36 (*freight/freightlaw5.Rows).made -/
noncomputable def F36B : Code := bodyOf Try.f36
def F36A (k : Value → World → Prop) (q : List Nat) (ρ : Env) (w : World) : Prop := At Try.prog 156 F36B (retQ Try.prog Try.f36.results.toList k) q ρ w
def F36_0 (a0 : Value) (a1 : Value) (w : World) (k : Value → World → Prop) : Prop :=
  px Try.prog (Instr.box 59 a1) w fun v3 w =>
  px Try.prog (Instr.fieldAt 59 v3 1) w fun v7 w =>
  px Try.prog (Instr.loadAt 9 v7) w fun v8 w =>
  pFn Try.prog 67 [a0, v8] w fun v9 w =>
  px Try.prog (Instr.fieldAt 59 v3 0) w fun v10 w =>
  px Try.prog (Instr.loadAt 3 v10) w fun v11 w =>
  px Try.prog (binSem BinOp.eql 3 (Operand.tmp 11) (Operand.const (Value.int IntKind.i64 1)) v11 (Value.int IntKind.i64 1)) w fun v13 w =>
  pC v13 (
    ∃ S : World → Prop, S w.drew ∧ (fun w =>
    pq Try.prog S (nilSem a0) fun v16 =>
    pq Try.prog S (Instr.fieldAt 73 v16 0) fun v17 =>
    pq Try.prog S (Instr.loadAt 71 v17) fun v18 =>
    pq Try.prog S (Instr.fieldAt 59 v3 1) fun v19 =>
    pq Try.prog S (Instr.loadAt 9 v19) fun v20 =>
    pq Try.prog S (Instr.build 75 #[(0, v20)]) fun v21 =>
    px Try.prog (Instr.buildSlice 71 1 #[(0, v21)]) w fun v22 w => S w ∧ (
    px Try.prog (bSem .append #[71, 71] 71 #[v18, v22]) w fun v23 w => S w ∧ (
    pq Try.prog S (nilSem a0) fun v24 =>
    pq Try.prog S (Instr.fieldAt 73 v24 0) fun v25 =>
    pu Try.prog (Instr.storeAt 71 v25 v23) w fun w => (
    px Try.prog (nilSem a0) w fun v28 w =>
    px Try.prog (Instr.fieldAt 73 v28 1) w fun v29 w =>
    px Try.prog (Instr.loadAt 3 v29) w fun v30 w =>
    px Try.prog (binSem BinOp.add 3 (Operand.tmp 30) (Operand.const (Value.int IntKind.i64 1)) v30 (Value.int IntKind.i64 1)) w fun v31 w =>
    px Try.prog (nilSem a0) w fun v32 w =>
    px Try.prog (Instr.fieldAt 73 v32 1) w fun v33 w =>
    pu Try.prog (Instr.storeAt 3 v33 v31) w fun w =>
    k (.tuple #[]) w)))) w.drew)
   (
    px Try.prog (binSem BinOp.eql 3 (Operand.tmp 11) (Operand.const (Value.int IntKind.i64 2)) v11 (Value.int IntKind.i64 2)) w fun v35 w =>
    pC v35 (
      F36A k [1, 1, 1, 0, 1, 1, 1] (put (put (put (put (put (put (put (put (put (put (put (put (argEnv [a0, a1]) 3 v3) 6 a0) 7 v7) 8 v8) 9 v9) 4 v9) 10 v10) 11 v11) 13 v13) 12 v13) 35 v35) 34 v35) w)
     (
      px Try.prog (binSem BinOp.eql 3 (Operand.tmp 11) (Operand.const (Value.int IntKind.i64 3)) v11 (Value.int IntKind.i64 3)) w fun v36 w =>
      F36A k [1, 1, 1, 0, 1, 1, 1] (put (put (put (put (put (put (put (put (put (put (put (put (put (put (argEnv [a0, a1]) 3 v3) 6 a0) 7 v7) 8 v8) 9 v9) 4 v9) 10 v10) 11 v11) 13 v13) 12 v13) 35 v35) 34 v35) 36 v36) 34 v36) w))
theorem F36_0_eq (a0 : Value) (a1 : Value) (w : World) (k : Value → World → Prop) : F36A k [] (argEnv [a0, a1]) w = F36_0 a0 a1 w k := by kernel_rfl
def F36_1 (k : Value → World → Prop) (ρ : Env) (w : World) : Prop :=
  pC (ρ 34) (
    px Try.prog (binSem BinOp.geq 3 (Operand.tmp 37) (Operand.const (Value.int IntKind.i64 0)) (ρ 4) (Value.int IntKind.i64 0)) w fun v38 w =>
    pC v38 (
      ∃ S : World → Prop, S w.drew ∧ (fun w =>
      pq Try.prog S (nilSem (ρ 0)) fun v40 =>
      pq Try.prog S (Instr.fieldAt 73 v40 0) fun v41 =>
      pq Try.prog S (Instr.loadAt 71 v41) fun v42 =>
      pq Try.prog S (nilSem (ρ 0)) fun v45 =>
      pq Try.prog S (Instr.fieldAt 73 v45 0) fun v46 =>
      pq Try.prog S (Instr.loadAt 71 v46) fun v47 =>
      pq Try.prog S (Instr.indexAt 71 v47 (ρ 4)) fun v49 =>
      pq Try.prog S (Instr.fieldAt 75 v49 1) fun v50 =>
      pq Try.prog S (Instr.loadAt 3 v50) fun v51 =>
      pq Try.prog S (Instr.fieldAt 59 (ρ 3) 5) fun v52 =>
      pq Try.prog S (Instr.loadAt 30 v52) fun v53 =>
      pq Try.prog S (bSem .len #[30] 3 #[v53]) fun v54 =>
      pq Try.prog S (binSem BinOp.add 3 (Operand.tmp 51) (Operand.tmp 54) v51 v54) fun v55 =>
      pq Try.prog S (Instr.indexAt 71 v42 (ρ 4)) fun v56 =>
      pq Try.prog S (Instr.fieldAt 75 v56 1) fun v57 =>
      pu Try.prog (Instr.storeAt 3 v57 v55) w fun w => (
      k (.tuple #[]) w)) w.drew)
     (
      k (.tuple #[]) w))
   (
    px Try.prog (binSem BinOp.eql 3 (Operand.tmp 11) (Operand.const (Value.int IntKind.i64 4)) (ρ 11) (Value.int IntKind.i64 4)) w fun v59 w =>
    pC v59 (
      px Try.prog (binSem BinOp.geq 3 (Operand.tmp 60) (Operand.const (Value.int IntKind.i64 0)) (ρ 4) (Value.int IntKind.i64 0)) w fun v61 w =>
      pC v61 (
        ∃ S : World → Prop, S w.drew ∧ (fun w =>
        pq Try.prog S (nilSem (ρ 0)) fun v63 =>
        pq Try.prog S (Instr.fieldAt 73 v63 0) fun v64 =>
        pq Try.prog S (Instr.loadAt 71 v64) fun v65 =>
        pq Try.prog S (nilSem (ρ 0)) fun v68 =>
        pq Try.prog S (Instr.fieldAt 73 v68 0) fun v69 =>
        pq Try.prog S (Instr.loadAt 71 v69) fun v70 =>
        pq Try.prog S (Instr.indexAt 71 v70 (ρ 4)) fun v72 =>
        pq Try.prog S (Instr.fieldAt 75 v72 1) fun v73 =>
        pq Try.prog S (Instr.loadAt 3 v73) fun v74 =>
        pq Try.prog S (binSem BinOp.add 3 (Operand.tmp 74) (Operand.const (Value.int IntKind.i64 1)) v74 (Value.int IntKind.i64 1)) fun v75 =>
        pq Try.prog S (Instr.indexAt 71 v65 (ρ 4)) fun v76 =>
        pq Try.prog S (Instr.fieldAt 75 v76 1) fun v77 =>
        pu Try.prog (Instr.storeAt 3 v77 v75) w fun w => (
        k (.tuple #[]) w)) w.drew)
       (
        k (.tuple #[]) w))
     (
      px Try.prog (binSem BinOp.eql 3 (Operand.tmp 11) (Operand.const (Value.int IntKind.i64 5)) (ρ 11) (Value.int IntKind.i64 5)) w fun v79 w =>
      pC v79 (
        px Try.prog (Instr.fieldAt 59 (ρ 3) 1) w fun v80 w =>
        px Try.prog (Instr.loadAt 9 v80) w fun v81 w =>
        px Try.prog (Instr.fieldAt 59 (ρ 3) 2) w fun v82 w =>
        px Try.prog (Instr.loadAt 9 v82) w fun v83 w =>
        px Try.prog (binSem BinOp.neq 9 (Operand.tmp 81) (Operand.tmp 83) v81 v83) w fun v84 w =>
        pG v84 true (fun k => k (ρ 4) w) (w := w) (next := fun v86 w =>
        pG v84 true (fun k => px Try.prog (binSem BinOp.geq 3 (Operand.tmp 86) (Operand.const (Value.int IntKind.i64 0)) v86 (Value.int IntKind.i64 0)) w k) (w := w) (next := fun v87 w =>
        px Try.prog (pickSem v84 v87 (Value.bool false)) w fun v88 w =>
        pC v88 (
          px Try.prog (nilSem (ρ 0)) w fun v90 w =>
          px Try.prog (Instr.fieldAt 73 v90 0) w fun v91 w =>
          px Try.prog (Instr.loadAt 71 v91) w fun v92 w =>
          px Try.prog (Instr.indexAt 71 v92 (ρ 4)) w fun v94 w =>
          px Try.prog (Instr.loadAt 75 v94) w fun v95 w =>
          px Try.prog (Instr.alloc 75 true (.tuple #[])) w fun v5 w =>
          pu Try.prog (Instr.storeAt 75 v5 v95) w fun w =>
          px Try.prog (Instr.fieldAt 59 (ρ 3) 1) w fun v97 w =>
          px Try.prog (Instr.loadAt 9 v97) w fun v98 w =>
          pFn Try.prog 68 [(ρ 0), v98] w fun v99 w =>
          px Try.prog (Instr.fieldAt 59 (ρ 3) 2) w fun v101 w =>
          px Try.prog (Instr.loadAt 9 v101) w fun v102 w =>
          pFn Try.prog 68 [(ρ 0), v102] w fun v103 w =>
          ∃ S : World → Prop, S w.drew ∧ (fun w =>
          pq Try.prog S (nilSem (ρ 0)) fun v106 =>
          pq Try.prog S (Instr.fieldAt 73 v106 0) fun v107 =>
          pq Try.prog S (Instr.loadAt 71 v107) fun v108 =>
          pq Try.prog S (Instr.fieldAt 59 (ρ 3) 2) fun v109 =>
          pq Try.prog S (Instr.loadAt 9 v109) fun v110 =>
          pq Try.prog S (Instr.fieldAt 75 v5 1) fun v111 =>
          pq Try.prog S (Instr.loadAt 3 v111) fun v112 =>
          pq Try.prog S (Instr.build 75 #[(0, v110), (1, v112)]) fun v113 =>
          px Try.prog (Instr.buildSlice 71 1 #[(0, v113)]) w fun v114 w => S w ∧ (
          px Try.prog (bSem .append #[71, 71] 71 #[v108, v114]) w fun v115 w => S w ∧ (
          pq Try.prog S (nilSem (ρ 0)) fun v116 =>
          pq Try.prog S (Instr.fieldAt 73 v116 0) fun v117 =>
          pu Try.prog (Instr.storeAt 71 v117 v115) w fun w => (
          px Try.prog (nilSem (ρ 0)) w fun v120 w =>
          px Try.prog (Instr.fieldAt 73 v120 1) w fun v121 w =>
          px Try.prog (Instr.loadAt 3 v121) w fun v122 w =>
          px Try.prog (binSem BinOp.add 3 (Operand.tmp 122) (Operand.const (Value.int IntKind.i64 1)) v122 (Value.int IntKind.i64 1)) w fun v123 w =>
          px Try.prog (nilSem (ρ 0)) w fun v124 w =>
          px Try.prog (Instr.fieldAt 73 v124 1) w fun v125 w =>
          pu Try.prog (Instr.storeAt 3 v125 v123) w fun w =>
          k (.tuple #[]) w)))) w.drew)
         (
          k (.tuple #[]) w))))
       (
        px Try.prog (binSem BinOp.eql 3 (Operand.tmp 11) (Operand.const (Value.int IntKind.i64 6)) (ρ 11) (Value.int IntKind.i64 6)) w fun v127 w =>
        pC v127 (
          px Try.prog (Instr.fieldAt 59 (ρ 3) 1) w fun v129 w =>
          px Try.prog (Instr.loadAt 9 v129) w fun v130 w =>
          pFn Try.prog 68 [(ρ 0), v130] w fun v131 w =>
          px Try.prog (nilSem (ρ 0)) w fun v134 w =>
          px Try.prog (Instr.fieldAt 73 v134 1) w fun v135 w =>
          px Try.prog (Instr.loadAt 3 v135) w fun v136 w =>
          px Try.prog (binSem BinOp.add 3 (Operand.tmp 136) (Operand.const (Value.int IntKind.i64 1)) v136 (Value.int IntKind.i64 1)) w fun v137 w =>
          px Try.prog (nilSem (ρ 0)) w fun v138 w =>
          px Try.prog (Instr.fieldAt 73 v138 1) w fun v139 w =>
          pu Try.prog (Instr.storeAt 3 v139 v137) w fun w =>
          k (.tuple #[]) w)
         (
          px Try.prog (binSem BinOp.eql 3 (Operand.tmp 11) (Operand.const (Value.int IntKind.i64 7)) (ρ 11) (Value.int IntKind.i64 7)) w fun v141 w =>
          pC v141 (
            px Try.prog (binSem BinOp.geq 3 (Operand.tmp 142) (Operand.const (Value.int IntKind.i64 0)) (ρ 4) (Value.int IntKind.i64 0)) w fun v143 w =>
            pC v143 (
              px Try.prog (nilSem (ρ 0)) w fun v145 w =>
              px Try.prog (Instr.fieldAt 73 v145 0) w fun v146 w =>
              px Try.prog (Instr.loadAt 71 v146) w fun v147 w =>
              px Try.prog (Instr.indexAt 71 v147 (ρ 4)) w fun v149 w =>
              px Try.prog (Instr.fieldAt 75 v149 1) w fun v150 w =>
              pu Try.prog (Instr.storeAt 3 v150 (Value.int IntKind.i64 0)) w fun w =>
              k (.tuple #[]) w)
             (
              k (.tuple #[]) w))
           (
            px Try.prog (binSem BinOp.eql 3 (Operand.tmp 11) (Operand.const (Value.int IntKind.i64 8)) (ρ 11) (Value.int IntKind.i64 8)) w fun v152 w =>
            pC v152 (
              px Try.prog (nilSem (ρ 0)) w fun v154 w =>
              px Try.prog (Instr.fieldAt 73 v154 1) w fun v155 w =>
              pu Try.prog (Instr.storeAt 3 v155 (Value.int IntKind.i64 0)) w fun w =>
              k (.tuple #[]) w)
             (
              k (.tuple #[]) w))))))
theorem F36_1_eq (k : Value → World → Prop) (ρ : Env) (w : World) : F36A k [1, 1, 1, 0, 1, 1, 1] ρ w = F36_1 k ρ w := by kernel_rfl
theorem F36_in (a0 : Value) (a1 : Value) (w : World) (k : Value → World → Prop) (h : F36_0 a0 a1 w k) : pFn Try.prog 36 [a0, a1] w k :=
  pFn_of_at Try.mixed Try.func36 (by kernel_rfl) (by kernel_rfl) Try.ntmps36 (by kernel_rfl) (by kernel_rfl) (by simp) ((F36_0_eq a0 a1 w k).mpr h)

/-! ## 37 (*freight/freightlaw5.Rows).all -/
noncomputable def F37B : Code := bodyOf Try.f37
def F37A (k : Value → World → Prop) (q : List Nat) (ρ : Env) (w : World) : Prop := At Try.prog 66 F37B (retQ Try.prog Try.f37.results.toList k) q ρ w
noncomputable def F37B1 : Code := sub F37B [1, 1, 0, 1, 0, 0]
def F37Q1 (k : Value → World → Prop) (N1 : Env → World → Prop) : Xt → Env → World → Prop := thenE N1 (contAt Try.prog 66 F37B (retQ Try.prog Try.f37.results.toList k) [1, 1, 0, 1, 0])
def F37A1 (k : Value → World → Prop) (N1 : Env → World → Prop) (q : List Nat) (ρ : Env) (w : World) : Prop := At Try.prog 66 F37B1 (F37Q1 k N1) q ρ w
def F37L1 (k : Value → World → Prop) (ρ : Env) (w : World) : Prop := LoopAt Try.prog 66 F37B (retQ Try.prog Try.f37.results.toList k) [1, 1, 0, 1, 0] ρ w
theorem F37L1_inv (k : Value → World → Prop) (I : Nat → Env → World → Prop) (round : ∀ m ρ w, I m ρ w → F37A1 k (fun ρ' w' => ∃ m', m' < m ∧ I m' ρ' w') [] ρ w) {m : Nat} {ρ : Env} {w : World} (h : I m ρ w) : F37L1 k ρ w :=
  LoopAt_inv Try.mixed (B := F37B) (Q := (retQ Try.prog Try.f37.results.toList k)) (p := [1, 1, 0, 1, 0]) (by kernel_rfl) (by kernel_rfl) I round h
def F37_0 (a0 : Value) (a1 : Value) (a2 : Value) (w : World) (k : Value → World → Prop) : Prop :=
  ∃ S : World → Prop, S w.drew ∧ (fun w =>
  pq Try.prog S (nilSem a0) fun v13 =>
  pq Try.prog S (Instr.fieldAt 73 v13 1) fun v14 =>
  pq Try.prog S (Instr.loadAt 3 v14) fun v15 =>
  pq Try.prog S (nilSem a0) fun v18 =>
  pq Try.prog S (Instr.fieldAt 73 v18 1) fun v19 =>
  pq Try.prog S (Instr.loadAt 3 v19) fun v20 =>
  pq Try.prog S (binSem BinOp.add 3 (Operand.tmp 20) (Operand.const (Value.int IntKind.i64 1)) v20 (Value.int IntKind.i64 1)) fun v21 =>
  pq Try.prog S (binSem BinOp.mul 3 (Operand.tmp 16) (Operand.tmp 21) a2 v21) fun v22 =>
  pq Try.prog S (binSem BinOp.add 3 (Operand.tmp 15) (Operand.tmp 22) v15 v22) fun v23 =>
  px Try.prog (Instr.buildSlice 57 1 #[(0, v23)]) w fun v24 w => S w ∧ (
  F37L1 k (put (put (put (put (put (put (put (put (put (put (put (put (put (put (put (put (put (argEnv [a0, a1, a2]) 6 (Value.slice none 0 0)) 7 (Value.bool false)) 12 a0) 13 v13) 14 v14) 15 v15) 16 a2) 17 a0) 18 v18) 19 v19) 20 v20) 21 v21) 22 v22) 23 v23) 24 v24) 8 v24) 9 (Value.int IntKind.i64 0)) w)) w.drew
theorem F37_0_eq (a0 : Value) (a1 : Value) (a2 : Value) (w : World) (k : Value → World → Prop) : F37A k [] (argEnv [a0, a1, a2]) w = F37_0 a0 a1 a2 w k := by kernel_rfl
def F37_1 (k : Value → World → Prop) (N1 : Env → World → Prop) (ρ : Env) (w : World) : Prop :=
  px Try.prog (bSem .len #[37] 3 #[(ρ 1)]) w fun v27 w =>
  px Try.prog (binSem BinOp.lss 3 (Operand.tmp 25) (Operand.tmp 27) (ρ 9) v27) w fun v28 w =>
  pC v28 (
    px Try.prog (Instr.indexAt 37 (ρ 1) (ρ 9)) w fun v34 w =>
    px Try.prog (Instr.fieldAt 52 v34 0) w fun v35 w =>
    px Try.prog (Instr.loadAt 9 v35) w fun v36 w =>
    pFn Try.prog 67 [(ρ 0), v36] w fun v37 w =>
    px Try.prog (binSem BinOp.lss 3 (Operand.tmp 38) (Operand.const (Value.int IntKind.i64 0)) v37 (Value.int IntKind.i64 0)) w fun v39 w =>
    pC v39 (
      k (.tuple #[(Value.slice none 0 0), (Value.bool false)]) w)
     (
      px Try.prog (nilSem (ρ 0)) w fun v41 w =>
      px Try.prog (Instr.fieldAt 73 v41 0) w fun v42 w =>
      px Try.prog (Instr.loadAt 71 v42) w fun v43 w =>
      px Try.prog (Instr.indexAt 71 v43 v37) w fun v45 w =>
      px Try.prog (Instr.fieldAt 75 v45 1) w fun v46 w =>
      px Try.prog (Instr.loadAt 3 v46) w fun v47 w =>
      px Try.prog (binSem BinOp.add 3 (Operand.tmp 51) (Operand.const (Value.int IntKind.i64 1)) v47 (Value.int IntKind.i64 1)) w fun v52 w =>
      px Try.prog (binSem BinOp.mul 3 (Operand.tmp 50) (Operand.tmp 52) (ρ 2) v52) w fun v53 w =>
      px Try.prog (binSem BinOp.add 3 (Operand.tmp 49) (Operand.tmp 53) v47 v53) w fun v54 w =>
      px Try.prog (Instr.buildSlice 57 1 #[(0, v54)]) w fun v55 w =>
      px Try.prog (bSem .append #[57, 57] 57 #[(ρ 8), v55]) w fun v56 w =>
      px Try.prog (binSem BinOp.add 3 (Operand.tmp 29) (Operand.const (Value.int IntKind.i64 1)) (ρ 9) (Value.int IntKind.i64 1)) w fun v30 w =>
      N1 (put (put (put (put (put (put (put (put (put (put (put (put (put (put (put (put (put (put (put (put (put (put (put (put (put (put (put (put (put (put (put (put (put (put (put (put ρ 25 (ρ 9)) 26 (ρ 1)) 27 v27) 28 v28) 31 (ρ 0)) 32 (ρ 1)) 33 (ρ 9)) 34 v34) 35 v35) 36 v36) 37 v37) 10 v37) 38 v37) 39 v39) 40 (ρ 0)) 41 v41) 42 v42) 43 v43) 44 v37) 45 v45) 46 v46) 47 v47) 11 v47) 48 (ρ 8)) 49 v47) 50 (ρ 2)) 51 v47) 52 v52) 53 v53) 54 v54) 55 v55) 56 v56) 8 v56) 29 (ρ 9)) 30 v30) 9 v30) w))
   (
    F37A k [1, 1, 1] (put (put (put (put ρ 25 (ρ 9)) 26 (ρ 1)) 27 v27) 28 v28) w)
theorem F37_1_eq (k : Value → World → Prop) (N1 : Env → World → Prop) (ρ : Env) (w : World) : F37A1 k N1 [] ρ w = F37_1 k N1 ρ w := by kernel_rfl
def F37_2 (k : Value → World → Prop) (ρ : Env) (w : World) : Prop :=
  ∃ S : World → Prop, S w.drew ∧ (fun w =>
  pq Try.prog S (bSem .len #[37] 3 #[(ρ 1)]) fun v59 =>
  pq Try.prog S (nilSem (ρ 0)) fun v61 =>
  pq Try.prog S (Instr.fieldAt 73 v61 0) fun v62 =>
  pq Try.prog S (Instr.loadAt 71 v62) fun v63 =>
  pq Try.prog S (bSem .len #[71] 3 #[v63]) fun v64 =>
  pq Try.prog S (binSem BinOp.eql 3 (Operand.tmp 59) (Operand.tmp 64) v59 v64) fun v65 =>
  k (.tuple #[(ρ 8), v65]) w) w.drew
theorem F37_2_eq (k : Value → World → Prop) (ρ : Env) (w : World) : F37A k [1, 1, 1] ρ w = F37_2 k ρ w := by kernel_rfl
theorem F37_in (a0 : Value) (a1 : Value) (a2 : Value) (w : World) (k : Value → World → Prop) (h : F37_0 a0 a1 a2 w k) : pFn Try.prog 37 [a0, a1, a2] w k :=
  pFn_of_at Try.mixed Try.func37 (by kernel_rfl) (by kernel_rfl) Try.ntmps37 (by kernel_rfl) (by kernel_rfl) (by simp) ((F37_0_eq a0 a1 a2 w k).mpr h)

/-! ## 43 freight/freightlaw5.names -/
noncomputable def F43B : Code := bodyOf Try.f43
def F43A (k : Value → World → Prop) (q : List Nat) (ρ : Env) (w : World) : Prop := At Try.prog 26 F43B (retQ Try.prog Try.f43.results.toList k) q ρ w
noncomputable def F43B1 : Code := sub F43B [1, 1, 0, 1, 0, 0]
def F43Q1 (k : Value → World → Prop) (N1 : Env → World → Prop) : Xt → Env → World → Prop := thenE N1 (contAt Try.prog 26 F43B (retQ Try.prog Try.f43.results.toList k) [1, 1, 0, 1, 0])
def F43A1 (k : Value → World → Prop) (N1 : Env → World → Prop) (q : List Nat) (ρ : Env) (w : World) : Prop := At Try.prog 26 F43B1 (F43Q1 k N1) q ρ w
def F43L1 (k : Value → World → Prop) (ρ : Env) (w : World) : Prop := LoopAt Try.prog 26 F43B (retQ Try.prog Try.f43.results.toList k) [1, 1, 0, 1, 0] ρ w
theorem F43L1_inv (k : Value → World → Prop) (I : Nat → Env → World → Prop) (round : ∀ m ρ w, I m ρ w → F43A1 k (fun ρ' w' => ∃ m', m' < m ∧ I m' ρ' w') [] ρ w) {m : Nat} {ρ : Env} {w : World} (h : I m ρ w) : F43L1 k ρ w :=
  LoopAt_inv Try.mixed (B := F43B) (Q := (retQ Try.prog Try.f43.results.toList k)) (p := [1, 1, 0, 1, 0]) (by kernel_rfl) (by kernel_rfl) I round h
def F43_0 (a0 : Value) (b1 : Value) (w : World) (k : Value → World → Prop) : Prop :=
  px Try.prog (bSem .len #[22] 3 #[a0]) w fun v7 w =>
  px Try.prog (bSem .len #[22] 3 #[b1]) w fun v9 w =>
  px Try.prog (binSem BinOp.neq 3 (Operand.tmp 7) (Operand.tmp 9) v7 v9) w fun v10 w =>
  pC v10 (
    k (Value.bool false) w)
   (
    F43L1 k (put (put (put (put (put (put (put (argEnv [a0, b1]) 4 (Value.bool false)) 6 a0) 7 v7) 8 b1) 9 v9) 10 v10) 5 (Value.int IntKind.i64 0)) w)
theorem F43_0_eq (a0 : Value) (b1 : Value) (w : World) (k : Value → World → Prop) : F43A k [] (argEnv [a0, b1]) w = F43_0 a0 b1 w k := by kernel_rfl
def F43_1 (k : Value → World → Prop) (N1 : Env → World → Prop) (ρ : Env) (w : World) : Prop :=
  px Try.prog (bSem .len #[22] 3 #[(ρ 0)]) w fun v13 w =>
  px Try.prog (binSem BinOp.lss 3 (Operand.tmp 11) (Operand.tmp 13) (ρ 5) v13) w fun v14 w =>
  pC v14 (
    ∃ S : World → Prop, S w.drew ∧ (fun w =>
    pq Try.prog S (Instr.indexAt 22 (ρ 0) (ρ 5)) fun v19 =>
    pq Try.prog S (Instr.loadAt 9 v19) fun v20 =>
    pq Try.prog S (Instr.indexAt 22 (ρ 1) (ρ 5)) fun v23 =>
    pq Try.prog S (Instr.loadAt 9 v23) fun v24 =>
    pq Try.prog S (binSem BinOp.neq 9 (Operand.tmp 20) (Operand.tmp 24) v20 v24) fun v25 =>
    pC v25 (
      k (Value.bool false) w)
     (
      px Try.prog (binSem BinOp.add 3 (Operand.tmp 15) (Operand.const (Value.int IntKind.i64 1)) (ρ 5) (Value.int IntKind.i64 1)) w fun v16 w =>
      N1 (put (put (put (put (put (put (put (put (put (put (put (put (put (put (put (put ρ 11 (ρ 5)) 12 (ρ 0)) 13 v13) 14 v14) 17 (ρ 0)) 18 (ρ 5)) 19 v19) 20 v20) 21 (ρ 1)) 22 (ρ 5)) 23 v23) 24 v24) 25 v25) 15 (ρ 5)) 16 v16) 5 v16) w)) w.drew)
   (
    F43A k [1, 1, 1] (put (put (put (put ρ 11 (ρ 5)) 12 (ρ 0)) 13 v13) 14 v14) w)
theorem F43_1_eq (k : Value → World → Prop) (N1 : Env → World → Prop) (ρ : Env) (w : World) : F43A1 k N1 [] ρ w = F43_1 k N1 ρ w := by kernel_rfl
def F43_2 (k : Value → World → Prop) (ρ : Env) (w : World) : Prop :=
  k (Value.bool true) w
theorem F43_2_eq (k : Value → World → Prop) (ρ : Env) (w : World) : F43A k [1, 1, 1] ρ w = F43_2 k ρ w := by kernel_rfl
theorem F43_in (a0 : Value) (b1 : Value) (w : World) (k : Value → World → Prop) (h : F43_0 a0 b1 w k) : pFn Try.prog 43 [a0, b1] w k :=
  pFn_of_at Try.mixed Try.func43 (by kernel_rfl) (by kernel_rfl) Try.ntmps43 (by kernel_rfl) (by kernel_rfl) (by simp) ((F43_0_eq a0 b1 w k).mpr h)

/-! ## 60 freight/freightlaw5.num -/
noncomputable def F60B : Code := bodyOf Try.f60
def F60A (k : Value → World → Prop) (q : List Nat) (ρ : Env) (w : World) : Prop := At Try.prog 4 F60B (retQ Try.prog Try.f60.results.toList k) q ρ w
def F60_0 (e0 : Value) (w : World) (k : Value → World → Prop) : Prop :=
  k e0 w
theorem F60_0_eq (e0 : Value) (w : World) (k : Value → World → Prop) : F60A k [] (argEnv [e0]) w = F60_0 e0 w k := by kernel_rfl
theorem F60_in (e0 : Value) (w : World) (k : Value → World → Prop) (h : F60_0 e0 w k) : pFn Try.prog 60 [e0] w k :=
  pFn_of_at Try.mixed Try.func60 (by kernel_rfl) (by kernel_rfl) Try.ntmps60 (by kernel_rfl) (by kernel_rfl) (by simp) ((F60_0_eq e0 w k).mpr h)

/-! ## 67 (*freight/freightlaw5.Rows).at -/
noncomputable def F67B : Code := bodyOf Try.f67
def F67A (k : Value → World → Prop) (q : List Nat) (ρ : Env) (w : World) : Prop := At Try.prog 26 F67B (retQ Try.prog Try.f67.results.toList k) q ρ w
noncomputable def F67B1 : Code := sub F67B [1, 0, 1, 0, 0]
def F67Q1 (k : Value → World → Prop) (N1 : Env → World → Prop) : Xt → Env → World → Prop := thenE N1 (contAt Try.prog 26 F67B (retQ Try.prog Try.f67.results.toList k) [1, 0, 1, 0])
def F67A1 (k : Value → World → Prop) (N1 : Env → World → Prop) (q : List Nat) (ρ : Env) (w : World) : Prop := At Try.prog 26 F67B1 (F67Q1 k N1) q ρ w
def F67L1 (k : Value → World → Prop) (ρ : Env) (w : World) : Prop := LoopAt Try.prog 26 F67B (retQ Try.prog Try.f67.results.toList k) [1, 0, 1, 0] ρ w
theorem F67L1_inv (k : Value → World → Prop) (I : Nat → Env → World → Prop) (round : ∀ m ρ w, I m ρ w → F67A1 k (fun ρ' w' => ∃ m', m' < m ∧ I m' ρ' w') [] ρ w) {m : Nat} {ρ : Env} {w : World} (h : I m ρ w) : F67L1 k ρ w :=
  LoopAt_inv Try.mixed (B := F67B) (Q := (retQ Try.prog Try.f67.results.toList k)) (p := [1, 0, 1, 0]) (by kernel_rfl) (by kernel_rfl) I round h
def F67_0 (r0 : Value) (name1 : Value) (w : World) (k : Value → World → Prop) : Prop :=
  F67L1 k (put (put (argEnv [r0, name1]) 4 (Value.int IntKind.i64 0)) 5 (Value.int IntKind.i64 0)) w
theorem F67_0_eq (r0 : Value) (name1 : Value) (w : World) (k : Value → World → Prop) : F67A k [] (argEnv [r0, name1]) w = F67_0 r0 name1 w k := by kernel_rfl
def F67_1 (k : Value → World → Prop) (N1 : Env → World → Prop) (ρ : Env) (w : World) : Prop :=
  px Try.prog (nilSem (ρ 0)) w fun v8 w =>
  px Try.prog (Instr.fieldAt 73 v8 0) w fun v9 w =>
  px Try.prog (Instr.loadAt 71 v9) w fun v10 w =>
  px Try.prog (bSem .len #[71] 3 #[v10]) w fun v11 w =>
  px Try.prog (binSem BinOp.lss 3 (Operand.tmp 6) (Operand.tmp 11) (ρ 5) v11) w fun v12 w =>
  pC v12 (
    px Try.prog (nilSem (ρ 0)) w fun v16 w =>
    px Try.prog (Instr.fieldAt 73 v16 0) w fun v17 w =>
    px Try.prog (Instr.loadAt 71 v17) w fun v18 w =>
    px Try.prog (Instr.indexAt 71 v18 (ρ 5)) w fun v20 w =>
    px Try.prog (Instr.fieldAt 75 v20 0) w fun v21 w =>
    px Try.prog (Instr.loadAt 9 v21) w fun v22 w =>
    px Try.prog (binSem BinOp.eql 9 (Operand.tmp 22) (Operand.tmp 23) v22 (ρ 1)) w fun v24 w =>
    pC v24 (
      k (ρ 5) w)
     (
      px Try.prog (binSem BinOp.add 3 (Operand.tmp 13) (Operand.const (Value.int IntKind.i64 1)) (ρ 5) (Value.int IntKind.i64 1)) w fun v14 w =>
      N1 (put (put (put (put (put (put (put (put (put (put (put (put (put (put (put (put (put (put (put (put ρ 6 (ρ 5)) 7 (ρ 0)) 8 v8) 9 v9) 10 v10) 11 v11) 12 v12) 15 (ρ 0)) 16 v16) 17 v17) 18 v18) 19 (ρ 5)) 20 v20) 21 v21) 22 v22) 23 (ρ 1)) 24 v24) 13 (ρ 5)) 14 v14) 5 v14) w))
   (
    F67A k [1, 1] (put (put (put (put (put (put (put ρ 6 (ρ 5)) 7 (ρ 0)) 8 v8) 9 v9) 10 v10) 11 v11) 12 v12) w)
theorem F67_1_eq (k : Value → World → Prop) (N1 : Env → World → Prop) (ρ : Env) (w : World) : F67A1 k N1 [] ρ w = F67_1 k N1 ρ w := by kernel_rfl
def F67_2 (k : Value → World → Prop) (ρ : Env) (w : World) : Prop :=
  k (Value.int IntKind.i64 (-1)) w
theorem F67_2_eq (k : Value → World → Prop) (ρ : Env) (w : World) : F67A k [1, 1] ρ w = F67_2 k ρ w := by kernel_rfl
theorem F67_in (r0 : Value) (name1 : Value) (w : World) (k : Value → World → Prop) (h : F67_0 r0 name1 w k) : pFn Try.prog 67 [r0, name1] w k :=
  pFn_of_at Try.mixed Try.func67 (by kernel_rfl) (by kernel_rfl) Try.ntmps67 (by kernel_rfl) (by kernel_rfl) (by simp) ((F67_0_eq r0 name1 w k).mpr h)

/-! ## 68 (*freight/freightlaw5.Rows).gone -/
noncomputable def F68B : Code := bodyOf Try.f68
def F68A (k : Value → World → Prop) (q : List Nat) (ρ : Env) (w : World) : Prop := At Try.prog 28 F68B (retQ Try.prog Try.f68.results.toList k) q ρ w
def F68_0 (r0 : Value) (name1 : Value) (w : World) (k : Value → World → Prop) : Prop :=
  pFn Try.prog 67 [r0, name1] w fun v7 w =>
  px Try.prog (binSem BinOp.geq 3 (Operand.tmp 8) (Operand.const (Value.int IntKind.i64 0)) v7 (Value.int IntKind.i64 0)) w fun v9 w =>
  pC v9 (
    ∃ S : World → Prop, S w.drew ∧ (fun w =>
    pq Try.prog S (nilSem r0) fun v12 =>
    pq Try.prog S (Instr.fieldAt 73 v12 0) fun v13 =>
    pq Try.prog S (Instr.loadAt 71 v13) fun v14 =>
    pq Try.prog S (Instr.sliceAt 71 v14 none (some v7) (some v7)) fun v17 =>
    pq Try.prog S (nilSem r0) fun v19 =>
    pq Try.prog S (Instr.fieldAt 73 v19 0) fun v20 =>
    pq Try.prog S (Instr.loadAt 71 v20) fun v21 =>
    pq Try.prog S (binSem BinOp.add 3 (Operand.tmp 22) (Operand.const (Value.int IntKind.i64 1)) v7 (Value.int IntKind.i64 1)) fun v23 =>
    pq Try.prog S (Instr.sliceAt 71 v21 (some v23) none none) fun v24 =>
    px Try.prog (bSem .append #[71, 71] 71 #[v17, v24]) w fun v25 w => S w ∧ (
    pq Try.prog S (nilSem r0) fun v26 =>
    pq Try.prog S (Instr.fieldAt 73 v26 0) fun v27 =>
    pu Try.prog (Instr.storeAt 71 v27 v25) w fun w => (
    k (.tuple #[]) w))) w.drew)
   (
    k (.tuple #[]) w)
theorem F68_0_eq (r0 : Value) (name1 : Value) (w : World) (k : Value → World → Prop) : F68A k [] (argEnv [r0, name1]) w = F68_0 r0 name1 w k := by kernel_rfl
theorem F68_in (r0 : Value) (name1 : Value) (w : World) (k : Value → World → Prop) (h : F68_0 r0 name1 w k) : pFn Try.prog 68 [r0, name1] w k :=
  pFn_of_at Try.mixed Try.func68 (by kernel_rfl) (by kernel_rfl) Try.ntmps68 (by kernel_rfl) (by kernel_rfl) (by simp) ((F68_0_eq r0 name1 w k).mpr h)

end Go.Proofs.Ytcdcojpfealppaa
