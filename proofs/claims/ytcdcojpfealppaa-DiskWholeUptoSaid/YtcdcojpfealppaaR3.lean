/- PRINTED by wip/tools/redprint.py out of Lean's own print of the functions: their reduced forms; each is proved to be Go's code by the kernel. -/
import Derived.Test.YtcdcojpfealppaaXRed
import Derived.Test.YtcdcojpfealppaaProg
import Derived.Test.YtcdcojpfealppaaMix
set_option linter.unusedVariables false
set_option maxRecDepth 100000
namespace Go.Proofs.Ytcdcojpfealppaa
open Go Go.Proofs Go.Proofs.XRed

/-! ## 3 freight/freightlaw5.DiskFront -/
noncomputable def F3B : Code := bodyOf Try.f3
def F3A (k : Value → World → Prop) (q : List Nat) (ρ : Env) (w : World) : Prop := At Try.prog 161 F3B (retQ Try.prog Try.f3.results.toList k) q ρ w
noncomputable def F3B1 : Code := sub F3B [1, 1, 1, 1, 1, 0, 1, 0, 0]
def F3Q1 (k : Value → World → Prop) (N1 : Env → World → Prop) : Xt → Env → World → Prop := thenE N1 (contAt Try.prog 161 F3B (retQ Try.prog Try.f3.results.toList k) [1, 1, 1, 1, 1, 0, 1, 0])
def F3A1 (k : Value → World → Prop) (N1 : Env → World → Prop) (q : List Nat) (ρ : Env) (w : World) : Prop := At Try.prog 161 F3B1 (F3Q1 k N1) q ρ w
def F3L1 (k : Value → World → Prop) (ρ : Env) (w : World) : Prop := LoopAt Try.prog 161 F3B (retQ Try.prog Try.f3.results.toList k) [1, 1, 1, 1, 1, 0, 1, 0] ρ w
theorem F3L1_inv (k : Value → World → Prop) (I : Nat → Env → World → Prop) (round : ∀ m ρ w, I m ρ w → F3A1 k (fun ρ' w' => ∃ m', m' < m ∧ I m' ρ' w') [] ρ w) {m : Nat} {ρ : Env} {w : World} (h : I m ρ w) : F3L1 k ρ w :=
  LoopAt_inv Try.mixed (B := F3B) (Q := (retQ Try.prog Try.f3.results.toList k)) (p := [1, 1, 1, 1, 1, 0, 1, 0]) (by kernel_rfl) (by kernel_rfl) I round h
noncomputable def F3B2 : Code := sub F3B [1, 1, 1, 1, 1, 1, 1, 1, 0, 1, 0, 0]
def F3Q2 (k : Value → World → Prop) (N2 : Env → World → Prop) : Xt → Env → World → Prop := thenE N2 (contAt Try.prog 161 F3B (retQ Try.prog Try.f3.results.toList k) [1, 1, 1, 1, 1, 1, 1, 1, 0, 1, 0])
def F3A2 (k : Value → World → Prop) (N2 : Env → World → Prop) (q : List Nat) (ρ : Env) (w : World) : Prop := At Try.prog 161 F3B2 (F3Q2 k N2) q ρ w
def F3L2 (k : Value → World → Prop) (ρ : Env) (w : World) : Prop := LoopAt Try.prog 161 F3B (retQ Try.prog Try.f3.results.toList k) [1, 1, 1, 1, 1, 1, 1, 1, 0, 1, 0] ρ w
theorem F3L2_inv (k : Value → World → Prop) (I : Nat → Env → World → Prop) (round : ∀ m ρ w, I m ρ w → F3A2 k (fun ρ' w' => ∃ m', m' < m ∧ I m' ρ' w') [] ρ w) {m : Nat} {ρ : Env} {w : World} (h : I m ρ w) : F3L2 k ρ w :=
  LoopAt_inv Try.mixed (B := F3B) (Q := (retQ Try.prog Try.f3.results.toList k)) (p := [1, 1, 1, 1, 1, 1, 1, 1, 0, 1, 0]) (by kernel_rfl) (by kernel_rfl) I round h
noncomputable def F3B3 : Code := sub F3B [1, 1, 1, 1, 1, 1, 1, 1, 1, 1, 1, 0, 1, 0, 0]
def F3Q3 (k : Value → World → Prop) (N3 : Env → World → Prop) : Xt → Env → World → Prop := thenE N3 (contAt Try.prog 161 F3B (retQ Try.prog Try.f3.results.toList k) [1, 1, 1, 1, 1, 1, 1, 1, 1, 1, 1, 0, 1, 0])
def F3A3 (k : Value → World → Prop) (N3 : Env → World → Prop) (q : List Nat) (ρ : Env) (w : World) : Prop := At Try.prog 161 F3B3 (F3Q3 k N3) q ρ w
def F3L3 (k : Value → World → Prop) (ρ : Env) (w : World) : Prop := LoopAt Try.prog 161 F3B (retQ Try.prog Try.f3.results.toList k) [1, 1, 1, 1, 1, 1, 1, 1, 1, 1, 1, 0, 1, 0] ρ w
theorem F3L3_inv (k : Value → World → Prop) (I : Nat → Env → World → Prop) (round : ∀ m ρ w, I m ρ w → F3A3 k (fun ρ' w' => ∃ m', m' < m ∧ I m' ρ' w') [] ρ w) {m : Nat} {ρ : Env} {w : World} (h : I m ρ w) : F3L3 k ρ w :=
  LoopAt_inv Try.mixed (B := F3B) (Q := (retQ Try.prog Try.f3.results.toList k)) (p := [1, 1, 1, 1, 1, 1, 1, 1, 1, 1, 1, 0, 1, 0]) (by kernel_rfl) (by kernel_rfl) I round h
def F3_0 (a0 : Value) (a1 : Value) (a2 : Value) (w : World) (k : Value → World → Prop) : Prop :=
  px Try.prog (bSem .len #[22] 3 #[a0]) w fun v17 w =>
  px Try.prog (binSem BinOp.gtr 3 (Operand.tmp 17) (Operand.const (Value.int IntKind.i64 40)) v17 (Value.int IntKind.i64 40)) w fun v18 w =>
  pG v18 false (fun k => k a1 w) (w := w) (next := fun v20 w =>
  pG v18 false (fun k => px Try.prog (bSem .len #[23] 3 #[v20]) w k) (w := w) (next := fun v21 w =>
  pG v18 false (fun k => px Try.prog (binSem BinOp.gtr 3 (Operand.tmp 21) (Operand.const (Value.int IntKind.i64 60)) v21 (Value.int IntKind.i64 60)) w k) (w := w) (next := fun v22 w =>
  px Try.prog (pickSem v18 (Value.bool true) v22) w fun v23 w =>
  pC v23 (
    k (Value.bool true) w)
   (
    pFn Try.prog 9 [(Value.int IntKind.i64 1000)] w fun v25 w =>
    px Try.prog (Instr.extract v25 0) w fun v26 w =>
    px Try.prog (Instr.extract v25 1) w fun v27 w =>
    pFn Try.prog 9 [(Value.int IntKind.i64 1000)] w fun v29 w =>
    px Try.prog (Instr.extract v29 0) w fun v30 w =>
    px Try.prog (Instr.extract v29 1) w fun v31 w =>
    px Try.prog (binSem BinOp.neq 25 (Operand.tmp 32) (Operand.const (Value.int IntKind.i64 0)) v27 (Value.int IntKind.i64 0)) w fun v33 w =>
    pG v33 false (fun k => k v31 w) (w := w) (next := fun v35 w =>
    pG v33 false (fun k => px Try.prog (binSem BinOp.neq 25 (Operand.tmp 35) (Operand.const (Value.int IntKind.i64 0)) v35 (Value.int IntKind.i64 0)) w k) (w := w) (next := fun v36 w =>
    px Try.prog (pickSem v33 (Value.bool true) v36) w fun v37 w =>
    pG v37 false (fun k => k v26 w) (w := w) (next := fun v39 w =>
    pG v37 false (fun k => px Try.prog (binSem BinOp.eql 24 (Operand.tmp 39) (Operand.const (Value.pointer none)) v39 (Value.pointer none)) w k) (w := w) (next := fun v40 w =>
    px Try.prog (pickSem v37 (Value.bool true) v40) w fun v41 w =>
    pG v41 false (fun k => k v30 w) (w := w) (next := fun v43 w =>
    pG v41 false (fun k => px Try.prog (binSem BinOp.eql 24 (Operand.tmp 43) (Operand.const (Value.pointer none)) v43 (Value.pointer none)) w k) (w := w) (next := fun v44 w =>
    px Try.prog (pickSem v41 (Value.bool true) v44) w fun v45 w =>
    pC v45 (
      k (Value.bool false) w)
     (
      F3L1 k (put (put (put (put (put (put (put (put (put (put (put (put (put (put (put (put (put (put (put (put (put (put (put (put (put (put (put (put (put (put (put (put (put (put (put (put (argEnv [a0, a1, a2]) 6 (Value.bool false)) 16 a0) 17 v17) 18 v18) 19 v18) 20 v20) 21 v21) 22 v22) 23 v23) 25 v25) 24 v25) 26 v26) 27 v27) 7 v26) 8 v27) 29 v29) 28 v29) 30 v30) 31 v31) 9 v30) 10 v31) 32 v27) 33 v33) 34 v33) 35 v35) 36 v36) 37 v37) 38 v37) 39 v39) 40 v40) 41 v41) 42 v41) 43 v43) 44 v44) 45 v45) 11 (Value.int IntKind.i64 0)) w)))))))))))
theorem F3_0_eq (a0 : Value) (a1 : Value) (a2 : Value) (w : World) (k : Value → World → Prop) : F3A k [] (argEnv [a0, a1, a2]) w = F3_0 a0 a1 a2 w k := by kernel_rfl
def F3_1 (k : Value → World → Prop) (N1 : Env → World → Prop) (ρ : Env) (w : World) : Prop :=
  px Try.prog (bSem .len #[22] 3 #[(ρ 0)]) w fun v48 w =>
  px Try.prog (binSem BinOp.lss 3 (Operand.tmp 46) (Operand.tmp 48) (ρ 11) v48) w fun v49 w =>
  pC v49 (
    px Try.prog (Instr.indexAt 22 (ρ 0) (ρ 11)) w fun v55 w =>
    px Try.prog (Instr.loadAt 9 v55) w fun v56 w =>
    pFn Try.prog 10 [(ρ 7), v56] w fun v57 w =>
    px Try.prog (binSem BinOp.eql 25 (Operand.tmp 57) (Operand.const (Value.int IntKind.i64 0)) v57 (Value.int IntKind.i64 0)) w fun v58 w =>
    pC v58 (
      px Try.prog (Instr.indexAt 22 (ρ 0) (ρ 11)) w fun v62 w =>
      px Try.prog (Instr.loadAt 9 v62) w fun v63 w =>
      px Try.prog (convert 3 5 (ρ 11)) w fun v65 w =>
      px Try.prog (Instr.buildSlice 30 1 #[(0, v65)]) w fun v66 w =>
      pFn Try.prog 11 [(ρ 7), v63, v66] w fun v67 w =>
      px Try.prog (Instr.indexAt 22 (ρ 0) (ρ 11)) w fun v71 w =>
      px Try.prog (Instr.loadAt 9 v71) w fun v72 w =>
      pFn Try.prog 12 [(ρ 7), v72] w fun v73 w =>
      px Try.prog (Instr.indexAt 22 (ρ 0) (ρ 11)) w fun v77 w =>
      px Try.prog (Instr.loadAt 9 v77) w fun v78 w =>
      pFn Try.prog 10 [(ρ 9), v78] w fun v79 w =>
      px Try.prog (Instr.indexAt 22 (ρ 0) (ρ 11)) w fun v83 w =>
      px Try.prog (Instr.loadAt 9 v83) w fun v84 w =>
      px Try.prog (convert 3 5 (ρ 11)) w fun v86 w =>
      px Try.prog (Instr.buildSlice 30 1 #[(0, v86)]) w fun v87 w =>
      pFn Try.prog 11 [(ρ 9), v84, v87] w fun v88 w =>
      F3A1 k N1 [1, 1] (put (put (put (put (put (put (put (put (put (put (put (put (put (put (put (put (put (put (put (put (put (put (put (put (put (put (put (put (put (put (put (put (put (put (put (put (put (put (put (put (put ρ 46 (ρ 11)) 47 (ρ 0)) 48 v48) 49 v49) 52 (ρ 7)) 53 (ρ 0)) 54 (ρ 11)) 55 v55) 56 v56) 57 v57) 58 v58) 59 (ρ 7)) 60 (ρ 0)) 61 (ρ 11)) 62 v62) 63 v63) 64 (ρ 11)) 65 v65) 66 v66) 67 v67) 68 (ρ 7)) 69 (ρ 0)) 70 (ρ 11)) 71 v71) 72 v72) 73 v73) 74 (ρ 9)) 75 (ρ 0)) 76 (ρ 11)) 77 v77) 78 v78) 79 v79) 80 (ρ 9)) 81 (ρ 0)) 82 (ρ 11)) 83 v83) 84 v84) 85 (ρ 11)) 86 v86) 87 v87) 88 v88) w)
     (
      F3A1 k N1 [1, 1] (put (put (put (put (put (put (put (put (put (put (put ρ 46 (ρ 11)) 47 (ρ 0)) 48 v48) 49 v49) 52 (ρ 7)) 53 (ρ 0)) 54 (ρ 11)) 55 v55) 56 v56) 57 v57) 58 v58) w))
   (
    F3A k [1, 1, 1, 1, 1, 1] (put (put (put (put ρ 46 (ρ 11)) 47 (ρ 0)) 48 v48) 49 v49) w)
theorem F3_1_eq (k : Value → World → Prop) (N1 : Env → World → Prop) (ρ : Env) (w : World) : F3A1 k N1 [] ρ w = F3_1 k N1 ρ w := by kernel_rfl
def F3_2 (k : Value → World → Prop) (N1 : Env → World → Prop) (ρ : Env) (w : World) : Prop :=
  px Try.prog (binSem BinOp.add 3 (Operand.tmp 50) (Operand.const (Value.int IntKind.i64 1)) (ρ 11) (Value.int IntKind.i64 1)) w fun v51 w =>
  N1 (put (put (put ρ 50 (ρ 11)) 51 v51) 11 v51) w
theorem F3_2_eq (k : Value → World → Prop) (N1 : Env → World → Prop) (ρ : Env) (w : World) : F3A1 k N1 [1, 1] ρ w = F3_2 k N1 ρ w := by kernel_rfl
def F3_3 (k : Value → World → Prop) (ρ : Env) (w : World) : Prop :=
  pFn Try.prog 13 [(ρ 7)] w fun v90 w =>
  px Try.prog (binSem BinOp.neq 25 (Operand.tmp 90) (Operand.const (Value.int IntKind.i64 0)) v90 (Value.int IntKind.i64 0)) w fun v91 w =>
  pC v91 (
    k (Value.bool false) w)
   (
    F3L2 k (put (put (put (put (put ρ 89 (ρ 7)) 90 v90) 91 v91) 12 (Value.slice none 0 0)) 13 (Value.int IntKind.i64 0)) w)
theorem F3_3_eq (k : Value → World → Prop) (ρ : Env) (w : World) : F3A k [1, 1, 1, 1, 1, 1] ρ w = F3_3 k ρ w := by kernel_rfl
def F3_4 (k : Value → World → Prop) (N2 : Env → World → Prop) (ρ : Env) (w : World) : Prop :=
  px Try.prog (bSem .len #[23] 3 #[(ρ 1)]) w fun v94 w =>
  px Try.prog (binSem BinOp.lss 3 (Operand.tmp 92) (Operand.tmp 94) (ρ 13) v94) w fun v95 w =>
  pC v95 (
    ∃ S : World → Prop, S w.drew ∧ (fun w =>
    pq Try.prog S (Instr.indexAt 23 (ρ 1) (ρ 13)) fun v101 =>
    pq Try.prog S (Instr.loadAt 34 v101) fun v102 =>
    pFn Try.prog 14 [(ρ 7), v102] w fun v103 w => S w ∧ (
    pq Try.prog S (binSem BinOp.eql 25 (Operand.tmp 103) (Operand.const (Value.int IntKind.i64 0)) v103 (Value.int IntKind.i64 0)) fun v104 =>
    pGq v104 true (fun k => k (ρ 1)) (next := fun v106 =>
    pGq v104 true (fun k => k (ρ 13)) (next := fun v107 =>
    pGq v104 true (fun k => pq Try.prog S (Instr.indexAt 23 v106 v107) k) (next := fun v108 =>
    pGq v104 true (fun k => pq Try.prog S (Instr.fieldAt 34 v108 0) k) (next := fun v109 =>
    pGq v104 true (fun k => pq Try.prog S (Instr.loadAt 9 v109) k) (next := fun v110 =>
    pGq v104 true (fun k => k (ρ 1)) (next := fun v111 =>
    pGq v104 true (fun k => k (ρ 13)) (next := fun v112 =>
    pGq v104 true (fun k => pq Try.prog S (Instr.indexAt 23 v111 v112) k) (next := fun v113 =>
    pGq v104 true (fun k => pq Try.prog S (Instr.fieldAt 34 v113 1) k) (next := fun v114 =>
    pGq v104 true (fun k => pq Try.prog S (Instr.loadAt 9 v114) k) (next := fun v115 =>
    pGq v104 true (fun k => pq Try.prog S (binSem BinOp.neq 9 (Operand.tmp 110) (Operand.tmp 115) v110 v115) k) (next := fun v116 =>
    pq Try.prog S (pickSem v104 v116 (Value.bool false)) fun v117 =>
    pC v117 (
      px Try.prog (Instr.indexAt 23 (ρ 1) (ρ 13)) w fun v121 w =>
      px Try.prog (Instr.loadAt 34 v121) w fun v122 w =>
      px Try.prog (Instr.buildSlice 23 1 #[(0, v122)]) w fun v123 w =>
      px Try.prog (bSem .append #[23, 23] 23 #[(ρ 12), v123]) w fun v124 w =>
      F3A2 k N2 [1, 1] (put (put (put (put (put (put (put (put (put (put (put (put (put (put (put (put (put (put (put (put (put (put (put (put (put (put (put (put (put (put (put (put ρ 92 (ρ 13)) 93 (ρ 1)) 94 v94) 95 v95) 98 (ρ 7)) 99 (ρ 1)) 100 (ρ 13)) 101 v101) 102 v102) 103 v103) 104 v104) 105 v104) 106 v106) 107 v107) 108 v108) 109 v109) 110 v110) 111 v111) 112 v112) 113 v113) 114 v114) 115 v115) 116 v116) 117 v117) 118 (ρ 12)) 119 (ρ 1)) 120 (ρ 13)) 121 v121) 122 v122) 123 v123) 124 v124) 12 v124) w)
     (
      F3A2 k N2 [1, 1] (put (put (put (put (put (put (put (put (put (put (put (put (put (put (put (put (put (put (put (put (put (put (put (put ρ 92 (ρ 13)) 93 (ρ 1)) 94 v94) 95 v95) 98 (ρ 7)) 99 (ρ 1)) 100 (ρ 13)) 101 v101) 102 v102) 103 v103) 104 v104) 105 v104) 106 v106) 107 v107) 108 v108) 109 v109) 110 v110) 111 v111) 112 v112) 113 v113) 114 v114) 115 v115) 116 v116) 117 v117) w)))))))))))))) w.drew)
   (
    F3A k [1, 1, 1, 1, 1, 1, 1, 1, 1] (put (put (put (put ρ 92 (ρ 13)) 93 (ρ 1)) 94 v94) 95 v95) w)
theorem F3_4_eq (k : Value → World → Prop) (N2 : Env → World → Prop) (ρ : Env) (w : World) : F3A2 k N2 [] ρ w = F3_4 k N2 ρ w := by kernel_rfl
def F3_5 (k : Value → World → Prop) (N2 : Env → World → Prop) (ρ : Env) (w : World) : Prop :=
  px Try.prog (binSem BinOp.add 3 (Operand.tmp 96) (Operand.const (Value.int IntKind.i64 1)) (ρ 13) (Value.int IntKind.i64 1)) w fun v97 w =>
  N2 (put (put (put ρ 96 (ρ 13)) 97 v97) 13 v97) w
theorem F3_5_eq (k : Value → World → Prop) (N2 : Env → World → Prop) (ρ : Env) (w : World) : F3A2 k N2 [1, 1] ρ w = F3_5 k N2 ρ w := by kernel_rfl
def F3_6 (k : Value → World → Prop) (ρ : Env) (w : World) : Prop :=
  px Try.prog (bSem .len #[23] 3 #[(ρ 12)]) w fun v127 w =>
  px Try.prog (binSem BinOp.add 3 (Operand.tmp 127) (Operand.const (Value.int IntKind.i64 1)) v127 (Value.int IntKind.i64 1)) w fun v128 w =>
  px Try.prog (binSem BinOp.rem 3 (Operand.tmp 125) (Operand.tmp 128) (ρ 2) v128) w fun v129 w =>
  px Try.prog (binSem BinOp.lss 3 (Operand.tmp 130) (Operand.const (Value.int IntKind.i64 0)) v129 (Value.int IntKind.i64 0)) w fun v131 w =>
  pC v131 (
    px Try.prog (bSem .len #[23] 3 #[(ρ 12)]) w fun v134 w =>
    px Try.prog (binSem BinOp.add 3 (Operand.tmp 132) (Operand.tmp 134) v129 v134) w fun v135 w =>
    px Try.prog (binSem BinOp.add 3 (Operand.tmp 135) (Operand.const (Value.int IntKind.i64 1)) v135 (Value.int IntKind.i64 1)) w fun v136 w =>
    F3A k [1, 1, 1, 1, 1, 1, 1, 1, 1, 1, 1] (put (put (put (put (put (put (put (put (put (put (put (put (put (put ρ 125 (ρ 2)) 126 (ρ 12)) 127 v127) 128 v128) 129 v129) 14 v129) 130 v129) 131 v131) 132 v129) 133 (ρ 12)) 134 v134) 135 v135) 136 v136) 14 v136) w)
   (
    F3A k [1, 1, 1, 1, 1, 1, 1, 1, 1, 1, 1] (put (put (put (put (put (put (put (put ρ 125 (ρ 2)) 126 (ρ 12)) 127 v127) 128 v128) 129 v129) 14 v129) 130 v129) 131 v131) w)
theorem F3_6_eq (k : Value → World → Prop) (ρ : Env) (w : World) : F3A k [1, 1, 1, 1, 1, 1, 1, 1, 1] ρ w = F3_6 k ρ w := by kernel_rfl
def F3_7 (k : Value → World → Prop) (ρ : Env) (w : World) : Prop :=
  F3L3 k (put ρ 15 (Value.int IntKind.i64 0)) w
theorem F3_7_eq (k : Value → World → Prop) (ρ : Env) (w : World) : F3A k [1, 1, 1, 1, 1, 1, 1, 1, 1, 1, 1] ρ w = F3_7 k ρ w := by kernel_rfl
def F3_8 (k : Value → World → Prop) (N3 : Env → World → Prop) (ρ : Env) (w : World) : Prop :=
  px Try.prog (binSem BinOp.lss 3 (Operand.tmp 137) (Operand.tmp 138) (ρ 15) (ρ 14)) w fun v139 w =>
  pC v139 (
    px Try.prog (Instr.indexAt 23 (ρ 12) (ρ 15)) w fun v145 w =>
    px Try.prog (Instr.loadAt 34 v145) w fun v146 w =>
    pFn Try.prog 14 [(ρ 9), v146] w fun v147 w =>
    px Try.prog (binSem BinOp.neq 25 (Operand.tmp 147) (Operand.const (Value.int IntKind.i64 0)) v147 (Value.int IntKind.i64 0)) w fun v148 w =>
    pC v148 (
      k (Value.bool false) w)
     (
      px Try.prog (binSem BinOp.add 3 (Operand.tmp 140) (Operand.const (Value.int IntKind.i64 1)) (ρ 15) (Value.int IntKind.i64 1)) w fun v141 w =>
      N3 (put (put (put (put (put (put (put (put (put (put (put (put (put ρ 137 (ρ 15)) 138 (ρ 14)) 139 v139) 142 (ρ 9)) 143 (ρ 12)) 144 (ρ 15)) 145 v145) 146 v146) 147 v147) 148 v148) 140 (ρ 15)) 141 v141) 15 v141) w))
   (
    F3A k [1, 1, 1, 1, 1, 1, 1, 1, 1, 1, 1, 1] (put (put (put ρ 137 (ρ 15)) 138 (ρ 14)) 139 v139) w)
theorem F3_8_eq (k : Value → World → Prop) (N3 : Env → World → Prop) (ρ : Env) (w : World) : F3A3 k N3 [] ρ w = F3_8 k N3 ρ w := by kernel_rfl
def F3_9 (k : Value → World → Prop) (ρ : Env) (w : World) : Prop :=
  px Try.prog (Instr.buildSlice 57 1 #[(0, (ρ 2))]) w fun v151 w =>
  pFn Try.prog 15 [(ρ 7), v151] w fun v152 w =>
  pFn Try.prog 17 [(ρ 7)] w fun v154 w =>
  pFn Try.prog 17 [(ρ 9)] w fun v156 w =>
  pFn Try.prog 16 [v154, v156] w fun v157 w =>
  pG v157 true (fun k => pFn Try.prog 18 [] w k) (w := w) (next := fun v159 w =>
  px Try.prog (pickSem v157 v159 (Value.bool false)) w fun v160 w =>
  k v160 w)
theorem F3_9_eq (k : Value → World → Prop) (ρ : Env) (w : World) : F3A k [1, 1, 1, 1, 1, 1, 1, 1, 1, 1, 1, 1] ρ w = F3_9 k ρ w := by kernel_rfl
theorem F3_in (a0 : Value) (a1 : Value) (a2 : Value) (w : World) (k : Value → World → Prop) (h : F3_0 a0 a1 a2 w k) : pFn Try.prog 3 [a0, a1, a2] w k :=
  pFn_of_at Try.mixed Try.func3 (by kernel_rfl) (by kernel_rfl) Try.ntmps3 (by kernel_rfl) (by kernel_rfl) (by simp) ((F3_0_eq a0 a1 a2 w k).mpr h)

/-! ## 4 freight/freightlaw5.DiskTorn -/
noncomputable def F4B : Code := bodyOf Try.f4
def F4A (k : Value → World → Prop) (q : List Nat) (ρ : Env) (w : World) : Prop := At Try.prog 279 F4B (retQ Try.prog Try.f4.results.toList k) q ρ w
noncomputable def F4B1 : Code := sub F4B [1, 1, 0, 1, 0, 0]
def F4Q1 (k : Value → World → Prop) (N1 : Env → World → Prop) : Xt → Env → World → Prop := thenE N1 (contAt Try.prog 279 F4B (retQ Try.prog Try.f4.results.toList k) [1, 1, 0, 1, 0])
def F4A1 (k : Value → World → Prop) (N1 : Env → World → Prop) (q : List Nat) (ρ : Env) (w : World) : Prop := At Try.prog 279 F4B1 (F4Q1 k N1) q ρ w
def F4L1 (k : Value → World → Prop) (ρ : Env) (w : World) : Prop := LoopAt Try.prog 279 F4B (retQ Try.prog Try.f4.results.toList k) [1, 1, 0, 1, 0] ρ w
theorem F4L1_inv (k : Value → World → Prop) (I : Nat → Env → World → Prop) (round : ∀ m ρ w, I m ρ w → F4A1 k (fun ρ' w' => ∃ m', m' < m ∧ I m' ρ' w') [] ρ w) {m : Nat} {ρ : Env} {w : World} (h : I m ρ w) : F4L1 k ρ w :=
  LoopAt_inv Try.mixed (B := F4B) (Q := (retQ Try.prog Try.f4.results.toList k)) (p := [1, 1, 0, 1, 0]) (by kernel_rfl) (by kernel_rfl) I round h
noncomputable def F4B2 : Code := sub F4B [1, 1, 1, 1, 1, 1, 1, 1, 1, 1, 0, 1, 0, 0]
def F4Q2 (k : Value → World → Prop) (N2 : Env → World → Prop) : Xt → Env → World → Prop := thenE N2 (contAt Try.prog 279 F4B (retQ Try.prog Try.f4.results.toList k) [1, 1, 1, 1, 1, 1, 1, 1, 1, 1, 0, 1, 0])
def F4A2 (k : Value → World → Prop) (N2 : Env → World → Prop) (q : List Nat) (ρ : Env) (w : World) : Prop := At Try.prog 279 F4B2 (F4Q2 k N2) q ρ w
def F4L2 (k : Value → World → Prop) (ρ : Env) (w : World) : Prop := LoopAt Try.prog 279 F4B (retQ Try.prog Try.f4.results.toList k) [1, 1, 1, 1, 1, 1, 1, 1, 1, 1, 0, 1, 0] ρ w
theorem F4L2_inv (k : Value → World → Prop) (I : Nat → Env → World → Prop) (round : ∀ m ρ w, I m ρ w → F4A2 k (fun ρ' w' => ∃ m', m' < m ∧ I m' ρ' w') [] ρ w) {m : Nat} {ρ : Env} {w : World} (h : I m ρ w) : F4L2 k ρ w :=
  LoopAt_inv Try.mixed (B := F4B) (Q := (retQ Try.prog Try.f4.results.toList k)) (p := [1, 1, 1, 1, 1, 1, 1, 1, 1, 1, 0, 1, 0]) (by kernel_rfl) (by kernel_rfl) I round h
noncomputable def F4B3 : Code := sub F4B [1, 1, 1, 1, 1, 1, 1, 1, 1, 1, 1, 1, 1, 1, 0, 1, 0, 0]
def F4Q3 (k : Value → World → Prop) (N3 : Env → World → Prop) : Xt → Env → World → Prop := thenE N3 (contAt Try.prog 279 F4B (retQ Try.prog Try.f4.results.toList k) [1, 1, 1, 1, 1, 1, 1, 1, 1, 1, 1, 1, 1, 1, 0, 1, 0])
def F4A3 (k : Value → World → Prop) (N3 : Env → World → Prop) (q : List Nat) (ρ : Env) (w : World) : Prop := At Try.prog 279 F4B3 (F4Q3 k N3) q ρ w
def F4L3 (k : Value → World → Prop) (ρ : Env) (w : World) : Prop := LoopAt Try.prog 279 F4B (retQ Try.prog Try.f4.results.toList k) [1, 1, 1, 1, 1, 1, 1, 1, 1, 1, 1, 1, 1, 1, 0, 1, 0] ρ w
theorem F4L3_inv (k : Value → World → Prop) (I : Nat → Env → World → Prop) (round : ∀ m ρ w, I m ρ w → F4A3 k (fun ρ' w' => ∃ m', m' < m ∧ I m' ρ' w') [] ρ w) {m : Nat} {ρ : Env} {w : World} (h : I m ρ w) : F4L3 k ρ w :=
  LoopAt_inv Try.mixed (B := F4B) (Q := (retQ Try.prog Try.f4.results.toList k)) (p := [1, 1, 1, 1, 1, 1, 1, 1, 1, 1, 1, 1, 1, 1, 0, 1, 0]) (by kernel_rfl) (by kernel_rfl) I round h
def F4_0 (a0 : Value) (a1 : Value) (a2 : Value) (a3 : Value) (a4 : Value) (w : World) (k : Value → World → Prop) : Prop :=
  px Try.prog (bSem .len #[30] 3 #[a0]) w fun v28 w =>
  F4L1 k (put (put (put (put (put (argEnv [a0, a1, a2, a3, a4]) 10 (Value.bool false)) 27 a0) 28 v28) 11 v28) 12 (Value.int IntKind.i64 0)) w
theorem F4_0_eq (a0 : Value) (a1 : Value) (a2 : Value) (a3 : Value) (a4 : Value) (w : World) (k : Value → World → Prop) : F4A k [] (argEnv [a0, a1, a2, a3, a4]) w = F4_0 a0 a1 a2 a3 a4 w k := by kernel_rfl
def F4_1 (k : Value → World → Prop) (N1 : Env → World → Prop) (ρ : Env) (w : World) : Prop :=
  px Try.prog (bSem .len #[41] 3 #[(ρ 1)]) w fun v31 w =>
  px Try.prog (binSem BinOp.lss 3 (Operand.tmp 29) (Operand.tmp 31) (ρ 12) v31) w fun v32 w =>
  pC v32 (
    px Try.prog (Instr.indexAt 41 (ρ 1) (ρ 12)) w fun v38 w =>
    px Try.prog (Instr.fieldAt 43 v38 2) w fun v39 w =>
    px Try.prog (Instr.loadAt 30 v39) w fun v40 w =>
    px Try.prog (bSem .len #[30] 3 #[v40]) w fun v41 w =>
    px Try.prog (binSem BinOp.add 3 (Operand.tmp 35) (Operand.tmp 41) (ρ 11) v41) w fun v42 w =>
    px Try.prog (binSem BinOp.add 3 (Operand.tmp 42) (Operand.const (Value.int IntKind.i64 1)) v42 (Value.int IntKind.i64 1)) w fun v43 w =>
    px Try.prog (binSem BinOp.gtr 3 (Operand.tmp 44) (Operand.const (Value.int IntKind.i64 100000)) v43 (Value.int IntKind.i64 100000)) w fun v45 w =>
    pC v45 (
      k (Value.bool true) w)
     (
      px Try.prog (binSem BinOp.add 3 (Operand.tmp 33) (Operand.const (Value.int IntKind.i64 1)) (ρ 12) (Value.int IntKind.i64 1)) w fun v34 w =>
      N1 (put (put (put (put (put (put (put (put (put (put (put (put (put (put (put (put (put (put (put ρ 29 (ρ 12)) 30 (ρ 1)) 31 v31) 32 v32) 35 (ρ 11)) 36 (ρ 1)) 37 (ρ 12)) 38 v38) 39 v39) 40 v40) 41 v41) 42 v42) 43 v43) 11 v43) 44 v43) 45 v45) 33 (ρ 12)) 34 v34) 12 v34) w))
   (
    F4A k [1, 1, 1] (put (put (put (put ρ 29 (ρ 12)) 30 (ρ 1)) 31 v31) 32 v32) w)
theorem F4_1_eq (k : Value → World → Prop) (N1 : Env → World → Prop) (ρ : Env) (w : World) : F4A1 k N1 [] ρ w = F4_1 k N1 ρ w := by kernel_rfl
def F4_2 (k : Value → World → Prop) (ρ : Env) (w : World) : Prop :=
  px Try.prog (bSem .len #[41] 3 #[(ρ 1)]) w fun v47 w =>
  px Try.prog (binSem BinOp.gtr 3 (Operand.tmp 47) (Operand.const (Value.int IntKind.i64 200)) v47 (Value.int IntKind.i64 200)) w fun v48 w =>
  pG v48 false (fun k => k (ρ 0) w) (w := w) (next := fun v50 w =>
  pG v48 false (fun k => px Try.prog (bSem .len #[30] 3 #[v50]) w k) (w := w) (next := fun v51 w =>
  pG v48 false (fun k => px Try.prog (binSem BinOp.gtr 3 (Operand.tmp 51) (Operand.const (Value.int IntKind.i64 100000)) v51 (Value.int IntKind.i64 100000)) w k) (w := w) (next := fun v52 w =>
  px Try.prog (pickSem v48 (Value.bool true) v52) w fun v53 w =>
  pG v53 false (fun k => k (ρ 1) w) (w := w) (next := fun v55 w =>
  pG v53 false (fun k => px Try.prog (bSem .len #[41] 3 #[v55]) w k) (w := w) (next := fun v56 w =>
  pG v53 false (fun k => k (ρ 11) w) (w := w) (next := fun v57 w =>
  pG v53 false (fun k => px Try.prog (binSem BinOp.mul 3 (Operand.tmp 56) (Operand.tmp 57) v56 v57) w k) (w := w) (next := fun v58 w =>
  pG v53 false (fun k => px Try.prog (binSem BinOp.gtr 3 (Operand.tmp 58) (Operand.const (Value.int IntKind.i64 3000000)) v58 (Value.int IntKind.i64 3000000)) w k) (w := w) (next := fun v59 w =>
  px Try.prog (pickSem v53 (Value.bool true) v59) w fun v60 w =>
  pC v60 (
    k (Value.bool true) w)
   (
    pFn Try.prog 9 [(Value.int IntKind.i64 1048576)] w fun v62 w =>
    px Try.prog (Instr.extract v62 0) w fun v63 w =>
    px Try.prog (Instr.extract v62 1) w fun v64 w =>
    px Try.prog (binSem BinOp.neq 25 (Operand.tmp 65) (Operand.const (Value.int IntKind.i64 0)) v64 (Value.int IntKind.i64 0)) w fun v66 w =>
    pG v66 false (fun k => k v63 w) (w := w) (next := fun v68 w =>
    pG v66 false (fun k => px Try.prog (binSem BinOp.eql 24 (Operand.tmp 68) (Operand.const (Value.pointer none)) v68 (Value.pointer none)) w k) (w := w) (next := fun v69 w =>
    px Try.prog (pickSem v66 (Value.bool true) v69) w fun v70 w =>
    pG v70 false (fun k => k v63 w) (w := w) (next := fun v72 w =>
    pG v70 false (fun k => pFn Try.prog 10 [v72, (Value.string (ByteArray.mk #[102]))] w k) (w := w) (next := fun v73 w =>
    pG v70 false (fun k => px Try.prog (binSem BinOp.neq 25 (Operand.tmp 73) (Operand.const (Value.int IntKind.i64 0)) v73 (Value.int IntKind.i64 0)) w k) (w := w) (next := fun v74 w =>
    px Try.prog (pickSem v70 (Value.bool true) v74) w fun v75 w =>
    pG v75 false (fun k => k v63 w) (w := w) (next := fun v77 w =>
    pG v75 false (fun k => px Try.prog (Instr.buildSlice 30 0 #[]) w k) (w := w) (next := fun v78 w =>
    pG v75 false (fun k => k (ρ 0) w) (w := w) (next := fun v79 w =>
    pG v75 false (fun k => px Try.prog (bSem .append #[30, 30] 30 #[v78, v79]) w k) (w := w) (next := fun v80 w =>
    pG v75 false (fun k => pFn Try.prog 11 [v77, (Value.string (ByteArray.mk #[102])), v80] w k) (w := w) (next := fun v81 w =>
    pG v75 false (fun k => px Try.prog (binSem BinOp.neq 25 (Operand.tmp 81) (Operand.const (Value.int IntKind.i64 0)) v81 (Value.int IntKind.i64 0)) w k) (w := w) (next := fun v82 w =>
    px Try.prog (pickSem v75 (Value.bool true) v82) w fun v83 w =>
    pG v83 false (fun k => k v63 w) (w := w) (next := fun v85 w =>
    pG v83 false (fun k => pFn Try.prog 12 [v85, (Value.string (ByteArray.mk #[102]))] w k) (w := w) (next := fun v86 w =>
    pG v83 false (fun k => px Try.prog (binSem BinOp.neq 25 (Operand.tmp 86) (Operand.const (Value.int IntKind.i64 0)) v86 (Value.int IntKind.i64 0)) w k) (w := w) (next := fun v87 w =>
    px Try.prog (pickSem v83 (Value.bool true) v87) w fun v88 w =>
    pG v88 false (fun k => k v63 w) (w := w) (next := fun v90 w =>
    pG v88 false (fun k => pFn Try.prog 13 [v90] w k) (w := w) (next := fun v91 w =>
    pG v88 false (fun k => px Try.prog (binSem BinOp.neq 25 (Operand.tmp 91) (Operand.const (Value.int IntKind.i64 0)) v91 (Value.int IntKind.i64 0)) w k) (w := w) (next := fun v92 w =>
    px Try.prog (pickSem v88 (Value.bool true) v92) w fun v93 w =>
    pC v93 (
      k (Value.bool false) w)
     (
      px Try.prog (Instr.build 46 #[(0, (ρ 3))]) w fun v96 w =>
      pFn Try.prog 19 [v63, v96] w fun v97 w =>
      px Try.prog (bSem .len #[30] 3 #[(ρ 0)]) w fun v99 w =>
      F4L2 k (put (put (put (put (put (put (put (put (put (put (put (put (put (put (put (put (put (put (put (put (put (put (put (put (put (put (put (put (put (put (put (put (put (put (put (put (put (put (put (put (put (put (put (put (put (put (put (put (put (put (put (put (put (put (put (put (put (put (put (put ρ 46 (ρ 1)) 47 v47) 48 v48) 49 v48) 50 v50) 51 v51) 52 v52) 53 v53) 54 v53) 55 v55) 56 v56) 57 v57) 58 v58) 59 v59) 60 v60) 62 v62) 61 v62) 63 v63) 64 v64) 13 v63) 14 v64) 65 v64) 66 v66) 67 v66) 68 v68) 69 v69) 70 v70) 71 v70) 72 v72) 73 v73) 74 v74) 75 v75) 76 v75) 77 v77) 78 v78) 79 v79) 80 v80) 81 v81) 82 v82) 83 v83) 84 v83) 85 v85) 86 v86) 87 v87) 88 v88) 89 v88) 90 v90) 91 v91) 92 v92) 93 v93) 94 v63) 95 (ρ 3)) 96 v96) 97 v97) 15 (Value.slice none 0 0)) 16 (Value.int IntKind.i64 0)) 98 (ρ 0)) 99 v99) 17 v99) 18 (Value.int IntKind.i64 0)) w)))))))))))))))))))))))))))
theorem F4_2_eq (k : Value → World → Prop) (ρ : Env) (w : World) : F4A k [1, 1, 1] ρ w = F4_2 k ρ w := by kernel_rfl
def F4_3 (k : Value → World → Prop) (N2 : Env → World → Prop) (ρ : Env) (w : World) : Prop :=
  px Try.prog (bSem .len #[41] 3 #[(ρ 1)]) w fun v102 w =>
  px Try.prog (binSem BinOp.lss 3 (Operand.tmp 100) (Operand.tmp 102) (ρ 18) v102) w fun v103 w =>
  pC v103 (
    px Try.prog (Instr.indexAt 41 (ρ 1) (ρ 18)) w fun v108 w =>
    px Try.prog (Instr.loadAt 43 v108) w fun v109 w =>
    px Try.prog (Instr.alloc 43 true (.tuple #[])) w fun v19 w =>
    pu Try.prog (Instr.storeAt 43 v19 v109) w fun w =>
    px Try.prog (Instr.fieldAt 43 v19 1) w fun v110 w =>
    px Try.prog (Instr.loadAt 3 v110) w fun v111 w =>
    px Try.prog (binSem BinOp.geq 3 (Operand.tmp 111) (Operand.const (Value.int IntKind.i64 0)) v111 (Value.int IntKind.i64 0)) w fun v112 w =>
    pG v112 true (fun k => px Try.prog (Instr.fieldAt 43 v19 1) w k) (w := w) (next := fun v114 w =>
    pG v112 true (fun k => px Try.prog (Instr.loadAt 3 v114) w k) (w := w) (next := fun v115 w =>
    pG v112 true (fun k => k (ρ 17) w) (w := w) (next := fun v116 w =>
    pG v112 true (fun k => px Try.prog (binSem BinOp.leq 3 (Operand.tmp 115) (Operand.tmp 116) v115 v116) w k) (w := w) (next := fun v117 w =>
    px Try.prog (pickSem v112 v117 (Value.bool false)) w fun v118 w =>
    px Try.prog (Instr.fieldAt 43 v19 0) w fun v119 w =>
    px Try.prog (Instr.loadAt 4 v119) w fun v120 w =>
    pC v120 (
      px Try.prog (Instr.fieldAt 43 v19 1) w fun v122 w =>
      px Try.prog (Instr.loadAt 3 v122) w fun v123 w =>
      pFn Try.prog 20 [(ρ 13), (Value.string (ByteArray.mk #[102])), v123] w fun v124 w =>
      F4A2 k N2 [1, 0, 0, 1, 1, 1, 1] (put (put (put (put (put (put (put (put (put (put (put (put (put (put (put (put (put (put (put (put (put (put (put (put (put (put (put ρ 100 (ρ 18)) 101 (ρ 1)) 102 v102) 103 v103) 106 (ρ 1)) 107 (ρ 18)) 108 v108) 109 v109) 19 v19) 20 (Value.int IntKind.i64 0)) 110 v110) 111 v111) 112 v112) 113 v112) 114 v114) 115 v115) 116 v116) 117 v117) 118 v118) 21 v118) 119 v119) 120 v120) 121 (ρ 13)) 122 v122) 123 v123) 124 v124) 20 v124) w)
     (
      ∃ S : World → Prop, S w.drew ∧ (fun w =>
      pq Try.prog S (Instr.fieldAt 43 v19 1) fun v126 =>
      pq Try.prog S (Instr.loadAt 3 v126) fun v127 =>
      pq Try.prog S (Instr.fieldAt 43 v19 2) fun v129 =>
      pq Try.prog S (Instr.loadAt 30 v129) fun v130 =>
      px Try.prog (Instr.buildSlice 30 0 #[]) w fun v128 w => S w ∧ (
      px Try.prog (bSem .append #[30, 30] 30 #[v128, v130]) w fun v131 w => S w ∧ (
      pFn Try.prog 21 [(ρ 13), (Value.string (ByteArray.mk #[102])), v127, v131] w fun v132 w => S w ∧ (
      F4A2 k N2 [1, 0, 0, 1, 1, 1, 1] (put (put (put (put (put (put (put (put (put (put (put (put (put (put (put (put (put (put (put (put (put (put (put (put (put (put (put (put (put (put (put ρ 100 (ρ 18)) 101 (ρ 1)) 102 v102) 103 v103) 106 (ρ 1)) 107 (ρ 18)) 108 v108) 109 v109) 19 v19) 20 (Value.int IntKind.i64 0)) 110 v110) 111 v111) 112 v112) 113 v112) 114 v114) 115 v115) 116 v116) 117 v117) 118 v118) 21 v118) 119 v119) 120 v120) 125 (ρ 13)) 126 v126) 127 v127) 129 v129) 130 v130) 128 v128) 131 v131) 132 v132) 20 v132) w)))) w.drew))))))
   (
    F4A k [1, 1, 1, 1, 1, 1, 1, 1, 1, 1, 1] (put (put (put (put ρ 100 (ρ 18)) 101 (ρ 1)) 102 v102) 103 v103) w)
theorem F4_3_eq (k : Value → World → Prop) (N2 : Env → World → Prop) (ρ : Env) (w : World) : F4A2 k N2 [] ρ w = F4_3 k N2 ρ w := by kernel_rfl
def F4_4 (k : Value → World → Prop) (N2 : Env → World → Prop) (ρ : Env) (w : World) : Prop :=
  px Try.prog (binSem BinOp.neq 25 (Operand.tmp 133) (Operand.const (Value.int IntKind.i64 0)) (ρ 20) (Value.int IntKind.i64 0)) w fun v134 w =>
  pG v134 true (fun k => k (ρ 20) w) (w := w) (next := fun v136 w =>
  pG v134 true (fun k => px Try.prog (binSem BinOp.neq 25 (Operand.tmp 136) (Operand.const (Value.int IntKind.i64 50)) v136 (Value.int IntKind.i64 50)) w k) (w := w) (next := fun v137 w =>
  px Try.prog (pickSem v134 v137 (Value.bool false)) w fun v138 w =>
  pC v138 (
    pG (ρ 21) false (fun k => k (ρ 20) w) (w := w) (next := fun v141 w =>
    pG (ρ 21) false (fun k => px Try.prog (binSem BinOp.neq 25 (Operand.tmp 141) (Operand.const (Value.int IntKind.i64 54)) v141 (Value.int IntKind.i64 54)) w k) (w := w) (next := fun v142 w =>
    px Try.prog (pickSem (ρ 21) (Value.bool true) v142) w fun v143 w =>
    pC v143 (
      k (Value.bool false) w)
     (
      F4A2 k N2 [1, 1] (put (put (put (put (put (put (put (put (put (put (put ρ 133 (ρ 20)) 134 v134) 135 v134) 136 v136) 137 v137) 138 v138) 139 (ρ 21)) 140 (ρ 21)) 141 v141) 142 v142) 143 v143) w))))
   (
    px Try.prog (Op.unary UnOp.not (ρ 21)) w fun v145 w =>
    pG v145 true (fun k => k (ρ 20) w) (w := w) (next := fun v147 w =>
    pG v145 true (fun k => px Try.prog (binSem BinOp.neq 25 (Operand.tmp 147) (Operand.const (Value.int IntKind.i64 50)) v147 (Value.int IntKind.i64 50)) w k) (w := w) (next := fun v148 w =>
    px Try.prog (pickSem v145 v148 (Value.bool false)) w fun v149 w =>
    pC v149 (
      k (Value.bool false) w)
     (
      px Try.prog (Op.unary UnOp.not (ρ 21)) w fun v151 w =>
      pG v151 false (fun k => k (ρ 20) w) (w := w) (next := fun v153 w =>
      pG v151 false (fun k => px Try.prog (binSem BinOp.eql 25 (Operand.tmp 153) (Operand.const (Value.int IntKind.i64 50)) v153 (Value.int IntKind.i64 50)) w k) (w := w) (next := fun v154 w =>
      pG v151 false (fun k => k v154 w) (w := w) (next := fun v155 w =>
      pG v155 true (fun k => k (ρ 13) w) (w := w) (next := fun v156 w =>
      pG v155 true (fun k => pFn Try.prog 22 [v156] w k) (w := w) (next := fun v157 w =>
      pG v155 true (fun k => px Try.prog (Op.unary UnOp.not v157) w k) (w := w) (next := fun v158 w =>
      pG v151 false (fun k => px Try.prog (pickSem v155 v158 (Value.bool false)) w k) (w := w) (next := fun v159 w =>
      px Try.prog (pickSem v151 (Value.bool true) v159) w fun v160 w =>
      pC v160 (
        k (Value.bool false) w)
       (
        px Try.prog (Instr.loadAt 43 (ρ 19)) w fun v162 w =>
        px Try.prog (Instr.buildSlice 41 1 #[(0, v162)]) w fun v163 w =>
        px Try.prog (bSem .append #[41, 41] 41 #[(ρ 15), v163]) w fun v164 w =>
        px Try.prog (Instr.fieldAt 43 (ρ 19) 0) w fun v165 w =>
        px Try.prog (Instr.loadAt 4 v165) w fun v166 w =>
        pC v166 (
          px Try.prog (binSem BinOp.add 3 (Operand.tmp 167) (Operand.const (Value.int IntKind.i64 1)) (ρ 16) (Value.int IntKind.i64 1)) w fun v168 w =>
          px Try.prog (Instr.fieldAt 43 (ρ 19) 1) w fun v169 w =>
          px Try.prog (Instr.loadAt 3 v169) w fun v170 w =>
          F4A2 k N2 [1, 0, 0, 1, 1, 1, 1, 1, 1, 1, 1, 1] (put (put (put (put (put (put (put (put (put (put (put (put (put (put (put (put (put (put (put (put (put (put (put (put (put (put (put (put (put (put (put (put (put (put (put (put ρ 133 (ρ 20)) 134 v134) 135 v134) 136 v136) 137 v137) 138 v138) 144 (ρ 21)) 145 v145) 146 v145) 147 v147) 148 v148) 149 v149) 150 (ρ 21)) 151 v151) 152 v151) 153 v153) 154 v154) 155 v155) 156 v156) 157 v157) 158 v158) 159 v159) 160 v160) 161 (ρ 15)) 162 v162) 163 v163) 164 v164) 15 v164) 165 v165) 166 v166) 167 (ρ 16)) 168 v168) 16 v168) 169 v169) 170 v170) 17 v170) w)
         (
          px Try.prog (Instr.fieldAt 43 (ρ 19) 2) w fun v172 w =>
          px Try.prog (Instr.loadAt 30 v172) w fun v173 w =>
          px Try.prog (bSem .len #[30] 3 #[v173]) w fun v174 w =>
          px Try.prog (binSem BinOp.add 3 (Operand.tmp 171) (Operand.tmp 174) (ρ 16) v174) w fun v175 w =>
          px Try.prog (Instr.fieldAt 43 (ρ 19) 1) w fun v176 w =>
          px Try.prog (Instr.loadAt 3 v176) w fun v177 w =>
          px Try.prog (Instr.fieldAt 43 (ρ 19) 2) w fun v178 w =>
          px Try.prog (Instr.loadAt 30 v178) w fun v179 w =>
          px Try.prog (bSem .len #[30] 3 #[v179]) w fun v180 w =>
          px Try.prog (binSem BinOp.add 3 (Operand.tmp 177) (Operand.tmp 180) v177 v180) w fun v181 w =>
          px Try.prog (binSem BinOp.gtr 3 (Operand.tmp 181) (Operand.tmp 182) v181 (ρ 17)) w fun v183 w =>
          pC v183 (
            px Try.prog (Instr.fieldAt 43 (ρ 19) 1) w fun v184 w =>
            px Try.prog (Instr.loadAt 3 v184) w fun v185 w =>
            px Try.prog (Instr.fieldAt 43 (ρ 19) 2) w fun v186 w =>
            px Try.prog (Instr.loadAt 30 v186) w fun v187 w =>
            px Try.prog (bSem .len #[30] 3 #[v187]) w fun v188 w =>
            px Try.prog (binSem BinOp.add 3 (Operand.tmp 185) (Operand.tmp 188) v185 v188) w fun v189 w =>
            F4A2 k N2 [1, 0, 0, 1, 1, 1, 1, 1, 1, 1, 1, 1] (put (put (put (put (put (put (put (put (put (put (put (put (put (put (put (put (put (put (put (put (put (put (put (put (put (put (put (put (put (put (put (put (put (put (put (put (put (put (put (put (put (put (put (put (put (put (put (put (put (put (put ρ 133 (ρ 20)) 134 v134) 135 v134) 136 v136) 137 v137) 138 v138) 144 (ρ 21)) 145 v145) 146 v145) 147 v147) 148 v148) 149 v149) 150 (ρ 21)) 151 v151) 152 v151) 153 v153) 154 v154) 155 v155) 156 v156) 157 v157) 158 v158) 159 v159) 160 v160) 161 (ρ 15)) 162 v162) 163 v163) 164 v164) 15 v164) 165 v165) 166 v166) 171 (ρ 16)) 172 v172) 173 v173) 174 v174) 175 v175) 16 v175) 176 v176) 177 v177) 178 v178) 179 v179) 180 v180) 181 v181) 182 (ρ 17)) 183 v183) 184 v184) 185 v185) 186 v186) 187 v187) 188 v188) 189 v189) 17 v189) w)
           (
            F4A2 k N2 [1, 0, 0, 1, 1, 1, 1, 1, 1, 1, 1, 1] (put (put (put (put (put (put (put (put (put (put (put (put (put (put (put (put (put (put (put (put (put (put (put (put (put (put (put (put (put (put (put (put (put (put (put (put (put (put (put (put (put (put (put (put ρ 133 (ρ 20)) 134 v134) 135 v134) 136 v136) 137 v137) 138 v138) 144 (ρ 21)) 145 v145) 146 v145) 147 v147) 148 v148) 149 v149) 150 (ρ 21)) 151 v151) 152 v151) 153 v153) 154 v154) 155 v155) 156 v156) 157 v157) 158 v158) 159 v159) 160 v160) 161 (ρ 15)) 162 v162) 163 v163) 164 v164) 15 v164) 165 v165) 166 v166) 171 (ρ 16)) 172 v172) 173 v173) 174 v174) 175 v175) 16 v175) 176 v176) 177 v177) 178 v178) 179 v179) 180 v180) 181 v181) 182 (ρ 17)) 183 v183) w))))))))))))))))
theorem F4_4_eq (k : Value → World → Prop) (N2 : Env → World → Prop) (ρ : Env) (w : World) : F4A2 k N2 [1, 0, 0, 1, 1, 1, 1] ρ w = F4_4 k N2 ρ w := by kernel_rfl
def F4_5 (k : Value → World → Prop) (ρ : Env) (w : World) : Prop :=
  px Try.prog (binSem BinOp.add 3 (Operand.tmp 193) (Operand.const (Value.int IntKind.i64 1)) (ρ 16) (Value.int IntKind.i64 1)) w fun v194 w =>
  px Try.prog (binSem BinOp.rem 3 (Operand.tmp 192) (Operand.tmp 194) (ρ 2) v194) w fun v195 w =>
  px Try.prog (binSem BinOp.lss 3 (Operand.tmp 196) (Operand.const (Value.int IntKind.i64 0)) v195 (Value.int IntKind.i64 0)) w fun v197 w =>
  pC v197 (
    px Try.prog (binSem BinOp.add 3 (Operand.tmp 198) (Operand.tmp 199) v195 (ρ 16)) w fun v200 w =>
    px Try.prog (binSem BinOp.add 3 (Operand.tmp 200) (Operand.const (Value.int IntKind.i64 1)) v200 (Value.int IntKind.i64 1)) w fun v201 w =>
    F4A k [1, 1, 1, 1, 1, 1, 1, 1, 1, 1, 1, 1, 1] (put (put (put (put (put (put (put (put (put (put (put (put ρ 192 (ρ 2)) 193 (ρ 16)) 194 v194) 195 v195) 22 v195) 196 v195) 197 v197) 198 v195) 199 (ρ 16)) 200 v200) 201 v201) 22 v201) w)
   (
    F4A k [1, 1, 1, 1, 1, 1, 1, 1, 1, 1, 1, 1, 1] (put (put (put (put (put (put (put ρ 192 (ρ 2)) 193 (ρ 16)) 194 v194) 195 v195) 22 v195) 196 v195) 197 v197) w)
theorem F4_5_eq (k : Value → World → Prop) (ρ : Env) (w : World) : F4A k [1, 1, 1, 1, 1, 1, 1, 1, 1, 1, 1] ρ w = F4_5 k ρ w := by kernel_rfl
def F4_6 (k : Value → World → Prop) (N2 : Env → World → Prop) (ρ : Env) (w : World) : Prop :=
  px Try.prog (binSem BinOp.add 3 (Operand.tmp 104) (Operand.const (Value.int IntKind.i64 1)) (ρ 18) (Value.int IntKind.i64 1)) w fun v105 w =>
  N2 (put (put (put ρ 104 (ρ 18)) 105 v105) 18 v105) w
theorem F4_6_eq (k : Value → World → Prop) (N2 : Env → World → Prop) (ρ : Env) (w : World) : F4A2 k N2 [1, 1] ρ w = F4_6 k N2 ρ w := by kernel_rfl
def F4_7 (k : Value → World → Prop) (N2 : Env → World → Prop) (ρ : Env) (w : World) : Prop :=
  px Try.prog (binSem BinOp.eql 25 (Operand.tmp 190) (Operand.const (Value.int IntKind.i64 50)) (ρ 20) (Value.int IntKind.i64 50)) w fun v191 w =>
  pC v191 (
    F4A k [1, 1, 1, 1, 1, 1, 1, 1, 1, 1, 1] (put (put ρ 190 (ρ 20)) 191 v191) w)
   (
    px Try.prog (binSem BinOp.add 3 (Operand.tmp 104) (Operand.const (Value.int IntKind.i64 1)) (ρ 18) (Value.int IntKind.i64 1)) w fun v105 w =>
    N2 (put (put (put (put (put ρ 190 (ρ 20)) 191 v191) 104 (ρ 18)) 105 v105) 18 v105) w)
theorem F4_7_eq (k : Value → World → Prop) (N2 : Env → World → Prop) (ρ : Env) (w : World) : F4A2 k N2 [1, 0, 0, 1, 1, 1, 1, 1, 1, 1, 1, 1] ρ w = F4_7 k N2 ρ w := by kernel_rfl
def F4_8 (k : Value → World → Prop) (ρ : Env) (w : World) : Prop :=
  px Try.prog (Instr.buildSlice 30 0 #[]) w fun v202 w =>
  px Try.prog (bSem .append #[30, 30] 30 #[v202, (ρ 0)]) w fun v204 w =>
  F4L3 k (put (put (put (put (put ρ 202 v202) 203 (ρ 0)) 204 v204) 23 v204) 24 (Value.int IntKind.i64 0)) w
theorem F4_8_eq (k : Value → World → Prop) (ρ : Env) (w : World) : F4A k [1, 1, 1, 1, 1, 1, 1, 1, 1, 1, 1, 1, 1] ρ w = F4_8 k ρ w := by kernel_rfl
def F4_9 (k : Value → World → Prop) (N3 : Env → World → Prop) (ρ : Env) (w : World) : Prop :=
  px Try.prog (bSem .len #[41] 3 #[(ρ 15)]) w fun v207 w =>
  px Try.prog (binSem BinOp.lss 3 (Operand.tmp 205) (Operand.tmp 207) (ρ 24) v207) w fun v208 w =>
  pG v208 true (fun k => k (ρ 22) w) (w := w) (next := fun v210 w =>
  pG v208 true (fun k => px Try.prog (binSem BinOp.gtr 3 (Operand.tmp 210) (Operand.const (Value.int IntKind.i64 0)) v210 (Value.int IntKind.i64 0)) w k) (w := w) (next := fun v211 w =>
  px Try.prog (pickSem v208 v211 (Value.bool false)) w fun v212 w =>
  pC v212 (
    px Try.prog (Instr.indexAt 41 (ρ 15) (ρ 24)) w fun v217 w =>
    px Try.prog (Instr.fieldAt 43 v217 2) w fun v218 w =>
    px Try.prog (Instr.loadAt 30 v218) w fun v219 w =>
    px Try.prog (bSem .len #[30] 3 #[v219]) w fun v220 w =>
    px Try.prog (Instr.indexAt 41 (ρ 15) (ρ 24)) w fun v223 w =>
    px Try.prog (Instr.fieldAt 43 v223 0) w fun v224 w =>
    px Try.prog (Instr.loadAt 4 v224) w fun v225 w =>
    pC v225 (
      F4A3 k N3 [1, 0, 0, 1, 1] (put (put (put (put (put (put (put (put (put (put (put (put (put (put (put (put (put (put (put (put (put ρ 205 (ρ 24)) 206 (ρ 15)) 207 v207) 208 v208) 209 v208) 210 v210) 211 v211) 212 v212) 215 (ρ 15)) 216 (ρ 24)) 217 v217) 218 v218) 219 v219) 220 v220) 25 v220) 221 (ρ 15)) 222 (ρ 24)) 223 v223) 224 v224) 225 v225) 25 (Value.int IntKind.i64 1)) w)
     (
      F4A3 k N3 [1, 0, 0, 1, 1] (put (put (put (put (put (put (put (put (put (put (put (put (put (put (put (put (put (put (put (put ρ 205 (ρ 24)) 206 (ρ 15)) 207 v207) 208 v208) 209 v208) 210 v210) 211 v211) 212 v212) 215 (ρ 15)) 216 (ρ 24)) 217 v217) 218 v218) 219 v219) 220 v220) 25 v220) 221 (ρ 15)) 222 (ρ 24)) 223 v223) 224 v224) 225 v225) w))
   (
    F4A k [1, 1, 1, 1, 1, 1, 1, 1, 1, 1, 1, 1, 1, 1, 1] (put (put (put (put (put (put (put (put ρ 205 (ρ 24)) 206 (ρ 15)) 207 v207) 208 v208) 209 v208) 210 v210) 211 v211) 212 v212) w)))
theorem F4_9_eq (k : Value → World → Prop) (N3 : Env → World → Prop) (ρ : Env) (w : World) : F4A3 k N3 [] ρ w = F4_9 k N3 ρ w := by kernel_rfl
def F4_10 (k : Value → World → Prop) (N3 : Env → World → Prop) (ρ : Env) (w : World) : Prop :=
  px Try.prog (binSem BinOp.gtr 3 (Operand.tmp 226) (Operand.tmp 227) (ρ 25) (ρ 22)) w fun v228 w =>
  pC v228 (
    F4A3 k N3 [1, 0, 0, 1, 1, 1] (put (put (put (put (put ρ 226 (ρ 25)) 227 (ρ 22)) 228 v228) 229 (ρ 22)) 25 (ρ 22)) w)
   (
    F4A3 k N3 [1, 0, 0, 1, 1, 1] (put (put (put ρ 226 (ρ 25)) 227 (ρ 22)) 228 v228) w)
theorem F4_10_eq (k : Value → World → Prop) (N3 : Env → World → Prop) (ρ : Env) (w : World) : F4A3 k N3 [1, 0, 0, 1, 1] ρ w = F4_10 k N3 ρ w := by kernel_rfl
def F4_11 (k : Value → World → Prop) (ρ : Env) (w : World) : Prop :=
  px Try.prog (Instr.build 46 #[]) w fun v241 w =>
  pFn Try.prog 19 [(ρ 13), v241] w fun v242 w =>
  pFn Try.prog 22 [(ρ 13)] w fun v244 w =>
  px Try.prog (Op.unary UnOp.not v244) w fun v245 w =>
  pG v245 true (fun k => k (ρ 13) w) (w := w) (next := fun v247 w =>
  pG v245 true (fun k => k (ρ 4) w) (w := w) (next := fun v248 w =>
  pG v245 true (fun k => pFn Try.prog 24 [v247, v248] w k) (w := w) (next := fun v249 w =>
  pG v245 true (fun k => px Try.prog (Op.unary UnOp.not v249) w k) (w := w) (next := fun v250 w =>
  px Try.prog (pickSem v245 v250 (Value.bool false)) w fun v251 w =>
  pC v251 (
    k (Value.bool false) w)
   (
    px Try.prog (Instr.buildSlice 57 2 #[(0, (Value.int IntKind.i64 0)), (1, (ρ 2))]) w fun v254 w =>
    pFn Try.prog 15 [(ρ 13), v254] w fun v255 w =>
    pFn Try.prog 17 [(ρ 13)] w fun v257 w =>
    px Try.prog (bSem .len #[37] 3 #[v257]) w fun v259 w =>
    px Try.prog (binSem BinOp.eql 3 (Operand.tmp 259) (Operand.const (Value.int IntKind.i64 1)) v259 (Value.int IntKind.i64 1)) w fun v260 w =>
    pG v260 true (fun k => k v257 w) (w := w) (next := fun v262 w =>
    pG v260 true (fun k => px Try.prog (Instr.indexAt 37 v262 (Value.int IntKind.i64 0)) w k) (w := w) (next := fun v263 w =>
    pG v260 true (fun k => px Try.prog (Instr.fieldAt 52 v263 0) w k) (w := w) (next := fun v264 w =>
    pG v260 true (fun k => px Try.prog (Instr.loadAt 9 v264) w k) (w := w) (next := fun v265 w =>
    pG v260 true (fun k => px Try.prog (binSem BinOp.eql 9 (Operand.tmp 265) (Operand.const (Value.string (ByteArray.mk #[102]))) v265 (Value.string (ByteArray.mk #[102]))) w k) (w := w) (next := fun v266 w =>
    px Try.prog (pickSem v260 v266 (Value.bool false)) w fun v267 w =>
    pG v267 true (fun k => k v257 w) (w := w) (next := fun v269 w =>
    pG v267 true (fun k => px Try.prog (Instr.indexAt 37 v269 (Value.int IntKind.i64 0)) w k) (w := w) (next := fun v270 w =>
    pG v267 true (fun k => px Try.prog (Instr.fieldAt 52 v270 1) w k) (w := w) (next := fun v271 w =>
    pG v267 true (fun k => px Try.prog (Instr.loadAt 30 v271) w k) (w := w) (next := fun v272 w =>
    pG v267 true (fun k => k (ρ 23) w) (w := w) (next := fun v273 w =>
    pG v267 true (fun k => pFn Try.prog 25 [v272, v273] w k) (w := w) (next := fun v274 w =>
    px Try.prog (pickSem v267 v274 (Value.bool false)) w fun v275 w =>
    pG v275 true (fun k => pFn Try.prog 18 [] w k) (w := w) (next := fun v277 w =>
    px Try.prog (pickSem v275 v277 (Value.bool false)) w fun v278 w =>
    k v278 w)))))))))))))))))
theorem F4_11_eq (k : Value → World → Prop) (ρ : Env) (w : World) : F4A k [1, 1, 1, 1, 1, 1, 1, 1, 1, 1, 1, 1, 1, 1, 1] ρ w = F4_11 k ρ w := by kernel_rfl
def F4_12 (k : Value → World → Prop) (N3 : Env → World → Prop) (ρ : Env) (w : World) : Prop :=
  px Try.prog (Instr.indexAt 41 (ρ 15) (ρ 24)) w fun v233 w =>
  px Try.prog (Instr.loadAt 43 v233) w fun v234 w =>
  pFn Try.prog 23 [(ρ 23), v234, (ρ 25)] w fun v236 w =>
  px Try.prog (binSem BinOp.sub 3 (Operand.tmp 237) (Operand.tmp 238) (ρ 22) (ρ 25)) w fun v239 w =>
  px Try.prog (binSem BinOp.add 3 (Operand.tmp 213) (Operand.const (Value.int IntKind.i64 1)) (ρ 24) (Value.int IntKind.i64 1)) w fun v214 w =>
  N3 (put (put (put (put (put (put (put (put (put (put (put (put (put (put (put ρ 230 (ρ 23)) 231 (ρ 15)) 232 (ρ 24)) 233 v233) 234 v234) 235 (ρ 25)) 236 v236) 23 v236) 237 (ρ 22)) 238 (ρ 25)) 239 v239) 22 v239) 213 (ρ 24)) 214 v214) 24 v214) w
theorem F4_12_eq (k : Value → World → Prop) (N3 : Env → World → Prop) (ρ : Env) (w : World) : F4A3 k N3 [1, 0, 0, 1, 1, 1] ρ w = F4_12 k N3 ρ w := by kernel_rfl
theorem F4_in (a0 : Value) (a1 : Value) (a2 : Value) (a3 : Value) (a4 : Value) (w : World) (k : Value → World → Prop) (h : F4_0 a0 a1 a2 a3 a4 w k) : pFn Try.prog 4 [a0, a1, a2, a3, a4] w k :=
  pFn_of_at Try.mixed Try.func4 (by kernel_rfl) (by kernel_rfl) Try.ntmps4 (by kernel_rfl) (by kernel_rfl) (by simp) ((F4_0_eq a0 a1 a2 a3 a4 w k).mpr h)

/-! ## 14 freight/freightlaw5.move -/
noncomputable def F14B : Code := bodyOf Try.f14
def F14A (k : Value → World → Prop) (q : List Nat) (ρ : Env) (w : World) : Prop := At Try.prog 18 F14B (retQ Try.prog Try.f14.results.toList k) q ρ w
def F14_0 (d0 : Value) (m1 : Value) (w : World) (k : Value → World → Prop) : Prop :=
  px Try.prog (Instr.box 34 m1) w fun v3 w =>
  px Try.prog (Instr.fieldAt 34 v3 1) w fun v5 w =>
  px Try.prog (Instr.loadAt 9 v5) w fun v6 w =>
  px Try.prog (binSem BinOp.eql 9 (Operand.tmp 6) (Operand.const (Value.string (ByteArray.mk #[]))) v6 (Value.string (ByteArray.mk #[]))) w fun v7 w =>
  pC v7 (
    px Try.prog (Instr.fieldAt 34 v3 0) w fun v9 w =>
    px Try.prog (Instr.loadAt 9 v9) w fun v10 w =>
    pFn Try.prog 51 [d0, v10] w fun v11 w =>
    k v11 w)
   (
    px Try.prog (Instr.fieldAt 34 v3 0) w fun v13 w =>
    px Try.prog (Instr.loadAt 9 v13) w fun v14 w =>
    px Try.prog (Instr.fieldAt 34 v3 1) w fun v15 w =>
    px Try.prog (Instr.loadAt 9 v15) w fun v16 w =>
    pFn Try.prog 52 [d0, v14, v16] w fun v17 w =>
    k v17 w)
theorem F14_0_eq (d0 : Value) (m1 : Value) (w : World) (k : Value → World → Prop) : F14A k [] (argEnv [d0, m1]) w = F14_0 d0 m1 w k := by kernel_rfl
theorem F14_in (d0 : Value) (m1 : Value) (w : World) (k : Value → World → Prop) (h : F14_0 d0 m1 w k) : pFn Try.prog 14 [d0, m1] w k :=
  pFn_of_at Try.mixed Try.func14 (by kernel_rfl) (by kernel_rfl) Try.ntmps14 (by kernel_rfl) (by kernel_rfl) (by simp) ((F14_0_eq d0 m1 w k).mpr h)

/-! ## 16 freight/freightlaw5.files -/
noncomputable def F16B : Code := bodyOf Try.f16
def F16A (k : Value → World → Prop) (q : List Nat) (ρ : Env) (w : World) : Prop := At Try.prog 42 F16B (retQ Try.prog Try.f16.results.toList k) q ρ w
noncomputable def F16B1 : Code := sub F16B [1, 1, 0, 1, 0, 0]
def F16Q1 (k : Value → World → Prop) (N1 : Env → World → Prop) : Xt → Env → World → Prop := thenE N1 (contAt Try.prog 42 F16B (retQ Try.prog Try.f16.results.toList k) [1, 1, 0, 1, 0])
def F16A1 (k : Value → World → Prop) (N1 : Env → World → Prop) (q : List Nat) (ρ : Env) (w : World) : Prop := At Try.prog 42 F16B1 (F16Q1 k N1) q ρ w
def F16L1 (k : Value → World → Prop) (ρ : Env) (w : World) : Prop := LoopAt Try.prog 42 F16B (retQ Try.prog Try.f16.results.toList k) [1, 1, 0, 1, 0] ρ w
theorem F16L1_inv (k : Value → World → Prop) (I : Nat → Env → World → Prop) (round : ∀ m ρ w, I m ρ w → F16A1 k (fun ρ' w' => ∃ m', m' < m ∧ I m' ρ' w') [] ρ w) {m : Nat} {ρ : Env} {w : World} (h : I m ρ w) : F16L1 k ρ w :=
  LoopAt_inv Try.mixed (B := F16B) (Q := (retQ Try.prog Try.f16.results.toList k)) (p := [1, 1, 0, 1, 0]) (by kernel_rfl) (by kernel_rfl) I round h
def F16_0 (a0 : Value) (b1 : Value) (w : World) (k : Value → World → Prop) : Prop :=
  px Try.prog (bSem .len #[37] 3 #[a0]) w fun v7 w =>
  px Try.prog (bSem .len #[37] 3 #[b1]) w fun v9 w =>
  px Try.prog (binSem BinOp.neq 3 (Operand.tmp 7) (Operand.tmp 9) v7 v9) w fun v10 w =>
  pC v10 (
    k (Value.bool false) w)
   (
    F16L1 k (put (put (put (put (put (put (put (argEnv [a0, b1]) 4 (Value.bool false)) 6 a0) 7 v7) 8 b1) 9 v9) 10 v10) 5 (Value.int IntKind.i64 0)) w)
theorem F16_0_eq (a0 : Value) (b1 : Value) (w : World) (k : Value → World → Prop) : F16A k [] (argEnv [a0, b1]) w = F16_0 a0 b1 w k := by kernel_rfl
def F16_1 (k : Value → World → Prop) (N1 : Env → World → Prop) (ρ : Env) (w : World) : Prop :=
  px Try.prog (bSem .len #[37] 3 #[(ρ 0)]) w fun v13 w =>
  px Try.prog (binSem BinOp.lss 3 (Operand.tmp 11) (Operand.tmp 13) (ρ 5) v13) w fun v14 w =>
  pC v14 (
    ∃ S : World → Prop, S w.drew ∧ (fun w =>
    pq Try.prog S (Instr.indexAt 37 (ρ 0) (ρ 5)) fun v19 =>
    pq Try.prog S (Instr.fieldAt 52 v19 0) fun v20 =>
    pq Try.prog S (Instr.loadAt 9 v20) fun v21 =>
    pq Try.prog S (Instr.indexAt 37 (ρ 1) (ρ 5)) fun v24 =>
    pq Try.prog S (Instr.fieldAt 52 v24 0) fun v25 =>
    pq Try.prog S (Instr.loadAt 9 v25) fun v26 =>
    pq Try.prog S (binSem BinOp.neq 9 (Operand.tmp 21) (Operand.tmp 26) v21 v26) fun v27 =>
    pGq v27 false (fun k => k (ρ 0)) (next := fun v29 =>
    pGq v27 false (fun k => k (ρ 5)) (next := fun v30 =>
    pGq v27 false (fun k => pq Try.prog S (Instr.indexAt 37 v29 v30) k) (next := fun v31 =>
    pGq v27 false (fun k => pq Try.prog S (Instr.fieldAt 52 v31 1) k) (next := fun v32 =>
    pGq v27 false (fun k => pq Try.prog S (Instr.loadAt 30 v32) k) (next := fun v33 =>
    pGq v27 false (fun k => k (ρ 1)) (next := fun v34 =>
    pGq v27 false (fun k => k (ρ 5)) (next := fun v35 =>
    pGq v27 false (fun k => pq Try.prog S (Instr.indexAt 37 v34 v35) k) (next := fun v36 =>
    pGq v27 false (fun k => pq Try.prog S (Instr.fieldAt 52 v36 1) k) (next := fun v37 =>
    pGq v27 false (fun k => pq Try.prog S (Instr.loadAt 30 v37) k) (next := fun v38 =>
    pG v27 false (fun k => pFn Try.prog 25 [v33, v38] w k) (w := w) (next := fun v39 w => S w ∧ (
    pGq v27 false (fun k => pq Try.prog S (Op.unary UnOp.not v39) k) (next := fun v40 =>
    pq Try.prog S (pickSem v27 (Value.bool true) v40) fun v41 =>
    pC v41 (
      k (Value.bool false) w)
     (
      px Try.prog (binSem BinOp.add 3 (Operand.tmp 15) (Operand.const (Value.int IntKind.i64 1)) (ρ 5) (Value.int IntKind.i64 1)) w fun v16 w =>
      N1 (put (put (put (put (put (put (put (put (put (put (put (put (put (put (put (put (put (put (put (put (put (put (put (put (put (put (put (put (put (put (put (put ρ 11 (ρ 5)) 12 (ρ 0)) 13 v13) 14 v14) 17 (ρ 0)) 18 (ρ 5)) 19 v19) 20 v20) 21 v21) 22 (ρ 1)) 23 (ρ 5)) 24 v24) 25 v25) 26 v26) 27 v27) 28 v27) 29 v29) 30 v30) 31 v31) 32 v32) 33 v33) 34 v34) 35 v35) 36 v36) 37 v37) 38 v38) 39 v39) 40 v40) 41 v41) 15 (ρ 5)) 16 v16) 5 v16) w))))))))))))))) w.drew)
   (
    F16A k [1, 1, 1] (put (put (put (put ρ 11 (ρ 5)) 12 (ρ 0)) 13 v13) 14 v14) w)
theorem F16_1_eq (k : Value → World → Prop) (N1 : Env → World → Prop) (ρ : Env) (w : World) : F16A1 k N1 [] ρ w = F16_1 k N1 ρ w := by kernel_rfl
def F16_2 (k : Value → World → Prop) (ρ : Env) (w : World) : Prop :=
  k (Value.bool true) w
theorem F16_2_eq (k : Value → World → Prop) (ρ : Env) (w : World) : F16A k [1, 1, 1] ρ w = F16_2 k ρ w := by kernel_rfl
theorem F16_in (a0 : Value) (b1 : Value) (w : World) (k : Value → World → Prop) (h : F16_0 a0 b1 w k) : pFn Try.prog 16 [a0, b1] w k :=
  pFn_of_at Try.mixed Try.func16 (by kernel_rfl) (by kernel_rfl) Try.ntmps16 (by kernel_rfl) (by kernel_rfl) (by simp) ((F16_0_eq a0 b1 w k).mpr h)

/-! ## 18 freight/freightlaw5.known -/
noncomputable def F18B : Code := bodyOf Try.f18
def F18A (k : Value → World → Prop) (q : List Nat) (ρ : Env) (w : World) : Prop := At Try.prog 115 F18B (retQ Try.prog Try.f18.results.toList k) q ρ w
def F18_0  (w : World) (k : Value → World → Prop) : Prop :=
  pFn Try.prog 9 [(Value.int IntKind.i64 20)] w fun v13 w =>
  px Try.prog (Instr.extract v13 0) w fun v14 w =>
  px Try.prog (Instr.extract v13 1) w fun v15 w =>
  pFn Try.prog 60 [v15] w fun v17 w =>
  px Try.prog (binSem BinOp.neq 3 (Operand.tmp 17) (Operand.const (Value.int IntKind.i64 0)) v17 (Value.int IntKind.i64 0)) w fun v18 w =>
  pG v18 false (fun k => k v14 w) (w := w) (next := fun v20 w =>
  pG v18 false (fun k => px Try.prog (binSem BinOp.eql 24 (Operand.tmp 20) (Operand.const (Value.pointer none)) v20 (Value.pointer none)) w k) (w := w) (next := fun v21 w =>
  px Try.prog (pickSem v18 (Value.bool true) v21) w fun v22 w =>
  pC v22 (
    k (Value.bool false) w)
   (
    pFn Try.prog 10 [v14, (Value.string (ByteArray.mk #[97]))] w fun v24 w =>
    px Try.prog (Instr.buildSlice 30 3 #[(0, (Value.int IntKind.u8 120)), (1, (Value.int IntKind.u8 121)), (2, (Value.int IntKind.u8 122))]) w fun v26 w =>
    px Try.prog (convert 30 30 v26) w fun v27 w =>
    pFn Try.prog 11 [v14, (Value.string (ByteArray.mk #[97])), v27] w fun v28 w =>
    pFn Try.prog 12 [v14, (Value.string (ByteArray.mk #[97]))] w fun v30 w =>
    pFn Try.prog 13 [v14] w fun v32 w =>
    px Try.prog (Instr.buildSlice 30 2 #[(0, (Value.int IntKind.u8 49)), (1, (Value.int IntKind.u8 50))]) w fun v34 w =>
    px Try.prog (convert 30 30 v34) w fun v35 w =>
    pFn Try.prog 11 [v14, (Value.string (ByteArray.mk #[97])), v35] w fun v36 w =>
    pFn Try.prog 52 [v14, (Value.string (ByteArray.mk #[97])), (Value.string (ByteArray.mk #[98]))] w fun v38 w =>
    pFn Try.prog 42 [v14, (Value.string (ByteArray.mk #[98])), (Value.int IntKind.i64 2), (Value.int IntKind.i64 2)] w fun v41 w =>
    px Try.prog (Instr.extract v41 0) w fun v42 w =>
    px Try.prog (Instr.extract v41 1) w fun v43 w =>
    pFn Try.prog 60 [v24] w fun v45 w =>
    pFn Try.prog 60 [v28] w fun v47 w =>
    px Try.prog (binSem BinOp.add 3 (Operand.tmp 45) (Operand.tmp 47) v45 v47) w fun v48 w =>
    pFn Try.prog 60 [v30] w fun v50 w =>
    px Try.prog (binSem BinOp.add 3 (Operand.tmp 48) (Operand.tmp 50) v48 v50) w fun v51 w =>
    pFn Try.prog 60 [v32] w fun v53 w =>
    px Try.prog (binSem BinOp.add 3 (Operand.tmp 51) (Operand.tmp 53) v51 v53) w fun v54 w =>
    pFn Try.prog 60 [v36] w fun v56 w =>
    px Try.prog (binSem BinOp.add 3 (Operand.tmp 54) (Operand.tmp 56) v54 v56) w fun v57 w =>
    pFn Try.prog 60 [v38] w fun v59 w =>
    px Try.prog (binSem BinOp.add 3 (Operand.tmp 57) (Operand.tmp 59) v57 v59) w fun v60 w =>
    pFn Try.prog 60 [v43] w fun v62 w =>
    px Try.prog (binSem BinOp.add 3 (Operand.tmp 60) (Operand.tmp 62) v60 v62) w fun v63 w =>
    px Try.prog (binSem BinOp.neq 3 (Operand.tmp 63) (Operand.const (Value.int IntKind.i64 0)) v63 (Value.int IntKind.i64 0)) w fun v64 w =>
    pG v64 false (fun k => k v42 w) (w := w) (next := fun v66 w =>
    pG v64 false (fun k => px Try.prog (convert 30 9 v66) w k) (w := w) (next := fun v67 w =>
    pG v64 false (fun k => px Try.prog (binSem BinOp.neq 9 (Operand.tmp 67) (Operand.const (Value.string (ByteArray.mk #[122, 49]))) v67 (Value.string (ByteArray.mk #[122, 49]))) w k) (w := w) (next := fun v68 w =>
    px Try.prog (pickSem v64 (Value.bool true) v68) w fun v69 w =>
    pG v69 false (fun k => k v14 w) (w := w) (next := fun v71 w =>
    pG v69 false (fun k => pFn Try.prog 29 [v71] w k) (w := w) (next := fun v72 w =>
    pG v69 false (fun k => px Try.prog (binSem BinOp.neq 3 (Operand.tmp 72) (Operand.const (Value.int IntKind.i64 6)) v72 (Value.int IntKind.i64 6)) w k) (w := w) (next := fun v73 w =>
    px Try.prog (pickSem v69 (Value.bool true) v73) w fun v74 w =>
    pG v74 false (fun k => k v14 w) (w := w) (next := fun v76 w =>
    pG v74 false (fun k => pFn Try.prog 28 [v76] w k) (w := w) (next := fun v77 w =>
    pG v74 false (fun k => px Try.prog (bSem .len #[60] 3 #[v77]) w k) (w := w) (next := fun v78 w =>
    pG v74 false (fun k => px Try.prog (binSem BinOp.neq 3 (Operand.tmp 78) (Operand.const (Value.int IntKind.i64 1)) v78 (Value.int IntKind.i64 1)) w k) (w := w) (next := fun v79 w =>
    px Try.prog (pickSem v74 (Value.bool true) v79) w fun v80 w =>
    pC v80 (
      k (Value.bool false) w)
     (
      px Try.prog (Instr.buildSlice 57 2 #[(0, (Value.int IntKind.i64 1)), (1, (Value.int IntKind.i64 1))]) w fun v82 w =>
      pFn Try.prog 15 [v14, v82] w fun v83 w =>
      pFn Try.prog 17 [v14] w fun v85 w =>
      px Try.prog (bSem .len #[37] 3 #[v85]) w fun v87 w =>
      px Try.prog (binSem BinOp.eql 3 (Operand.tmp 87) (Operand.const (Value.int IntKind.i64 1)) v87 (Value.int IntKind.i64 1)) w fun v88 w =>
      pG v88 true (fun k => k v85 w) (w := w) (next := fun v90 w =>
      pG v88 true (fun k => px Try.prog (Instr.indexAt 37 v90 (Value.int IntKind.i64 0)) w k) (w := w) (next := fun v91 w =>
      pG v88 true (fun k => px Try.prog (Instr.fieldAt 52 v91 0) w k) (w := w) (next := fun v92 w =>
      pG v88 true (fun k => px Try.prog (Instr.loadAt 9 v92) w k) (w := w) (next := fun v93 w =>
      pG v88 true (fun k => px Try.prog (binSem BinOp.eql 9 (Operand.tmp 93) (Operand.const (Value.string (ByteArray.mk #[98]))) v93 (Value.string (ByteArray.mk #[98]))) w k) (w := w) (next := fun v94 w =>
      px Try.prog (pickSem v88 v94 (Value.bool false)) w fun v95 w =>
      pG v95 true (fun k => k v85 w) (w := w) (next := fun v97 w =>
      pG v95 true (fun k => px Try.prog (Instr.indexAt 37 v97 (Value.int IntKind.i64 0)) w k) (w := w) (next := fun v98 w =>
      pG v95 true (fun k => px Try.prog (Instr.fieldAt 52 v98 1) w k) (w := w) (next := fun v99 w =>
      pG v95 true (fun k => px Try.prog (Instr.loadAt 30 v99) w k) (w := w) (next := fun v100 w =>
      pG v95 true (fun k => px Try.prog (convert 30 9 v100) w k) (w := w) (next := fun v101 w =>
      pG v95 true (fun k => px Try.prog (binSem BinOp.eql 9 (Operand.tmp 101) (Operand.const (Value.string (ByteArray.mk #[120, 121, 122, 49]))) v101 (Value.string (ByteArray.mk #[120, 121, 122, 49]))) w k) (w := w) (next := fun v102 w =>
      px Try.prog (pickSem v95 v102 (Value.bool false)) w fun v103 w =>
      pG v103 true (fun k => k v14 w) (w := w) (next := fun v105 w =>
      pG v103 true (fun k => pFn Try.prog 51 [v105, (Value.string (ByteArray.mk #[97]))] w k) (w := w) (next := fun v106 w =>
      pG v103 true (fun k => pFn Try.prog 60 [v106] w k) (w := w) (next := fun v107 w =>
      pG v103 true (fun k => px Try.prog (binSem BinOp.eql 3 (Operand.tmp 107) (Operand.const (Value.int IntKind.i64 53)) v107 (Value.int IntKind.i64 53)) w k) (w := w) (next := fun v108 w =>
      px Try.prog (pickSem v103 v108 (Value.bool false)) w fun v109 w =>
      pG v109 true (fun k => k v14 w) (w := w) (next := fun v111 w =>
      pG v109 true (fun k => pFn Try.prog 32 [v111] w k) (w := w) (next := fun v112 w =>
      pG v109 true (fun k => px Try.prog (binSem BinOp.eql 3 (Operand.tmp 112) (Operand.const (Value.int IntKind.i64 4)) v112 (Value.int IntKind.i64 4)) w k) (w := w) (next := fun v113 w =>
      px Try.prog (pickSem v109 v113 (Value.bool false)) w fun v114 w =>
      k v114 w))))))))))))))))))))))))))))))))
theorem F18_0_eq  (w : World) (k : Value → World → Prop) : F18A k [] (argEnv []) w = F18_0  w k := by kernel_rfl
theorem F18_in  (w : World) (k : Value → World → Prop) (h : F18_0  w k) : pFn Try.prog 18 [] w k :=
  pFn_of_at Try.mixed Try.func18 (by kernel_rfl) (by kernel_rfl) Try.ntmps18 (by kernel_rfl) (by kernel_rfl) (by simp) ((F18_0_eq  w k).mpr h)

/-! ## 23 freight/freightlaw5.written -/
noncomputable def F23B : Code := bodyOf Try.f23
def F23A (k : Value → World → Prop) (q : List Nat) (ρ : Env) (w : World) : Prop := At Try.prog 69 F23B (retQ Try.prog Try.f23.results.toList k) q ρ w
noncomputable def F23B1 : Code := sub F23B [1, 1, 1, 0, 1, 0, 0]
def F23Q1 (k : Value → World → Prop) (N1 : Env → World → Prop) : Xt → Env → World → Prop := thenE N1 (contAt Try.prog 69 F23B (retQ Try.prog Try.f23.results.toList k) [1, 1, 1, 0, 1, 0])
def F23A1 (k : Value → World → Prop) (N1 : Env → World → Prop) (q : List Nat) (ρ : Env) (w : World) : Prop := At Try.prog 69 F23B1 (F23Q1 k N1) q ρ w
def F23L1 (k : Value → World → Prop) (ρ : Env) (w : World) : Prop := LoopAt Try.prog 69 F23B (retQ Try.prog Try.f23.results.toList k) [1, 1, 1, 0, 1, 0] ρ w
theorem F23L1_inv (k : Value → World → Prop) (I : Nat → Env → World → Prop) (round : ∀ m ρ w, I m ρ w → F23A1 k (fun ρ' w' => ∃ m', m' < m ∧ I m' ρ' w') [] ρ w) {m : Nat} {ρ : Env} {w : World} (h : I m ρ w) : F23L1 k ρ w :=
  LoopAt_inv Try.mixed (B := F23B) (Q := (retQ Try.prog Try.f23.results.toList k)) (p := [1, 1, 1, 0, 1, 0]) (by kernel_rfl) (by kernel_rfl) I round h
def F23_0 (a0 : Value) (a1 : Value) (a2 : Value) (w : World) (k : Value → World → Prop) : Prop :=
  px Try.prog (Instr.box 43 a1) w fun v4 w =>
  px Try.prog (Instr.fieldAt 43 v4 0) w fun v9 w =>
  px Try.prog (Instr.loadAt 4 v9) w fun v10 w =>
  pC v10 (
    px Try.prog (binSem BinOp.eql 3 (Operand.tmp 11) (Operand.const (Value.int IntKind.i64 0)) a2 (Value.int IntKind.i64 0)) w fun v12 w =>
    pG v12 false (fun k => px Try.prog (Instr.fieldAt 43 v4 1) w k) (w := w) (next := fun v14 w =>
    pG v12 false (fun k => px Try.prog (Instr.loadAt 3 v14) w k) (w := w) (next := fun v15 w =>
    pG v12 false (fun k => k a0 w) (w := w) (next := fun v16 w =>
    pG v12 false (fun k => px Try.prog (bSem .len #[30] 3 #[v16]) w k) (w := w) (next := fun v17 w =>
    pG v12 false (fun k => px Try.prog (binSem BinOp.gtr 3 (Operand.tmp 15) (Operand.tmp 17) v15 v17) w k) (w := w) (next := fun v18 w =>
    px Try.prog (pickSem v12 (Value.bool true) v18) w fun v19 w =>
    pC v19 (
      k a0 w)
     (
      px Try.prog (Instr.buildSlice 30 0 #[]) w fun v21 w =>
      px Try.prog (Instr.fieldAt 43 v4 1) w fun v23 w =>
      px Try.prog (Instr.loadAt 3 v23) w fun v24 w =>
      px Try.prog (Instr.sliceAt 30 a0 none (some v24) none) w fun v25 w =>
      px Try.prog (bSem .append #[30, 30] 30 #[v21, v25]) w fun v26 w =>
      k v26 w)))))))
   (
    px Try.prog (Instr.buildSlice 30 0 #[]) w fun v27 w =>
    px Try.prog (bSem .append #[30, 30] 30 #[v27, a0]) w fun v29 w =>
    F23L1 k (put (put (put (put (put (put (put (put (put (argEnv [a0, a1, a2]) 4 v4) 6 (Value.slice none 0 0)) 9 v9) 10 v10) 27 v27) 28 a0) 29 v29) 7 v29) 8 (Value.int IntKind.i64 0)) w)
theorem F23_0_eq (a0 : Value) (a1 : Value) (a2 : Value) (w : World) (k : Value → World → Prop) : F23A k [] (argEnv [a0, a1, a2]) w = F23_0 a0 a1 a2 w k := by kernel_rfl
def F23_1 (k : Value → World → Prop) (N1 : Env → World → Prop) (ρ : Env) (w : World) : Prop :=
  px Try.prog (binSem BinOp.lss 3 (Operand.tmp 30) (Operand.tmp 31) (ρ 8) (ρ 2)) w fun v32 w =>
  pG v32 true (fun k => k (ρ 8) w) (w := w) (next := fun v34 w =>
  pG v32 true (fun k => px Try.prog (Instr.fieldAt 43 (ρ 4) 2) w k) (w := w) (next := fun v35 w =>
  pG v32 true (fun k => px Try.prog (Instr.loadAt 30 v35) w k) (w := w) (next := fun v36 w =>
  pG v32 true (fun k => px Try.prog (bSem .len #[30] 3 #[v36]) w k) (w := w) (next := fun v37 w =>
  pG v32 true (fun k => px Try.prog (binSem BinOp.lss 3 (Operand.tmp 34) (Operand.tmp 37) v34 v37) w k) (w := w) (next := fun v38 w =>
  px Try.prog (pickSem v32 v38 (Value.bool false)) w fun v39 w =>
  pC v39 (
    px Try.prog (Instr.fieldAt 43 (ρ 4) 1) w fun v42 w =>
    px Try.prog (Instr.loadAt 3 v42) w fun v43 w =>
    px Try.prog (binSem BinOp.add 3 (Operand.tmp 43) (Operand.tmp 44) v43 (ρ 8)) w fun v45 w =>
    px Try.prog (bSem .len #[30] 3 #[(ρ 7)]) w fun v47 w =>
    px Try.prog (binSem BinOp.lss 3 (Operand.tmp 45) (Operand.tmp 47) v45 v47) w fun v48 w =>
    pC v48 (
      ∃ S : World → Prop, S w.drew ∧ (fun w =>
      pq Try.prog S (Instr.fieldAt 43 (ρ 4) 1) fun v50 =>
      pq Try.prog S (Instr.loadAt 3 v50) fun v51 =>
      pq Try.prog S (binSem BinOp.add 3 (Operand.tmp 51) (Operand.tmp 52) v51 (ρ 8)) fun v53 =>
      pq Try.prog S (Instr.fieldAt 43 (ρ 4) 2) fun v54 =>
      pq Try.prog S (Instr.loadAt 30 v54) fun v55 =>
      pq Try.prog S (Instr.indexAt 30 v55 (ρ 8)) fun v57 =>
      pq Try.prog S (Instr.loadAt 5 v57) fun v58 =>
      pq Try.prog S (Instr.indexAt 30 (ρ 7) v53) fun v59 =>
      pu Try.prog (Instr.storeAt 5 v59 v58) w fun w => (
      F23A1 k N1 [1, 1] (put (put (put (put (put (put (put (put (put (put (put (put (put (put (put (put (put (put (put (put (put (put (put (put (put (put (put (put ρ 30 (ρ 8)) 31 (ρ 2)) 32 v32) 33 v32) 34 v34) 35 v35) 36 v36) 37 v37) 38 v38) 39 v39) 42 v42) 43 v43) 44 (ρ 8)) 45 v45) 46 (ρ 7)) 47 v47) 48 v48) 49 (ρ 7)) 50 v50) 51 v51) 52 (ρ 8)) 53 v53) 54 v54) 55 v55) 56 (ρ 8)) 57 v57) 58 v58) 59 v59) w)) w.drew)
     (
      px Try.prog (Instr.fieldAt 43 (ρ 4) 2) w fun v61 w =>
      px Try.prog (Instr.loadAt 30 v61) w fun v62 w =>
      px Try.prog (Instr.indexAt 30 v62 (ρ 8)) w fun v64 w =>
      px Try.prog (Instr.loadAt 5 v64) w fun v65 w =>
      px Try.prog (Instr.buildSlice 30 1 #[(0, v65)]) w fun v66 w =>
      px Try.prog (bSem .append #[30, 30] 30 #[(ρ 7), v66]) w fun v67 w =>
      F23A1 k N1 [1, 1] (put (put (put (put (put (put (put (put (put (put (put (put (put (put (put (put (put (put (put (put (put (put (put (put (put (put ρ 30 (ρ 8)) 31 (ρ 2)) 32 v32) 33 v32) 34 v34) 35 v35) 36 v36) 37 v37) 38 v38) 39 v39) 42 v42) 43 v43) 44 (ρ 8)) 45 v45) 46 (ρ 7)) 47 v47) 48 v48) 60 (ρ 7)) 61 v61) 62 v62) 63 (ρ 8)) 64 v64) 65 v65) 66 v66) 67 v67) 7 v67) w))
   (
    F23A k [1, 1, 1, 1] (put (put (put (put (put (put (put (put (put (put ρ 30 (ρ 8)) 31 (ρ 2)) 32 v32) 33 v32) 34 v34) 35 v35) 36 v36) 37 v37) 38 v38) 39 v39) w))))))
theorem F23_1_eq (k : Value → World → Prop) (N1 : Env → World → Prop) (ρ : Env) (w : World) : F23A1 k N1 [] ρ w = F23_1 k N1 ρ w := by kernel_rfl
def F23_2 (k : Value → World → Prop) (N1 : Env → World → Prop) (ρ : Env) (w : World) : Prop :=
  px Try.prog (binSem BinOp.add 3 (Operand.tmp 40) (Operand.const (Value.int IntKind.i64 1)) (ρ 8) (Value.int IntKind.i64 1)) w fun v41 w =>
  N1 (put (put (put ρ 40 (ρ 8)) 41 v41) 8 v41) w
theorem F23_2_eq (k : Value → World → Prop) (N1 : Env → World → Prop) (ρ : Env) (w : World) : F23A1 k N1 [1, 1] ρ w = F23_2 k N1 ρ w := by kernel_rfl
def F23_3 (k : Value → World → Prop) (ρ : Env) (w : World) : Prop :=
  k (ρ 7) w
theorem F23_3_eq (k : Value → World → Prop) (ρ : Env) (w : World) : F23A k [1, 1, 1, 1] ρ w = F23_3 k ρ w := by kernel_rfl
theorem F23_in (a0 : Value) (a1 : Value) (a2 : Value) (w : World) (k : Value → World → Prop) (h : F23_0 a0 a1 a2 w k) : pFn Try.prog 23 [a0, a1, a2] w k :=
  pFn_of_at Try.mixed Try.func23 (by kernel_rfl) (by kernel_rfl) Try.ntmps23 (by kernel_rfl) (by kernel_rfl) (by simp) ((F23_0_eq a0 a1 a2 w k).mpr h)

/-! ## 24 freight/freightlaw5.away -/
noncomputable def F24B : Code := bodyOf Try.f24
def F24A (k : Value → World → Prop) (q : List Nat) (ρ : Env) (w : World) : Prop := At Try.prog 43 F24B (retQ Try.prog Try.f24.results.toList k) q ρ w
def F24_0 (d0 : Value) (how1 : Value) (w : World) (k : Value → World → Prop) : Prop :=
  px Try.prog (binSem BinOp.eql 3 (Operand.tmp 5) (Operand.const (Value.int IntKind.i64 1)) how1 (Value.int IntKind.i64 1)) w fun v7 w =>
  pC v7 (
    pFn Try.prog 51 [d0, (Value.string (ByteArray.mk #[102]))] w fun v9 w =>
    px Try.prog (binSem BinOp.eql 25 (Operand.tmp 9) (Operand.const (Value.int IntKind.i64 0)) v9 (Value.int IntKind.i64 0)) w fun v10 w =>
    k v10 w)
   (
    px Try.prog (binSem BinOp.eql 3 (Operand.tmp 5) (Operand.const (Value.int IntKind.i64 2)) how1 (Value.int IntKind.i64 2)) w fun v12 w =>
    pC v12 (
      pFn Try.prog 10 [d0, (Value.string (ByteArray.mk #[103]))] w fun v14 w =>
      px Try.prog (binSem BinOp.eql 25 (Operand.tmp 14) (Operand.const (Value.int IntKind.i64 0)) v14 (Value.int IntKind.i64 0)) w fun v15 w =>
      pG v15 true (fun k => k d0 w) (w := w) (next := fun v17 w =>
      pG v15 true (fun k => px Try.prog (Instr.buildSlice 30 3 #[(0, (Value.int IntKind.u8 110)), (1, (Value.int IntKind.u8 101)), (2, (Value.int IntKind.u8 119))]) w k) (w := w) (next := fun v18 w =>
      pG v15 true (fun k => px Try.prog (convert 30 30 v18) w k) (w := w) (next := fun v19 w =>
      pG v15 true (fun k => pFn Try.prog 11 [v17, (Value.string (ByteArray.mk #[103])), v19] w k) (w := w) (next := fun v20 w =>
      pG v15 true (fun k => px Try.prog (binSem BinOp.eql 25 (Operand.tmp 20) (Operand.const (Value.int IntKind.i64 0)) v20 (Value.int IntKind.i64 0)) w k) (w := w) (next := fun v21 w =>
      px Try.prog (pickSem v15 v21 (Value.bool false)) w fun v22 w =>
      pG v22 true (fun k => k d0 w) (w := w) (next := fun v24 w =>
      pG v22 true (fun k => pFn Try.prog 12 [v24, (Value.string (ByteArray.mk #[103]))] w k) (w := w) (next := fun v25 w =>
      pG v22 true (fun k => px Try.prog (binSem BinOp.eql 25 (Operand.tmp 25) (Operand.const (Value.int IntKind.i64 0)) v25 (Value.int IntKind.i64 0)) w k) (w := w) (next := fun v26 w =>
      px Try.prog (pickSem v22 v26 (Value.bool false)) w fun v27 w =>
      pG v27 true (fun k => k d0 w) (w := w) (next := fun v29 w =>
      pG v27 true (fun k => pFn Try.prog 52 [v29, (Value.string (ByteArray.mk #[103])), (Value.string (ByteArray.mk #[102]))] w k) (w := w) (next := fun v30 w =>
      pG v27 true (fun k => px Try.prog (binSem BinOp.eql 25 (Operand.tmp 30) (Operand.const (Value.int IntKind.i64 0)) v30 (Value.int IntKind.i64 0)) w k) (w := w) (next := fun v31 w =>
      px Try.prog (pickSem v27 v31 (Value.bool false)) w fun v32 w =>
      k v32 w))))))))))))
     (
      px Try.prog (binSem BinOp.eql 3 (Operand.tmp 5) (Operand.const (Value.int IntKind.i64 3)) how1 (Value.int IntKind.i64 3)) w fun v34 w =>
      pC v34 (
        pFn Try.prog 52 [d0, (Value.string (ByteArray.mk #[102])), (Value.string (ByteArray.mk #[104]))] w fun v36 w =>
        px Try.prog (binSem BinOp.eql 25 (Operand.tmp 36) (Operand.const (Value.int IntKind.i64 0)) v36 (Value.int IntKind.i64 0)) w fun v37 w =>
        pG v37 true (fun k => k d0 w) (w := w) (next := fun v39 w =>
        pG v37 true (fun k => pFn Try.prog 10 [v39, (Value.string (ByteArray.mk #[102]))] w k) (w := w) (next := fun v40 w =>
        pG v37 true (fun k => px Try.prog (binSem BinOp.eql 25 (Operand.tmp 40) (Operand.const (Value.int IntKind.i64 0)) v40 (Value.int IntKind.i64 0)) w k) (w := w) (next := fun v41 w =>
        px Try.prog (pickSem v37 v41 (Value.bool false)) w fun v42 w =>
        k v42 w))))
       (
        k (Value.bool true) w)))
theorem F24_0_eq (d0 : Value) (how1 : Value) (w : World) (k : Value → World → Prop) : F24A k [] (argEnv [d0, how1]) w = F24_0 d0 how1 w k := by kernel_rfl
theorem F24_in (d0 : Value) (how1 : Value) (w : World) (k : Value → World → Prop) (h : F24_0 d0 how1 w k) : pFn Try.prog 24 [d0, how1] w k :=
  pFn_of_at Try.mixed Try.func24 (by kernel_rfl) (by kernel_rfl) Try.ntmps24 (by kernel_rfl) (by kernel_rfl) (by simp) ((F24_0_eq d0 how1 w k).mpr h)

/-! ## 25 freight/freightlaw5.bytes -/
noncomputable def F25B : Code := bodyOf Try.f25
def F25A (k : Value → World → Prop) (q : List Nat) (ρ : Env) (w : World) : Prop := At Try.prog 26 F25B (retQ Try.prog Try.f25.results.toList k) q ρ w
noncomputable def F25B1 : Code := sub F25B [1, 1, 0, 1, 0, 0]
def F25Q1 (k : Value → World → Prop) (N1 : Env → World → Prop) : Xt → Env → World → Prop := thenE N1 (contAt Try.prog 26 F25B (retQ Try.prog Try.f25.results.toList k) [1, 1, 0, 1, 0])
def F25A1 (k : Value → World → Prop) (N1 : Env → World → Prop) (q : List Nat) (ρ : Env) (w : World) : Prop := At Try.prog 26 F25B1 (F25Q1 k N1) q ρ w
def F25L1 (k : Value → World → Prop) (ρ : Env) (w : World) : Prop := LoopAt Try.prog 26 F25B (retQ Try.prog Try.f25.results.toList k) [1, 1, 0, 1, 0] ρ w
theorem F25L1_inv (k : Value → World → Prop) (I : Nat → Env → World → Prop) (round : ∀ m ρ w, I m ρ w → F25A1 k (fun ρ' w' => ∃ m', m' < m ∧ I m' ρ' w') [] ρ w) {m : Nat} {ρ : Env} {w : World} (h : I m ρ w) : F25L1 k ρ w :=
  LoopAt_inv Try.mixed (B := F25B) (Q := (retQ Try.prog Try.f25.results.toList k)) (p := [1, 1, 0, 1, 0]) (by kernel_rfl) (by kernel_rfl) I round h
def F25_0 (a0 : Value) (b1 : Value) (w : World) (k : Value → World → Prop) : Prop :=
  px Try.prog (bSem .len #[30] 3 #[a0]) w fun v7 w =>
  px Try.prog (bSem .len #[30] 3 #[b1]) w fun v9 w =>
  px Try.prog (binSem BinOp.neq 3 (Operand.tmp 7) (Operand.tmp 9) v7 v9) w fun v10 w =>
  pC v10 (
    k (Value.bool false) w)
   (
    F25L1 k (put (put (put (put (put (put (put (argEnv [a0, b1]) 4 (Value.bool false)) 6 a0) 7 v7) 8 b1) 9 v9) 10 v10) 5 (Value.int IntKind.i64 0)) w)
theorem F25_0_eq (a0 : Value) (b1 : Value) (w : World) (k : Value → World → Prop) : F25A k [] (argEnv [a0, b1]) w = F25_0 a0 b1 w k := by kernel_rfl
def F25_1 (k : Value → World → Prop) (N1 : Env → World → Prop) (ρ : Env) (w : World) : Prop :=
  px Try.prog (bSem .len #[30] 3 #[(ρ 0)]) w fun v13 w =>
  px Try.prog (binSem BinOp.lss 3 (Operand.tmp 11) (Operand.tmp 13) (ρ 5) v13) w fun v14 w =>
  pC v14 (
    ∃ S : World → Prop, S w.drew ∧ (fun w =>
    pq Try.prog S (Instr.indexAt 30 (ρ 0) (ρ 5)) fun v19 =>
    pq Try.prog S (Instr.loadAt 5 v19) fun v20 =>
    pq Try.prog S (Instr.indexAt 30 (ρ 1) (ρ 5)) fun v23 =>
    pq Try.prog S (Instr.loadAt 5 v23) fun v24 =>
    pq Try.prog S (binSem BinOp.neq 5 (Operand.tmp 20) (Operand.tmp 24) v20 v24) fun v25 =>
    pC v25 (
      k (Value.bool false) w)
     (
      px Try.prog (binSem BinOp.add 3 (Operand.tmp 15) (Operand.const (Value.int IntKind.i64 1)) (ρ 5) (Value.int IntKind.i64 1)) w fun v16 w =>
      N1 (put (put (put (put (put (put (put (put (put (put (put (put (put (put (put (put ρ 11 (ρ 5)) 12 (ρ 0)) 13 v13) 14 v14) 17 (ρ 0)) 18 (ρ 5)) 19 v19) 20 v20) 21 (ρ 1)) 22 (ρ 5)) 23 v23) 24 v24) 25 v25) 15 (ρ 5)) 16 v16) 5 v16) w)) w.drew)
   (
    F25A k [1, 1, 1] (put (put (put (put ρ 11 (ρ 5)) 12 (ρ 0)) 13 v13) 14 v14) w)
theorem F25_1_eq (k : Value → World → Prop) (N1 : Env → World → Prop) (ρ : Env) (w : World) : F25A1 k N1 [] ρ w = F25_1 k N1 ρ w := by kernel_rfl
def F25_2 (k : Value → World → Prop) (ρ : Env) (w : World) : Prop :=
  k (Value.bool true) w
theorem F25_2_eq (k : Value → World → Prop) (ρ : Env) (w : World) : F25A k [1, 1, 1] ρ w = F25_2 k ρ w := by kernel_rfl
theorem F25_in (a0 : Value) (b1 : Value) (w : World) (k : Value → World → Prop) (h : F25_0 a0 b1 w k) : pFn Try.prog 25 [a0, b1] w k :=
  pFn_of_at Try.mixed Try.func25 (by kernel_rfl) (by kernel_rfl) Try.ntmps25 (by kernel_rfl) (by kernel_rfl) (by simp) ((F25_0_eq a0 b1 w k).mpr h)

/-! ## 26 freight/freightlaw5.long -/
noncomputable def F26B : Code := bodyOf Try.f26
def F26A (k : Value → World → Prop) (q : List Nat) (ρ : Env) (w : World) : Prop := At Try.prog 32 F26B (retQ Try.prog Try.f26.results.toList k) q ρ w
noncomputable def F26B1 : Code := sub F26B [1, 1, 1, 0, 1, 0, 0]
def F26Q1 (k : Value → World → Prop) (N1 : Env → World → Prop) : Xt → Env → World → Prop := thenE N1 (contAt Try.prog 32 F26B (retQ Try.prog Try.f26.results.toList k) [1, 1, 1, 0, 1, 0])
def F26A1 (k : Value → World → Prop) (N1 : Env → World → Prop) (q : List Nat) (ρ : Env) (w : World) : Prop := At Try.prog 32 F26B1 (F26Q1 k N1) q ρ w
def F26L1 (k : Value → World → Prop) (ρ : Env) (w : World) : Prop := LoopAt Try.prog 32 F26B (retQ Try.prog Try.f26.results.toList k) [1, 1, 1, 0, 1, 0] ρ w
theorem F26L1_inv (k : Value → World → Prop) (I : Nat → Env → World → Prop) (round : ∀ m ρ w, I m ρ w → F26A1 k (fun ρ' w' => ∃ m', m' < m ∧ I m' ρ' w') [] ρ w) {m : Nat} {ρ : Env} {w : World} (h : I m ρ w) : F26L1 k ρ w :=
  LoopAt_inv Try.mixed (B := F26B) (Q := (retQ Try.prog Try.f26.results.toList k)) (p := [1, 1, 1, 0, 1, 0]) (by kernel_rfl) (by kernel_rfl) I round h
def F26_0 (script0 : Value) (w : World) (k : Value → World → Prop) : Prop :=
  px Try.prog (bSem .len #[55] 3 #[script0]) w fun v6 w =>
  px Try.prog (binSem BinOp.gtr 3 (Operand.tmp 6) (Operand.const (Value.int IntKind.i64 300)) v6 (Value.int IntKind.i64 300)) w fun v7 w =>
  pC v7 (
    k (Value.bool true) w)
   (
    F26L1 k (put (put (put (put (put (put (argEnv [script0]) 2 (Value.bool false)) 3 (Value.int IntKind.i64 0)) 5 script0) 6 v6) 7 v7) 4 (Value.int IntKind.i64 0)) w)
theorem F26_0_eq (script0 : Value) (w : World) (k : Value → World → Prop) : F26A k [] (argEnv [script0]) w = F26_0 script0 w k := by kernel_rfl
def F26_1 (k : Value → World → Prop) (N1 : Env → World → Prop) (ρ : Env) (w : World) : Prop :=
  px Try.prog (bSem .len #[55] 3 #[(ρ 0)]) w fun v10 w =>
  px Try.prog (binSem BinOp.lss 3 (Operand.tmp 8) (Operand.tmp 10) (ρ 4) v10) w fun v11 w =>
  pC v11 (
    ∃ S : World → Prop, S w.drew ∧ (fun w =>
    pq Try.prog S (Instr.indexAt 55 (ρ 0) (ρ 4)) fun v17 =>
    pq Try.prog S (Instr.fieldAt 59 v17 5) fun v18 =>
    pq Try.prog S (Instr.loadAt 30 v18) fun v19 =>
    pq Try.prog S (bSem .len #[30] 3 #[v19]) fun v20 =>
    pq Try.prog S (binSem BinOp.add 3 (Operand.tmp 14) (Operand.tmp 20) (ρ 3) v20) fun v21 =>
    pq Try.prog S (Instr.indexAt 55 (ρ 0) (ρ 4)) fun v24 =>
    pq Try.prog S (Instr.fieldAt 59 v24 7) fun v25 =>
    pq Try.prog S (Instr.loadAt 57 v25) fun v26 =>
    pq Try.prog S (bSem .len #[57] 3 #[v26]) fun v27 =>
    pq Try.prog S (binSem BinOp.mul 3 (Operand.const (Value.int IntKind.i64 8)) (Operand.tmp 27) (Value.int IntKind.i64 8) v27) fun v28 =>
    pq Try.prog S (binSem BinOp.add 3 (Operand.tmp 21) (Operand.tmp 28) v21 v28) fun v29 =>
    px Try.prog (binSem BinOp.gtr 3 (Operand.tmp 30) (Operand.const (Value.int IntKind.i64 100000)) v29 (Value.int IntKind.i64 100000)) w fun v31 w =>
    pC v31 (
      k (Value.bool true) w)
     (
      px Try.prog (binSem BinOp.add 3 (Operand.tmp 12) (Operand.const (Value.int IntKind.i64 1)) (ρ 4) (Value.int IntKind.i64 1)) w fun v13 w =>
      N1 (put (put (put (put (put (put (put (put (put (put (put (put (put (put (put (put (put (put (put (put (put (put (put (put (put (put ρ 8 (ρ 4)) 9 (ρ 0)) 10 v10) 11 v11) 14 (ρ 3)) 15 (ρ 0)) 16 (ρ 4)) 17 v17) 18 v18) 19 v19) 20 v20) 21 v21) 22 (ρ 0)) 23 (ρ 4)) 24 v24) 25 v25) 26 v26) 27 v27) 28 v28) 29 v29) 3 v29) 30 v29) 31 v31) 12 (ρ 4)) 13 v13) 4 v13) w)) w.drew)
   (
    F26A k [1, 1, 1, 1] (put (put (put (put ρ 8 (ρ 4)) 9 (ρ 0)) 10 v10) 11 v11) w)
theorem F26_1_eq (k : Value → World → Prop) (N1 : Env → World → Prop) (ρ : Env) (w : World) : F26A1 k N1 [] ρ w = F26_1 k N1 ρ w := by kernel_rfl
def F26_2 (k : Value → World → Prop) (ρ : Env) (w : World) : Prop :=
  k (Value.bool false) w
theorem F26_2_eq (k : Value → World → Prop) (ρ : Env) (w : World) : F26A k [1, 1, 1, 1] ρ w = F26_2 k ρ w := by kernel_rfl
theorem F26_in (script0 : Value) (w : World) (k : Value → World → Prop) (h : F26_0 script0 w k) : pFn Try.prog 26 [script0] w k :=
  pFn_of_at Try.mixed Try.func26 (by kernel_rfl) (by kernel_rfl) Try.ntmps26 (by kernel_rfl) (by kernel_rfl) (by simp) ((F26_0_eq script0 w k).mpr h)

end Go.Proofs.Ytcdcojpfealppaa
