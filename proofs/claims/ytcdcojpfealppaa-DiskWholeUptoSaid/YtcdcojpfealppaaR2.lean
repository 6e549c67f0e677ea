/- PRINTED by wip/tools/redprint.py out of Lean's own print of the functions: their reduced forms; each is proved to be Go's code by the kernel. -/
import Derived.Test.YtcdcojpfealppaaXRed
import Derived.Test.YtcdcojpfealppaaProg
import Derived.Test.YtcdcojpfealppaaMix
set_option linter.unusedVariables false
set_option maxRecDepth 100000
namespace Go.Proofs.Ytcdcojpfealppaa
open Go Go.Proofs Go.Proofs.XRed

/-! ## 44 (*freight/disk.Disk).look -/
noncomputable def F44B : Code := bodyOf Try.f44
def F44A (k : Value → World → Prop) (q : List Nat) (ρ : Env) (w : World) : Prop := At Try.prog 27 F44B (retQ Try.prog Try.f44.results.toList k) q ρ w
def F44_0 (d0 : Value) (name1 : Value) (w : World) (k : Value → World → Prop) : Prop :=
  pFn Try.prog 22 [d0] w fun v8 w =>
  pC v8 (
    k (.tuple #[(Value.pointer none), (Value.int IntKind.i64 50)]) w)
   (
    pFn Try.prog 72 [name1] w fun v11 w =>
    px Try.prog (Op.unary UnOp.not v11) w fun v12 w =>
    pC v12 (
      k (.tuple #[(Value.pointer none), (Value.int IntKind.i64 51)]) w)
     (
      px Try.prog (nilSem d0) w fun v15 w =>
      px Try.prog (Instr.fieldAt 93 v15 1) w fun v16 w =>
      px Try.prog (Instr.loadAt 90 v16) w fun v17 w =>
      px Try.prog (Instr.lookup 90 v17 name1 false) w fun v19 w =>
      px Try.prog (binSem BinOp.eql 94 (Operand.tmp 19) (Operand.const (Value.pointer none)) v19 (Value.pointer none)) w fun v20 w =>
      pC v20 (
        k (.tuple #[(Value.pointer none), (Value.int IntKind.i64 53)]) w)
       (
        px Try.prog (nilSem d0) w fun v22 w =>
        px Try.prog (Instr.fieldAt 93 v22 1) w fun v23 w =>
        px Try.prog (Instr.loadAt 90 v23) w fun v24 w =>
        px Try.prog (Instr.lookup 90 v24 name1 false) w fun v26 w =>
        k (.tuple #[v26, (Value.int IntKind.i64 0)]) w)))
theorem F44_0_eq (d0 : Value) (name1 : Value) (w : World) (k : Value → World → Prop) : F44A k [] (argEnv [d0, name1]) w = F44_0 d0 name1 w k := by kernel_rfl
theorem F44_in (d0 : Value) (name1 : Value) (w : World) (k : Value → World → Prop) (h : F44_0 d0 name1 w k) : pFn Try.prog 44 [d0, name1] w k :=
  pFn_of_at Try.mixed Try.func44 (by kernel_rfl) (by kernel_rfl) Try.ntmps44 (by kernel_rfl) (by kernel_rfl) (by simp) ((F44_0_eq d0 name1 w k).mpr h)

/-! ## 45 (*freight/disk.Disk).stroke -/
noncomputable def F45B : Code := bodyOf Try.f45
def F45A (k : Value → World → Prop) (q : List Nat) (ρ : Env) (w : World) : Prop := At Try.prog 86 F45B (retQ Try.prog Try.f45.results.toList k) q ρ w
def F45_0 (a0 : Value) (a1 : Value) (a2 : Value) (a3 : Value) (w : World) (k : Value → World → Prop) : Prop :=
  px Try.prog (nilSem a0) w fun v10 w =>
  px Try.prog (Instr.fieldAt 93 v10 4) w fun v11 w =>
  px Try.prog (Instr.loadAt 3 v11) w fun v12 w =>
  px Try.prog (binSem BinOp.add 3 (Operand.tmp 12) (Operand.const (Value.int IntKind.i64 1)) v12 (Value.int IntKind.i64 1)) w fun v13 w =>
  px Try.prog (nilSem a0) w fun v14 w =>
  px Try.prog (Instr.fieldAt 93 v14 4) w fun v15 w =>
  pu Try.prog (Instr.storeAt 3 v15 v13) w fun w =>
  px Try.prog (nilSem a0) w fun v17 w =>
  px Try.prog (Instr.fieldAt 93 v17 6) w fun v18 w =>
  px Try.prog (Instr.loadAt 3 v18) w fun v19 w =>
  px Try.prog (binSem BinOp.add 3 (Operand.tmp 19) (Operand.const (Value.int IntKind.i64 1)) v19 (Value.int IntKind.i64 1)) w fun v20 w =>
  px Try.prog (nilSem a0) w fun v21 w =>
  px Try.prog (Instr.fieldAt 93 v21 6) w fun v22 w =>
  pu Try.prog (Instr.storeAt 3 v22 v20) w fun w =>
  ∃ S : World → Prop, S w.drew ∧ (fun w =>
  pq Try.prog S (binSem BinOp.eql 25 (Operand.tmp 23) (Operand.const (Value.int IntKind.i64 0)) a2 (Value.int IntKind.i64 0)) fun v24 =>
  pGq v24 true (fun k => k a1) (next := fun v26 =>
  pGq v24 true (fun k => pq Try.prog S (binSem BinOp.eql 3 (Operand.tmp 26) (Operand.const (Value.int IntKind.i64 1)) v26 (Value.int IntKind.i64 1)) k) (next := fun v27 =>
  pq Try.prog S (pickSem v24 v27 (Value.bool false)) fun v28 =>
  pGq v28 true (fun k => k a0) (next := fun v30 =>
  pGq v28 true (fun k => pq Try.prog S (nilSem v30) k) (next := fun v31 =>
  pGq v28 true (fun k => pq Try.prog S (Instr.fieldAt 93 v31 6) k) (next := fun v32 =>
  pGq v28 true (fun k => pq Try.prog S (Instr.loadAt 3 v32) k) (next := fun v33 =>
  pGq v28 true (fun k => k a0) (next := fun v34 =>
  pGq v28 true (fun k => pq Try.prog S (nilSem v34) k) (next := fun v35 =>
  pGq v28 true (fun k => pq Try.prog S (Instr.fieldAt 93 v35 5) k) (next := fun v36 =>
  pGq v28 true (fun k => pq Try.prog S (Instr.fieldAt 46 v36 1) k) (next := fun v37 =>
  pGq v28 true (fun k => pq Try.prog S (Instr.loadAt 3 v37) k) (next := fun v38 =>
  pGq v28 true (fun k => pq Try.prog S (binSem BinOp.geq 3 (Operand.tmp 33) (Operand.tmp 38) v33 v38) k) (next := fun v39 =>
  pq Try.prog S (pickSem v28 v39 (Value.bool false)) fun v40 =>
  pGq v40 true (fun k => k a0) (next := fun v42 =>
  pGq v40 true (fun k => pq Try.prog S (nilSem v42) k) (next := fun v43 =>
  pGq v40 true (fun k => pq Try.prog S (Instr.fieldAt 93 v43 6) k) (next := fun v44 =>
  pGq v40 true (fun k => pq Try.prog S (Instr.loadAt 3 v44) k) (next := fun v45 =>
  pGq v40 true (fun k => k a0) (next := fun v46 =>
  pGq v40 true (fun k => pq Try.prog S (nilSem v46) k) (next := fun v47 =>
  pGq v40 true (fun k => pq Try.prog S (Instr.fieldAt 93 v47 5) k) (next := fun v48 =>
  pGq v40 true (fun k => pq Try.prog S (Instr.fieldAt 46 v48 2) k) (next := fun v49 =>
  pGq v40 true (fun k => pq Try.prog S (Instr.loadAt 3 v49) k) (next := fun v50 =>
  pGq v40 true (fun k => pq Try.prog S (binSem BinOp.leq 3 (Operand.tmp 45) (Operand.tmp 50) v45 v50) k) (next := fun v51 =>
  pq Try.prog S (pickSem v40 v51 (Value.bool false)) fun v52 =>
  pC v52 (
    F45A k [1, 1, 1, 1] (put (put (put (put (put (put (put (put (put (put (put (put (put (put (put (put (put (put (put (put (put (put (put (put (put (put (put (put (put (put (put (put (put (put (put (put (put (put (put (put (put (put (put (put (put (put (argEnv [a0, a1, a2, a3]) 8 (Value.int IntKind.i64 0)) 9 a0) 10 v10) 11 v11) 12 v12) 13 v13) 14 v14) 15 v15) 16 a0) 17 v17) 18 v18) 19 v19) 20 v20) 21 v21) 22 v22) 23 a2) 24 v24) 25 v24) 26 v26) 27 v27) 28 v28) 29 v28) 30 v30) 31 v31) 32 v32) 33 v33) 34 v34) 35 v35) 36 v36) 37 v37) 38 v38) 39 v39) 40 v40) 41 v40) 42 v42) 43 v43) 44 v44) 45 v45) 46 v46) 47 v47) 48 v48) 49 v49) 50 v50) 51 v51) 52 v52) 2 (Value.int IntKind.i64 55)) w)
   (
    F45A k [1, 1, 1, 1] (put (put (put (put (put (put (put (put (put (put (put (put (put (put (put (put (put (put (put (put (put (put (put (put (put (put (put (put (put (put (put (put (put (put (put (put (put (put (put (put (put (put (put (put (put (argEnv [a0, a1, a2, a3]) 8 (Value.int IntKind.i64 0)) 9 a0) 10 v10) 11 v11) 12 v12) 13 v13) 14 v14) 15 v15) 16 a0) 17 v17) 18 v18) 19 v19) 20 v20) 21 v21) 22 v22) 23 a2) 24 v24) 25 v24) 26 v26) 27 v27) 28 v28) 29 v28) 30 v30) 31 v31) 32 v32) 33 v33) 34 v34) 35 v35) 36 v36) 37 v37) 38 v38) 39 v39) 40 v40) 41 v40) 42 v42) 43 v43) 44 v44) 45 v45) 46 v46) 47 v47) 48 v48) 49 v49) 50 v50) 51 v51) 52 v52) w)))))))))))))))))))))))) w.drew
theorem F45_0_eq (a0 : Value) (a1 : Value) (a2 : Value) (a3 : Value) (w : World) (k : Value → World → Prop) : F45A k [] (argEnv [a0, a1, a2, a3]) w = F45_0 a0 a1 a2 a3 w k := by kernel_rfl
def F45_1 (k : Value → World → Prop) (ρ : Env) (w : World) : Prop :=
  ∃ S : World → Prop, S w.drew ∧ (fun w =>
  pq Try.prog S (nilSem (ρ 0)) fun v55 =>
  pq Try.prog S (Instr.fieldAt 93 v55 6) fun v56 =>
  pq Try.prog S (Instr.loadAt 3 v56) fun v57 =>
  pq Try.prog S (nilSem (ρ 0)) fun v59 =>
  pq Try.prog S (Instr.fieldAt 93 v59 5) fun v60 =>
  pq Try.prog S (Instr.fieldAt 46 v60 0) fun v61 =>
  pq Try.prog S (Instr.loadAt 3 v61) fun v62 =>
  pq Try.prog S (binSem BinOp.eql 3 (Operand.tmp 57) (Operand.tmp 62) v57 v62) fun v63 =>
  pq Try.prog S (nilSem (ρ 0)) fun v64 =>
  pq Try.prog S (Instr.fieldAt 93 v64 7) fun v65 =>
  pu Try.prog (Instr.storeAt 4 v65 v63) w fun w => (
  px Try.prog (binSem BinOp.eql 25 (Operand.tmp 66) (Operand.const (Value.int IntKind.i64 0)) (ρ 2) (Value.int IntKind.i64 0)) w fun v67 w =>
  pG v67 true (fun k => k (ρ 0) w) (w := w) (next := fun v69 w =>
  pG v67 true (fun k => px Try.prog (nilSem v69) w k) (w := w) (next := fun v70 w =>
  pG v67 true (fun k => px Try.prog (Instr.fieldAt 93 v70 7) w k) (w := w) (next := fun v71 w =>
  pG v67 true (fun k => px Try.prog (Instr.loadAt 4 v71) w k) (w := w) (next := fun v72 w =>
  pG v67 true (fun k => k v72 w) (w := w) (next := fun v73 w =>
  pG v73 true (fun k => k (ρ 1) w) (w := w) (next := fun v74 w =>
  pG v73 true (fun k => px Try.prog (binSem BinOp.eql 3 (Operand.tmp 74) (Operand.const (Value.int IntKind.i64 2)) v74 (Value.int IntKind.i64 2)) w k) (w := w) (next := fun v75 w =>
  pG v67 true (fun k => px Try.prog (pickSem v73 v75 (Value.bool false)) w k) (w := w) (next := fun v76 w =>
  pG v67 true (fun k => px Try.prog (Op.unary UnOp.not v76) w k) (w := w) (next := fun v77 w =>
  px Try.prog (pickSem v67 v77 (Value.bool false)) w fun v78 w =>
  pC v78 (
    pVal Try.prog (ρ 3) [] w fun v80 w =>
    F45A k [1, 1, 1, 1, 1, 1] (put (put (put (put (put (put (put (put (put (put (put (put (put (put (put (put (put (put (put (put (put (put (put (put (put (put (put (put ρ 53 (ρ 0)) 54 (ρ 0)) 55 v55) 56 v56) 57 v57) 58 (ρ 0)) 59 v59) 60 v60) 61 v61) 62 v62) 63 v63) 64 v64) 65 v65) 66 (ρ 2)) 67 v67) 68 v67) 69 v69) 70 v70) 71 v71) 72 v72) 73 v73) 74 v74) 75 v75) 76 v76) 77 v77) 78 v78) 79 (ρ 3)) 80 v80) w)
   (
    F45A k [1, 1, 1, 1, 1, 1] (put (put (put (put (put (put (put (put (put (put (put (put (put (put (put (put (put (put (put (put (put (put (put (put (put (put ρ 53 (ρ 0)) 54 (ρ 0)) 55 v55) 56 v56) 57 v57) 58 (ρ 0)) 59 v59) 60 v60) 61 v61) 62 v62) 63 v63) 64 v64) 65 v65) 66 (ρ 2)) 67 v67) 68 v67) 69 v69) 70 v70) 71 v71) 72 v72) 73 v73) 74 v74) 75 v75) 76 v76) 77 v77) 78 v78) w)))))))))))) w.drew
theorem F45_1_eq (k : Value → World → Prop) (ρ : Env) (w : World) : F45A k [1, 1, 1, 1] ρ w = F45_1 k ρ w := by kernel_rfl
def F45_2 (k : Value → World → Prop) (ρ : Env) (w : World) : Prop :=
  px Try.prog (nilSem (ρ 0)) w fun v82 w =>
  px Try.prog (Instr.fieldAt 93 v82 7) w fun v83 w =>
  px Try.prog (Instr.loadAt 4 v83) w fun v84 w =>
  pC v84 (
    k (Value.int IntKind.i64 50) w)
   (
    k (ρ 2) w)
theorem F45_2_eq (k : Value → World → Prop) (ρ : Env) (w : World) : F45A k [1, 1, 1, 1, 1, 1] ρ w = F45_2 k ρ w := by kernel_rfl
theorem F45_in (a0 : Value) (a1 : Value) (a2 : Value) (a3 : Value) (w : World) (k : Value → World → Prop) (h : F45_0 a0 a1 a2 a3 w k) : pFn Try.prog 45 [a0, a1, a2, a3] w k :=
  pFn_of_at Try.mixed Try.func45 (by kernel_rfl) (by kernel_rfl) Try.ntmps45 (by kernel_rfl) (by kernel_rfl) (by simp) ((F45_0_eq a0 a1 a2 a3 w k).mpr h)

/-! ## 46 (*freight/disk.Disk).Create$1 -/
noncomputable def F46B : Code := bodyOf Try.f46
def F46A (k : Value → World → Prop) (q : List Nat) (ρ : Env) (w : World) : Prop := At Try.prog 9 F46B (retQ Try.prog Try.f46.results.toList k) q ρ w
def F46_0 (a0 : Value) (a1 : Value) (w : World) (k : Value → World → Prop) : Prop :=
  px Try.prog (Instr.loadAt 24 a0) w fun v2 w =>
  px Try.prog (Instr.loadAt 9 a1) w fun v3 w =>
  px Try.prog (Instr.build 101 #[]) w fun v4 w =>
  px Try.prog (Instr.box 101 v4) w fun v5 w =>
  px Try.prog (Instr.build 103 #[(0, v3), (1, v5)]) w fun v6 w =>
  px Try.prog (Instr.makeInterface 103 v6) w fun v7 w =>
  pFn Try.prog 47 [v2, v7] w fun v8 w =>
  k (.tuple #[]) w
theorem F46_0_eq (a0 : Value) (a1 : Value) (w : World) (k : Value → World → Prop) : F46A k [] (argEnv [a0, a1]) w = F46_0 a0 a1 w k := by kernel_rfl
theorem F46_in (a0 : Value) (a1 : Value) (w : World) (k : Value → World → Prop) (h : F46_0 a0 a1 w k) : pFn Try.prog 46 [a0, a1] w k :=
  pFn_of_at Try.mixed Try.func46 (by kernel_rfl) (by kernel_rfl) Try.ntmps46 (by kernel_rfl) (by kernel_rfl) (by simp) ((F46_0_eq a0 a1 w k).mpr h)

/-! ## 47 (*freight/disk.Disk).rename -/
noncomputable def F47B : Code := bodyOf Try.f47
def F47A (k : Value → World → Prop) (q : List Nat) (ρ : Env) (w : World) : Prop := At Try.prog 23 F47B (retQ Try.prog Try.f47.results.toList k) q ρ w
def F47_0 (d0 : Value) (c1 : Value) (w : World) (k : Value → World → Prop) : Prop :=
  px Try.prog (nilSem d0) w fun v6 w =>
  px Try.prog (Instr.fieldAt 93 v6 3) w fun v7 w =>
  px Try.prog (Instr.loadAt 91 v7) w fun v8 w =>
  px Try.prog (Instr.buildSlice 91 1 #[(0, c1)]) w fun v10 w =>
  px Try.prog (bSem .append #[91, 91] 91 #[v8, v10]) w fun v11 w =>
  px Try.prog (nilSem d0) w fun v12 w =>
  px Try.prog (Instr.fieldAt 93 v12 3) w fun v13 w =>
  pu Try.prog (Instr.storeAt 91 v13 v11) w fun w =>
  ∃ S : World → Prop, S w.drew ∧ (fun w =>
  pq Try.prog S (nilSem d0) fun v16 =>
  pq Try.prog S (Instr.fieldAt 93 v16 1) fun v17 =>
  pq Try.prog S (Instr.loadAt 90 v17) fun v18 =>
  pq Try.prog S (Instr.makeFunc (Fn.method "freight/disk.on") #[c1] #[]) fun v19 =>
  pq Try.prog S (nilSem v19) fun v20 =>
  pInv Try.prog c1 "freight/disk.on" [v18] w fun v22 w => (
  k (.tuple #[]) w)) w.drew
theorem F47_0_eq (d0 : Value) (c1 : Value) (w : World) (k : Value → World → Prop) : F47A k [] (argEnv [d0, c1]) w = F47_0 d0 c1 w k := by kernel_rfl
theorem F47_in (d0 : Value) (c1 : Value) (w : World) (k : Value → World → Prop) (h : F47_0 d0 c1 w k) : pFn Try.prog 47 [d0, c1] w k :=
  pFn_of_at Try.mixed Try.func47 (by kernel_rfl) (by kernel_rfl) Try.ntmps47 (by kernel_rfl) (by kernel_rfl) (by simp) ((F47_0_eq d0 c1 w k).mpr h)

/-! ## 48 (*freight/disk.thing).settle -/
noncomputable def F48B : Code := bodyOf Try.f48
def F48A (k : Value → World → Prop) (q : List Nat) (ρ : Env) (w : World) : Prop := At Try.prog 12 F48B (retQ Try.prog Try.f48.results.toList k) q ρ w
def F48_0 (t0 : Value) (w : World) (k : Value → World → Prop) : Prop :=
  px Try.prog (nilSem t0) w fun v5 w =>
  px Try.prog (Instr.fieldAt 101 v5 1) w fun v6 w =>
  px Try.prog (Instr.loadAt 30 v6) w fun v7 w =>
  px Try.prog (nilSem t0) w fun v8 w =>
  px Try.prog (Instr.fieldAt 101 v8 0) w fun v9 w =>
  pu Try.prog (Instr.storeAt 30 v9 v7) w fun w =>
  px Try.prog (nilSem t0) w fun v10 w =>
  px Try.prog (Instr.fieldAt 101 v10 2) w fun v11 w =>
  pu Try.prog (Instr.storeAt 99 v11 (Value.slice none 0 0)) w fun w =>
  k (.tuple #[]) w
theorem F48_0_eq (t0 : Value) (w : World) (k : Value → World → Prop) : F48A k [] (argEnv [t0]) w = F48_0 t0 w k := by kernel_rfl
theorem F48_in (t0 : Value) (w : World) (k : Value → World → Prop) (h : F48_0 t0 w k) : pFn Try.prog 48 [t0] w k :=
  pFn_of_at Try.mixed Try.func48 (by kernel_rfl) (by kernel_rfl) Try.ntmps48 (by kernel_rfl) (by kernel_rfl) (by simp) ((F48_0_eq t0 w k).mpr h)

/-! ## 49 (*freight/disk.Disk).SyncNames$1 -/
noncomputable def F49B : Code := bodyOf Try.f49
def F49A (k : Value → World → Prop) (q : List Nat) (ρ : Env) (w : World) : Prop := At Try.prog 12 F49B (retQ Try.prog Try.f49.results.toList k) q ρ w
def F49_0 (a0 : Value) (w : World) (k : Value → World → Prop) : Prop :=
  ∃ S : World → Prop, S w.drew ∧ (fun w =>
  pq Try.prog S (Instr.loadAt 24 a0) fun v1 =>
  pq Try.prog S (Instr.loadAt 24 a0) fun v2 =>
  pq Try.prog S (Instr.loadAt 24 a0) fun v3 =>
  pq Try.prog S (nilSem v3) fun v4 =>
  pq Try.prog S (Instr.fieldAt 93 v4 1) fun v5 =>
  pq Try.prog S (Instr.loadAt 90 v5) fun v6 =>
  pFn Try.prog 50 [v6] w fun v7 w => S w ∧ (
  pq Try.prog S (nilSem v1) fun v8 =>
  pq Try.prog S (Instr.fieldAt 93 v8 2) fun v9 =>
  pu Try.prog (Instr.storeAt 90 v9 v7) w fun w => S w ∧ (
  pq Try.prog S (nilSem v2) fun v10 =>
  pq Try.prog S (Instr.fieldAt 93 v10 3) fun v11 =>
  pu Try.prog (Instr.storeAt 91 v11 (Value.slice none 0 0)) w fun w => (
  k (.tuple #[]) w)))) w.drew
theorem F49_0_eq (a0 : Value) (w : World) (k : Value → World → Prop) : F49A k [] (argEnv [a0]) w = F49_0 a0 w k := by kernel_rfl
theorem F49_in (a0 : Value) (w : World) (k : Value → World → Prop) (h : F49_0 a0 w k) : pFn Try.prog 49 [a0] w k :=
  pFn_of_at Try.mixed Try.func49 (by kernel_rfl) (by kernel_rfl) Try.ntmps49 (by kernel_rfl) (by kernel_rfl) (by simp) ((F49_0_eq a0 w k).mpr h)

/-! ## 50 maps.Clone[freight/disk.names,string,*freight/disk.thing] -/
noncomputable def F50B : Code := bodyOf Try.f50
def F50A (k : Value → World → Prop) (q : List Nat) (ρ : Env) (w : World) : Prop := At Try.prog 9 F50B (retQ Try.prog Try.f50.results.toList k) q ρ w
def F50_0 (m0 : Value) (w : World) (k : Value → World → Prop) : Prop :=
  px Try.prog (binSem BinOp.eql 90 (Operand.tmp 3) (Operand.const (Value.map none)) m0 (Value.map none)) w fun v4 w =>
  pC v4 (
    k (Value.map none) w)
   (
    px Try.prog (Instr.makeInterface 90 m0) w fun v6 w =>
    pFn Try.prog 73 [v6] w fun v7 w =>
    px Try.prog (Instr.typeAssert v7 20 90 false) w fun v8 w =>
    k v8 w)
theorem F50_0_eq (m0 : Value) (w : World) (k : Value → World → Prop) : F50A k [] (argEnv [m0]) w = F50_0 m0 w k := by kernel_rfl
theorem F50_in (m0 : Value) (w : World) (k : Value → World → Prop) (h : F50_0 m0 w k) : pFn Try.prog 50 [m0] w k :=
  pFn_of_at Try.mixed Try.func50 (by kernel_rfl) (by kernel_rfl) Try.ntmps50 (by kernel_rfl) (by kernel_rfl) (by simp) ((F50_0_eq m0 w k).mpr h)

/-! ## 51 (*freight/disk.Disk).Remove -/
noncomputable def F51B : Code := bodyOf Try.f51
def F51A (k : Value → World → Prop) (q : List Nat) (ρ : Env) (w : World) : Prop := At Try.prog 19 F51B (retQ Try.prog Try.f51.results.toList k) q ρ w
def F51_0 (d0 : Value) (name1 : Value) (w : World) (k : Value → World → Prop) : Prop :=
  px Try.prog (Instr.box 24 d0) w fun v2 w =>
  px Try.prog (Instr.box 9 name1) w fun v3 w =>
  px Try.prog (Instr.loadAt 24 v2) w fun v8 w =>
  px Try.prog (Instr.loadAt 9 v3) w fun v9 w =>
  pFn Try.prog 44 [v8, v9] w fun v10 w =>
  px Try.prog (Instr.extract v10 0) w fun v11 w =>
  px Try.prog (Instr.extract v10 1) w fun v12 w =>
  px Try.prog (binSem BinOp.neq 25 (Operand.tmp 13) (Operand.const (Value.int IntKind.i64 0)) v12 (Value.int IntKind.i64 0)) w fun v14 w =>
  pC v14 (
    k v12 w)
   (
    px Try.prog (Instr.loadAt 24 v2) w fun v16 w =>
    px Try.prog (Instr.makeFunc (Fn.func 74) #[] #[v2, v3]) w fun v17 w =>
    pFn Try.prog 45 [v16, (Value.int IntKind.i64 0), (Value.int IntKind.i64 0), v17] w fun v18 w =>
    k v18 w)
theorem F51_0_eq (d0 : Value) (name1 : Value) (w : World) (k : Value → World → Prop) : F51A k [] (argEnv [d0, name1]) w = F51_0 d0 name1 w k := by kernel_rfl
theorem F51_in (d0 : Value) (name1 : Value) (w : World) (k : Value → World → Prop) (h : F51_0 d0 name1 w k) : pFn Try.prog 51 [d0, name1] w k :=
  pFn_of_at Try.mixed Try.func51 (by kernel_rfl) (by kernel_rfl) Try.ntmps51 (by kernel_rfl) (by kernel_rfl) (by simp) ((F51_0_eq d0 name1 w k).mpr h)

/-! ## 52 (*freight/disk.Disk).Rename -/
noncomputable def F52B : Code := bodyOf Try.f52
def F52A (k : Value → World → Prop) (q : List Nat) (ρ : Env) (w : World) : Prop := At Try.prog 30 F52B (retQ Try.prog Try.f52.results.toList k) q ρ w
def F52_0 (d0 : Value) (from1 : Value) (to2 : Value) (w : World) (k : Value → World → Prop) : Prop :=
  px Try.prog (Instr.box 24 d0) w fun v3 w =>
  px Try.prog (Instr.box 9 from1) w fun v4 w =>
  px Try.prog (Instr.box 9 to2) w fun v5 w =>
  px Try.prog (Instr.loadAt 24 v3) w fun v8 w =>
  pFn Try.prog 22 [v8] w fun v9 w =>
  pC v9 (
    k (Value.int IntKind.i64 50) w)
   (
    px Try.prog (Instr.loadAt 9 v4) w fun v11 w =>
    pFn Try.prog 72 [v11] w fun v12 w =>
    px Try.prog (Op.unary UnOp.not v12) w fun v13 w =>
    pG v13 false (fun k => px Try.prog (Instr.loadAt 9 v5) w k) (w := w) (next := fun v15 w =>
    pG v13 false (fun k => pFn Try.prog 72 [v15] w k) (w := w) (next := fun v16 w =>
    pG v13 false (fun k => px Try.prog (Op.unary UnOp.not v16) w k) (w := w) (next := fun v17 w =>
    px Try.prog (pickSem v13 (Value.bool true) v17) w fun v18 w =>
    pC v18 (
      k (Value.int IntKind.i64 51) w)
     (
      ∃ S : World → Prop, S w.drew ∧ (fun w =>
      pq Try.prog S (Instr.loadAt 24 v3) fun v20 =>
      pq Try.prog S (nilSem v20) fun v21 =>
      pq Try.prog S (Instr.fieldAt 93 v21 1) fun v22 =>
      pq Try.prog S (Instr.loadAt 90 v22) fun v23 =>
      pq Try.prog S (Instr.loadAt 9 v4) fun v24 =>
      pq Try.prog S (Instr.lookup 90 v23 v24 false) fun v25 =>
      pq Try.prog S (binSem BinOp.eql 94 (Operand.tmp 25) (Operand.const (Value.pointer none)) v25 (Value.pointer none)) fun v26 =>
      pC v26 (
        k (Value.int IntKind.i64 53) w)
       (
        px Try.prog (Instr.loadAt 24 v3) w fun v27 w =>
        px Try.prog (Instr.makeFunc (Fn.func 75) #[] #[v4, v5, v3]) w fun v28 w =>
        pFn Try.prog 45 [v27, (Value.int IntKind.i64 0), (Value.int IntKind.i64 0), v28] w fun v29 w =>
        k v29 w)) w.drew)))))
theorem F52_0_eq (d0 : Value) (from1 : Value) (to2 : Value) (w : World) (k : Value → World → Prop) : F52A k [] (argEnv [d0, from1, to2]) w = F52_0 d0 from1 to2 w k := by kernel_rfl
theorem F52_in (d0 : Value) (from1 : Value) (to2 : Value) (w : World) (k : Value → World → Prop) (h : F52_0 d0 from1 to2 w k) : pFn Try.prog 52 [d0, from1, to2] w k :=
  pFn_of_at Try.mixed Try.func52 (by kernel_rfl) (by kernel_rfl) Try.ntmps52 (by kernel_rfl) (by kernel_rfl) (by simp) ((F52_0_eq d0 from1 to2 w k).mpr h)

/-! ## 53 (*freight/disk.Disk).none -/
noncomputable def F53B : Code := bodyOf Try.f53
def F53A (k : Value → World → Prop) (q : List Nat) (ρ : Env) (w : World) : Prop := At Try.prog 12 F53B (retQ Try.prog Try.f53.results.toList k) q ρ w
def F53_0 (d0 : Value) (w : World) (k : Value → World → Prop) : Prop :=
  px Try.prog (binSem BinOp.eql 24 (Operand.tmp 3) (Operand.const (Value.pointer none)) d0 (Value.pointer none)) w fun v4 w =>
  pG v4 false (fun k => k d0 w) (w := w) (next := fun v6 w =>
  pG v4 false (fun k => px Try.prog (nilSem v6) w k) (w := w) (next := fun v7 w =>
  pG v4 false (fun k => px Try.prog (Instr.fieldAt 93 v7 0) w k) (w := w) (next := fun v8 w =>
  pG v4 false (fun k => px Try.prog (Instr.loadAt 3 v8) w k) (w := w) (next := fun v9 w =>
  pG v4 false (fun k => px Try.prog (binSem BinOp.eql 3 (Operand.tmp 9) (Operand.const (Value.int IntKind.i64 0)) v9 (Value.int IntKind.i64 0)) w k) (w := w) (next := fun v10 w =>
  px Try.prog (pickSem v4 (Value.bool true) v10) w fun v11 w =>
  k v11 w)))))
theorem F53_0_eq (d0 : Value) (w : World) (k : Value → World → Prop) : F53A k [] (argEnv [d0]) w = F53_0 d0 w k := by kernel_rfl
theorem F53_in (d0 : Value) (w : World) (k : Value → World → Prop) (h : F53_0 d0 w k) : pFn Try.prog 53 [d0] w k :=
  pFn_of_at Try.mixed Try.func53 (by kernel_rfl) (by kernel_rfl) Try.ntmps53 (by kernel_rfl) (by kernel_rfl) (by simp) ((F53_0_eq d0 w k).mpr h)

/-! ## 54 (*freight/disk.Disk).Crash$1 -/
noncomputable def F54B : Code := bodyOf Try.f54
def F54A (k : Value → World → Prop) (q : List Nat) (ρ : Env) (w : World) : Prop := At Try.prog 16 F54B (retQ Try.prog Try.f54.results.toList k) q ρ w
def F54_0 (most0 : Value) (a1 : Value) (w : World) (k : Value → World → Prop) : Prop :=
  px Try.prog (Instr.loadAt 57 a1) w fun v5 w =>
  px Try.prog (bSem .len #[57] 3 #[v5]) w fun v6 w =>
  px Try.prog (binSem BinOp.eql 3 (Operand.tmp 6) (Operand.const (Value.int IntKind.i64 0)) v6 (Value.int IntKind.i64 0)) w fun v7 w =>
  pC v7 (
    k (Value.int IntKind.i64 0) w)
   (
    px Try.prog (Instr.loadAt 57 a1) w fun v8 w =>
    px Try.prog (Instr.indexAt 57 v8 (Value.int IntKind.i64 0)) w fun v9 w =>
    px Try.prog (Instr.loadAt 3 v9) w fun v10 w =>
    px Try.prog (Instr.loadAt 57 a1) w fun v11 w =>
    px Try.prog (Instr.sliceAt 57 v11 (some (Value.int IntKind.i64 1)) none none) w fun v12 w =>
    pu Try.prog (Instr.storeAt 57 a1 v12) w fun w =>
    pFn Try.prog 55 [v10, most0] w fun v15 w =>
    k v15 w)
theorem F54_0_eq (most0 : Value) (a1 : Value) (w : World) (k : Value → World → Prop) : F54A k [] (argEnv [most0, a1]) w = F54_0 most0 a1 w k := by kernel_rfl
theorem F54_in (most0 : Value) (a1 : Value) (w : World) (k : Value → World → Prop) (h : F54_0 most0 a1 w k) : pFn Try.prog 54 [most0, a1] w k :=
  pFn_of_at Try.mixed Try.func54 (by kernel_rfl) (by kernel_rfl) Try.ntmps54 (by kernel_rfl) (by kernel_rfl) (by simp) ((F54_0_eq most0 a1 w k).mpr h)

/-! ## 55 freight/disk.round -/
noncomputable def F55B : Code := bodyOf Try.f55
def F55A (k : Value → World → Prop) (q : List Nat) (ρ : Env) (w : World) : Prop := At Try.prog 17 F55B (retQ Try.prog Try.f55.results.toList k) q ρ w
def F55_0 (pick0 : Value) (most1 : Value) (w : World) (k : Value → World → Prop) : Prop :=
  px Try.prog (binSem BinOp.add 3 (Operand.tmp 7) (Operand.const (Value.int IntKind.i64 1)) most1 (Value.int IntKind.i64 1)) w fun v8 w =>
  px Try.prog (binSem BinOp.rem 3 (Operand.tmp 6) (Operand.tmp 8) pick0 v8) w fun v9 w =>
  px Try.prog (binSem BinOp.lss 3 (Operand.tmp 10) (Operand.const (Value.int IntKind.i64 0)) v9 (Value.int IntKind.i64 0)) w fun v11 w =>
  pC v11 (
    px Try.prog (binSem BinOp.add 3 (Operand.tmp 13) (Operand.const (Value.int IntKind.i64 1)) most1 (Value.int IntKind.i64 1)) w fun v14 w =>
    px Try.prog (binSem BinOp.add 3 (Operand.tmp 12) (Operand.tmp 14) v9 v14) w fun v15 w =>
    F55A k [1, 1, 1] (put (put (put (put (put (put (put (put (put (put (put (put (put (argEnv [pick0, most1]) 4 (Value.int IntKind.i64 0)) 6 pick0) 7 most1) 8 v8) 9 v9) 5 v9) 10 v9) 11 v11) 12 v9) 13 most1) 14 v14) 15 v15) 5 v15) w)
   (
    F55A k [1, 1, 1] (put (put (put (put (put (put (put (put (argEnv [pick0, most1]) 4 (Value.int IntKind.i64 0)) 6 pick0) 7 most1) 8 v8) 9 v9) 5 v9) 10 v9) 11 v11) w)
theorem F55_0_eq (pick0 : Value) (most1 : Value) (w : World) (k : Value → World → Prop) : F55A k [] (argEnv [pick0, most1]) w = F55_0 pick0 most1 w k := by kernel_rfl
def F55_1 (k : Value → World → Prop) (ρ : Env) (w : World) : Prop :=
  k (ρ 5) w
theorem F55_1_eq (k : Value → World → Prop) (ρ : Env) (w : World) : F55A k [1, 1, 1] ρ w = F55_1 k ρ w := by kernel_rfl
theorem F55_in (pick0 : Value) (most1 : Value) (w : World) (k : Value → World → Prop) (h : F55_0 pick0 most1 w k) : pFn Try.prog 55 [pick0, most1] w k :=
  pFn_of_at Try.mixed Try.func55 (by kernel_rfl) (by kernel_rfl) Try.ntmps55 (by kernel_rfl) (by kernel_rfl) (by simp) ((F55_0_eq pick0 most1 w k).mpr h)

/-! ## 56 freight/disk.sorted -/
noncomputable def F56B : Code := bodyOf Try.f56
def F56A (k : Value → World → Prop) (q : List Nat) (ρ : Env) (w : World) : Prop := At Try.prog 6 F56B (retQ Try.prog Try.f56.results.toList k) q ρ w
def F56_0 (n0 : Value) (w : World) (k : Value → World → Prop) : Prop :=
  pFn Try.prog 77 [n0] w fun v4 w =>
  pFn Try.prog 76 [v4] w fun v5 w =>
  k v5 w
theorem F56_0_eq (n0 : Value) (w : World) (k : Value → World → Prop) : F56A k [] (argEnv [n0]) w = F56_0 n0 w k := by kernel_rfl
theorem F56_in (n0 : Value) (w : World) (k : Value → World → Prop) (h : F56_0 n0 w k) : pFn Try.prog 56 [n0] w k :=
  pFn_of_at Try.mixed Try.func56 (by kernel_rfl) (by kernel_rfl) Try.ntmps56 (by kernel_rfl) (by kernel_rfl) (by simp) ((F56_0_eq n0 w k).mpr h)

/-! ## 57 (*freight/disk.thing).left -/
noncomputable def F57B : Code := bodyOf Try.f57
def F57A (k : Value → World → Prop) (q : List Nat) (ρ : Env) (w : World) : Prop := At Try.prog 36 F57B (retQ Try.prog Try.f57.results.toList k) q ρ w
noncomputable def F57B1 : Code := sub F57B [1, 1, 0, 1, 0, 0]
def F57Q1 (k : Value → World → Prop) (N1 : Env → World → Prop) : Xt → Env → World → Prop := thenE N1 (contAt Try.prog 36 F57B (retQ Try.prog Try.f57.results.toList k) [1, 1, 0, 1, 0])
def F57A1 (k : Value → World → Prop) (N1 : Env → World → Prop) (q : List Nat) (ρ : Env) (w : World) : Prop := At Try.prog 36 F57B1 (F57Q1 k N1) q ρ w
def F57L1 (k : Value → World → Prop) (ρ : Env) (w : World) : Prop := LoopAt Try.prog 36 F57B (retQ Try.prog Try.f57.results.toList k) [1, 1, 0, 1, 0] ρ w
theorem F57L1_inv (k : Value → World → Prop) (I : Nat → Env → World → Prop) (round : ∀ m ρ w, I m ρ w → F57A1 k (fun ρ' w' => ∃ m', m' < m ∧ I m' ρ' w') [] ρ w) {m : Nat} {ρ : Env} {w : World} (h : I m ρ w) : F57L1 k ρ w :=
  LoopAt_inv Try.mixed (B := F57B) (Q := (retQ Try.prog Try.f57.results.toList k)) (p := [1, 1, 0, 1, 0]) (by kernel_rfl) (by kernel_rfl) I round h
def F57_0 (t0 : Value) (units1 : Value) (w : World) (k : Value → World → Prop) : Prop :=
  px Try.prog (nilSem t0) w fun v10 w =>
  px Try.prog (Instr.fieldAt 101 v10 0) w fun v11 w =>
  px Try.prog (Instr.loadAt 30 v11) w fun v12 w =>
  px Try.prog (nilSem t0) w fun v14 w =>
  px Try.prog (Instr.fieldAt 101 v14 2) w fun v15 w =>
  px Try.prog (Instr.loadAt 99 v15) w fun v16 w =>
  px Try.prog (bSem .len #[99] 3 #[v16]) w fun v17 w =>
  F57L1 k (put (put (put (put (put (put (put (put (put (put (put (put (argEnv [t0, units1]) 4 (Value.slice none 0 0)) 9 t0) 10 v10) 11 v11) 12 v12) 5 v12) 13 t0) 14 v14) 15 v15) 16 v16) 17 v17) 18 (Value.int IntKind.i64 0)) w
theorem F57_0_eq (t0 : Value) (units1 : Value) (w : World) (k : Value → World → Prop) : F57A k [] (argEnv [t0, units1]) w = F57_0 t0 units1 w k := by kernel_rfl
def F57_1 (k : Value → World → Prop) (N1 : Env → World → Prop) (ρ : Env) (w : World) : Prop :=
  px Try.prog (binSem BinOp.lss 3 (Operand.tmp 18) (Operand.tmp 17) (ρ 18) (ρ 17)) w fun v19 w =>
  pC v19 (
    px Try.prog (Instr.indexAt 99 (ρ 16) (ρ 18)) w fun v20 w =>
    px Try.prog (Instr.loadAt 123 v20) w fun v21 w =>
    pInv Try.prog v21 "freight/disk.units" [] w fun v24 w =>
    px Try.prog (bSem .min #[3, 3] 3 #[(ρ 1), v24]) w fun v25 w =>
    pInv Try.prog v21 "freight/disk.made" [(ρ 5), v25] w fun v29 w =>
    px Try.prog (binSem BinOp.sub 3 (Operand.tmp 30) (Operand.tmp 31) (ρ 1) v25) w fun v32 w =>
    px Try.prog (binSem BinOp.add 3 (Operand.tmp 18) (Operand.const (Value.int IntKind.i64 1)) (ρ 18) (Value.int IntKind.i64 1)) w fun v33 w =>
    N1 (put (put (put (put (put (put (put (put (put (put (put (put (put (put (put (put (put (put (put (put ρ 19 v19) 20 v20) 21 v21) 7 v21) 22 (ρ 1)) 23 v21) 24 v24) 25 v25) 8 v25) 26 v21) 27 (ρ 5)) 28 v25) 29 v29) 5 v29) 30 (ρ 1)) 31 v25) 32 v32) 1 v32) 33 v33) 18 v33) w)
   (
    F57A k [1, 1, 1] (put ρ 19 v19) w)
theorem F57_1_eq (k : Value → World → Prop) (N1 : Env → World → Prop) (ρ : Env) (w : World) : F57A1 k N1 [] ρ w = F57_1 k N1 ρ w := by kernel_rfl
def F57_2 (k : Value → World → Prop) (ρ : Env) (w : World) : Prop :=
  pFn Try.prog 59 [(ρ 5)] w fun v35 w =>
  k v35 w
theorem F57_2_eq (k : Value → World → Prop) (ρ : Env) (w : World) : F57A k [1, 1, 1] ρ w = F57_2 k ρ w := by kernel_rfl
theorem F57_in (t0 : Value) (units1 : Value) (w : World) (k : Value → World → Prop) (h : F57_0 t0 units1 w k) : pFn Try.prog 57 [t0, units1] w k :=
  pFn_of_at Try.mixed Try.func57 (by kernel_rfl) (by kernel_rfl) Try.ntmps57 (by kernel_rfl) (by kernel_rfl) (by simp) ((F57_0_eq t0 units1 w k).mpr h)

/-! ## 58 (*freight/disk.thing).units -/
noncomputable def F58B : Code := bodyOf Try.f58
def F58A (k : Value → World → Prop) (q : List Nat) (ρ : Env) (w : World) : Prop := At Try.prog 21 F58B (retQ Try.prog Try.f58.results.toList k) q ρ w
noncomputable def F58B1 : Code := sub F58B [1, 1, 0, 1, 0, 0]
def F58Q1 (k : Value → World → Prop) (N1 : Env → World → Prop) : Xt → Env → World → Prop := thenE N1 (contAt Try.prog 21 F58B (retQ Try.prog Try.f58.results.toList k) [1, 1, 0, 1, 0])
def F58A1 (k : Value → World → Prop) (N1 : Env → World → Prop) (q : List Nat) (ρ : Env) (w : World) : Prop := At Try.prog 21 F58B1 (F58Q1 k N1) q ρ w
def F58L1 (k : Value → World → Prop) (ρ : Env) (w : World) : Prop := LoopAt Try.prog 21 F58B (retQ Try.prog Try.f58.results.toList k) [1, 1, 0, 1, 0] ρ w
theorem F58L1_inv (k : Value → World → Prop) (I : Nat → Env → World → Prop) (round : ∀ m ρ w, I m ρ w → F58A1 k (fun ρ' w' => ∃ m', m' < m ∧ I m' ρ' w') [] ρ w) {m : Nat} {ρ : Env} {w : World} (h : I m ρ w) : F58L1 k ρ w :=
  LoopAt_inv Try.mixed (B := F58B) (Q := (retQ Try.prog Try.f58.results.toList k)) (p := [1, 1, 0, 1, 0]) (by kernel_rfl) (by kernel_rfl) I round h
def F58_0 (t0 : Value) (w : World) (k : Value → World → Prop) : Prop :=
  px Try.prog (nilSem t0) w fun v7 w =>
  px Try.prog (Instr.fieldAt 101 v7 2) w fun v8 w =>
  px Try.prog (Instr.loadAt 99 v8) w fun v9 w =>
  px Try.prog (bSem .len #[99] 3 #[v9]) w fun v10 w =>
  F58L1 k (put (put (put (put (put (put (put (put (argEnv [t0]) 2 (Value.int IntKind.i64 0)) 3 (Value.int IntKind.i64 0)) 6 t0) 7 v7) 8 v8) 9 v9) 10 v10) 11 (Value.int IntKind.i64 0)) w
theorem F58_0_eq (t0 : Value) (w : World) (k : Value → World → Prop) : F58A k [] (argEnv [t0]) w = F58_0 t0 w k := by kernel_rfl
def F58_1 (k : Value → World → Prop) (N1 : Env → World → Prop) (ρ : Env) (w : World) : Prop :=
  px Try.prog (binSem BinOp.lss 3 (Operand.tmp 11) (Operand.tmp 10) (ρ 11) (ρ 10)) w fun v12 w =>
  pC v12 (
    px Try.prog (Instr.indexAt 99 (ρ 9) (ρ 11)) w fun v13 w =>
    px Try.prog (Instr.loadAt 123 v13) w fun v14 w =>
    pInv Try.prog v14 "freight/disk.units" [] w fun v17 w =>
    px Try.prog (binSem BinOp.add 3 (Operand.tmp 15) (Operand.tmp 17) (ρ 3) v17) w fun v18 w =>
    px Try.prog (binSem BinOp.add 3 (Operand.tmp 11) (Operand.const (Value.int IntKind.i64 1)) (ρ 11) (Value.int IntKind.i64 1)) w fun v19 w =>
    N1 (put (put (put (put (put (put (put (put (put (put (put ρ 12 v12) 13 v13) 14 v14) 5 v14) 15 (ρ 3)) 16 v14) 17 v17) 18 v18) 3 v18) 19 v19) 11 v19) w)
   (
    F58A k [1, 1, 1] (put ρ 12 v12) w)
theorem F58_1_eq (k : Value → World → Prop) (N1 : Env → World → Prop) (ρ : Env) (w : World) : F58A1 k N1 [] ρ w = F58_1 k N1 ρ w := by kernel_rfl
def F58_2 (k : Value → World → Prop) (ρ : Env) (w : World) : Prop :=
  k (ρ 3) w
theorem F58_2_eq (k : Value → World → Prop) (ρ : Env) (w : World) : F58A k [1, 1, 1] ρ w = F58_2 k ρ w := by kernel_rfl
theorem F58_in (t0 : Value) (w : World) (k : Value → World → Prop) (h : F58_0 t0 w k) : pFn Try.prog 58 [t0] w k :=
  pFn_of_at Try.mixed Try.func58 (by kernel_rfl) (by kernel_rfl) Try.ntmps58 (by kernel_rfl) (by kernel_rfl) (by simp) ((F58_0_eq t0 w k).mpr h)

/-! ## 59 slices.Clone[[]byte,byte] -/
noncomputable def F59B : Code := bodyOf Try.f59
def F59A (k : Value → World → Prop) (q : List Nat) (ρ : Env) (w : World) : Prop := At Try.prog 8 F59B (retQ Try.prog Try.f59.results.toList k) q ρ w
def F59_0 (s0 : Value) (w : World) (k : Value → World → Prop) : Prop :=
  px Try.prog (binSem BinOp.eql 30 (Operand.tmp 3) (Operand.const (Value.slice none 0 0)) s0 (Value.slice none 0 0)) w fun v4 w =>
  pC v4 (
    k (Value.slice none 0 0) w)
   (
    px Try.prog (Instr.buildSlice 30 0 #[]) w fun v5 w =>
    px Try.prog (bSem .append #[30, 30] 30 #[v5, s0]) w fun v7 w =>
    k v7 w)
theorem F59_0_eq (s0 : Value) (w : World) (k : Value → World → Prop) : F59A k [] (argEnv [s0]) w = F59_0 s0 w k := by kernel_rfl
theorem F59_in (s0 : Value) (w : World) (k : Value → World → Prop) (h : F59_0 s0 w k) : pFn Try.prog 59 [s0] w k :=
  pFn_of_at Try.mixed Try.func59 (by kernel_rfl) (by kernel_rfl) Try.ntmps59 (by kernel_rfl) (by kernel_rfl) (by simp) ((F59_0_eq s0 w k).mpr h)

/-! ## 61 (*freight/disk.Disk).Truncate$1 -/
noncomputable def F61B : Code := bodyOf Try.f61
def F61A (k : Value → World → Prop) (q : List Nat) (ρ : Env) (w : World) : Prop := At Try.prog 6 F61B (retQ Try.prog Try.f61.results.toList k) q ρ w
def F61_0 (a0 : Value) (a1 : Value) (w : World) (k : Value → World → Prop) : Prop :=
  px Try.prog (Instr.loadAt 94 a0) w fun v2 w =>
  px Try.prog (Instr.loadAt 3 a1) w fun v3 w =>
  px Try.prog (Instr.makeInterface 116 v3) w fun v4 w =>
  pFn Try.prog 62 [v2, v4] w fun v5 w =>
  k (.tuple #[]) w
theorem F61_0_eq (a0 : Value) (a1 : Value) (w : World) (k : Value → World → Prop) : F61A k [] (argEnv [a0, a1]) w = F61_0 a0 a1 w k := by kernel_rfl
theorem F61_in (a0 : Value) (a1 : Value) (w : World) (k : Value → World → Prop) (h : F61_0 a0 a1 w k) : pFn Try.prog 61 [a0, a1] w k :=
  pFn_of_at Try.mixed Try.func61 (by kernel_rfl) (by kernel_rfl) Try.ntmps61 (by kernel_rfl) (by kernel_rfl) (by simp) ((F61_0_eq a0 a1 w k).mpr h)

/-! ## 62 (*freight/disk.thing).add -/
noncomputable def F62B : Code := bodyOf Try.f62
def F62A (k : Value → World → Prop) (q : List Nat) (ρ : Env) (w : World) : Prop := At Try.prog 28 F62B (retQ Try.prog Try.f62.results.toList k) q ρ w
def F62_0 (t0 : Value) (c1 : Value) (w : World) (k : Value → World → Prop) : Prop :=
  px Try.prog (nilSem t0) w fun v6 w =>
  px Try.prog (Instr.fieldAt 101 v6 2) w fun v7 w =>
  px Try.prog (Instr.loadAt 99 v7) w fun v8 w =>
  px Try.prog (Instr.buildSlice 99 1 #[(0, c1)]) w fun v10 w =>
  px Try.prog (bSem .append #[99, 99] 99 #[v8, v10]) w fun v11 w =>
  px Try.prog (nilSem t0) w fun v12 w =>
  px Try.prog (Instr.fieldAt 101 v12 2) w fun v13 w =>
  pu Try.prog (Instr.storeAt 99 v13 v11) w fun w =>
  ∃ S : World → Prop, S w.drew ∧ (fun w =>
  pq Try.prog S (nilSem t0) fun v17 =>
  pq Try.prog S (Instr.fieldAt 101 v17 1) fun v18 =>
  pq Try.prog S (Instr.loadAt 30 v18) fun v19 =>
  pq Try.prog S (Instr.makeFunc (Fn.method "freight/disk.made") #[c1] #[]) fun v22 =>
  pq Try.prog S (nilSem v22) fun v23 =>
  pInv Try.prog c1 "freight/disk.units" [] w fun v21 w => S w ∧ (
  pInv Try.prog c1 "freight/disk.made" [v19, v21] w fun v25 w => S w ∧ (
  pq Try.prog S (nilSem t0) fun v26 =>
  pq Try.prog S (Instr.fieldAt 101 v26 1) fun v27 =>
  pu Try.prog (Instr.storeAt 30 v27 v25) w fun w => (
  k (.tuple #[]) w)))) w.drew
theorem F62_0_eq (t0 : Value) (c1 : Value) (w : World) (k : Value → World → Prop) : F62A k [] (argEnv [t0, c1]) w = F62_0 t0 c1 w k := by kernel_rfl
theorem F62_in (t0 : Value) (c1 : Value) (w : World) (k : Value → World → Prop) (h : F62_0 t0 c1 w k) : pFn Try.prog 62 [t0, c1] w k :=
  pFn_of_at Try.mixed Try.func62 (by kernel_rfl) (by kernel_rfl) Try.ntmps62 (by kernel_rfl) (by kernel_rfl) (by simp) ((F62_0_eq t0 c1 w k).mpr h)

/-! ## 63 (*freight/disk.Disk).WriteAt$1 -/
noncomputable def F63B : Code := bodyOf Try.f63
def F63A (k : Value → World → Prop) (q : List Nat) (ρ : Env) (w : World) : Prop := At Try.prog 10 F63B (retQ Try.prog Try.f63.results.toList k) q ρ w
def F63_0 (a0 : Value) (a1 : Value) (a2 : Value) (w : World) (k : Value → World → Prop) : Prop :=
  ∃ S : World → Prop, S w.drew ∧ (fun w =>
  pq Try.prog S (Instr.loadAt 94 a0) fun v3 =>
  pq Try.prog S (Instr.loadAt 3 a1) fun v4 =>
  pq Try.prog S (Instr.loadAt 30 a2) fun v5 =>
  pFn Try.prog 59 [v5] w fun v6 w => S w ∧ (
  pq Try.prog S (Instr.build 118 #[(0, v4), (1, v6)]) fun v7 =>
  pq Try.prog S (Instr.makeInterface 118 v7) fun v8 =>
  pFn Try.prog 62 [v3, v8] w fun v9 w => (
  k (.tuple #[]) w))) w.drew
theorem F63_0_eq (a0 : Value) (a1 : Value) (a2 : Value) (w : World) (k : Value → World → Prop) : F63A k [] (argEnv [a0, a1, a2]) w = F63_0 a0 a1 a2 w k := by kernel_rfl
theorem F63_in (a0 : Value) (a1 : Value) (a2 : Value) (w : World) (k : Value → World → Prop) (h : F63_0 a0 a1 a2 w k) : pFn Try.prog 63 [a0, a1, a2] w k :=
  pFn_of_at Try.mixed Try.func63 (by kernel_rfl) (by kernel_rfl) Try.ntmps63 (by kernel_rfl) (by kernel_rfl) (by simp) ((F63_0_eq a0 a1 a2 w k).mpr h)

/-! ## 64 slices.Clone[[]freight/api.Span,freight/api.Span] -/
noncomputable def F64B : Code := bodyOf Try.f64
def F64A (k : Value → World → Prop) (q : List Nat) (ρ : Env) (w : World) : Prop := At Try.prog 8 F64B (retQ Try.prog Try.f64.results.toList k) q ρ w
def F64_0 (s0 : Value) (w : World) (k : Value → World → Prop) : Prop :=
  px Try.prog (binSem BinOp.eql 60 (Operand.tmp 3) (Operand.const (Value.slice none 0 0)) s0 (Value.slice none 0 0)) w fun v4 w =>
  pC v4 (
    k (Value.slice none 0 0) w)
   (
    px Try.prog (Instr.buildSlice 60 0 #[]) w fun v5 w =>
    px Try.prog (bSem .append #[60, 60] 60 #[v5, s0]) w fun v7 w =>
    k v7 w)
theorem F64_0_eq (s0 : Value) (w : World) (k : Value → World → Prop) : F64A k [] (argEnv [s0]) w = F64_0 s0 w k := by kernel_rfl
theorem F64_in (s0 : Value) (w : World) (k : Value → World → Prop) (h : F64_0 s0 w k) : pFn Try.prog 64 [s0] w k :=
  pFn_of_at Try.mixed Try.func64 (by kernel_rfl) (by kernel_rfl) Try.ntmps64 (by kernel_rfl) (by kernel_rfl) (by simp) ((F64_0_eq s0 w k).mpr h)

/-! ## 65 (*freight/disk.Disk).Twin$1 -/
noncomputable def F65B : Code := bodyOf Try.f65
def F65A (k : Value → World → Prop) (q : List Nat) (ρ : Env) (w : World) : Prop := At Try.prog 28 F65B (retQ Try.prog Try.f65.results.toList k) q ρ w
def F65_0 (t0 : Value) (a1 : Value) (w : World) (k : Value → World → Prop) : Prop :=
  px Try.prog (Instr.loadAt 120 a1) w fun v4 w =>
  px Try.prog (Instr.lookup 120 v4 t0 false) w fun v6 w =>
  px Try.prog (binSem BinOp.eql 94 (Operand.tmp 6) (Operand.const (Value.pointer none)) v6 (Value.pointer none)) w fun v7 w =>
  pC v7 (
    ∃ S : World → Prop, S w.drew ∧ (fun w =>
    pq Try.prog S (Instr.loadAt 120 a1) fun v8 =>
    pq Try.prog S (nilSem t0) fun v11 =>
    pq Try.prog S (Instr.fieldAt 101 v11 0) fun v12 =>
    pq Try.prog S (Instr.loadAt 30 v12) fun v13 =>
    pq Try.prog S (nilSem t0) fun v15 =>
    pq Try.prog S (Instr.fieldAt 101 v15 1) fun v16 =>
    pq Try.prog S (Instr.loadAt 30 v16) fun v17 =>
    pq Try.prog S (nilSem t0) fun v19 =>
    pq Try.prog S (Instr.fieldAt 101 v19 2) fun v20 =>
    pq Try.prog S (Instr.loadAt 99 v20) fun v21 =>
    pFn Try.prog 66 [v21] w fun v22 w => S w ∧ (
    pq Try.prog S (Instr.build 101 #[(0, v13), (1, v17), (2, v22)]) fun v23 =>
    px Try.prog (Instr.box 101 v23) w fun v24 w => S w ∧ (
    pu Try.prog (Instr.mapUpdate 120 v8 t0 v24) w fun w => (
    F65A k [1, 1] (put (put (put (put (put (put (put (put (put (put (put (put (put (put (put (put (put (put (put (put (put (put (argEnv [t0, a1]) 3 (Value.pointer none)) 4 v4) 5 t0) 6 v6) 7 v7) 8 v8) 9 t0) 10 t0) 11 v11) 12 v12) 13 v13) 14 t0) 15 v15) 16 v16) 17 v17) 18 t0) 19 v19) 20 v20) 21 v21) 22 v22) 23 v23) 24 v24) w)))) w.drew)
   (
    F65A k [1, 1] (put (put (put (put (put (argEnv [t0, a1]) 3 (Value.pointer none)) 4 v4) 5 t0) 6 v6) 7 v7) w)
theorem F65_0_eq (t0 : Value) (a1 : Value) (w : World) (k : Value → World → Prop) : F65A k [] (argEnv [t0, a1]) w = F65_0 t0 a1 w k := by kernel_rfl
def F65_1 (k : Value → World → Prop) (ρ : Env) (w : World) : Prop :=
  px Try.prog (Instr.loadAt 120 (ρ 1)) w fun v25 w =>
  px Try.prog (Instr.lookup 120 v25 (ρ 0) false) w fun v27 w =>
  k v27 w
theorem F65_1_eq (k : Value → World → Prop) (ρ : Env) (w : World) : F65A k [1, 1] ρ w = F65_1 k ρ w := by kernel_rfl
theorem F65_in (t0 : Value) (a1 : Value) (w : World) (k : Value → World → Prop) (h : F65_0 t0 a1 w k) : pFn Try.prog 65 [t0, a1] w k :=
  pFn_of_at Try.mixed Try.func65 (by kernel_rfl) (by kernel_rfl) Try.ntmps65 (by kernel_rfl) (by kernel_rfl) (by simp) ((F65_0_eq t0 a1 w k).mpr h)

/-! ## 66 slices.Clone[[]freight/disk.change,freight/disk.change] -/
noncomputable def F66B : Code := bodyOf Try.f66
def F66A (k : Value → World → Prop) (q : List Nat) (ρ : Env) (w : World) : Prop := At Try.prog 8 F66B (retQ Try.prog Try.f66.results.toList k) q ρ w
def F66_0 (s0 : Value) (w : World) (k : Value → World → Prop) : Prop :=
  px Try.prog (binSem BinOp.eql 99 (Operand.tmp 3) (Operand.const (Value.slice none 0 0)) s0 (Value.slice none 0 0)) w fun v4 w =>
  pC v4 (
    k (Value.slice none 0 0) w)
   (
    px Try.prog (Instr.buildSlice 99 0 #[]) w fun v5 w =>
    px Try.prog (bSem .append #[99, 99] 99 #[v5, s0]) w fun v7 w =>
    k v7 w)
theorem F66_0_eq (s0 : Value) (w : World) (k : Value → World → Prop) : F66A k [] (argEnv [s0]) w = F66_0 s0 w k := by kernel_rfl
theorem F66_in (s0 : Value) (w : World) (k : Value → World → Prop) (h : F66_0 s0 w k) : pFn Try.prog 66 [s0] w k :=
  pFn_of_at Try.mixed Try.func66 (by kernel_rfl) (by kernel_rfl) Try.ntmps66 (by kernel_rfl) (by kernel_rfl) (by simp) ((F66_0_eq s0 w k).mpr h)

/-! ## 69 slices.DeleteFunc[[]string,string] -/
noncomputable def F69B : Code := bodyOf Try.f69
def F69A (k : Value → World → Prop) (q : List Nat) (ρ : Env) (w : World) : Prop := At Try.prog 42 F69B (retQ Try.prog Try.f69.results.toList k) q ρ w
noncomputable def F69B1 : Code := sub F69B [1, 1, 1, 0, 1, 0, 0]
def F69Q1 (k : Value → World → Prop) (N1 : Env → World → Prop) : Xt → Env → World → Prop := thenE N1 (contAt Try.prog 42 F69B (retQ Try.prog Try.f69.results.toList k) [1, 1, 1, 0, 1, 0])
def F69A1 (k : Value → World → Prop) (N1 : Env → World → Prop) (q : List Nat) (ρ : Env) (w : World) : Prop := At Try.prog 42 F69B1 (F69Q1 k N1) q ρ w
def F69L1 (k : Value → World → Prop) (ρ : Env) (w : World) : Prop := LoopAt Try.prog 42 F69B (retQ Try.prog Try.f69.results.toList k) [1, 1, 1, 0, 1, 0] ρ w
theorem F69L1_inv (k : Value → World → Prop) (I : Nat → Env → World → Prop) (round : ∀ m ρ w, I m ρ w → F69A1 k (fun ρ' w' => ∃ m', m' < m ∧ I m' ρ' w') [] ρ w) {m : Nat} {ρ : Env} {w : World} (h : I m ρ w) : F69L1 k ρ w :=
  LoopAt_inv Try.mixed (B := F69B) (Q := (retQ Try.prog Try.f69.results.toList k)) (p := [1, 1, 1, 0, 1, 0]) (by kernel_rfl) (by kernel_rfl) I round h
def F69_0 (s0 : Value) (del1 : Value) (w : World) (k : Value → World → Prop) : Prop :=
  pFn Try.prog 78 [s0, del1] w fun v10 w =>
  px Try.prog (binSem BinOp.eql 3 (Operand.tmp 11) (Operand.const (Value.int IntKind.i64 (-1))) v10 (Value.int IntKind.i64 (-1))) w fun v12 w =>
  pC v12 (
    k s0 w)
   (
    px Try.prog (binSem BinOp.add 3 (Operand.tmp 14) (Operand.const (Value.int IntKind.i64 1)) v10 (Value.int IntKind.i64 1)) w fun v15 w =>
    F69L1 k (put (put (put (put (put (put (put (put (put (put (argEnv [s0, del1]) 4 (Value.slice none 0 0)) 8 s0) 9 del1) 10 v10) 5 v10) 11 v10) 12 v12) 14 v10) 15 v15) 6 v15) w)
theorem F69_0_eq (s0 : Value) (del1 : Value) (w : World) (k : Value → World → Prop) : F69A k [] (argEnv [s0, del1]) w = F69_0 s0 del1 w k := by kernel_rfl
def F69_1 (k : Value → World → Prop) (N1 : Env → World → Prop) (ρ : Env) (w : World) : Prop :=
  px Try.prog (bSem .len #[22] 3 #[(ρ 0)]) w fun v18 w =>
  px Try.prog (binSem BinOp.lss 3 (Operand.tmp 16) (Operand.tmp 18) (ρ 6) v18) w fun v19 w =>
  pC v19 (
    px Try.prog (Instr.indexAt 22 (ρ 0) (ρ 6)) w fun v24 w =>
    px Try.prog (Instr.loadAt 9 v24) w fun v25 w =>
    pVal Try.prog (ρ 1) [v25] w fun v28 w =>
    px Try.prog (Op.unary UnOp.not v28) w fun v29 w =>
    pC v29 (
      px Try.prog (Instr.indexAt 22 (ρ 0) (ρ 5)) w fun v33 w =>
      pu Try.prog (Instr.storeAt 9 v33 v25) w fun w =>
      px Try.prog (binSem BinOp.add 3 (Operand.tmp 34) (Operand.const (Value.int IntKind.i64 1)) (ρ 5) (Value.int IntKind.i64 1)) w fun v35 w =>
      F69A1 k N1 [1, 1] (put (put (put (put (put (put (put (put (put (put (put (put (put (put (put (put (put (put (put (put ρ 16 (ρ 6)) 17 (ρ 0)) 18 v18) 19 v19) 22 (ρ 0)) 23 (ρ 6)) 24 v24) 25 v25) 7 v25) 26 (ρ 1)) 27 v25) 28 v28) 29 v29) 30 (ρ 0)) 31 (ρ 5)) 32 v25) 33 v33) 34 (ρ 5)) 35 v35) 5 v35) w)
     (
      F69A1 k N1 [1, 1] (put (put (put (put (put (put (put (put (put (put (put (put (put ρ 16 (ρ 6)) 17 (ρ 0)) 18 v18) 19 v19) 22 (ρ 0)) 23 (ρ 6)) 24 v24) 25 v25) 7 v25) 26 (ρ 1)) 27 v25) 28 v28) 29 v29) w))
   (
    F69A k [1, 1, 1, 1] (put (put (put (put ρ 16 (ρ 6)) 17 (ρ 0)) 18 v18) 19 v19) w)
theorem F69_1_eq (k : Value → World → Prop) (N1 : Env → World → Prop) (ρ : Env) (w : World) : F69A1 k N1 [] ρ w = F69_1 k N1 ρ w := by kernel_rfl
def F69_2 (k : Value → World → Prop) (N1 : Env → World → Prop) (ρ : Env) (w : World) : Prop :=
  px Try.prog (binSem BinOp.add 3 (Operand.tmp 20) (Operand.const (Value.int IntKind.i64 1)) (ρ 6) (Value.int IntKind.i64 1)) w fun v21 w =>
  N1 (put (put (put ρ 20 (ρ 6)) 21 v21) 6 v21) w
theorem F69_2_eq (k : Value → World → Prop) (N1 : Env → World → Prop) (ρ : Env) (w : World) : F69A1 k N1 [1, 1] ρ w = F69_2 k N1 ρ w := by kernel_rfl
def F69_3 (k : Value → World → Prop) (ρ : Env) (w : World) : Prop :=
  px Try.prog (Instr.sliceAt 22 (ρ 0) (some (ρ 5)) none none) w fun v38 w =>
  px Try.prog (bSem .clear #[22] 0 #[v38]) w fun _ w =>
  px Try.prog (Instr.sliceAt 22 (ρ 0) none (some (ρ 5)) none) w fun v41 w =>
  k v41 w
theorem F69_3_eq (k : Value → World → Prop) (ρ : Env) (w : World) : F69A k [1, 1, 1, 1] ρ w = F69_3 k ρ w := by kernel_rfl
theorem F69_in (s0 : Value) (del1 : Value) (w : World) (k : Value → World → Prop) (h : F69_0 s0 del1 w k) : pFn Try.prog 69 [s0, del1] w k :=
  pFn_of_at Try.mixed Try.func69 (by kernel_rfl) (by kernel_rfl) Try.ntmps69 (by kernel_rfl) (by kernel_rfl) (by simp) ((F69_0_eq s0 del1 w k).mpr h)

/-! ## 70 (*freight/disk.Disk).List$1 -/
noncomputable def F70B : Code := bodyOf Try.f70
def F70A (k : Value → World → Prop) (q : List Nat) (ρ : Env) (w : World) : Prop := At Try.prog 8 F70B (retQ Try.prog Try.f70.results.toList k) q ρ w
def F70_0 (n0 : Value) (a1 : Value) (w : World) (k : Value → World → Prop) : Prop :=
  px Try.prog (Instr.loadAt 9 a1) w fun v5 w =>
  pFn Try.prog 71 [n0, v5] w fun v6 w =>
  px Try.prog (Op.unary UnOp.not v6) w fun v7 w =>
  k v7 w
theorem F70_0_eq (n0 : Value) (a1 : Value) (w : World) (k : Value → World → Prop) : F70A k [] (argEnv [n0, a1]) w = F70_0 n0 a1 w k := by kernel_rfl
theorem F70_in (n0 : Value) (a1 : Value) (w : World) (k : Value → World → Prop) (h : F70_0 n0 a1 w k) : pFn Try.prog 70 [n0, a1] w k :=
  pFn_of_at Try.mixed Try.func70 (by kernel_rfl) (by kernel_rfl) Try.ntmps70 (by kernel_rfl) (by kernel_rfl) (by simp) ((F70_0_eq n0 a1 w k).mpr h)

/-! ## 71 strings.HasPrefix -/
noncomputable def F71B : Code := bodyOf Try.f71
def F71A (k : Value → World → Prop) (q : List Nat) (ρ : Env) (w : World) : Prop := At Try.prog 8 F71B (retQ Try.prog Try.f71.results.toList k) q ρ w
def F71_0 (s0 : Value) (prefix1 : Value) (w : World) (k : Value → World → Prop) : Prop :=
  pFn Try.prog 79 [s0, prefix1] w fun v7 w =>
  k v7 w
theorem F71_0_eq (s0 : Value) (prefix1 : Value) (w : World) (k : Value → World → Prop) : F71A k [] (argEnv [s0, prefix1]) w = F71_0 s0 prefix1 w k := by kernel_rfl
theorem F71_in (s0 : Value) (prefix1 : Value) (w : World) (k : Value → World → Prop) (h : F71_0 s0 prefix1 w k) : pFn Try.prog 71 [s0, prefix1] w k :=
  pFn_of_at Try.mixed Try.func71 (by kernel_rfl) (by kernel_rfl) Try.ntmps71 (by kernel_rfl) (by kernel_rfl) (by simp) ((F71_0_eq s0 prefix1 w k).mpr h)

/-! ## 72 freight/disk.isName -/
noncomputable def F72B : Code := bodyOf Try.f72
def F72A (k : Value → World → Prop) (q : List Nat) (ρ : Env) (w : World) : Prop := At Try.prog 40 F72B (retQ Try.prog Try.f72.results.toList k) q ρ w
noncomputable def F72B1 : Code := sub F72B [1, 0, 1, 0, 0]
def F72Q1 (k : Value → World → Prop) (N1 : Env → World → Prop) : Xt → Env → World → Prop := thenE N1 (contAt Try.prog 40 F72B (retQ Try.prog Try.f72.results.toList k) [1, 0, 1, 0])
def F72A1 (k : Value → World → Prop) (N1 : Env → World → Prop) (q : List Nat) (ρ : Env) (w : World) : Prop := At Try.prog 40 F72B1 (F72Q1 k N1) q ρ w
def F72L1 (k : Value → World → Prop) (ρ : Env) (w : World) : Prop := LoopAt Try.prog 40 F72B (retQ Try.prog Try.f72.results.toList k) [1, 0, 1, 0] ρ w
theorem F72L1_inv (k : Value → World → Prop) (I : Nat → Env → World → Prop) (round : ∀ m ρ w, I m ρ w → F72A1 k (fun ρ' w' => ∃ m', m' < m ∧ I m' ρ' w') [] ρ w) {m : Nat} {ρ : Env} {w : World} (h : I m ρ w) : F72L1 k ρ w :=
  LoopAt_inv Try.mixed (B := F72B) (Q := (retQ Try.prog Try.f72.results.toList k)) (p := [1, 0, 1, 0]) (by kernel_rfl) (by kernel_rfl) I round h
def F72_0 (s0 : Value) (w : World) (k : Value → World → Prop) : Prop :=
  px Try.prog (bSem .len #[9] 3 #[s0]) w fun v6 w =>
  F72L1 k (put (put (put (put (argEnv [s0]) 2 (Value.bool false)) 5 s0) 6 v6) 7 (Value.int IntKind.i64 0)) w
theorem F72_0_eq (s0 : Value) (w : World) (k : Value → World → Prop) : F72A k [] (argEnv [s0]) w = F72_0 s0 w k := by kernel_rfl
def F72_1 (k : Value → World → Prop) (N1 : Env → World → Prop) (ρ : Env) (w : World) : Prop :=
  px Try.prog (binSem BinOp.lss 3 (Operand.tmp 7) (Operand.tmp 6) (ρ 7) (ρ 6)) w fun v8 w =>
  pC v8 (
    px Try.prog (Instr.index 9 (ρ 0) (ρ 7)) w fun v12 w =>
    px Try.prog (binSem BinOp.lss 5 (Operand.tmp 13) (Operand.const (Value.int IntKind.u8 97)) v12 (Value.int IntKind.u8 97)) w fun v14 w =>
    pG v14 false (fun k => k v12 w) (w := w) (next := fun v16 w =>
    pG v14 false (fun k => px Try.prog (binSem BinOp.gtr 5 (Operand.tmp 16) (Operand.const (Value.int IntKind.u8 122)) v16 (Value.int IntKind.u8 122)) w k) (w := w) (next := fun v17 w =>
    px Try.prog (pickSem v14 (Value.bool true) v17) w fun v18 w =>
    pG v18 true (fun k => k v12 w) (w := w) (next := fun v20 w =>
    pG v18 true (fun k => px Try.prog (binSem BinOp.lss 5 (Operand.tmp 20) (Operand.const (Value.int IntKind.u8 48)) v20 (Value.int IntKind.u8 48)) w k) (w := w) (next := fun v21 w =>
    pG v18 true (fun k => k v21 w) (w := w) (next := fun v22 w =>
    pG v22 false (fun k => k v12 w) (w := w) (next := fun v23 w =>
    pG v22 false (fun k => px Try.prog (binSem BinOp.gtr 5 (Operand.tmp 23) (Operand.const (Value.int IntKind.u8 57)) v23 (Value.int IntKind.u8 57)) w k) (w := w) (next := fun v24 w =>
    pG v18 true (fun k => px Try.prog (pickSem v22 (Value.bool true) v24) w k) (w := w) (next := fun v25 w =>
    px Try.prog (pickSem v18 v25 (Value.bool false)) w fun v26 w =>
    pG v26 true (fun k => k v12 w) (w := w) (next := fun v28 w =>
    pG v26 true (fun k => pFn Try.prog 80 [(Value.string (ByteArray.mk #[46, 45, 95, 43])), v28] w k) (w := w) (next := fun v29 w =>
    pG v26 true (fun k => px Try.prog (binSem BinOp.lss 3 (Operand.tmp 29) (Operand.const (Value.int IntKind.i64 0)) v29 (Value.int IntKind.i64 0)) w k) (w := w) (next := fun v30 w =>
    px Try.prog (pickSem v26 v30 (Value.bool false)) w fun v31 w =>
    pC v31 (
      k (Value.bool false) w)
     (
      px Try.prog (binSem BinOp.add 3 (Operand.tmp 7) (Operand.const (Value.int IntKind.i64 1)) (ρ 7) (Value.int IntKind.i64 1)) w fun v32 w =>
      N1 (put (put (put (put (put (put (put (put (put (put (put (put (put (put (put (put (put (put (put (put (put (put (put (put (put (put (put (put ρ 8 v8) 9 (ρ 7)) 3 (ρ 7)) 10 (ρ 0)) 11 (ρ 7)) 12 v12) 4 v12) 13 v12) 14 v14) 15 v14) 16 v16) 17 v17) 18 v18) 19 v18) 20 v20) 21 v21) 22 v22) 23 v23) 24 v24) 25 v25) 26 v26) 27 v26) 28 v28) 29 v29) 30 v30) 31 v31) 32 v32) 7 v32) w)))))))))))))
   (
    F72A k [1, 1] (put ρ 8 v8) w)
theorem F72_1_eq (k : Value → World → Prop) (N1 : Env → World → Prop) (ρ : Env) (w : World) : F72A1 k N1 [] ρ w = F72_1 k N1 ρ w := by kernel_rfl
def F72_2 (k : Value → World → Prop) (ρ : Env) (w : World) : Prop :=
  px Try.prog (binSem BinOp.neq 9 (Operand.tmp 33) (Operand.const (Value.string (ByteArray.mk #[]))) (ρ 0) (Value.string (ByteArray.mk #[]))) w fun v34 w =>
  pG v34 true (fun k => k (ρ 0) w) (w := w) (next := fun v36 w =>
  pG v34 true (fun k => px Try.prog (bSem .len #[9] 3 #[v36]) w k) (w := w) (next := fun v37 w =>
  pG v34 true (fun k => px Try.prog (binSem BinOp.leq 3 (Operand.tmp 37) (Operand.const (Value.int IntKind.i64 112)) v37 (Value.int IntKind.i64 112)) w k) (w := w) (next := fun v38 w =>
  px Try.prog (pickSem v34 v38 (Value.bool false)) w fun v39 w =>
  k v39 w)))
theorem F72_2_eq (k : Value → World → Prop) (ρ : Env) (w : World) : F72A k [1, 1] ρ w = F72_2 k ρ w := by kernel_rfl
theorem F72_in (s0 : Value) (w : World) (k : Value → World → Prop) (h : F72_0 s0 w k) : pFn Try.prog 72 [s0] w k :=
  pFn_of_at Try.mixed Try.func72 (by kernel_rfl) (by kernel_rfl) Try.ntmps72 (by kernel_rfl) (by kernel_rfl) (by simp) ((F72_0_eq s0 w k).mpr h)

/-! ## 74 (*freight/disk.Disk).Remove$1 -/
noncomputable def F74B : Code := bodyOf Try.f74
def F74A (k : Value → World → Prop) (q : List Nat) (ρ : Env) (w : World) : Prop := At Try.prog 6 F74B (retQ Try.prog Try.f74.results.toList k) q ρ w
def F74_0 (a0 : Value) (a1 : Value) (w : World) (k : Value → World → Prop) : Prop :=
  px Try.prog (Instr.loadAt 24 a0) w fun v2 w =>
  px Try.prog (Instr.loadAt 9 a1) w fun v3 w =>
  px Try.prog (Instr.makeInterface 133 v3) w fun v4 w =>
  pFn Try.prog 47 [v2, v4] w fun v5 w =>
  k (.tuple #[]) w
theorem F74_0_eq (a0 : Value) (a1 : Value) (w : World) (k : Value → World → Prop) : F74A k [] (argEnv [a0, a1]) w = F74_0 a0 a1 w k := by kernel_rfl
theorem F74_in (a0 : Value) (a1 : Value) (w : World) (k : Value → World → Prop) (h : F74_0 a0 a1 w k) : pFn Try.prog 74 [a0, a1] w k :=
  pFn_of_at Try.mixed Try.func74 (by kernel_rfl) (by kernel_rfl) Try.ntmps74 (by kernel_rfl) (by kernel_rfl) (by simp) ((F74_0_eq a0 a1 w k).mpr h)

/-! ## 75 (*freight/disk.Disk).Rename$1 -/
noncomputable def F75B : Code := bodyOf Try.f75
def F75A (k : Value → World → Prop) (q : List Nat) (ρ : Env) (w : World) : Prop := At Try.prog 12 F75B (retQ Try.prog Try.f75.results.toList k) q ρ w
def F75_0 (a0 : Value) (a1 : Value) (a2 : Value) (w : World) (k : Value → World → Prop) : Prop :=
  px Try.prog (Instr.loadAt 9 a0) w fun v3 w =>
  px Try.prog (Instr.loadAt 9 a1) w fun v4 w =>
  px Try.prog (binSem BinOp.neq 9 (Operand.tmp 3) (Operand.tmp 4) v3 v4) w fun v5 w =>
  pC v5 (
    px Try.prog (Instr.loadAt 24 a2) w fun v6 w =>
    px Try.prog (Instr.loadAt 9 a0) w fun v7 w =>
    px Try.prog (Instr.loadAt 9 a1) w fun v8 w =>
    px Try.prog (Instr.build 135 #[(0, v7), (1, v8)]) w fun v9 w =>
    px Try.prog (Instr.makeInterface 135 v9) w fun v10 w =>
    pFn Try.prog 47 [v6, v10] w fun v11 w =>
    k (.tuple #[]) w)
   (
    k (.tuple #[]) w)
theorem F75_0_eq (a0 : Value) (a1 : Value) (a2 : Value) (w : World) (k : Value → World → Prop) : F75A k [] (argEnv [a0, a1, a2]) w = F75_0 a0 a1 a2 w k := by kernel_rfl
theorem F75_in (a0 : Value) (a1 : Value) (a2 : Value) (w : World) (k : Value → World → Prop) (h : F75_0 a0 a1 a2 w k) : pFn Try.prog 75 [a0, a1, a2] w k :=
  pFn_of_at Try.mixed Try.func75 (by kernel_rfl) (by kernel_rfl) Try.ntmps75 (by kernel_rfl) (by kernel_rfl) (by simp) ((F75_0_eq a0 a1 a2 w k).mpr h)

/-! ## 78 slices.IndexFunc[[]string,string] -/
noncomputable def F78B : Code := bodyOf Try.f78
def F78A (k : Value → World → Prop) (q : List Nat) (ρ : Env) (w : World) : Prop := At Try.prog 19 F78B (retQ Try.prog Try.f78.results.toList k) q ρ w
noncomputable def F78B1 : Code := sub F78B [1, 0, 1, 0, 0]
def F78Q1 (k : Value → World → Prop) (N1 : Env → World → Prop) : Xt → Env → World → Prop := thenE N1 (contAt Try.prog 19 F78B (retQ Try.prog Try.f78.results.toList k) [1, 0, 1, 0])
def F78A1 (k : Value → World → Prop) (N1 : Env → World → Prop) (q : List Nat) (ρ : Env) (w : World) : Prop := At Try.prog 19 F78B1 (F78Q1 k N1) q ρ w
def F78L1 (k : Value → World → Prop) (ρ : Env) (w : World) : Prop := LoopAt Try.prog 19 F78B (retQ Try.prog Try.f78.results.toList k) [1, 0, 1, 0] ρ w
theorem F78L1_inv (k : Value → World → Prop) (I : Nat → Env → World → Prop) (round : ∀ m ρ w, I m ρ w → F78A1 k (fun ρ' w' => ∃ m', m' < m ∧ I m' ρ' w') [] ρ w) {m : Nat} {ρ : Env} {w : World} (h : I m ρ w) : F78L1 k ρ w :=
  LoopAt_inv Try.mixed (B := F78B) (Q := (retQ Try.prog Try.f78.results.toList k)) (p := [1, 0, 1, 0]) (by kernel_rfl) (by kernel_rfl) I round h
def F78_0 (s0 : Value) (f1 : Value) (w : World) (k : Value → World → Prop) : Prop :=
  px Try.prog (bSem .len #[22] 3 #[s0]) w fun v7 w =>
  F78L1 k (put (put (put (put (argEnv [s0, f1]) 4 (Value.int IntKind.i64 0)) 6 s0) 7 v7) 8 (Value.int IntKind.i64 0)) w
theorem F78_0_eq (s0 : Value) (f1 : Value) (w : World) (k : Value → World → Prop) : F78A k [] (argEnv [s0, f1]) w = F78_0 s0 f1 w k := by kernel_rfl
def F78_1 (k : Value → World → Prop) (N1 : Env → World → Prop) (ρ : Env) (w : World) : Prop :=
  px Try.prog (binSem BinOp.lss 3 (Operand.tmp 8) (Operand.tmp 7) (ρ 8) (ρ 7)) w fun v9 w =>
  pC v9 (
    px Try.prog (Instr.indexAt 22 (ρ 0) (ρ 8)) w fun v14 w =>
    px Try.prog (Instr.loadAt 9 v14) w fun v15 w =>
    pVal Try.prog (ρ 1) [v15] w fun v16 w =>
    pC v16 (
      k (ρ 8) w)
     (
      px Try.prog (binSem BinOp.add 3 (Operand.tmp 8) (Operand.const (Value.int IntKind.i64 1)) (ρ 8) (Value.int IntKind.i64 1)) w fun v18 w =>
      N1 (put (put (put (put (put (put (put (put (put (put (put ρ 9 v9) 10 (ρ 8)) 5 (ρ 8)) 11 (ρ 1)) 12 (ρ 0)) 13 (ρ 8)) 14 v14) 15 v15) 16 v16) 18 v18) 8 v18) w))
   (
    F78A k [1, 1] (put ρ 9 v9) w)
theorem F78_1_eq (k : Value → World → Prop) (N1 : Env → World → Prop) (ρ : Env) (w : World) : F78A1 k N1 [] ρ w = F78_1 k N1 ρ w := by kernel_rfl
def F78_2 (k : Value → World → Prop) (ρ : Env) (w : World) : Prop :=
  k (Value.int IntKind.i64 (-1)) w
theorem F78_2_eq (k : Value → World → Prop) (ρ : Env) (w : World) : F78A k [1, 1] ρ w = F78_2 k ρ w := by kernel_rfl
theorem F78_in (s0 : Value) (f1 : Value) (w : World) (k : Value → World → Prop) (h : F78_0 s0 f1 w k) : pFn Try.prog 78 [s0, f1] w k :=
  pFn_of_at Try.mixed Try.func78 (by kernel_rfl) (by kernel_rfl) Try.ntmps78 (by kernel_rfl) (by kernel_rfl) (by simp) ((F78_0_eq s0 f1 w k).mpr h)

/-! ## 79 internal/stringslite.HasPrefix -/
noncomputable def F79B : Code := bodyOf Try.f79
def F79A (k : Value → World → Prop) (q : List Nat) (ρ : Env) (w : World) : Prop := At Try.prog 18 F79B (retQ Try.prog Try.f79.results.toList k) q ρ w
def F79_0 (s0 : Value) (prefix1 : Value) (w : World) (k : Value → World → Prop) : Prop :=
  px Try.prog (bSem .len #[9] 3 #[s0]) w fun v6 w =>
  px Try.prog (bSem .len #[9] 3 #[prefix1]) w fun v8 w =>
  px Try.prog (binSem BinOp.geq 3 (Operand.tmp 6) (Operand.tmp 8) v6 v8) w fun v9 w =>
  pG v9 true (fun k => k s0 w) (w := w) (next := fun v11 w =>
  pG v9 true (fun k => k prefix1 w) (w := w) (next := fun v12 w =>
  pG v9 true (fun k => px Try.prog (bSem .len #[9] 3 #[v12]) w k) (w := w) (next := fun v13 w =>
  pG v9 true (fun k => px Try.prog (Instr.sliceAt 9 v11 none (some v13) none) w k) (w := w) (next := fun v14 w =>
  pG v9 true (fun k => k prefix1 w) (w := w) (next := fun v15 w =>
  pG v9 true (fun k => px Try.prog (binSem BinOp.eql 9 (Operand.tmp 14) (Operand.tmp 15) v14 v15) w k) (w := w) (next := fun v16 w =>
  px Try.prog (pickSem v9 v16 (Value.bool false)) w fun v17 w =>
  k v17 w))))))
theorem F79_0_eq (s0 : Value) (prefix1 : Value) (w : World) (k : Value → World → Prop) : F79A k [] (argEnv [s0, prefix1]) w = F79_0 s0 prefix1 w k := by kernel_rfl
theorem F79_in (s0 : Value) (prefix1 : Value) (w : World) (k : Value → World → Prop) (h : F79_0 s0 prefix1 w k) : pFn Try.prog 79 [s0, prefix1] w k :=
  pFn_of_at Try.mixed Try.func79 (by kernel_rfl) (by kernel_rfl) Try.ntmps79 (by kernel_rfl) (by kernel_rfl) (by simp) ((F79_0_eq s0 prefix1 w k).mpr h)

/-! ## 123 (freight/disk.making).on -/
noncomputable def F123B : Code := bodyOf Try.f123
def F123A (k : Value → World → Prop) (q : List Nat) (ρ : Env) (w : World) : Prop := At Try.prog 9 F123B (retQ Try.prog Try.f123.results.toList k) q ρ w
def F123_0 (m0 : Value) (n1 : Value) (w : World) (k : Value → World → Prop) : Prop :=
  px Try.prog (Instr.box 103 m0) w fun v2 w =>
  px Try.prog (Instr.fieldAt 103 v2 0) w fun v5 w =>
  px Try.prog (Instr.loadAt 9 v5) w fun v6 w =>
  px Try.prog (Instr.fieldAt 103 v2 1) w fun v7 w =>
  px Try.prog (Instr.loadAt 94 v7) w fun v8 w =>
  pu Try.prog (Instr.mapUpdate 90 n1 v6 v8) w fun w =>
  k (.tuple #[]) w
theorem F123_0_eq (m0 : Value) (n1 : Value) (w : World) (k : Value → World → Prop) : F123A k [] (argEnv [m0, n1]) w = F123_0 m0 n1 w k := by kernel_rfl
theorem F123_in (m0 : Value) (n1 : Value) (w : World) (k : Value → World → Prop) (h : F123_0 m0 n1 w k) : pFn Try.prog 123 [m0, n1] w k :=
  pFn_of_at Try.mixed Try.func123 (by kernel_rfl) (by kernel_rfl) Try.ntmps123 (by kernel_rfl) (by kernel_rfl) (by simp) ((F123_0_eq m0 n1 w k).mpr h)

/-! ## 124 (freight/disk.making).twin -/
noncomputable def F124B : Code := bodyOf Try.f124
def F124A (k : Value → World → Prop) (q : List Nat) (ρ : Env) (w : World) : Prop := At Try.prog 13 F124B (retQ Try.prog Try.f124.results.toList k) q ρ w
def F124_0 (m0 : Value) (of1 : Value) (w : World) (k : Value → World → Prop) : Prop :=
  px Try.prog (Instr.box 103 m0) w fun v2 w =>
  px Try.prog (Instr.fieldAt 103 v2 0) w fun v5 w =>
  px Try.prog (Instr.loadAt 9 v5) w fun v6 w =>
  px Try.prog (Instr.fieldAt 103 v2 1) w fun v8 w =>
  px Try.prog (Instr.loadAt 94 v8) w fun v9 w =>
  px Try.prog (Instr.lookup 120 of1 v9 false) w fun v10 w =>
  px Try.prog (Instr.build 103 #[(0, v6), (1, v10)]) w fun v11 w =>
  px Try.prog (Instr.makeInterface 103 v11) w fun v12 w =>
  k v12 w
theorem F124_0_eq (m0 : Value) (of1 : Value) (w : World) (k : Value → World → Prop) : F124A k [] (argEnv [m0, of1]) w = F124_0 m0 of1 w k := by kernel_rfl
theorem F124_in (m0 : Value) (of1 : Value) (w : World) (k : Value → World → Prop) (h : F124_0 m0 of1 w k) : pFn Try.prog 124 [m0, of1] w k :=
  pFn_of_at Try.mixed Try.func124 (by kernel_rfl) (by kernel_rfl) Try.ntmps124 (by kernel_rfl) (by kernel_rfl) (by simp) ((F124_0_eq m0 of1 w k).mpr h)

/-! ## 125 (freight/disk.cut).made -/
noncomputable def F125B : Code := bodyOf Try.f125
def F125A (k : Value → World → Prop) (q : List Nat) (ρ : Env) (w : World) : Prop := At Try.prog 13 F125B (retQ Try.prog Try.f125.results.toList k) q ρ w
def F125_0 (c0 : Value) (on1 : Value) (units2 : Value) (w : World) (k : Value → World → Prop) : Prop :=
  px Try.prog (binSem BinOp.eql 3 (Operand.tmp 7) (Operand.const (Value.int IntKind.i64 0)) units2 (Value.int IntKind.i64 0)) w fun v8 w =>
  pC v8 (
    k on1 w)
   (
    px Try.prog (Instr.sliceAt 30 on1 none (some c0) none) w fun v12 w =>
    k v12 w)
theorem F125_0_eq (c0 : Value) (on1 : Value) (units2 : Value) (w : World) (k : Value → World → Prop) : F125A k [] (argEnv [c0, on1, units2]) w = F125_0 c0 on1 units2 w k := by kernel_rfl
theorem F125_in (c0 : Value) (on1 : Value) (units2 : Value) (w : World) (k : Value → World → Prop) (h : F125_0 c0 on1 units2 w k) : pFn Try.prog 125 [c0, on1, units2] w k :=
  pFn_of_at Try.mixed Try.func125 (by kernel_rfl) (by kernel_rfl) Try.ntmps125 (by kernel_rfl) (by kernel_rfl) (by simp) ((F125_0_eq c0 on1 units2 w k).mpr h)

/-! ## 126 (freight/disk.cut).units -/
noncomputable def F126B : Code := bodyOf Try.f126
def F126A (k : Value → World → Prop) (q : List Nat) (ρ : Env) (w : World) : Prop := At Try.prog 3 F126B (retQ Try.prog Try.f126.results.toList k) q ρ w
def F126_0 (c0 : Value) (w : World) (k : Value → World → Prop) : Prop :=
  k (Value.int IntKind.i64 1) w
theorem F126_0_eq (c0 : Value) (w : World) (k : Value → World → Prop) : F126A k [] (argEnv [c0]) w = F126_0 c0 w k := by kernel_rfl
theorem F126_in (c0 : Value) (w : World) (k : Value → World → Prop) (h : F126_0 c0 w k) : pFn Try.prog 126 [c0] w k :=
  pFn_of_at Try.mixed Try.func126 (by kernel_rfl) (by kernel_rfl) Try.ntmps126 (by kernel_rfl) (by kernel_rfl) (by simp) ((F126_0_eq c0 w k).mpr h)

/-! ## 127 (freight/disk.write).made -/
noncomputable def F127B : Code := bodyOf Try.f127
def F127A (k : Value → World → Prop) (q : List Nat) (ρ : Env) (w : World) : Prop := At Try.prog 32 F127B (retQ Try.prog Try.f127.results.toList k) q ρ w
def F127_0 (w0 : Value) (on1 : Value) (units2 : Value) (w : World) (k : Value → World → Prop) : Prop :=
  px Try.prog (Instr.box 118 w0) w fun v3 w =>
  px Try.prog (binSem BinOp.eql 3 (Operand.tmp 8) (Operand.const (Value.int IntKind.i64 0)) units2 (Value.int IntKind.i64 0)) w fun v9 w =>
  pC v9 (
    k on1 w)
   (
    px Try.prog (bSem .len #[30] 3 #[on1]) w fun v12 w =>
    px Try.prog (Instr.fieldAt 118 v3 0) w fun v13 w =>
    px Try.prog (Instr.loadAt 3 v13) w fun v14 w =>
    px Try.prog (binSem BinOp.add 3 (Operand.tmp 14) (Operand.tmp 15) v14 units2) w fun v16 w =>
    px Try.prog (bSem .max #[3, 3] 3 #[v12, v16]) w fun v17 w =>
    px Try.prog (Instr.makeSlice 30 v17 v17) w fun v18 w =>
    px Try.prog (bSem .copy #[30, 30] 3 #[v18, on1]) w fun v21 w =>
    ∃ S : World → Prop, S w.drew ∧ (fun w =>
    pq Try.prog S (Instr.fieldAt 118 v3 0) fun v23 =>
    pq Try.prog S (Instr.loadAt 3 v23) fun v24 =>
    pq Try.prog S (Instr.sliceAt 30 v18 (some v24) none none) fun v25 =>
    pq Try.prog S (Instr.fieldAt 118 v3 1) fun v26 =>
    pq Try.prog S (Instr.loadAt 30 v26) fun v27 =>
    pq Try.prog S (Instr.sliceAt 30 v27 none (some units2) none) fun v29 =>
    px Try.prog (bSem .copy #[30, 30] 3 #[v25, v29]) w fun v30 w => (
    k v18 w)) w.drew)
theorem F127_0_eq (w0 : Value) (on1 : Value) (units2 : Value) (w : World) (k : Value → World → Prop) : F127A k [] (argEnv [w0, on1, units2]) w = F127_0 w0 on1 units2 w k := by kernel_rfl
theorem F127_in (w0 : Value) (on1 : Value) (units2 : Value) (w : World) (k : Value → World → Prop) (h : F127_0 w0 on1 units2 w k) : pFn Try.prog 127 [w0, on1, units2] w k :=
  pFn_of_at Try.mixed Try.func127 (by kernel_rfl) (by kernel_rfl) Try.ntmps127 (by kernel_rfl) (by kernel_rfl) (by simp) ((F127_0_eq w0 on1 units2 w k).mpr h)

/-! ## 128 (freight/disk.write).units -/
noncomputable def F128B : Code := bodyOf Try.f128
def F128A (k : Value → World → Prop) (q : List Nat) (ρ : Env) (w : World) : Prop := At Try.prog 6 F128B (retQ Try.prog Try.f128.results.toList k) q ρ w
def F128_0 (w0 : Value) (w : World) (k : Value → World → Prop) : Prop :=
  px Try.prog (Instr.box 118 w0) w fun v1 w =>
  px Try.prog (Instr.fieldAt 118 v1 1) w fun v3 w =>
  px Try.prog (Instr.loadAt 30 v3) w fun v4 w =>
  px Try.prog (bSem .len #[30] 3 #[v4]) w fun v5 w =>
  k v5 w
theorem F128_0_eq (w0 : Value) (w : World) (k : Value → World → Prop) : F128A k [] (argEnv [w0]) w = F128_0 w0 w k := by kernel_rfl
theorem F128_in (w0 : Value) (w : World) (k : Value → World → Prop) (h : F128_0 w0 w k) : pFn Try.prog 128 [w0] w k :=
  pFn_of_at Try.mixed Try.func128 (by kernel_rfl) (by kernel_rfl) Try.ntmps128 (by kernel_rfl) (by kernel_rfl) (by simp) ((F128_0_eq w0 w k).mpr h)

/-! ## 129 (freight/disk.taking).on -/
noncomputable def F129B : Code := bodyOf Try.f129
def F129A (k : Value → World → Prop) (q : List Nat) (ρ : Env) (w : World) : Prop := At Try.prog 6 F129B (retQ Try.prog Try.f129.results.toList k) q ρ w
def F129_0 (t0 : Value) (n1 : Value) (w : World) (k : Value → World → Prop) : Prop :=
  px Try.prog (bSem .delete #[90, 9] 0 #[n1, t0]) w fun _ w =>
  k (.tuple #[]) w
theorem F129_0_eq (t0 : Value) (n1 : Value) (w : World) (k : Value → World → Prop) : F129A k [] (argEnv [t0, n1]) w = F129_0 t0 n1 w k := by kernel_rfl
theorem F129_in (t0 : Value) (n1 : Value) (w : World) (k : Value → World → Prop) (h : F129_0 t0 n1 w k) : pFn Try.prog 129 [t0, n1] w k :=
  pFn_of_at Try.mixed Try.func129 (by kernel_rfl) (by kernel_rfl) Try.ntmps129 (by kernel_rfl) (by kernel_rfl) (by simp) ((F129_0_eq t0 n1 w k).mpr h)

/-! ## 130 (freight/disk.taking).twin -/
noncomputable def F130B : Code := bodyOf Try.f130
def F130A (k : Value → World → Prop) (q : List Nat) (ρ : Env) (w : World) : Prop := At Try.prog 7 F130B (retQ Try.prog Try.f130.results.toList k) q ρ w
def F130_0 (t0 : Value) (a1 : Value) (w : World) (k : Value → World → Prop) : Prop :=
  px Try.prog (Instr.makeInterface 133 t0) w fun v6 w =>
  k v6 w
theorem F130_0_eq (t0 : Value) (a1 : Value) (w : World) (k : Value → World → Prop) : F130A k [] (argEnv [t0, a1]) w = F130_0 t0 a1 w k := by kernel_rfl
theorem F130_in (t0 : Value) (a1 : Value) (w : World) (k : Value → World → Prop) (h : F130_0 t0 a1 w k) : pFn Try.prog 130 [t0, a1] w k :=
  pFn_of_at Try.mixed Try.func130 (by kernel_rfl) (by kernel_rfl) Try.ntmps130 (by kernel_rfl) (by kernel_rfl) (by simp) ((F130_0_eq t0 a1 w k).mpr h)

/-! ## 131 (freight/disk.giving).on -/
noncomputable def F131B : Code := bodyOf Try.f131
def F131A (k : Value → World → Prop) (q : List Nat) (ρ : Env) (w : World) : Prop := At Try.prog 16 F131B (retQ Try.prog Try.f131.results.toList k) q ρ w
def F131_0 (g0 : Value) (n1 : Value) (w : World) (k : Value → World → Prop) : Prop :=
  px Try.prog (Instr.box 135 g0) w fun v2 w =>
  px Try.prog (Instr.fieldAt 135 v2 0) w fun v6 w =>
  px Try.prog (Instr.loadAt 9 v6) w fun v7 w =>
  px Try.prog (Instr.lookup 90 n1 v7 false) w fun v8 w =>
  px Try.prog (Instr.fieldAt 135 v2 0) w fun v10 w =>
  px Try.prog (Instr.loadAt 9 v10) w fun v11 w =>
  px Try.prog (bSem .delete #[90, 9] 0 #[n1, v11]) w fun _ w =>
  px Try.prog (Instr.fieldAt 135 v2 1) w fun v13 w =>
  px Try.prog (Instr.loadAt 9 v13) w fun v14 w =>
  pu Try.prog (Instr.mapUpdate 90 n1 v14 v8) w fun w =>
  k (.tuple #[]) w
theorem F131_0_eq (g0 : Value) (n1 : Value) (w : World) (k : Value → World → Prop) : F131A k [] (argEnv [g0, n1]) w = F131_0 g0 n1 w k := by kernel_rfl
theorem F131_in (g0 : Value) (n1 : Value) (w : World) (k : Value → World → Prop) (h : F131_0 g0 n1 w k) : pFn Try.prog 131 [g0, n1] w k :=
  pFn_of_at Try.mixed Try.func131 (by kernel_rfl) (by kernel_rfl) Try.ntmps131 (by kernel_rfl) (by kernel_rfl) (by simp) ((F131_0_eq g0 n1 w k).mpr h)

/-! ## 132 (freight/disk.giving).twin -/
noncomputable def F132B : Code := bodyOf Try.f132
def F132A (k : Value → World → Prop) (q : List Nat) (ρ : Env) (w : World) : Prop := At Try.prog 7 F132B (retQ Try.prog Try.f132.results.toList k) q ρ w
def F132_0 (g0 : Value) (a1 : Value) (w : World) (k : Value → World → Prop) : Prop :=
  px Try.prog (Instr.box 135 g0) w fun v2 w =>
  px Try.prog (Instr.loadAt 135 v2) w fun v5 w =>
  px Try.prog (Instr.makeInterface 135 v5) w fun v6 w =>
  k v6 w
theorem F132_0_eq (g0 : Value) (a1 : Value) (w : World) (k : Value → World → Prop) : F132A k [] (argEnv [g0, a1]) w = F132_0 g0 a1 w k := by kernel_rfl
theorem F132_in (g0 : Value) (a1 : Value) (w : World) (k : Value → World → Prop) (h : F132_0 g0 a1 w k) : pFn Try.prog 132 [g0, a1] w k :=
  pFn_of_at Try.mixed Try.func132 (by kernel_rfl) (by kernel_rfl) Try.ntmps132 (by kernel_rfl) (by kernel_rfl) (by simp) ((F132_0_eq g0 a1 w k).mpr h)

/-! ## 80 strings.IndexByte -/
noncomputable def F80B : Code := bodyOf Try.f80
def F80A (k : Value → World → Prop) (q : List Nat) (ρ : Env) (w : World) : Prop := At Try.prog 8 F80B (retQ Try.prog Try.f80.results.toList k) q ρ w
def F80_0 (s0 : Value) (c1 : Value) (w : World) (k : Value → World → Prop) : Prop :=
  pFn Try.prog 84 [s0, c1] w fun v7 w =>
  k v7 w
theorem F80_0_eq (s0 : Value) (c1 : Value) (w : World) (k : Value → World → Prop) : F80A k [] (argEnv [s0, c1]) w = F80_0 s0 c1 w k := by kernel_rfl
theorem F80_in (s0 : Value) (c1 : Value) (w : World) (k : Value → World → Prop) (h : F80_0 s0 c1 w k) : pFn Try.prog 80 [s0, c1] w k :=
  pFn_of_at Try.mixed Try.func80 (by kernel_rfl) (by kernel_rfl) Try.ntmps80 (by kernel_rfl) (by kernel_rfl) (by simp) ((F80_0_eq s0 c1 w k).mpr h)

/-! ## 84 internal/stringslite.IndexByte -/
noncomputable def F84B : Code := bodyOf Try.f84
def F84A (k : Value → World → Prop) (q : List Nat) (ρ : Env) (w : World) : Prop := At Try.prog 8 F84B (retQ Try.prog Try.f84.results.toList k) q ρ w
def F84_0 (s0 : Value) (c1 : Value) (w : World) (k : Value → World → Prop) : Prop :=
  pFn Try.prog 88 [s0, c1] w fun v7 w =>
  k v7 w
theorem F84_0_eq (s0 : Value) (c1 : Value) (w : World) (k : Value → World → Prop) : F84A k [] (argEnv [s0, c1]) w = F84_0 s0 c1 w k := by kernel_rfl
theorem F84_in (s0 : Value) (c1 : Value) (w : World) (k : Value → World → Prop) (h : F84_0 s0 c1 w k) : pFn Try.prog 84 [s0, c1] w k :=
  pFn_of_at Try.mixed Try.func84 (by kernel_rfl) (by kernel_rfl) Try.ntmps84 (by kernel_rfl) (by kernel_rfl) (by simp) ((F84_0_eq s0 c1 w k).mpr h)

end Go.Proofs.Ytcdcojpfealppaa
