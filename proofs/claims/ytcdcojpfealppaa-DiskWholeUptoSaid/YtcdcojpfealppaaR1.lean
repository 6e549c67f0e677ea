/- PRINTED by wip/tools/redprint.py out of Lean's own print of the functions: their reduced forms; each is proved to be Go's code by the kernel. -/
import Derived.Test.YtcdcojpfealppaaXRed
import Derived.Test.YtcdcojpfealppaaProg
import Derived.Test.YtcdcojpfealppaaMix
set_option linter.unusedVariables false
set_option maxRecDepth 100000
namespace Go.Proofs.Ytcdcojpfealppaa
open Go Go.Proofs Go.Proofs.XRed

/-! ## 9 freight/disk.New -/
noncomputable def F9B : Code := bodyOf Try.f9
def F9A (k : Value → World → Prop) (q : List Nat) (ρ : Env) (w : World) : Prop := At Try.prog 15 F9B (retQ Try.prog Try.f9.results.toList k) q ρ w
def F9_0 (room0 : Value) (w : World) (k : Value → World → Prop) : Prop :=
  px Try.prog (binSem BinOp.lss 3 (Operand.tmp 4) (Operand.const (Value.int IntKind.i64 1)) room0 (Value.int IntKind.i64 1)) w fun v5 w =>
  pG v5 false (fun k => k room0 w) (w := w) (next := fun v7 w =>
  pG v5 false (fun k => px Try.prog (binSem BinOp.gtr 3 (Operand.tmp 7) (Operand.const (Value.int IntKind.i64 1048576)) v7 (Value.int IntKind.i64 1048576)) w k) (w := w) (next := fun v8 w =>
  px Try.prog (pickSem v5 (Value.bool true) v8) w fun v9 w =>
  pC v9 (
    k (.tuple #[(Value.pointer none), (Value.int IntKind.i64 1)]) w)
   (
    px Try.prog (Instr.makeMap 90 none) w fun v11 w =>
    px Try.prog (Instr.makeMap 90 none) w fun v12 w =>
    px Try.prog (Instr.build 93 #[(0, room0), (1, v11), (2, v12)]) w fun v13 w =>
    px Try.prog (Instr.box 93 v13) w fun v14 w =>
    k (.tuple #[v14, (Value.int IntKind.i64 0)]) w)))
theorem F9_0_eq (room0 : Value) (w : World) (k : Value → World → Prop) : F9A k [] (argEnv [room0]) w = F9_0 room0 w k := by kernel_rfl
theorem F9_in (room0 : Value) (w : World) (k : Value → World → Prop) (h : F9_0 room0 w k) : pFn Try.prog 9 [room0] w k :=
  pFn_of_at Try.mixed Try.func9 (by kernel_rfl) (by kernel_rfl) Try.ntmps9 (by kernel_rfl) (by kernel_rfl) (by simp) ((F9_0_eq room0 w k).mpr h)

/-! ## 10 (*freight/disk.Disk).Create -/
noncomputable def F10B : Code := bodyOf Try.f10
def F10A (k : Value → World → Prop) (q : List Nat) (ρ : Env) (w : World) : Prop := At Try.prog 30 F10B (retQ Try.prog Try.f10.results.toList k) q ρ w
def F10_0 (d0 : Value) (name1 : Value) (w : World) (k : Value → World → Prop) : Prop :=
  px Try.prog (Instr.box 24 d0) w fun v2 w =>
  px Try.prog (Instr.box 9 name1) w fun v3 w =>
  px Try.prog (Instr.loadAt 24 v2) w fun v9 w =>
  px Try.prog (Instr.loadAt 9 v3) w fun v10 w =>
  pFn Try.prog 44 [v9, v10] w fun v11 w =>
  px Try.prog (Instr.extract v11 0) w fun v12 w =>
  px Try.prog (Instr.extract v11 1) w fun v13 w =>
  px Try.prog (binSem BinOp.eql 25 (Operand.tmp 14) (Operand.const (Value.int IntKind.i64 0)) v13 (Value.int IntKind.i64 0)) w fun v17 w =>
  pC v17 (
    k (Value.int IntKind.i64 52) w)
   (
    px Try.prog (binSem BinOp.eql 25 (Operand.tmp 14) (Operand.const (Value.int IntKind.i64 53)) v13 (Value.int IntKind.i64 53)) w fun v19 w =>
    pC v19 (
      px Try.prog (Instr.loadAt 24 v2) w fun v20 w =>
      px Try.prog (nilSem v20) w fun v21 w =>
      px Try.prog (Instr.fieldAt 93 v21 1) w fun v22 w =>
      px Try.prog (Instr.loadAt 90 v22) w fun v23 w =>
      px Try.prog (bSem .len #[90] 3 #[v23]) w fun v24 w =>
      px Try.prog (binSem BinOp.geq 3 (Operand.tmp 24) (Operand.const (Value.int IntKind.i64 256)) v24 (Value.int IntKind.i64 256)) w fun v25 w =>
      pC v25 (
        F10A k [1, 1, 1, 1] (put (put (put (put (put (put (put (put (put (put (put (put (put (put (put (put (put (put (put (put (put (put (put (put (argEnv [d0, name1]) 2 v2) 3 v3) 4 (Value.int IntKind.i64 0)) 9 v9) 10 v10) 11 v11) 8 v11) 12 v12) 13 v13) 5 v12) 6 v13) 14 v13) 17 v17) 16 v17) 19 v19) 18 v19) 7 (Value.int IntKind.i64 0)) 20 v20) 21 v21) 22 v22) 23 v23) 24 v24) 25 v25) 7 (Value.int IntKind.i64 56)) w)
       (
        F10A k [1, 1, 1, 1] (put (put (put (put (put (put (put (put (put (put (put (put (put (put (put (put (put (put (put (put (put (put (put (argEnv [d0, name1]) 2 v2) 3 v3) 4 (Value.int IntKind.i64 0)) 9 v9) 10 v10) 11 v11) 8 v11) 12 v12) 13 v13) 5 v12) 6 v13) 14 v13) 17 v17) 16 v17) 19 v19) 18 v19) 7 (Value.int IntKind.i64 0)) 20 v20) 21 v21) 22 v22) 23 v23) 24 v24) 25 v25) w))
     (
      k v13 w))
theorem F10_0_eq (d0 : Value) (name1 : Value) (w : World) (k : Value → World → Prop) : F10A k [] (argEnv [d0, name1]) w = F10_0 d0 name1 w k := by kernel_rfl
def F10_1 (k : Value → World → Prop) (ρ : Env) (w : World) : Prop :=
  px Try.prog (Instr.loadAt 24 (ρ 2)) w fun v26 w =>
  px Try.prog (Instr.makeFunc (Fn.func 46) #[] #[(ρ 2), (ρ 3)]) w fun v28 w =>
  pFn Try.prog 45 [v26, (Value.int IntKind.i64 1), (ρ 7), v28] w fun v29 w =>
  k v29 w
theorem F10_1_eq (k : Value → World → Prop) (ρ : Env) (w : World) : F10A k [1, 1, 1, 1] ρ w = F10_1 k ρ w := by kernel_rfl
theorem F10_in (d0 : Value) (name1 : Value) (w : World) (k : Value → World → Prop) (h : F10_0 d0 name1 w k) : pFn Try.prog 10 [d0, name1] w k :=
  pFn_of_at Try.mixed Try.func10 (by kernel_rfl) (by kernel_rfl) Try.ntmps10 (by kernel_rfl) (by kernel_rfl) (by simp) ((F10_0_eq d0 name1 w k).mpr h)

/-! ## 11 (*freight/disk.Disk).Append -/
noncomputable def F11B : Code := bodyOf Try.f11
def F11A (k : Value → World → Prop) (q : List Nat) (ρ : Env) (w : World) : Prop := At Try.prog 27 F11B (retQ Try.prog Try.f11.results.toList k) q ρ w
def F11_0 (d0 : Value) (name1 : Value) (data2 : Value) (w : World) (k : Value → World → Prop) : Prop :=
  pFn Try.prog 44 [d0, name1] w fun v12 w =>
  px Try.prog (Instr.extract v12 0) w fun v13 w =>
  px Try.prog (Instr.extract v12 1) w fun v14 w =>
  px Try.prog (binSem BinOp.neq 25 (Operand.tmp 15) (Operand.const (Value.int IntKind.i64 0)) v14 (Value.int IntKind.i64 0)) w fun v16 w =>
  pC v16 (
    k v14 w)
   (
    px Try.prog (nilSem v13) w fun v21 w =>
    px Try.prog (Instr.fieldAt 101 v21 1) w fun v22 w =>
    px Try.prog (Instr.loadAt 30 v22) w fun v23 w =>
    px Try.prog (bSem .len #[30] 3 #[v23]) w fun v24 w =>
    pFn Try.prog 21 [d0, name1, v24, data2] w fun v26 w =>
    k v26 w)
theorem F11_0_eq (d0 : Value) (name1 : Value) (data2 : Value) (w : World) (k : Value → World → Prop) : F11A k [] (argEnv [d0, name1, data2]) w = F11_0 d0 name1 data2 w k := by kernel_rfl
theorem F11_in (d0 : Value) (name1 : Value) (data2 : Value) (w : World) (k : Value → World → Prop) (h : F11_0 d0 name1 data2 w k) : pFn Try.prog 11 [d0, name1, data2] w k :=
  pFn_of_at Try.mixed Try.func11 (by kernel_rfl) (by kernel_rfl) Try.ntmps11 (by kernel_rfl) (by kernel_rfl) (by simp) ((F11_0_eq d0 name1 data2 w k).mpr h)

/-! ## 12 (*freight/disk.Disk).Sync -/
noncomputable def F12B : Code := bodyOf Try.f12
def F12A (k : Value → World → Prop) (q : List Nat) (ρ : Env) (w : World) : Prop := At Try.prog 20 F12B (retQ Try.prog Try.f12.results.toList k) q ρ w
def F12_0 (d0 : Value) (name1 : Value) (w : World) (k : Value → World → Prop) : Prop :=
  pFn Try.prog 44 [d0, name1] w fun v10 w =>
  px Try.prog (Instr.extract v10 0) w fun v11 w =>
  px Try.prog (Instr.extract v10 1) w fun v12 w =>
  px Try.prog (binSem BinOp.neq 25 (Operand.tmp 13) (Operand.const (Value.int IntKind.i64 0)) v12 (Value.int IntKind.i64 0)) w fun v14 w =>
  pC v14 (
    k v12 w)
   (
    px Try.prog (Instr.makeFunc (Fn.func 48) #[v11] #[]) w fun v18 w =>
    pFn Try.prog 45 [d0, (Value.int IntKind.i64 2), (Value.int IntKind.i64 0), v18] w fun v19 w =>
    k v19 w)
theorem F12_0_eq (d0 : Value) (name1 : Value) (w : World) (k : Value → World → Prop) : F12A k [] (argEnv [d0, name1]) w = F12_0 d0 name1 w k := by kernel_rfl
theorem F12_in (d0 : Value) (name1 : Value) (w : World) (k : Value → World → Prop) (h : F12_0 d0 name1 w k) : pFn Try.prog 12 [d0, name1] w k :=
  pFn_of_at Try.mixed Try.func12 (by kernel_rfl) (by kernel_rfl) Try.ntmps12 (by kernel_rfl) (by kernel_rfl) (by simp) ((F12_0_eq d0 name1 w k).mpr h)

/-! ## 13 (*freight/disk.Disk).SyncNames -/
noncomputable def F13B : Code := bodyOf Try.f13
def F13A (k : Value → World → Prop) (q : List Nat) (ρ : Env) (w : World) : Prop := At Try.prog 8 F13B (retQ Try.prog Try.f13.results.toList k) q ρ w
def F13_0 (d0 : Value) (w : World) (k : Value → World → Prop) : Prop :=
  px Try.prog (Instr.box 24 d0) w fun v1 w =>
  px Try.prog (Instr.loadAt 24 v1) w fun v3 w =>
  pFn Try.prog 22 [v3] w fun v4 w =>
  pC v4 (
    k (Value.int IntKind.i64 50) w)
   (
    px Try.prog (Instr.loadAt 24 v1) w fun v5 w =>
    px Try.prog (Instr.makeFunc (Fn.func 49) #[] #[v1]) w fun v6 w =>
    pFn Try.prog 45 [v5, (Value.int IntKind.i64 2), (Value.int IntKind.i64 0), v6] w fun v7 w =>
    k v7 w)
theorem F13_0_eq (d0 : Value) (w : World) (k : Value → World → Prop) : F13A k [] (argEnv [d0]) w = F13_0 d0 w k := by kernel_rfl
theorem F13_in (d0 : Value) (w : World) (k : Value → World → Prop) (h : F13_0 d0 w k) : pFn Try.prog 13 [d0] w k :=
  pFn_of_at Try.mixed Try.func13 (by kernel_rfl) (by kernel_rfl) Try.ntmps13 (by kernel_rfl) (by kernel_rfl) (by simp) ((F13_0_eq d0 w k).mpr h)

/-! ## 15 (*freight/disk.Disk).Crash -/
noncomputable def F15B : Code := bodyOf Try.f15
def F15A (k : Value → World → Prop) (q : List Nat) (ρ : Env) (w : World) : Prop := At Try.prog 89 F15B (retQ Try.prog Try.f15.results.toList k) q ρ w
noncomputable def F15B1 : Code := sub F15B [1, 1, 1, 1, 0, 1, 0, 0]
def F15Q1 (k : Value → World → Prop) (N1 : Env → World → Prop) : Xt → Env → World → Prop := thenE N1 (contAt Try.prog 89 F15B (retQ Try.prog Try.f15.results.toList k) [1, 1, 1, 1, 0, 1, 0])
def F15A1 (k : Value → World → Prop) (N1 : Env → World → Prop) (q : List Nat) (ρ : Env) (w : World) : Prop := At Try.prog 89 F15B1 (F15Q1 k N1) q ρ w
def F15L1 (k : Value → World → Prop) (ρ : Env) (w : World) : Prop := LoopAt Try.prog 89 F15B (retQ Try.prog Try.f15.results.toList k) [1, 1, 1, 1, 0, 1, 0] ρ w
theorem F15L1_inv (k : Value → World → Prop) (I : Nat → Env → World → Prop) (round : ∀ m ρ w, I m ρ w → F15A1 k (fun ρ' w' => ∃ m', m' < m ∧ I m' ρ' w') [] ρ w) {m : Nat} {ρ : Env} {w : World} (h : I m ρ w) : F15L1 k ρ w :=
  LoopAt_inv Try.mixed (B := F15B) (Q := (retQ Try.prog Try.f15.results.toList k)) (p := [1, 1, 1, 1, 0, 1, 0]) (by kernel_rfl) (by kernel_rfl) I round h
noncomputable def F15B2 : Code := sub F15B [1, 1, 1, 1, 1, 0, 1, 0, 0]
def F15Q2 (k : Value → World → Prop) (N2 : Env → World → Prop) : Xt → Env → World → Prop := thenE N2 (contAt Try.prog 89 F15B (retQ Try.prog Try.f15.results.toList k) [1, 1, 1, 1, 1, 0, 1, 0])
def F15A2 (k : Value → World → Prop) (N2 : Env → World → Prop) (q : List Nat) (ρ : Env) (w : World) : Prop := At Try.prog 89 F15B2 (F15Q2 k N2) q ρ w
def F15L2 (k : Value → World → Prop) (ρ : Env) (w : World) : Prop := LoopAt Try.prog 89 F15B (retQ Try.prog Try.f15.results.toList k) [1, 1, 1, 1, 1, 0, 1, 0] ρ w
theorem F15L2_inv (k : Value → World → Prop) (I : Nat → Env → World → Prop) (round : ∀ m ρ w, I m ρ w → F15A2 k (fun ρ' w' => ∃ m', m' < m ∧ I m' ρ' w') [] ρ w) {m : Nat} {ρ : Env} {w : World} (h : I m ρ w) : F15L2 k ρ w :=
  LoopAt_inv Try.mixed (B := F15B) (Q := (retQ Try.prog Try.f15.results.toList k)) (p := [1, 1, 1, 1, 1, 0, 1, 0]) (by kernel_rfl) (by kernel_rfl) I round h
def F15_0 (a0 : Value) (a1 : Value) (w : World) (k : Value → World → Prop) : Prop :=
  px Try.prog (Instr.box 57 a1) w fun v3 w =>
  pFn Try.prog 53 [a0] w fun v12 w =>
  pC v12 (
    k (.tuple #[]) w)
   (
    px Try.prog (Instr.makeFunc (Fn.func 54) #[] #[v3]) w fun v13 w =>
    px Try.prog (nilSem a0) w fun v15 w =>
    px Try.prog (Instr.fieldAt 93 v15 2) w fun v16 w =>
    px Try.prog (Instr.loadAt 90 v16) w fun v17 w =>
    pFn Try.prog 50 [v17] w fun v18 w =>
    ∃ S : World → Prop, S w.drew ∧ (fun w =>
    pq Try.prog S (nilSem a0) fun v20 =>
    pq Try.prog S (Instr.fieldAt 93 v20 3) fun v21 =>
    pq Try.prog S (Instr.loadAt 91 v21) fun v22 =>
    pq Try.prog S (nilSem a0) fun v25 =>
    pq Try.prog S (Instr.fieldAt 93 v25 3) fun v26 =>
    pq Try.prog S (Instr.loadAt 91 v26) fun v27 =>
    pq Try.prog S (bSem .len #[91] 3 #[v27]) fun v28 =>
    pVal Try.prog v13 [v28] w fun v29 w => S w ∧ (
    pq Try.prog S (Instr.sliceAt 91 v22 none (some v29) none) fun v30 =>
    pq Try.prog S (bSem .len #[91] 3 #[v30]) fun v31 =>
    F15L1 k (put (put (put (put (put (put (put (put (put (put (put (put (put (put (put (put (put (put (put (put (put (put (put (put (put (argEnv [a0, a1]) 3 v3) 11 a0) 12 v12) 13 v13) 4 v13) 14 a0) 15 v15) 16 v16) 17 v17) 18 v18) 5 v18) 19 a0) 20 v20) 21 v21) 22 v22) 23 v13) 24 a0) 25 v25) 26 v26) 27 v27) 28 v28) 32 (Value.int IntKind.i64 0)) 29 v29) 30 v30) 31 v31) w)) w.drew)
theorem F15_0_eq (a0 : Value) (a1 : Value) (w : World) (k : Value → World → Prop) : F15A k [] (argEnv [a0, a1]) w = F15_0 a0 a1 w k := by kernel_rfl
def F15_1 (k : Value → World → Prop) (N1 : Env → World → Prop) (ρ : Env) (w : World) : Prop :=
  px Try.prog (binSem BinOp.lss 3 (Operand.tmp 32) (Operand.tmp 31) (ρ 32) (ρ 31)) w fun v33 w =>
  pC v33 (
    px Try.prog (Instr.indexAt 91 (ρ 30) (ρ 32)) w fun v34 w =>
    px Try.prog (Instr.loadAt 109 v34) w fun v35 w =>
    pInv Try.prog v35 "freight/disk.on" [(ρ 5)] w fun v38 w =>
    px Try.prog (binSem BinOp.add 3 (Operand.tmp 32) (Operand.const (Value.int IntKind.i64 1)) (ρ 32) (Value.int IntKind.i64 1)) w fun v39 w =>
    N1 (put (put (put (put (put (put (put (put (put ρ 33 v33) 34 v34) 35 v35) 7 v35) 36 v35) 37 (ρ 5)) 38 v38) 39 v39) 32 v39) w)
   (
    F15A k [1, 1, 1, 1, 1] (put ρ 33 v33) w)
theorem F15_1_eq (k : Value → World → Prop) (N1 : Env → World → Prop) (ρ : Env) (w : World) : F15A1 k N1 [] ρ w = F15_1 k N1 ρ w := by kernel_rfl
def F15_2 (k : Value → World → Prop) (ρ : Env) (w : World) : Prop :=
  pFn Try.prog 56 [(ρ 5)] w fun v41 w =>
  px Try.prog (bSem .len #[22] 3 #[v41]) w fun v42 w =>
  F15L2 k (put (put (put (put ρ 40 (ρ 5)) 41 v41) 42 v42) 43 (Value.int IntKind.i64 0)) w
theorem F15_2_eq (k : Value → World → Prop) (ρ : Env) (w : World) : F15A k [1, 1, 1, 1, 1] ρ w = F15_2 k ρ w := by kernel_rfl
def F15_3 (k : Value → World → Prop) (N2 : Env → World → Prop) (ρ : Env) (w : World) : Prop :=
  px Try.prog (binSem BinOp.lss 3 (Operand.tmp 43) (Operand.tmp 42) (ρ 43) (ρ 42)) w fun v44 w =>
  pC v44 (
    px Try.prog (Instr.indexAt 22 (ρ 41) (ρ 43)) w fun v45 w =>
    px Try.prog (Instr.loadAt 9 v45) w fun v46 w =>
    ∃ S : World → Prop, S w.drew ∧ (fun w =>
    pq Try.prog S (Instr.lookup 90 (ρ 5) v46 false) fun v49 =>
    pq Try.prog S (Instr.lookup 90 (ρ 5) v46 false) fun v53 =>
    pFn Try.prog 58 [v53] w fun v54 w => S w ∧ (
    pVal Try.prog (ρ 4) [v54] w fun v55 w => S w ∧ (
    pFn Try.prog 57 [v49, v55] w fun v56 w => S w ∧ (
    px Try.prog (Instr.build 101 #[(0, v56), (1, v56)]) w fun v61 w =>
    px Try.prog (Instr.box 101 v61) w fun v62 w =>
    pu Try.prog (Instr.mapUpdate 90 (ρ 5) v46 v62) w fun w =>
    px Try.prog (binSem BinOp.add 3 (Operand.tmp 43) (Operand.const (Value.int IntKind.i64 1)) (ρ 43) (Value.int IntKind.i64 1)) w fun v63 w =>
    N2 (put (put (put (put (put (put (put (put (put (put (put (put (put (put (put (put (put (put (put (put (put (put (put ρ 44 v44) 45 v45) 46 v46) 9 v46) 47 (ρ 5)) 48 v46) 49 v49) 50 (ρ 4)) 51 (ρ 5)) 52 v46) 53 v53) 54 v54) 55 v55) 56 v56) 10 v56) 57 (ρ 5)) 58 v46) 59 v56) 60 v56) 61 v61) 62 v62) 63 v63) 43 v63) w)))) w.drew)
   (
    F15A k [1, 1, 1, 1, 1, 1] (put ρ 44 v44) w)
theorem F15_3_eq (k : Value → World → Prop) (N2 : Env → World → Prop) (ρ : Env) (w : World) : F15A2 k N2 [] ρ w = F15_3 k N2 ρ w := by kernel_rfl
def F15_4 (k : Value → World → Prop) (ρ : Env) (w : World) : Prop :=
  pFn Try.prog 50 [(ρ 5)] w fun v69 w =>
  px Try.prog (nilSem (ρ 0)) w fun v70 w =>
  px Try.prog (Instr.fieldAt 93 v70 2) w fun v71 w =>
  pu Try.prog (Instr.storeAt 90 v71 (ρ 5)) w fun w =>
  px Try.prog (nilSem (ρ 0)) w fun v72 w =>
  px Try.prog (Instr.fieldAt 93 v72 1) w fun v73 w =>
  pu Try.prog (Instr.storeAt 90 v73 v69) w fun w =>
  px Try.prog (nilSem (ρ 0)) w fun v74 w =>
  px Try.prog (Instr.fieldAt 93 v74 3) w fun v75 w =>
  pu Try.prog (Instr.storeAt 91 v75 (Value.slice none 0 0)) w fun w =>
  px Try.prog (Instr.build 46 #[]) w fun v80 w =>
  px Try.prog (nilSem (ρ 0)) w fun v81 w =>
  px Try.prog (Instr.fieldAt 93 v81 7) w fun v82 w =>
  pu Try.prog (Instr.storeAt 4 v82 (Value.bool false)) w fun w =>
  px Try.prog (nilSem (ρ 0)) w fun v83 w =>
  px Try.prog (Instr.fieldAt 93 v83 5) w fun v84 w =>
  pu Try.prog (Instr.storeAt 46 v84 v80) w fun w =>
  px Try.prog (nilSem (ρ 0)) w fun v85 w =>
  px Try.prog (Instr.fieldAt 93 v85 6) w fun v86 w =>
  pu Try.prog (Instr.storeAt 3 v86 (Value.int IntKind.i64 0)) w fun w =>
  px Try.prog (nilSem (ρ 0)) w fun v87 w =>
  px Try.prog (Instr.fieldAt 93 v87 4) w fun v88 w =>
  pu Try.prog (Instr.storeAt 3 v88 (Value.int IntKind.i64 0)) w fun w =>
  k (.tuple #[]) w
theorem F15_4_eq (k : Value → World → Prop) (ρ : Env) (w : World) : F15A k [1, 1, 1, 1, 1, 1] ρ w = F15_4 k ρ w := by kernel_rfl
theorem F15_in (a0 : Value) (a1 : Value) (w : World) (k : Value → World → Prop) (h : F15_0 a0 a1 w k) : pFn Try.prog 15 [a0, a1] w k :=
  pFn_of_at Try.mixed Try.func15 (by kernel_rfl) (by kernel_rfl) Try.ntmps15 (by kernel_rfl) (by kernel_rfl) (by simp) ((F15_0_eq a0 a1 w k).mpr h)

/-! ## 17 (*freight/disk.Disk).Files -/
noncomputable def F17B : Code := bodyOf Try.f17
def F17A (k : Value → World → Prop) (q : List Nat) (ρ : Env) (w : World) : Prop := At Try.prog 35 F17B (retQ Try.prog Try.f17.results.toList k) q ρ w
noncomputable def F17B1 : Code := sub F17B [1, 1, 1, 0, 1, 0, 0]
def F17Q1 (k : Value → World → Prop) (N1 : Env → World → Prop) : Xt → Env → World → Prop := thenE N1 (contAt Try.prog 35 F17B (retQ Try.prog Try.f17.results.toList k) [1, 1, 1, 0, 1, 0])
def F17A1 (k : Value → World → Prop) (N1 : Env → World → Prop) (q : List Nat) (ρ : Env) (w : World) : Prop := At Try.prog 35 F17B1 (F17Q1 k N1) q ρ w
def F17L1 (k : Value → World → Prop) (ρ : Env) (w : World) : Prop := LoopAt Try.prog 35 F17B (retQ Try.prog Try.f17.results.toList k) [1, 1, 1, 0, 1, 0] ρ w
theorem F17L1_inv (k : Value → World → Prop) (I : Nat → Env → World → Prop) (round : ∀ m ρ w, I m ρ w → F17A1 k (fun ρ' w' => ∃ m', m' < m ∧ I m' ρ' w') [] ρ w) {m : Nat} {ρ : Env} {w : World} (h : I m ρ w) : F17L1 k ρ w :=
  LoopAt_inv Try.mixed (B := F17B) (Q := (retQ Try.prog Try.f17.results.toList k)) (p := [1, 1, 1, 0, 1, 0]) (by kernel_rfl) (by kernel_rfl) I round h
def F17_0 (d0 : Value) (w : World) (k : Value → World → Prop) : Prop :=
  pFn Try.prog 53 [d0] w fun v7 w =>
  pC v7 (
    k (Value.slice none 0 0) w)
   (
    px Try.prog (nilSem d0) w fun v9 w =>
    px Try.prog (Instr.fieldAt 93 v9 1) w fun v10 w =>
    px Try.prog (Instr.loadAt 90 v10) w fun v11 w =>
    pFn Try.prog 56 [v11] w fun v12 w =>
    px Try.prog (bSem .len #[22] 3 #[v12]) w fun v13 w =>
    F17L1 k (put (put (put (put (put (put (put (put (put (put (put (argEnv [d0]) 2 (Value.slice none 0 0)) 6 d0) 7 v7) 3 (Value.slice none 0 0)) 8 d0) 9 v9) 10 v10) 11 v11) 12 v12) 13 v13) 14 (Value.int IntKind.i64 0)) w)
theorem F17_0_eq (d0 : Value) (w : World) (k : Value → World → Prop) : F17A k [] (argEnv [d0]) w = F17_0 d0 w k := by kernel_rfl
def F17_1 (k : Value → World → Prop) (N1 : Env → World → Prop) (ρ : Env) (w : World) : Prop :=
  px Try.prog (binSem BinOp.lss 3 (Operand.tmp 14) (Operand.tmp 13) (ρ 14) (ρ 13)) w fun v15 w =>
  pC v15 (
    px Try.prog (Instr.indexAt 22 (ρ 12) (ρ 14)) w fun v16 w =>
    px Try.prog (Instr.loadAt 9 v16) w fun v17 w =>
    px Try.prog (nilSem (ρ 0)) w fun v21 w =>
    px Try.prog (Instr.fieldAt 93 v21 1) w fun v22 w =>
    px Try.prog (Instr.loadAt 90 v22) w fun v23 w =>
    px Try.prog (Instr.lookup 90 v23 v17 false) w fun v25 w =>
    px Try.prog (nilSem v25) w fun v26 w =>
    px Try.prog (Instr.fieldAt 101 v26 1) w fun v27 w =>
    px Try.prog (Instr.loadAt 30 v27) w fun v28 w =>
    pFn Try.prog 59 [v28] w fun v29 w =>
    px Try.prog (Instr.build 52 #[(0, v17), (1, v29)]) w fun v30 w =>
    px Try.prog (Instr.buildSlice 37 1 #[(0, v30)]) w fun v31 w =>
    px Try.prog (bSem .append #[37, 37] 37 #[(ρ 3), v31]) w fun v32 w =>
    px Try.prog (binSem BinOp.add 3 (Operand.tmp 14) (Operand.const (Value.int IntKind.i64 1)) (ρ 14) (Value.int IntKind.i64 1)) w fun v33 w =>
    N1 (put (put (put (put (put (put (put (put (put (put (put (put (put (put (put (put (put (put (put (put (put (put ρ 15 v15) 16 v16) 17 v17) 5 v17) 18 (ρ 3)) 19 v17) 20 (ρ 0)) 21 v21) 22 v22) 23 v23) 24 v17) 25 v25) 26 v26) 27 v27) 28 v28) 29 v29) 30 v30) 31 v31) 32 v32) 3 v32) 33 v33) 14 v33) w)
   (
    F17A k [1, 1, 1, 1] (put ρ 15 v15) w)
theorem F17_1_eq (k : Value → World → Prop) (N1 : Env → World → Prop) (ρ : Env) (w : World) : F17A1 k N1 [] ρ w = F17_1 k N1 ρ w := by kernel_rfl
def F17_2 (k : Value → World → Prop) (ρ : Env) (w : World) : Prop :=
  k (ρ 3) w
theorem F17_2_eq (k : Value → World → Prop) (ρ : Env) (w : World) : F17A k [1, 1, 1, 1] ρ w = F17_2 k ρ w := by kernel_rfl
theorem F17_in (d0 : Value) (w : World) (k : Value → World → Prop) (h : F17_0 d0 w k) : pFn Try.prog 17 [d0] w k :=
  pFn_of_at Try.mixed Try.func17 (by kernel_rfl) (by kernel_rfl) Try.ntmps17 (by kernel_rfl) (by kernel_rfl) (by simp) ((F17_0_eq d0 w k).mpr h)

/-! ## 19 (*freight/disk.Disk).Plan -/
noncomputable def F19B : Code := bodyOf Try.f19
def F19A (k : Value → World → Prop) (q : List Nat) (ρ : Env) (w : World) : Prop := At Try.prog 14 F19B (retQ Try.prog Try.f19.results.toList k) q ρ w
def F19_0 (d0 : Value) (p1 : Value) (w : World) (k : Value → World → Prop) : Prop :=
  px Try.prog (Instr.box 46 p1) w fun v3 w =>
  pFn Try.prog 22 [d0] w fun v5 w =>
  px Try.prog (Op.unary UnOp.not v5) w fun v6 w =>
  pC v6 (
    px Try.prog (Instr.loadAt 46 v3) w fun v9 w =>
    px Try.prog (nilSem d0) w fun v10 w =>
    px Try.prog (Instr.fieldAt 93 v10 5) w fun v11 w =>
    pu Try.prog (Instr.storeAt 46 v11 v9) w fun w =>
    px Try.prog (nilSem d0) w fun v12 w =>
    px Try.prog (Instr.fieldAt 93 v12 6) w fun v13 w =>
    pu Try.prog (Instr.storeAt 3 v13 (Value.int IntKind.i64 0)) w fun w =>
    k (.tuple #[]) w)
   (
    k (.tuple #[]) w)
theorem F19_0_eq (d0 : Value) (p1 : Value) (w : World) (k : Value → World → Prop) : F19A k [] (argEnv [d0, p1]) w = F19_0 d0 p1 w k := by kernel_rfl
theorem F19_in (d0 : Value) (p1 : Value) (w : World) (k : Value → World → Prop) (h : F19_0 d0 p1 w k) : pFn Try.prog 19 [d0, p1] w k :=
  pFn_of_at Try.mixed Try.func19 (by kernel_rfl) (by kernel_rfl) Try.ntmps19 (by kernel_rfl) (by kernel_rfl) (by simp) ((F19_0_eq d0 p1 w k).mpr h)

/-! ## 20 (*freight/disk.Disk).Truncate -/
noncomputable def F20B : Code := bodyOf Try.f20
def F20A (k : Value → World → Prop) (q : List Nat) (ρ : Env) (w : World) : Prop := At Try.prog 32 F20B (retQ Try.prog Try.f20.results.toList k) q ρ w
def F20_0 (d0 : Value) (name1 : Value) (n2 : Value) (w : World) (k : Value → World → Prop) : Prop :=
  px Try.prog (Instr.box 3 n2) w fun v5 w =>
  pFn Try.prog 44 [d0, name1] w fun v12 w =>
  px Try.prog (Instr.extract v12 0) w fun v13 w =>
  px Try.prog (Instr.extract v12 1) w fun v14 w =>
  px Try.prog (Instr.alloc 94 true (.tuple #[])) w fun v7 w =>
  pu Try.prog (Instr.storeAt 94 v7 v13) w fun w =>
  px Try.prog (binSem BinOp.neq 25 (Operand.tmp 15) (Operand.const (Value.int IntKind.i64 0)) v14 (Value.int IntKind.i64 0)) w fun v16 w =>
  pC v16 (
    k v14 w)
   (
    ∃ S : World → Prop, S w.drew ∧ (fun w =>
    pq Try.prog S (Instr.loadAt 3 v5) fun v18 =>
    pq Try.prog S (binSem BinOp.lss 3 (Operand.tmp 18) (Operand.const (Value.int IntKind.i64 0)) v18 (Value.int IntKind.i64 0)) fun v19 =>
    pGq v19 false (fun k => pq Try.prog S (Instr.loadAt 3 v5) k) (next := fun v21 =>
    pGq v19 false (fun k => pq Try.prog S (Instr.loadAt 94 v7) k) (next := fun v22 =>
    pGq v19 false (fun k => pq Try.prog S (nilSem v22) k) (next := fun v23 =>
    pGq v19 false (fun k => pq Try.prog S (Instr.fieldAt 101 v23 1) k) (next := fun v24 =>
    pGq v19 false (fun k => pq Try.prog S (Instr.loadAt 30 v24) k) (next := fun v25 =>
    pGq v19 false (fun k => pq Try.prog S (bSem .len #[30] 3 #[v25]) k) (next := fun v26 =>
    pGq v19 false (fun k => pq Try.prog S (binSem BinOp.gtr 3 (Operand.tmp 21) (Operand.tmp 26) v21 v26) k) (next := fun v27 =>
    pq Try.prog S (pickSem v19 (Value.bool true) v27) fun v28 =>
    pC v28 (
      k (Value.int IntKind.i64 54) w)
     (
      px Try.prog (Instr.makeFunc (Fn.func 61) #[] #[v7, v5]) w fun v30 w =>
      pFn Try.prog 45 [d0, (Value.int IntKind.i64 0), (Value.int IntKind.i64 0), v30] w fun v31 w =>
      k v31 w))))))))) w.drew)
theorem F20_0_eq (d0 : Value) (name1 : Value) (n2 : Value) (w : World) (k : Value → World → Prop) : F20A k [] (argEnv [d0, name1, n2]) w = F20_0 d0 name1 n2 w k := by kernel_rfl
theorem F20_in (d0 : Value) (name1 : Value) (n2 : Value) (w : World) (k : Value → World → Prop) (h : F20_0 d0 name1 n2 w k) : pFn Try.prog 20 [d0, name1, n2] w k :=
  pFn_of_at Try.mixed Try.func20 (by kernel_rfl) (by kernel_rfl) Try.ntmps20 (by kernel_rfl) (by kernel_rfl) (by simp) ((F20_0_eq d0 name1 n2 w k).mpr h)

/-! ## 21 (*freight/disk.Disk).WriteAt -/
noncomputable def F21B : Code := bodyOf Try.f21
def F21A (k : Value → World → Prop) (q : List Nat) (ρ : Env) (w : World) : Prop := At Try.prog 60 F21B (retQ Try.prog Try.f21.results.toList k) q ρ w
def F21_0 (d0 : Value) (name1 : Value) (at2 : Value) (data3 : Value) (w : World) (k : Value → World → Prop) : Prop :=
  px Try.prog (Instr.box 3 at2) w fun v6 w =>
  px Try.prog (Instr.box 30 data3) w fun v7 w =>
  pFn Try.prog 44 [d0, name1] w fun v16 w =>
  px Try.prog (Instr.extract v16 0) w fun v17 w =>
  px Try.prog (Instr.extract v16 1) w fun v18 w =>
  px Try.prog (Instr.alloc 94 true (.tuple #[])) w fun v9 w =>
  pu Try.prog (Instr.storeAt 94 v9 v17) w fun w =>
  px Try.prog (binSem BinOp.neq 25 (Operand.tmp 19) (Operand.const (Value.int IntKind.i64 0)) v18 (Value.int IntKind.i64 0)) w fun v20 w =>
  pC v20 (
    k v18 w)
   (
    ∃ S : World → Prop, S w.drew ∧ (fun w =>
    pq Try.prog S (Instr.loadAt 3 v6) fun v22 =>
    pq Try.prog S (binSem BinOp.lss 3 (Operand.tmp 22) (Operand.const (Value.int IntKind.i64 0)) v22 (Value.int IntKind.i64 0)) fun v23 =>
    pGq v23 false (fun k => pq Try.prog S (Instr.loadAt 3 v6) k) (next := fun v25 =>
    pGq v23 false (fun k => pq Try.prog S (Instr.loadAt 94 v9) k) (next := fun v26 =>
    pGq v23 false (fun k => pq Try.prog S (nilSem v26) k) (next := fun v27 =>
    pGq v23 false (fun k => pq Try.prog S (Instr.fieldAt 101 v27 1) k) (next := fun v28 =>
    pGq v23 false (fun k => pq Try.prog S (Instr.loadAt 30 v28) k) (next := fun v29 =>
    pGq v23 false (fun k => pq Try.prog S (bSem .len #[30] 3 #[v29]) k) (next := fun v30 =>
    pGq v23 false (fun k => pq Try.prog S (binSem BinOp.gtr 3 (Operand.tmp 25) (Operand.tmp 30) v25 v30) k) (next := fun v31 =>
    pq Try.prog S (pickSem v23 (Value.bool true) v31) fun v32 =>
    pC v32 (
      k (Value.int IntKind.i64 54) w)
     (
      ∃ S : World → Prop, S w.drew ∧ (fun w =>
      pq Try.prog S (Instr.loadAt 3 v6) fun v33 =>
      pq Try.prog S (Instr.loadAt 30 v7) fun v34 =>
      pq Try.prog S (bSem .len #[30] 3 #[v34]) fun v35 =>
      pq Try.prog S (binSem BinOp.add 3 (Operand.tmp 33) (Operand.tmp 35) v33 v35) fun v36 =>
      pq Try.prog S (Instr.loadAt 94 v9) fun v37 =>
      pq Try.prog S (nilSem v37) fun v38 =>
      pq Try.prog S (Instr.fieldAt 101 v38 1) fun v39 =>
      pq Try.prog S (Instr.loadAt 30 v39) fun v40 =>
      pq Try.prog S (bSem .len #[30] 3 #[v40]) fun v41 =>
      pq Try.prog S (binSem BinOp.sub 3 (Operand.tmp 36) (Operand.tmp 41) v36 v41) fun v42 =>
      ∃ S : World → Prop, S w.drew ∧ (fun w =>
      pq Try.prog S (binSem BinOp.gtr 3 (Operand.tmp 43) (Operand.const (Value.int IntKind.i64 0)) v42 (Value.int IntKind.i64 0)) fun v44 =>
      pGq v44 true (fun k => k d0) (next := fun v46 =>
      pGq v44 true (fun k => k v42) (next := fun v48 =>
      pGq v44 true (fun k => k d0) (next := fun v50 =>
      pGq v44 true (fun k => pq Try.prog S (nilSem v50) k) (next := fun v51 =>
      pGq v44 true (fun k => pq Try.prog S (Instr.fieldAt 93 v51 0) k) (next := fun v52 =>
      pGq v44 true (fun k => pq Try.prog S (Instr.loadAt 3 v52) k) (next := fun v53 =>
      pG v44 true (fun k => pFn Try.prog 32 [v46] w k) (w := w) (next := fun v47 w => S w ∧ (
      pGq v44 true (fun k => pq Try.prog S (binSem BinOp.add 3 (Operand.tmp 47) (Operand.tmp 48) v47 v48) k) (next := fun v49 =>
      pGq v44 true (fun k => pq Try.prog S (binSem BinOp.gtr 3 (Operand.tmp 49) (Operand.tmp 53) v49 v53) k) (next := fun v54 =>
      pq Try.prog S (pickSem v44 v54 (Value.bool false)) fun v55 =>
      pC v55 (
        F21A k [1, 1, 1, 1, 1, 1] (put (put (put (put (put (put (put (put (put (put (put (put (put (put (put (put (put (put (put (put (put (put (put (put (put (put (put (put (put (put (put (put (put (put (put (put (put (put (put (put (put (put (put (put (put (put (put (put (put (put (argEnv [d0, name1, at2, data3]) 6 v6) 7 v7) 8 (Value.int IntKind.i64 0)) 14 d0) 15 name1) 16 v16) 13 v16) 17 v17) 18 v18) 9 v9) 10 v18) 19 v18) 20 v20) 22 v22) 23 v23) 24 v23) 25 v25) 26 v26) 27 v27) 28 v28) 29 v29) 30 v30) 31 v31) 32 v32) 11 (Value.int IntKind.i64 0)) 33 v33) 34 v34) 35 v35) 36 v36) 37 v37) 38 v38) 39 v39) 40 v40) 41 v41) 42 v42) 12 v42) 43 v42) 44 v44) 45 v44) 46 v46) 48 v48) 50 v50) 51 v51) 52 v52) 53 v53) 47 v47) 49 v49) 54 v54) 55 v55) 11 (Value.int IntKind.i64 55)) w)
       (
        F21A k [1, 1, 1, 1, 1, 1] (put (put (put (put (put (put (put (put (put (put (put (put (put (put (put (put (put (put (put (put (put (put (put (put (put (put (put (put (put (put (put (put (put (put (put (put (put (put (put (put (put (put (put (put (put (put (put (put (put (argEnv [d0, name1, at2, data3]) 6 v6) 7 v7) 8 (Value.int IntKind.i64 0)) 14 d0) 15 name1) 16 v16) 13 v16) 17 v17) 18 v18) 9 v9) 10 v18) 19 v18) 20 v20) 22 v22) 23 v23) 24 v23) 25 v25) 26 v26) 27 v27) 28 v28) 29 v29) 30 v30) 31 v31) 32 v32) 11 (Value.int IntKind.i64 0)) 33 v33) 34 v34) 35 v35) 36 v36) 37 v37) 38 v38) 39 v39) 40 v40) 41 v41) 42 v42) 12 v42) 43 v42) 44 v44) 45 v44) 46 v46) 48 v48) 50 v50) 51 v51) 52 v52) 53 v53) 47 v47) 49 v49) 54 v54) 55 v55) w)))))))))))) w.drew) w.drew))))))))) w.drew)
theorem F21_0_eq (d0 : Value) (name1 : Value) (at2 : Value) (data3 : Value) (w : World) (k : Value → World → Prop) : F21A k [] (argEnv [d0, name1, at2, data3]) w = F21_0 d0 name1 at2 data3 w k := by kernel_rfl
def F21_1 (k : Value → World → Prop) (ρ : Env) (w : World) : Prop :=
  px Try.prog (Instr.makeFunc (Fn.func 63) #[] #[(ρ 9), (ρ 6), (ρ 7)]) w fun v58 w =>
  pFn Try.prog 45 [(ρ 0), (Value.int IntKind.i64 1), (ρ 11), v58] w fun v59 w =>
  k v59 w
theorem F21_1_eq (k : Value → World → Prop) (ρ : Env) (w : World) : F21A k [1, 1, 1, 1, 1, 1] ρ w = F21_1 k ρ w := by kernel_rfl
theorem F21_in (d0 : Value) (name1 : Value) (at2 : Value) (data3 : Value) (w : World) (k : Value → World → Prop) (h : F21_0 d0 name1 at2 data3 w k) : pFn Try.prog 21 [d0, name1, at2, data3] w k :=
  pFn_of_at Try.mixed Try.func21 (by kernel_rfl) (by kernel_rfl) Try.ntmps21 (by kernel_rfl) (by kernel_rfl) (by simp) ((F21_0_eq d0 name1 at2 data3 w k).mpr h)

/-! ## 22 (*freight/disk.Disk).Off -/
noncomputable def F22B : Code := bodyOf Try.f22
def F22A (k : Value → World → Prop) (q : List Nat) (ρ : Env) (w : World) : Prop := At Try.prog 11 F22B (retQ Try.prog Try.f22.results.toList k) q ρ w
def F22_0 (d0 : Value) (w : World) (k : Value → World → Prop) : Prop :=
  pFn Try.prog 53 [d0] w fun v4 w =>
  pG v4 false (fun k => k d0 w) (w := w) (next := fun v6 w =>
  pG v4 false (fun k => px Try.prog (nilSem v6) w k) (w := w) (next := fun v7 w =>
  pG v4 false (fun k => px Try.prog (Instr.fieldAt 93 v7 7) w k) (w := w) (next := fun v8 w =>
  pG v4 false (fun k => px Try.prog (Instr.loadAt 4 v8) w k) (w := w) (next := fun v9 w =>
  px Try.prog (pickSem v4 (Value.bool true) v9) w fun v10 w =>
  k v10 w))))
theorem F22_0_eq (d0 : Value) (w : World) (k : Value → World → Prop) : F22A k [] (argEnv [d0]) w = F22_0 d0 w k := by kernel_rfl
theorem F22_in (d0 : Value) (w : World) (k : Value → World → Prop) (h : F22_0 d0 w k) : pFn Try.prog 22 [d0] w k :=
  pFn_of_at Try.mixed Try.func22 (by kernel_rfl) (by kernel_rfl) Try.ntmps22 (by kernel_rfl) (by kernel_rfl) (by simp) ((F22_0_eq d0 w k).mpr h)

/-! ## 27 (*freight/disk.Disk).Safe -/
noncomputable def F27B : Code := bodyOf Try.f27
def F27A (k : Value → World → Prop) (q : List Nat) (ρ : Env) (w : World) : Prop := At Try.prog 35 F27B (retQ Try.prog Try.f27.results.toList k) q ρ w
noncomputable def F27B1 : Code := sub F27B [1, 1, 1, 0, 1, 0, 0]
def F27Q1 (k : Value → World → Prop) (N1 : Env → World → Prop) : Xt → Env → World → Prop := thenE N1 (contAt Try.prog 35 F27B (retQ Try.prog Try.f27.results.toList k) [1, 1, 1, 0, 1, 0])
def F27A1 (k : Value → World → Prop) (N1 : Env → World → Prop) (q : List Nat) (ρ : Env) (w : World) : Prop := At Try.prog 35 F27B1 (F27Q1 k N1) q ρ w
def F27L1 (k : Value → World → Prop) (ρ : Env) (w : World) : Prop := LoopAt Try.prog 35 F27B (retQ Try.prog Try.f27.results.toList k) [1, 1, 1, 0, 1, 0] ρ w
theorem F27L1_inv (k : Value → World → Prop) (I : Nat → Env → World → Prop) (round : ∀ m ρ w, I m ρ w → F27A1 k (fun ρ' w' => ∃ m', m' < m ∧ I m' ρ' w') [] ρ w) {m : Nat} {ρ : Env} {w : World} (h : I m ρ w) : F27L1 k ρ w :=
  LoopAt_inv Try.mixed (B := F27B) (Q := (retQ Try.prog Try.f27.results.toList k)) (p := [1, 1, 1, 0, 1, 0]) (by kernel_rfl) (by kernel_rfl) I round h
def F27_0 (d0 : Value) (w : World) (k : Value → World → Prop) : Prop :=
  pFn Try.prog 53 [d0] w fun v7 w =>
  pC v7 (
    k (Value.slice none 0 0) w)
   (
    px Try.prog (nilSem d0) w fun v9 w =>
    px Try.prog (Instr.fieldAt 93 v9 2) w fun v10 w =>
    px Try.prog (Instr.loadAt 90 v10) w fun v11 w =>
    pFn Try.prog 56 [v11] w fun v12 w =>
    px Try.prog (bSem .len #[22] 3 #[v12]) w fun v13 w =>
    F27L1 k (put (put (put (put (put (put (put (put (put (put (put (argEnv [d0]) 2 (Value.slice none 0 0)) 6 d0) 7 v7) 3 (Value.slice none 0 0)) 8 d0) 9 v9) 10 v10) 11 v11) 12 v12) 13 v13) 14 (Value.int IntKind.i64 0)) w)
theorem F27_0_eq (d0 : Value) (w : World) (k : Value → World → Prop) : F27A k [] (argEnv [d0]) w = F27_0 d0 w k := by kernel_rfl
def F27_1 (k : Value → World → Prop) (N1 : Env → World → Prop) (ρ : Env) (w : World) : Prop :=
  px Try.prog (binSem BinOp.lss 3 (Operand.tmp 14) (Operand.tmp 13) (ρ 14) (ρ 13)) w fun v15 w =>
  pC v15 (
    px Try.prog (Instr.indexAt 22 (ρ 12) (ρ 14)) w fun v16 w =>
    px Try.prog (Instr.loadAt 9 v16) w fun v17 w =>
    px Try.prog (nilSem (ρ 0)) w fun v21 w =>
    px Try.prog (Instr.fieldAt 93 v21 2) w fun v22 w =>
    px Try.prog (Instr.loadAt 90 v22) w fun v23 w =>
    px Try.prog (Instr.lookup 90 v23 v17 false) w fun v25 w =>
    px Try.prog (nilSem v25) w fun v26 w =>
    px Try.prog (Instr.fieldAt 101 v26 0) w fun v27 w =>
    px Try.prog (Instr.loadAt 30 v27) w fun v28 w =>
    pFn Try.prog 59 [v28] w fun v29 w =>
    px Try.prog (Instr.build 52 #[(0, v17), (1, v29)]) w fun v30 w =>
    px Try.prog (Instr.buildSlice 37 1 #[(0, v30)]) w fun v31 w =>
    px Try.prog (bSem .append #[37, 37] 37 #[(ρ 3), v31]) w fun v32 w =>
    px Try.prog (binSem BinOp.add 3 (Operand.tmp 14) (Operand.const (Value.int IntKind.i64 1)) (ρ 14) (Value.int IntKind.i64 1)) w fun v33 w =>
    N1 (put (put (put (put (put (put (put (put (put (put (put (put (put (put (put (put (put (put (put (put (put (put ρ 15 v15) 16 v16) 17 v17) 5 v17) 18 (ρ 3)) 19 v17) 20 (ρ 0)) 21 v21) 22 v22) 23 v23) 24 v17) 25 v25) 26 v26) 27 v27) 28 v28) 29 v29) 30 v30) 31 v31) 32 v32) 3 v32) 33 v33) 14 v33) w)
   (
    F27A k [1, 1, 1, 1] (put ρ 15 v15) w)
theorem F27_1_eq (k : Value → World → Prop) (N1 : Env → World → Prop) (ρ : Env) (w : World) : F27A1 k N1 [] ρ w = F27_1 k N1 ρ w := by kernel_rfl
def F27_2 (k : Value → World → Prop) (ρ : Env) (w : World) : Prop :=
  k (ρ 3) w
theorem F27_2_eq (k : Value → World → Prop) (ρ : Env) (w : World) : F27A k [1, 1, 1, 1] ρ w = F27_2 k ρ w := by kernel_rfl
theorem F27_in (d0 : Value) (w : World) (k : Value → World → Prop) (h : F27_0 d0 w k) : pFn Try.prog 27 [d0] w k :=
  pFn_of_at Try.mixed Try.func27 (by kernel_rfl) (by kernel_rfl) Try.ntmps27 (by kernel_rfl) (by kernel_rfl) (by simp) ((F27_0_eq d0 w k).mpr h)

/-! ## 28 (*freight/disk.Disk).Reads -/
noncomputable def F28B : Code := bodyOf Try.f28
def F28A (k : Value → World → Prop) (q : List Nat) (ρ : Env) (w : World) : Prop := At Try.prog 10 F28B (retQ Try.prog Try.f28.results.toList k) q ρ w
def F28_0 (d0 : Value) (w : World) (k : Value → World → Prop) : Prop :=
  pFn Try.prog 53 [d0] w fun v4 w =>
  pC v4 (
    k (Value.slice none 0 0) w)
   (
    px Try.prog (nilSem d0) w fun v6 w =>
    px Try.prog (Instr.fieldAt 93 v6 8) w fun v7 w =>
    px Try.prog (Instr.loadAt 60 v7) w fun v8 w =>
    pFn Try.prog 64 [v8] w fun v9 w =>
    k v9 w)
theorem F28_0_eq (d0 : Value) (w : World) (k : Value → World → Prop) : F28A k [] (argEnv [d0]) w = F28_0 d0 w k := by kernel_rfl
theorem F28_in (d0 : Value) (w : World) (k : Value → World → Prop) (h : F28_0 d0 w k) : pFn Try.prog 28 [d0] w k :=
  pFn_of_at Try.mixed Try.func28 (by kernel_rfl) (by kernel_rfl) Try.ntmps28 (by kernel_rfl) (by kernel_rfl) (by simp) ((F28_0_eq d0 w k).mpr h)

/-! ## 29 (*freight/disk.Disk).Strokes -/
noncomputable def F29B : Code := bodyOf Try.f29
def F29A (k : Value → World → Prop) (q : List Nat) (ρ : Env) (w : World) : Prop := At Try.prog 9 F29B (retQ Try.prog Try.f29.results.toList k) q ρ w
def F29_0 (d0 : Value) (w : World) (k : Value → World → Prop) : Prop :=
  pFn Try.prog 53 [d0] w fun v4 w =>
  pC v4 (
    k (Value.int IntKind.i64 0) w)
   (
    px Try.prog (nilSem d0) w fun v6 w =>
    px Try.prog (Instr.fieldAt 93 v6 4) w fun v7 w =>
    px Try.prog (Instr.loadAt 3 v7) w fun v8 w =>
    k v8 w)
theorem F29_0_eq (d0 : Value) (w : World) (k : Value → World → Prop) : F29A k [] (argEnv [d0]) w = F29_0 d0 w k := by kernel_rfl
theorem F29_in (d0 : Value) (w : World) (k : Value → World → Prop) (h : F29_0 d0 w k) : pFn Try.prog 29 [d0] w k :=
  pFn_of_at Try.mixed Try.func29 (by kernel_rfl) (by kernel_rfl) Try.ntmps29 (by kernel_rfl) (by kernel_rfl) (by simp) ((F29_0_eq d0 w k).mpr h)

/-! ## 32 (*freight/disk.Disk).Used -/
noncomputable def F32B : Code := bodyOf Try.f32
def F32A (k : Value → World → Prop) (q : List Nat) (ρ : Env) (w : World) : Prop := At Try.prog 25 F32B (retQ Try.prog Try.f32.results.toList k) q ρ w
noncomputable def F32B1 : Code := sub F32B [1, 1, 1, 0, 1, 0, 0]
def F32Q1 (k : Value → World → Prop) (N1 : Env → World → Prop) : Xt → Env → World → Prop := thenE N1 (contAt Try.prog 25 F32B (retQ Try.prog Try.f32.results.toList k) [1, 1, 1, 0, 1, 0])
def F32A1 (k : Value → World → Prop) (N1 : Env → World → Prop) (q : List Nat) (ρ : Env) (w : World) : Prop := At Try.prog 25 F32B1 (F32Q1 k N1) q ρ w
def F32L1 (k : Value → World → Prop) (ρ : Env) (w : World) : Prop := LoopAt Try.prog 25 F32B (retQ Try.prog Try.f32.results.toList k) [1, 1, 1, 0, 1, 0] ρ w
theorem F32L1_inv (k : Value → World → Prop) (I : Nat → Env → World → Prop) (round : ∀ m ρ w, I m ρ w → F32A1 k (fun ρ' w' => ∃ m', m' < m ∧ I m' ρ' w') [] ρ w) {m : Nat} {ρ : Env} {w : World} (h : I m ρ w) : F32L1 k ρ w :=
  LoopAt_inv Try.mixed (B := F32B) (Q := (retQ Try.prog Try.f32.results.toList k)) (p := [1, 1, 1, 0, 1, 0]) (by kernel_rfl) (by kernel_rfl) I round h
def F32_0 (d0 : Value) (w : World) (k : Value → World → Prop) : Prop :=
  pFn Try.prog 53 [d0] w fun v7 w =>
  pC v7 (
    k (Value.int IntKind.i64 0) w)
   (
    px Try.prog (nilSem d0) w fun v9 w =>
    px Try.prog (Instr.fieldAt 93 v9 1) w fun v10 w =>
    px Try.prog (Instr.loadAt 90 v10) w fun v11 w =>
    px Try.prog (Instr.range 90 v11) w fun v12 w =>
    F32L1 k (put (put (put (put (put (put (put (put (put (argEnv [d0]) 2 (Value.int IntKind.i64 0)) 6 d0) 7 v7) 3 (Value.int IntKind.i64 0)) 8 d0) 9 v9) 10 v10) 11 v11) 12 v12) w)
theorem F32_0_eq (d0 : Value) (w : World) (k : Value → World → Prop) : F32A k [] (argEnv [d0]) w = F32_0 d0 w k := by kernel_rfl
def F32_1 (k : Value → World → Prop) (N1 : Env → World → Prop) (ρ : Env) (w : World) : Prop :=
  px Try.prog (Instr.next (ρ 12) false 0) w fun v13 w =>
  px Try.prog (Instr.extract v13 0) w fun v14 w =>
  pC v14 (
    px Try.prog (Instr.entry (ρ 12)) w fun v15 w =>
    px Try.prog (Instr.extract v15 1) w fun v16 w =>
    px Try.prog (nilSem v16) w fun v19 w =>
    px Try.prog (Instr.fieldAt 101 v19 1) w fun v20 w =>
    px Try.prog (Instr.loadAt 30 v20) w fun v21 w =>
    px Try.prog (bSem .len #[30] 3 #[v21]) w fun v22 w =>
    px Try.prog (binSem BinOp.add 3 (Operand.tmp 17) (Operand.tmp 22) (ρ 3) v22) w fun v23 w =>
    N1 (put (put (put (put (put (put (put (put (put (put (put (put (put ρ 13 v13) 14 v14) 15 v15) 16 v16) 5 v16) 17 (ρ 3)) 18 v16) 19 v19) 20 v20) 21 v21) 22 v22) 23 v23) 3 v23) w)
   (
    F32A k [1, 1, 1, 1] (put (put ρ 13 v13) 14 v14) w)
theorem F32_1_eq (k : Value → World → Prop) (N1 : Env → World → Prop) (ρ : Env) (w : World) : F32A1 k N1 [] ρ w = F32_1 k N1 ρ w := by kernel_rfl
def F32_2 (k : Value → World → Prop) (ρ : Env) (w : World) : Prop :=
  k (ρ 3) w
theorem F32_2_eq (k : Value → World → Prop) (ρ : Env) (w : World) : F32A k [1, 1, 1, 1] ρ w = F32_2 k ρ w := by kernel_rfl
theorem F32_in (d0 : Value) (w : World) (k : Value → World → Prop) (h : F32_0 d0 w k) : pFn Try.prog 32 [d0] w k :=
  pFn_of_at Try.mixed Try.func32 (by kernel_rfl) (by kernel_rfl) Try.ntmps32 (by kernel_rfl) (by kernel_rfl) (by simp) ((F32_0_eq d0 w k).mpr h)

/-! ## 35 (*freight/disk.Disk).Twin -/
noncomputable def F35B : Code := bodyOf Try.f35
def F35A (k : Value → World → Prop) (q : List Nat) (ρ : Env) (w : World) : Prop := At Try.prog 94 F35B (retQ Try.prog Try.f35.results.toList k) q ρ w
noncomputable def F35B1 : Code := sub F35B [1, 1, 1, 1, 1, 1, 0, 1, 0, 0]
def F35Q1 (k : Value → World → Prop) (N1 : Env → World → Prop) : Xt → Env → World → Prop := thenE N1 (contAt Try.prog 94 F35B (retQ Try.prog Try.f35.results.toList k) [1, 1, 1, 1, 1, 1, 0, 1, 0])
def F35A1 (k : Value → World → Prop) (N1 : Env → World → Prop) (q : List Nat) (ρ : Env) (w : World) : Prop := At Try.prog 94 F35B1 (F35Q1 k N1) q ρ w
def F35L1 (k : Value → World → Prop) (ρ : Env) (w : World) : Prop := LoopAt Try.prog 94 F35B (retQ Try.prog Try.f35.results.toList k) [1, 1, 1, 1, 1, 1, 0, 1, 0] ρ w
theorem F35L1_inv (k : Value → World → Prop) (I : Nat → Env → World → Prop) (round : ∀ m ρ w, I m ρ w → F35A1 k (fun ρ' w' => ∃ m', m' < m ∧ I m' ρ' w') [] ρ w) {m : Nat} {ρ : Env} {w : World} (h : I m ρ w) : F35L1 k ρ w :=
  LoopAt_inv Try.mixed (B := F35B) (Q := (retQ Try.prog Try.f35.results.toList k)) (p := [1, 1, 1, 1, 1, 1, 0, 1, 0]) (by kernel_rfl) (by kernel_rfl) I round h
noncomputable def F35B2 : Code := sub F35B [1, 1, 1, 1, 1, 1, 1, 0, 1, 0, 0]
def F35Q2 (k : Value → World → Prop) (N2 : Env → World → Prop) : Xt → Env → World → Prop := thenE N2 (contAt Try.prog 94 F35B (retQ Try.prog Try.f35.results.toList k) [1, 1, 1, 1, 1, 1, 1, 0, 1, 0])
def F35A2 (k : Value → World → Prop) (N2 : Env → World → Prop) (q : List Nat) (ρ : Env) (w : World) : Prop := At Try.prog 94 F35B2 (F35Q2 k N2) q ρ w
def F35L2 (k : Value → World → Prop) (ρ : Env) (w : World) : Prop := LoopAt Try.prog 94 F35B (retQ Try.prog Try.f35.results.toList k) [1, 1, 1, 1, 1, 1, 1, 0, 1, 0] ρ w
theorem F35L2_inv (k : Value → World → Prop) (I : Nat → Env → World → Prop) (round : ∀ m ρ w, I m ρ w → F35A2 k (fun ρ' w' => ∃ m', m' < m ∧ I m' ρ' w') [] ρ w) {m : Nat} {ρ : Env} {w : World} (h : I m ρ w) : F35L2 k ρ w :=
  LoopAt_inv Try.mixed (B := F35B) (Q := (retQ Try.prog Try.f35.results.toList k)) (p := [1, 1, 1, 1, 1, 1, 1, 0, 1, 0]) (by kernel_rfl) (by kernel_rfl) I round h
noncomputable def F35B3 : Code := sub F35B [1, 1, 1, 1, 1, 1, 1, 1, 0, 1, 0, 0]
def F35Q3 (k : Value → World → Prop) (N3 : Env → World → Prop) : Xt → Env → World → Prop := thenE N3 (contAt Try.prog 94 F35B (retQ Try.prog Try.f35.results.toList k) [1, 1, 1, 1, 1, 1, 1, 1, 0, 1, 0])
def F35A3 (k : Value → World → Prop) (N3 : Env → World → Prop) (q : List Nat) (ρ : Env) (w : World) : Prop := At Try.prog 94 F35B3 (F35Q3 k N3) q ρ w
def F35L3 (k : Value → World → Prop) (ρ : Env) (w : World) : Prop := LoopAt Try.prog 94 F35B (retQ Try.prog Try.f35.results.toList k) [1, 1, 1, 1, 1, 1, 1, 1, 0, 1, 0] ρ w
theorem F35L3_inv (k : Value → World → Prop) (I : Nat → Env → World → Prop) (round : ∀ m ρ w, I m ρ w → F35A3 k (fun ρ' w' => ∃ m', m' < m ∧ I m' ρ' w') [] ρ w) {m : Nat} {ρ : Env} {w : World} (h : I m ρ w) : F35L3 k ρ w :=
  LoopAt_inv Try.mixed (B := F35B) (Q := (retQ Try.prog Try.f35.results.toList k)) (p := [1, 1, 1, 1, 1, 1, 1, 1, 0, 1, 0]) (by kernel_rfl) (by kernel_rfl) I round h
def F35_0 (a0 : Value) (w : World) (k : Value → World → Prop) : Prop :=
  pFn Try.prog 53 [a0] w fun v15 w =>
  pC v15 (
    px Try.prog (Instr.build 93 #[]) w fun v16 w =>
    px Try.prog (Instr.box 93 v16) w fun v17 w =>
    k v17 w)
   (
    px Try.prog (Instr.makeMap 120 none) w fun v18 w =>
    px Try.prog (Instr.alloc 120 true (.tuple #[])) w fun v3 w =>
    pu Try.prog (Instr.storeAt 120 v3 v18) w fun w =>
    px Try.prog (Instr.makeFunc (Fn.func 65) #[] #[v3]) w fun v19 w =>
    px Try.prog (nilSem a0) w fun v21 w =>
    px Try.prog (Instr.loadAt 93 v21) w fun v22 w =>
    px Try.prog (Instr.alloc 93 true (.tuple #[])) w fun v5 w =>
    pu Try.prog (Instr.storeAt 93 v5 v22) w fun w =>
    px Try.prog (Instr.makeMap 90 none) w fun v23 w =>
    px Try.prog (Instr.makeMap 90 none) w fun v24 w =>
    px Try.prog (nilSem a0) w fun v26 w =>
    px Try.prog (Instr.fieldAt 93 v26 8) w fun v27 w =>
    px Try.prog (Instr.loadAt 60 v27) w fun v28 w =>
    pFn Try.prog 64 [v28] w fun v29 w =>
    px Try.prog (Instr.fieldAt 93 v5 1) w fun v30 w =>
    pu Try.prog (Instr.storeAt 90 v30 v23) w fun w =>
    px Try.prog (Instr.fieldAt 93 v5 2) w fun v31 w =>
    pu Try.prog (Instr.storeAt 90 v31 v24) w fun w =>
    px Try.prog (Instr.fieldAt 93 v5 3) w fun v32 w =>
    pu Try.prog (Instr.storeAt 91 v32 (Value.slice none 0 0)) w fun w =>
    px Try.prog (Instr.fieldAt 93 v5 8) w fun v33 w =>
    pu Try.prog (Instr.storeAt 60 v33 v29) w fun w =>
    px Try.prog (nilSem a0) w fun v35 w =>
    px Try.prog (Instr.fieldAt 93 v35 1) w fun v36 w =>
    px Try.prog (Instr.loadAt 90 v36) w fun v37 w =>
    px Try.prog (Instr.range 90 v37) w fun v38 w =>
    F35L1 k (put (put (put (put (put (put (put (put (put (put (put (put (put (put (put (put (put (put (put (put (put (put (put (put (put (put (put (argEnv [a0]) 2 (Value.pointer none)) 14 a0) 15 v15) 18 v18) 3 v3) 19 v19) 4 v19) 20 a0) 21 v21) 22 v22) 5 v5) 23 v23) 24 v24) 25 a0) 26 v26) 27 v27) 28 v28) 29 v29) 30 v30) 31 v31) 32 v32) 33 v33) 34 a0) 35 v35) 36 v36) 37 v37) 38 v38) w)
theorem F35_0_eq (a0 : Value) (w : World) (k : Value → World → Prop) : F35A k [] (argEnv [a0]) w = F35_0 a0 w k := by kernel_rfl
def F35_1 (k : Value → World → Prop) (N1 : Env → World → Prop) (ρ : Env) (w : World) : Prop :=
  px Try.prog (Instr.next (ρ 38) false 0) w fun v39 w =>
  px Try.prog (Instr.extract v39 0) w fun v40 w =>
  pC v40 (
    px Try.prog (Instr.entry (ρ 38)) w fun v41 w =>
    px Try.prog (Instr.extract v41 0) w fun v42 w =>
    px Try.prog (Instr.extract v41 1) w fun v43 w =>
    ∃ S : World → Prop, S w.drew ∧ (fun w =>
    pq Try.prog S (Instr.fieldAt 93 (ρ 5) 1) fun v44 =>
    pq Try.prog S (Instr.loadAt 90 v44) fun v45 =>
    pVal Try.prog (ρ 4) [v43] w fun v49 w => S w ∧ (
    pu Try.prog (Instr.mapUpdate 90 v45 v42 v49) w fun w => (
    N1 (put (put (put (put (put (put (put (put (put (put (put (put (put ρ 39 v39) 40 v40) 41 v41) 42 v42) 43 v43) 6 v42) 7 v43) 44 v44) 45 v45) 46 v42) 47 (ρ 4)) 48 v43) 49 v49) w))) w.drew)
   (
    F35A k [1, 1, 1, 1, 1, 1, 1] (put (put ρ 39 v39) 40 v40) w)
theorem F35_1_eq (k : Value → World → Prop) (N1 : Env → World → Prop) (ρ : Env) (w : World) : F35A1 k N1 [] ρ w = F35_1 k N1 ρ w := by kernel_rfl
def F35_2 (k : Value → World → Prop) (ρ : Env) (w : World) : Prop :=
  px Try.prog (nilSem (ρ 0)) w fun v51 w =>
  px Try.prog (Instr.fieldAt 93 v51 2) w fun v52 w =>
  px Try.prog (Instr.loadAt 90 v52) w fun v53 w =>
  px Try.prog (Instr.range 90 v53) w fun v54 w =>
  F35L2 k (put (put (put (put (put ρ 50 (ρ 0)) 51 v51) 52 v52) 53 v53) 54 v54) w
theorem F35_2_eq (k : Value → World → Prop) (ρ : Env) (w : World) : F35A k [1, 1, 1, 1, 1, 1, 1] ρ w = F35_2 k ρ w := by kernel_rfl
def F35_3 (k : Value → World → Prop) (N2 : Env → World → Prop) (ρ : Env) (w : World) : Prop :=
  px Try.prog (Instr.next (ρ 54) false 0) w fun v55 w =>
  px Try.prog (Instr.extract v55 0) w fun v56 w =>
  pC v56 (
    px Try.prog (Instr.entry (ρ 54)) w fun v57 w =>
    px Try.prog (Instr.extract v57 0) w fun v58 w =>
    px Try.prog (Instr.extract v57 1) w fun v59 w =>
    ∃ S : World → Prop, S w.drew ∧ (fun w =>
    pq Try.prog S (Instr.fieldAt 93 (ρ 5) 2) fun v60 =>
    pq Try.prog S (Instr.loadAt 90 v60) fun v61 =>
    pVal Try.prog (ρ 4) [v59] w fun v65 w => S w ∧ (
    pu Try.prog (Instr.mapUpdate 90 v61 v58 v65) w fun w => (
    N2 (put (put (put (put (put (put (put (put (put (put (put (put (put ρ 55 v55) 56 v56) 57 v57) 58 v58) 59 v59) 8 v58) 9 v59) 60 v60) 61 v61) 62 v58) 63 (ρ 4)) 64 v59) 65 v65) w))) w.drew)
   (
    F35A k [1, 1, 1, 1, 1, 1, 1, 1] (put (put ρ 55 v55) 56 v56) w)
theorem F35_3_eq (k : Value → World → Prop) (N2 : Env → World → Prop) (ρ : Env) (w : World) : F35A2 k N2 [] ρ w = F35_3 k N2 ρ w := by kernel_rfl
def F35_4 (k : Value → World → Prop) (ρ : Env) (w : World) : Prop :=
  px Try.prog (nilSem (ρ 0)) w fun v67 w =>
  px Try.prog (Instr.fieldAt 93 v67 3) w fun v68 w =>
  px Try.prog (Instr.loadAt 91 v68) w fun v69 w =>
  px Try.prog (bSem .len #[91] 3 #[v69]) w fun v70 w =>
  F35L3 k (put (put (put (put (put (put ρ 66 (ρ 0)) 67 v67) 68 v68) 69 v69) 70 v70) 71 (Value.int IntKind.i64 0)) w
theorem F35_4_eq (k : Value → World → Prop) (ρ : Env) (w : World) : F35A k [1, 1, 1, 1, 1, 1, 1, 1] ρ w = F35_4 k ρ w := by kernel_rfl
def F35_5 (k : Value → World → Prop) (N3 : Env → World → Prop) (ρ : Env) (w : World) : Prop :=
  px Try.prog (binSem BinOp.lss 3 (Operand.tmp 71) (Operand.tmp 70) (ρ 71) (ρ 70)) w fun v72 w =>
  pC v72 (
    px Try.prog (Instr.indexAt 91 (ρ 69) (ρ 71)) w fun v73 w =>
    px Try.prog (Instr.loadAt 109 v73) w fun v74 w =>
    px Try.prog (Instr.typeAssert v74 109 103 true) w fun v77 w =>
    px Try.prog (Instr.extract v77 0) w fun v78 w =>
    px Try.prog (Instr.extract v77 1) w fun v79 w =>
    px Try.prog (Instr.alloc 103 true (.tuple #[])) w fun v12 w =>
    pu Try.prog (Instr.storeAt 103 v12 v78) w fun w =>
    pC v79 (
      px Try.prog (Instr.fieldAt 103 v12 1) w fun v82 w =>
      px Try.prog (Instr.loadAt 94 v82) w fun v83 w =>
      pVal Try.prog (ρ 4) [v83] w fun v84 w =>
      F35A3 k N3 [1, 1, 0, 0, 1, 1] (put (put (put (put (put (put (put (put (put (put (put (put (put (put (put (put ρ 72 v72) 73 v73) 74 v74) 11 v74) 76 v74) 77 v77) 75 v77) 78 v78) 79 v79) 12 v12) 13 v79) 80 v79) 81 (ρ 4)) 82 v82) 83 v83) 84 v84) w)
     (
      F35A3 k N3 [1, 1, 0, 0, 1, 1] (put (put (put (put (put (put (put (put (put (put (put (put ρ 72 v72) 73 v73) 74 v74) 11 v74) 76 v74) 77 v77) 75 v77) 78 v78) 79 v79) 12 v12) 13 v79) 80 v79) w))
   (
    F35A k [1, 1, 1, 1, 1, 1, 1, 1, 1] (put ρ 72 v72) w)
theorem F35_5_eq (k : Value → World → Prop) (N3 : Env → World → Prop) (ρ : Env) (w : World) : F35A3 k N3 [] ρ w = F35_5 k N3 ρ w := by kernel_rfl
def F35_6 (k : Value → World → Prop) (N3 : Env → World → Prop) (ρ : Env) (w : World) : Prop :=
  ∃ S : World → Prop, S w.drew ∧ (fun w =>
  pq Try.prog S (Instr.fieldAt 93 (ρ 5) 3) fun v85 =>
  pq Try.prog S (Instr.loadAt 91 v85) fun v86 =>
  pq Try.prog S (Instr.loadAt 120 (ρ 3)) fun v88 =>
  pInv Try.prog (ρ 11) "freight/disk.twin" [v88] w fun v89 w => S w ∧ (
  px Try.prog (Instr.buildSlice 91 1 #[(0, v89)]) w fun v90 w => S w ∧ (
  px Try.prog (bSem .append #[91, 91] 91 #[v86, v90]) w fun v91 w => S w ∧ (
  pq Try.prog S (Instr.fieldAt 93 (ρ 5) 3) fun v92 =>
  pu Try.prog (Instr.storeAt 91 v92 v91) w fun w => (
  px Try.prog (binSem BinOp.add 3 (Operand.tmp 71) (Operand.const (Value.int IntKind.i64 1)) (ρ 71) (Value.int IntKind.i64 1)) w fun v93 w =>
  N3 (put (put (put (put (put (put (put (put (put (put ρ 85 v85) 86 v86) 87 (ρ 11)) 88 v88) 89 v89) 90 v90) 91 v91) 92 v92) 93 v93) 71 v93) w))))) w.drew
theorem F35_6_eq (k : Value → World → Prop) (N3 : Env → World → Prop) (ρ : Env) (w : World) : F35A3 k N3 [1, 1, 0, 0, 1, 1] ρ w = F35_6 k N3 ρ w := by kernel_rfl
def F35_7 (k : Value → World → Prop) (ρ : Env) (w : World) : Prop :=
  k (ρ 5) w
theorem F35_7_eq (k : Value → World → Prop) (ρ : Env) (w : World) : F35A k [1, 1, 1, 1, 1, 1, 1, 1, 1] ρ w = F35_7 k ρ w := by kernel_rfl
theorem F35_in (a0 : Value) (w : World) (k : Value → World → Prop) (h : F35_0 a0 w k) : pFn Try.prog 35 [a0] w k :=
  pFn_of_at Try.mixed Try.func35 (by kernel_rfl) (by kernel_rfl) Try.ntmps35 (by kernel_rfl) (by kernel_rfl) (by simp) ((F35_0_eq a0 w k).mpr h)

/-! ## 38 (*freight/disk.Disk).Room -/
noncomputable def F38B : Code := bodyOf Try.f38
def F38A (k : Value → World → Prop) (q : List Nat) (ρ : Env) (w : World) : Prop := At Try.prog 9 F38B (retQ Try.prog Try.f38.results.toList k) q ρ w
def F38_0 (d0 : Value) (w : World) (k : Value → World → Prop) : Prop :=
  pFn Try.prog 53 [d0] w fun v4 w =>
  pC v4 (
    k (Value.int IntKind.i64 0) w)
   (
    px Try.prog (nilSem d0) w fun v6 w =>
    px Try.prog (Instr.fieldAt 93 v6 0) w fun v7 w =>
    px Try.prog (Instr.loadAt 3 v7) w fun v8 w =>
    k v8 w)
theorem F38_0_eq (d0 : Value) (w : World) (k : Value → World → Prop) : F38A k [] (argEnv [d0]) w = F38_0 d0 w k := by kernel_rfl
theorem F38_in (d0 : Value) (w : World) (k : Value → World → Prop) (h : F38_0 d0 w k) : pFn Try.prog 38 [d0] w k :=
  pFn_of_at Try.mixed Try.func38 (by kernel_rfl) (by kernel_rfl) Try.ntmps38 (by kernel_rfl) (by kernel_rfl) (by simp) ((F38_0_eq d0 w k).mpr h)

/-! ## 39 (*freight/disk.Disk).List -/
noncomputable def F39B : Code := bodyOf Try.f39
def F39A (k : Value → World → Prop) (q : List Nat) (ρ : Env) (w : World) : Prop := At Try.prog 14 F39B (retQ Try.prog Try.f39.results.toList k) q ρ w
def F39_0 (d0 : Value) (prefix1 : Value) (w : World) (k : Value → World → Prop) : Prop :=
  px Try.prog (Instr.box 9 prefix1) w fun v3 w =>
  pFn Try.prog 22 [d0] w fun v6 w =>
  pC v6 (
    k (Value.slice none 0 0) w)
   (
    px Try.prog (nilSem d0) w fun v8 w =>
    px Try.prog (Instr.fieldAt 93 v8 1) w fun v9 w =>
    px Try.prog (Instr.loadAt 90 v9) w fun v10 w =>
    pFn Try.prog 56 [v10] w fun v11 w =>
    px Try.prog (Instr.makeFunc (Fn.func 70) #[] #[v3]) w fun v12 w =>
    pFn Try.prog 69 [v11, v12] w fun v13 w =>
    k v13 w)
theorem F39_0_eq (d0 : Value) (prefix1 : Value) (w : World) (k : Value → World → Prop) : F39A k [] (argEnv [d0, prefix1]) w = F39_0 d0 prefix1 w k := by kernel_rfl
theorem F39_in (d0 : Value) (prefix1 : Value) (w : World) (k : Value → World → Prop) (h : F39_0 d0 prefix1 w k) : pFn Try.prog 39 [d0, prefix1] w k :=
  pFn_of_at Try.mixed Try.func39 (by kernel_rfl) (by kernel_rfl) Try.ntmps39 (by kernel_rfl) (by kernel_rfl) (by simp) ((F39_0_eq d0 prefix1 w k).mpr h)

/-! ## 40 (*freight/disk.Disk).Look -/
noncomputable def F40B : Code := bodyOf Try.f40
def F40A (k : Value → World → Prop) (q : List Nat) (ρ : Env) (w : World) : Prop := At Try.prog 8 F40B (retQ Try.prog Try.f40.results.toList k) q ρ w
def F40_0 (d0 : Value) (w : World) (k : Value → World → Prop) : Prop :=
  pFn Try.prog 53 [d0] w fun v3 w =>
  px Try.prog (Op.unary UnOp.not v3) w fun v4 w =>
  pC v4 (
    px Try.prog (nilSem d0) w fun v6 w =>
    px Try.prog (Instr.fieldAt 93 v6 8) w fun v7 w =>
    pu Try.prog (Instr.storeAt 60 v7 (Value.slice none 0 0)) w fun w =>
    k (.tuple #[]) w)
   (
    k (.tuple #[]) w)
theorem F40_0_eq (d0 : Value) (w : World) (k : Value → World → Prop) : F40A k [] (argEnv [d0]) w = F40_0 d0 w k := by kernel_rfl
theorem F40_in (d0 : Value) (w : World) (k : Value → World → Prop) (h : F40_0 d0 w k) : pFn Try.prog 40 [d0] w k :=
  pFn_of_at Try.mixed Try.func40 (by kernel_rfl) (by kernel_rfl) Try.ntmps40 (by kernel_rfl) (by kernel_rfl) (by simp) ((F40_0_eq d0 w k).mpr h)

/-! ## 41 (*freight/disk.Disk).Size -/
noncomputable def F41B : Code := bodyOf Try.f41
def F41A (k : Value → World → Prop) (q : List Nat) (ρ : Env) (w : World) : Prop := At Try.prog 22 F41B (retQ Try.prog Try.f41.results.toList k) q ρ w
def F41_0 (d0 : Value) (name1 : Value) (w : World) (k : Value → World → Prop) : Prop :=
  pFn Try.prog 44 [d0, name1] w fun v11 w =>
  px Try.prog (Instr.extract v11 0) w fun v12 w =>
  px Try.prog (Instr.extract v11 1) w fun v13 w =>
  px Try.prog (binSem BinOp.neq 25 (Operand.tmp 14) (Operand.const (Value.int IntKind.i64 0)) v13 (Value.int IntKind.i64 0)) w fun v15 w =>
  pC v15 (
    k (.tuple #[(Value.int IntKind.i64 0), v13]) w)
   (
    px Try.prog (nilSem v12) w fun v18 w =>
    px Try.prog (Instr.fieldAt 101 v18 1) w fun v19 w =>
    px Try.prog (Instr.loadAt 30 v19) w fun v20 w =>
    px Try.prog (bSem .len #[30] 3 #[v20]) w fun v21 w =>
    k (.tuple #[v21, (Value.int IntKind.i64 0)]) w)
theorem F41_0_eq (d0 : Value) (name1 : Value) (w : World) (k : Value → World → Prop) : F41A k [] (argEnv [d0, name1]) w = F41_0 d0 name1 w k := by kernel_rfl
theorem F41_in (d0 : Value) (name1 : Value) (w : World) (k : Value → World → Prop) (h : F41_0 d0 name1 w k) : pFn Try.prog 41 [d0, name1] w k :=
  pFn_of_at Try.mixed Try.func41 (by kernel_rfl) (by kernel_rfl) Try.ntmps41 (by kernel_rfl) (by kernel_rfl) (by simp) ((F41_0_eq d0 name1 w k).mpr h)

/-! ## 42 (*freight/disk.Disk).Read -/
noncomputable def F42B : Code := bodyOf Try.f42
def F42A (k : Value → World → Prop) (q : List Nat) (ρ : Env) (w : World) : Prop := At Try.prog 72 F42B (retQ Try.prog Try.f42.results.toList k) q ρ w
def F42_0 (a0 : Value) (a1 : Value) (a2 : Value) (a3 : Value) (w : World) (k : Value → World → Prop) : Prop :=
  pFn Try.prog 44 [a0, a1] w fun v15 w =>
  px Try.prog (Instr.extract v15 0) w fun v16 w =>
  px Try.prog (Instr.extract v15 1) w fun v17 w =>
  px Try.prog (binSem BinOp.neq 25 (Operand.tmp 19) (Operand.const (Value.int IntKind.i64 0)) v17 (Value.int IntKind.i64 0)) w fun v20 w =>
  pC v20 (
    k (.tuple #[(Value.slice none 0 0), v17]) w)
   (
    px Try.prog (binSem BinOp.lss 3 (Operand.tmp 23) (Operand.const (Value.int IntKind.i64 0)) a2 (Value.int IntKind.i64 0)) w fun v24 w =>
    pG v24 false (fun k => k a3 w) (w := w) (next := fun v26 w =>
    pG v24 false (fun k => px Try.prog (binSem BinOp.lss 3 (Operand.tmp 26) (Operand.const (Value.int IntKind.i64 0)) v26 (Value.int IntKind.i64 0)) w k) (w := w) (next := fun v27 w =>
    px Try.prog (pickSem v24 (Value.bool true) v27) w fun v28 w =>
    pG v28 false (fun k => k a2 w) (w := w) (next := fun v30 w =>
    pG v28 false (fun k => k v16 w) (w := w) (next := fun v31 w =>
    pG v28 false (fun k => px Try.prog (nilSem v31) w k) (w := w) (next := fun v32 w =>
    pG v28 false (fun k => px Try.prog (Instr.fieldAt 101 v32 1) w k) (w := w) (next := fun v33 w =>
    pG v28 false (fun k => px Try.prog (Instr.loadAt 30 v33) w k) (w := w) (next := fun v34 w =>
    pG v28 false (fun k => px Try.prog (bSem .len #[30] 3 #[v34]) w k) (w := w) (next := fun v35 w =>
    pG v28 false (fun k => px Try.prog (binSem BinOp.gtr 3 (Operand.tmp 30) (Operand.tmp 35) v30 v35) w k) (w := w) (next := fun v36 w =>
    px Try.prog (pickSem v28 (Value.bool true) v36) w fun v37 w =>
    pG v37 false (fun k => k a3 w) (w := w) (next := fun v39 w =>
    pG v37 false (fun k => k v16 w) (w := w) (next := fun v40 w =>
    pG v37 false (fun k => px Try.prog (nilSem v40) w k) (w := w) (next := fun v41 w =>
    pG v37 false (fun k => px Try.prog (Instr.fieldAt 101 v41 1) w k) (w := w) (next := fun v42 w =>
    pG v37 false (fun k => px Try.prog (Instr.loadAt 30 v42) w k) (w := w) (next := fun v43 w =>
    pG v37 false (fun k => px Try.prog (bSem .len #[30] 3 #[v43]) w k) (w := w) (next := fun v44 w =>
    pG v37 false (fun k => k a2 w) (w := w) (next := fun v45 w =>
    pG v37 false (fun k => px Try.prog (binSem BinOp.sub 3 (Operand.tmp 44) (Operand.tmp 45) v44 v45) w k) (w := w) (next := fun v46 w =>
    pG v37 false (fun k => px Try.prog (binSem BinOp.gtr 3 (Operand.tmp 39) (Operand.tmp 46) v39 v46) w k) (w := w) (next := fun v47 w =>
    px Try.prog (pickSem v37 (Value.bool true) v47) w fun v48 w =>
    pC v48 (
      k (.tuple #[(Value.slice none 0 0), (Value.int IntKind.i64 54)]) w)
     (
      px Try.prog (nilSem a0) w fun v51 w =>
      px Try.prog (Instr.fieldAt 93 v51 8) w fun v52 w =>
      px Try.prog (Instr.loadAt 60 v52) w fun v53 w =>
      px Try.prog (Instr.build 86 #[(0, a1), (1, a2), (2, a3)]) w fun v57 w =>
      px Try.prog (Instr.buildSlice 60 1 #[(0, v57)]) w fun v58 w =>
      px Try.prog (bSem .append #[60, 60] 60 #[v53, v58]) w fun v59 w =>
      px Try.prog (nilSem a0) w fun v60 w =>
      px Try.prog (Instr.fieldAt 93 v60 8) w fun v61 w =>
      pu Try.prog (Instr.storeAt 60 v61 v59) w fun w =>
      px Try.prog (nilSem v16) w fun v63 w =>
      px Try.prog (Instr.fieldAt 101 v63 1) w fun v64 w =>
      px Try.prog (Instr.loadAt 30 v64) w fun v65 w =>
      px Try.prog (binSem BinOp.add 3 (Operand.tmp 67) (Operand.tmp 68) a2 a3) w fun v69 w =>
      px Try.prog (Instr.sliceAt 30 v65 (some a2) (some v69) none) w fun v70 w =>
      px Try.prog (bSem .append #[30, 30] 30 #[(Value.slice none 0 0), v70]) w fun v71 w =>
      k (.tuple #[v71, (Value.int IntKind.i64 0)]) w))))))))))))))))))))
theorem F42_0_eq (a0 : Value) (a1 : Value) (a2 : Value) (a3 : Value) (w : World) (k : Value → World → Prop) : F42A k [] (argEnv [a0, a1, a2, a3]) w = F42_0 a0 a1 a2 a3 w k := by kernel_rfl
theorem F42_in (a0 : Value) (a1 : Value) (a2 : Value) (a3 : Value) (w : World) (k : Value → World → Prop) (h : F42_0 a0 a1 a2 a3 w k) : pFn Try.prog 42 [a0, a1, a2, a3] w k :=
  pFn_of_at Try.mixed Try.func42 (by kernel_rfl) (by kernel_rfl) Try.ntmps42 (by kernel_rfl) (by kernel_rfl) (by simp) ((F42_0_eq a0 a1 a2 a3 w k).mpr h)

end Go.Proofs.Ytcdcojpfealppaa
