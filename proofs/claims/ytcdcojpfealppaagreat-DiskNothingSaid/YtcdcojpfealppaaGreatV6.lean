/- Put together by a program (wip/tools/shake.py): R2, Rep, Names. -/
import Derived.Test.YtcdcojpfealppaaGreatV1
import Derived.Test.YtcdcojpfealppaaGreatProg
import Derived.Test.YtcdcojpfealppaaGreatMix
import Derived.Test.YtcdcojpfealppaaGreatV2
import Derived.Test.YtcdcojpfealppaaGreatV4
import Derived.Test.YtcdcojpfealppaaGreatV5
import Derived.Test.YtcdcojpfealppaaGreatV3
set_option linter.unusedVariables false
set_option maxRecDepth 100000
namespace Go.Proofs.YtcdcojpfealppaaGreat
open Go Go.Proofs Go.Proofs.XRed Tryz
noncomputable def F80B : Code := bodyOf f80
def F80A (k : Value → World → Prop) (q : List Nat) (ρ : Env) (w : World) : Prop := At prog 9 F80B (retQ prog f80.results.toList k) q ρ w
def F80_0 (a0 : Value) (a1 : Value) (w : World) (k : Value → World → Prop) : Prop :=
 px prog (Instr.loadAt 29 a0) w fun v2 w =>
 px prog (Instr.loadAt 9 a1) w fun v3 w =>
 px prog (Instr.build 124 #[]) w fun v4 w =>
 px prog (Instr.box 124 v4) w fun v5 w =>
 px prog (Instr.build 126 #[(0, v3), (1, v5)]) w fun v6 w =>
 px prog (Instr.makeInterface 126 v6) w fun v7 w =>
 pFn prog 81 [v2, v7] w fun v8 w =>
 k (.tuple #[]) w
theorem F80_0_eq (a0 : Value) (a1 : Value) (w : World) (k : Value → World → Prop) : F80A k [] (argEnv [a0, a1]) w = F80_0 a0 a1 w k := by kernel_rfl
theorem F80_in (a0 : Value) (a1 : Value) (w : World) (k : Value → World → Prop) (h : F80_0 a0 a1 w k) : pFn prog 80 [a0, a1] w k :=
 pFn_of_at mixed func80 (by kernel_rfl) (by kernel_rfl) ntmps80 (by kernel_rfl) (by kernel_rfl) (by simp) ((F80_0_eq a0 a1 w k).mpr h)
noncomputable def F103B : Code := bodyOf f103
def F103A (k : Value → World → Prop) (q : List Nat) (ρ : Env) (w : World) : Prop := At prog 12 F103B (retQ prog f103.results.toList k) q ρ w
def F103_0 (a0 : Value) (w : World) (k : Value → World → Prop) : Prop :=
 ∃ S : World → Prop, S w.drew ∧ (fun w =>
 pq prog S (Instr.loadAt 29 a0) fun v1 =>
 pq prog S (Instr.loadAt 29 a0) fun v2 =>
 pq prog S (Instr.loadAt 29 a0) fun v3 =>
 pq prog S (nilSem v3) fun v4 =>
 pq prog S (Instr.fieldAt 58 v4 1) fun v5 =>
 pq prog S (Instr.loadAt 54 v5) fun v6 =>
 pFn prog 104 [v6] w fun v7 w => S w ∧ (
 pq prog S (nilSem v1) fun v8 =>
 pq prog S (Instr.fieldAt 58 v8 2) fun v9 =>
 pu prog (Instr.storeAt 54 v9 v7) w fun w => S w ∧ (
 pq prog S (nilSem v2) fun v10 =>
 pq prog S (Instr.fieldAt 58 v10 3) fun v11 =>
 pu prog (Instr.storeAt 55 v11 (.slice none 0 0)) w fun w => (
 k (.tuple #[]) w)))) w.drew
theorem F103_0_eq (a0 : Value) (w : World) (k : Value → World → Prop) : F103A k [] (argEnv [a0]) w = F103_0 a0 w k := by kernel_rfl
theorem F103_in (a0 : Value) (w : World) (k : Value → World → Prop) (h : F103_0 a0 w k) : pFn prog 103 [a0] w k :=
 pFn_of_at mixed func103 (by kernel_rfl) (by kernel_rfl) ntmps103 (by kernel_rfl) (by kernel_rfl) (by simp) ((F103_0_eq a0 w k).mpr h)
noncomputable def F105B : Code := bodyOf f105
def F105A (k : Value → World → Prop) (q : List Nat) (ρ : Env) (w : World) : Prop := At prog 12 F105B (retQ prog f105.results.toList k) q ρ w
def F105_0 (a0 : Value) (a1 : Value) (a2 : Value) (w : World) (k : Value → World → Prop) : Prop :=
 px prog (Instr.loadAt 9 a0) w fun v3 w =>
 px prog (Instr.loadAt 9 a1) w fun v4 w =>
 px prog (binSem .neq 9 (.tmp 3) (.tmp 4) v3 v4) w fun v5 w =>
 pC v5 (
 px prog (Instr.loadAt 29 a2) w fun v6 w =>
 px prog (Instr.loadAt 9 a0) w fun v7 w =>
 px prog (Instr.loadAt 9 a1) w fun v8 w =>
 px prog (Instr.build 172 #[(0, v7), (1, v8)]) w fun v9 w =>
 px prog (Instr.makeInterface 172 v9) w fun v10 w =>
 pFn prog 81 [v6, v10] w fun v11 w =>
 k (.tuple #[]) w)
 (
 k (.tuple #[]) w)
theorem F105_0_eq (a0 : Value) (a1 : Value) (a2 : Value) (w : World) (k : Value → World → Prop) : F105A k [] (argEnv [a0, a1, a2]) w = F105_0 a0 a1 a2 w k := by kernel_rfl
theorem F105_in (a0 : Value) (a1 : Value) (a2 : Value) (w : World) (k : Value → World → Prop) (h : F105_0 a0 a1 a2 w k) : pFn prog 105 [a0, a1, a2] w k :=
 pFn_of_at mixed func105 (by kernel_rfl) (by kernel_rfl) ntmps105 (by kernel_rfl) (by kernel_rfl) (by simp) ((F105_0_eq a0 a1 a2 w k).mpr h)
noncomputable def F106B : Code := bodyOf f106
def F106A (k : Value → World → Prop) (q : List Nat) (ρ : Env) (w : World) : Prop := At prog 16 F106B (retQ prog f106.results.toList k) q ρ w
def F106_0 (most0 : Value) (a1 : Value) (w : World) (k : Value → World → Prop) : Prop :=
 px prog (Instr.loadAt 39 a1) w fun v5 w =>
 px prog (bSem .len #[39] 3 #[v5]) w fun v6 w =>
 px prog (binSem .eql 3 (.tmp 6) (.const (.int .i64 0)) v6 (.int .i64 0)) w fun v7 w =>
 pC v7 (
 k (.int .i64 0) w)
 (
 px prog (Instr.loadAt 39 a1) w fun v8 w =>
 px prog (Instr.indexAt 39 v8 (.int .i64 0)) w fun v9 w =>
 px prog (Instr.loadAt 3 v9) w fun v10 w =>
 px prog (Instr.loadAt 39 a1) w fun v11 w =>
 px prog (Instr.sliceAt 39 v11 (some (.int .i64 1)) none none) w fun v12 w =>
 pu prog (Instr.storeAt 39 a1 v12) w fun w =>
 pFn prog 107 [v10, most0] w fun v15 w =>
 k v15 w)
theorem F106_0_eq (most0 : Value) (a1 : Value) (w : World) (k : Value → World → Prop) : F106A k [] (argEnv [most0, a1]) w = F106_0 most0 a1 w k := by kernel_rfl
theorem F106_in (most0 : Value) (a1 : Value) (w : World) (k : Value → World → Prop) (h : F106_0 most0 a1 w k) : pFn prog 106 [most0, a1] w k :=
 pFn_of_at mixed func106 (by kernel_rfl) (by kernel_rfl) ntmps106 (by kernel_rfl) (by kernel_rfl) (by simp) ((F106_0_eq most0 a1 w k).mpr h)
noncomputable def F110B : Code := bodyOf f110
def F110A (k : Value → World → Prop) (q : List Nat) (ρ : Env) (w : World) : Prop := At prog 6 F110B (retQ prog f110.results.toList k) q ρ w
def F110_0 (a0 : Value) (a1 : Value) (w : World) (k : Value → World → Prop) : Prop :=
 px prog (Instr.loadAt 29 a0) w fun v2 w =>
 px prog (Instr.loadAt 9 a1) w fun v3 w =>
 px prog (Instr.makeInterface 177 v3) w fun v4 w =>
 pFn prog 81 [v2, v4] w fun v5 w =>
 k (.tuple #[]) w
theorem F110_0_eq (a0 : Value) (a1 : Value) (w : World) (k : Value → World → Prop) : F110A k [] (argEnv [a0, a1]) w = F110_0 a0 a1 w k := by kernel_rfl
theorem F110_in (a0 : Value) (a1 : Value) (w : World) (k : Value → World → Prop) (h : F110_0 a0 a1 w k) : pFn prog 110 [a0, a1] w k :=
 pFn_of_at mixed func110 (by kernel_rfl) (by kernel_rfl) ntmps110 (by kernel_rfl) (by kernel_rfl) (by simp) ((F110_0_eq a0 a1 w k).mpr h)
noncomputable def F114B : Code := bodyOf f114
def F114A (k : Value → World → Prop) (q : List Nat) (ρ : Env) (w : World) : Prop := At prog 10 F114B (retQ prog f114.results.toList k) q ρ w
def F114_0 (a0 : Value) (a1 : Value) (a2 : Value) (w : World) (k : Value → World → Prop) : Prop :=
 ∃ S : World → Prop, S w.drew ∧ (fun w =>
 pq prog S (Instr.loadAt 117 a0) fun v3 =>
 pq prog S (Instr.loadAt 3 a1) fun v4 =>
 pq prog S (Instr.loadAt 36 a2) fun v5 =>
 pFn prog 89 [v5] w fun v6 w => S w ∧ (
 pq prog S (Instr.build 184 #[(0, v4), (1, v6)]) fun v7 =>
 pq prog S (Instr.makeInterface 184 v7) fun v8 =>
 pFn prog 115 [v3, v8] w fun v9 w => (
 k (.tuple #[]) w))) w.drew
theorem F114_0_eq (a0 : Value) (a1 : Value) (a2 : Value) (w : World) (k : Value → World → Prop) : F114A k [] (argEnv [a0, a1, a2]) w = F114_0 a0 a1 a2 w k := by kernel_rfl
theorem F114_in (a0 : Value) (a1 : Value) (a2 : Value) (w : World) (k : Value → World → Prop) (h : F114_0 a0 a1 a2 w k) : pFn prog 114 [a0, a1, a2] w k :=
 pFn_of_at mixed func114 (by kernel_rfl) (by kernel_rfl) ntmps114 (by kernel_rfl) (by kernel_rfl) (by simp) ((F114_0_eq a0 a1 a2 w k).mpr h)
noncomputable def F102B : Code := bodyOf f102
def F102A (k : Value → World → Prop) (q : List Nat) (ρ : Env) (w : World) : Prop := At prog 12 F102B (retQ prog f102.results.toList k) q ρ w
def F102_0 (t0 : Value) (w : World) (k : Value → World → Prop) : Prop :=
 px prog (nilSem t0) w fun v5 w =>
 px prog (Instr.fieldAt 124 v5 1) w fun v6 w =>
 px prog (Instr.loadAt 36 v6) w fun v7 w =>
 px prog (nilSem t0) w fun v8 w =>
 px prog (Instr.fieldAt 124 v8 0) w fun v9 w =>
 pu prog (Instr.storeAt 36 v9 v7) w fun w =>
 px prog (nilSem t0) w fun v10 w =>
 px prog (Instr.fieldAt 124 v10 2) w fun v11 w =>
 pu prog (Instr.storeAt 122 v11 (.slice none 0 0)) w fun w =>
 k (.tuple #[]) w
theorem F102_0_eq (t0 : Value) (w : World) (k : Value → World → Prop) : F102A k [] (argEnv [t0]) w = F102_0 t0 w k := by kernel_rfl
theorem F102_in (t0 : Value) (w : World) (k : Value → World → Prop) (h : F102_0 t0 w k) : pFn prog 102 [t0] w k :=
 pFn_of_at mixed func102 (by kernel_rfl) (by kernel_rfl) ntmps102 (by kernel_rfl) (by kernel_rfl) (by simp) ((F102_0_eq t0 w k).mpr h)
noncomputable def F108B : Code := bodyOf f108
def F108A (k : Value → World → Prop) (q : List Nat) (ρ : Env) (w : World) : Prop := At prog 36 F108B (retQ prog f108.results.toList k) q ρ w
noncomputable def F108B1 : Code := sub F108B [1, 1, 0, 1, 0, 0]
def F108Q1 (k : Value → World → Prop) (N1 : Env → World → Prop) : Xt → Env → World → Prop := thenE N1 (contAt prog 36 F108B (retQ prog f108.results.toList k) [1, 1, 0, 1, 0])
def F108A1 (k : Value → World → Prop) (N1 : Env → World → Prop) (q : List Nat) (ρ : Env) (w : World) : Prop := At prog 36 F108B1 (F108Q1 k N1) q ρ w
def F108L1 (k : Value → World → Prop) (ρ : Env) (w : World) : Prop := LoopAt prog 36 F108B (retQ prog f108.results.toList k) [1, 1, 0, 1, 0] ρ w
theorem F108L1_inv (k : Value → World → Prop) (I : Nat → Env → World → Prop) (round : ∀ m ρ w, I m ρ w → F108A1 k (fun ρ' w' => ∃ m', m' < m ∧ I m' ρ' w') [] ρ w) {m : Nat} {ρ : Env} {w : World} (h : I m ρ w) : F108L1 k ρ w :=
 LoopAt_inv mixed (B := F108B) (Q := (retQ prog f108.results.toList k)) (p := [1, 1, 0, 1, 0]) (by kernel_rfl) (by kernel_rfl) I round h
def F108_0 (t0 : Value) (units1 : Value) (w : World) (k : Value → World → Prop) : Prop :=
 px prog (nilSem t0) w fun v10 w =>
 px prog (Instr.fieldAt 124 v10 0) w fun v11 w =>
 px prog (Instr.loadAt 36 v11) w fun v12 w =>
 px prog (nilSem t0) w fun v14 w =>
 px prog (Instr.fieldAt 124 v14 2) w fun v15 w =>
 px prog (Instr.loadAt 122 v15) w fun v16 w =>
 px prog (bSem .len #[122] 3 #[v16]) w fun v17 w =>
 F108L1 k (put (put (put (put (put (put (put (put (put (put (put (put (argEnv [t0, units1]) 4 (.slice none 0 0)) 9 t0) 10 v10) 11 v11) 12 v12) 5 v12) 13 t0) 14 v14) 15 v15) 16 v16) 17 v17) 18 (.int .i64 0)) w
theorem F108_0_eq (t0 : Value) (units1 : Value) (w : World) (k : Value → World → Prop) : F108A k [] (argEnv [t0, units1]) w = F108_0 t0 units1 w k := by kernel_rfl
def F108_1 (k : Value → World → Prop) (N1 : Env → World → Prop) (ρ : Env) (w : World) : Prop :=
 px prog (binSem .lss 3 (.tmp 18) (.tmp 17) (ρ 18) (ρ 17)) w fun v19 w =>
 pC v19 (
 px prog (Instr.indexAt 122 (ρ 16) (ρ 18)) w fun v20 w =>
 px prog (Instr.loadAt 130 v20) w fun v21 w =>
 pInv prog v21 "freight/disk.units" [] w fun v24 w =>
 px prog (bSem .min #[3, 3] 3 #[(ρ 1), v24]) w fun v25 w =>
 pInv prog v21 "freight/disk.made" [(ρ 5), v25] w fun v29 w =>
 px prog (binSem .sub 3 (.tmp 30) (.tmp 31) (ρ 1) v25) w fun v32 w =>
 px prog (binSem .add 3 (.tmp 18) (.const (.int .i64 1)) (ρ 18) (.int .i64 1)) w fun v33 w =>
 N1 (put (put (put (put (put (put (put (put (put (put (put (put (put (put (put (put (put (put (put (put ρ 19 v19) 20 v20) 21 v21) 7 v21) 22 (ρ 1)) 23 v21) 24 v24) 25 v25) 8 v25) 26 v21) 27 (ρ 5)) 28 v25) 29 v29) 5 v29) 30 (ρ 1)) 31 v25) 32 v32) 1 v32) 33 v33) 18 v33) w)
 (
 F108A k [1, 1, 1] (put ρ 19 v19) w)
theorem F108_1_eq (k : Value → World → Prop) (N1 : Env → World → Prop) (ρ : Env) (w : World) : F108A1 k N1 [] ρ w = F108_1 k N1 ρ w := by kernel_rfl
def F108_2 (k : Value → World → Prop) (ρ : Env) (w : World) : Prop :=
 pFn prog 89 [(ρ 5)] w fun v35 w =>
 k v35 w
theorem F108_2_eq (k : Value → World → Prop) (ρ : Env) (w : World) : F108A k [1, 1, 1] ρ w = F108_2 k ρ w := by kernel_rfl
theorem F108_in (t0 : Value) (units1 : Value) (w : World) (k : Value → World → Prop) (h : F108_0 t0 units1 w k) : pFn prog 108 [t0, units1] w k :=
 pFn_of_at mixed func108 (by kernel_rfl) (by kernel_rfl) ntmps108 (by kernel_rfl) (by kernel_rfl) (by simp) ((F108_0_eq t0 units1 w k).mpr h)
noncomputable def F109B : Code := bodyOf f109
def F109A (k : Value → World → Prop) (q : List Nat) (ρ : Env) (w : World) : Prop := At prog 21 F109B (retQ prog f109.results.toList k) q ρ w
noncomputable def F109B1 : Code := sub F109B [1, 1, 0, 1, 0, 0]
def F109Q1 (k : Value → World → Prop) (N1 : Env → World → Prop) : Xt → Env → World → Prop := thenE N1 (contAt prog 21 F109B (retQ prog f109.results.toList k) [1, 1, 0, 1, 0])
def F109A1 (k : Value → World → Prop) (N1 : Env → World → Prop) (q : List Nat) (ρ : Env) (w : World) : Prop := At prog 21 F109B1 (F109Q1 k N1) q ρ w
def F109L1 (k : Value → World → Prop) (ρ : Env) (w : World) : Prop := LoopAt prog 21 F109B (retQ prog f109.results.toList k) [1, 1, 0, 1, 0] ρ w
theorem F109L1_inv (k : Value → World → Prop) (I : Nat → Env → World → Prop) (round : ∀ m ρ w, I m ρ w → F109A1 k (fun ρ' w' => ∃ m', m' < m ∧ I m' ρ' w') [] ρ w) {m : Nat} {ρ : Env} {w : World} (h : I m ρ w) : F109L1 k ρ w :=
 LoopAt_inv mixed (B := F109B) (Q := (retQ prog f109.results.toList k)) (p := [1, 1, 0, 1, 0]) (by kernel_rfl) (by kernel_rfl) I round h
def F109_0 (t0 : Value) (w : World) (k : Value → World → Prop) : Prop :=
 px prog (nilSem t0) w fun v7 w =>
 px prog (Instr.fieldAt 124 v7 2) w fun v8 w =>
 px prog (Instr.loadAt 122 v8) w fun v9 w =>
 px prog (bSem .len #[122] 3 #[v9]) w fun v10 w =>
 F109L1 k (put (put (put (put (put (put (put (put (argEnv [t0]) 2 (.int .i64 0)) 3 (.int .i64 0)) 6 t0) 7 v7) 8 v8) 9 v9) 10 v10) 11 (.int .i64 0)) w
theorem F109_0_eq (t0 : Value) (w : World) (k : Value → World → Prop) : F109A k [] (argEnv [t0]) w = F109_0 t0 w k := by kernel_rfl
def F109_1 (k : Value → World → Prop) (N1 : Env → World → Prop) (ρ : Env) (w : World) : Prop :=
 px prog (binSem .lss 3 (.tmp 11) (.tmp 10) (ρ 11) (ρ 10)) w fun v12 w =>
 pC v12 (
 px prog (Instr.indexAt 122 (ρ 9) (ρ 11)) w fun v13 w =>
 px prog (Instr.loadAt 130 v13) w fun v14 w =>
 pInv prog v14 "freight/disk.units" [] w fun v17 w =>
 px prog (binSem .add 3 (.tmp 15) (.tmp 17) (ρ 3) v17) w fun v18 w =>
 px prog (binSem .add 3 (.tmp 11) (.const (.int .i64 1)) (ρ 11) (.int .i64 1)) w fun v19 w =>
 N1 (put (put (put (put (put (put (put (put (put (put (put ρ 12 v12) 13 v13) 14 v14) 5 v14) 15 (ρ 3)) 16 v14) 17 v17) 18 v18) 3 v18) 19 v19) 11 v19) w)
 (
 F109A k [1, 1, 1] (put ρ 12 v12) w)
theorem F109_1_eq (k : Value → World → Prop) (N1 : Env → World → Prop) (ρ : Env) (w : World) : F109A1 k N1 [] ρ w = F109_1 k N1 ρ w := by kernel_rfl
def F109_2 (k : Value → World → Prop) (ρ : Env) (w : World) : Prop :=
 k (ρ 3) w
theorem F109_2_eq (k : Value → World → Prop) (ρ : Env) (w : World) : F109A k [1, 1, 1] ρ w = F109_2 k ρ w := by kernel_rfl
theorem F109_in (t0 : Value) (w : World) (k : Value → World → Prop) (h : F109_0 t0 w k) : pFn prog 109 [t0] w k :=
 pFn_of_at mixed func109 (by kernel_rfl) (by kernel_rfl) ntmps109 (by kernel_rfl) (by kernel_rfl) (by simp) ((F109_0_eq t0 w k).mpr h)
noncomputable def F115B : Code := bodyOf f115
def F115A (k : Value → World → Prop) (q : List Nat) (ρ : Env) (w : World) : Prop := At prog 28 F115B (retQ prog f115.results.toList k) q ρ w
def F115_0 (t0 : Value) (c1 : Value) (w : World) (k : Value → World → Prop) : Prop :=
 px prog (nilSem t0) w fun v6 w =>
 px prog (Instr.fieldAt 124 v6 2) w fun v7 w =>
 px prog (Instr.loadAt 122 v7) w fun v8 w =>
 px prog (Instr.buildSlice 122 1 #[(0, c1)]) w fun v10 w =>
 px prog (bSem .append #[122, 122] 122 #[v8, v10]) w fun v11 w =>
 px prog (nilSem t0) w fun v12 w =>
 px prog (Instr.fieldAt 124 v12 2) w fun v13 w =>
 pu prog (Instr.storeAt 122 v13 v11) w fun w =>
 ∃ S : World → Prop, S w.drew ∧ (fun w =>
 pq prog S (nilSem t0) fun v17 =>
 pq prog S (Instr.fieldAt 124 v17 1) fun v18 =>
 pq prog S (Instr.loadAt 36 v18) fun v19 =>
 pq prog S (Instr.makeFunc (Fn.method "freight/disk.made") #[c1] #[]) fun v22 =>
 pq prog S (nilSem v22) fun v23 =>
 pInv prog c1 "freight/disk.units" [] w fun v21 w => S w ∧ (
 pInv prog c1 "freight/disk.made" [v19, v21] w fun v25 w => S w ∧ (
 pq prog S (nilSem t0) fun v26 =>
 pq prog S (Instr.fieldAt 124 v26 1) fun v27 =>
 pu prog (Instr.storeAt 36 v27 v25) w fun w => (
 k (.tuple #[]) w)))) w.drew
theorem F115_0_eq (t0 : Value) (c1 : Value) (w : World) (k : Value → World → Prop) : F115A k [] (argEnv [t0, c1]) w = F115_0 t0 c1 w k := by kernel_rfl
theorem F115_in (t0 : Value) (c1 : Value) (w : World) (k : Value → World → Prop) (h : F115_0 t0 c1 w k) : pFn prog 115 [t0, c1] w k :=
 pFn_of_at mixed func115 (by kernel_rfl) (by kernel_rfl) ntmps115 (by kernel_rfl) (by kernel_rfl) (by simp) ((F115_0_eq t0 c1 w k).mpr h)
noncomputable def F88B : Code := bodyOf f88
def F88A (k : Value → World → Prop) (q : List Nat) (ρ : Env) (w : World) : Prop := At prog 6 F88B (retQ prog f88.results.toList k) q ρ w
def F88_0 (n0 : Value) (w : World) (k : Value → World → Prop) : Prop :=
 pFn prog 128 [n0] w fun v4 w =>
 pFn prog 127 [v4] w fun v5 w =>
 k v5 w
theorem F88_0_eq (n0 : Value) (w : World) (k : Value → World → Prop) : F88A k [] (argEnv [n0]) w = F88_0 n0 w k := by kernel_rfl
theorem F88_in (n0 : Value) (w : World) (k : Value → World → Prop) (h : F88_0 n0 w k) : pFn prog 88 [n0] w k :=
 pFn_of_at mixed func88 (by kernel_rfl) (by kernel_rfl) ntmps88 (by kernel_rfl) (by kernel_rfl) (by simp) ((F88_0_eq n0 w k).mpr h)
noncomputable def F98B : Code := bodyOf f98
def F98A (k : Value → World → Prop) (q : List Nat) (ρ : Env) (w : World) : Prop := At prog 40 F98B (retQ prog f98.results.toList k) q ρ w
noncomputable def F98B1 : Code := sub F98B [1, 0, 1, 0, 0]
def F98Q1 (k : Value → World → Prop) (N1 : Env → World → Prop) : Xt → Env → World → Prop := thenE N1 (contAt prog 40 F98B (retQ prog f98.results.toList k) [1, 0, 1, 0])
def F98A1 (k : Value → World → Prop) (N1 : Env → World → Prop) (q : List Nat) (ρ : Env) (w : World) : Prop := At prog 40 F98B1 (F98Q1 k N1) q ρ w
def F98L1 (k : Value → World → Prop) (ρ : Env) (w : World) : Prop := LoopAt prog 40 F98B (retQ prog f98.results.toList k) [1, 0, 1, 0] ρ w
theorem F98L1_inv (k : Value → World → Prop) (I : Nat → Env → World → Prop) (round : ∀ m ρ w, I m ρ w → F98A1 k (fun ρ' w' => ∃ m', m' < m ∧ I m' ρ' w') [] ρ w) {m : Nat} {ρ : Env} {w : World} (h : I m ρ w) : F98L1 k ρ w :=
 LoopAt_inv mixed (B := F98B) (Q := (retQ prog f98.results.toList k)) (p := [1, 0, 1, 0]) (by kernel_rfl) (by kernel_rfl) I round h
def F98_0 (s0 : Value) (w : World) (k : Value → World → Prop) : Prop :=
 px prog (bSem .len #[9] 3 #[s0]) w fun v6 w =>
 F98L1 k (put (put (put (put (argEnv [s0]) 2 (.bool false)) 5 s0) 6 v6) 7 (.int .i64 0)) w
theorem F98_0_eq (s0 : Value) (w : World) (k : Value → World → Prop) : F98A k [] (argEnv [s0]) w = F98_0 s0 w k := by kernel_rfl
def F98_1 (k : Value → World → Prop) (N1 : Env → World → Prop) (ρ : Env) (w : World) : Prop :=
 px prog (binSem .lss 3 (.tmp 7) (.tmp 6) (ρ 7) (ρ 6)) w fun v8 w =>
 pC v8 (
 px prog (Instr.index 9 (ρ 0) (ρ 7)) w fun v12 w =>
 px prog (binSem .lss 5 (.tmp 13) (.const (.int .u8 97)) v12 (.int .u8 97)) w fun v14 w =>
 pG v14 false (fun k => k v12 w) (w := w) (next := fun v16 w =>
 pG v14 false (fun k => px prog (binSem .gtr 5 (.tmp 16) (.const (.int .u8 122)) v16 (.int .u8 122)) w k) (w := w) (next := fun v17 w =>
 px prog (pickSem v14 (.bool true) v17) w fun v18 w =>
 pG v18 true (fun k => k v12 w) (w := w) (next := fun v20 w =>
 pG v18 true (fun k => px prog (binSem .lss 5 (.tmp 20) (.const (.int .u8 48)) v20 (.int .u8 48)) w k) (w := w) (next := fun v21 w =>
 pG v18 true (fun k => k v21 w) (w := w) (next := fun v22 w =>
 pG v22 false (fun k => k v12 w) (w := w) (next := fun v23 w =>
 pG v22 false (fun k => px prog (binSem .gtr 5 (.tmp 23) (.const (.int .u8 57)) v23 (.int .u8 57)) w k) (w := w) (next := fun v24 w =>
 pG v18 true (fun k => px prog (pickSem v22 (.bool true) v24) w k) (w := w) (next := fun v25 w =>
 px prog (pickSem v18 v25 (.bool false)) w fun v26 w =>
 pG v26 true (fun k => k v12 w) (w := w) (next := fun v28 w =>
 pG v26 true (fun k => pFn prog 132 [(.string (ByteArray.mk #[46, 45, 95, 43])), v28] w k) (w := w) (next := fun v29 w =>
 pG v26 true (fun k => px prog (binSem .lss 3 (.tmp 29) (.const (.int .i64 0)) v29 (.int .i64 0)) w k) (w := w) (next := fun v30 w =>
 px prog (pickSem v26 v30 (.bool false)) w fun v31 w =>
 pC v31 (
 k (.bool false) w)
 (
 px prog (binSem .add 3 (.tmp 7) (.const (.int .i64 1)) (ρ 7) (.int .i64 1)) w fun v32 w =>
 N1 (put (put (put (put (put (put (put (put (put (put (put (put (put (put (put (put (put (put (put (put (put (put (put (put (put (put (put (put ρ 8 v8) 9 (ρ 7)) 3 (ρ 7)) 10 (ρ 0)) 11 (ρ 7)) 12 v12) 4 v12) 13 v12) 14 v14) 15 v14) 16 v16) 17 v17) 18 v18) 19 v18) 20 v20) 21 v21) 22 v22) 23 v23) 24 v24) 25 v25) 26 v26) 27 v26) 28 v28) 29 v29) 30 v30) 31 v31) 32 v32) 7 v32) w)))))))))))))
 (
 F98A k [1, 1] (put ρ 8 v8) w)
theorem F98_1_eq (k : Value → World → Prop) (N1 : Env → World → Prop) (ρ : Env) (w : World) : F98A1 k N1 [] ρ w = F98_1 k N1 ρ w := by kernel_rfl
def F98_2 (k : Value → World → Prop) (ρ : Env) (w : World) : Prop :=
 px prog (binSem .neq 9 (.tmp 33) (.const (.string (ByteArray.mk #[]))) (ρ 0) (.string (ByteArray.mk #[]))) w fun v34 w =>
 pG v34 true (fun k => k (ρ 0) w) (w := w) (next := fun v36 w =>
 pG v34 true (fun k => px prog (bSem .len #[9] 3 #[v36]) w k) (w := w) (next := fun v37 w =>
 pG v34 true (fun k => px prog (binSem .leq 3 (.tmp 37) (.const (.int .i64 112)) v37 (.int .i64 112)) w k) (w := w) (next := fun v38 w =>
 px prog (pickSem v34 v38 (.bool false)) w fun v39 w =>
 k v39 w)))
theorem F98_2_eq (k : Value → World → Prop) (ρ : Env) (w : World) : F98A k [1, 1] ρ w = F98_2 k ρ w := by kernel_rfl
theorem F98_in (s0 : Value) (w : World) (k : Value → World → Prop) (h : F98_0 s0 w k) : pFn prog 98 [s0] w k :=
 pFn_of_at mixed func98 (by kernel_rfl) (by kernel_rfl) ntmps98 (by kernel_rfl) (by kernel_rfl) (by simp) ((F98_0_eq s0 w k).mpr h)
noncomputable def F107B : Code := bodyOf f107
def F107A (k : Value → World → Prop) (q : List Nat) (ρ : Env) (w : World) : Prop := At prog 17 F107B (retQ prog f107.results.toList k) q ρ w
def F107_0 (pick0 : Value) (most1 : Value) (w : World) (k : Value → World → Prop) : Prop :=
 px prog (binSem .add 3 (.tmp 7) (.const (.int .i64 1)) most1 (.int .i64 1)) w fun v8 w =>
 px prog (binSem .rem 3 (.tmp 6) (.tmp 8) pick0 v8) w fun v9 w =>
 px prog (binSem .lss 3 (.tmp 10) (.const (.int .i64 0)) v9 (.int .i64 0)) w fun v11 w =>
 pC v11 (
 px prog (binSem .add 3 (.tmp 13) (.const (.int .i64 1)) most1 (.int .i64 1)) w fun v14 w =>
 px prog (binSem .add 3 (.tmp 12) (.tmp 14) v9 v14) w fun v15 w =>
 F107A k [1, 1, 1] (put (put (put (put (put (put (put (put (put (put (put (put (put (argEnv [pick0, most1]) 4 (.int .i64 0)) 6 pick0) 7 most1) 8 v8) 9 v9) 5 v9) 10 v9) 11 v11) 12 v9) 13 most1) 14 v14) 15 v15) 5 v15) w)
 (
 F107A k [1, 1, 1] (put (put (put (put (put (put (put (put (argEnv [pick0, most1]) 4 (.int .i64 0)) 6 pick0) 7 most1) 8 v8) 9 v9) 5 v9) 10 v9) 11 v11) w)
theorem F107_0_eq (pick0 : Value) (most1 : Value) (w : World) (k : Value → World → Prop) : F107A k [] (argEnv [pick0, most1]) w = F107_0 pick0 most1 w k := by kernel_rfl
def F107_1 (k : Value → World → Prop) (ρ : Env) (w : World) : Prop :=
 k (ρ 5) w
theorem F107_1_eq (k : Value → World → Prop) (ρ : Env) (w : World) : F107A k [1, 1, 1] ρ w = F107_1 k ρ w := by kernel_rfl
theorem F107_in (pick0 : Value) (most1 : Value) (w : World) (k : Value → World → Prop) (h : F107_0 pick0 most1 w k) : pFn prog 107 [pick0, most1] w k :=
 pFn_of_at mixed func107 (by kernel_rfl) (by kernel_rfl) ntmps107 (by kernel_rfl) (by kernel_rfl) (by simp) ((F107_0_eq pick0 most1 w k).mpr h)
noncomputable def F179B : Code := bodyOf f179
def F179A (k : Value → World → Prop) (q : List Nat) (ρ : Env) (w : World) : Prop := At prog 9 F179B (retQ prog f179.results.toList k) q ρ w
def F179_0 (m0 : Value) (n1 : Value) (w : World) (k : Value → World → Prop) : Prop :=
 px prog (Instr.box 126 m0) w fun v2 w =>
 px prog (Instr.fieldAt 126 v2 0) w fun v5 w =>
 px prog (Instr.loadAt 9 v5) w fun v6 w =>
 px prog (Instr.fieldAt 126 v2 1) w fun v7 w =>
 px prog (Instr.loadAt 117 v7) w fun v8 w =>
 pu prog (Instr.mapUpdate 54 n1 v6 v8) w fun w =>
 k (.tuple #[]) w
theorem F179_0_eq (m0 : Value) (n1 : Value) (w : World) (k : Value → World → Prop) : F179A k [] (argEnv [m0, n1]) w = F179_0 m0 n1 w k := by kernel_rfl
theorem F179_in (m0 : Value) (n1 : Value) (w : World) (k : Value → World → Prop) (h : F179_0 m0 n1 w k) : pFn prog 179 [m0, n1] w k :=
 pFn_of_at mixed func179 (by kernel_rfl) (by kernel_rfl) ntmps179 (by kernel_rfl) (by kernel_rfl) (by simp) ((F179_0_eq m0 n1 w k).mpr h)
noncomputable def F181B : Code := bodyOf f181
def F181A (k : Value → World → Prop) (q : List Nat) (ρ : Env) (w : World) : Prop := At prog 16 F181B (retQ prog f181.results.toList k) q ρ w
def F181_0 (g0 : Value) (n1 : Value) (w : World) (k : Value → World → Prop) : Prop :=
 px prog (Instr.box 172 g0) w fun v2 w =>
 px prog (Instr.fieldAt 172 v2 0) w fun v6 w =>
 px prog (Instr.loadAt 9 v6) w fun v7 w =>
 px prog (Instr.lookup 54 n1 v7 false) w fun v8 w =>
 px prog (Instr.fieldAt 172 v2 0) w fun v10 w =>
 px prog (Instr.loadAt 9 v10) w fun v11 w =>
 px prog (bSem .delete #[54, 9] 0 #[n1, v11]) w fun _ w =>
 px prog (Instr.fieldAt 172 v2 1) w fun v13 w =>
 px prog (Instr.loadAt 9 v13) w fun v14 w =>
 pu prog (Instr.mapUpdate 54 n1 v14 v8) w fun w =>
 k (.tuple #[]) w
theorem F181_0_eq (g0 : Value) (n1 : Value) (w : World) (k : Value → World → Prop) : F181A k [] (argEnv [g0, n1]) w = F181_0 g0 n1 w k := by kernel_rfl
theorem F181_in (g0 : Value) (n1 : Value) (w : World) (k : Value → World → Prop) (h : F181_0 g0 n1 w k) : pFn prog 181 [g0, n1] w k :=
 pFn_of_at mixed func181 (by kernel_rfl) (by kernel_rfl) ntmps181 (by kernel_rfl) (by kernel_rfl) (by simp) ((F181_0_eq g0 n1 w k).mpr h)
noncomputable def F183B : Code := bodyOf f183
def F183A (k : Value → World → Prop) (q : List Nat) (ρ : Env) (w : World) : Prop := At prog 6 F183B (retQ prog f183.results.toList k) q ρ w
def F183_0 (t0 : Value) (n1 : Value) (w : World) (k : Value → World → Prop) : Prop :=
 px prog (bSem .delete #[54, 9] 0 #[n1, t0]) w fun _ w =>
 k (.tuple #[]) w
theorem F183_0_eq (t0 : Value) (n1 : Value) (w : World) (k : Value → World → Prop) : F183A k [] (argEnv [t0, n1]) w = F183_0 t0 n1 w k := by kernel_rfl
theorem F183_in (t0 : Value) (n1 : Value) (w : World) (k : Value → World → Prop) (h : F183_0 t0 n1 w k) : pFn prog 183 [t0, n1] w k :=
 pFn_of_at mixed func183 (by kernel_rfl) (by kernel_rfl) ntmps183 (by kernel_rfl) (by kernel_rfl) (by simp) ((F183_0_eq t0 n1 w k).mpr h)
noncomputable def F185B : Code := bodyOf f185
def F185A (k : Value → World → Prop) (q : List Nat) (ρ : Env) (w : World) : Prop := At prog 32 F185B (retQ prog f185.results.toList k) q ρ w
def F185_0 (w0 : Value) (on1 : Value) (units2 : Value) (w : World) (k : Value → World → Prop) : Prop :=
 px prog (Instr.box 184 w0) w fun v3 w =>
 px prog (binSem .eql 3 (.tmp 8) (.const (.int .i64 0)) units2 (.int .i64 0)) w fun v9 w =>
 pC v9 (
 k on1 w)
 (
 px prog (bSem .len #[36] 3 #[on1]) w fun v12 w =>
 px prog (Instr.fieldAt 184 v3 0) w fun v13 w =>
 px prog (Instr.loadAt 3 v13) w fun v14 w =>
 px prog (binSem .add 3 (.tmp 14) (.tmp 15) v14 units2) w fun v16 w =>
 px prog (bSem .max #[3, 3] 3 #[v12, v16]) w fun v17 w =>
 px prog (Instr.makeSlice 36 v17 v17) w fun v18 w =>
 px prog (bSem .copy #[36, 36] 3 #[v18, on1]) w fun v21 w =>
 ∃ S : World → Prop, S w.drew ∧ (fun w =>
 pq prog S (Instr.fieldAt 184 v3 0) fun v23 =>
 pq prog S (Instr.loadAt 3 v23) fun v24 =>
 pq prog S (Instr.sliceAt 36 v18 (some v24) none none) fun v25 =>
 pq prog S (Instr.fieldAt 184 v3 1) fun v26 =>
 pq prog S (Instr.loadAt 36 v26) fun v27 =>
 pq prog S (Instr.sliceAt 36 v27 none (some units2) none) fun v29 =>
 px prog (bSem .copy #[36, 36] 3 #[v25, v29]) w fun v30 w => (
 k v18 w)) w.drew)
theorem F185_0_eq (w0 : Value) (on1 : Value) (units2 : Value) (w : World) (k : Value → World → Prop) : F185A k [] (argEnv [w0, on1, units2]) w = F185_0 w0 on1 units2 w k := by kernel_rfl
theorem F185_in (w0 : Value) (on1 : Value) (units2 : Value) (w : World) (k : Value → World → Prop) (h : F185_0 w0 on1 units2 w k) : pFn prog 185 [w0, on1, units2] w k :=
 pFn_of_at mixed func185 (by kernel_rfl) (by kernel_rfl) ntmps185 (by kernel_rfl) (by kernel_rfl) (by simp) ((F185_0_eq w0 on1 units2 w k).mpr h)
noncomputable def F186B : Code := bodyOf f186
def F186A (k : Value → World → Prop) (q : List Nat) (ρ : Env) (w : World) : Prop := At prog 6 F186B (retQ prog f186.results.toList k) q ρ w
def F186_0 (w0 : Value) (w : World) (k : Value → World → Prop) : Prop :=
 px prog (Instr.box 184 w0) w fun v1 w =>
 px prog (Instr.fieldAt 184 v1 1) w fun v3 w =>
 px prog (Instr.loadAt 36 v3) w fun v4 w =>
 px prog (bSem .len #[36] 3 #[v4]) w fun v5 w =>
 k v5 w
theorem F186_0_eq (w0 : Value) (w : World) (k : Value → World → Prop) : F186A k [] (argEnv [w0]) w = F186_0 w0 w k := by kernel_rfl
theorem F186_in (w0 : Value) (w : World) (k : Value → World → Prop) (h : F186_0 w0 w k) : pFn prog 186 [w0] w k :=
 pFn_of_at mixed func186 (by kernel_rfl) (by kernel_rfl) ntmps186 (by kernel_rfl) (by kernel_rfl) (by simp) ((F186_0_eq w0 w k).mpr h)
noncomputable def F187B : Code := bodyOf f187
def F187A (k : Value → World → Prop) (q : List Nat) (ρ : Env) (w : World) : Prop := At prog 13 F187B (retQ prog f187.results.toList k) q ρ w
def F187_0 (c0 : Value) (on1 : Value) (units2 : Value) (w : World) (k : Value → World → Prop) : Prop :=
 px prog (binSem .eql 3 (.tmp 7) (.const (.int .i64 0)) units2 (.int .i64 0)) w fun v8 w =>
 pC v8 (
 k on1 w)
 (
 px prog (Instr.sliceAt 36 on1 none (some c0) none) w fun v12 w =>
 k v12 w)
theorem F187_0_eq (c0 : Value) (on1 : Value) (units2 : Value) (w : World) (k : Value → World → Prop) : F187A k [] (argEnv [c0, on1, units2]) w = F187_0 c0 on1 units2 w k := by kernel_rfl
theorem F187_in (c0 : Value) (on1 : Value) (units2 : Value) (w : World) (k : Value → World → Prop) (h : F187_0 c0 on1 units2 w k) : pFn prog 187 [c0, on1, units2] w k :=
 pFn_of_at mixed func187 (by kernel_rfl) (by kernel_rfl) ntmps187 (by kernel_rfl) (by kernel_rfl) (by simp) ((F187_0_eq c0 on1 units2 w k).mpr h)
noncomputable def F188B : Code := bodyOf f188
def F188A (k : Value → World → Prop) (q : List Nat) (ρ : Env) (w : World) : Prop := At prog 3 F188B (retQ prog f188.results.toList k) q ρ w
def F188_0 (c0 : Value) (w : World) (k : Value → World → Prop) : Prop :=
 k (.int .i64 1) w
theorem F188_0_eq (c0 : Value) (w : World) (k : Value → World → Prop) : F188A k [] (argEnv [c0]) w = F188_0 c0 w k := by kernel_rfl
theorem F188_in (c0 : Value) (w : World) (k : Value → World → Prop) (h : F188_0 c0 w k) : pFn prog 188 [c0] w k :=
 pFn_of_at mixed func188 (by kernel_rfl) (by kernel_rfl) ntmps188 (by kernel_rfl) (by kernel_rfl) (by simp) ((F188_0_eq c0 w k).mpr h)
noncomputable def F85B : Code := bodyOf f85
def F85A (k : Value → World → Prop) (q : List Nat) (ρ : Env) (w : World) : Prop := At prog 8 F85B (retQ prog f85.results.toList k) q ρ w
def F85_0 (s0 : Value) (w : World) (k : Value → World → Prop) : Prop :=
 px prog (binSem .eql 56 (.tmp 3) (.const (.slice none 0 0)) s0 (.slice none 0 0)) w fun v4 w =>
 pC v4 (
 k (.slice none 0 0) w)
 (
 px prog (Instr.buildSlice 56 0 #[]) w fun v5 w =>
 px prog (bSem .append #[56, 56] 56 #[v5, s0]) w fun v7 w =>
 k v7 w)
theorem F85_0_eq (s0 : Value) (w : World) (k : Value → World → Prop) : F85A k [] (argEnv [s0]) w = F85_0 s0 w k := by kernel_rfl
theorem F85_in (s0 : Value) (w : World) (k : Value → World → Prop) (h : F85_0 s0 w k) : pFn prog 85 [s0] w k :=
 pFn_of_at mixed func85 (by kernel_rfl) (by kernel_rfl) ntmps85 (by kernel_rfl) (by kernel_rfl) (by simp) ((F85_0_eq s0 w k).mpr h)
noncomputable def F89B : Code := bodyOf f89
def F89A (k : Value → World → Prop) (q : List Nat) (ρ : Env) (w : World) : Prop := At prog 8 F89B (retQ prog f89.results.toList k) q ρ w
def F89_0 (s0 : Value) (w : World) (k : Value → World → Prop) : Prop :=
 px prog (binSem .eql 36 (.tmp 3) (.const (.slice none 0 0)) s0 (.slice none 0 0)) w fun v4 w =>
 pC v4 (
 k (.slice none 0 0) w)
 (
 px prog (Instr.buildSlice 36 0 #[]) w fun v5 w =>
 px prog (bSem .append #[36, 36] 36 #[v5, s0]) w fun v7 w =>
 k v7 w)
theorem F89_0_eq (s0 : Value) (w : World) (k : Value → World → Prop) : F89A k [] (argEnv [s0]) w = F89_0 s0 w k := by kernel_rfl
theorem F89_in (s0 : Value) (w : World) (k : Value → World → Prop) (h : F89_0 s0 w k) : pFn prog 89 [s0] w k :=
 pFn_of_at mixed func89 (by kernel_rfl) (by kernel_rfl) ntmps89 (by kernel_rfl) (by kernel_rfl) (by simp) ((F89_0_eq s0 w k).mpr h)
noncomputable def F104B : Code := bodyOf f104
def F104A (k : Value → World → Prop) (q : List Nat) (ρ : Env) (w : World) : Prop := At prog 9 F104B (retQ prog f104.results.toList k) q ρ w
def F104_0 (m0 : Value) (w : World) (k : Value → World → Prop) : Prop :=
 px prog (binSem .eql 54 (.tmp 3) (.const (.map none)) m0 (.map none)) w fun v4 w =>
 pC v4 (
 k (.map none) w)
 (
 px prog (Instr.makeInterface 54 m0) w fun v6 w =>
 pFn prog 134 [v6] w fun v7 w =>
 px prog (Instr.typeAssert v7 20 54 false) w fun v8 w =>
 k v8 w)
theorem F104_0_eq (m0 : Value) (w : World) (k : Value → World → Prop) : F104A k [] (argEnv [m0]) w = F104_0 m0 w k := by kernel_rfl
theorem F104_in (m0 : Value) (w : World) (k : Value → World → Prop) (h : F104_0 m0 w k) : pFn prog 104 [m0] w k :=
 pFn_of_at mixed func104 (by kernel_rfl) (by kernel_rfl) ntmps104 (by kernel_rfl) (by kernel_rfl) (by simp) ((F104_0_eq m0 w k).mpr h)
noncomputable def F132B : Code := bodyOf f132
def F132A (k : Value → World → Prop) (q : List Nat) (ρ : Env) (w : World) : Prop := At prog 8 F132B (retQ prog f132.results.toList k) q ρ w
def F132_0 (s0 : Value) (c1 : Value) (w : World) (k : Value → World → Prop) : Prop :=
 pFn prog 140 [s0, c1] w fun v7 w =>
 k v7 w
theorem F132_0_eq (s0 : Value) (c1 : Value) (w : World) (k : Value → World → Prop) : F132A k [] (argEnv [s0, c1]) w = F132_0 s0 c1 w k := by kernel_rfl
theorem F132_in (s0 : Value) (c1 : Value) (w : World) (k : Value → World → Prop) (h : F132_0 s0 c1 w k) : pFn prog 132 [s0, c1] w k :=
 pFn_of_at mixed func132 (by kernel_rfl) (by kernel_rfl) ntmps132 (by kernel_rfl) (by kernel_rfl) (by simp) ((F132_0_eq s0 c1 w k).mpr h)
noncomputable def F140B : Code := bodyOf f140
def F140A (k : Value → World → Prop) (q : List Nat) (ρ : Env) (w : World) : Prop := At prog 8 F140B (retQ prog f140.results.toList k) q ρ w
def F140_0 (s0 : Value) (c1 : Value) (w : World) (k : Value → World → Prop) : Prop :=
 pFn prog 144 [s0, c1] w fun v7 w =>
 k v7 w
theorem F140_0_eq (s0 : Value) (c1 : Value) (w : World) (k : Value → World → Prop) : F140A k [] (argEnv [s0, c1]) w = F140_0 s0 c1 w k := by kernel_rfl
theorem F140_in (s0 : Value) (c1 : Value) (w : World) (k : Value → World → Prop) (h : F140_0 s0 c1 w k) : pFn prog 140 [s0, c1] w k :=
 pFn_of_at mixed func140 (by kernel_rfl) (by kernel_rfl) ntmps140 (by kernel_rfl) (by kernel_rfl) (by simp) ((F140_0_eq s0 c1 w k).mpr h)
end Go.Proofs.YtcdcojpfealppaaGreat

set_option linter.unusedVariables false
set_option linter.unusedSimpArgs false
set_option maxRecDepth 100000
namespace Go.Proofs.YtcdcojpfealppaaGreat
open Go Go.Proofs Go.RowKit Go.Proofs.XRed Go.Proofs.XHeap Go.Proofs.XMaps Go.Proofs.XSlices Go.Proofs.XDisk Tryz
noncomputable abbrev P : Program := prog
inductive All2 {α β : Type} (R : α → β → Prop) : List α → List β → Prop where
 | nil : All2 R [] []
 | cons {a b l m} : R a b → All2 R l m → All2 R (a :: l) (b :: m)
def ptr (b : Nat) : Value := .pointer (some ⟨b, 0, none⟩)
abbrev i64 (n : Int) : Value := .int .i64 n
def SB (w : World) (I : Nat → Prop) (v : Value) (bs : Bytes) : Prop := SBytes w v bs ∧ ∀ b, sblk v = some b → I b
def turnVal (loc : Nat → Nat) : Turn → Value
 | .mk n t => .iface 126 (.agg #[.string n, ptr (loc t)])
 | .give a b => .iface 172 (.agg #[.string a, .string b])
 | .take n => .iface 177 (.string n)
def ChgV (w : World) (I : Nat → Prop) : Chg → Value → Prop
 | .wr a d, v => ∃ s, v = .iface 184 (.agg #[i64 a, s]) ∧ SB w I s d
 | .cut n, v => v = .iface 189 (i64 n)
def spanCells (s : SpanA) : List Value := [.string s.name, i64 s.at_, i64 s.n]
structure TRep (w : World) (O I : Nat → Prop) (T : Nat) (rb : Value) (x : Thg) : Prop where
 ex : ∃ sv hv cs, w.heap[T]? = some (.cells #[sv, hv, rb] 124 (0, 0)) ∧ SB w I sv x.safe ∧ SB w I hv x.shown ∧ w.ownsRow 0 130 1 rb x.row.length cs ∧ All2 (ChgV w I) x.row cs
 own : O T
 rown : ∀ b, sblk rb = some b → O b
structure Lay where
 sh : Nat
 sf : Nat
 loc : Nat → Nat
 trow : Nat → Value
 rowv : Value
 readsv : Value
 lsh : Names
 lsf : Names
def dcells (S : AD) (L : Lay) : Array Value :=
 #[i64 S.room, .map (some L.sh), .map (some L.sf), L.rowv, i64 S.strokes, i64 S.plan.off, i64 S.plan.from_, i64 S.plan.to_, i64 S.since, .bool S.off, L.readsv]
def mapVals (L : Lay) (l : Names) : List (ByteArray × Value) := l.map fun p => (p.1, ptr (L.loc p.2))
structure DRep (w : World) (D : Nat) (S : AD) (O I : Nat → Prop) (L : Lay) : Prop where
 disk : w.heap[D]? = some (.cells (dcells S L) 58 (0, 0))
 sh : SMap w L.sh (mapVals L L.lsh)
 shp : L.lsh.Perm S.shown
 sf : SMap w L.sf (mapVals L L.lsf)
 sfp : L.lsf.Perm S.safe
 ne : L.sh ≠ L.sf
 row : w.ownsRow 0 136 1 L.rowv S.row.length (S.row.map (turnVal L.loc))
 reads : w.ownsRow 0 134 3 L.readsv S.reads.length (S.reads.flatMap spanCells)
 things : ∀ t, reach S t → TRep w O I (L.loc t) (L.trow t) (S.things t)
 inj : ∀ t u, reach S t → reach S u → L.loc t = L.loc u → t = u
 rows : ∀ t u, reach S t → reach S u → t ≠ u → ∀ b, sblk (L.trow t) = some b → sblk (L.trow u) ≠ some b
 oD : O D
 osh : O L.sh
 osf : O L.sf
 orow : ∀ b, sblk L.rowv = some b → O b
 oreads : ∀ b, sblk L.readsv = some b → O b
 apart : ∀ b, O b → ¬ I b
 lt : ∀ b, O b ∨ I b → b < w.heap.size
theorem SB.fr {O I : Nat → Prop} {w w' : World} {v : Value} {bs : Bytes} (h : SB w I v bs) (hf : Fr O w w') (hn : ∀ b, I b → ¬ O b) : SB w' I v bs := ⟨h.1.fr hf fun b hb => hn b (h.2 b hb), h.2⟩
theorem SB.mono {I I' : Nat → Prop} {w : World} {v : Value} {bs : Bytes} (h : SB w I v bs) (hi : ∀ b, I b → I' b) : SB w I' v bs := ⟨h.1, fun b hb => hi b (h.2 b hb)⟩
theorem ChgV.fr {O I : Nat → Prop} {w w' : World} {c : Chg} {v : Value} (h : ChgV w I c v) (hf : Fr O w w') (hn : ∀ b, I b → ¬ O b) : ChgV w' I c v := by
 cases c with
 | wr a d => obtain ⟨s, hv, hs⟩ := h; exact ⟨s, hv, hs.fr hf hn⟩
 | cut n => exact h
theorem ChgV.mono {I I' : Nat → Prop} {w : World} {c : Chg} {v : Value} (h : ChgV w I c v) (hi : ∀ b, I b → I' b) : ChgV w I' c v := by
 cases c with
 | wr a d => obtain ⟨s, hv, hs⟩ := h; exact ⟨s, hv, hs.mono hi⟩
 | cut n => exact h
theorem all2_imp {α β : Type} {R R' : α → β → Prop} {l : List α} {m : List β} (h : All2 R l m) (hr : ∀ a b, R a b → R' a b) : All2 R' l m := by
 induction h with
 | nil => exact .nil
 | cons h _ ih => exact .cons (hr _ _ h) ih
theorem All2.snoc {α β : Type} {R : α → β → Prop} {l : List α} {m : List β} {a : α} {b : β} (h : All2 R l m) (hr : R a b) : All2 R (l ++ [a]) (m ++ [b]) := by
 induction h with
 | nil => exact .cons hr .nil
 | cons h _ ih => exact .cons h ih
theorem All2.at_ {α β : Type} {R : α → β → Prop} {l : List α} {m : List β} (h : All2 R l m) : ∀ {i : Nat} {a : α}, l[i]? = some a → ∃ b, m[i]? = some b ∧ R a b := by
 induction h with
 | nil => intro i a ha; simp at ha
 | cons h _ ih =>
  intro i a ha
  cases i with
  | zero => simp at ha; subst ha; exact ⟨_, rfl, h⟩
  | succ i => exact ih (by simpa using ha)
theorem TRep.fr {O O' I M : Nat → Prop} {w w' : World} {T : Nat} {rb : Value} {x : Thg} (h : TRep w O I T rb x) (hf : Fr M w w') (hT : ¬ M T) (hr : ∀ b, sblk rb = some b → ¬ M b) (hn : ∀ b, I b → ¬ M b) : TRep w' O I T rb x := by
 obtain ⟨⟨sv, hv, cs, hb, h1, h2, h3, h4⟩, h5, h6⟩ := h
 exact ⟨⟨sv, hv, cs, hf.get hb hT, h1.fr hf hn, h2.fr hf hn, own_fr h3 hf hr, all2_imp h4 fun a b hab => hab.fr hf hn⟩, h5, h6⟩
theorem TRep.mono {O O' I I' : Nat → Prop} {w : World} {T : Nat} {rb : Value} {x : Thg} (h : TRep w O I T rb x) (ho : ∀ b, O b → O' b) (hi : ∀ b, I b → I' b) : TRep w O' I' T rb x := by
 obtain ⟨⟨sv, hv, cs, hb, h1, h2, h3, h4⟩, h5, h6⟩ := h
 exact ⟨⟨sv, hv, cs, hb, h1.mono hi, h2.mono hi, h3, all2_imp h4 fun a b hab => hab.mono hi⟩, ho _ h5, fun b hb => ho _ (h6 b hb)⟩
theorem DRep.fr {w w' : World} {D : Nat} {S : AD} {O I M : Nat → Prop} {L : Lay} (h : DRep w D S O I L) (hf : Fr M w w') (hn : ∀ b, M b → ¬ O b ∧ ¬ I b) : DRep w' D S O I L where
 disk := hf.get h.disk fun hm => (hn _ hm).1 h.oD
 sh := h.sh.fr hf fun hm => (hn _ hm).1 h.osh
 shp := h.shp
 sf := h.sf.fr hf fun hm => (hn _ hm).1 h.osf
 sfp := h.sfp
 ne := h.ne
 row := own_fr h.row hf fun b hb hm => (hn _ hm).1 (h.orow b hb)
 reads := own_fr h.reads hf fun b hb hm => (hn _ hm).1 (h.oreads b hb)
 things := fun t ht => (h.things t ht).fr (O' := O) hf (fun hm => (hn _ hm).1 (h.things t ht).own) (fun b hb hm => (hn _ hm).1 ((h.things t ht).rown b hb)) fun b hi hm => (hn _ hm).2 hi
 inj := h.inj
 rows := h.rows
 oD := h.oD
 osh := h.osh
 osf := h.osf
 orow := h.orow
 oreads := h.oreads
 apart := h.apart
 lt := fun b hb => Nat.lt_of_lt_of_le (h.lt b hb) hf.size
section
variable {w : World} {D : Nat} {S : AD} {L : Lay} {k : Value → World → Prop}
theorem c_none (h : w.heap[D]? = some (.cells (dcells S L) 58 (0, 0))) (hr : 1 ≤ S.room) (hk : k (.bool false) w) : pFn P 82 [ptr D] w k := by
 refine F82_in _ _ _ ?_
 unfold F82_0 ptr
 refine s_eqpn upt29 ?_
 refine pG_yes rfl ?_
 refine pG_yes rfl (s_nil ?_)
 refine pG_yes rfl (fa58_0 ?_)
 refine pG_yes rfl (s_ldb (isAgg3 _) h rfl ?_)
 refine pG_yes rfl (s_eqi ?_)
 refine s_pick ?_
 have : (S.room == 0) = false := by simp; omega
 simp only [Option.isNone_some, this]
 exact hk
theorem c_off (h : w.heap[D]? = some (.cells (dcells S L) 58 (0, 0))) (hr : 1 ≤ S.room) (hk : k (.bool S.off) w) : pFn P 26 [ptr D] w k := by
 refine F26_in _ _ _ ?_
 unfold F26_0
 refine c_none h hr ?_
 refine pG_yes rfl ?_
 refine pG_yes rfl (s_nil ?_)
 refine pG_yes rfl (fa58_7 ?_)
 refine pG_yes rfl (s_ldb (isAgg4 _) h rfl ?_)
 exact s_pick hk
theorem c_strokes (h : w.heap[D]? = some (.cells (dcells S L) 58 (0, 0))) (hr : 1 ≤ S.room) (hk : k (i64 S.strokes) w) : pFn P 57 [ptr D] w k := by
 refine F57_in _ _ _ ?_
 unfold F57_0
 refine c_none h hr ?_
 exact pC_false (s_nil (fa58_4 (s_ldb (isAgg3 _) h rfl hk)))
end
end Go.Proofs.YtcdcojpfealppaaGreat

set_option linter.unusedVariables false
set_option linter.unusedSimpArgs false
set_option maxRecDepth 100000
namespace Go.Proofs.YtcdcojpfealppaaGreat
open Go Go.Proofs Go.RowKit Go.Proofs.XRed Go.Proofs.XHeap Go.Proofs.XMaps Go.Proofs.XSlices Go.Proofs.XDisk Go.Proofs.XCalls Tryz
section
variable {w : World} {D : Nat} {S : AD} {L : Lay} {k : Value → World → Prop}
theorem c_indexByteL (s : ByteArray) (c : Int) (hk : k (i64 (Lib.indexByte s.data.toList c.toNat.toUInt8)) w) : pFn P 144 [.string s, .int .u8 c] w k := by
 refine pFn_extern func144 (by kernel_rfl) (by kernel_rfl) (by kernel_rfl) (e := Extern.BytealgIndexByte.indexByte) (by kernel_rfl) ?_
 exact px_ok (Lib.run_indexByteString s c w) hk
theorem c_indexByteM (s : ByteArray) (c : Int) (hk : k (i64 (Lib.indexByte s.data.toList c.toNat.toUInt8)) w) : pFn P 140 [.string s, .int .u8 c] w k := by
 refine F140_in _ _ _ _ ?_
 unfold F140_0
 exact c_indexByteL s c hk
theorem c_indexByte (s : ByteArray) (c : Int) (hk : k (i64 (Lib.indexByte s.data.toList c.toNat.toUInt8)) w) : pFn P 132 [.string s, .int .u8 c] w k := by
 refine F132_in _ _ _ _ ?_
 unfold F132_0
 exact c_indexByteM s c hk
theorem tmod_up (pick b : Int) (hb : 0 < b) : (if pick.tmod b < 0 then pick.tmod b + b else pick.tmod b) = pick.emod b ∧ -b < pick.tmod b ∧ pick.tmod b < b := by
 have e := @Int.tmod_eq_emod pick b
 have e1 : (b.natAbs : Int) = b := by omega
 have e2 := Int.emod_nonneg pick (show b ≠ 0 by omega)
 have e3 := Int.emod_lt_of_pos pick hb
 have e4 : pick.emod b = pick % b := rfl
 by_cases h : 0 ≤ pick ∨ b ∣ pick
 ·rw [if_pos h] at e
  simp only [Int.natCast_zero, Int.sub_zero] at e
  rw [if_neg (by omega)]
  omega
 ·rw [if_neg h, e1] at e
  have : pick % b ≠ 0 := fun h' => h (.inr (Int.dvd_of_emod_eq_zero h'))
  rw [if_pos (by omega)]
  omega
theorem c_round {pick most : Int} (h0 : 0 ≤ most) (h1 : most ≤ 4611686018427387904) (hk : k (i64 (pick.emod (most + 1))) w) : pFn P 107 [i64 pick, i64 most] w k := by
 refine F107_in _ _ _ _ ?_
 unfold F107_0
 obtain ⟨e, e2, e3⟩ := tmod_up pick (most + 1) (by omega)
 refine s_add_in (by omega) ?_
 refine s_rem (by omega) ?_
 refine s_lt ?_
 by_cases h : pick.tmod (most + 1) < 0
 ·rw [if_pos h] at e
  rw [decide_eq_true h]
  refine pC_true ?_
  refine s_add_in (by omega) ?_
  refine s_add_in (by omega) ?_
  rw [F107_1_eq]
  unfold F107_1
  show k (i64 (pick.tmod (most + 1) + (most + 1))) w
  rw [e]; exact hk
 ·rw [if_neg h] at e
  rw [decide_eq_false h]
  refine pC_false ?_
  rw [F107_1_eq]
  unfold F107_1
  show k (i64 (pick.tmod (most + 1))) w
  rw [e]; exact hk
theorem ix_ok (c : UInt8) : okByte c = ((97 ≤ c && c ≤ 122) || (48 ≤ c && c ≤ 57) || decide (0 ≤ Lib.indexByte [46, 45, 95, 43] c)) := by
 rw [← Lib.contains_iff_indexByte]
 simp [okByte, List.contains_cons, Bool.or_assoc, beq_iff_eq, Bool.beq_eq_decide_eq]
set_option maxHeartbeats 1000000 in
theorem c_isName (s : ByteArray) (hs : s.size ≤ 9223372036854775807) (hk : k (.bool (isName s)) w) : pFn P 98 [.string s] w k := by
  refine F98_in _ _ _ ?_
  unfold F98_0
  refine s_lens (by kernel_rfl) ?_
  refine F98L1_inv (m := s.size) k (fun m ρ w' => w' = w ∧ ρ 0 = .string s ∧ ρ 6 = i64 s.size ∧ ∃ i : Nat, ρ 7 = i64 i ∧ i + m = s.size ∧ ∀ j (hj : j < s.size), j < i → okByte s[j] = true) ?_ ⟨rfl, rfl, rfl, 0, rfl, by omega, fun j _ hj => absurd hj (by omega)⟩
  rintro m ρ w' ⟨rfl, h0, h6, i, h7, him, hok⟩
  rw [F98_1_eq]
  unfold F98_1
  rw [h0, h6, h7]
  refine s_lt ?_
  by_cases hi : i < s.size
  · rw [decide_eq_true (by omega)]
    refine pC_true (s_ixs (by kernel_rfl) hi ?_)
    have hix := ix_ok s[i]
    generalize hc : s[i] = c at *
    have hn : c.toNat.toUInt8 = c := by simp
    have hlt := c.toNat_lt
    have hb : okByte c = (decide (97 ≤ c.toNat ∧ c.toNat ≤ 122) || decide (48 ≤ c.toNat ∧ c.toNat ≤ 57) || decide (0 ≤ Lib.indexByte [46, 45, 95, 43] c)) := by
      rw [hix]; simp [UInt8.le_iff_toNat_le, Bool.decide_and]
    have next : okByte c = true → ∀ j (hj : j < s.size), j < i + 1 → okByte s[j] = true := by
      intro h j hj hji
      by_cases e : j = i
      · subst e; rw [hc]; exact h
      · exact hok j hj (by omega)
    have bad : okByte c = false → isName s = false := by
      intro h
      unfold isName
      have : s.data.toList.all okByte = false := by
        rw [Bool.eq_false_iff]
        intro ha
        rw [List.all_eq_true] at ha
        have := ha c (by
          rw [← hc]
          have : i < s.data.toList.length := by simpa using hi
          have e : s[i] = s.data.toList[i] := rfl
          rw [e]; exact List.getElem_mem _)
        rw [h] at this; cases this
      simp [this]
    have eb : ((c.toNat : Int).toNat).toUInt8 = c := by simp
    have el : (ByteArray.mk #[46, 45, 95, 43]).data.toList = [46, 45, 95, 43] := rfl
    by_cases a1 : (c.toNat : Int) < 97 <;> by_cases a2 : (c.toNat : Int) > 122 <;> by_cases a3 : (c.toNat : Int) < 48 <;> by_cases a4 : (c.toNat : Int) > 57
    all_goals try (exfalso; omega)
    all_goals
      repeat (first | refine pG_yes rfl ?_ | refine pG_sk ?_ | refine pG_skf ?_ | refine pG_un ?_ | refine s_lt_t (by assumption) ?_ | refine s_lt_f (by assumption) ?_ | refine s_gt_t (by assumption) ?_ | refine s_gt_f (by assumption) ?_ | refine s_pick_t ?_ | refine s_pick_f ?_ | refine pC_true ?_ | refine pC_false ?_)
    all_goals first
      | (refine s_add_in (by omega) ?_
         exact ⟨m - 1, by omega, rfl, h0, h6, i + 1, rfl, by omega, next (by rw [hb, decide_eq_true (show 97 ≤ c.toNat ∧ c.toNat ≤ 122 by omega)]; rfl)⟩)
      | (refine s_add_in (by omega) ?_
         exact ⟨m - 1, by omega, rfl, h0, h6, i + 1, rfl, by omega, next (by rw [hb, decide_eq_true (show 48 ≤ c.toNat ∧ c.toNat ≤ 57 by omega)]; simp)⟩)
      | skip
    all_goals
      refine c_indexByte _ _ ?_
      rw [eb, el]
      have hb' : okByte c = decide (0 ≤ Lib.indexByte [46, 45, 95, 43] c) := by
        rw [hb, decide_eq_false (show ¬ (97 ≤ c.toNat ∧ c.toNat ≤ 122) by omega), decide_eq_false (show ¬ (48 ≤ c.toNat ∧ c.toNat ≤ 57) by omega)]; rfl
      by_cases C : Lib.indexByte [46, 45, 95, 43] c < 0
      · repeat (first | refine pG_yes rfl ?_ | refine pG_sk ?_ | refine pG_skf ?_ | refine pG_un ?_ | refine s_lt_t (by assumption) ?_ | refine s_lt_f (by assumption) ?_ | refine s_gt_t (by assumption) ?_ | refine s_gt_f (by assumption) ?_ | refine s_pick_t ?_ | refine s_pick_f ?_ | refine pC_true ?_ | refine pC_false ?_)
        rw [bad (by rw [hb']; exact decide_eq_false (by omega))] at hk
        exact hk
      · repeat (first | refine pG_yes rfl ?_ | refine pG_sk ?_ | refine pG_skf ?_ | refine pG_un ?_ | refine s_lt_t (by assumption) ?_ | refine s_lt_f (by assumption) ?_ | refine s_gt_t (by assumption) ?_ | refine s_gt_f (by assumption) ?_ | refine s_pick_t ?_ | refine s_pick_f ?_ | refine pC_true ?_ | refine pC_false ?_)
        refine s_add_in (by omega) ?_
        exact ⟨m - 1, by omega, rfl, h0, h6, i + 1, rfl, by omega, next (by rw [hb']; exact decide_eq_true (by omega))⟩
  · rw [decide_eq_false (by omega)]
    refine pC_false ?_
    rw [F98_2_eq]
    unfold F98_2
    have hall : s.data.toList.all okByte = true := by
      rw [List.all_eq_true]
      intro c hc
      obtain ⟨j, hj, rfl⟩ := List.getElem_of_mem hc
      have hj' : j < s.size := by simpa using hj
      exact hok j hj' (by omega)
    have hfin : isName s = (decide (s ≠ ByteArray.mk #[]) && decide (s.size ≤ 112)) := by
      unfold isName
      rw [hall, Bool.true_and]
      congr 1
      have : s ≠ ByteArray.mk #[] ↔ 1 ≤ s.size := by
        constructor
        · intro h
          rcases Nat.eq_zero_or_pos s.size with h' | h'
          · exact absurd (ByteArray.ext (Array.eq_empty_of_size_eq_zero h')) h
          · exact h'
        · rintro h rfl; exact absurd h (by decide)
      exact decide_eq_decide.2 this.symm
    have h0' : put ρ 8 (.bool false) 0 = .string s := h0
    rw [h0']
    refine s_nes ?_
    by_cases e : s = ByteArray.mk #[]
    · rw [decide_eq_true e]
      refine pG_sk ?_
      refine pG_sk ?_
      refine pG_sk ?_
      refine s_pick_f ?_
      rw [hfin] at hk
      simpa [e] using hk
    · rw [decide_eq_false e]
      refine pG_yes rfl (pG_yes rfl (s_lens (by kernel_rfl) (pG_yes rfl (s_le (s_pick_t ?_)))))
      rw [hfin] at hk
      have : decide ((s.size : Int) ≤ 112) = decide (s.size ≤ 112) := decide_eq_decide.2 (by omega)
      rw [this]
      simpa [e] using hk
end
end Go.Proofs.YtcdcojpfealppaaGreat
