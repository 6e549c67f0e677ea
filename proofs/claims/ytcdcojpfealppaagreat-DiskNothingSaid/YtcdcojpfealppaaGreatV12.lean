/- Put together by a program (wip/tools/shake.py): R4. -/
import Derived.Test.YtcdcojpfealppaaGreatV1
import Derived.Test.YtcdcojpfealppaaGreatProg
import Derived.Test.YtcdcojpfealppaaGreatMix
set_option linter.unusedVariables false
set_option maxRecDepth 100000
namespace Go.Proofs.YtcdcojpfealppaaGreat
open Go Go.Proofs Go.Proofs.XRed Tryz
noncomputable def F33B : Code := bodyOf f33
def F33A (k : Value → World → Prop) (q : List Nat) (ρ : Env) (w : World) : Prop := At prog 11 F33B (retQ prog f33.results.toList k) q ρ w
def F33_0 (d0 : Value) (w : World) (k : Value → World → Prop) : Prop :=
 px prog (binSem .eql 30 (.tmp 3) (.const (.pointer none)) d0 (.pointer none)) w fun v4 w =>
 pC v4 (
 k (.slice none 0 0) w)
 (
 px prog (Instr.buildSlice 56 0 #[]) w fun v5 w =>
 px prog (nilSem d0) w fun v7 w =>
 px prog (Instr.fieldAt 62 v7 8) w fun v8 w =>
 px prog (Instr.loadAt 56 v8) w fun v9 w =>
 px prog (bSem .append #[56, 56] 56 #[v5, v9]) w fun v10 w =>
 k v10 w)
theorem F33_0_eq (d0 : Value) (w : World) (k : Value → World → Prop) : F33A k [] (argEnv [d0]) w = F33_0 d0 w k := by kernel_rfl
theorem F33_in (d0 : Value) (w : World) (k : Value → World → Prop) (h : F33_0 d0 w k) : pFn prog 33 [d0] w k :=
 pFn_of_at mixed func33 (by kernel_rfl) (by kernel_rfl) ntmps33 (by kernel_rfl) (by kernel_rfl) (by simp) ((F33_0_eq d0 w k).mpr h)
noncomputable def F34B : Code := bodyOf f34
def F34A (k : Value → World → Prop) (q : List Nat) (ρ : Env) (w : World) : Prop := At prog 73 F34B (retQ prog f34.results.toList k) q ρ w
def F34_0 (d0 : Value) (name1 : Value) (at2 : Value) (n3 : Value) (w : World) (k : Value → World → Prop) : Prop :=
 pFn prog 93 [d0, name1] w fun v16 w =>
 px prog (Instr.extract v16 0) w fun v17 w =>
 px prog (Instr.extract v16 1) w fun v18 w =>
 px prog (binSem .neq 3 (.tmp 19) (.const (.int .i64 0)) v18 (.int .i64 0)) w fun v20 w =>
 pC v20 (
 k (.tuple #[(.slice none 0 0), v18]) w)
 (
 px prog (nilSem d0) w fun v23 w =>
 px prog (Instr.fieldAt 62 v23 2) w fun v24 w =>
 px prog (Instr.loadAt 59 v24) w fun v25 w =>
 px prog (Instr.indexAt 59 v25 v17) w fun v27 w =>
 px prog (Instr.fieldAt 144 v27 1) w fun v28 w =>
 px prog (Instr.loadAt 142 v28) w fun v29 w =>
 px prog (nilSem v29) w fun v30 w =>
 px prog (Instr.fieldAt 156 v30 1) w fun v31 w =>
 px prog (Instr.loadAt 36 v31) w fun v32 w =>
 px prog (binSem .lss 3 (.tmp 33) (.const (.int .i64 0)) at2 (.int .i64 0)) w fun v34 w =>
 pG v34 false (fun k => k n3 w) (w := w) (next := fun v36 w =>
 pG v34 false (fun k => px prog (binSem .lss 3 (.tmp 36) (.const (.int .i64 0)) v36 (.int .i64 0)) w k) (w := w) (next := fun v37 w =>
 px prog (pickSem v34 (.bool true) v37) w fun v38 w =>
 pG v38 false (fun k => k at2 w) (w := w) (next := fun v40 w =>
 pG v38 false (fun k => k v32 w) (w := w) (next := fun v41 w =>
 pG v38 false (fun k => px prog (bSem .len #[36] 3 #[v41]) w k) (w := w) (next := fun v42 w =>
 pG v38 false (fun k => px prog (binSem .gtr 3 (.tmp 40) (.tmp 42) v40 v42) w k) (w := w) (next := fun v43 w =>
 px prog (pickSem v38 (.bool true) v43) w fun v44 w =>
 pG v44 false (fun k => k n3 w) (w := w) (next := fun v46 w =>
 pG v44 false (fun k => k v32 w) (w := w) (next := fun v47 w =>
 pG v44 false (fun k => px prog (bSem .len #[36] 3 #[v47]) w k) (w := w) (next := fun v48 w =>
 pG v44 false (fun k => k at2 w) (w := w) (next := fun v49 w =>
 pG v44 false (fun k => px prog (binSem .sub 3 (.tmp 48) (.tmp 49) v48 v49) w k) (w := w) (next := fun v50 w =>
 pG v44 false (fun k => px prog (binSem .gtr 3 (.tmp 46) (.tmp 50) v46 v50) w k) (w := w) (next := fun v51 w =>
 px prog (pickSem v44 (.bool true) v51) w fun v52 w =>
 pC v52 (
 k (.tuple #[(.slice none 0 0), (.int .i64 54)]) w)
 (
 px prog (nilSem d0) w fun v55 w =>
 px prog (Instr.fieldAt 62 v55 8) w fun v56 w =>
 px prog (Instr.loadAt 56 v56) w fun v57 w =>
 px prog (Instr.build 134 #[(0, name1), (1, at2), (2, n3)]) w fun v61 w =>
 px prog (Instr.buildSlice 56 1 #[(0, v61)]) w fun v62 w =>
 px prog (bSem .append #[56, 56] 56 #[v57, v62]) w fun v63 w =>
 px prog (nilSem d0) w fun v64 w =>
 px prog (Instr.fieldAt 62 v64 8) w fun v65 w =>
 pu prog (Instr.storeAt 56 v65 v63) w fun w =>
 px prog (binSem .add 3 (.tmp 68) (.tmp 69) at2 n3) w fun v70 w =>
 px prog (Instr.sliceAt 36 v32 (some at2) (some v70) none) w fun v71 w =>
 pFn prog 94 [v71] w fun v72 w =>
 k (.tuple #[v72, (.int .i64 0)]) w))))))))))))))
theorem F34_0_eq (d0 : Value) (name1 : Value) (at2 : Value) (n3 : Value) (w : World) (k : Value → World → Prop) : F34A k [] (argEnv [d0, name1, at2, n3]) w = F34_0 d0 name1 at2 n3 w k := by kernel_rfl
theorem F34_in (d0 : Value) (name1 : Value) (at2 : Value) (n3 : Value) (w : World) (k : Value → World → Prop) (h : F34_0 d0 name1 at2 n3 w k) : pFn prog 34 [d0, name1, at2, n3] w k :=
 pFn_of_at mixed func34 (by kernel_rfl) (by kernel_rfl) ntmps34 (by kernel_rfl) (by kernel_rfl) (by simp) ((F34_0_eq d0 name1 at2 n3 w k).mpr h)
noncomputable def F41B : Code := bodyOf f41
def F41A (k : Value → World → Prop) (q : List Nat) (ρ : Env) (w : World) : Prop := At prog 41 F41B (retQ prog f41.results.toList k) q ρ w
noncomputable def F41B1 : Code := sub F41B [1, 1, 1, 0, 1, 0, 0]
def F41Q1 (k : Value → World → Prop) (N1 : Env → World → Prop) : Xt → Env → World → Prop := thenE N1 (contAt prog 41 F41B (retQ prog f41.results.toList k) [1, 1, 1, 0, 1, 0])
def F41A1 (k : Value → World → Prop) (N1 : Env → World → Prop) (q : List Nat) (ρ : Env) (w : World) : Prop := At prog 41 F41B1 (F41Q1 k N1) q ρ w
def F41L1 (k : Value → World → Prop) (ρ : Env) (w : World) : Prop := LoopAt prog 41 F41B (retQ prog f41.results.toList k) [1, 1, 1, 0, 1, 0] ρ w
theorem F41L1_inv (k : Value → World → Prop) (I : Nat → Env → World → Prop) (round : ∀ m ρ w, I m ρ w → F41A1 k (fun ρ' w' => ∃ m', m' < m ∧ I m' ρ' w') [] ρ w) {m : Nat} {ρ : Env} {w : World} (h : I m ρ w) : F41L1 k ρ w :=
 LoopAt_inv mixed (B := F41B) (Q := (retQ prog f41.results.toList k)) (p := [1, 1, 1, 0, 1, 0]) (by kernel_rfl) (by kernel_rfl) I round h
def F41_0 (d0 : Value) (w : World) (k : Value → World → Prop) : Prop :=
 px prog (binSem .eql 30 (.tmp 5) (.const (.pointer none)) d0 (.pointer none)) w fun v6 w =>
 pC v6 (
 k (.slice none 0 0) w)
 (
 F41L1 k (put (put (put (put (put (argEnv [d0]) 2 (.slice none 0 0)) 3 (.slice none 0 0)) 5 d0) 6 v6) 4 (.int .i64 0)) w)
theorem F41_0_eq (d0 : Value) (w : World) (k : Value → World → Prop) : F41A k [] (argEnv [d0]) w = F41_0 d0 w k := by kernel_rfl
def F41_1 (k : Value → World → Prop) (N1 : Env → World → Prop) (ρ : Env) (w : World) : Prop :=
 px prog (nilSem (ρ 0)) w fun v9 w =>
 px prog (Instr.fieldAt 62 v9 2) w fun v10 w =>
 px prog (Instr.loadAt 59 v10) w fun v11 w =>
 px prog (bSem .len #[59] 3 #[v11]) w fun v12 w =>
 px prog (binSem .lss 3 (.tmp 7) (.tmp 12) (ρ 4) v12) w fun v13 w =>
 pC v13 (
 ∃ S : World → Prop, S w.drew ∧ (fun w =>
 pq prog S (nilSem (ρ 0)) fun v18 =>
 pq prog S (Instr.fieldAt 62 v18 2) fun v19 =>
 pq prog S (Instr.loadAt 59 v19) fun v20 =>
 pq prog S (Instr.indexAt 59 v20 (ρ 4)) fun v22 =>
 pq prog S (Instr.fieldAt 144 v22 0) fun v23 =>
 pq prog S (Instr.loadAt 9 v23) fun v24 =>
 pq prog S (nilSem (ρ 0)) fun v26 =>
 pq prog S (Instr.fieldAt 62 v26 2) fun v27 =>
 pq prog S (Instr.loadAt 59 v27) fun v28 =>
 pq prog S (Instr.indexAt 59 v28 (ρ 4)) fun v30 =>
 pq prog S (Instr.fieldAt 144 v30 1) fun v31 =>
 pq prog S (Instr.loadAt 142 v31) fun v32 =>
 pq prog S (nilSem v32) fun v33 =>
 pq prog S (Instr.fieldAt 156 v33 1) fun v34 =>
 pq prog S (Instr.loadAt 36 v34) fun v35 =>
 pFn prog 94 [v35] w fun v36 w => S w ∧ (
 pq prog S (Instr.build 83 #[(0, v24), (1, v36)]) fun v37 =>
 px prog (Instr.buildSlice 71 1 #[(0, v37)]) w fun v38 w => S w ∧ (
 px prog (bSem .append #[71, 71] 71 #[(ρ 3), v38]) w fun v39 w => S w ∧ (
 px prog (binSem .add 3 (.tmp 14) (.const (.int .i64 1)) (ρ 4) (.int .i64 1)) w fun v15 w =>
 N1 (put (put (put (put (put (put (put (put (put (put (put (put (put (put (put (put (put (put (put (put (put (put (put (put (put (put (put (put (put (put (put (put (put (put (put ρ 7 (ρ 4)) 8 (ρ 0)) 9 v9) 10 v10) 11 v11) 12 v12) 13 v13) 16 (ρ 3)) 17 (ρ 0)) 18 v18) 19 v19) 20 v20) 21 (ρ 4)) 22 v22) 23 v23) 24 v24) 25 (ρ 0)) 26 v26) 27 v27) 28 v28) 29 (ρ 4)) 30 v30) 31 v31) 32 v32) 33 v33) 34 v34) 35 v35) 36 v36) 37 v37) 38 v38) 39 v39) 3 v39) 14 (ρ 4)) 15 v15) 4 v15) w)))) w.drew)
 (
 F41A k [1, 1, 1, 1] (put (put (put (put (put (put (put ρ 7 (ρ 4)) 8 (ρ 0)) 9 v9) 10 v10) 11 v11) 12 v12) 13 v13) w)
theorem F41_1_eq (k : Value → World → Prop) (N1 : Env → World → Prop) (ρ : Env) (w : World) : F41A1 k N1 [] ρ w = F41_1 k N1 ρ w := by kernel_rfl
def F41_2 (k : Value → World → Prop) (ρ : Env) (w : World) : Prop :=
 k (ρ 3) w
theorem F41_2_eq (k : Value → World → Prop) (ρ : Env) (w : World) : F41A k [1, 1, 1, 1] ρ w = F41_2 k ρ w := by kernel_rfl
theorem F41_in (d0 : Value) (w : World) (k : Value → World → Prop) (h : F41_0 d0 w k) : pFn prog 41 [d0] w k :=
 pFn_of_at mixed func41 (by kernel_rfl) (by kernel_rfl) ntmps41 (by kernel_rfl) (by kernel_rfl) (by simp) ((F41_0_eq d0 w k).mpr h)
noncomputable def F42B : Code := bodyOf f42
def F42A (k : Value → World → Prop) (q : List Nat) (ρ : Env) (w : World) : Prop := At prog 41 F42B (retQ prog f42.results.toList k) q ρ w
noncomputable def F42B1 : Code := sub F42B [1, 1, 1, 0, 1, 0, 0]
def F42Q1 (k : Value → World → Prop) (N1 : Env → World → Prop) : Xt → Env → World → Prop := thenE N1 (contAt prog 41 F42B (retQ prog f42.results.toList k) [1, 1, 1, 0, 1, 0])
def F42A1 (k : Value → World → Prop) (N1 : Env → World → Prop) (q : List Nat) (ρ : Env) (w : World) : Prop := At prog 41 F42B1 (F42Q1 k N1) q ρ w
def F42L1 (k : Value → World → Prop) (ρ : Env) (w : World) : Prop := LoopAt prog 41 F42B (retQ prog f42.results.toList k) [1, 1, 1, 0, 1, 0] ρ w
theorem F42L1_inv (k : Value → World → Prop) (I : Nat → Env → World → Prop) (round : ∀ m ρ w, I m ρ w → F42A1 k (fun ρ' w' => ∃ m', m' < m ∧ I m' ρ' w') [] ρ w) {m : Nat} {ρ : Env} {w : World} (h : I m ρ w) : F42L1 k ρ w :=
 LoopAt_inv mixed (B := F42B) (Q := (retQ prog f42.results.toList k)) (p := [1, 1, 1, 0, 1, 0]) (by kernel_rfl) (by kernel_rfl) I round h
def F42_0 (d0 : Value) (w : World) (k : Value → World → Prop) : Prop :=
 px prog (binSem .eql 30 (.tmp 5) (.const (.pointer none)) d0 (.pointer none)) w fun v6 w =>
 pC v6 (
 k (.slice none 0 0) w)
 (
 F42L1 k (put (put (put (put (put (argEnv [d0]) 2 (.slice none 0 0)) 3 (.slice none 0 0)) 5 d0) 6 v6) 4 (.int .i64 0)) w)
theorem F42_0_eq (d0 : Value) (w : World) (k : Value → World → Prop) : F42A k [] (argEnv [d0]) w = F42_0 d0 w k := by kernel_rfl
def F42_1 (k : Value → World → Prop) (N1 : Env → World → Prop) (ρ : Env) (w : World) : Prop :=
 px prog (nilSem (ρ 0)) w fun v9 w =>
 px prog (Instr.fieldAt 62 v9 3) w fun v10 w =>
 px prog (Instr.loadAt 59 v10) w fun v11 w =>
 px prog (bSem .len #[59] 3 #[v11]) w fun v12 w =>
 px prog (binSem .lss 3 (.tmp 7) (.tmp 12) (ρ 4) v12) w fun v13 w =>
 pC v13 (
 ∃ S : World → Prop, S w.drew ∧ (fun w =>
 pq prog S (nilSem (ρ 0)) fun v18 =>
 pq prog S (Instr.fieldAt 62 v18 3) fun v19 =>
 pq prog S (Instr.loadAt 59 v19) fun v20 =>
 pq prog S (Instr.indexAt 59 v20 (ρ 4)) fun v22 =>
 pq prog S (Instr.fieldAt 144 v22 0) fun v23 =>
 pq prog S (Instr.loadAt 9 v23) fun v24 =>
 pq prog S (nilSem (ρ 0)) fun v26 =>
 pq prog S (Instr.fieldAt 62 v26 3) fun v27 =>
 pq prog S (Instr.loadAt 59 v27) fun v28 =>
 pq prog S (Instr.indexAt 59 v28 (ρ 4)) fun v30 =>
 pq prog S (Instr.fieldAt 144 v30 1) fun v31 =>
 pq prog S (Instr.loadAt 142 v31) fun v32 =>
 pq prog S (nilSem v32) fun v33 =>
 pq prog S (Instr.fieldAt 156 v33 0) fun v34 =>
 pq prog S (Instr.loadAt 36 v34) fun v35 =>
 pFn prog 94 [v35] w fun v36 w => S w ∧ (
 pq prog S (Instr.build 83 #[(0, v24), (1, v36)]) fun v37 =>
 px prog (Instr.buildSlice 71 1 #[(0, v37)]) w fun v38 w => S w ∧ (
 px prog (bSem .append #[71, 71] 71 #[(ρ 3), v38]) w fun v39 w => S w ∧ (
 px prog (binSem .add 3 (.tmp 14) (.const (.int .i64 1)) (ρ 4) (.int .i64 1)) w fun v15 w =>
 N1 (put (put (put (put (put (put (put (put (put (put (put (put (put (put (put (put (put (put (put (put (put (put (put (put (put (put (put (put (put (put (put (put (put (put (put ρ 7 (ρ 4)) 8 (ρ 0)) 9 v9) 10 v10) 11 v11) 12 v12) 13 v13) 16 (ρ 3)) 17 (ρ 0)) 18 v18) 19 v19) 20 v20) 21 (ρ 4)) 22 v22) 23 v23) 24 v24) 25 (ρ 0)) 26 v26) 27 v27) 28 v28) 29 (ρ 4)) 30 v30) 31 v31) 32 v32) 33 v33) 34 v34) 35 v35) 36 v36) 37 v37) 38 v38) 39 v39) 3 v39) 14 (ρ 4)) 15 v15) 4 v15) w)))) w.drew)
 (
 F42A k [1, 1, 1, 1] (put (put (put (put (put (put (put ρ 7 (ρ 4)) 8 (ρ 0)) 9 v9) 10 v10) 11 v11) 12 v12) 13 v13) w)
theorem F42_1_eq (k : Value → World → Prop) (N1 : Env → World → Prop) (ρ : Env) (w : World) : F42A1 k N1 [] ρ w = F42_1 k N1 ρ w := by kernel_rfl
def F42_2 (k : Value → World → Prop) (ρ : Env) (w : World) : Prop :=
 k (ρ 3) w
theorem F42_2_eq (k : Value → World → Prop) (ρ : Env) (w : World) : F42A k [1, 1, 1, 1] ρ w = F42_2 k ρ w := by kernel_rfl
theorem F42_in (d0 : Value) (w : World) (k : Value → World → Prop) (h : F42_0 d0 w k) : pFn prog 42 [d0] w k :=
 pFn_of_at mixed func42 (by kernel_rfl) (by kernel_rfl) ntmps42 (by kernel_rfl) (by kernel_rfl) (by simp) ((F42_0_eq d0 w k).mpr h)
noncomputable def F44B : Code := bodyOf f44
def F44A (k : Value → World → Prop) (q : List Nat) (ρ : Env) (w : World) : Prop := At prog 45 F44B (retQ prog f44.results.toList k) q ρ w
def F44L1 (k : Value → World → Prop) (ρ : Env) (w : World) : Prop := LoopAt prog 45 F44B (retQ prog f44.results.toList k) [1, 1, 1, 0, 1, 0] ρ w
def F44_0 (d0 : Value) (prefix1 : Value) (w : World) (k : Value → World → Prop) : Prop :=
 pFn prog 74 [d0] w fun v9 w =>
 pC v9 (
 k (.slice none 0 0) w)
 (
 F44L1 k (put (put (put (put (put (argEnv [d0, prefix1]) 4 (.slice none 0 0)) 5 (.slice none 0 0)) 8 d0) 9 v9) 6 (.int .i64 0)) w)
theorem F44_0_eq (d0 : Value) (prefix1 : Value) (w : World) (k : Value → World → Prop) : F44A k [] (argEnv [d0, prefix1]) w = F44_0 d0 prefix1 w k := by kernel_rfl
theorem F44_in (d0 : Value) (prefix1 : Value) (w : World) (k : Value → World → Prop) (h : F44_0 d0 prefix1 w k) : pFn prog 44 [d0, prefix1] w k :=
 pFn_of_at mixed func44 (by kernel_rfl) (by kernel_rfl) ntmps44 (by kernel_rfl) (by kernel_rfl) (by simp) ((F44_0_eq d0 prefix1 w k).mpr h)
noncomputable def F61B : Code := bodyOf f61
def F61A (k : Value → World → Prop) (q : List Nat) (ρ : Env) (w : World) : Prop := At prog 64 F61B (retQ prog f61.results.toList k) q ρ w
def F61_0 (d0 : Value) (name1 : Value) (w : World) (k : Value → World → Prop) : Prop :=
 pFn prog 74 [d0] w fun v9 w =>
 pC v9 (
 k (.int .i64 50) w)
 (
 pFn prog 99 [name1] w fun v11 w =>
 px prog (Op.unary .not v11) w fun v12 w =>
 pC v12 (
 k (.int .i64 51) w)
 (
 px prog (nilSem d0) w fun v14 w =>
 px prog (Instr.fieldAt 62 v14 2) w fun v15 w =>
 px prog (Instr.loadAt 59 v15) w fun v16 w =>
 pFn prog 100 [v16, name1] w fun v18 w =>
 px prog (binSem .geq 3 (.tmp 18) (.const (.int .i64 0)) v18 (.int .i64 0)) w fun v19 w =>
 pC v19 (
 k (.int .i64 52) w)
 (
 pFn prog 111 [d0] w fun v22 w =>
 px prog (Instr.extract v22 0) w fun v23 w =>
 px prog (Instr.extract v22 1) w fun v24 w =>
 px prog (nilSem d0) w fun v26 w =>
 px prog (Instr.fieldAt 62 v26 2) w fun v27 w =>
 px prog (Instr.loadAt 59 v27) w fun v28 w =>
 px prog (bSem .len #[59] 3 #[v28]) w fun v29 w =>
 px prog (binSem .geq 3 (.tmp 29) (.const (.int .i64 256)) v29 (.int .i64 256)) w fun v30 w =>
 pC v30 (
 pFn prog 112 [d0, v24, (.int .i64 56)] w fun v33 w =>
 k v33 w)
 (
 pC v23 (
 pFn prog 112 [d0, v24, (.int .i64 55)] w fun v37 w =>
 k v37 w)
 (
 px prog (Instr.build 156 #[]) w fun v39 w =>
 px prog (Instr.box 156 v39) w fun v40 w =>
 px prog (Instr.build 146 #[(0, (.int .i64 1)), (1, name1), (3, v40)]) w fun v41 w =>
 px prog (Instr.alloc 146 true (.tuple #[])) w fun v7 w =>
 pu prog (Instr.storeAt 146 v7 v41) w fun w =>
 ∃ S : World → Prop, S w.drew ∧ (fun w =>
 pq prog S (nilSem d0) fun v44 =>
 pq prog S (Instr.fieldAt 62 v44 2) fun v45 =>
 pq prog S (Instr.loadAt 59 v45) fun v46 =>
 pq prog S (Instr.loadAt 146 v7) fun v47 =>
 pFn prog 113 [v46, v47] w fun v48 w => S w ∧ (
 pq prog S (nilSem d0) fun v49 =>
 pq prog S (Instr.fieldAt 62 v49 2) fun v50 =>
 pu prog (Instr.storeAt 59 v50 v48) w fun w => (
 ∃ S : World → Prop, S w.drew ∧ (fun w =>
 pq prog S (nilSem d0) fun v53 =>
 pq prog S (Instr.fieldAt 62 v53 4) fun v54 =>
 pq prog S (Instr.loadAt 60 v54) fun v55 =>
 pq prog S (Instr.loadAt 146 v7) fun v56 =>
 px prog (Instr.buildSlice 60 1 #[(0, v56)]) w fun v57 w => S w ∧ (
 px prog (bSem .append #[60, 60] 60 #[v55, v57]) w fun v58 w => S w ∧ (
 pq prog S (nilSem d0) fun v59 =>
 pq prog S (Instr.fieldAt 62 v59 4) fun v60 =>
 pu prog (Instr.storeAt 60 v60 v58) w fun w => (
 pFn prog 112 [d0, v24, (.int .i64 0)] w fun v63 w =>
 k v63 w)))) w.drew))) w.drew)))))
theorem F61_0_eq (d0 : Value) (name1 : Value) (w : World) (k : Value → World → Prop) : F61A k [] (argEnv [d0, name1]) w = F61_0 d0 name1 w k := by kernel_rfl
theorem F61_in (d0 : Value) (name1 : Value) (w : World) (k : Value → World → Prop) (h : F61_0 d0 name1 w k) : pFn prog 61 [d0, name1] w k :=
 pFn_of_at mixed func61 (by kernel_rfl) (by kernel_rfl) ntmps61 (by kernel_rfl) (by kernel_rfl) (by simp) ((F61_0_eq d0 name1 w k).mpr h)
noncomputable def F64B : Code := bodyOf f64
def F64A (k : Value → World → Prop) (q : List Nat) (ρ : Env) (w : World) : Prop := At prog 106 F64B (retQ prog f64.results.toList k) q ρ w
def F64_0 (d0 : Value) (name1 : Value) (at2 : Value) (data3 : Value) (w : World) (k : Value → World → Prop) : Prop :=
 pFn prog 93 [d0, name1] w fun v19 w =>
 px prog (Instr.extract v19 0) w fun v20 w =>
 px prog (Instr.extract v19 1) w fun v21 w =>
 px prog (binSem .neq 3 (.tmp 22) (.const (.int .i64 0)) v21 (.int .i64 0)) w fun v23 w =>
 pC v23 (
 k v21 w)
 (
 px prog (nilSem d0) w fun v26 w =>
 px prog (Instr.fieldAt 62 v26 2) w fun v27 w =>
 px prog (Instr.loadAt 59 v27) w fun v28 w =>
 px prog (Instr.indexAt 59 v28 v20) w fun v30 w =>
 px prog (Instr.fieldAt 144 v30 1) w fun v31 w =>
 px prog (Instr.loadAt 142 v31) w fun v32 w =>
 px prog (binSem .lss 3 (.tmp 33) (.const (.int .i64 0)) at2 (.int .i64 0)) w fun v34 w =>
 pG v34 false (fun k => k at2 w) (w := w) (next := fun v36 w =>
 pG v34 false (fun k => k v32 w) (w := w) (next := fun v37 w =>
 pG v34 false (fun k => px prog (nilSem v37) w k) (w := w) (next := fun v38 w =>
 pG v34 false (fun k => px prog (Instr.fieldAt 156 v38 1) w k) (w := w) (next := fun v39 w =>
 pG v34 false (fun k => px prog (Instr.loadAt 36 v39) w k) (w := w) (next := fun v40 w =>
 pG v34 false (fun k => px prog (bSem .len #[36] 3 #[v40]) w k) (w := w) (next := fun v41 w =>
 pG v34 false (fun k => px prog (binSem .gtr 3 (.tmp 36) (.tmp 41) v36 v41) w k) (w := w) (next := fun v42 w =>
 px prog (pickSem v34 (.bool true) v42) w fun v43 w =>
 pC v43 (
 k (.int .i64 54) w)
 (
 pFn prog 111 [d0] w fun v46 w =>
 px prog (Instr.extract v46 0) w fun v47 w =>
 px prog (Instr.extract v46 1) w fun v48 w =>
 px prog (bSem .len #[36] 3 #[data3]) w fun v51 w =>
 px prog (binSem .add 3 (.tmp 49) (.tmp 51) at2 v51) w fun v52 w =>
 px prog (nilSem v32) w fun v54 w =>
 px prog (Instr.fieldAt 156 v54 1) w fun v55 w =>
 px prog (Instr.loadAt 36 v55) w fun v56 w =>
 px prog (bSem .len #[36] 3 #[v56]) w fun v57 w =>
 px prog (binSem .sub 3 (.tmp 52) (.tmp 57) v52 v57) w fun v58 w =>
 ∃ S : World → Prop, S w.drew ∧ (fun w =>
 pGq v47 false (fun k => k v58) (next := fun v61 =>
 pGq v47 false (fun k => pq prog S (binSem .gtr 3 (.tmp 61) (.const (.int .i64 0)) v61 (.int .i64 0)) k) (next := fun v62 =>
 pGq v47 false (fun k => k v62) (next := fun v63 =>
 pGq v63 true (fun k => k d0) (next := fun v64 =>
 pGq v63 true (fun k => k v58) (next := fun v66 =>
 pGq v63 true (fun k => k d0) (next := fun v68 =>
 pGq v63 true (fun k => pq prog S (nilSem v68) k) (next := fun v69 =>
 pGq v63 true (fun k => pq prog S (Instr.fieldAt 62 v69 1) k) (next := fun v70 =>
 pGq v63 true (fun k => pq prog S (Instr.loadAt 3 v70) k) (next := fun v71 =>
 pG v63 true (fun k => pFn prog 76 [v64] w k) (w := w) (next := fun v65 w => S w ∧ (
 pGq v63 true (fun k => pq prog S (binSem .add 3 (.tmp 65) (.tmp 66) v65 v66) k) (next := fun v67 =>
 pGq v63 true (fun k => pq prog S (binSem .gtr 3 (.tmp 67) (.tmp 71) v67 v71) k) (next := fun v72 =>
 pGq v47 false (fun k => pq prog S (pickSem v63 v72 (.bool false)) k) (next := fun v73 =>
 pq prog S (pickSem v47 (.bool true) v73) fun v74 =>
 pC v74 (
 pFn prog 112 [d0, v48, (.int .i64 55)] w fun v77 w =>
 k v77 w)
 (
 pFn prog 94 [data3] w fun v80 w =>
 px prog (Instr.build 186 #[(1, at2), (2, v80)]) w fun v81 w =>
 px prog (Instr.alloc 186 true (.tuple #[])) w fun v15 w =>
 pu prog (Instr.storeAt 186 v15 v81) w fun w =>
 ∃ S : World → Prop, S w.drew ∧ (fun w =>
 pq prog S (nilSem v32) fun v84 =>
 pq prog S (Instr.fieldAt 156 v84 1) fun v85 =>
 pq prog S (Instr.loadAt 36 v85) fun v86 =>
 pq prog S (Instr.loadAt 186 v15) fun v87 =>
 pq prog S (bSem .len #[36] 3 #[data3]) fun v89 =>
 pFn prog 116 [v86, v87, v89] w fun v90 w => S w ∧ (
 pq prog S (nilSem v32) fun v91 =>
 pq prog S (Instr.fieldAt 156 v91 1) fun v92 =>
 pu prog (Instr.storeAt 36 v92 v90) w fun w => (
 ∃ S : World → Prop, S w.drew ∧ (fun w =>
 pq prog S (nilSem v32) fun v95 =>
 pq prog S (Instr.fieldAt 156 v95 2) fun v96 =>
 pq prog S (Instr.loadAt 154 v96) fun v97 =>
 pq prog S (Instr.loadAt 186 v15) fun v98 =>
 px prog (Instr.buildSlice 154 1 #[(0, v98)]) w fun v99 w => S w ∧ (
 px prog (bSem .append #[154, 154] 154 #[v97, v99]) w fun v100 w => S w ∧ (
 pq prog S (nilSem v32) fun v101 =>
 pq prog S (Instr.fieldAt 156 v101 2) fun v102 =>
 pu prog (Instr.storeAt 154 v102 v100) w fun w => (
 pFn prog 112 [d0, v48, (.int .i64 0)] w fun v105 w =>
 k v105 w)))) w.drew))) w.drew)))))))))))))))) w.drew)))))))))
theorem F64_0_eq (d0 : Value) (name1 : Value) (at2 : Value) (data3 : Value) (w : World) (k : Value → World → Prop) : F64A k [] (argEnv [d0, name1, at2, data3]) w = F64_0 d0 name1 at2 data3 w k := by kernel_rfl
theorem F64_in (d0 : Value) (name1 : Value) (at2 : Value) (data3 : Value) (w : World) (k : Value → World → Prop) (h : F64_0 d0 name1 at2 data3 w k) : pFn prog 64 [d0, name1, at2, data3] w k :=
 pFn_of_at mixed func64 (by kernel_rfl) (by kernel_rfl) ntmps64 (by kernel_rfl) (by kernel_rfl) (by simp) ((F64_0_eq d0 name1 at2 data3 w k).mpr h)
noncomputable def F66B : Code := bodyOf f66
def F66A (k : Value → World → Prop) (q : List Nat) (ρ : Env) (w : World) : Prop := At prog 34 F66B (retQ prog f66.results.toList k) q ρ w
def F66_0 (d0 : Value) (name1 : Value) (data2 : Value) (w : World) (k : Value → World → Prop) : Prop :=
 pFn prog 93 [d0, name1] w fun v12 w =>
 px prog (Instr.extract v12 0) w fun v13 w =>
 px prog (Instr.extract v12 1) w fun v14 w =>
 px prog (binSem .neq 3 (.tmp 15) (.const (.int .i64 0)) v14 (.int .i64 0)) w fun v16 w =>
 pC v16 (
 k v14 w)
 (
 px prog (nilSem d0) w fun v21 w =>
 px prog (Instr.fieldAt 62 v21 2) w fun v22 w =>
 px prog (Instr.loadAt 59 v22) w fun v23 w =>
 px prog (Instr.indexAt 59 v23 v13) w fun v25 w =>
 px prog (Instr.fieldAt 144 v25 1) w fun v26 w =>
 px prog (Instr.loadAt 142 v26) w fun v27 w =>
 px prog (nilSem v27) w fun v28 w =>
 px prog (Instr.fieldAt 156 v28 1) w fun v29 w =>
 px prog (Instr.loadAt 36 v29) w fun v30 w =>
 px prog (bSem .len #[36] 3 #[v30]) w fun v31 w =>
 pFn prog 64 [d0, name1, v31, data2] w fun v33 w =>
 k v33 w)
theorem F66_0_eq (d0 : Value) (name1 : Value) (data2 : Value) (w : World) (k : Value → World → Prop) : F66A k [] (argEnv [d0, name1, data2]) w = F66_0 d0 name1 data2 w k := by kernel_rfl
theorem F66_in (d0 : Value) (name1 : Value) (data2 : Value) (w : World) (k : Value → World → Prop) (h : F66_0 d0 name1 data2 w k) : pFn prog 66 [d0, name1, data2] w k :=
 pFn_of_at mixed func66 (by kernel_rfl) (by kernel_rfl) ntmps66 (by kernel_rfl) (by kernel_rfl) (by simp) ((F66_0_eq d0 name1 data2 w k).mpr h)
noncomputable def F68B : Code := bodyOf f68
def F68A (k : Value → World → Prop) (q : List Nat) (ρ : Env) (w : World) : Prop := At prog 70 F68B (retQ prog f68.results.toList k) q ρ w
def F68_0 (d0 : Value) (name1 : Value) (n2 : Value) (w : World) (k : Value → World → Prop) : Prop :=
 pFn prog 93 [d0, name1] w fun v16 w =>
 px prog (Instr.extract v16 0) w fun v17 w =>
 px prog (Instr.extract v16 1) w fun v18 w =>
 px prog (binSem .neq 3 (.tmp 19) (.const (.int .i64 0)) v18 (.int .i64 0)) w fun v20 w =>
 pC v20 (
 k v18 w)
 (
 px prog (nilSem d0) w fun v23 w =>
 px prog (Instr.fieldAt 62 v23 2) w fun v24 w =>
 px prog (Instr.loadAt 59 v24) w fun v25 w =>
 px prog (Instr.indexAt 59 v25 v17) w fun v27 w =>
 px prog (Instr.fieldAt 144 v27 1) w fun v28 w =>
 px prog (Instr.loadAt 142 v28) w fun v29 w =>
 px prog (binSem .lss 3 (.tmp 30) (.const (.int .i64 0)) n2 (.int .i64 0)) w fun v31 w =>
 pG v31 false (fun k => k n2 w) (w := w) (next := fun v33 w =>
 pG v31 false (fun k => k v29 w) (w := w) (next := fun v34 w =>
 pG v31 false (fun k => px prog (nilSem v34) w k) (w := w) (next := fun v35 w =>
 pG v31 false (fun k => px prog (Instr.fieldAt 156 v35 1) w k) (w := w) (next := fun v36 w =>
 pG v31 false (fun k => px prog (Instr.loadAt 36 v36) w k) (w := w) (next := fun v37 w =>
 pG v31 false (fun k => px prog (bSem .len #[36] 3 #[v37]) w k) (w := w) (next := fun v38 w =>
 pG v31 false (fun k => px prog (binSem .gtr 3 (.tmp 33) (.tmp 38) v33 v38) w k) (w := w) (next := fun v39 w =>
 px prog (pickSem v31 (.bool true) v39) w fun v40 w =>
 pC v40 (
 k (.int .i64 54) w)
 (
 pFn prog 111 [d0] w fun v43 w =>
 px prog (Instr.extract v43 0) w fun v44 w =>
 px prog (Instr.extract v43 1) w fun v45 w =>
 px prog (Instr.build 186 #[(0, (.bool true)), (1, n2)]) w fun v47 w =>
 px prog (Instr.alloc 186 true (.tuple #[])) w fun v12 w =>
 pu prog (Instr.storeAt 186 v12 v47) w fun w =>
 ∃ S : World → Prop, S w.drew ∧ (fun w =>
 pq prog S (nilSem v29) fun v50 =>
 pq prog S (Instr.fieldAt 156 v50 1) fun v51 =>
 pq prog S (Instr.loadAt 36 v51) fun v52 =>
 pq prog S (Instr.loadAt 186 v12) fun v53 =>
 pFn prog 116 [v52, v53, (.int .i64 1)] w fun v54 w => S w ∧ (
 pq prog S (nilSem v29) fun v55 =>
 pq prog S (Instr.fieldAt 156 v55 1) fun v56 =>
 pu prog (Instr.storeAt 36 v56 v54) w fun w => (
 ∃ S : World → Prop, S w.drew ∧ (fun w =>
 pq prog S (nilSem v29) fun v59 =>
 pq prog S (Instr.fieldAt 156 v59 2) fun v60 =>
 pq prog S (Instr.loadAt 154 v60) fun v61 =>
 pq prog S (Instr.loadAt 186 v12) fun v62 =>
 px prog (Instr.buildSlice 154 1 #[(0, v62)]) w fun v63 w => S w ∧ (
 px prog (bSem .append #[154, 154] 154 #[v61, v63]) w fun v64 w => S w ∧ (
 pq prog S (nilSem v29) fun v65 =>
 pq prog S (Instr.fieldAt 156 v65 2) fun v66 =>
 pu prog (Instr.storeAt 154 v66 v64) w fun w => (
 pFn prog 112 [d0, v45, (.int .i64 0)] w fun v69 w =>
 k v69 w)))) w.drew))) w.drew)))))))))
theorem F68_0_eq (d0 : Value) (name1 : Value) (n2 : Value) (w : World) (k : Value → World → Prop) : F68A k [] (argEnv [d0, name1, n2]) w = F68_0 d0 name1 n2 w k := by kernel_rfl
theorem F68_in (d0 : Value) (name1 : Value) (n2 : Value) (w : World) (k : Value → World → Prop) (h : F68_0 d0 name1 n2 w k) : pFn prog 68 [d0, name1, n2] w k :=
 pFn_of_at mixed func68 (by kernel_rfl) (by kernel_rfl) ntmps68 (by kernel_rfl) (by kernel_rfl) (by simp) ((F68_0_eq d0 name1 n2 w k).mpr h)
noncomputable def F69B : Code := bodyOf f69
def F69A (k : Value → World → Prop) (q : List Nat) (ρ : Env) (w : World) : Prop := At prog 60 F69B (retQ prog f69.results.toList k) q ρ w
def F69_0 (d0 : Value) (from1 : Value) (to2 : Value) (w : World) (k : Value → World → Prop) : Prop :=
 pFn prog 74 [d0] w fun v11 w =>
 pC v11 (
 k (.int .i64 50) w)
 (
 pFn prog 99 [from1] w fun v13 w =>
 px prog (Op.unary .not v13) w fun v14 w =>
 pG v14 false (fun k => k to2 w) (w := w) (next := fun v16 w =>
 pG v14 false (fun k => pFn prog 99 [v16] w k) (w := w) (next := fun v17 w =>
 pG v14 false (fun k => px prog (Op.unary .not v17) w k) (w := w) (next := fun v18 w =>
 px prog (pickSem v14 (.bool true) v18) w fun v19 w =>
 pC v19 (
 k (.int .i64 51) w)
 (
 px prog (nilSem d0) w fun v21 w =>
 px prog (Instr.fieldAt 62 v21 2) w fun v22 w =>
 px prog (Instr.loadAt 59 v22) w fun v23 w =>
 pFn prog 100 [v23, from1] w fun v25 w =>
 px prog (binSem .lss 3 (.tmp 25) (.const (.int .i64 0)) v25 (.int .i64 0)) w fun v26 w =>
 pC v26 (
 k (.int .i64 53) w)
 (
 pFn prog 111 [d0] w fun v29 w =>
 px prog (Instr.extract v29 0) w fun v30 w =>
 px prog (Instr.extract v29 1) w fun v31 w =>
 px prog (binSem .neq 9 (.tmp 32) (.tmp 33) from1 to2) w fun v34 w =>
 pC v34 (
 px prog (Instr.build 146 #[(0, (.int .i64 2)), (1, from1), (2, to2)]) w fun v37 w =>
 px prog (Instr.alloc 146 true (.tuple #[])) w fun v9 w =>
 pu prog (Instr.storeAt 146 v9 v37) w fun w =>
 ∃ S : World → Prop, S w.drew ∧ (fun w =>
 pq prog S (nilSem d0) fun v40 =>
 pq prog S (Instr.fieldAt 62 v40 2) fun v41 =>
 pq prog S (Instr.loadAt 59 v41) fun v42 =>
 pq prog S (Instr.loadAt 146 v9) fun v43 =>
 pFn prog 113 [v42, v43] w fun v44 w => S w ∧ (
 pq prog S (nilSem d0) fun v45 =>
 pq prog S (Instr.fieldAt 62 v45 2) fun v46 =>
 pu prog (Instr.storeAt 59 v46 v44) w fun w => (
 ∃ S : World → Prop, S w.drew ∧ (fun w =>
 pq prog S (nilSem d0) fun v49 =>
 pq prog S (Instr.fieldAt 62 v49 4) fun v50 =>
 pq prog S (Instr.loadAt 60 v50) fun v51 =>
 pq prog S (Instr.loadAt 146 v9) fun v52 =>
 px prog (Instr.buildSlice 60 1 #[(0, v52)]) w fun v53 w => S w ∧ (
 px prog (bSem .append #[60, 60] 60 #[v51, v53]) w fun v54 w => S w ∧ (
 pq prog S (nilSem d0) fun v55 =>
 pq prog S (Instr.fieldAt 62 v55 4) fun v56 =>
 pu prog (Instr.storeAt 60 v56 v54) w fun w => (
 F69A k [1, 1, 1, 1, 1, 1] (put (put (put (put (put (put (put (put (put (put (put (put (put (put (put (put (put (put (put (put (put (put (put (put (put (put (put (put (put (put (put (put (put (put (put (put (put (put (put (put (put (put (put (put (put (put (put (put (put (put (put (argEnv [d0, from1, to2]) 6 (.int .i64 0)) 10 d0) 11 v11) 12 from1) 13 v13) 14 v14) 15 v14) 16 v16) 17 v17) 18 v18) 19 v19) 20 d0) 21 v21) 22 v22) 23 v23) 24 from1) 25 v25) 26 v26) 28 d0) 29 v29) 27 v29) 30 v30) 31 v31) 7 v30) 8 v31) 32 from1) 33 to2) 34 v34) 35 from1) 36 to2) 37 v37) 9 v9) 38 d0) 39 d0) 40 v40) 41 v41) 42 v42) 43 v43) 44 v44) 45 v45) 46 v46) 47 d0) 48 d0) 49 v49) 50 v50) 51 v51) 52 v52) 53 v53) 54 v54) 55 v55) 56 v56) w)))) w.drew))) w.drew)
 (
 F69A k [1, 1, 1, 1, 1, 1] (put (put (put (put (put (put (put (put (put (put (put (put (put (put (put (put (put (put (put (put (put (put (put (put (put (put (put (put (argEnv [d0, from1, to2]) 6 (.int .i64 0)) 10 d0) 11 v11) 12 from1) 13 v13) 14 v14) 15 v14) 16 v16) 17 v17) 18 v18) 19 v19) 20 d0) 21 v21) 22 v22) 23 v23) 24 from1) 25 v25) 26 v26) 28 d0) 29 v29) 27 v29) 30 v30) 31 v31) 7 v30) 8 v31) 32 from1) 33 to2) 34 v34) w)))))))
theorem F69_0_eq (d0 : Value) (from1 : Value) (to2 : Value) (w : World) (k : Value → World → Prop) : F69A k [] (argEnv [d0, from1, to2]) w = F69_0 d0 from1 to2 w k := by kernel_rfl
theorem F69_in (d0 : Value) (from1 : Value) (to2 : Value) (w : World) (k : Value → World → Prop) (h : F69_0 d0 from1 to2 w k) : pFn prog 69 [d0, from1, to2] w k :=
 pFn_of_at mixed func69 (by kernel_rfl) (by kernel_rfl) ntmps69 (by kernel_rfl) (by kernel_rfl) (by simp) ((F69_0_eq d0 from1 to2 w k).mpr h)
noncomputable def F70B : Code := bodyOf f70
def F70A (k : Value → World → Prop) (q : List Nat) (ρ : Env) (w : World) : Prop := At prog 48 F70B (retQ prog f70.results.toList k) q ρ w
def F70_0 (d0 : Value) (name1 : Value) (w : World) (k : Value → World → Prop) : Prop :=
 pFn prog 93 [d0, name1] w fun v13 w =>
 px prog (Instr.extract v13 0) w fun v14 w =>
 px prog (Instr.extract v13 1) w fun v15 w =>
 px prog (binSem .neq 3 (.tmp 16) (.const (.int .i64 0)) v15 (.int .i64 0)) w fun v17 w =>
 pC v17 (
 k v15 w)
 (
 pFn prog 111 [d0] w fun v21 w =>
 px prog (Instr.extract v21 0) w fun v22 w =>
 px prog (Instr.extract v21 1) w fun v23 w =>
 px prog (Instr.build 146 #[(0, (.int .i64 3)), (1, name1)]) w fun v25 w =>
 px prog (Instr.alloc 146 true (.tuple #[])) w fun v9 w =>
 pu prog (Instr.storeAt 146 v9 v25) w fun w =>
 ∃ S : World → Prop, S w.drew ∧ (fun w =>
 pq prog S (nilSem d0) fun v28 =>
 pq prog S (Instr.fieldAt 62 v28 2) fun v29 =>
 pq prog S (Instr.loadAt 59 v29) fun v30 =>
 pq prog S (Instr.loadAt 146 v9) fun v31 =>
 pFn prog 113 [v30, v31] w fun v32 w => S w ∧ (
 pq prog S (nilSem d0) fun v33 =>
 pq prog S (Instr.fieldAt 62 v33 2) fun v34 =>
 pu prog (Instr.storeAt 59 v34 v32) w fun w => (
 ∃ S : World → Prop, S w.drew ∧ (fun w =>
 pq prog S (nilSem d0) fun v37 =>
 pq prog S (Instr.fieldAt 62 v37 4) fun v38 =>
 pq prog S (Instr.loadAt 60 v38) fun v39 =>
 pq prog S (Instr.loadAt 146 v9) fun v40 =>
 px prog (Instr.buildSlice 60 1 #[(0, v40)]) w fun v41 w => S w ∧ (
 px prog (bSem .append #[60, 60] 60 #[v39, v41]) w fun v42 w => S w ∧ (
 pq prog S (nilSem d0) fun v43 =>
 pq prog S (Instr.fieldAt 62 v43 4) fun v44 =>
 pu prog (Instr.storeAt 60 v44 v42) w fun w => (
 pFn prog 112 [d0, v23, (.int .i64 0)] w fun v47 w =>
 k v47 w)))) w.drew))) w.drew)
theorem F70_0_eq (d0 : Value) (name1 : Value) (w : World) (k : Value → World → Prop) : F70A k [] (argEnv [d0, name1]) w = F70_0 d0 name1 w k := by kernel_rfl
theorem F70_in (d0 : Value) (name1 : Value) (w : World) (k : Value → World → Prop) (h : F70_0 d0 name1 w k) : pFn prog 70 [d0, name1] w k :=
 pFn_of_at mixed func70 (by kernel_rfl) (by kernel_rfl) ntmps70 (by kernel_rfl) (by kernel_rfl) (by simp) ((F70_0_eq d0 name1 w k).mpr h)
noncomputable def F71B : Code := bodyOf f71
def F71A (k : Value → World → Prop) (q : List Nat) (ρ : Env) (w : World) : Prop := At prog 48 F71B (retQ prog f71.results.toList k) q ρ w
def F71_0 (d0 : Value) (name1 : Value) (w : World) (k : Value → World → Prop) : Prop :=
 pFn prog 93 [d0, name1] w fun v13 w =>
 px prog (Instr.extract v13 0) w fun v14 w =>
 px prog (Instr.extract v13 1) w fun v15 w =>
 px prog (binSem .neq 3 (.tmp 16) (.const (.int .i64 0)) v15 (.int .i64 0)) w fun v17 w =>
 pC v17 (
 k v15 w)
 (
 pFn prog 111 [d0] w fun v21 w =>
 px prog (Instr.extract v21 0) w fun v22 w =>
 px prog (Instr.extract v21 1) w fun v23 w =>
 px prog (Op.unary .not v23) w fun v25 w =>
 pC v25 (
 px prog (nilSem d0) w fun v27 w =>
 px prog (Instr.fieldAt 62 v27 2) w fun v28 w =>
 px prog (Instr.loadAt 59 v28) w fun v29 w =>
 px prog (Instr.indexAt 59 v29 v14) w fun v31 w =>
 px prog (Instr.fieldAt 144 v31 1) w fun v32 w =>
 px prog (Instr.loadAt 142 v32) w fun v33 w =>
 px prog (nilSem v33) w fun v36 w =>
 px prog (Instr.fieldAt 156 v36 1) w fun v37 w =>
 px prog (Instr.loadAt 36 v37) w fun v38 w =>
 pFn prog 94 [v38] w fun v39 w =>
 px prog (nilSem v33) w fun v40 w =>
 px prog (Instr.fieldAt 156 v40 0) w fun v41 w =>
 pu prog (Instr.storeAt 36 v41 v39) w fun w =>
 px prog (nilSem v33) w fun v43 w =>
 px prog (Instr.fieldAt 156 v43 2) w fun v44 w =>
 pu prog (Instr.storeAt 154 v44 (.slice none 0 0)) w fun w =>
 F71A k [1, 1, 1, 1, 1] (put (put (put (put (put (put (put (put (put (put (put (put (put (put (put (put (put (put (put (put (put (put (put (put (put (put (put (put (put (put (put (put (put (put (put (put (put (put (put (put (argEnv [d0, name1]) 4 (.int .i64 0)) 11 d0) 12 name1) 13 v13) 10 v13) 14 v14) 15 v15) 5 v14) 6 v15) 16 v15) 17 v17) 20 d0) 21 v21) 19 v21) 22 v22) 23 v23) 7 v22) 8 v23) 24 v23) 25 v25) 26 d0) 27 v27) 28 v28) 29 v29) 30 v14) 31 v31) 32 v32) 33 v33) 9 v33) 34 v33) 35 v33) 36 v36) 37 v37) 38 v38) 39 v39) 40 v40) 41 v41) 42 v33) 43 v43) 44 v44) w)
 (
 F71A k [1, 1, 1, 1, 1] (put (put (put (put (put (put (put (put (put (put (put (put (put (put (put (put (put (put (put (put (argEnv [d0, name1]) 4 (.int .i64 0)) 11 d0) 12 name1) 13 v13) 10 v13) 14 v14) 15 v15) 5 v14) 6 v15) 16 v15) 17 v17) 20 d0) 21 v21) 19 v21) 22 v22) 23 v23) 7 v22) 8 v23) 24 v23) 25 v25) w))
theorem F71_0_eq (d0 : Value) (name1 : Value) (w : World) (k : Value → World → Prop) : F71A k [] (argEnv [d0, name1]) w = F71_0 d0 name1 w k := by kernel_rfl
theorem F71_in (d0 : Value) (name1 : Value) (w : World) (k : Value → World → Prop) (h : F71_0 d0 name1 w k) : pFn prog 71 [d0, name1] w k :=
 pFn_of_at mixed func71 (by kernel_rfl) (by kernel_rfl) ntmps71 (by kernel_rfl) (by kernel_rfl) (by simp) ((F71_0_eq d0 name1 w k).mpr h)
noncomputable def F72B : Code := bodyOf f72
def F72A (k : Value → World → Prop) (q : List Nat) (ρ : Env) (w : World) : Prop := At prog 27 F72B (retQ prog f72.results.toList k) q ρ w
def F72_0 (d0 : Value) (w : World) (k : Value → World → Prop) : Prop :=
 pFn prog 74 [d0] w fun v6 w =>
 pC v6 (
 k (.int .i64 50) w)
 (
 pFn prog 111 [d0] w fun v9 w =>
 px prog (Instr.extract v9 0) w fun v10 w =>
 px prog (Instr.extract v9 1) w fun v11 w =>
 px prog (Op.unary .not v11) w fun v13 w =>
 pC v13 (
 px prog (nilSem d0) w fun v16 w =>
 px prog (Instr.fieldAt 62 v16 2) w fun v17 w =>
 px prog (Instr.loadAt 59 v17) w fun v18 w =>
 px prog (nilSem d0) w fun v19 w =>
 px prog (Instr.fieldAt 62 v19 3) w fun v20 w =>
 pu prog (Instr.storeAt 59 v20 v18) w fun w =>
 px prog (nilSem d0) w fun v22 w =>
 px prog (Instr.fieldAt 62 v22 4) w fun v23 w =>
 pu prog (Instr.storeAt 60 v23 (.slice none 0 0)) w fun w =>
 F72A k [1, 1, 1, 1] (put (put (put (put (put (put (put (put (put (put (put (put (put (put (put (put (put (put (put (put (put (put (argEnv [d0]) 2 (.int .i64 0)) 5 d0) 6 v6) 8 d0) 9 v9) 7 v9) 10 v10) 11 v11) 3 v10) 4 v11) 12 v11) 13 v13) 14 d0) 15 d0) 16 v16) 17 v17) 18 v18) 19 v19) 20 v20) 21 d0) 22 v22) 23 v23) w)
 (
 F72A k [1, 1, 1, 1] (put (put (put (put (put (put (put (put (put (put (put (put (argEnv [d0]) 2 (.int .i64 0)) 5 d0) 6 v6) 8 d0) 9 v9) 7 v9) 10 v10) 11 v11) 3 v10) 4 v11) 12 v11) 13 v13) w))
theorem F72_0_eq (d0 : Value) (w : World) (k : Value → World → Prop) : F72A k [] (argEnv [d0]) w = F72_0 d0 w k := by kernel_rfl
theorem F72_in (d0 : Value) (w : World) (k : Value → World → Prop) (h : F72_0 d0 w k) : pFn prog 72 [d0] w k :=
 pFn_of_at mixed func72 (by kernel_rfl) (by kernel_rfl) ntmps72 (by kernel_rfl) (by kernel_rfl) (by simp) ((F72_0_eq d0 w k).mpr h)
noncomputable def F74B : Code := bodyOf f74
def F74A (k : Value → World → Prop) (q : List Nat) (ρ : Env) (w : World) : Prop := At prog 12 F74B (retQ prog f74.results.toList k) q ρ w
def F74_0 (d0 : Value) (w : World) (k : Value → World → Prop) : Prop :=
 px prog (binSem .eql 30 (.tmp 3) (.const (.pointer none)) d0 (.pointer none)) w fun v4 w =>
 pG v4 false (fun k => k d0 w) (w := w) (next := fun v6 w =>
 pG v4 false (fun k => px prog (nilSem v6) w k) (w := w) (next := fun v7 w =>
 pG v4 false (fun k => px prog (Instr.fieldAt 62 v7 0) w k) (w := w) (next := fun v8 w =>
 pG v4 false (fun k => px prog (Instr.loadAt 4 v8) w k) (w := w) (next := fun v9 w =>
 pG v4 false (fun k => px prog (Op.unary .not v9) w k) (w := w) (next := fun v10 w =>
 px prog (pickSem v4 (.bool true) v10) w fun v11 w =>
 k v11 w)))))
theorem F74_0_eq (d0 : Value) (w : World) (k : Value → World → Prop) : F74A k [] (argEnv [d0]) w = F74_0 d0 w k := by kernel_rfl
theorem F74_in (d0 : Value) (w : World) (k : Value → World → Prop) (h : F74_0 d0 w k) : pFn prog 74 [d0] w k :=
 pFn_of_at mixed func74 (by kernel_rfl) (by kernel_rfl) ntmps74 (by kernel_rfl) (by kernel_rfl) (by simp) ((F74_0_eq d0 w k).mpr h)
noncomputable def F75B : Code := bodyOf f75
def F75A (k : Value → World → Prop) (q : List Nat) (ρ : Env) (w : World) : Prop := At prog 9 F75B (retQ prog f75.results.toList k) q ρ w
def F75_0 (d0 : Value) (w : World) (k : Value → World → Prop) : Prop :=
 px prog (binSem .eql 30 (.tmp 3) (.const (.pointer none)) d0 (.pointer none)) w fun v4 w =>
 pC v4 (
 k (.int .i64 0) w)
 (
 px prog (nilSem d0) w fun v6 w =>
 px prog (Instr.fieldAt 62 v6 5) w fun v7 w =>
 px prog (Instr.loadAt 3 v7) w fun v8 w =>
 k v8 w)
theorem F75_0_eq (d0 : Value) (w : World) (k : Value → World → Prop) : F75A k [] (argEnv [d0]) w = F75_0 d0 w k := by kernel_rfl
theorem F75_in (d0 : Value) (w : World) (k : Value → World → Prop) (h : F75_0 d0 w k) : pFn prog 75 [d0] w k :=
 pFn_of_at mixed func75 (by kernel_rfl) (by kernel_rfl) ntmps75 (by kernel_rfl) (by kernel_rfl) (by simp) ((F75_0_eq d0 w k).mpr h)
noncomputable def F76B : Code := bodyOf f76
def F76A (k : Value → World → Prop) (q : List Nat) (ρ : Env) (w : World) : Prop := At prog 31 F76B (retQ prog f76.results.toList k) q ρ w
noncomputable def F76B1 : Code := sub F76B [1, 1, 1, 0, 1, 0, 0]
def F76Q1 (k : Value → World → Prop) (N1 : Env → World → Prop) : Xt → Env → World → Prop := thenE N1 (contAt prog 31 F76B (retQ prog f76.results.toList k) [1, 1, 1, 0, 1, 0])
def F76A1 (k : Value → World → Prop) (N1 : Env → World → Prop) (q : List Nat) (ρ : Env) (w : World) : Prop := At prog 31 F76B1 (F76Q1 k N1) q ρ w
def F76L1 (k : Value → World → Prop) (ρ : Env) (w : World) : Prop := LoopAt prog 31 F76B (retQ prog f76.results.toList k) [1, 1, 1, 0, 1, 0] ρ w
theorem F76L1_inv (k : Value → World → Prop) (I : Nat → Env → World → Prop) (round : ∀ m ρ w, I m ρ w → F76A1 k (fun ρ' w' => ∃ m', m' < m ∧ I m' ρ' w') [] ρ w) {m : Nat} {ρ : Env} {w : World} (h : I m ρ w) : F76L1 k ρ w :=
 LoopAt_inv mixed (B := F76B) (Q := (retQ prog f76.results.toList k)) (p := [1, 1, 1, 0, 1, 0]) (by kernel_rfl) (by kernel_rfl) I round h
def F76_0 (d0 : Value) (w : World) (k : Value → World → Prop) : Prop :=
 px prog (binSem .eql 30 (.tmp 5) (.const (.pointer none)) d0 (.pointer none)) w fun v6 w =>
 pC v6 (
 k (.int .i64 0) w)
 (
 F76L1 k (put (put (put (put (put (argEnv [d0]) 2 (.int .i64 0)) 5 d0) 6 v6) 3 (.int .i64 0)) 4 (.int .i64 0)) w)
theorem F76_0_eq (d0 : Value) (w : World) (k : Value → World → Prop) : F76A k [] (argEnv [d0]) w = F76_0 d0 w k := by kernel_rfl
def F76_1 (k : Value → World → Prop) (N1 : Env → World → Prop) (ρ : Env) (w : World) : Prop :=
 px prog (nilSem (ρ 0)) w fun v9 w =>
 px prog (Instr.fieldAt 62 v9 2) w fun v10 w =>
 px prog (Instr.loadAt 59 v10) w fun v11 w =>
 px prog (bSem .len #[59] 3 #[v11]) w fun v12 w =>
 px prog (binSem .lss 3 (.tmp 7) (.tmp 12) (ρ 4) v12) w fun v13 w =>
 pC v13 (
 px prog (nilSem (ρ 0)) w fun v18 w =>
 px prog (Instr.fieldAt 62 v18 2) w fun v19 w =>
 px prog (Instr.loadAt 59 v19) w fun v20 w =>
 px prog (Instr.indexAt 59 v20 (ρ 4)) w fun v22 w =>
 px prog (Instr.fieldAt 144 v22 1) w fun v23 w =>
 px prog (Instr.loadAt 142 v23) w fun v24 w =>
 px prog (nilSem v24) w fun v25 w =>
 px prog (Instr.fieldAt 156 v25 1) w fun v26 w =>
 px prog (Instr.loadAt 36 v26) w fun v27 w =>
 px prog (bSem .len #[36] 3 #[v27]) w fun v28 w =>
 px prog (binSem .add 3 (.tmp 16) (.tmp 28) (ρ 3) v28) w fun v29 w =>
 px prog (binSem .add 3 (.tmp 14) (.const (.int .i64 1)) (ρ 4) (.int .i64 1)) w fun v15 w =>
 N1 (put (put (put (put (put (put (put (put (put (put (put (put (put (put (put (put (put (put (put (put (put (put (put (put (put ρ 7 (ρ 4)) 8 (ρ 0)) 9 v9) 10 v10) 11 v11) 12 v12) 13 v13) 16 (ρ 3)) 17 (ρ 0)) 18 v18) 19 v19) 20 v20) 21 (ρ 4)) 22 v22) 23 v23) 24 v24) 25 v25) 26 v26) 27 v27) 28 v28) 29 v29) 3 v29) 14 (ρ 4)) 15 v15) 4 v15) w)
 (
 F76A k [1, 1, 1, 1] (put (put (put (put (put (put (put ρ 7 (ρ 4)) 8 (ρ 0)) 9 v9) 10 v10) 11 v11) 12 v12) 13 v13) w)
theorem F76_1_eq (k : Value → World → Prop) (N1 : Env → World → Prop) (ρ : Env) (w : World) : F76A1 k N1 [] ρ w = F76_1 k N1 ρ w := by kernel_rfl
def F76_2 (k : Value → World → Prop) (ρ : Env) (w : World) : Prop :=
 k (ρ 3) w
theorem F76_2_eq (k : Value → World → Prop) (ρ : Env) (w : World) : F76A k [1, 1, 1, 1] ρ w = F76_2 k ρ w := by kernel_rfl
theorem F76_in (d0 : Value) (w : World) (k : Value → World → Prop) (h : F76_0 d0 w k) : pFn prog 76 [d0] w k :=
 pFn_of_at mixed func76 (by kernel_rfl) (by kernel_rfl) ntmps76 (by kernel_rfl) (by kernel_rfl) (by simp) ((F76_0_eq d0 w k).mpr h)
noncomputable def F77B : Code := bodyOf f77
def F77A (k : Value → World → Prop) (q : List Nat) (ρ : Env) (w : World) : Prop := At prog 9 F77B (retQ prog f77.results.toList k) q ρ w
def F77_0 (d0 : Value) (w : World) (k : Value → World → Prop) : Prop :=
 px prog (binSem .eql 30 (.tmp 3) (.const (.pointer none)) d0 (.pointer none)) w fun v4 w =>
 pC v4 (
 k (.int .i64 0) w)
 (
 px prog (nilSem d0) w fun v6 w =>
 px prog (Instr.fieldAt 62 v6 1) w fun v7 w =>
 px prog (Instr.loadAt 3 v7) w fun v8 w =>
 k v8 w)
theorem F77_0_eq (d0 : Value) (w : World) (k : Value → World → Prop) : F77A k [] (argEnv [d0]) w = F77_0 d0 w k := by kernel_rfl
theorem F77_in (d0 : Value) (w : World) (k : Value → World → Prop) (h : F77_0 d0 w k) : pFn prog 77 [d0] w k :=
 pFn_of_at mixed func77 (by kernel_rfl) (by kernel_rfl) ntmps77 (by kernel_rfl) (by kernel_rfl) (by simp) ((F77_0_eq d0 w k).mpr h)
noncomputable def F93B : Code := bodyOf f93
def F93A (k : Value → World → Prop) (q : List Nat) (ρ : Env) (w : World) : Prop := At prog 21 F93B (retQ prog f93.results.toList k) q ρ w
def F93_0 (d0 : Value) (name1 : Value) (w : World) (k : Value → World → Prop) : Prop :=
 pFn prog 74 [d0] w fun v8 w =>
 pC v8 (
 k (.tuple #[(.int .i64 0), (.int .i64 50)]) w)
 (
 pFn prog 99 [name1] w fun v10 w =>
 px prog (Op.unary .not v10) w fun v11 w =>
 pC v11 (
 k (.tuple #[(.int .i64 0), (.int .i64 51)]) w)
 (
 px prog (nilSem d0) w fun v13 w =>
 px prog (Instr.fieldAt 62 v13 2) w fun v14 w =>
 px prog (Instr.loadAt 59 v14) w fun v15 w =>
 pFn prog 100 [v15, name1] w fun v17 w =>
 px prog (binSem .lss 3 (.tmp 18) (.const (.int .i64 0)) v17 (.int .i64 0)) w fun v19 w =>
 pC v19 (
 k (.tuple #[(.int .i64 0), (.int .i64 53)]) w)
 (
 k (.tuple #[v17, (.int .i64 0)]) w)))
theorem F93_0_eq (d0 : Value) (name1 : Value) (w : World) (k : Value → World → Prop) : F93A k [] (argEnv [d0, name1]) w = F93_0 d0 name1 w k := by kernel_rfl
theorem F93_in (d0 : Value) (name1 : Value) (w : World) (k : Value → World → Prop) (h : F93_0 d0 name1 w k) : pFn prog 93 [d0, name1] w k :=
 pFn_of_at mixed func93 (by kernel_rfl) (by kernel_rfl) ntmps93 (by kernel_rfl) (by kernel_rfl) (by simp) ((F93_0_eq d0 name1 w k).mpr h)
noncomputable def F120B : Code := bodyOf f120
def F120A (k : Value → World → Prop) (q : List Nat) (ρ : Env) (w : World) : Prop := At prog 29 F120B (retQ prog f120.results.toList k) q ρ w
def F120_0 (d0 : Value) (name1 : Value) (w : World) (k : Value → World → Prop) : Prop :=
 pFn prog 93 [d0, name1] w fun v11 w =>
 px prog (Instr.extract v11 0) w fun v12 w =>
 px prog (Instr.extract v11 1) w fun v13 w =>
 px prog (binSem .neq 3 (.tmp 14) (.const (.int .i64 0)) v13 (.int .i64 0)) w fun v15 w =>
 pC v15 (
 k (.tuple #[(.int .i64 0), v13]) w)
 (
 px prog (nilSem d0) w fun v18 w =>
 px prog (Instr.fieldAt 62 v18 2) w fun v19 w =>
 px prog (Instr.loadAt 59 v19) w fun v20 w =>
 px prog (Instr.indexAt 59 v20 v12) w fun v22 w =>
 px prog (Instr.fieldAt 144 v22 1) w fun v23 w =>
 px prog (Instr.loadAt 142 v23) w fun v24 w =>
 px prog (nilSem v24) w fun v25 w =>
 px prog (Instr.fieldAt 156 v25 1) w fun v26 w =>
 px prog (Instr.loadAt 36 v26) w fun v27 w =>
 px prog (bSem .len #[36] 3 #[v27]) w fun v28 w =>
 k (.tuple #[v28, (.int .i64 0)]) w)
theorem F120_0_eq (d0 : Value) (name1 : Value) (w : World) (k : Value → World → Prop) : F120A k [] (argEnv [d0, name1]) w = F120_0 d0 name1 w k := by kernel_rfl
theorem F120_in (d0 : Value) (name1 : Value) (w : World) (k : Value → World → Prop) (h : F120_0 d0 name1 w k) : pFn prog 120 [d0, name1] w k :=
 pFn_of_at mixed func120 (by kernel_rfl) (by kernel_rfl) ntmps120 (by kernel_rfl) (by kernel_rfl) (by simp) ((F120_0_eq d0 name1 w k).mpr h)
noncomputable def F121B : Code := bodyOf f121
def F121A (k : Value → World → Prop) (q : List Nat) (ρ : Env) (w : World) : Prop := At prog 14 F121B (retQ prog f121.results.toList k) q ρ w
def F121_0 (d0 : Value) (p1 : Value) (w : World) (k : Value → World → Prop) : Prop :=
 px prog (Instr.box 38 p1) w fun v3 w =>
 pFn prog 74 [d0] w fun v5 w =>
 px prog (Op.unary .not v5) w fun v6 w =>
 pC v6 (
 px prog (Instr.loadAt 38 v3) w fun v8 w =>
 px prog (nilSem d0) w fun v9 w =>
 px prog (Instr.fieldAt 62 v9 7) w fun v10 w =>
 pu prog (Instr.storeAt 38 v10 v8) w fun w =>
 px prog (nilSem d0) w fun v12 w =>
 px prog (Instr.fieldAt 62 v12 6) w fun v13 w =>
 pu prog (Instr.storeAt 3 v13 (.int .i64 0)) w fun w =>
 k (.tuple #[]) w)
 (
 k (.tuple #[]) w)
theorem F121_0_eq (d0 : Value) (p1 : Value) (w : World) (k : Value → World → Prop) : F121A k [] (argEnv [d0, p1]) w = F121_0 d0 p1 w k := by kernel_rfl
theorem F121_in (d0 : Value) (p1 : Value) (w : World) (k : Value → World → Prop) (h : F121_0 d0 p1 w k) : pFn prog 121 [d0, p1] w k :=
 pFn_of_at mixed func121 (by kernel_rfl) (by kernel_rfl) ntmps121 (by kernel_rfl) (by kernel_rfl) (by simp) ((F121_0_eq d0 p1 w k).mpr h)
noncomputable def F123B : Code := bodyOf f123
def F123A (k : Value → World → Prop) (q : List Nat) (ρ : Env) (w : World) : Prop := At prog 166 F123B (retQ prog f123.results.toList k) q ρ w
def F123L1 (k : Value → World → Prop) (ρ : Env) (w : World) : Prop := LoopAt prog 166 F123B (retQ prog f123.results.toList k) [1, 1, 1, 0, 1, 0] ρ w
def F123_0 (d0 : Value) (picks1 : Value) (w : World) (k : Value → World → Prop) : Prop :=
 px prog (binSem .eql 30 (.tmp 16) (.const (.pointer none)) d0 (.pointer none)) w fun v17 w =>
 pG v17 false (fun k => k d0 w) (w := w) (next := fun v19 w =>
 pG v17 false (fun k => px prog (nilSem v19) w k) (w := w) (next := fun v20 w =>
 pG v17 false (fun k => px prog (Instr.fieldAt 62 v20 1) w k) (w := w) (next := fun v21 w =>
 pG v17 false (fun k => px prog (Instr.loadAt 3 v21) w k) (w := w) (next := fun v22 w =>
 pG v17 false (fun k => px prog (binSem .eql 3 (.tmp 22) (.const (.int .i64 0)) v22 (.int .i64 0)) w k) (w := w) (next := fun v23 w =>
 px prog (pickSem v17 (.bool true) v23) w fun v24 w =>
 pC v24 (
 k (.tuple #[]) w)
 (
 px prog (nilSem d0) w fun v26 w =>
 px prog (Instr.fieldAt 62 v26 3) w fun v27 w =>
 px prog (Instr.loadAt 59 v27) w fun v28 w =>
 px prog (nilSem d0) w fun v31 w =>
 px prog (Instr.fieldAt 62 v31 4) w fun v32 w =>
 px prog (Instr.loadAt 60 v32) w fun v33 w =>
 px prog (bSem .len #[60] 3 #[v33]) w fun v34 w =>
 pFn prog 135 [picks1, (.int .i64 0), v34] w fun v35 w =>
 F123L1 k (put (put (put (put (put (put (put (put (put (put (put (put (put (put (put (put (put (put (put (put (put (put (put (argEnv [d0, picks1]) 16 d0) 17 v17) 18 v17) 19 v19) 20 v20) 21 v21) 22 v22) 23 v23) 24 v24) 25 d0) 26 v26) 27 v27) 28 v28) 4 v28) 29 picks1) 30 d0) 31 v31) 32 v32) 33 v33) 34 v34) 35 v35) 5 v35) 6 (.int .i64 0)) w))))))
theorem F123_0_eq (d0 : Value) (picks1 : Value) (w : World) (k : Value → World → Prop) : F123A k [] (argEnv [d0, picks1]) w = F123_0 d0 picks1 w k := by kernel_rfl
theorem F123_in (d0 : Value) (picks1 : Value) (w : World) (k : Value → World → Prop) (h : F123_0 d0 picks1 w k) : pFn prog 123 [d0, picks1] w k :=
 pFn_of_at mixed func123 (by kernel_rfl) (by kernel_rfl) ntmps123 (by kernel_rfl) (by kernel_rfl) (by simp) ((F123_0_eq d0 picks1 w k).mpr h)
noncomputable def F126B : Code := bodyOf f126
def F126A (k : Value → World → Prop) (q : List Nat) (ρ : Env) (w : World) : Prop := At prog 7 F126B (retQ prog f126.results.toList k) q ρ w
def F126_0 (d0 : Value) (w : World) (k : Value → World → Prop) : Prop :=
 px prog (binSem .neq 30 (.tmp 2) (.const (.pointer none)) d0 (.pointer none)) w fun v3 w =>
 pC v3 (
 px prog (nilSem d0) w fun v5 w =>
 px prog (Instr.fieldAt 62 v5 8) w fun v6 w =>
 pu prog (Instr.storeAt 56 v6 (.slice none 0 0)) w fun w =>
 k (.tuple #[]) w)
 (
 k (.tuple #[]) w)
theorem F126_0_eq (d0 : Value) (w : World) (k : Value → World → Prop) : F126A k [] (argEnv [d0]) w = F126_0 d0 w k := by kernel_rfl
theorem F126_in (d0 : Value) (w : World) (k : Value → World → Prop) (h : F126_0 d0 w k) : pFn prog 126 [d0] w k :=
 pFn_of_at mixed func126 (by kernel_rfl) (by kernel_rfl) ntmps126 (by kernel_rfl) (by kernel_rfl) (by simp) ((F126_0_eq d0 w k).mpr h)
end Go.Proofs.YtcdcojpfealppaaGreat
