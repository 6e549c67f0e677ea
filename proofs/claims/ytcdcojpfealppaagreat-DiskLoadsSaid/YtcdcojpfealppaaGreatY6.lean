/- Put together by a program (wip/tools/shake.py): R2. -/
import Derived.Test.YtcdcojpfealppaaGreatY1
import Derived.Test.YtcdcojpfealppaaGreatProg
import Derived.Test.YtcdcojpfealppaaGreatMix
set_option linter.unusedVariables false
set_option maxRecDepth 100000
namespace Go.Proofs.YtcdcojpfealppaaGreat
open Go Go.Proofs Go.Proofs.XRed Tryz
open Go.Instr (fieldAt loadAt storeAt indexAt sliceAt extract)
noncomputable def F80B : Code := bodyOf f80
def F80A (k:KV) (q:List Nat) (ρ:Env) (w:World) : Prop := At prog 9 F80B (retQ prog f80.results.toList k) q ρ w
def F80_0 (a0:Value) (a1:Value) (w:World) (k:KV) : Prop :=
 px prog (loadAt 29 a0) w fun v2 w =>
 px prog (loadAt 9 a1) w fun v3 w =>
 px prog (Instr.build 124 #[]) w fun v4 w =>
 px prog (Instr.box 124 v4) w fun v5 w =>
 px prog (Instr.build 126 #[(0,v3),(1,v5)]) w fun v6 w =>
 px prog (Instr.makeInterface 126 v6) w fun v7 w =>
 pFn prog 81 [v2,v7] w fun v8 w =>
 k (.tuple #[]) w
theorem F80_0_eq (a0:Value) (a1:Value) (w:World) (k:KV) : F80A k [] (argEnv [a0,a1]) w = F80_0 a0 a1 w k := by kernel_rfl
theorem F80_in (a0:Value) (a1:Value) (w:World) (k:KV) (h:F80_0 a0 a1 w k) : pFn prog 80 [a0,a1] w k :=
 pFn_of_at mixed func80 (by kernel_rfl) (by kernel_rfl) ntmps80 (by kernel_rfl) (by kernel_rfl) (by simp) ((F80_0_eq a0 a1 w k).mpr h)
noncomputable def F83B : Code := bodyOf f83
def F83A (k:KV) (q:List Nat) (ρ:Env) (w:World) : Prop := At prog 28 F83B (retQ prog f83.results.toList k) q ρ w
def F83_0 (t0:Value) (a1:Value) (w:World) (k:KV) : Prop :=
 px prog (loadAt 127 a1) w fun v4 w =>
 px prog (Instr.lookup 127 v4 t0 false) w fun v6 w =>
 px prog (binSem .eql 117 (.tmp 6) (.const (.pointer none)) v6 (.pointer none)) w fun v7 w =>
 pC v7 (
 ∃ S : World → Prop,S w.drew ∧ (fun w =>
 pq prog S (loadAt 127 a1) fun v8 =>
 pq prog S (nilSem t0) fun v11 =>
 pq prog S (fieldAt 124 v11 0) fun v12 =>
 pq prog S (loadAt 36 v12) fun v13 =>
 pq prog S (nilSem t0) fun v15 =>
 pq prog S (fieldAt 124 v15 1) fun v16 =>
 pq prog S (loadAt 36 v16) fun v17 =>
 pq prog S (nilSem t0) fun v19 =>
 pq prog S (fieldAt 124 v19 2) fun v20 =>
 pq prog S (loadAt 122 v20) fun v21 =>
 pFn prog 84 [v21] w fun v22 w => S w ∧ (
 pq prog S (Instr.build 124 #[(0,v13),(1,v17),(2,v22)]) fun v23 =>
 px prog (Instr.box 124 v23) w fun v24 w => S w ∧ (
 pu prog (Instr.mapUpdate 127 v8 t0 v24) w fun w => (
 F83A k [1,1] (put (put (put (put (put (put (put (put (put (put (put (put (put (put (put (put (put (put (put (put (put (put (argEnv [t0,a1]) 3 (.pointer none)) 4 v4) 5 t0) 6 v6) 7 v7) 8 v8) 9 t0) 10 t0) 11 v11) 12 v12) 13 v13) 14 t0) 15 v15) 16 v16) 17 v17) 18 t0) 19 v19) 20 v20) 21 v21) 22 v22) 23 v23) 24 v24) w)))) w.drew)
 (
 F83A k [1,1] (put (put (put (put (put (argEnv [t0,a1]) 3 (.pointer none)) 4 v4) 5 t0) 6 v6) 7 v7) w)
theorem F83_0_eq (t0:Value) (a1:Value) (w:World) (k:KV) : F83A k [] (argEnv [t0,a1]) w = F83_0 t0 a1 w k := by kernel_rfl
def F83_1 (k:KV) (ρ:Env) (w:World) : Prop :=
 px prog (loadAt 127 (ρ 1)) w fun v25 w =>
 px prog (Instr.lookup 127 v25 (ρ 0) false) w fun v27 w =>
 k v27 w
theorem F83_1_eq (k:KV) (ρ:Env) (w:World) : F83A k [1,1] ρ w = F83_1 k ρ w := by kernel_rfl
theorem F83_in (t0:Value) (a1:Value) (w:World) (k:KV) (h:F83_0 t0 a1 w k) : pFn prog 83 [t0,a1] w k :=
 pFn_of_at mixed func83 (by kernel_rfl) (by kernel_rfl) ntmps83 (by kernel_rfl) (by kernel_rfl) (by simp) ((F83_0_eq t0 a1 w k).mpr h)
noncomputable def F91B : Code := bodyOf f91
def F91A (k:KV) (q:List Nat) (ρ:Env) (w:World) : Prop := At prog 8 F91B (retQ prog f91.results.toList k) q ρ w
def F91_0 (n0:Value) (a1:Value) (w:World) (k:KV) : Prop :=
 px prog (loadAt 9 a1) w fun v5 w =>
 pFn prog 92 [n0,v5] w fun v6 w =>
 px prog (Op.unary .not v6) w fun v7 w =>
 k v7 w
theorem F91_0_eq (n0:Value) (a1:Value) (w:World) (k:KV) : F91A k [] (argEnv [n0,a1]) w = F91_0 n0 a1 w k := by kernel_rfl
theorem F91_in (n0:Value) (a1:Value) (w:World) (k:KV) (h:F91_0 n0 a1 w k) : pFn prog 91 [n0,a1] w k :=
 pFn_of_at mixed func91 (by kernel_rfl) (by kernel_rfl) ntmps91 (by kernel_rfl) (by kernel_rfl) (by simp) ((F91_0_eq n0 a1 w k).mpr h)
noncomputable def F103B : Code := bodyOf f103
def F103A (k:KV) (q:List Nat) (ρ:Env) (w:World) : Prop := At prog 12 F103B (retQ prog f103.results.toList k) q ρ w
def F103_0 (a0:Value) (w:World) (k:KV) : Prop :=
 ∃ S : World → Prop,S w.drew ∧ (fun w =>
 pq prog S (loadAt 29 a0) fun v1 =>
 pq prog S (loadAt 29 a0) fun v2 =>
 pq prog S (loadAt 29 a0) fun v3 =>
 pq prog S (nilSem v3) fun v4 =>
 pq prog S (fieldAt 58 v4 1) fun v5 =>
 pq prog S (loadAt 54 v5) fun v6 =>
 pFn prog 104 [v6] w fun v7 w => S w ∧ (
 pq prog S (nilSem v1) fun v8 =>
 pq prog S (fieldAt 58 v8 2) fun v9 =>
 pu prog (storeAt 54 v9 v7) w fun w => S w ∧ (
 pq prog S (nilSem v2) fun v10 =>
 pq prog S (fieldAt 58 v10 3) fun v11 =>
 pu prog (storeAt 55 v11 (.slice none 0 0)) w fun w => (
 k (.tuple #[]) w)))) w.drew
theorem F103_0_eq (a0:Value) (w:World) (k:KV) : F103A k [] (argEnv [a0]) w = F103_0 a0 w k := by kernel_rfl
theorem F103_in (a0:Value) (w:World) (k:KV) (h:F103_0 a0 w k) : pFn prog 103 [a0] w k :=
 pFn_of_at mixed func103 (by kernel_rfl) (by kernel_rfl) ntmps103 (by kernel_rfl) (by kernel_rfl) (by simp) ((F103_0_eq a0 w k).mpr h)
noncomputable def F105B : Code := bodyOf f105
def F105A (k:KV) (q:List Nat) (ρ:Env) (w:World) : Prop := At prog 12 F105B (retQ prog f105.results.toList k) q ρ w
def F105_0 (a0:Value) (a1:Value) (a2:Value) (w:World) (k:KV) : Prop :=
 px prog (loadAt 9 a0) w fun v3 w =>
 px prog (loadAt 9 a1) w fun v4 w =>
 px prog (binSem .neq 9 (.tmp 3) (.tmp 4) v3 v4) w fun v5 w =>
 pC v5 (
 px prog (loadAt 29 a2) w fun v6 w =>
 px prog (loadAt 9 a0) w fun v7 w =>
 px prog (loadAt 9 a1) w fun v8 w =>
 px prog (Instr.build 172 #[(0,v7),(1,v8)]) w fun v9 w =>
 px prog (Instr.makeInterface 172 v9) w fun v10 w =>
 pFn prog 81 [v6,v10] w fun v11 w =>
 k (.tuple #[]) w)
 (
 k (.tuple #[]) w)
theorem F105_0_eq (a0:Value) (a1:Value) (a2:Value) (w:World) (k:KV) : F105A k [] (argEnv [a0,a1,a2]) w = F105_0 a0 a1 a2 w k := by kernel_rfl
theorem F105_in (a0:Value) (a1:Value) (a2:Value) (w:World) (k:KV) (h:F105_0 a0 a1 a2 w k) : pFn prog 105 [a0,a1,a2] w k :=
 pFn_of_at mixed func105 (by kernel_rfl) (by kernel_rfl) ntmps105 (by kernel_rfl) (by kernel_rfl) (by simp) ((F105_0_eq a0 a1 a2 w k).mpr h)
noncomputable def F106B : Code := bodyOf f106
def F106A (k:KV) (q:List Nat) (ρ:Env) (w:World) : Prop := At prog 16 F106B (retQ prog f106.results.toList k) q ρ w
def F106_0 (most0:Value) (a1:Value) (w:World) (k:KV) : Prop :=
 px prog (loadAt 39 a1) w fun v5 w =>
 px prog (bSem .len #[39] 3 #[v5]) w fun v6 w =>
 px prog (binSem .eql 3 (.tmp 6) (.const (.int .i64 0)) v6 (.int .i64 0)) w fun v7 w =>
 pC v7 (
 k (.int .i64 0) w)
 (
 px prog (loadAt 39 a1) w fun v8 w =>
 px prog (indexAt 39 v8 (.int .i64 0)) w fun v9 w =>
 px prog (loadAt 3 v9) w fun v10 w =>
 px prog (loadAt 39 a1) w fun v11 w =>
 px prog (sliceAt 39 v11 (some (.int .i64 1)) none none) w fun v12 w =>
 pu prog (storeAt 39 a1 v12) w fun w =>
 pFn prog 107 [v10,most0] w fun v15 w =>
 k v15 w)
theorem F106_0_eq (most0:Value) (a1:Value) (w:World) (k:KV) : F106A k [] (argEnv [most0,a1]) w = F106_0 most0 a1 w k := by kernel_rfl
theorem F106_in (most0:Value) (a1:Value) (w:World) (k:KV) (h:F106_0 most0 a1 w k) : pFn prog 106 [most0,a1] w k :=
 pFn_of_at mixed func106 (by kernel_rfl) (by kernel_rfl) ntmps106 (by kernel_rfl) (by kernel_rfl) (by simp) ((F106_0_eq most0 a1 w k).mpr h)
noncomputable def F110B : Code := bodyOf f110
def F110A (k:KV) (q:List Nat) (ρ:Env) (w:World) : Prop := At prog 6 F110B (retQ prog f110.results.toList k) q ρ w
def F110_0 (a0:Value) (a1:Value) (w:World) (k:KV) : Prop :=
 px prog (loadAt 29 a0) w fun v2 w =>
 px prog (loadAt 9 a1) w fun v3 w =>
 px prog (Instr.makeInterface 177 v3) w fun v4 w =>
 pFn prog 81 [v2,v4] w fun v5 w =>
 k (.tuple #[]) w
theorem F110_0_eq (a0:Value) (a1:Value) (w:World) (k:KV) : F110A k [] (argEnv [a0,a1]) w = F110_0 a0 a1 w k := by kernel_rfl
theorem F110_in (a0:Value) (a1:Value) (w:World) (k:KV) (h:F110_0 a0 a1 w k) : pFn prog 110 [a0,a1] w k :=
 pFn_of_at mixed func110 (by kernel_rfl) (by kernel_rfl) ntmps110 (by kernel_rfl) (by kernel_rfl) (by simp) ((F110_0_eq a0 a1 w k).mpr h)
noncomputable def F114B : Code := bodyOf f114
def F114A (k:KV) (q:List Nat) (ρ:Env) (w:World) : Prop := At prog 10 F114B (retQ prog f114.results.toList k) q ρ w
def F114_0 (a0:Value) (a1:Value) (a2:Value) (w:World) (k:KV) : Prop :=
 ∃ S : World → Prop,S w.drew ∧ (fun w =>
 pq prog S (loadAt 117 a0) fun v3 =>
 pq prog S (loadAt 3 a1) fun v4 =>
 pq prog S (loadAt 36 a2) fun v5 =>
 pFn prog 89 [v5] w fun v6 w => S w ∧ (
 pq prog S (Instr.build 184 #[(0,v4),(1,v6)]) fun v7 =>
 pq prog S (Instr.makeInterface 184 v7) fun v8 =>
 pFn prog 115 [v3,v8] w fun v9 w => (
 k (.tuple #[]) w))) w.drew
theorem F114_0_eq (a0:Value) (a1:Value) (a2:Value) (w:World) (k:KV) : F114A k [] (argEnv [a0,a1,a2]) w = F114_0 a0 a1 a2 w k := by kernel_rfl
theorem F114_in (a0:Value) (a1:Value) (a2:Value) (w:World) (k:KV) (h:F114_0 a0 a1 a2 w k) : pFn prog 114 [a0,a1,a2] w k :=
 pFn_of_at mixed func114 (by kernel_rfl) (by kernel_rfl) ntmps114 (by kernel_rfl) (by kernel_rfl) (by simp) ((F114_0_eq a0 a1 a2 w k).mpr h)
noncomputable def F118B : Code := bodyOf f118
def F118A (k:KV) (q:List Nat) (ρ:Env) (w:World) : Prop := At prog 6 F118B (retQ prog f118.results.toList k) q ρ w
def F118_0 (a0:Value) (a1:Value) (w:World) (k:KV) : Prop :=
 px prog (loadAt 117 a0) w fun v2 w =>
 px prog (loadAt 3 a1) w fun v3 w =>
 px prog (Instr.makeInterface 189 v3) w fun v4 w =>
 pFn prog 115 [v2,v4] w fun v5 w =>
 k (.tuple #[]) w
theorem F118_0_eq (a0:Value) (a1:Value) (w:World) (k:KV) : F118A k [] (argEnv [a0,a1]) w = F118_0 a0 a1 w k := by kernel_rfl
theorem F118_in (a0:Value) (a1:Value) (w:World) (k:KV) (h:F118_0 a0 a1 w k) : pFn prog 118 [a0,a1] w k :=
 pFn_of_at mixed func118 (by kernel_rfl) (by kernel_rfl) ntmps118 (by kernel_rfl) (by kernel_rfl) (by simp) ((F118_0_eq a0 a1 w k).mpr h)
noncomputable def F102B : Code := bodyOf f102
def F102A (k:KV) (q:List Nat) (ρ:Env) (w:World) : Prop := At prog 12 F102B (retQ prog f102.results.toList k) q ρ w
def F102_0 (t0:Value) (w:World) (k:KV) : Prop :=
 px prog (nilSem t0) w fun v5 w =>
 px prog (fieldAt 124 v5 1) w fun v6 w =>
 px prog (loadAt 36 v6) w fun v7 w =>
 px prog (nilSem t0) w fun v8 w =>
 px prog (fieldAt 124 v8 0) w fun v9 w =>
 pu prog (storeAt 36 v9 v7) w fun w =>
 px prog (nilSem t0) w fun v10 w =>
 px prog (fieldAt 124 v10 2) w fun v11 w =>
 pu prog (storeAt 122 v11 (.slice none 0 0)) w fun w =>
 k (.tuple #[]) w
theorem F102_0_eq (t0:Value) (w:World) (k:KV) : F102A k [] (argEnv [t0]) w = F102_0 t0 w k := by kernel_rfl
theorem F102_in (t0:Value) (w:World) (k:KV) (h:F102_0 t0 w k) : pFn prog 102 [t0] w k :=
 pFn_of_at mixed func102 (by kernel_rfl) (by kernel_rfl) ntmps102 (by kernel_rfl) (by kernel_rfl) (by simp) ((F102_0_eq t0 w k).mpr h)
noncomputable def F108B : Code := bodyOf f108
def F108A (k:KV) (q:List Nat) (ρ:Env) (w:World) : Prop := At prog 36 F108B (retQ prog f108.results.toList k) q ρ w
noncomputable def F108B1 : Code := sub F108B [1,1,0,1,0,0]
def F108Q1 (k:KV) (N1:KE) : Xt → KE := thenE N1 (contAt prog 36 F108B (retQ prog f108.results.toList k) [1,1,0,1,0])
def F108A1 (k:KV) (N1:KE) (q:List Nat) (ρ:Env) (w:World) : Prop := At prog 36 F108B1 (F108Q1 k N1) q ρ w
def F108L1 (k:KV) (ρ:Env) (w:World) : Prop := LoopAt prog 36 F108B (retQ prog f108.results.toList k) [1,1,0,1,0] ρ w
theorem F108L1_inv (k:KV) (I:Nat → KE) (round:∀ m ρ w,I m ρ w → F108A1 k (fun ρ' w' => ∃ m',m' < m ∧ I m' ρ' w') [] ρ w) {m:Nat} {ρ:Env} {w:World} (h:I m ρ w) : F108L1 k ρ w :=
 LoopAt_inv mixed (B := F108B) (Q := (retQ prog f108.results.toList k)) (p := [1,1,0,1,0]) (by kernel_rfl) (by kernel_rfl) I round h
def F108_0 (t0:Value) (units1:Value) (w:World) (k:KV) : Prop :=
 px prog (nilSem t0) w fun v10 w =>
 px prog (fieldAt 124 v10 0) w fun v11 w =>
 px prog (loadAt 36 v11) w fun v12 w =>
 px prog (nilSem t0) w fun v14 w =>
 px prog (fieldAt 124 v14 2) w fun v15 w =>
 px prog (loadAt 122 v15) w fun v16 w =>
 px prog (bSem .len #[122] 3 #[v16]) w fun v17 w =>
 F108L1 k (put (put (put (put (put (put (put (put (put (put (put (put (argEnv [t0,units1]) 4 (.slice none 0 0)) 9 t0) 10 v10) 11 v11) 12 v12) 5 v12) 13 t0) 14 v14) 15 v15) 16 v16) 17 v17) 18 (.int .i64 0)) w
theorem F108_0_eq (t0:Value) (units1:Value) (w:World) (k:KV) : F108A k [] (argEnv [t0,units1]) w = F108_0 t0 units1 w k := by kernel_rfl
def F108_1 (k:KV) (N1:KE) (ρ:Env) (w:World) : Prop :=
 px prog (binSem .lss 3 (.tmp 18) (.tmp 17) (ρ 18) (ρ 17)) w fun v19 w =>
 pC v19 (
 px prog (indexAt 122 (ρ 16) (ρ 18)) w fun v20 w =>
 px prog (loadAt 130 v20) w fun v21 w =>
 pInv prog v21 "freight/disk.units" [] w fun v24 w =>
 px prog (bSem .min #[3,3] 3 #[(ρ 1),v24]) w fun v25 w =>
 pInv prog v21 "freight/disk.made" [(ρ 5), v25] w fun v29 w =>
 px prog (binSem .sub 3 (.tmp 30) (.tmp 31) (ρ 1) v25) w fun v32 w =>
 px prog (binSem .add 3 (.tmp 18) (.const (.int .i64 1)) (ρ 18) (.int .i64 1)) w fun v33 w =>
 N1 (put (put (put (put (put (put (put (put (put (put (put (put (put (put (put (put (put (put (put (put ρ 19 v19) 20 v20) 21 v21) 7 v21) 22 (ρ 1)) 23 v21) 24 v24) 25 v25) 8 v25) 26 v21) 27 (ρ 5)) 28 v25) 29 v29) 5 v29) 30 (ρ 1)) 31 v25) 32 v32) 1 v32) 33 v33) 18 v33) w)
 (
 F108A k [1,1,1] (put ρ 19 v19) w)
theorem F108_1_eq (k:KV) (N1:KE) (ρ:Env) (w:World) : F108A1 k N1 [] ρ w = F108_1 k N1 ρ w := by kernel_rfl
def F108_2 (k:KV) (ρ:Env) (w:World) : Prop :=
 pFn prog 89 [(ρ 5)] w fun v35 w =>
 k v35 w
theorem F108_2_eq (k:KV) (ρ:Env) (w:World) : F108A k [1,1,1] ρ w = F108_2 k ρ w := by kernel_rfl
theorem F108_in (t0:Value) (units1:Value) (w:World) (k:KV) (h:F108_0 t0 units1 w k) : pFn prog 108 [t0,units1] w k :=
 pFn_of_at mixed func108 (by kernel_rfl) (by kernel_rfl) ntmps108 (by kernel_rfl) (by kernel_rfl) (by simp) ((F108_0_eq t0 units1 w k).mpr h)
noncomputable def F109B : Code := bodyOf f109
def F109A (k:KV) (q:List Nat) (ρ:Env) (w:World) : Prop := At prog 21 F109B (retQ prog f109.results.toList k) q ρ w
noncomputable def F109B1 : Code := sub F109B [1,1,0,1,0,0]
def F109Q1 (k:KV) (N1:KE) : Xt → KE := thenE N1 (contAt prog 21 F109B (retQ prog f109.results.toList k) [1,1,0,1,0])
def F109A1 (k:KV) (N1:KE) (q:List Nat) (ρ:Env) (w:World) : Prop := At prog 21 F109B1 (F109Q1 k N1) q ρ w
def F109L1 (k:KV) (ρ:Env) (w:World) : Prop := LoopAt prog 21 F109B (retQ prog f109.results.toList k) [1,1,0,1,0] ρ w
theorem F109L1_inv (k:KV) (I:Nat → KE) (round:∀ m ρ w,I m ρ w → F109A1 k (fun ρ' w' => ∃ m',m' < m ∧ I m' ρ' w') [] ρ w) {m:Nat} {ρ:Env} {w:World} (h:I m ρ w) : F109L1 k ρ w :=
 LoopAt_inv mixed (B := F109B) (Q := (retQ prog f109.results.toList k)) (p := [1,1,0,1,0]) (by kernel_rfl) (by kernel_rfl) I round h
def F109_0 (t0:Value) (w:World) (k:KV) : Prop :=
 px prog (nilSem t0) w fun v7 w =>
 px prog (fieldAt 124 v7 2) w fun v8 w =>
 px prog (loadAt 122 v8) w fun v9 w =>
 px prog (bSem .len #[122] 3 #[v9]) w fun v10 w =>
 F109L1 k (put (put (put (put (put (put (put (put (argEnv [t0]) 2 (.int .i64 0)) 3 (.int .i64 0)) 6 t0) 7 v7) 8 v8) 9 v9) 10 v10) 11 (.int .i64 0)) w
theorem F109_0_eq (t0:Value) (w:World) (k:KV) : F109A k [] (argEnv [t0]) w = F109_0 t0 w k := by kernel_rfl
def F109_1 (k:KV) (N1:KE) (ρ:Env) (w:World) : Prop :=
 px prog (binSem .lss 3 (.tmp 11) (.tmp 10) (ρ 11) (ρ 10)) w fun v12 w =>
 pC v12 (
 px prog (indexAt 122 (ρ 9) (ρ 11)) w fun v13 w =>
 px prog (loadAt 130 v13) w fun v14 w =>
 pInv prog v14 "freight/disk.units" [] w fun v17 w =>
 px prog (binSem .add 3 (.tmp 15) (.tmp 17) (ρ 3) v17) w fun v18 w =>
 px prog (binSem .add 3 (.tmp 11) (.const (.int .i64 1)) (ρ 11) (.int .i64 1)) w fun v19 w =>
 N1 (put (put (put (put (put (put (put (put (put (put (put ρ 12 v12) 13 v13) 14 v14) 5 v14) 15 (ρ 3)) 16 v14) 17 v17) 18 v18) 3 v18) 19 v19) 11 v19) w)
 (
 F109A k [1,1,1] (put ρ 12 v12) w)
theorem F109_1_eq (k:KV) (N1:KE) (ρ:Env) (w:World) : F109A1 k N1 [] ρ w = F109_1 k N1 ρ w := by kernel_rfl
def F109_2 (k:KV) (ρ:Env) (w:World) : Prop :=
 k (ρ 3) w
theorem F109_2_eq (k:KV) (ρ:Env) (w:World) : F109A k [1,1,1] ρ w = F109_2 k ρ w := by kernel_rfl
theorem F109_in (t0:Value) (w:World) (k:KV) (h:F109_0 t0 w k) : pFn prog 109 [t0] w k :=
 pFn_of_at mixed func109 (by kernel_rfl) (by kernel_rfl) ntmps109 (by kernel_rfl) (by kernel_rfl) (by simp) ((F109_0_eq t0 w k).mpr h)
noncomputable def F115B : Code := bodyOf f115
def F115A (k:KV) (q:List Nat) (ρ:Env) (w:World) : Prop := At prog 28 F115B (retQ prog f115.results.toList k) q ρ w
def F115_0 (t0:Value) (c1:Value) (w:World) (k:KV) : Prop :=
 px prog (nilSem t0) w fun v6 w =>
 px prog (fieldAt 124 v6 2) w fun v7 w =>
 px prog (loadAt 122 v7) w fun v8 w =>
 px prog (Instr.buildSlice 122 1 #[(0,c1)]) w fun v10 w =>
 px prog (bSem .append #[122,122] 122 #[v8,v10]) w fun v11 w =>
 px prog (nilSem t0) w fun v12 w =>
 px prog (fieldAt 124 v12 2) w fun v13 w =>
 pu prog (storeAt 122 v13 v11) w fun w =>
 ∃ S : World → Prop,S w.drew ∧ (fun w =>
 pq prog S (nilSem t0) fun v17 =>
 pq prog S (fieldAt 124 v17 1) fun v18 =>
 pq prog S (loadAt 36 v18) fun v19 =>
 pq prog S (Instr.makeFunc (Fn.method "freight/disk.made") #[c1] #[]) fun v22 =>
 pq prog S (nilSem v22) fun v23 =>
 pInv prog c1 "freight/disk.units" [] w fun v21 w => S w ∧ (
 pInv prog c1 "freight/disk.made" [v19, v21] w fun v25 w => S w ∧ (
 pq prog S (nilSem t0) fun v26 =>
 pq prog S (fieldAt 124 v26 1) fun v27 =>
 pu prog (storeAt 36 v27 v25) w fun w => (
 k (.tuple #[]) w)))) w.drew
theorem F115_0_eq (t0:Value) (c1:Value) (w:World) (k:KV) : F115A k [] (argEnv [t0,c1]) w = F115_0 t0 c1 w k := by kernel_rfl
theorem F115_in (t0:Value) (c1:Value) (w:World) (k:KV) (h:F115_0 t0 c1 w k) : pFn prog 115 [t0,c1] w k :=
 pFn_of_at mixed func115 (by kernel_rfl) (by kernel_rfl) ntmps115 (by kernel_rfl) (by kernel_rfl) (by simp) ((F115_0_eq t0 c1 w k).mpr h)
noncomputable def F88B : Code := bodyOf f88
def F88A (k:KV) (q:List Nat) (ρ:Env) (w:World) : Prop := At prog 6 F88B (retQ prog f88.results.toList k) q ρ w
def F88_0 (n0:Value) (w:World) (k:KV) : Prop :=
 pFn prog 128 [n0] w fun v4 w =>
 pFn prog 127 [v4] w fun v5 w =>
 k v5 w
theorem F88_0_eq (n0:Value) (w:World) (k:KV) : F88A k [] (argEnv [n0]) w = F88_0 n0 w k := by kernel_rfl
theorem F88_in (n0:Value) (w:World) (k:KV) (h:F88_0 n0 w k) : pFn prog 88 [n0] w k :=
 pFn_of_at mixed func88 (by kernel_rfl) (by kernel_rfl) ntmps88 (by kernel_rfl) (by kernel_rfl) (by simp) ((F88_0_eq n0 w k).mpr h)
noncomputable def F97B : Code := bodyOf f97
def F97A (k:KV) (q:List Nat) (ρ:Env) (w:World) : Prop := At prog 7 F97B (retQ prog f97.results.toList k) q ρ w
def F97_0 (f0:Value) (w:World) (k:KV) : Prop :=
 px prog (Instr.box 83 f0) w fun v1 w =>
 px prog (fieldAt 83 v1 0) w fun v3 w =>
 px prog (loadAt 9 v3) w fun v4 w =>
 pFn prog 98 [v4] w fun v5 w =>
 px prog (Op.unary .not v5) w fun v6 w =>
 k v6 w
theorem F97_0_eq (f0:Value) (w:World) (k:KV) : F97A k [] (argEnv [f0]) w = F97_0 f0 w k := by kernel_rfl
theorem F97_in (f0:Value) (w:World) (k:KV) (h:F97_0 f0 w k) : pFn prog 97 [f0] w k :=
 pFn_of_at mixed func97 (by kernel_rfl) (by kernel_rfl) ntmps97 (by kernel_rfl) (by kernel_rfl) (by simp) ((F97_0_eq f0 w k).mpr h)
noncomputable def F98B : Code := bodyOf f98
def F98A (k:KV) (q:List Nat) (ρ:Env) (w:World) : Prop := At prog 40 F98B (retQ prog f98.results.toList k) q ρ w
noncomputable def F98B1 : Code := sub F98B [1,0,1,0,0]
def F98Q1 (k:KV) (N1:KE) : Xt → KE := thenE N1 (contAt prog 40 F98B (retQ prog f98.results.toList k) [1,0,1,0])
def F98A1 (k:KV) (N1:KE) (q:List Nat) (ρ:Env) (w:World) : Prop := At prog 40 F98B1 (F98Q1 k N1) q ρ w
def F98L1 (k:KV) (ρ:Env) (w:World) : Prop := LoopAt prog 40 F98B (retQ prog f98.results.toList k) [1,0,1,0] ρ w
theorem F98L1_inv (k:KV) (I:Nat → KE) (round:∀ m ρ w,I m ρ w → F98A1 k (fun ρ' w' => ∃ m',m' < m ∧ I m' ρ' w') [] ρ w) {m:Nat} {ρ:Env} {w:World} (h:I m ρ w) : F98L1 k ρ w :=
 LoopAt_inv mixed (B := F98B) (Q := (retQ prog f98.results.toList k)) (p := [1,0,1,0]) (by kernel_rfl) (by kernel_rfl) I round h
def F98_0 (s0:Value) (w:World) (k:KV) : Prop :=
 px prog (bSem .len #[9] 3 #[s0]) w fun v6 w =>
 F98L1 k (put (put (put (put (argEnv [s0]) 2 (.bool false)) 5 s0) 6 v6) 7 (.int .i64 0)) w
theorem F98_0_eq (s0:Value) (w:World) (k:KV) : F98A k [] (argEnv [s0]) w = F98_0 s0 w k := by kernel_rfl
def F98_1 (k:KV) (N1:KE) (ρ:Env) (w:World) : Prop :=
 px prog (binSem .lss 3 (.tmp 7) (.tmp 6) (ρ 7) (ρ 6)) w fun v8 w =>
 pC v8 (
 px prog (Instr.index 9 (ρ 0) (ρ 7)) w fun v12 w =>
 px prog (binSem .lss 5 (.tmp 13) (.const (.int .u8 97)) v12 (.int .u8 97)) w fun v14 w =>
 pG v14 false (fun k => k v12 w) (w := w) (next := fun v16 w =>
 pG v14 false (fun k => px prog (binSem .gtr 5 (.tmp 16) (.const (.int .u8 122)) v16 (.int .u8 122)) w k) (w := w) (next := fun v17 w =>
 px prog (pickSem v14 (.bool true) v17) w fun v18 w =>
 pG v18 true (fun k => k v12 w) (w := w) (next := fun v20 w =>
 pG v18 true (fun k => px prog (binSem .lss 5 (.tmp 20) (.const (.int .u8 48)) v20 (.int .u8 48)) w k) (w := w) (next := fun v21 w =>
 pG v18 true (fun k => k v21 w) (w := w) (next := fun v22 w =>
 pG v22 false (fun k => k v12 w) (w := w) (next := fun v23 w =>
 pG v22 false (fun k => px prog (binSem .gtr 5 (.tmp 23) (.const (.int .u8 57)) v23 (.int .u8 57)) w k) (w := w) (next := fun v24 w =>
 pG v18 true (fun k => px prog (pickSem v22 (.bool true) v24) w k) (w := w) (next := fun v25 w =>
 px prog (pickSem v18 v25 (.bool false)) w fun v26 w =>
 pG v26 true (fun k => k v12 w) (w := w) (next := fun v28 w =>
 pG v26 true (fun k => pFn prog 132 [(.string (ByteArray.mk #[46,45,95,43])),v28] w k) (w := w) (next := fun v29 w =>
 pG v26 true (fun k => px prog (binSem .lss 3 (.tmp 29) (.const (.int .i64 0)) v29 (.int .i64 0)) w k) (w := w) (next := fun v30 w =>
 px prog (pickSem v26 v30 (.bool false)) w fun v31 w =>
 pC v31 (
 k (.bool false) w)
 (
 px prog (binSem .add 3 (.tmp 7) (.const (.int .i64 1)) (ρ 7) (.int .i64 1)) w fun v32 w =>
 N1 (put (put (put (put (put (put (put (put (put (put (put (put (put (put (put (put (put (put (put (put (put (put (put (put (put (put (put (put ρ 8 v8) 9 (ρ 7)) 3 (ρ 7)) 10 (ρ 0)) 11 (ρ 7)) 12 v12) 4 v12) 13 v12) 14 v14) 15 v14) 16 v16) 17 v17) 18 v18) 19 v18) 20 v20) 21 v21) 22 v22) 23 v23) 24 v24) 25 v25) 26 v26) 27 v26) 28 v28) 29 v29) 30 v30) 31 v31) 32 v32) 7 v32) w)))))))))))))
 (
 F98A k [1,1] (put ρ 8 v8) w)
theorem F98_1_eq (k:KV) (N1:KE) (ρ:Env) (w:World) : F98A1 k N1 [] ρ w = F98_1 k N1 ρ w := by kernel_rfl
def F98_2 (k:KV) (ρ:Env) (w:World) : Prop :=
 px prog (binSem .neq 9 (.tmp 33) (.const (.string (ByteArray.mk #[]))) (ρ 0) (.string (ByteArray.mk #[]))) w fun v34 w =>
 pG v34 true (fun k => k (ρ 0) w) (w := w) (next := fun v36 w =>
 pG v34 true (fun k => px prog (bSem .len #[9] 3 #[v36]) w k) (w := w) (next := fun v37 w =>
 pG v34 true (fun k => px prog (binSem .leq 3 (.tmp 37) (.const (.int .i64 112)) v37 (.int .i64 112)) w k) (w := w) (next := fun v38 w =>
 px prog (pickSem v34 v38 (.bool false)) w fun v39 w =>
 k v39 w)))
theorem F98_2_eq (k:KV) (ρ:Env) (w:World) : F98A k [1,1] ρ w = F98_2 k ρ w := by kernel_rfl
theorem F98_in (s0:Value) (w:World) (k:KV) (h:F98_0 s0 w k) : pFn prog 98 [s0] w k :=
 pFn_of_at mixed func98 (by kernel_rfl) (by kernel_rfl) ntmps98 (by kernel_rfl) (by kernel_rfl) (by simp) ((F98_0_eq s0 w k).mpr h)
noncomputable def F107B : Code := bodyOf f107
def F107A (k:KV) (q:List Nat) (ρ:Env) (w:World) : Prop := At prog 17 F107B (retQ prog f107.results.toList k) q ρ w
def F107_0 (pick0:Value) (most1:Value) (w:World) (k:KV) : Prop :=
 px prog (binSem .add 3 (.tmp 7) (.const (.int .i64 1)) most1 (.int .i64 1)) w fun v8 w =>
 px prog (binSem .rem 3 (.tmp 6) (.tmp 8) pick0 v8) w fun v9 w =>
 px prog (binSem .lss 3 (.tmp 10) (.const (.int .i64 0)) v9 (.int .i64 0)) w fun v11 w =>
 pC v11 (
 px prog (binSem .add 3 (.tmp 13) (.const (.int .i64 1)) most1 (.int .i64 1)) w fun v14 w =>
 px prog (binSem .add 3 (.tmp 12) (.tmp 14) v9 v14) w fun v15 w =>
 F107A k [1,1,1] (put (put (put (put (put (put (put (put (put (put (put (put (put (argEnv [pick0,most1]) 4 (.int .i64 0)) 6 pick0) 7 most1) 8 v8) 9 v9) 5 v9) 10 v9) 11 v11) 12 v9) 13 most1) 14 v14) 15 v15) 5 v15) w)
 (
 F107A k [1,1,1] (put (put (put (put (put (put (put (put (argEnv [pick0,most1]) 4 (.int .i64 0)) 6 pick0) 7 most1) 8 v8) 9 v9) 5 v9) 10 v9) 11 v11) w)
theorem F107_0_eq (pick0:Value) (most1:Value) (w:World) (k:KV) : F107A k [] (argEnv [pick0,most1]) w = F107_0 pick0 most1 w k := by kernel_rfl
def F107_1 (k:KV) (ρ:Env) (w:World) : Prop :=
 k (ρ 5) w
theorem F107_1_eq (k:KV) (ρ:Env) (w:World) : F107A k [1,1,1] ρ w = F107_1 k ρ w := by kernel_rfl
theorem F107_in (pick0:Value) (most1:Value) (w:World) (k:KV) (h:F107_0 pick0 most1 w k) : pFn prog 107 [pick0,most1] w k :=
 pFn_of_at mixed func107 (by kernel_rfl) (by kernel_rfl) ntmps107 (by kernel_rfl) (by kernel_rfl) (by simp) ((F107_0_eq pick0 most1 w k).mpr h)
noncomputable def F179B : Code := bodyOf f179
def F179A (k:KV) (q:List Nat) (ρ:Env) (w:World) : Prop := At prog 9 F179B (retQ prog f179.results.toList k) q ρ w
def F179_0 (m0:Value) (n1:Value) (w:World) (k:KV) : Prop :=
 px prog (Instr.box 126 m0) w fun v2 w =>
 px prog (fieldAt 126 v2 0) w fun v5 w =>
 px prog (loadAt 9 v5) w fun v6 w =>
 px prog (fieldAt 126 v2 1) w fun v7 w =>
 px prog (loadAt 117 v7) w fun v8 w =>
 pu prog (Instr.mapUpdate 54 n1 v6 v8) w fun w =>
 k (.tuple #[]) w
theorem F179_0_eq (m0:Value) (n1:Value) (w:World) (k:KV) : F179A k [] (argEnv [m0,n1]) w = F179_0 m0 n1 w k := by kernel_rfl
theorem F179_in (m0:Value) (n1:Value) (w:World) (k:KV) (h:F179_0 m0 n1 w k) : pFn prog 179 [m0,n1] w k :=
 pFn_of_at mixed func179 (by kernel_rfl) (by kernel_rfl) ntmps179 (by kernel_rfl) (by kernel_rfl) (by simp) ((F179_0_eq m0 n1 w k).mpr h)
noncomputable def F180B : Code := bodyOf f180
def F180A (k:KV) (q:List Nat) (ρ:Env) (w:World) : Prop := At prog 13 F180B (retQ prog f180.results.toList k) q ρ w
def F180_0 (m0:Value) (of1:Value) (w:World) (k:KV) : Prop :=
 px prog (Instr.box 126 m0) w fun v2 w =>
 px prog (fieldAt 126 v2 0) w fun v5 w =>
 px prog (loadAt 9 v5) w fun v6 w =>
 px prog (fieldAt 126 v2 1) w fun v8 w =>
 px prog (loadAt 117 v8) w fun v9 w =>
 px prog (Instr.lookup 127 of1 v9 false) w fun v10 w =>
 px prog (Instr.build 126 #[(0,v6),(1,v10)]) w fun v11 w =>
 px prog (Instr.makeInterface 126 v11) w fun v12 w =>
 k v12 w
theorem F180_0_eq (m0:Value) (of1:Value) (w:World) (k:KV) : F180A k [] (argEnv [m0,of1]) w = F180_0 m0 of1 w k := by kernel_rfl
theorem F180_in (m0:Value) (of1:Value) (w:World) (k:KV) (h:F180_0 m0 of1 w k) : pFn prog 180 [m0,of1] w k :=
 pFn_of_at mixed func180 (by kernel_rfl) (by kernel_rfl) ntmps180 (by kernel_rfl) (by kernel_rfl) (by simp) ((F180_0_eq m0 of1 w k).mpr h)
noncomputable def F181B : Code := bodyOf f181
def F181A (k:KV) (q:List Nat) (ρ:Env) (w:World) : Prop := At prog 16 F181B (retQ prog f181.results.toList k) q ρ w
def F181_0 (g0:Value) (n1:Value) (w:World) (k:KV) : Prop :=
 px prog (Instr.box 172 g0) w fun v2 w =>
 px prog (fieldAt 172 v2 0) w fun v6 w =>
 px prog (loadAt 9 v6) w fun v7 w =>
 px prog (Instr.lookup 54 n1 v7 false) w fun v8 w =>
 px prog (fieldAt 172 v2 0) w fun v10 w =>
 px prog (loadAt 9 v10) w fun v11 w =>
 px prog (bSem .delete #[54,9] 0 #[n1,v11]) w fun _ w =>
 px prog (fieldAt 172 v2 1) w fun v13 w =>
 px prog (loadAt 9 v13) w fun v14 w =>
 pu prog (Instr.mapUpdate 54 n1 v14 v8) w fun w =>
 k (.tuple #[]) w
theorem F181_0_eq (g0:Value) (n1:Value) (w:World) (k:KV) : F181A k [] (argEnv [g0,n1]) w = F181_0 g0 n1 w k := by kernel_rfl
theorem F181_in (g0:Value) (n1:Value) (w:World) (k:KV) (h:F181_0 g0 n1 w k) : pFn prog 181 [g0,n1] w k :=
 pFn_of_at mixed func181 (by kernel_rfl) (by kernel_rfl) ntmps181 (by kernel_rfl) (by kernel_rfl) (by simp) ((F181_0_eq g0 n1 w k).mpr h)
noncomputable def F182B : Code := bodyOf f182
def F182A (k:KV) (q:List Nat) (ρ:Env) (w:World) : Prop := At prog 7 F182B (retQ prog f182.results.toList k) q ρ w
def F182_0 (g0:Value) (a1:Value) (w:World) (k:KV) : Prop :=
 px prog (Instr.box 172 g0) w fun v2 w =>
 px prog (loadAt 172 v2) w fun v5 w =>
 px prog (Instr.makeInterface 172 v5) w fun v6 w =>
 k v6 w
theorem F182_0_eq (g0:Value) (a1:Value) (w:World) (k:KV) : F182A k [] (argEnv [g0,a1]) w = F182_0 g0 a1 w k := by kernel_rfl
theorem F182_in (g0:Value) (a1:Value) (w:World) (k:KV) (h:F182_0 g0 a1 w k) : pFn prog 182 [g0,a1] w k :=
 pFn_of_at mixed func182 (by kernel_rfl) (by kernel_rfl) ntmps182 (by kernel_rfl) (by kernel_rfl) (by simp) ((F182_0_eq g0 a1 w k).mpr h)
noncomputable def F183B : Code := bodyOf f183
def F183A (k:KV) (q:List Nat) (ρ:Env) (w:World) : Prop := At prog 6 F183B (retQ prog f183.results.toList k) q ρ w
def F183_0 (t0:Value) (n1:Value) (w:World) (k:KV) : Prop :=
 px prog (bSem .delete #[54,9] 0 #[n1,t0]) w fun _ w =>
 k (.tuple #[]) w
theorem F183_0_eq (t0:Value) (n1:Value) (w:World) (k:KV) : F183A k [] (argEnv [t0,n1]) w = F183_0 t0 n1 w k := by kernel_rfl
theorem F183_in (t0:Value) (n1:Value) (w:World) (k:KV) (h:F183_0 t0 n1 w k) : pFn prog 183 [t0,n1] w k :=
 pFn_of_at mixed func183 (by kernel_rfl) (by kernel_rfl) ntmps183 (by kernel_rfl) (by kernel_rfl) (by simp) ((F183_0_eq t0 n1 w k).mpr h)
noncomputable def F184B : Code := bodyOf f184
def F184A (k:KV) (q:List Nat) (ρ:Env) (w:World) : Prop := At prog 7 F184B (retQ prog f184.results.toList k) q ρ w
def F184_0 (t0:Value) (a1:Value) (w:World) (k:KV) : Prop :=
 px prog (Instr.makeInterface 177 t0) w fun v6 w =>
 k v6 w
theorem F184_0_eq (t0:Value) (a1:Value) (w:World) (k:KV) : F184A k [] (argEnv [t0,a1]) w = F184_0 t0 a1 w k := by kernel_rfl
theorem F184_in (t0:Value) (a1:Value) (w:World) (k:KV) (h:F184_0 t0 a1 w k) : pFn prog 184 [t0,a1] w k :=
 pFn_of_at mixed func184 (by kernel_rfl) (by kernel_rfl) ntmps184 (by kernel_rfl) (by kernel_rfl) (by simp) ((F184_0_eq t0 a1 w k).mpr h)
noncomputable def F185B : Code := bodyOf f185
def F185A (k:KV) (q:List Nat) (ρ:Env) (w:World) : Prop := At prog 32 F185B (retQ prog f185.results.toList k) q ρ w
def F185_0 (w0:Value) (on1:Value) (units2:Value) (w:World) (k:KV) : Prop :=
 px prog (Instr.box 184 w0) w fun v3 w =>
 px prog (binSem .eql 3 (.tmp 8) (.const (.int .i64 0)) units2 (.int .i64 0)) w fun v9 w =>
 pC v9 (
 k on1 w)
 (
 px prog (bSem .len #[36] 3 #[on1]) w fun v12 w =>
 px prog (fieldAt 184 v3 0) w fun v13 w =>
 px prog (loadAt 3 v13) w fun v14 w =>
 px prog (binSem .add 3 (.tmp 14) (.tmp 15) v14 units2) w fun v16 w =>
 px prog (bSem .max #[3,3] 3 #[v12,v16]) w fun v17 w =>
 px prog (Instr.makeSlice 36 v17 v17) w fun v18 w =>
 px prog (bSem .copy #[36,36] 3 #[v18,on1]) w fun v21 w =>
 ∃ S : World → Prop,S w.drew ∧ (fun w =>
 pq prog S (fieldAt 184 v3 0) fun v23 =>
 pq prog S (loadAt 3 v23) fun v24 =>
 pq prog S (sliceAt 36 v18 (some v24) none none) fun v25 =>
 pq prog S (fieldAt 184 v3 1) fun v26 =>
 pq prog S (loadAt 36 v26) fun v27 =>
 pq prog S (sliceAt 36 v27 none (some units2) none) fun v29 =>
 px prog (bSem .copy #[36,36] 3 #[v25,v29]) w fun v30 w => (
 k v18 w)) w.drew)
theorem F185_0_eq (w0:Value) (on1:Value) (units2:Value) (w:World) (k:KV) : F185A k [] (argEnv [w0,on1,units2]) w = F185_0 w0 on1 units2 w k := by kernel_rfl
theorem F185_in (w0:Value) (on1:Value) (units2:Value) (w:World) (k:KV) (h:F185_0 w0 on1 units2 w k) : pFn prog 185 [w0,on1,units2] w k :=
 pFn_of_at mixed func185 (by kernel_rfl) (by kernel_rfl) ntmps185 (by kernel_rfl) (by kernel_rfl) (by simp) ((F185_0_eq w0 on1 units2 w k).mpr h)
noncomputable def F186B : Code := bodyOf f186
def F186A (k:KV) (q:List Nat) (ρ:Env) (w:World) : Prop := At prog 6 F186B (retQ prog f186.results.toList k) q ρ w
def F186_0 (w0:Value) (w:World) (k:KV) : Prop :=
 px prog (Instr.box 184 w0) w fun v1 w =>
 px prog (fieldAt 184 v1 1) w fun v3 w =>
 px prog (loadAt 36 v3) w fun v4 w =>
 px prog (bSem .len #[36] 3 #[v4]) w fun v5 w =>
 k v5 w
theorem F186_0_eq (w0:Value) (w:World) (k:KV) : F186A k [] (argEnv [w0]) w = F186_0 w0 w k := by kernel_rfl
theorem F186_in (w0:Value) (w:World) (k:KV) (h:F186_0 w0 w k) : pFn prog 186 [w0] w k :=
 pFn_of_at mixed func186 (by kernel_rfl) (by kernel_rfl) ntmps186 (by kernel_rfl) (by kernel_rfl) (by simp) ((F186_0_eq w0 w k).mpr h)
noncomputable def F187B : Code := bodyOf f187
def F187A (k:KV) (q:List Nat) (ρ:Env) (w:World) : Prop := At prog 13 F187B (retQ prog f187.results.toList k) q ρ w
def F187_0 (c0:Value) (on1:Value) (units2:Value) (w:World) (k:KV) : Prop :=
 px prog (binSem .eql 3 (.tmp 7) (.const (.int .i64 0)) units2 (.int .i64 0)) w fun v8 w =>
 pC v8 (
 k on1 w)
 (
 px prog (sliceAt 36 on1 none (some c0) none) w fun v12 w =>
 k v12 w)
theorem F187_0_eq (c0:Value) (on1:Value) (units2:Value) (w:World) (k:KV) : F187A k [] (argEnv [c0,on1,units2]) w = F187_0 c0 on1 units2 w k := by kernel_rfl
theorem F187_in (c0:Value) (on1:Value) (units2:Value) (w:World) (k:KV) (h:F187_0 c0 on1 units2 w k) : pFn prog 187 [c0,on1,units2] w k :=
 pFn_of_at mixed func187 (by kernel_rfl) (by kernel_rfl) ntmps187 (by kernel_rfl) (by kernel_rfl) (by simp) ((F187_0_eq c0 on1 units2 w k).mpr h)
noncomputable def F188B : Code := bodyOf f188
def F188A (k:KV) (q:List Nat) (ρ:Env) (w:World) : Prop := At prog 3 F188B (retQ prog f188.results.toList k) q ρ w
def F188_0 (c0:Value) (w:World) (k:KV) : Prop :=
 k (.int .i64 1) w
theorem F188_0_eq (c0:Value) (w:World) (k:KV) : F188A k [] (argEnv [c0]) w = F188_0 c0 w k := by kernel_rfl
theorem F188_in (c0:Value) (w:World) (k:KV) (h:F188_0 c0 w k) : pFn prog 188 [c0] w k :=
 pFn_of_at mixed func188 (by kernel_rfl) (by kernel_rfl) ntmps188 (by kernel_rfl) (by kernel_rfl) (by simp) ((F188_0_eq c0 w k).mpr h)
noncomputable def F84B : Code := bodyOf f84
def F84A (k:KV) (q:List Nat) (ρ:Env) (w:World) : Prop := At prog 8 F84B (retQ prog f84.results.toList k) q ρ w
def F84_0 (s0:Value) (w:World) (k:KV) : Prop :=
 px prog (binSem .eql 122 (.tmp 3) (.const (.slice none 0 0)) s0 (.slice none 0 0)) w fun v4 w =>
 pC v4 (
 k (.slice none 0 0) w)
 (
 px prog (Instr.buildSlice 122 0 #[]) w fun v5 w =>
 px prog (bSem .append #[122,122] 122 #[v5,s0]) w fun v7 w =>
 k v7 w)
theorem F84_0_eq (s0:Value) (w:World) (k:KV) : F84A k [] (argEnv [s0]) w = F84_0 s0 w k := by kernel_rfl
theorem F84_in (s0:Value) (w:World) (k:KV) (h:F84_0 s0 w k) : pFn prog 84 [s0] w k :=
 pFn_of_at mixed func84 (by kernel_rfl) (by kernel_rfl) ntmps84 (by kernel_rfl) (by kernel_rfl) (by simp) ((F84_0_eq s0 w k).mpr h)
noncomputable def F85B : Code := bodyOf f85
def F85A (k:KV) (q:List Nat) (ρ:Env) (w:World) : Prop := At prog 8 F85B (retQ prog f85.results.toList k) q ρ w
def F85_0 (s0:Value) (w:World) (k:KV) : Prop :=
 px prog (binSem .eql 56 (.tmp 3) (.const (.slice none 0 0)) s0 (.slice none 0 0)) w fun v4 w =>
 pC v4 (
 k (.slice none 0 0) w)
 (
 px prog (Instr.buildSlice 56 0 #[]) w fun v5 w =>
 px prog (bSem .append #[56,56] 56 #[v5,s0]) w fun v7 w =>
 k v7 w)
theorem F85_0_eq (s0:Value) (w:World) (k:KV) : F85A k [] (argEnv [s0]) w = F85_0 s0 w k := by kernel_rfl
theorem F85_in (s0:Value) (w:World) (k:KV) (h:F85_0 s0 w k) : pFn prog 85 [s0] w k :=
 pFn_of_at mixed func85 (by kernel_rfl) (by kernel_rfl) ntmps85 (by kernel_rfl) (by kernel_rfl) (by simp) ((F85_0_eq s0 w k).mpr h)
noncomputable def F89B : Code := bodyOf f89
def F89A (k:KV) (q:List Nat) (ρ:Env) (w:World) : Prop := At prog 8 F89B (retQ prog f89.results.toList k) q ρ w
def F89_0 (s0:Value) (w:World) (k:KV) : Prop :=
 px prog (binSem .eql 36 (.tmp 3) (.const (.slice none 0 0)) s0 (.slice none 0 0)) w fun v4 w =>
 pC v4 (
 k (.slice none 0 0) w)
 (
 px prog (Instr.buildSlice 36 0 #[]) w fun v5 w =>
 px prog (bSem .append #[36,36] 36 #[v5,s0]) w fun v7 w =>
 k v7 w)
theorem F89_0_eq (s0:Value) (w:World) (k:KV) : F89A k [] (argEnv [s0]) w = F89_0 s0 w k := by kernel_rfl
theorem F89_in (s0:Value) (w:World) (k:KV) (h:F89_0 s0 w k) : pFn prog 89 [s0] w k :=
 pFn_of_at mixed func89 (by kernel_rfl) (by kernel_rfl) ntmps89 (by kernel_rfl) (by kernel_rfl) (by simp) ((F89_0_eq s0 w k).mpr h)
noncomputable def F90B : Code := bodyOf f90
def F90A (k:KV) (q:List Nat) (ρ:Env) (w:World) : Prop := At prog 42 F90B (retQ prog f90.results.toList k) q ρ w
noncomputable def F90B1 : Code := sub F90B [1,1,1,0,1,0,0]
def F90Q1 (k:KV) (N1:KE) : Xt → KE := thenE N1 (contAt prog 42 F90B (retQ prog f90.results.toList k) [1,1,1,0,1,0])
def F90A1 (k:KV) (N1:KE) (q:List Nat) (ρ:Env) (w:World) : Prop := At prog 42 F90B1 (F90Q1 k N1) q ρ w
def F90L1 (k:KV) (ρ:Env) (w:World) : Prop := LoopAt prog 42 F90B (retQ prog f90.results.toList k) [1,1,1,0,1,0] ρ w
theorem F90L1_inv (k:KV) (I:Nat → KE) (round:∀ m ρ w,I m ρ w → F90A1 k (fun ρ' w' => ∃ m',m' < m ∧ I m' ρ' w') [] ρ w) {m:Nat} {ρ:Env} {w:World} (h:I m ρ w) : F90L1 k ρ w :=
 LoopAt_inv mixed (B := F90B) (Q := (retQ prog f90.results.toList k)) (p := [1,1,1,0,1,0]) (by kernel_rfl) (by kernel_rfl) I round h
def F90_0 (s0:Value) (del1:Value) (w:World) (k:KV) : Prop :=
 pFn prog 129 [s0,del1] w fun v10 w =>
 px prog (binSem .eql 3 (.tmp 11) (.const (.int .i64 (-1))) v10 (.int .i64 (-1))) w fun v12 w =>
 pC v12 (
 k s0 w)
 (
 px prog (binSem .add 3 (.tmp 14) (.const (.int .i64 1)) v10 (.int .i64 1)) w fun v15 w =>
 F90L1 k (put (put (put (put (put (put (put (put (put (put (argEnv [s0,del1]) 4 (.slice none 0 0)) 8 s0) 9 del1) 10 v10) 5 v10) 11 v10) 12 v12) 14 v10) 15 v15) 6 v15) w)
theorem F90_0_eq (s0:Value) (del1:Value) (w:World) (k:KV) : F90A k [] (argEnv [s0,del1]) w = F90_0 s0 del1 w k := by kernel_rfl
def F90_1 (k:KV) (N1:KE) (ρ:Env) (w:World) : Prop :=
 px prog (bSem .len #[73] 3 #[(ρ 0)]) w fun v18 w =>
 px prog (binSem .lss 3 (.tmp 16) (.tmp 18) (ρ 6) v18) w fun v19 w =>
 pC v19 (
 px prog (indexAt 73 (ρ 0) (ρ 6)) w fun v24 w =>
 px prog (loadAt 9 v24) w fun v25 w =>
 pVal prog (ρ 1) [v25] w fun v28 w =>
 px prog (Op.unary .not v28) w fun v29 w =>
 pC v29 (
 px prog (indexAt 73 (ρ 0) (ρ 5)) w fun v33 w =>
 pu prog (storeAt 9 v33 v25) w fun w =>
 px prog (binSem .add 3 (.tmp 34) (.const (.int .i64 1)) (ρ 5) (.int .i64 1)) w fun v35 w =>
 F90A1 k N1 [1,1] (put (put (put (put (put (put (put (put (put (put (put (put (put (put (put (put (put (put (put (put ρ 16 (ρ 6)) 17 (ρ 0)) 18 v18) 19 v19) 22 (ρ 0)) 23 (ρ 6)) 24 v24) 25 v25) 7 v25) 26 (ρ 1)) 27 v25) 28 v28) 29 v29) 30 (ρ 0)) 31 (ρ 5)) 32 v25) 33 v33) 34 (ρ 5)) 35 v35) 5 v35) w)
 (
 F90A1 k N1 [1,1] (put (put (put (put (put (put (put (put (put (put (put (put (put ρ 16 (ρ 6)) 17 (ρ 0)) 18 v18) 19 v19) 22 (ρ 0)) 23 (ρ 6)) 24 v24) 25 v25) 7 v25) 26 (ρ 1)) 27 v25) 28 v28) 29 v29) w))
 (
 F90A k [1,1,1,1] (put (put (put (put ρ 16 (ρ 6)) 17 (ρ 0)) 18 v18) 19 v19) w)
theorem F90_1_eq (k:KV) (N1:KE) (ρ:Env) (w:World) : F90A1 k N1 [] ρ w = F90_1 k N1 ρ w := by kernel_rfl
def F90_2 (k:KV) (N1:KE) (ρ:Env) (w:World) : Prop :=
 px prog (binSem .add 3 (.tmp 20) (.const (.int .i64 1)) (ρ 6) (.int .i64 1)) w fun v21 w =>
 N1 (put (put (put ρ 20 (ρ 6)) 21 v21) 6 v21) w
theorem F90_2_eq (k:KV) (N1:KE) (ρ:Env) (w:World) : F90A1 k N1 [1,1] ρ w = F90_2 k N1 ρ w := by kernel_rfl
def F90_3 (k:KV) (ρ:Env) (w:World) : Prop :=
 px prog (sliceAt 73 (ρ 0) (some (ρ 5)) none none) w fun v38 w =>
 px prog (bSem .clear #[73] 0 #[v38]) w fun _ w =>
 px prog (sliceAt 73 (ρ 0) none (some (ρ 5)) none) w fun v41 w =>
 k v41 w
theorem F90_3_eq (k:KV) (ρ:Env) (w:World) : F90A k [1,1,1,1] ρ w = F90_3 k ρ w := by kernel_rfl
theorem F90_in (s0:Value) (del1:Value) (w:World) (k:KV) (h:F90_0 s0 del1 w k) : pFn prog 90 [s0,del1] w k :=
 pFn_of_at mixed func90 (by kernel_rfl) (by kernel_rfl) ntmps90 (by kernel_rfl) (by kernel_rfl) (by simp) ((F90_0_eq s0 del1 w k).mpr h)
noncomputable def F96B : Code := bodyOf f96
def F96A (k:KV) (q:List Nat) (ρ:Env) (w:World) : Prop := At prog 9 F96B (retQ prog f96.results.toList k) q ρ w
def F96_0 (s0:Value) (f1:Value) (w:World) (k:KV) : Prop :=
 pFn prog 131 [s0,f1] w fun v7 w =>
 px prog (binSem .geq 3 (.tmp 7) (.const (.int .i64 0)) v7 (.int .i64 0)) w fun v8 w =>
 k v8 w
theorem F96_0_eq (s0:Value) (f1:Value) (w:World) (k:KV) : F96A k [] (argEnv [s0,f1]) w = F96_0 s0 f1 w k := by kernel_rfl
theorem F96_in (s0:Value) (f1:Value) (w:World) (k:KV) (h:F96_0 s0 f1 w k) : pFn prog 96 [s0,f1] w k :=
 pFn_of_at mixed func96 (by kernel_rfl) (by kernel_rfl) ntmps96 (by kernel_rfl) (by kernel_rfl) (by simp) ((F96_0_eq s0 f1 w k).mpr h)
noncomputable def F129B : Code := bodyOf f129
def F129A (k:KV) (q:List Nat) (ρ:Env) (w:World) : Prop := At prog 19 F129B (retQ prog f129.results.toList k) q ρ w
noncomputable def F129B1 : Code := sub F129B [1,0,1,0,0]
def F129Q1 (k:KV) (N1:KE) : Xt → KE := thenE N1 (contAt prog 19 F129B (retQ prog f129.results.toList k) [1,0,1,0])
def F129A1 (k:KV) (N1:KE) (q:List Nat) (ρ:Env) (w:World) : Prop := At prog 19 F129B1 (F129Q1 k N1) q ρ w
def F129L1 (k:KV) (ρ:Env) (w:World) : Prop := LoopAt prog 19 F129B (retQ prog f129.results.toList k) [1,0,1,0] ρ w
theorem F129L1_inv (k:KV) (I:Nat → KE) (round:∀ m ρ w,I m ρ w → F129A1 k (fun ρ' w' => ∃ m',m' < m ∧ I m' ρ' w') [] ρ w) {m:Nat} {ρ:Env} {w:World} (h:I m ρ w) : F129L1 k ρ w :=
 LoopAt_inv mixed (B := F129B) (Q := (retQ prog f129.results.toList k)) (p := [1,0,1,0]) (by kernel_rfl) (by kernel_rfl) I round h
def F129_0 (s0:Value) (f1:Value) (w:World) (k:KV) : Prop :=
 px prog (bSem .len #[73] 3 #[s0]) w fun v7 w =>
 F129L1 k (put (put (put (put (argEnv [s0,f1]) 4 (.int .i64 0)) 6 s0) 7 v7) 8 (.int .i64 0)) w
theorem F129_0_eq (s0:Value) (f1:Value) (w:World) (k:KV) : F129A k [] (argEnv [s0,f1]) w = F129_0 s0 f1 w k := by kernel_rfl
def F129_1 (k:KV) (N1:KE) (ρ:Env) (w:World) : Prop :=
 px prog (binSem .lss 3 (.tmp 8) (.tmp 7) (ρ 8) (ρ 7)) w fun v9 w =>
 pC v9 (
 px prog (indexAt 73 (ρ 0) (ρ 8)) w fun v14 w =>
 px prog (loadAt 9 v14) w fun v15 w =>
 pVal prog (ρ 1) [v15] w fun v16 w =>
 pC v16 (
 k (ρ 8) w)
 (
 px prog (binSem .add 3 (.tmp 8) (.const (.int .i64 1)) (ρ 8) (.int .i64 1)) w fun v18 w =>
 N1 (put (put (put (put (put (put (put (put (put (put (put ρ 9 v9) 10 (ρ 8)) 5 (ρ 8)) 11 (ρ 1)) 12 (ρ 0)) 13 (ρ 8)) 14 v14) 15 v15) 16 v16) 18 v18) 8 v18) w))
 (
 F129A k [1,1] (put ρ 9 v9) w)
theorem F129_1_eq (k:KV) (N1:KE) (ρ:Env) (w:World) : F129A1 k N1 [] ρ w = F129_1 k N1 ρ w := by kernel_rfl
def F129_2 (k:KV) (ρ:Env) (w:World) : Prop :=
 k (.int .i64 (-1)) w
theorem F129_2_eq (k:KV) (ρ:Env) (w:World) : F129A k [1,1] ρ w = F129_2 k ρ w := by kernel_rfl
theorem F129_in (s0:Value) (f1:Value) (w:World) (k:KV) (h:F129_0 s0 f1 w k) : pFn prog 129 [s0,f1] w k :=
 pFn_of_at mixed func129 (by kernel_rfl) (by kernel_rfl) ntmps129 (by kernel_rfl) (by kernel_rfl) (by simp) ((F129_0_eq s0 f1 w k).mpr h)
noncomputable def F131B : Code := bodyOf f131
def F131A (k:KV) (q:List Nat) (ρ:Env) (w:World) : Prop := At prog 19 F131B (retQ prog f131.results.toList k) q ρ w
noncomputable def F131B1 : Code := sub F131B [1,0,1,0,0]
def F131Q1 (k:KV) (N1:KE) : Xt → KE := thenE N1 (contAt prog 19 F131B (retQ prog f131.results.toList k) [1,0,1,0])
def F131A1 (k:KV) (N1:KE) (q:List Nat) (ρ:Env) (w:World) : Prop := At prog 19 F131B1 (F131Q1 k N1) q ρ w
def F131L1 (k:KV) (ρ:Env) (w:World) : Prop := LoopAt prog 19 F131B (retQ prog f131.results.toList k) [1,0,1,0] ρ w
theorem F131L1_inv (k:KV) (I:Nat → KE) (round:∀ m ρ w,I m ρ w → F131A1 k (fun ρ' w' => ∃ m',m' < m ∧ I m' ρ' w') [] ρ w) {m:Nat} {ρ:Env} {w:World} (h:I m ρ w) : F131L1 k ρ w :=
 LoopAt_inv mixed (B := F131B) (Q := (retQ prog f131.results.toList k)) (p := [1,0,1,0]) (by kernel_rfl) (by kernel_rfl) I round h
def F131_0 (s0:Value) (f1:Value) (w:World) (k:KV) : Prop :=
 px prog (bSem .len #[71] 3 #[s0]) w fun v7 w =>
 F131L1 k (put (put (put (put (argEnv [s0,f1]) 4 (.int .i64 0)) 6 s0) 7 v7) 8 (.int .i64 0)) w
theorem F131_0_eq (s0:Value) (f1:Value) (w:World) (k:KV) : F131A k [] (argEnv [s0,f1]) w = F131_0 s0 f1 w k := by kernel_rfl
def F131_1 (k:KV) (N1:KE) (ρ:Env) (w:World) : Prop :=
 px prog (binSem .lss 3 (.tmp 8) (.tmp 7) (ρ 8) (ρ 7)) w fun v9 w =>
 pC v9 (
 px prog (indexAt 71 (ρ 0) (ρ 8)) w fun v14 w =>
 px prog (loadAt 83 v14) w fun v15 w =>
 pVal prog (ρ 1) [v15] w fun v16 w =>
 pC v16 (
 k (ρ 8) w)
 (
 px prog (binSem .add 3 (.tmp 8) (.const (.int .i64 1)) (ρ 8) (.int .i64 1)) w fun v18 w =>
 N1 (put (put (put (put (put (put (put (put (put (put (put ρ 9 v9) 10 (ρ 8)) 5 (ρ 8)) 11 (ρ 1)) 12 (ρ 0)) 13 (ρ 8)) 14 v14) 15 v15) 16 v16) 18 v18) 8 v18) w))
 (
 F131A k [1,1] (put ρ 9 v9) w)
theorem F131_1_eq (k:KV) (N1:KE) (ρ:Env) (w:World) : F131A1 k N1 [] ρ w = F131_1 k N1 ρ w := by kernel_rfl
def F131_2 (k:KV) (ρ:Env) (w:World) : Prop :=
 k (.int .i64 (-1)) w
theorem F131_2_eq (k:KV) (ρ:Env) (w:World) : F131A k [1,1] ρ w = F131_2 k ρ w := by kernel_rfl
theorem F131_in (s0:Value) (f1:Value) (w:World) (k:KV) (h:F131_0 s0 f1 w k) : pFn prog 131 [s0,f1] w k :=
 pFn_of_at mixed func131 (by kernel_rfl) (by kernel_rfl) ntmps131 (by kernel_rfl) (by kernel_rfl) (by simp) ((F131_0_eq s0 f1 w k).mpr h)
noncomputable def F104B : Code := bodyOf f104
def F104A (k:KV) (q:List Nat) (ρ:Env) (w:World) : Prop := At prog 9 F104B (retQ prog f104.results.toList k) q ρ w
def F104_0 (m0:Value) (w:World) (k:KV) : Prop :=
 px prog (binSem .eql 54 (.tmp 3) (.const (.map none)) m0 (.map none)) w fun v4 w =>
 pC v4 (
 k (.map none) w)
 (
 px prog (Instr.makeInterface 54 m0) w fun v6 w =>
 pFn prog 134 [v6] w fun v7 w =>
 px prog (Instr.typeAssert v7 20 54 false) w fun v8 w =>
 k v8 w)
theorem F104_0_eq (m0:Value) (w:World) (k:KV) : F104A k [] (argEnv [m0]) w = F104_0 m0 w k := by kernel_rfl
theorem F104_in (m0:Value) (w:World) (k:KV) (h:F104_0 m0 w k) : pFn prog 104 [m0] w k :=
 pFn_of_at mixed func104 (by kernel_rfl) (by kernel_rfl) ntmps104 (by kernel_rfl) (by kernel_rfl) (by simp) ((F104_0_eq m0 w k).mpr h)
noncomputable def F92B : Code := bodyOf f92
def F92A (k:KV) (q:List Nat) (ρ:Env) (w:World) : Prop := At prog 8 F92B (retQ prog f92.results.toList k) q ρ w
def F92_0 (s0:Value) (prefix1:Value) (w:World) (k:KV) : Prop :=
 pFn prog 130 [s0,prefix1] w fun v7 w =>
 k v7 w
theorem F92_0_eq (s0:Value) (prefix1:Value) (w:World) (k:KV) : F92A k [] (argEnv [s0,prefix1]) w = F92_0 s0 prefix1 w k := by kernel_rfl
theorem F92_in (s0:Value) (prefix1:Value) (w:World) (k:KV) (h:F92_0 s0 prefix1 w k) : pFn prog 92 [s0,prefix1] w k :=
 pFn_of_at mixed func92 (by kernel_rfl) (by kernel_rfl) ntmps92 (by kernel_rfl) (by kernel_rfl) (by simp) ((F92_0_eq s0 prefix1 w k).mpr h)
noncomputable def F132B : Code := bodyOf f132
def F132A (k:KV) (q:List Nat) (ρ:Env) (w:World) : Prop := At prog 8 F132B (retQ prog f132.results.toList k) q ρ w
def F132_0 (s0:Value) (c1:Value) (w:World) (k:KV) : Prop :=
 pFn prog 140 [s0,c1] w fun v7 w =>
 k v7 w
theorem F132_0_eq (s0:Value) (c1:Value) (w:World) (k:KV) : F132A k [] (argEnv [s0,c1]) w = F132_0 s0 c1 w k := by kernel_rfl
theorem F132_in (s0:Value) (c1:Value) (w:World) (k:KV) (h:F132_0 s0 c1 w k) : pFn prog 132 [s0,c1] w k :=
 pFn_of_at mixed func132 (by kernel_rfl) (by kernel_rfl) ntmps132 (by kernel_rfl) (by kernel_rfl) (by simp) ((F132_0_eq s0 c1 w k).mpr h)
noncomputable def F130B : Code := bodyOf f130
def F130A (k:KV) (q:List Nat) (ρ:Env) (w:World) : Prop := At prog 18 F130B (retQ prog f130.results.toList k) q ρ w
def F130_0 (s0:Value) (prefix1:Value) (w:World) (k:KV) : Prop :=
 px prog (bSem .len #[9] 3 #[s0]) w fun v6 w =>
 px prog (bSem .len #[9] 3 #[prefix1]) w fun v8 w =>
 px prog (binSem .geq 3 (.tmp 6) (.tmp 8) v6 v8) w fun v9 w =>
 pG v9 true (fun k => k s0 w) (w := w) (next := fun v11 w =>
 pG v9 true (fun k => k prefix1 w) (w := w) (next := fun v12 w =>
 pG v9 true (fun k => px prog (bSem .len #[9] 3 #[v12]) w k) (w := w) (next := fun v13 w =>
 pG v9 true (fun k => px prog (sliceAt 9 v11 none (some v13) none) w k) (w := w) (next := fun v14 w =>
 pG v9 true (fun k => k prefix1 w) (w := w) (next := fun v15 w =>
 pG v9 true (fun k => px prog (binSem .eql 9 (.tmp 14) (.tmp 15) v14 v15) w k) (w := w) (next := fun v16 w =>
 px prog (pickSem v9 v16 (.bool false)) w fun v17 w =>
 k v17 w))))))
theorem F130_0_eq (s0:Value) (prefix1:Value) (w:World) (k:KV) : F130A k [] (argEnv [s0,prefix1]) w = F130_0 s0 prefix1 w k := by kernel_rfl
theorem F130_in (s0:Value) (prefix1:Value) (w:World) (k:KV) (h:F130_0 s0 prefix1 w k) : pFn prog 130 [s0,prefix1] w k :=
 pFn_of_at mixed func130 (by kernel_rfl) (by kernel_rfl) ntmps130 (by kernel_rfl) (by kernel_rfl) (by simp) ((F130_0_eq s0 prefix1 w k).mpr h)
noncomputable def F140B : Code := bodyOf f140
def F140A (k:KV) (q:List Nat) (ρ:Env) (w:World) : Prop := At prog 8 F140B (retQ prog f140.results.toList k) q ρ w
def F140_0 (s0:Value) (c1:Value) (w:World) (k:KV) : Prop :=
 pFn prog 144 [s0,c1] w fun v7 w =>
 k v7 w
theorem F140_0_eq (s0:Value) (c1:Value) (w:World) (k:KV) : F140A k [] (argEnv [s0,c1]) w = F140_0 s0 c1 w k := by kernel_rfl
theorem F140_in (s0:Value) (c1:Value) (w:World) (k:KV) (h:F140_0 s0 c1 w k) : pFn prog 140 [s0,c1] w k :=
 pFn_of_at mixed func140 (by kernel_rfl) (by kernel_rfl) ntmps140 (by kernel_rfl) (by kernel_rfl) (by simp) ((F140_0_eq s0 c1 w k).mpr h)
end Go.Proofs.YtcdcojpfealppaaGreat
