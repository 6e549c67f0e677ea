/- Put together by a program (wip/tools/shake.py): R2,Rep,Names. -/
import Derived.Test.YteeeggphkhimcaaGreatDoorE1
import Derived.Test.YteeeggphkhimcaaGreatDoorProg
import Derived.Test.YteeeggphkhimcaaGreatDoorMix
import Derived.Test.YteeeggphkhimcaaGreatDoorE3
import Derived.Test.YteeeggphkhimcaaGreatDoorE4
import Derived.Test.YteeeggphkhimcaaGreatDoorE2
set_option linter.unusedVariables false
set_option maxRecDepth 100000
namespace Go.Proofs.YteeeggphkhimcaaGreatDoor
open Go Go.Proofs Go.Proofs.XRed Tryz
open Go.Instr (fieldAt loadAt storeAt indexAt sliceAt extract)
noncomputable def F94B : Code := bodyOf f94
def F94A (k:KV) (q:List Nat) (ρ:Env) (w:World) : Prop := At prog 16 F94B (retQ prog f94.results.toList k) q ρ w
def F94_0 (most0:Value) (a1:Value) (w:World) (k:KV) : Prop :=
 px prog (loadAt 58 a1) w fun v5 w =>
 px prog (bSem .len #[58] 3 #[v5]) w fun v6 w =>
 px prog (binSem .eql 3 (.tmp 6) (.const (.int .i64 0)) v6 (.int .i64 0)) w fun v7 w =>
 pC v7 (
 k (.int .i64 0) w)
 (
 px prog (loadAt 58 a1) w fun v8 w =>
 px prog (indexAt 58 v8 (.int .i64 0)) w fun v9 w =>
 px prog (loadAt 3 v9) w fun v10 w =>
 px prog (loadAt 58 a1) w fun v11 w =>
 px prog (sliceAt 58 v11 (some (.int .i64 1)) none none) w fun v12 w =>
 pu prog (storeAt 58 a1 v12) w fun w =>
 pFn prog 95 [v10,most0] w fun v15 w =>
 k v15 w)
theorem F94_0_eq (most0:Value) (a1:Value) (w:World) (k:KV) : F94A k [] (argEnv [most0,a1]) w = F94_0 most0 a1 w k := by kernel_rfl
theorem F94_in (most0:Value) (a1:Value) (w:World) (k:KV) (h:F94_0 most0 a1 w k) : pFn prog 94 [most0,a1] w k :=
 pFn_of_at mixed func94 (by kernel_rfl) (by kernel_rfl) ntmps94 (by kernel_rfl) (by kernel_rfl) (by simp) ((F94_0_eq most0 a1 w k).mpr h)
noncomputable def F124B : Code := bodyOf f124
def F124A (k:KV) (q:List Nat) (ρ:Env) (w:World) : Prop := At prog 6 F124B (retQ prog f124.results.toList k) q ρ w
def F124_0 (a0:Value) (a1:Value) (w:World) (k:KV) : Prop :=
 px prog (loadAt 24 a0) w fun v2 w =>
 px prog (loadAt 9 a1) w fun v3 w =>
 px prog (Instr.makeInterface 202 v3) w fun v4 w =>
 pFn prog 125 [v2,v4] w fun v5 w =>
 k (.tuple #[]) w
theorem F124_0_eq (a0:Value) (a1:Value) (w:World) (k:KV) : F124A k [] (argEnv [a0,a1]) w = F124_0 a0 a1 w k := by kernel_rfl
theorem F124_in (a0:Value) (a1:Value) (w:World) (k:KV) (h:F124_0 a0 a1 w k) : pFn prog 124 [a0,a1] w k :=
 pFn_of_at mixed func124 (by kernel_rfl) (by kernel_rfl) ntmps124 (by kernel_rfl) (by kernel_rfl) (by simp) ((F124_0_eq a0 a1 w k).mpr h)
noncomputable def F126B : Code := bodyOf f126
def F126A (k:KV) (q:List Nat) (ρ:Env) (w:World) : Prop := At prog 12 F126B (retQ prog f126.results.toList k) q ρ w
def F126_0 (a0:Value) (w:World) (k:KV) : Prop :=
 ∃ S : World → Prop,S w.drew ∧ (fun w =>
 pq prog S (loadAt 24 a0) fun v1 =>
 pq prog S (loadAt 24 a0) fun v2 =>
 pq prog S (loadAt 24 a0) fun v3 =>
 pq prog S (nilSem v3) fun v4 =>
 pq prog S (fieldAt 88 v4 1) fun v5 =>
 pq prog S (loadAt 82 v5) fun v6 =>
 pFn prog 96 [v6] w fun v7 w => S w ∧ (
 pq prog S (nilSem v1) fun v8 =>
 pq prog S (fieldAt 88 v8 2) fun v9 =>
 pu prog (storeAt 82 v9 v7) w fun w => S w ∧ (
 pq prog S (nilSem v2) fun v10 =>
 pq prog S (fieldAt 88 v10 3) fun v11 =>
 pu prog (storeAt 83 v11 (.slice none 0 0)) w fun w => (
 k (.tuple #[]) w)))) w.drew
theorem F126_0_eq (a0:Value) (w:World) (k:KV) : F126A k [] (argEnv [a0]) w = F126_0 a0 w k := by kernel_rfl
theorem F126_in (a0:Value) (w:World) (k:KV) (h:F126_0 a0 w k) : pFn prog 126 [a0] w k :=
 pFn_of_at mixed func126 (by kernel_rfl) (by kernel_rfl) ntmps126 (by kernel_rfl) (by kernel_rfl) (by simp) ((F126_0_eq a0 w k).mpr h)
noncomputable def F127B : Code := bodyOf f127
def F127A (k:KV) (q:List Nat) (ρ:Env) (w:World) : Prop := At prog 9 F127B (retQ prog f127.results.toList k) q ρ w
def F127_0 (a0:Value) (a1:Value) (w:World) (k:KV) : Prop :=
 px prog (loadAt 24 a0) w fun v2 w =>
 px prog (loadAt 9 a1) w fun v3 w =>
 px prog (Instr.build 131 #[]) w fun v4 w =>
 px prog (Instr.box 131 v4) w fun v5 w =>
 px prog (Instr.build 204 #[(0,v3),(1,v5)]) w fun v6 w =>
 px prog (Instr.makeInterface 204 v6) w fun v7 w =>
 pFn prog 125 [v2,v7] w fun v8 w =>
 k (.tuple #[]) w
theorem F127_0_eq (a0:Value) (a1:Value) (w:World) (k:KV) : F127A k [] (argEnv [a0,a1]) w = F127_0 a0 a1 w k := by kernel_rfl
theorem F127_in (a0:Value) (a1:Value) (w:World) (k:KV) (h:F127_0 a0 a1 w k) : pFn prog 127 [a0,a1] w k :=
 pFn_of_at mixed func127 (by kernel_rfl) (by kernel_rfl) ntmps127 (by kernel_rfl) (by kernel_rfl) (by simp) ((F127_0_eq a0 a1 w k).mpr h)
noncomputable def F131B : Code := bodyOf f131
def F131A (k:KV) (q:List Nat) (ρ:Env) (w:World) : Prop := At prog 12 F131B (retQ prog f131.results.toList k) q ρ w
def F131_0 (a0:Value) (a1:Value) (a2:Value) (w:World) (k:KV) : Prop :=
 px prog (loadAt 9 a0) w fun v3 w =>
 px prog (loadAt 9 a1) w fun v4 w =>
 px prog (binSem .neq 9 (.tmp 3) (.tmp 4) v3 v4) w fun v5 w =>
 pC v5 (
 px prog (loadAt 24 a2) w fun v6 w =>
 px prog (loadAt 9 a0) w fun v7 w =>
 px prog (loadAt 9 a1) w fun v8 w =>
 px prog (Instr.build 207 #[(0,v7),(1,v8)]) w fun v9 w =>
 px prog (Instr.makeInterface 207 v9) w fun v10 w =>
 pFn prog 125 [v6,v10] w fun v11 w =>
 k (.tuple #[]) w)
 (
 k (.tuple #[]) w)
theorem F131_0_eq (a0:Value) (a1:Value) (a2:Value) (w:World) (k:KV) : F131A k [] (argEnv [a0,a1,a2]) w = F131_0 a0 a1 a2 w k := by kernel_rfl
theorem F131_in (a0:Value) (a1:Value) (a2:Value) (w:World) (k:KV) (h:F131_0 a0 a1 a2 w k) : pFn prog 131 [a0,a1,a2] w k :=
 pFn_of_at mixed func131 (by kernel_rfl) (by kernel_rfl) ntmps131 (by kernel_rfl) (by kernel_rfl) (by simp) ((F131_0_eq a0 a1 a2 w k).mpr h)
noncomputable def F171B : Code := bodyOf f171
def F171A (k:KV) (q:List Nat) (ρ:Env) (w:World) : Prop := At prog 10 F171B (retQ prog f171.results.toList k) q ρ w
def F171_0 (a0:Value) (a1:Value) (a2:Value) (w:World) (k:KV) : Prop :=
 ∃ S : World → Prop,S w.drew ∧ (fun w =>
 pq prog S (loadAt 132 a0) fun v3 =>
 pq prog S (loadAt 3 a1) fun v4 =>
 pq prog S (loadAt 23 a2) fun v5 =>
 pFn prog 80 [v5] w fun v6 w => S w ∧ (
 pq prog S (Instr.build 284 #[(0,v4),(1,v6)]) fun v7 =>
 pq prog S (Instr.makeInterface 284 v7) fun v8 =>
 pFn prog 165 [v3,v8] w fun v9 w => (
 k (.tuple #[]) w))) w.drew
theorem F171_0_eq (a0:Value) (a1:Value) (a2:Value) (w:World) (k:KV) : F171A k [] (argEnv [a0,a1,a2]) w = F171_0 a0 a1 a2 w k := by kernel_rfl
theorem F171_in (a0:Value) (a1:Value) (a2:Value) (w:World) (k:KV) (h:F171_0 a0 a1 a2 w k) : pFn prog 171 [a0,a1,a2] w k :=
 pFn_of_at mixed func171 (by kernel_rfl) (by kernel_rfl) ntmps171 (by kernel_rfl) (by kernel_rfl) (by simp) ((F171_0_eq a0 a1 a2 w k).mpr h)
noncomputable def F97B : Code := bodyOf f97
def F97A (k:KV) (q:List Nat) (ρ:Env) (w:World) : Prop := At prog 36 F97B (retQ prog f97.results.toList k) q ρ w
noncomputable def F97B1 : Code := sub F97B [1,1,0,1,0,0]
def F97Q1 (k:KV) (N1:KE) : Xt → KE := thenE N1 (contAt prog 36 F97B (retQ prog f97.results.toList k) [1,1,0,1,0])
def F97A1 (k:KV) (N1:KE) (q:List Nat) (ρ:Env) (w:World) : Prop := At prog 36 F97B1 (F97Q1 k N1) q ρ w
def F97L1 (k:KV) (ρ:Env) (w:World) : Prop := LoopAt prog 36 F97B (retQ prog f97.results.toList k) [1,1,0,1,0] ρ w
theorem F97L1_inv (k:KV) (I:Nat → KE) (round:∀ m ρ w,I m ρ w → F97A1 k (fun ρ' w' => ∃ m',m' < m ∧ I m' ρ' w') [] ρ w) {m:Nat} {ρ:Env} {w:World} (h:I m ρ w) : F97L1 k ρ w :=
 LoopAt_inv mixed (B := F97B) (Q := (retQ prog f97.results.toList k)) (p := [1,1,0,1,0]) (by kernel_rfl) (by kernel_rfl) I round h
def F97_0 (t0:Value) (units1:Value) (w:World) (k:KV) : Prop :=
 px prog (nilSem t0) w fun v10 w =>
 px prog (fieldAt 131 v10 0) w fun v11 w =>
 px prog (loadAt 23 v11) w fun v12 w =>
 px prog (nilSem t0) w fun v14 w =>
 px prog (fieldAt 131 v14 2) w fun v15 w =>
 px prog (loadAt 129 v15) w fun v16 w =>
 px prog (bSem .len #[129] 3 #[v16]) w fun v17 w =>
 F97L1 k (put (put (put (put (put (put (put (put (put (put (put (put (argEnv [t0,units1]) 4 (.slice none 0 0)) 9 t0) 10 v10) 11 v11) 12 v12) 5 v12) 13 t0) 14 v14) 15 v15) 16 v16) 17 v17) 18 (.int .i64 0)) w
theorem F97_0_eq (t0:Value) (units1:Value) (w:World) (k:KV) : F97A k [] (argEnv [t0,units1]) w = F97_0 t0 units1 w k := by kernel_rfl
def F97_1 (k:KV) (N1:KE) (ρ:Env) (w:World) : Prop :=
 px prog (binSem .lss 3 (.tmp 18) (.tmp 17) (ρ 18) (ρ 17)) w fun v19 w =>
 pC v19 (
 px prog (indexAt 129 (ρ 16) (ρ 18)) w fun v20 w =>
 px prog (loadAt 240 v20) w fun v21 w =>
 pInv prog v21 "freight/disk.units" [] w fun v24 w =>
 px prog (bSem .min #[3,3] 3 #[(ρ 1),v24]) w fun v25 w =>
 pInv prog v21 "freight/disk.made" [(ρ 5), v25] w fun v29 w =>
 px prog (binSem .sub 3 (.tmp 30) (.tmp 31) (ρ 1) v25) w fun v32 w =>
 px prog (binSem .add 3 (.tmp 18) (.const (.int .i64 1)) (ρ 18) (.int .i64 1)) w fun v33 w =>
 N1 (put (put (put (put (put (put (put (put (put (put (put (put (put (put (put (put (put (put (put (put ρ 19 v19) 20 v20) 21 v21) 7 v21) 22 (ρ 1)) 23 v21) 24 v24) 25 v25) 8 v25) 26 v21) 27 (ρ 5)) 28 v25) 29 v29) 5 v29) 30 (ρ 1)) 31 v25) 32 v32) 1 v32) 33 v33) 18 v33) w)
 (
 F97A k [1,1,1] (put ρ 19 v19) w)
theorem F97_1_eq (k:KV) (N1:KE) (ρ:Env) (w:World) : F97A1 k N1 [] ρ w = F97_1 k N1 ρ w := by kernel_rfl
def F97_2 (k:KV) (ρ:Env) (w:World) : Prop :=
 pFn prog 80 [(ρ 5)] w fun v35 w =>
 k v35 w
theorem F97_2_eq (k:KV) (ρ:Env) (w:World) : F97A k [1,1,1] ρ w = F97_2 k ρ w := by kernel_rfl
theorem F97_in (t0:Value) (units1:Value) (w:World) (k:KV) (h:F97_0 t0 units1 w k) : pFn prog 97 [t0,units1] w k :=
 pFn_of_at mixed func97 (by kernel_rfl) (by kernel_rfl) ntmps97 (by kernel_rfl) (by kernel_rfl) (by simp) ((F97_0_eq t0 units1 w k).mpr h)
noncomputable def F98B : Code := bodyOf f98
def F98A (k:KV) (q:List Nat) (ρ:Env) (w:World) : Prop := At prog 21 F98B (retQ prog f98.results.toList k) q ρ w
noncomputable def F98B1 : Code := sub F98B [1,1,0,1,0,0]
def F98Q1 (k:KV) (N1:KE) : Xt → KE := thenE N1 (contAt prog 21 F98B (retQ prog f98.results.toList k) [1,1,0,1,0])
def F98A1 (k:KV) (N1:KE) (q:List Nat) (ρ:Env) (w:World) : Prop := At prog 21 F98B1 (F98Q1 k N1) q ρ w
def F98L1 (k:KV) (ρ:Env) (w:World) : Prop := LoopAt prog 21 F98B (retQ prog f98.results.toList k) [1,1,0,1,0] ρ w
theorem F98L1_inv (k:KV) (I:Nat → KE) (round:∀ m ρ w,I m ρ w → F98A1 k (fun ρ' w' => ∃ m',m' < m ∧ I m' ρ' w') [] ρ w) {m:Nat} {ρ:Env} {w:World} (h:I m ρ w) : F98L1 k ρ w :=
 LoopAt_inv mixed (B := F98B) (Q := (retQ prog f98.results.toList k)) (p := [1,1,0,1,0]) (by kernel_rfl) (by kernel_rfl) I round h
def F98_0 (t0:Value) (w:World) (k:KV) : Prop :=
 px prog (nilSem t0) w fun v7 w =>
 px prog (fieldAt 131 v7 2) w fun v8 w =>
 px prog (loadAt 129 v8) w fun v9 w =>
 px prog (bSem .len #[129] 3 #[v9]) w fun v10 w =>
 F98L1 k (put (put (put (put (put (put (put (put (argEnv [t0]) 2 (.int .i64 0)) 3 (.int .i64 0)) 6 t0) 7 v7) 8 v8) 9 v9) 10 v10) 11 (.int .i64 0)) w
theorem F98_0_eq (t0:Value) (w:World) (k:KV) : F98A k [] (argEnv [t0]) w = F98_0 t0 w k := by kernel_rfl
def F98_1 (k:KV) (N1:KE) (ρ:Env) (w:World) : Prop :=
 px prog (binSem .lss 3 (.tmp 11) (.tmp 10) (ρ 11) (ρ 10)) w fun v12 w =>
 pC v12 (
 px prog (indexAt 129 (ρ 9) (ρ 11)) w fun v13 w =>
 px prog (loadAt 240 v13) w fun v14 w =>
 pInv prog v14 "freight/disk.units" [] w fun v17 w =>
 px prog (binSem .add 3 (.tmp 15) (.tmp 17) (ρ 3) v17) w fun v18 w =>
 px prog (binSem .add 3 (.tmp 11) (.const (.int .i64 1)) (ρ 11) (.int .i64 1)) w fun v19 w =>
 N1 (put (put (put (put (put (put (put (put (put (put (put ρ 12 v12) 13 v13) 14 v14) 5 v14) 15 (ρ 3)) 16 v14) 17 v17) 18 v18) 3 v18) 19 v19) 11 v19) w)
 (
 F98A k [1,1,1] (put ρ 12 v12) w)
theorem F98_1_eq (k:KV) (N1:KE) (ρ:Env) (w:World) : F98A1 k N1 [] ρ w = F98_1 k N1 ρ w := by kernel_rfl
def F98_2 (k:KV) (ρ:Env) (w:World) : Prop :=
 k (ρ 3) w
theorem F98_2_eq (k:KV) (ρ:Env) (w:World) : F98A k [1,1,1] ρ w = F98_2 k ρ w := by kernel_rfl
theorem F98_in (t0:Value) (w:World) (k:KV) (h:F98_0 t0 w k) : pFn prog 98 [t0] w k :=
 pFn_of_at mixed func98 (by kernel_rfl) (by kernel_rfl) ntmps98 (by kernel_rfl) (by kernel_rfl) (by simp) ((F98_0_eq t0 w k).mpr h)
noncomputable def F129B : Code := bodyOf f129
def F129A (k:KV) (q:List Nat) (ρ:Env) (w:World) : Prop := At prog 12 F129B (retQ prog f129.results.toList k) q ρ w
def F129_0 (t0:Value) (w:World) (k:KV) : Prop :=
 px prog (nilSem t0) w fun v5 w =>
 px prog (fieldAt 131 v5 1) w fun v6 w =>
 px prog (loadAt 23 v6) w fun v7 w =>
 px prog (nilSem t0) w fun v8 w =>
 px prog (fieldAt 131 v8 0) w fun v9 w =>
 pu prog (storeAt 23 v9 v7) w fun w =>
 px prog (nilSem t0) w fun v10 w =>
 px prog (fieldAt 131 v10 2) w fun v11 w =>
 pu prog (storeAt 129 v11 (.slice none 0 0)) w fun w =>
 k (.tuple #[]) w
theorem F129_0_eq (t0:Value) (w:World) (k:KV) : F129A k [] (argEnv [t0]) w = F129_0 t0 w k := by kernel_rfl
theorem F129_in (t0:Value) (w:World) (k:KV) (h:F129_0 t0 w k) : pFn prog 129 [t0] w k :=
 pFn_of_at mixed func129 (by kernel_rfl) (by kernel_rfl) ntmps129 (by kernel_rfl) (by kernel_rfl) (by simp) ((F129_0_eq t0 w k).mpr h)
noncomputable def F165B : Code := bodyOf f165
def F165A (k:KV) (q:List Nat) (ρ:Env) (w:World) : Prop := At prog 28 F165B (retQ prog f165.results.toList k) q ρ w
def F165_0 (t0:Value) (c1:Value) (w:World) (k:KV) : Prop :=
 px prog (nilSem t0) w fun v6 w =>
 px prog (fieldAt 131 v6 2) w fun v7 w =>
 px prog (loadAt 129 v7) w fun v8 w =>
 px prog (Instr.buildSlice 129 1 #[(0,c1)]) w fun v10 w =>
 px prog (bSem .append #[129,129] 129 #[v8,v10]) w fun v11 w =>
 px prog (nilSem t0) w fun v12 w =>
 px prog (fieldAt 131 v12 2) w fun v13 w =>
 pu prog (storeAt 129 v13 v11) w fun w =>
 ∃ S : World → Prop,S w.drew ∧ (fun w =>
 pq prog S (nilSem t0) fun v17 =>
 pq prog S (fieldAt 131 v17 1) fun v18 =>
 pq prog S (loadAt 23 v18) fun v19 =>
 pq prog S (Instr.makeFunc (Fn.method "freight/disk.made") #[c1] #[]) fun v22 =>
 pq prog S (nilSem v22) fun v23 =>
 pInv prog c1 "freight/disk.units" [] w fun v21 w => S w ∧ (
 pInv prog c1 "freight/disk.made" [v19, v21] w fun v25 w => S w ∧ (
 pq prog S (nilSem t0) fun v26 =>
 pq prog S (fieldAt 131 v26 1) fun v27 =>
 pu prog (storeAt 23 v27 v25) w fun w => (
 k (.tuple #[]) w)))) w.drew
theorem F165_0_eq (t0:Value) (c1:Value) (w:World) (k:KV) : F165A k [] (argEnv [t0,c1]) w = F165_0 t0 c1 w k := by kernel_rfl
theorem F165_in (t0:Value) (c1:Value) (w:World) (k:KV) (h:F165_0 t0 c1 w k) : pFn prog 165 [t0,c1] w k :=
 pFn_of_at mixed func165 (by kernel_rfl) (by kernel_rfl) ntmps165 (by kernel_rfl) (by kernel_rfl) (by simp) ((F165_0_eq t0 c1 w k).mpr h)
noncomputable def F79B : Code := bodyOf f79
def F79A (k:KV) (q:List Nat) (ρ:Env) (w:World) : Prop := At prog 6 F79B (retQ prog f79.results.toList k) q ρ w
def F79_0 (n0:Value) (w:World) (k:KV) : Prop :=
 pFn prog 133 [n0] w fun v4 w =>
 pFn prog 132 [v4] w fun v5 w =>
 k v5 w
theorem F79_0_eq (n0:Value) (w:World) (k:KV) : F79A k [] (argEnv [n0]) w = F79_0 n0 w k := by kernel_rfl
theorem F79_in (n0:Value) (w:World) (k:KV) (h:F79_0 n0 w k) : pFn prog 79 [n0] w k :=
 pFn_of_at mixed func79 (by kernel_rfl) (by kernel_rfl) ntmps79 (by kernel_rfl) (by kernel_rfl) (by simp) ((F79_0_eq n0 w k).mpr h)
noncomputable def F95B : Code := bodyOf f95
def F95A (k:KV) (q:List Nat) (ρ:Env) (w:World) : Prop := At prog 17 F95B (retQ prog f95.results.toList k) q ρ w
def F95_0 (pick0:Value) (most1:Value) (w:World) (k:KV) : Prop :=
 px prog (binSem .add 3 (.tmp 7) (.const (.int .i64 1)) most1 (.int .i64 1)) w fun v8 w =>
 px prog (binSem .rem 3 (.tmp 6) (.tmp 8) pick0 v8) w fun v9 w =>
 px prog (binSem .lss 3 (.tmp 10) (.const (.int .i64 0)) v9 (.int .i64 0)) w fun v11 w =>
 pC v11 (
 px prog (binSem .add 3 (.tmp 13) (.const (.int .i64 1)) most1 (.int .i64 1)) w fun v14 w =>
 px prog (binSem .add 3 (.tmp 12) (.tmp 14) v9 v14) w fun v15 w =>
 F95A k [1,1,1] (put (put (put (put (put (put (put (put (put (put (put (put (put (argEnv [pick0,most1]) 4 (.int .i64 0)) 6 pick0) 7 most1) 8 v8) 9 v9) 5 v9) 10 v9) 11 v11) 12 v9) 13 most1) 14 v14) 15 v15) 5 v15) w)
 (
 F95A k [1,1,1] (put (put (put (put (put (put (put (put (argEnv [pick0,most1]) 4 (.int .i64 0)) 6 pick0) 7 most1) 8 v8) 9 v9) 5 v9) 10 v9) 11 v11) w)
theorem F95_0_eq (pick0:Value) (most1:Value) (w:World) (k:KV) : F95A k [] (argEnv [pick0,most1]) w = F95_0 pick0 most1 w k := by kernel_rfl
def F95_1 (k:KV) (ρ:Env) (w:World) : Prop :=
 k (ρ 5) w
theorem F95_1_eq (k:KV) (ρ:Env) (w:World) : F95A k [1,1,1] ρ w = F95_1 k ρ w := by kernel_rfl
theorem F95_in (pick0:Value) (most1:Value) (w:World) (k:KV) (h:F95_0 pick0 most1 w k) : pFn prog 95 [pick0,most1] w k :=
 pFn_of_at mixed func95 (by kernel_rfl) (by kernel_rfl) ntmps95 (by kernel_rfl) (by kernel_rfl) (by simp) ((F95_0_eq pick0 most1 w k).mpr h)
noncomputable def F130B : Code := bodyOf f130
def F130A (k:KV) (q:List Nat) (ρ:Env) (w:World) : Prop := At prog 40 F130B (retQ prog f130.results.toList k) q ρ w
noncomputable def F130B1 : Code := sub F130B [1,0,1,0,0]
def F130Q1 (k:KV) (N1:KE) : Xt → KE := thenE N1 (contAt prog 40 F130B (retQ prog f130.results.toList k) [1,0,1,0])
def F130A1 (k:KV) (N1:KE) (q:List Nat) (ρ:Env) (w:World) : Prop := At prog 40 F130B1 (F130Q1 k N1) q ρ w
def F130L1 (k:KV) (ρ:Env) (w:World) : Prop := LoopAt prog 40 F130B (retQ prog f130.results.toList k) [1,0,1,0] ρ w
theorem F130L1_inv (k:KV) (I:Nat → KE) (round:∀ m ρ w,I m ρ w → F130A1 k (fun ρ' w' => ∃ m',m' < m ∧ I m' ρ' w') [] ρ w) {m:Nat} {ρ:Env} {w:World} (h:I m ρ w) : F130L1 k ρ w :=
 LoopAt_inv mixed (B := F130B) (Q := (retQ prog f130.results.toList k)) (p := [1,0,1,0]) (by kernel_rfl) (by kernel_rfl) I round h
def F130_0 (s0:Value) (w:World) (k:KV) : Prop :=
 px prog (bSem .len #[9] 3 #[s0]) w fun v6 w =>
 F130L1 k (put (put (put (put (argEnv [s0]) 2 (.bool false)) 5 s0) 6 v6) 7 (.int .i64 0)) w
theorem F130_0_eq (s0:Value) (w:World) (k:KV) : F130A k [] (argEnv [s0]) w = F130_0 s0 w k := by kernel_rfl
def F130_1 (k:KV) (N1:KE) (ρ:Env) (w:World) : Prop :=
 px prog (binSem .lss 3 (.tmp 7) (.tmp 6) (ρ 7) (ρ 6)) w fun v8 w =>
 pC v8 (
 px prog (Instr.index 9 (ρ 0) (ρ 7)) w fun v12 w =>
 px prog (binSem .lss 5 (.tmp 13) (.const (.int .u8 97)) v12 (.int .u8 97)) w fun v14 w =>
 pG v14 false (fun k => k v12 w) (w := w) (next := fun v16 w =>
 pG v14 false (fun k => px prog (binSem .gtr 5 (.tmp 16) (.const (.int .u8 122)) v16 (.int .u8 122)) w k) (w := w) (next := fun v17 w =>
 px prog (pickSem v14 (.bool true) v17) w fun v18 w =>
 pG v18 true (fun k => k v12 w) (w := w) (next := fun v20 w =>
 pG v18 true (fun k => px prog (binSem .lss 5 (.tmp 20) (.const (.int .u8 48)) v20 (.int .u8 48)) w k) (w := w) (next := fun v21 w =>
 pG v18 true (fun k => k v21 w) (w := w) (next := fun v22 w =>
 pG v22 false (fun k => k v12 w) (w := w) (next := fun v23 w =>
 pG v22 false (fun k => px prog (binSem .gtr 5 (.tmp 23) (.const (.int .u8 57)) v23 (.int .u8 57)) w k) (w := w) (next := fun v24 w =>
 pG v18 true (fun k => px prog (pickSem v22 (.bool true) v24) w k) (w := w) (next := fun v25 w =>
 px prog (pickSem v18 v25 (.bool false)) w fun v26 w =>
 pG v26 true (fun k => k v12 w) (w := w) (next := fun v28 w =>
 pG v26 true (fun k => pFn prog 119 [(.string (ByteArray.mk #[46,45,95,43])),v28] w k) (w := w) (next := fun v29 w =>
 pG v26 true (fun k => px prog (binSem .lss 3 (.tmp 29) (.const (.int .i64 0)) v29 (.int .i64 0)) w k) (w := w) (next := fun v30 w =>
 px prog (pickSem v26 v30 (.bool false)) w fun v31 w =>
 pC v31 (
 k (.bool false) w)
 (
 px prog (binSem .add 3 (.tmp 7) (.const (.int .i64 1)) (ρ 7) (.int .i64 1)) w fun v32 w =>
 N1 (put (put (put (put (put (put (put (put (put (put (put (put (put (put (put (put (put (put (put (put (put (put (put (put (put (put (put (put ρ 8 v8) 9 (ρ 7)) 3 (ρ 7)) 10 (ρ 0)) 11 (ρ 7)) 12 v12) 4 v12) 13 v12) 14 v14) 15 v14) 16 v16) 17 v17) 18 v18) 19 v18) 20 v20) 21 v21) 22 v22) 23 v23) 24 v24) 25 v25) 26 v26) 27 v26) 28 v28) 29 v29) 30 v30) 31 v31) 32 v32) 7 v32) w)))))))))))))
 (
 F130A k [1,1] (put ρ 8 v8) w)
theorem F130_1_eq (k:KV) (N1:KE) (ρ:Env) (w:World) : F130A1 k N1 [] ρ w = F130_1 k N1 ρ w := by kernel_rfl
def F130_2 (k:KV) (ρ:Env) (w:World) : Prop :=
 px prog (binSem .neq 9 (.tmp 33) (.const (.string (ByteArray.mk #[]))) (ρ 0) (.string (ByteArray.mk #[]))) w fun v34 w =>
 pG v34 true (fun k => k (ρ 0) w) (w := w) (next := fun v36 w =>
 pG v34 true (fun k => px prog (bSem .len #[9] 3 #[v36]) w k) (w := w) (next := fun v37 w =>
 pG v34 true (fun k => px prog (binSem .leq 3 (.tmp 37) (.const (.int .i64 112)) v37 (.int .i64 112)) w k) (w := w) (next := fun v38 w =>
 px prog (pickSem v34 v38 (.bool false)) w fun v39 w =>
 k v39 w)))
theorem F130_2_eq (k:KV) (ρ:Env) (w:World) : F130A k [1,1] ρ w = F130_2 k ρ w := by kernel_rfl
theorem F130_in (s0:Value) (w:World) (k:KV) (h:F130_0 s0 w k) : pFn prog 130 [s0] w k :=
 pFn_of_at mixed func130 (by kernel_rfl) (by kernel_rfl) ntmps130 (by kernel_rfl) (by kernel_rfl) (by simp) ((F130_0_eq s0 w k).mpr h)
noncomputable def F150B : Code := bodyOf f150
def F150A (k:KV) (q:List Nat) (ρ:Env) (w:World) : Prop := At prog 7 F150B (retQ prog f150.results.toList k) q ρ w
def F150_0 (f0:Value) (w:World) (k:KV) : Prop :=
 px prog (Instr.box 107 f0) w fun v1 w =>
 px prog (fieldAt 107 v1 0) w fun v3 w =>
 px prog (loadAt 9 v3) w fun v4 w =>
 pFn prog 130 [v4] w fun v5 w =>
 px prog (Op.unary .not v5) w fun v6 w =>
 k v6 w
theorem F150_0_eq (f0:Value) (w:World) (k:KV) : F150A k [] (argEnv [f0]) w = F150_0 f0 w k := by kernel_rfl
theorem F150_in (f0:Value) (w:World) (k:KV) (h:F150_0 f0 w k) : pFn prog 150 [f0] w k :=
 pFn_of_at mixed func150 (by kernel_rfl) (by kernel_rfl) ntmps150 (by kernel_rfl) (by kernel_rfl) (by simp) ((F150_0_eq f0 w k).mpr h)
noncomputable def F272B : Code := bodyOf f272
def F272A (k:KV) (q:List Nat) (ρ:Env) (w:World) : Prop := At prog 6 F272B (retQ prog f272.results.toList k) q ρ w
def F272_0 (t0:Value) (n1:Value) (w:World) (k:KV) : Prop :=
 px prog (bSem .delete #[82,9] 0 #[n1,t0]) w fun _ w =>
 k (.tuple #[]) w
theorem F272_0_eq (t0:Value) (n1:Value) (w:World) (k:KV) : F272A k [] (argEnv [t0,n1]) w = F272_0 t0 n1 w k := by kernel_rfl
theorem F272_in (t0:Value) (n1:Value) (w:World) (k:KV) (h:F272_0 t0 n1 w k) : pFn prog 272 [t0,n1] w k :=
 pFn_of_at mixed func272 (by kernel_rfl) (by kernel_rfl) ntmps272 (by kernel_rfl) (by kernel_rfl) (by simp) ((F272_0_eq t0 n1 w k).mpr h)
noncomputable def F274B : Code := bodyOf f274
def F274A (k:KV) (q:List Nat) (ρ:Env) (w:World) : Prop := At prog 9 F274B (retQ prog f274.results.toList k) q ρ w
def F274_0 (m0:Value) (n1:Value) (w:World) (k:KV) : Prop :=
 px prog (Instr.box 204 m0) w fun v2 w =>
 px prog (fieldAt 204 v2 0) w fun v5 w =>
 px prog (loadAt 9 v5) w fun v6 w =>
 px prog (fieldAt 204 v2 1) w fun v7 w =>
 px prog (loadAt 132 v7) w fun v8 w =>
 pu prog (Instr.mapUpdate 82 n1 v6 v8) w fun w =>
 k (.tuple #[]) w
theorem F274_0_eq (m0:Value) (n1:Value) (w:World) (k:KV) : F274A k [] (argEnv [m0,n1]) w = F274_0 m0 n1 w k := by kernel_rfl
theorem F274_in (m0:Value) (n1:Value) (w:World) (k:KV) (h:F274_0 m0 n1 w k) : pFn prog 274 [m0,n1] w k :=
 pFn_of_at mixed func274 (by kernel_rfl) (by kernel_rfl) ntmps274 (by kernel_rfl) (by kernel_rfl) (by simp) ((F274_0_eq m0 n1 w k).mpr h)
noncomputable def F276B : Code := bodyOf f276
def F276A (k:KV) (q:List Nat) (ρ:Env) (w:World) : Prop := At prog 16 F276B (retQ prog f276.results.toList k) q ρ w
def F276_0 (g0:Value) (n1:Value) (w:World) (k:KV) : Prop :=
 px prog (Instr.box 207 g0) w fun v2 w =>
 px prog (fieldAt 207 v2 0) w fun v6 w =>
 px prog (loadAt 9 v6) w fun v7 w =>
 px prog (Instr.lookup 82 n1 v7 false) w fun v8 w =>
 px prog (fieldAt 207 v2 0) w fun v10 w =>
 px prog (loadAt 9 v10) w fun v11 w =>
 px prog (bSem .delete #[82,9] 0 #[n1,v11]) w fun _ w =>
 px prog (fieldAt 207 v2 1) w fun v13 w =>
 px prog (loadAt 9 v13) w fun v14 w =>
 pu prog (Instr.mapUpdate 82 n1 v14 v8) w fun w =>
 k (.tuple #[]) w
theorem F276_0_eq (g0:Value) (n1:Value) (w:World) (k:KV) : F276A k [] (argEnv [g0,n1]) w = F276_0 g0 n1 w k := by kernel_rfl
theorem F276_in (g0:Value) (n1:Value) (w:World) (k:KV) (h:F276_0 g0 n1 w k) : pFn prog 276 [g0,n1] w k :=
 pFn_of_at mixed func276 (by kernel_rfl) (by kernel_rfl) ntmps276 (by kernel_rfl) (by kernel_rfl) (by simp) ((F276_0_eq g0 n1 w k).mpr h)
noncomputable def F281B : Code := bodyOf f281
def F281A (k:KV) (q:List Nat) (ρ:Env) (w:World) : Prop := At prog 13 F281B (retQ prog f281.results.toList k) q ρ w
def F281_0 (c0:Value) (on1:Value) (units2:Value) (w:World) (k:KV) : Prop :=
 px prog (binSem .eql 3 (.tmp 7) (.const (.int .i64 0)) units2 (.int .i64 0)) w fun v8 w =>
 pC v8 (
 k on1 w)
 (
 px prog (sliceAt 23 on1 none (some c0) none) w fun v12 w =>
 k v12 w)
theorem F281_0_eq (c0:Value) (on1:Value) (units2:Value) (w:World) (k:KV) : F281A k [] (argEnv [c0,on1,units2]) w = F281_0 c0 on1 units2 w k := by kernel_rfl
theorem F281_in (c0:Value) (on1:Value) (units2:Value) (w:World) (k:KV) (h:F281_0 c0 on1 units2 w k) : pFn prog 281 [c0,on1,units2] w k :=
 pFn_of_at mixed func281 (by kernel_rfl) (by kernel_rfl) ntmps281 (by kernel_rfl) (by kernel_rfl) (by simp) ((F281_0_eq c0 on1 units2 w k).mpr h)
noncomputable def F282B : Code := bodyOf f282
def F282A (k:KV) (q:List Nat) (ρ:Env) (w:World) : Prop := At prog 3 F282B (retQ prog f282.results.toList k) q ρ w
def F282_0 (c0:Value) (w:World) (k:KV) : Prop :=
 k (.int .i64 1) w
theorem F282_0_eq (c0:Value) (w:World) (k:KV) : F282A k [] (argEnv [c0]) w = F282_0 c0 w k := by kernel_rfl
theorem F282_in (c0:Value) (w:World) (k:KV) (h:F282_0 c0 w k) : pFn prog 282 [c0] w k :=
 pFn_of_at mixed func282 (by kernel_rfl) (by kernel_rfl) ntmps282 (by kernel_rfl) (by kernel_rfl) (by simp) ((F282_0_eq c0 w k).mpr h)
noncomputable def F294B : Code := bodyOf f294
def F294A (k:KV) (q:List Nat) (ρ:Env) (w:World) : Prop := At prog 32 F294B (retQ prog f294.results.toList k) q ρ w
def F294_0 (w0:Value) (on1:Value) (units2:Value) (w:World) (k:KV) : Prop :=
 px prog (Instr.box 284 w0) w fun v3 w =>
 px prog (binSem .eql 3 (.tmp 8) (.const (.int .i64 0)) units2 (.int .i64 0)) w fun v9 w =>
 pC v9 (
 k on1 w)
 (
 px prog (bSem .len #[23] 3 #[on1]) w fun v12 w =>
 px prog (fieldAt 284 v3 0) w fun v13 w =>
 px prog (loadAt 3 v13) w fun v14 w =>
 px prog (binSem .add 3 (.tmp 14) (.tmp 15) v14 units2) w fun v16 w =>
 px prog (bSem .max #[3,3] 3 #[v12,v16]) w fun v17 w =>
 px prog (Instr.makeSlice 23 v17 v17) w fun v18 w =>
 px prog (bSem .copy #[23,23] 3 #[v18,on1]) w fun v21 w =>
 ∃ S : World → Prop,S w.drew ∧ (fun w =>
 pq prog S (fieldAt 284 v3 0) fun v23 =>
 pq prog S (loadAt 3 v23) fun v24 =>
 pq prog S (sliceAt 23 v18 (some v24) none none) fun v25 =>
 pq prog S (fieldAt 284 v3 1) fun v26 =>
 pq prog S (loadAt 23 v26) fun v27 =>
 pq prog S (sliceAt 23 v27 none (some units2) none) fun v29 =>
 px prog (bSem .copy #[23,23] 3 #[v25,v29]) w fun v30 w => (
 k v18 w)) w.drew)
theorem F294_0_eq (w0:Value) (on1:Value) (units2:Value) (w:World) (k:KV) : F294A k [] (argEnv [w0,on1,units2]) w = F294_0 w0 on1 units2 w k := by kernel_rfl
theorem F294_in (w0:Value) (on1:Value) (units2:Value) (w:World) (k:KV) (h:F294_0 w0 on1 units2 w k) : pFn prog 294 [w0,on1,units2] w k :=
 pFn_of_at mixed func294 (by kernel_rfl) (by kernel_rfl) ntmps294 (by kernel_rfl) (by kernel_rfl) (by simp) ((F294_0_eq w0 on1 units2 w k).mpr h)
noncomputable def F295B : Code := bodyOf f295
def F295A (k:KV) (q:List Nat) (ρ:Env) (w:World) : Prop := At prog 6 F295B (retQ prog f295.results.toList k) q ρ w
def F295_0 (w0:Value) (w:World) (k:KV) : Prop :=
 px prog (Instr.box 284 w0) w fun v1 w =>
 px prog (fieldAt 284 v1 1) w fun v3 w =>
 px prog (loadAt 23 v3) w fun v4 w =>
 px prog (bSem .len #[23] 3 #[v4]) w fun v5 w =>
 k v5 w
theorem F295_0_eq (w0:Value) (w:World) (k:KV) : F295A k [] (argEnv [w0]) w = F295_0 w0 w k := by kernel_rfl
theorem F295_in (w0:Value) (w:World) (k:KV) (h:F295_0 w0 w k) : pFn prog 295 [w0] w k :=
 pFn_of_at mixed func295 (by kernel_rfl) (by kernel_rfl) ntmps295 (by kernel_rfl) (by kernel_rfl) (by simp) ((F295_0_eq w0 w k).mpr h)
noncomputable def F80B : Code := bodyOf f80
def F80A (k:KV) (q:List Nat) (ρ:Env) (w:World) : Prop := At prog 8 F80B (retQ prog f80.results.toList k) q ρ w
def F80_0 (s0:Value) (w:World) (k:KV) : Prop :=
 px prog (binSem .eql 23 (.tmp 3) (.const (.slice none 0 0)) s0 (.slice none 0 0)) w fun v4 w =>
 pC v4 (
 k (.slice none 0 0) w)
 (
 px prog (Instr.buildSlice 23 0 #[]) w fun v5 w =>
 px prog (bSem .append #[23,23] 23 #[v5,s0]) w fun v7 w =>
 k v7 w)
theorem F80_0_eq (s0:Value) (w:World) (k:KV) : F80A k [] (argEnv [s0]) w = F80_0 s0 w k := by kernel_rfl
theorem F80_in (s0:Value) (w:World) (k:KV) (h:F80_0 s0 w k) : pFn prog 80 [s0] w k :=
 pFn_of_at mixed func80 (by kernel_rfl) (by kernel_rfl) ntmps80 (by kernel_rfl) (by kernel_rfl) (by simp) ((F80_0_eq s0 w k).mpr h)
noncomputable def F149B : Code := bodyOf f149
def F149A (k:KV) (q:List Nat) (ρ:Env) (w:World) : Prop := At prog 9 F149B (retQ prog f149.results.toList k) q ρ w
def F149_0 (s0:Value) (f1:Value) (w:World) (k:KV) : Prop :=
 pFn prog 186 [s0,f1] w fun v7 w =>
 px prog (binSem .geq 3 (.tmp 7) (.const (.int .i64 0)) v7 (.int .i64 0)) w fun v8 w =>
 k v8 w
theorem F149_0_eq (s0:Value) (f1:Value) (w:World) (k:KV) : F149A k [] (argEnv [s0,f1]) w = F149_0 s0 f1 w k := by kernel_rfl
theorem F149_in (s0:Value) (f1:Value) (w:World) (k:KV) (h:F149_0 s0 f1 w k) : pFn prog 149 [s0,f1] w k :=
 pFn_of_at mixed func149 (by kernel_rfl) (by kernel_rfl) ntmps149 (by kernel_rfl) (by kernel_rfl) (by simp) ((F149_0_eq s0 f1 w k).mpr h)
noncomputable def F186B : Code := bodyOf f186
def F186A (k:KV) (q:List Nat) (ρ:Env) (w:World) : Prop := At prog 19 F186B (retQ prog f186.results.toList k) q ρ w
noncomputable def F186B1 : Code := sub F186B [1,0,1,0,0]
def F186Q1 (k:KV) (N1:KE) : Xt → KE := thenE N1 (contAt prog 19 F186B (retQ prog f186.results.toList k) [1,0,1,0])
def F186A1 (k:KV) (N1:KE) (q:List Nat) (ρ:Env) (w:World) : Prop := At prog 19 F186B1 (F186Q1 k N1) q ρ w
def F186L1 (k:KV) (ρ:Env) (w:World) : Prop := LoopAt prog 19 F186B (retQ prog f186.results.toList k) [1,0,1,0] ρ w
theorem F186L1_inv (k:KV) (I:Nat → KE) (round:∀ m ρ w,I m ρ w → F186A1 k (fun ρ' w' => ∃ m',m' < m ∧ I m' ρ' w') [] ρ w) {m:Nat} {ρ:Env} {w:World} (h:I m ρ w) : F186L1 k ρ w :=
 LoopAt_inv mixed (B := F186B) (Q := (retQ prog f186.results.toList k)) (p := [1,0,1,0]) (by kernel_rfl) (by kernel_rfl) I round h
def F186_0 (s0:Value) (f1:Value) (w:World) (k:KV) : Prop :=
 px prog (bSem .len #[36] 3 #[s0]) w fun v7 w =>
 F186L1 k (put (put (put (put (argEnv [s0,f1]) 4 (.int .i64 0)) 6 s0) 7 v7) 8 (.int .i64 0)) w
theorem F186_0_eq (s0:Value) (f1:Value) (w:World) (k:KV) : F186A k [] (argEnv [s0,f1]) w = F186_0 s0 f1 w k := by kernel_rfl
def F186_1 (k:KV) (N1:KE) (ρ:Env) (w:World) : Prop :=
 px prog (binSem .lss 3 (.tmp 8) (.tmp 7) (ρ 8) (ρ 7)) w fun v9 w =>
 pC v9 (
 px prog (indexAt 36 (ρ 0) (ρ 8)) w fun v14 w =>
 px prog (loadAt 107 v14) w fun v15 w =>
 pVal prog (ρ 1) [v15] w fun v16 w =>
 pC v16 (
 k (ρ 8) w)
 (
 px prog (binSem .add 3 (.tmp 8) (.const (.int .i64 1)) (ρ 8) (.int .i64 1)) w fun v18 w =>
 N1 (put (put (put (put (put (put (put (put (put (put (put ρ 9 v9) 10 (ρ 8)) 5 (ρ 8)) 11 (ρ 1)) 12 (ρ 0)) 13 (ρ 8)) 14 v14) 15 v15) 16 v16) 18 v18) 8 v18) w))
 (
 F186A k [1,1] (put ρ 9 v9) w)
theorem F186_1_eq (k:KV) (N1:KE) (ρ:Env) (w:World) : F186A1 k N1 [] ρ w = F186_1 k N1 ρ w := by kernel_rfl
def F186_2 (k:KV) (ρ:Env) (w:World) : Prop :=
 k (.int .i64 (-1)) w
theorem F186_2_eq (k:KV) (ρ:Env) (w:World) : F186A k [1,1] ρ w = F186_2 k ρ w := by kernel_rfl
theorem F186_in (s0:Value) (f1:Value) (w:World) (k:KV) (h:F186_0 s0 f1 w k) : pFn prog 186 [s0,f1] w k :=
 pFn_of_at mixed func186 (by kernel_rfl) (by kernel_rfl) ntmps186 (by kernel_rfl) (by kernel_rfl) (by simp) ((F186_0_eq s0 f1 w k).mpr h)
noncomputable def F96B : Code := bodyOf f96
def F96A (k:KV) (q:List Nat) (ρ:Env) (w:World) : Prop := At prog 9 F96B (retQ prog f96.results.toList k) q ρ w
def F96_0 (m0:Value) (w:World) (k:KV) : Prop :=
 px prog (binSem .eql 82 (.tmp 3) (.const (.map none)) m0 (.map none)) w fun v4 w =>
 pC v4 (
 k (.map none) w)
 (
 px prog (Instr.makeInterface 82 m0) w fun v6 w =>
 pFn prog 152 [v6] w fun v7 w =>
 px prog (Instr.typeAssert v7 20 82 false) w fun v8 w =>
 k v8 w)
theorem F96_0_eq (m0:Value) (w:World) (k:KV) : F96A k [] (argEnv [m0]) w = F96_0 m0 w k := by kernel_rfl
theorem F96_in (m0:Value) (w:World) (k:KV) (h:F96_0 m0 w k) : pFn prog 96 [m0] w k :=
 pFn_of_at mixed func96 (by kernel_rfl) (by kernel_rfl) ntmps96 (by kernel_rfl) (by kernel_rfl) (by simp) ((F96_0_eq m0 w k).mpr h)
noncomputable def F119B : Code := bodyOf f119
def F119A (k:KV) (q:List Nat) (ρ:Env) (w:World) : Prop := At prog 8 F119B (retQ prog f119.results.toList k) q ρ w
def F119_0 (s0:Value) (c1:Value) (w:World) (k:KV) : Prop :=
 pFn prog 170 [s0,c1] w fun v7 w =>
 k v7 w
theorem F119_0_eq (s0:Value) (c1:Value) (w:World) (k:KV) : F119A k [] (argEnv [s0,c1]) w = F119_0 s0 c1 w k := by kernel_rfl
theorem F119_in (s0:Value) (c1:Value) (w:World) (k:KV) (h:F119_0 s0 c1 w k) : pFn prog 119 [s0,c1] w k :=
 pFn_of_at mixed func119 (by kernel_rfl) (by kernel_rfl) ntmps119 (by kernel_rfl) (by kernel_rfl) (by simp) ((F119_0_eq s0 c1 w k).mpr h)
noncomputable def F170B : Code := bodyOf f170
def F170A (k:KV) (q:List Nat) (ρ:Env) (w:World) : Prop := At prog 8 F170B (retQ prog f170.results.toList k) q ρ w
def F170_0 (s0:Value) (c1:Value) (w:World) (k:KV) : Prop :=
 pFn prog 190 [s0,c1] w fun v7 w =>
 k v7 w
theorem F170_0_eq (s0:Value) (c1:Value) (w:World) (k:KV) : F170A k [] (argEnv [s0,c1]) w = F170_0 s0 c1 w k := by kernel_rfl
theorem F170_in (s0:Value) (c1:Value) (w:World) (k:KV) (h:F170_0 s0 c1 w k) : pFn prog 170 [s0,c1] w k :=
 pFn_of_at mixed func170 (by kernel_rfl) (by kernel_rfl) ntmps170 (by kernel_rfl) (by kernel_rfl) (by simp) ((F170_0_eq s0 c1 w k).mpr h)
end Go.Proofs.YteeeggphkhimcaaGreatDoor

set_option linter.unusedSimpArgs false
namespace Go.Proofs.YteeeggphkhimcaaGreatDoor
open Go Go.Proofs Go.RowKit Go.Proofs.XRed Go.Proofs.XHeap Go.Proofs.XMaps Go.Proofs.XSlices Go.Proofs.XDisk Tryz
noncomputable abbrev P : Program := prog
inductive All2 {α β:Type} (R:α → β → Prop) : List α → List β → Prop where
 | nil : All2 R [] []
 | cons {a b l m} : R a b → All2 R l m → All2 R (a :: l) (b :: m)
def ptr (b:Nat) : Value := .pointer (some ⟨b,0,none⟩)
abbrev i64 (n:Int) : Value := .int .i64 n
def SB (w:World) (I:Nat → Prop) (v:Value) (bs:Bytes) : Prop := SBytes w v bs ∧ ∀ b,sblk v = some b → I b
def turnVal (loc:Nat → Nat) : Turn → Value
 | .mk n t => .iface 204 (.agg #[.string n,ptr (loc t)])
 | .give a b => .iface 207 (.agg #[.string a,.string b])
 | .take n => .iface 202 (.string n)
def ChgV (w:World) (I:Nat → Prop) : Chg → Value → Prop
 | .wr a d,v => ∃ s,v = .iface 284 (.agg #[i64 a,s]) ∧ SB w I s d
 | .cut n,v => v = .iface 266 (i64 n)
def spanCells (s:SpanA) : List Value := [.string s.name,i64 s.at_,i64 s.n]
structure TRep (w:World) (O I:Nat → Prop) (T:Nat) (rb:Value) (x:Thg) : Prop where
 ex : ∃ sv hv cs,w.heap[T]? = some (.cells #[sv,hv,rb] 131 (0,0)) ∧ SB w I sv x.safe ∧ SB w I hv x.shown ∧ w.ownsRow 0 240 1 rb x.row.length cs ∧ All2 (ChgV w I) x.row cs
 own : O T
 rown : ∀ b,sblk rb = some b → O b
structure Lay where
 sh : Nat
 sf : Nat
 loc : Nat → Nat
 trow : Nat → Value
 rowv : Value
 readsv : Value
 lsh : Names
 lsf : Names
def dcells (S:AD) (L:Lay) : Array Value :=
 #[i64 S.room,.map (some L.sh),.map (some L.sf),L.rowv,i64 S.strokes,i64 S.plan.off,i64 S.plan.from_,i64 S.plan.to_,i64 S.since,.bool S.off,L.readsv]
def mapVals (L:Lay) (l:Names) : List (ByteArray × Value) := l.map fun p => (p.1,ptr (L.loc p.2))
structure DRep (w:World) (D:Nat) (S:AD) (O I:Nat → Prop) (L:Lay) : Prop where
 disk : w.heap[D]? = some (.cells (dcells S L) 88 (0,0))
 sh : SMap w L.sh (mapVals L L.lsh)
 shp : L.lsh.Perm S.shown
 sf : SMap w L.sf (mapVals L L.lsf)
 sfp : L.lsf.Perm S.safe
 ne : L.sh ≠ L.sf
 row : w.ownsRow 0 174 1 L.rowv S.row.length (S.row.map (turnVal L.loc))
 reads : w.ownsRow 0 209 3 L.readsv S.reads.length (S.reads.flatMap spanCells)
 things : ∀ t,reach S t → TRep w O I (L.loc t) (L.trow t) (S.things t)
 inj : ∀ t u,reach S t → reach S u → L.loc t = L.loc u → t = u
 rows : ∀ t u,reach S t → reach S u → t ≠ u → ∀ b,sblk (L.trow t) = some b → sblk (L.trow u) ≠ some b
 oD : O D
 osh : O L.sh
 osf : O L.sf
 orow : ∀ b,sblk L.rowv = some b → O b
 oreads : ∀ b,sblk L.readsv = some b → O b
 apart : ∀ b,O b → ¬ I b
 lt : ∀ b,O b ∨ I b → b < w.heap.size
theorem SB.fr {O I:Nat → Prop} {w w':World} {v:Value} {bs:Bytes} (h:SB w I v bs) (hf:Fr O w w') (hn:∀ b,I b → ¬ O b) : SB w' I v bs := ⟨h.1.fr hf fun b hb => hn b (h.2 b hb),h.2⟩
theorem SB.mono {I I':Nat → Prop} {w:World} {v:Value} {bs:Bytes} (h:SB w I v bs) (hi:∀ b,I b → I' b) : SB w I' v bs := ⟨h.1,fun b hb => hi b (h.2 b hb)⟩
theorem ChgV.fr {O I:Nat → Prop} {w w':World} {c:Chg} {v:Value} (h:ChgV w I c v) (hf:Fr O w w') (hn:∀ b,I b → ¬ O b) : ChgV w' I c v := by
 cases c with
 | wr a d => obtain ⟨s,hv,hs⟩ := h; exact ⟨s,hv,hs.fr hf hn⟩
 | cut n => exact h
theorem ChgV.mono {I I':Nat → Prop} {w:World} {c:Chg} {v:Value} (h:ChgV w I c v) (hi:∀ b,I b → I' b) : ChgV w I' c v := by
 cases c with
 | wr a d => obtain ⟨s,hv,hs⟩ := h; exact ⟨s,hv,hs.mono hi⟩
 | cut n => exact h
theorem all2_imp {α β:Type} {R R':α → β → Prop} {l:List α} {m:List β} (h:All2 R l m) (hr:∀ a b,R a b → R' a b) : All2 R' l m := by
 induction h with
 | nil => exact .nil
 | cons h _ ih => exact .cons (hr _ _ h) ih
theorem All2.snoc {α β:Type} {R:α → β → Prop} {l:List α} {m:List β} {a:α} {b:β} (h:All2 R l m) (hr:R a b) : All2 R (l ++ [a]) (m ++ [b]) := by
 induction h with
 | nil => exact .cons hr .nil
 | cons h _ ih => exact .cons h ih
theorem All2.at_ {α β:Type} {R:α → β → Prop} {l:List α} {m:List β} (h:All2 R l m) : ∀ {i:Nat} {a:α},l[i]? = some a → ∃ b,m[i]? = some b ∧ R a b := by
 induction h with
 | nil => intro i a ha; simp at ha
 | cons h _ ih =>
  intro i a ha
  cases i with
  | zero => simp at ha; subst ha; exact ⟨_,rfl,h⟩
  | succ i => exact ih (by simpa using ha)
theorem TRep.fr {O O' I M:Nat → Prop} {w w':World} {T:Nat} {rb:Value} {x:Thg} (h:TRep w O I T rb x) (hf:Fr M w w') (hT:¬ M T) (hr:∀ b,sblk rb = some b → ¬ M b) (hn:∀ b,I b → ¬ M b) : TRep w' O I T rb x := by
 obtain ⟨⟨sv,hv,cs,hb,h1,h2,h3,h4⟩,h5,h6⟩ := h
 exact ⟨⟨sv,hv,cs,hf.get hb hT,h1.fr hf hn,h2.fr hf hn,own_fr h3 hf hr,all2_imp h4 fun a b hab => hab.fr hf hn⟩,h5,h6⟩
theorem TRep.mono {O O' I I':Nat → Prop} {w:World} {T:Nat} {rb:Value} {x:Thg} (h:TRep w O I T rb x) (ho:∀ b,O b → O' b) (hi:∀ b,I b → I' b) : TRep w O' I' T rb x := by
 obtain ⟨⟨sv,hv,cs,hb,h1,h2,h3,h4⟩,h5,h6⟩ := h
 exact ⟨⟨sv,hv,cs,hb,h1.mono hi,h2.mono hi,h3,all2_imp h4 fun a b hab => hab.mono hi⟩,ho _ h5,fun b hb => ho _ (h6 b hb)⟩
theorem DRep.fr {w w':World} {D:Nat} {S:AD} {O I M:Nat → Prop} {L:Lay} (h:DRep w D S O I L) (hf:Fr M w w') (hn:∀ b,M b → ¬ O b ∧ ¬ I b) : DRep w' D S O I L where
 disk := hf.get h.disk fun hm => (hn _ hm).1 h.oD
 sh := h.sh.fr hf fun hm => (hn _ hm).1 h.osh
 shp := h.shp
 sf := h.sf.fr hf fun hm => (hn _ hm).1 h.osf
 sfp := h.sfp
 ne := h.ne
 row := own_fr h.row hf fun b hb hm => (hn _ hm).1 (h.orow b hb)
 reads := own_fr h.reads hf fun b hb hm => (hn _ hm).1 (h.oreads b hb)
 things := fun t ht => (h.things t ht).fr (O' := O) hf (fun hm => (hn _ hm).1 (h.things t ht).own) (fun b hb hm => (hn _ hm).1 ((h.things t ht).rown b hb)) fun b hi hm => (hn _ hm).2 hi
 inj := h.inj
 rows := h.rows
 oD := h.oD
 osh := h.osh
 osf := h.osf
 orow := h.orow
 oreads := h.oreads
 apart := h.apart
 lt := fun b hb => Nat.lt_of_lt_of_le (h.lt b hb) hf.size
section
variable {w:World} {D:Nat} {S:AD} {L:Lay} {k:KV}
theorem c_none (h:w.heap[D]? = some (.cells (dcells S L) 88 (0,0))) (hr:1 ≤ S.room) (hk:k (.bool false) w) : pFn P 78 [ptr D] w k := by
 refine F78_in _ _ _ ?_
 unfold F78_0 ptr
 refine s_eqpn upt24 ?_
 refine pG_yes rfl ?_
 refine pG_yes rfl (s_nil ?_)
 refine pG_yes rfl (fa88_0 ?_)
 refine pG_yes rfl (s_ldb (isAgg3 _) h rfl ?_)
 refine pG_yes rfl (s_eqi ?_)
 refine s_pick ?_
 have : (S.room == 0) = false := by simp; omega
 simp only [Option.isNone_some,this]
 exact hk
theorem c_off (h:w.heap[D]? = some (.cells (dcells S L) 88 (0,0))) (hr:1 ≤ S.room) (hk:k (.bool S.off) w) : pFn P 59 [ptr D] w k := by
 refine F59_in _ _ _ ?_
 unfold F59_0
 refine c_none h hr ?_
 refine pG_yes rfl ?_
 refine pG_yes rfl (s_nil ?_)
 refine pG_yes rfl (fa88_7 ?_)
 refine pG_yes rfl (s_ldb (isAgg4 _) h rfl ?_)
 exact s_pick hk
theorem c_strokes (h:w.heap[D]? = some (.cells (dcells S L) 88 (0,0))) (hr:1 ≤ S.room) (hk:k (i64 S.strokes) w) : pFn P 56 [ptr D] w k := by
 refine F56_in _ _ _ ?_
 unfold F56_0
 refine c_none h hr ?_
 exact pC_false (s_nil (fa88_4 (s_ldb (isAgg3 _) h rfl hk)))
end
open Go.Proofs.XCalls
section
variable {w:World} {D:Nat} {S:AD} {L:Lay} {k:KV}
theorem c_indexByteL (s:ByteArray) (c:Int) (hk:k (i64 (Lib.indexByte s.data.toList c.toNat.toUInt8)) w) : pFn P 190 [.string s,.int .u8 c] w k := by
 refine pFn_extern func190 (by kernel_rfl) (by kernel_rfl) (by kernel_rfl) (e := Extern.BytealgIndexByte.indexByte) (by kernel_rfl) ?_
 exact px_ok (Lib.run_indexByteString s c w) hk
theorem c_indexByteM (s:ByteArray) (c:Int) (hk:k (i64 (Lib.indexByte s.data.toList c.toNat.toUInt8)) w) : pFn P 170 [.string s,.int .u8 c] w k := by
 refine F170_in _ _ _ _ ?_
 unfold F170_0
 exact c_indexByteL s c hk
theorem c_indexByte (s:ByteArray) (c:Int) (hk:k (i64 (Lib.indexByte s.data.toList c.toNat.toUInt8)) w) : pFn P 119 [.string s,.int .u8 c] w k := by
 refine F119_in _ _ _ _ ?_
 unfold F119_0
 exact c_indexByteM s c hk
theorem tmod_up (pick b:Int) (hb:0 < b) : (if pick.tmod b < 0 then pick.tmod b + b else pick.tmod b) = pick.emod b ∧ -b < pick.tmod b ∧ pick.tmod b < b := by
 have e := @Int.tmod_eq_emod pick b
 have e1 : (b.natAbs : Int) = b := by omega
 have e2 := Int.emod_nonneg pick (show b ≠ 0 by omega)
 have e3 := Int.emod_lt_of_pos pick hb
 have e4 : pick.emod b = pick % b := rfl
 by_cases h : 0 ≤ pick ∨ b ∣ pick
 ·rw [if_pos h] at e
  simp only [Int.natCast_zero,Int.sub_zero] at e
  rw [if_neg (by omega)]
  omega
 ·rw [if_neg h,e1] at e
  have : pick % b ≠ 0 := fun h' => h (.inr (Int.dvd_of_emod_eq_zero h'))
  rw [if_pos (by omega)]
  omega
theorem c_round {pick most:Int} (h0:0 ≤ most) (h1:most ≤ 4611686018427387904) (hk:k (i64 (pick.emod (most + 1))) w) : pFn P 95 [i64 pick,i64 most] w k := by
 refine F95_in _ _ _ _ ?_
 unfold F95_0
 obtain ⟨e,e2,e3⟩ := tmod_up pick (most + 1) (by omega)
 refine s_add_in (by omega) ?_
 refine s_rem (by omega) ?_
 refine s_lt ?_
 by_cases h : pick.tmod (most + 1) < 0
 ·rw [if_pos h] at e
  rw [decide_eq_true h]
  refine pC_true ?_
  refine s_add_in (by omega) ?_
  refine s_add_in (by omega) ?_
  rw [F95_1_eq]
  unfold F95_1
  show k (i64 (pick.tmod (most + 1) + (most + 1))) w
  rw [e]; exact hk
 ·rw [if_neg h] at e
  rw [decide_eq_false h]
  refine pC_false ?_
  rw [F95_1_eq]
  unfold F95_1
  show k (i64 (pick.tmod (most + 1))) w
  rw [e]; exact hk
theorem ix_ok (c:UInt8) : okByte c = ((97 ≤ c && c ≤ 122) || (48 ≤ c && c ≤ 57) || decide (0 ≤ Lib.indexByte [46,45,95,43] c)) := by
 rw [← Lib.contains_iff_indexByte]
 simp [okByte,List.contains_cons,Bool.or_assoc,beq_iff_eq,Bool.beq_eq_decide_eq]
set_option maxHeartbeats 1000000 in
theorem c_isName (s:ByteArray) (hs:s.size ≤ 9223372036854775807) (hk:k (.bool (isName s)) w) : pFn P 130 [.string s] w k := by
  refine F130_in _ _ _ ?_
  unfold F130_0
  refine s_lens (by kernel_rfl) ?_
  refine F130L1_inv (m := s.size) k (fun m ρ w' => w' = w ∧ ρ 0 = .string s ∧ ρ 6 = i64 s.size ∧ ∃ i : Nat,ρ 7 = i64 i ∧ i + m = s.size ∧ ∀ j (hj:j < s.size),j < i → okByte s[j] = true) ?_ ⟨rfl,rfl,rfl,0,rfl,by omega,fun j _ hj => absurd hj (by omega)⟩
  rintro m ρ w' ⟨rfl,h0,h6,i,h7,him,hok⟩
  rw [F130_1_eq]
  unfold F130_1
  rw [h0,h6,h7]
  refine s_lt ?_
  by_cases hi : i < s.size
  · rw [decide_eq_true (by omega)]
    refine pC_true (s_ixs (by kernel_rfl) hi ?_)
    have hix := ix_ok s[i]
    generalize hc : s[i] = c at *
    have hn : c.toNat.toUInt8 = c := by simp
    have hlt := c.toNat_lt
    have hb : okByte c = (decide (97 ≤ c.toNat ∧ c.toNat ≤ 122) || decide (48 ≤ c.toNat ∧ c.toNat ≤ 57) || decide (0 ≤ Lib.indexByte [46,45,95,43] c)) := by
      rw [hix]; simp [UInt8.le_iff_toNat_le,Bool.decide_and]
    have next : okByte c = true → ∀ j (hj:j < s.size),j < i + 1 → okByte s[j] = true := by
      intro h j hj hji
      by_cases e : j = i
      · subst e; rw [hc]; exact h
      · exact hok j hj (by omega)
    have bad : okByte c = false → isName s = false := by
      intro h
      unfold isName
      have : s.data.toList.all okByte = false := by
        rw [Bool.eq_false_iff]
        intro ha
        rw [List.all_eq_true] at ha
        have := ha c (by
          rw [← hc]
          have : i < s.data.toList.length := by simpa using hi
          have e : s[i] = s.data.toList[i] := rfl
          rw [e]; exact List.getElem_mem _)
        rw [h] at this; cases this
      simp [this]
    have eb : ((c.toNat : Int).toNat).toUInt8 = c := by simp
    have el : (ByteArray.mk #[46,45,95,43]).data.toList = [46,45,95,43] := rfl
    by_cases a1 : (c.toNat : Int) < 97 <;> by_cases a2 : (c.toNat : Int) > 122 <;> by_cases a3 : (c.toNat : Int) < 48 <;> by_cases a4 : (c.toNat : Int) > 57
    all_goals try (exfalso; omega)
    all_goals
      repeat (first | refine pG_yes rfl ?_ | refine pG_sk ?_ | refine pG_skf ?_ | refine pG_un ?_ | refine s_lt_t (by assumption) ?_ | refine s_lt_f (by assumption) ?_ | refine s_gt_t (by assumption) ?_ | refine s_gt_f (by assumption) ?_ | refine s_pick_t ?_ | refine s_pick_f ?_ | refine pC_true ?_ | refine pC_false ?_)
    all_goals first
      | (refine s_add_in (by omega) ?_
         exact ⟨m - 1,by omega,rfl,h0,h6,i + 1,rfl,by omega,next (by rw [hb,decide_eq_true (show 97 ≤ c.toNat ∧ c.toNat ≤ 122 by omega)]; rfl)⟩)
      | (refine s_add_in (by omega) ?_
         exact ⟨m - 1,by omega,rfl,h0,h6,i + 1,rfl,by omega,next (by rw [hb,decide_eq_true (show 48 ≤ c.toNat ∧ c.toNat ≤ 57 by omega)]; simp)⟩)
      | skip
    all_goals
      refine c_indexByte _ _ ?_
      rw [eb,el]
      have hb' : okByte c = decide (0 ≤ Lib.indexByte [46,45,95,43] c) := by
        rw [hb,decide_eq_false (show ¬ (97 ≤ c.toNat ∧ c.toNat ≤ 122) by omega),decide_eq_false (show ¬ (48 ≤ c.toNat ∧ c.toNat ≤ 57) by omega)]; rfl
      by_cases C : Lib.indexByte [46,45,95,43] c < 0
      · repeat (first | refine pG_yes rfl ?_ | refine pG_sk ?_ | refine pG_skf ?_ | refine pG_un ?_ | refine s_lt_t (by assumption) ?_ | refine s_lt_f (by assumption) ?_ | refine s_gt_t (by assumption) ?_ | refine s_gt_f (by assumption) ?_ | refine s_pick_t ?_ | refine s_pick_f ?_ | refine pC_true ?_ | refine pC_false ?_)
        rw [bad (by rw [hb']; exact decide_eq_false (by omega))] at hk
        exact hk
      · repeat (first | refine pG_yes rfl ?_ | refine pG_sk ?_ | refine pG_skf ?_ | refine pG_un ?_ | refine s_lt_t (by assumption) ?_ | refine s_lt_f (by assumption) ?_ | refine s_gt_t (by assumption) ?_ | refine s_gt_f (by assumption) ?_ | refine s_pick_t ?_ | refine s_pick_f ?_ | refine pC_true ?_ | refine pC_false ?_)
        refine s_add_in (by omega) ?_
        exact ⟨m - 1,by omega,rfl,h0,h6,i + 1,rfl,by omega,next (by rw [hb']; exact decide_eq_true (by omega))⟩
  · rw [decide_eq_false (by omega)]
    refine pC_false ?_
    rw [F130_2_eq]
    unfold F130_2
    have hall : s.data.toList.all okByte = true := by
      rw [List.all_eq_true]
      intro c hc
      obtain ⟨j,hj,rfl⟩ := List.getElem_of_mem hc
      have hj' : j < s.size := by simpa using hj
      exact hok j hj' (by omega)
    have hfin : isName s = (decide (s ≠ ByteArray.mk #[]) && decide (s.size ≤ 112)) := by
      unfold isName
      rw [hall,Bool.true_and]
      congr 1
      have : s ≠ ByteArray.mk #[] ↔ 1 ≤ s.size := by
        constructor
        · intro h
          rcases Nat.eq_zero_or_pos s.size with h' | h'
          · exact absurd (ByteArray.ext (Array.eq_empty_of_size_eq_zero h')) h
          · exact h'
        · rintro h rfl; exact absurd h (by decide)
      exact decide_eq_decide.2 this.symm
    have h0' : put ρ 8 (.bool false) 0 = .string s := h0
    rw [h0']
    refine s_nes ?_
    by_cases e : s = ByteArray.mk #[]
    · rw [decide_eq_true e]
      refine pG_sk ?_
      refine pG_sk ?_
      refine pG_sk ?_
      refine s_pick_f ?_
      rw [hfin] at hk
      simpa [e] using hk
    · rw [decide_eq_false e]
      refine pG_yes rfl (pG_yes rfl (s_lens (by kernel_rfl) (pG_yes rfl (s_le (s_pick_t ?_)))))
      rw [hfin] at hk
      have : decide ((s.size : Int) ≤ 112) = decide (s.size ≤ 112) := decide_eq_decide.2 (by omega)
      rw [this]
      simpa [e] using hk
end
end Go.Proofs.YteeeggphkhimcaaGreatDoor
