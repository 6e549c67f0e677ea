/- Put together by a program (wip/tools/shake.py): Steps. -/
import Derived.Test.YtcdcojpfealppaaGreatV3
import Derived.Test.YtcdcojpfealppaaGreatProg
import Derived.Carry
set_option linter.unusedVariables false
set_option maxRecDepth 100000
namespace Go.Proofs.YtcdcojpfealppaaGreat
open Go Go.Proofs Go.RowKit Go.Proofs.XRed Go.Proofs.XHeap Go.Proofs.XMaps Go.Proofs.XSlices Tryz
section
variable {w : World} {k : Value → World → Prop}
theorem fa33_0 {b o : Nat} (hk : k (.pointer (some ⟨b, o + 0, none⟩)) w) : px prog (Instr.fieldAt 33 (.pointer (some ⟨b, o, none⟩)) 0) w k :=
 s_fa 29 0 (runUnderlying33 w) (by kernel_rfl) (sizeOf29 w) (by decide) hk
theorem fa33_1 {b o : Nat} (hk : k (.pointer (some ⟨b, o + 1, none⟩)) w) : px prog (Instr.fieldAt 33 (.pointer (some ⟨b, o, none⟩)) 1) w k :=
 s_fa 30 1 (runUnderlying33 w) (by kernel_rfl) (sizeOf30 w) (by decide) hk
theorem fa33_2 {b o : Nat} (hk : k (.pointer (some ⟨b, o + 2, none⟩)) w) : px prog (Instr.fieldAt 33 (.pointer (some ⟨b, o, none⟩)) 2) w k :=
 s_fa 31 2 (runUnderlying33 w) (by kernel_rfl) (sizeOf31 w) (by decide) hk
theorem fa38_0 {b o : Nat} (hk : k (.pointer (some ⟨b, o + 0, none⟩)) w) : px prog (Instr.fieldAt 38 (.pointer (some ⟨b, o, none⟩)) 0) w k :=
 s_fa 3 0 (runUnderlying38 w) (by kernel_rfl) (sizeOf3 w) (by decide) hk
theorem fa38_1 {b o : Nat} (hk : k (.pointer (some ⟨b, o + 1, none⟩)) w) : px prog (Instr.fieldAt 38 (.pointer (some ⟨b, o, none⟩)) 1) w k :=
 s_fa 3 1 (runUnderlying38 w) (by kernel_rfl) (sizeOf3 w) (by decide) hk
theorem fa38_2 {b o : Nat} (hk : k (.pointer (some ⟨b, o + 2, none⟩)) w) : px prog (Instr.fieldAt 38 (.pointer (some ⟨b, o, none⟩)) 2) w k :=
 s_fa 3 2 (runUnderlying38 w) (by kernel_rfl) (sizeOf3 w) (by decide) hk
theorem fa41_0 {b o : Nat} (hk : k (.pointer (some ⟨b, o + 0, none⟩)) w) : px prog (Instr.fieldAt 41 (.pointer (some ⟨b, o, none⟩)) 0) w k :=
 s_fa 3 0 (runUnderlying41 w) (by kernel_rfl) (sizeOf3 w) (by decide) hk
theorem fa41_1 {b o : Nat} (hk : k (.pointer (some ⟨b, o + 1, none⟩)) w) : px prog (Instr.fieldAt 41 (.pointer (some ⟨b, o, none⟩)) 1) w k :=
 s_fa 9 1 (runUnderlying41 w) (by kernel_rfl) (sizeOf9 w) (by decide) hk
theorem fa41_2 {b o : Nat} (hk : k (.pointer (some ⟨b, o + 2, none⟩)) w) : px prog (Instr.fieldAt 41 (.pointer (some ⟨b, o, none⟩)) 2) w k :=
 s_fa 9 2 (runUnderlying41 w) (by kernel_rfl) (sizeOf9 w) (by decide) hk
theorem fa41_3 {b o : Nat} (hk : k (.pointer (some ⟨b, o + 3, none⟩)) w) : px prog (Instr.fieldAt 41 (.pointer (some ⟨b, o, none⟩)) 3) w k :=
 s_fa 3 3 (runUnderlying41 w) (by kernel_rfl) (sizeOf3 w) (by decide) hk
theorem fa41_4 {b o : Nat} (hk : k (.pointer (some ⟨b, o + 4, none⟩)) w) : px prog (Instr.fieldAt 41 (.pointer (some ⟨b, o, none⟩)) 4) w k :=
 s_fa 3 4 (runUnderlying41 w) (by kernel_rfl) (sizeOf3 w) (by decide) hk
theorem fa41_5 {b o : Nat} (hk : k (.pointer (some ⟨b, o + 5, none⟩)) w) : px prog (Instr.fieldAt 41 (.pointer (some ⟨b, o, none⟩)) 5) w k :=
 s_fa 36 5 (runUnderlying41 w) (by kernel_rfl) (sizeOf36 w) (by decide) hk
theorem fa41_6 {b o : Nat} (hk : k (.pointer (some ⟨b, o + 6, none⟩)) w) : px prog (Instr.fieldAt 41 (.pointer (some ⟨b, o, none⟩)) 6) w k :=
 s_fa 38 6 (runUnderlying41 w) (by kernel_rfl) (sizeOf38 w) (by decide) hk
theorem fa41_7 {b o : Nat} (hk : k (.pointer (some ⟨b, o + 9, none⟩)) w) : px prog (Instr.fieldAt 41 (.pointer (some ⟨b, o, none⟩)) 7) w k :=
 s_fa 39 9 (runUnderlying41 w) (by kernel_rfl) (sizeOf39 w) (by decide) hk
theorem fa51_0 {b o : Nat} (hk : k (.pointer (some ⟨b, o + 0, none⟩)) w) : px prog (Instr.fieldAt 51 (.pointer (some ⟨b, o, none⟩)) 0) w k :=
 s_fa 36 0 (runUnderlying51 w) (by kernel_rfl) (sizeOf36 w) (by decide) hk
theorem fa51_1 {b o : Nat} (hk : k (.pointer (some ⟨b, o + 1, none⟩)) w) : px prog (Instr.fieldAt 51 (.pointer (some ⟨b, o, none⟩)) 1) w k :=
 s_fa 39 1 (runUnderlying51 w) (by kernel_rfl) (sizeOf39 w) (by decide) hk
theorem fa58_0 {b o : Nat} (hk : k (.pointer (some ⟨b, o + 0, none⟩)) w) : px prog (Instr.fieldAt 58 (.pointer (some ⟨b, o, none⟩)) 0) w k :=
 s_fa 3 0 (runUnderlying58 w) (by kernel_rfl) (sizeOf3 w) (by decide) hk
theorem fa58_1 {b o : Nat} (hk : k (.pointer (some ⟨b, o + 1, none⟩)) w) : px prog (Instr.fieldAt 58 (.pointer (some ⟨b, o, none⟩)) 1) w k :=
 s_fa 54 1 (runUnderlying58 w) (by kernel_rfl) (sizeOf54 w) (by decide) hk
theorem fa58_2 {b o : Nat} (hk : k (.pointer (some ⟨b, o + 2, none⟩)) w) : px prog (Instr.fieldAt 58 (.pointer (some ⟨b, o, none⟩)) 2) w k :=
 s_fa 54 2 (runUnderlying58 w) (by kernel_rfl) (sizeOf54 w) (by decide) hk
theorem fa58_3 {b o : Nat} (hk : k (.pointer (some ⟨b, o + 3, none⟩)) w) : px prog (Instr.fieldAt 58 (.pointer (some ⟨b, o, none⟩)) 3) w k :=
 s_fa 55 3 (runUnderlying58 w) (by kernel_rfl) (sizeOf55 w) (by decide) hk
theorem fa58_4 {b o : Nat} (hk : k (.pointer (some ⟨b, o + 4, none⟩)) w) : px prog (Instr.fieldAt 58 (.pointer (some ⟨b, o, none⟩)) 4) w k :=
 s_fa 3 4 (runUnderlying58 w) (by kernel_rfl) (sizeOf3 w) (by decide) hk
theorem fa58_5 {b o : Nat} (hk : k (.pointer (some ⟨b, o + 5, none⟩)) w) : px prog (Instr.fieldAt 58 (.pointer (some ⟨b, o, none⟩)) 5) w k :=
 s_fa 38 5 (runUnderlying58 w) (by kernel_rfl) (sizeOf38 w) (by decide) hk
theorem fa58_6 {b o : Nat} (hk : k (.pointer (some ⟨b, o + 8, none⟩)) w) : px prog (Instr.fieldAt 58 (.pointer (some ⟨b, o, none⟩)) 6) w k :=
 s_fa 3 8 (runUnderlying58 w) (by kernel_rfl) (sizeOf3 w) (by decide) hk
theorem fa58_7 {b o : Nat} (hk : k (.pointer (some ⟨b, o + 9, none⟩)) w) : px prog (Instr.fieldAt 58 (.pointer (some ⟨b, o, none⟩)) 7) w k :=
 s_fa 4 9 (runUnderlying58 w) (by kernel_rfl) (sizeOf4 w) (by decide) hk
theorem fa58_8 {b o : Nat} (hk : k (.pointer (some ⟨b, o + 10, none⟩)) w) : px prog (Instr.fieldAt 58 (.pointer (some ⟨b, o, none⟩)) 8) w k :=
 s_fa 56 10 (runUnderlying58 w) (by kernel_rfl) (sizeOf56 w) (by decide) hk
theorem fa62_0 {b o : Nat} (hk : k (.pointer (some ⟨b, o + 0, none⟩)) w) : px prog (Instr.fieldAt 62 (.pointer (some ⟨b, o, none⟩)) 0) w k :=
 s_fa 4 0 (runUnderlying62 w) (by kernel_rfl) (sizeOf4 w) (by decide) hk
theorem fa62_1 {b o : Nat} (hk : k (.pointer (some ⟨b, o + 1, none⟩)) w) : px prog (Instr.fieldAt 62 (.pointer (some ⟨b, o, none⟩)) 1) w k :=
 s_fa 3 1 (runUnderlying62 w) (by kernel_rfl) (sizeOf3 w) (by decide) hk
theorem fa62_2 {b o : Nat} (hk : k (.pointer (some ⟨b, o + 2, none⟩)) w) : px prog (Instr.fieldAt 62 (.pointer (some ⟨b, o, none⟩)) 2) w k :=
 s_fa 59 2 (runUnderlying62 w) (by kernel_rfl) (sizeOf59 w) (by decide) hk
theorem fa62_3 {b o : Nat} (hk : k (.pointer (some ⟨b, o + 3, none⟩)) w) : px prog (Instr.fieldAt 62 (.pointer (some ⟨b, o, none⟩)) 3) w k :=
 s_fa 59 3 (runUnderlying62 w) (by kernel_rfl) (sizeOf59 w) (by decide) hk
theorem fa62_5 {b o : Nat} (hk : k (.pointer (some ⟨b, o + 5, none⟩)) w) : px prog (Instr.fieldAt 62 (.pointer (some ⟨b, o, none⟩)) 5) w k :=
 s_fa 3 5 (runUnderlying62 w) (by kernel_rfl) (sizeOf3 w) (by decide) hk
theorem fa62_8 {b o : Nat} (hk : k (.pointer (some ⟨b, o + 10, none⟩)) w) : px prog (Instr.fieldAt 62 (.pointer (some ⟨b, o, none⟩)) 8) w k :=
 s_fa 56 10 (runUnderlying62 w) (by kernel_rfl) (sizeOf56 w) (by decide) hk
theorem fa83_0 {b o : Nat} (hk : k (.pointer (some ⟨b, o + 0, none⟩)) w) : px prog (Instr.fieldAt 83 (.pointer (some ⟨b, o, none⟩)) 0) w k :=
 s_fa 9 0 (runUnderlying83 w) (by kernel_rfl) (sizeOf9 w) (by decide) hk
theorem fa83_1 {b o : Nat} (hk : k (.pointer (some ⟨b, o + 1, none⟩)) w) : px prog (Instr.fieldAt 83 (.pointer (some ⟨b, o, none⟩)) 1) w k :=
 s_fa 36 1 (runUnderlying83 w) (by kernel_rfl) (sizeOf36 w) (by decide) hk
theorem fa124_0 {b o : Nat} (hk : k (.pointer (some ⟨b, o + 0, none⟩)) w) : px prog (Instr.fieldAt 124 (.pointer (some ⟨b, o, none⟩)) 0) w k :=
 s_fa 36 0 (runUnderlying124 w) (by kernel_rfl) (sizeOf36 w) (by decide) hk
theorem fa124_1 {b o : Nat} (hk : k (.pointer (some ⟨b, o + 1, none⟩)) w) : px prog (Instr.fieldAt 124 (.pointer (some ⟨b, o, none⟩)) 1) w k :=
 s_fa 36 1 (runUnderlying124 w) (by kernel_rfl) (sizeOf36 w) (by decide) hk
theorem fa124_2 {b o : Nat} (hk : k (.pointer (some ⟨b, o + 2, none⟩)) w) : px prog (Instr.fieldAt 124 (.pointer (some ⟨b, o, none⟩)) 2) w k :=
 s_fa 122 2 (runUnderlying124 w) (by kernel_rfl) (sizeOf122 w) (by decide) hk
theorem fa126_0 {b o : Nat} (hk : k (.pointer (some ⟨b, o + 0, none⟩)) w) : px prog (Instr.fieldAt 126 (.pointer (some ⟨b, o, none⟩)) 0) w k :=
 s_fa 9 0 (runUnderlying126 w) (by kernel_rfl) (sizeOf9 w) (by decide) hk
theorem fa126_1 {b o : Nat} (hk : k (.pointer (some ⟨b, o + 1, none⟩)) w) : px prog (Instr.fieldAt 126 (.pointer (some ⟨b, o, none⟩)) 1) w k :=
 s_fa 117 1 (runUnderlying126 w) (by kernel_rfl) (sizeOf117 w) (by decide) hk
theorem fa172_0 {b o : Nat} (hk : k (.pointer (some ⟨b, o + 0, none⟩)) w) : px prog (Instr.fieldAt 172 (.pointer (some ⟨b, o, none⟩)) 0) w k :=
 s_fa 9 0 (runUnderlying172 w) (by kernel_rfl) (sizeOf9 w) (by decide) hk
theorem fa172_1 {b o : Nat} (hk : k (.pointer (some ⟨b, o + 1, none⟩)) w) : px prog (Instr.fieldAt 172 (.pointer (some ⟨b, o, none⟩)) 1) w k :=
 s_fa 9 1 (runUnderlying172 w) (by kernel_rfl) (sizeOf9 w) (by decide) hk
theorem fa184_0 {b o : Nat} (hk : k (.pointer (some ⟨b, o + 0, none⟩)) w) : px prog (Instr.fieldAt 184 (.pointer (some ⟨b, o, none⟩)) 0) w k :=
 s_fa 3 0 (runUnderlying184 w) (by kernel_rfl) (sizeOf3 w) (by decide) hk
theorem fa184_1 {b o : Nat} (hk : k (.pointer (some ⟨b, o + 1, none⟩)) w) : px prog (Instr.fieldAt 184 (.pointer (some ⟨b, o, none⟩)) 1) w k :=
 s_fa 36 1 (runUnderlying184 w) (by kernel_rfl) (sizeOf36 w) (by decide) hk
theorem usl22 : prog.underlying 22 = some (.slice (prog.elem 22)) := by kernel_rfl
theorem elm22 : prog.elem 22 = 41 := by kernel_rfl
theorem sze22 (w : World) : (sizeOf (prog.elem 22)).run prog w = .ok 10 w := by rw [elm22]; exact sizeOf41 w
theorem usl36 : prog.underlying 36 = some (.slice (prog.elem 36)) := by kernel_rfl
theorem elm36 : prog.elem 36 = 5 := by kernel_rfl
theorem sze36 (w : World) : (sizeOf (prog.elem 36)).run prog w = .ok 1 w := by rw [elm36]; exact sizeOf5 w
theorem usl39 : prog.underlying 39 = some (.slice (prog.elem 39)) := by kernel_rfl
theorem elm39 : prog.elem 39 = 3 := by kernel_rfl
theorem sze39 (w : World) : (sizeOf (prog.elem 39)).run prog w = .ok 1 w := by rw [elm39]; exact sizeOf3 w
theorem usl55 : prog.underlying 55 = some (.slice (prog.elem 55)) := by kernel_rfl
theorem elm55 : prog.elem 55 = 136 := by kernel_rfl
theorem sze55 (w : World) : (sizeOf (prog.elem 55)).run prog w = .ok 1 w := by rw [elm55]; exact sizeOf136 w
theorem usl56 : prog.underlying 56 = some (.slice (prog.elem 56)) := by kernel_rfl
theorem elm56 : prog.elem 56 = 134 := by kernel_rfl
theorem sze56 (w : World) : (sizeOf (prog.elem 56)).run prog w = .ok 3 w := by rw [elm56]; exact sizeOf134 w
theorem usl59 : prog.underlying 59 = some (.slice (prog.elem 59)) := by kernel_rfl
theorem usl71 : prog.underlying 71 = some (.slice (prog.elem 71)) := by kernel_rfl
theorem elm71 : prog.elem 71 = 83 := by kernel_rfl
theorem sze71 (w : World) : (sizeOf (prog.elem 71)).run prog w = .ok 2 w := by rw [elm71]; exact sizeOf83 w
theorem usl73 : prog.underlying 73 = some (.slice (prog.elem 73)) := by kernel_rfl
theorem elm73 : prog.elem 73 = 9 := by kernel_rfl
theorem sze73 (w : World) : (sizeOf (prog.elem 73)).run prog w = .ok 1 w := by rw [elm73]; exact sizeOf9 w
theorem usl122 : prog.underlying 122 = some (.slice (prog.elem 122)) := by kernel_rfl
theorem elm122 : prog.elem 122 = 130 := by kernel_rfl
theorem sze122 (w : World) : (sizeOf (prog.elem 122)).run prog w = .ok 1 w := by rw [elm122]; exact sizeOf130 w
theorem upt29 : prog.underlying 29 = some (.pointer (prog.pointee 29)) := by kernel_rfl
theorem upt30 : prog.underlying 30 = some (.pointer (prog.pointee 30)) := by kernel_rfl
theorem upt117 : prog.underlying 117 = some (.pointer (prog.pointee 117)) := by kernel_rfl
theorem cc54 : prog.concrete 54 = true := by kernel_rfl
theorem cc126 : prog.concrete 126 = true := by kernel_rfl
theorem cc172 : prog.concrete 172 = true := by kernel_rfl
theorem cc177 : prog.concrete 177 = true := by kernel_rfl
theorem cc184 : prog.concrete 184 = true := by kernel_rfl
theorem lit0_36 (hk : k (.slice (some ⟨w.heap.size, 0, none⟩) 0 0) (w.alloc (.cells #[] 5))) : px prog (Instr.buildSlice 36 0 #[]) w k := s_lit0 (runUnderlying36 w) (sizeOf5 w) hk
theorem lit1_55 {x : Value} (hx : x.cells = #[x]) (hk : k (.slice (some ⟨w.heap.size, 0, none⟩) 1 1) (w.alloc (.cells #[x] 136))) : px prog (Instr.buildSlice 55 1 #[(0, x)]) w k := s_lit1 (runUnderlying55 w) (sizeOf136 w) (zeroValue136 w) rfl hx hk
theorem lit0_56 (hk : k (.slice (some ⟨w.heap.size, 0, none⟩) 0 0) (w.alloc (.cells #[] 134))) : px prog (Instr.buildSlice 56 0 #[]) w k := s_lit0 (runUnderlying56 w) (sizeOf134 w) hk
theorem lit1_122 {x : Value} (hx : x.cells = #[x]) (hk : k (.slice (some ⟨w.heap.size, 0, none⟩) 1 1) (w.alloc (.cells #[x] 130))) : px prog (Instr.buildSlice 122 1 #[(0, x)]) w k := s_lit1 (runUnderlying122 w) (sizeOf130 w) (zeroValue130 w) rfl hx hk
theorem ap36 {base n m : Nat} {v x : Value} {xs cs : List Value} (HO : w.ownsRow base 5 1 v n xs) (HS : Src w x 1 m cs) (h1 : ∀ u ∈ cs, u.oneCell' = true) (hb : (n + m) * 1 ≤ 140737488355328) (hbase : base ≤ w.heap.size)
    (hk : ∀ v' w', w'.ownsRow base 5 1 v' (n + m) (xs ++ cs) → Fr (fun b => some b = sblk v) w w' → (sblk v' = sblk v ∨ sblk v' = some w.heap.size) → k v' w') : px prog (bSem .append #[36, 36] 36 #[v, x]) w k := by
  refine s_append (P := prog) (t := 36) (e := 5) (i := t5) (z := (t5.zero).getD undef) (size := 1) (bytes := 1) (by kernel_rfl) rfl (by kernel_rfl) (by kernel_rfl) (by kernel_rfl) (by kernel_rfl) (by kernel_rfl) (by decide) HO HS h1 ?_ hb hbase hk
  unfold maxLen; omega
theorem ap55 {base n m : Nat} {v x : Value} {xs cs : List Value} (HO : w.ownsRow base 136 1 v n xs) (HS : Src w x 1 m cs) (h1 : ∀ u ∈ cs, u.oneCell' = true) (hb : (n + m) * 16 ≤ 140737488355328) (hbase : base ≤ w.heap.size)
    (hk : ∀ v' w', w'.ownsRow base 136 1 v' (n + m) (xs ++ cs) → Fr (fun b => some b = sblk v) w w' → (sblk v' = sblk v ∨ sblk v' = some w.heap.size) → k v' w') : px prog (bSem .append #[55, 55] 55 #[v, x]) w k := by
  refine s_append (P := prog) (t := 55) (e := 136) (i := t136) (z := (t136.zero).getD undef) (size := 1) (bytes := 16) (by kernel_rfl) rfl (by kernel_rfl) (by kernel_rfl) (by kernel_rfl) (by kernel_rfl) (by kernel_rfl) (by decide) HO HS h1 ?_ hb hbase hk
  unfold maxLen; omega
theorem ap56 {base n m : Nat} {v x : Value} {xs cs : List Value} (HO : w.ownsRow base 134 3 v n xs) (HS : Src w x 3 m cs) (h1 : ∀ u ∈ cs, u.oneCell' = true) (hb : (n + m) * 32 ≤ 140737488355328) (hbase : base ≤ w.heap.size)
    (hk : ∀ v' w', w'.ownsRow base 134 3 v' (n + m) (xs ++ cs) → Fr (fun b => some b = sblk v) w w' → (sblk v' = sblk v ∨ sblk v' = some w.heap.size) → k v' w') : px prog (bSem .append #[56, 56] 56 #[v, x]) w k := by
  refine s_append (P := prog) (t := 56) (e := 134) (i := t134) (z := (t134.zero).getD undef) (size := 3) (bytes := 32) (by kernel_rfl) rfl (by kernel_rfl) (by kernel_rfl) (by kernel_rfl) (by kernel_rfl) (by kernel_rfl) (by decide) HO HS h1 ?_ hb hbase hk
  unfold maxLen; omega
theorem ap71 {base n m : Nat} {v x : Value} {xs cs : List Value} (HO : w.ownsRow base 83 2 v n xs) (HS : Src w x 2 m cs) (h1 : ∀ u ∈ cs, u.oneCell' = true) (hb : (n + m) * 40 ≤ 140737488355328) (hbase : base ≤ w.heap.size)
    (hk : ∀ v' w', w'.ownsRow base 83 2 v' (n + m) (xs ++ cs) → Fr (fun b => some b = sblk v) w w' → (sblk v' = sblk v ∨ sblk v' = some w.heap.size) → k v' w') : px prog (bSem .append #[71, 71] 71 #[v, x]) w k := by
  refine s_append (P := prog) (t := 71) (e := 83) (i := t83) (z := (t83.zero).getD undef) (size := 2) (bytes := 40) (by kernel_rfl) rfl (by kernel_rfl) (by kernel_rfl) (by kernel_rfl) (by kernel_rfl) (by kernel_rfl) (by decide) HO HS h1 ?_ hb hbase hk
  unfold maxLen; omega
theorem ap122 {base n m : Nat} {v x : Value} {xs cs : List Value} (HO : w.ownsRow base 130 1 v n xs) (HS : Src w x 1 m cs) (h1 : ∀ u ∈ cs, u.oneCell' = true) (hb : (n + m) * 16 ≤ 140737488355328) (hbase : base ≤ w.heap.size)
    (hk : ∀ v' w', w'.ownsRow base 130 1 v' (n + m) (xs ++ cs) → Fr (fun b => some b = sblk v) w w' → (sblk v' = sblk v ∨ sblk v' = some w.heap.size) → k v' w') : px prog (bSem .append #[122, 122] 122 #[v, x]) w k := by
  refine s_append (P := prog) (t := 122) (e := 130) (i := t130) (z := (t130.zero).getD undef) (size := 1) (bytes := 16) (by kernel_rfl) rfl (by kernel_rfl) (by kernel_rfl) (by kernel_rfl) (by kernel_rfl) (by kernel_rfl) (by decide) HO HS h1 ?_ hb hbase hk
  unfold maxLen; omega
theorem lk54 {m : Nat} {l : List (ByteArray × Value)} (h : SMap w m l) (s : ByteArray) {z : Value} (hz : (zeroValue 117).run prog w = .ok z w) (hk : k ((alGet l s).getD z) w) : px prog (Instr.lookup 54 (.map (some m)) (.string s) false) w k := px_ok (h.lookup underlying54 underlying9 hz s) hk
theorem up54 {m : Nat} {l : List (ByteArray × Value)} {kk : World → Prop} (h : SMap w m l) (s : ByteArray) (v : Value) (hk : ∀ w', SMap w' m (alSet l s v) → Fr (fun b => b = m) w w' → w'.heap.size = w.heap.size → kk w') : pu prog (Instr.mapUpdate 54 (.map (some m)) (.string s) v) w kk := by
 obtain ⟨w', h1, h2, h3, h4⟩ := h.update (P := prog) underlying54 underlying9 s v
 exact pu_ok h1 (hk w' h2 h3 h4)
theorem de54 {m : Nat} {l : List (ByteArray × Value)} (h : SMap w m l) (s : ByteArray) (hk : ∀ w', SMap w' m (alDel l s) → Fr (fun b => b = m) w w' → w'.heap.size = w.heap.size → k (.tuple #[]) w') : px prog (bSem .delete #[54, 9] 0 #[.map (some m), .string s]) w k := by
 obtain ⟨w', h1, h2, h3, h4⟩ := h.delete (P := prog) underlying54 underlying9 s (ty := 0)
 exact px_ok h1 (hk w' h2 h3 h4)
theorem mk54 (hk : k (.map (some w.heap.size)) (w.alloc (.map #[] 0))) : px prog (Instr.makeMap 54 none) w k := px_ok (run_makeMap 54 w) hk
end
end Go.Proofs.YtcdcojpfealppaaGreat
