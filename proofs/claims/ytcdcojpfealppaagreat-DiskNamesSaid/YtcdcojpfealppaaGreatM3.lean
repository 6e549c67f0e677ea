/- Put together by a program (wip/tools/shake.py): Steps. -/
import Derived.Test.YtcdcojpfealppaaGreatM2
import Derived.Test.YtcdcojpfealppaaGreatProg
import Derived.Carry
set_option linter.unusedVariables false
set_option maxRecDepth 100000
namespace Go.Proofs.YtcdcojpfealppaaGreat
open Go Go.Proofs Go.RowKit Go.Proofs.XRed Go.Proofs.XHeap Go.Proofs.XMaps Go.Proofs.XSlices
section
variable {w : World} {k : Value → World → Prop}
theorem fa33_0 {b o : Nat} (hk : k (.pointer (some ⟨b, o + 0, none⟩)) w) : px Tryz.prog (Instr.fieldAt 33 (.pointer (some ⟨b, o, none⟩)) 0) w k :=
  s_fa 29 0 (Tryz.runUnderlying33 w) (by kernel_rfl) (Tryz.sizeOf29 w) (by decide) hk
theorem fa33_1 {b o : Nat} (hk : k (.pointer (some ⟨b, o + 1, none⟩)) w) : px Tryz.prog (Instr.fieldAt 33 (.pointer (some ⟨b, o, none⟩)) 1) w k :=
  s_fa 30 1 (Tryz.runUnderlying33 w) (by kernel_rfl) (Tryz.sizeOf30 w) (by decide) hk
theorem fa33_2 {b o : Nat} (hk : k (.pointer (some ⟨b, o + 2, none⟩)) w) : px Tryz.prog (Instr.fieldAt 33 (.pointer (some ⟨b, o, none⟩)) 2) w k :=
  s_fa 31 2 (Tryz.runUnderlying33 w) (by kernel_rfl) (Tryz.sizeOf31 w) (by decide) hk
theorem fa38_0 {b o : Nat} (hk : k (.pointer (some ⟨b, o + 0, none⟩)) w) : px Tryz.prog (Instr.fieldAt 38 (.pointer (some ⟨b, o, none⟩)) 0) w k :=
  s_fa 3 0 (Tryz.runUnderlying38 w) (by kernel_rfl) (Tryz.sizeOf3 w) (by decide) hk
theorem fa38_1 {b o : Nat} (hk : k (.pointer (some ⟨b, o + 1, none⟩)) w) : px Tryz.prog (Instr.fieldAt 38 (.pointer (some ⟨b, o, none⟩)) 1) w k :=
  s_fa 3 1 (Tryz.runUnderlying38 w) (by kernel_rfl) (Tryz.sizeOf3 w) (by decide) hk
theorem fa38_2 {b o : Nat} (hk : k (.pointer (some ⟨b, o + 2, none⟩)) w) : px Tryz.prog (Instr.fieldAt 38 (.pointer (some ⟨b, o, none⟩)) 2) w k :=
  s_fa 3 2 (Tryz.runUnderlying38 w) (by kernel_rfl) (Tryz.sizeOf3 w) (by decide) hk
theorem fa41_0 {b o : Nat} (hk : k (.pointer (some ⟨b, o + 0, none⟩)) w) : px Tryz.prog (Instr.fieldAt 41 (.pointer (some ⟨b, o, none⟩)) 0) w k :=
  s_fa 3 0 (Tryz.runUnderlying41 w) (by kernel_rfl) (Tryz.sizeOf3 w) (by decide) hk
theorem fa41_1 {b o : Nat} (hk : k (.pointer (some ⟨b, o + 1, none⟩)) w) : px Tryz.prog (Instr.fieldAt 41 (.pointer (some ⟨b, o, none⟩)) 1) w k :=
  s_fa 9 1 (Tryz.runUnderlying41 w) (by kernel_rfl) (Tryz.sizeOf9 w) (by decide) hk
theorem fa41_2 {b o : Nat} (hk : k (.pointer (some ⟨b, o + 2, none⟩)) w) : px Tryz.prog (Instr.fieldAt 41 (.pointer (some ⟨b, o, none⟩)) 2) w k :=
  s_fa 9 2 (Tryz.runUnderlying41 w) (by kernel_rfl) (Tryz.sizeOf9 w) (by decide) hk
theorem fa41_3 {b o : Nat} (hk : k (.pointer (some ⟨b, o + 3, none⟩)) w) : px Tryz.prog (Instr.fieldAt 41 (.pointer (some ⟨b, o, none⟩)) 3) w k :=
  s_fa 3 3 (Tryz.runUnderlying41 w) (by kernel_rfl) (Tryz.sizeOf3 w) (by decide) hk
theorem fa41_4 {b o : Nat} (hk : k (.pointer (some ⟨b, o + 4, none⟩)) w) : px Tryz.prog (Instr.fieldAt 41 (.pointer (some ⟨b, o, none⟩)) 4) w k :=
  s_fa 3 4 (Tryz.runUnderlying41 w) (by kernel_rfl) (Tryz.sizeOf3 w) (by decide) hk
theorem fa41_5 {b o : Nat} (hk : k (.pointer (some ⟨b, o + 5, none⟩)) w) : px Tryz.prog (Instr.fieldAt 41 (.pointer (some ⟨b, o, none⟩)) 5) w k :=
  s_fa 36 5 (Tryz.runUnderlying41 w) (by kernel_rfl) (Tryz.sizeOf36 w) (by decide) hk
theorem fa41_6 {b o : Nat} (hk : k (.pointer (some ⟨b, o + 6, none⟩)) w) : px Tryz.prog (Instr.fieldAt 41 (.pointer (some ⟨b, o, none⟩)) 6) w k :=
  s_fa 38 6 (Tryz.runUnderlying41 w) (by kernel_rfl) (Tryz.sizeOf38 w) (by decide) hk
theorem fa41_7 {b o : Nat} (hk : k (.pointer (some ⟨b, o + 9, none⟩)) w) : px Tryz.prog (Instr.fieldAt 41 (.pointer (some ⟨b, o, none⟩)) 7) w k :=
  s_fa 39 9 (Tryz.runUnderlying41 w) (by kernel_rfl) (Tryz.sizeOf39 w) (by decide) hk
theorem fa51_0 {b o : Nat} (hk : k (.pointer (some ⟨b, o + 0, none⟩)) w) : px Tryz.prog (Instr.fieldAt 51 (.pointer (some ⟨b, o, none⟩)) 0) w k :=
  s_fa 36 0 (Tryz.runUnderlying51 w) (by kernel_rfl) (Tryz.sizeOf36 w) (by decide) hk
theorem fa51_1 {b o : Nat} (hk : k (.pointer (some ⟨b, o + 1, none⟩)) w) : px Tryz.prog (Instr.fieldAt 51 (.pointer (some ⟨b, o, none⟩)) 1) w k :=
  s_fa 39 1 (Tryz.runUnderlying51 w) (by kernel_rfl) (Tryz.sizeOf39 w) (by decide) hk
theorem fa58_0 {b o : Nat} (hk : k (.pointer (some ⟨b, o + 0, none⟩)) w) : px Tryz.prog (Instr.fieldAt 58 (.pointer (some ⟨b, o, none⟩)) 0) w k :=
  s_fa 3 0 (Tryz.runUnderlying58 w) (by kernel_rfl) (Tryz.sizeOf3 w) (by decide) hk
theorem fa58_1 {b o : Nat} (hk : k (.pointer (some ⟨b, o + 1, none⟩)) w) : px Tryz.prog (Instr.fieldAt 58 (.pointer (some ⟨b, o, none⟩)) 1) w k :=
  s_fa 54 1 (Tryz.runUnderlying58 w) (by kernel_rfl) (Tryz.sizeOf54 w) (by decide) hk
theorem fa58_2 {b o : Nat} (hk : k (.pointer (some ⟨b, o + 2, none⟩)) w) : px Tryz.prog (Instr.fieldAt 58 (.pointer (some ⟨b, o, none⟩)) 2) w k :=
  s_fa 54 2 (Tryz.runUnderlying58 w) (by kernel_rfl) (Tryz.sizeOf54 w) (by decide) hk
theorem fa58_3 {b o : Nat} (hk : k (.pointer (some ⟨b, o + 3, none⟩)) w) : px Tryz.prog (Instr.fieldAt 58 (.pointer (some ⟨b, o, none⟩)) 3) w k :=
  s_fa 55 3 (Tryz.runUnderlying58 w) (by kernel_rfl) (Tryz.sizeOf55 w) (by decide) hk
theorem fa58_4 {b o : Nat} (hk : k (.pointer (some ⟨b, o + 4, none⟩)) w) : px Tryz.prog (Instr.fieldAt 58 (.pointer (some ⟨b, o, none⟩)) 4) w k :=
  s_fa 3 4 (Tryz.runUnderlying58 w) (by kernel_rfl) (Tryz.sizeOf3 w) (by decide) hk
theorem fa58_5 {b o : Nat} (hk : k (.pointer (some ⟨b, o + 5, none⟩)) w) : px Tryz.prog (Instr.fieldAt 58 (.pointer (some ⟨b, o, none⟩)) 5) w k :=
  s_fa 38 5 (Tryz.runUnderlying58 w) (by kernel_rfl) (Tryz.sizeOf38 w) (by decide) hk
theorem fa58_6 {b o : Nat} (hk : k (.pointer (some ⟨b, o + 8, none⟩)) w) : px Tryz.prog (Instr.fieldAt 58 (.pointer (some ⟨b, o, none⟩)) 6) w k :=
  s_fa 3 8 (Tryz.runUnderlying58 w) (by kernel_rfl) (Tryz.sizeOf3 w) (by decide) hk
theorem fa58_7 {b o : Nat} (hk : k (.pointer (some ⟨b, o + 9, none⟩)) w) : px Tryz.prog (Instr.fieldAt 58 (.pointer (some ⟨b, o, none⟩)) 7) w k :=
  s_fa 4 9 (Tryz.runUnderlying58 w) (by kernel_rfl) (Tryz.sizeOf4 w) (by decide) hk
theorem fa58_8 {b o : Nat} (hk : k (.pointer (some ⟨b, o + 10, none⟩)) w) : px Tryz.prog (Instr.fieldAt 58 (.pointer (some ⟨b, o, none⟩)) 8) w k :=
  s_fa 56 10 (Tryz.runUnderlying58 w) (by kernel_rfl) (Tryz.sizeOf56 w) (by decide) hk
theorem fa62_0 {b o : Nat} (hk : k (.pointer (some ⟨b, o + 0, none⟩)) w) : px Tryz.prog (Instr.fieldAt 62 (.pointer (some ⟨b, o, none⟩)) 0) w k :=
  s_fa 4 0 (Tryz.runUnderlying62 w) (by kernel_rfl) (Tryz.sizeOf4 w) (by decide) hk
theorem fa62_1 {b o : Nat} (hk : k (.pointer (some ⟨b, o + 1, none⟩)) w) : px Tryz.prog (Instr.fieldAt 62 (.pointer (some ⟨b, o, none⟩)) 1) w k :=
  s_fa 3 1 (Tryz.runUnderlying62 w) (by kernel_rfl) (Tryz.sizeOf3 w) (by decide) hk
theorem fa62_2 {b o : Nat} (hk : k (.pointer (some ⟨b, o + 2, none⟩)) w) : px Tryz.prog (Instr.fieldAt 62 (.pointer (some ⟨b, o, none⟩)) 2) w k :=
  s_fa 59 2 (Tryz.runUnderlying62 w) (by kernel_rfl) (Tryz.sizeOf59 w) (by decide) hk
theorem fa62_3 {b o : Nat} (hk : k (.pointer (some ⟨b, o + 3, none⟩)) w) : px Tryz.prog (Instr.fieldAt 62 (.pointer (some ⟨b, o, none⟩)) 3) w k :=
  s_fa 59 3 (Tryz.runUnderlying62 w) (by kernel_rfl) (Tryz.sizeOf59 w) (by decide) hk
theorem fa62_4 {b o : Nat} (hk : k (.pointer (some ⟨b, o + 4, none⟩)) w) : px Tryz.prog (Instr.fieldAt 62 (.pointer (some ⟨b, o, none⟩)) 4) w k :=
  s_fa 60 4 (Tryz.runUnderlying62 w) (by kernel_rfl) (Tryz.sizeOf60 w) (by decide) hk
theorem fa62_5 {b o : Nat} (hk : k (.pointer (some ⟨b, o + 5, none⟩)) w) : px Tryz.prog (Instr.fieldAt 62 (.pointer (some ⟨b, o, none⟩)) 5) w k :=
  s_fa 3 5 (Tryz.runUnderlying62 w) (by kernel_rfl) (Tryz.sizeOf3 w) (by decide) hk
theorem fa62_6 {b o : Nat} (hk : k (.pointer (some ⟨b, o + 6, none⟩)) w) : px Tryz.prog (Instr.fieldAt 62 (.pointer (some ⟨b, o, none⟩)) 6) w k :=
  s_fa 3 6 (Tryz.runUnderlying62 w) (by kernel_rfl) (Tryz.sizeOf3 w) (by decide) hk
theorem fa62_7 {b o : Nat} (hk : k (.pointer (some ⟨b, o + 7, none⟩)) w) : px Tryz.prog (Instr.fieldAt 62 (.pointer (some ⟨b, o, none⟩)) 7) w k :=
  s_fa 38 7 (Tryz.runUnderlying62 w) (by kernel_rfl) (Tryz.sizeOf38 w) (by decide) hk
theorem fa62_8 {b o : Nat} (hk : k (.pointer (some ⟨b, o + 10, none⟩)) w) : px Tryz.prog (Instr.fieldAt 62 (.pointer (some ⟨b, o, none⟩)) 8) w k :=
  s_fa 56 10 (Tryz.runUnderlying62 w) (by kernel_rfl) (Tryz.sizeOf56 w) (by decide) hk
theorem fa83_0 {b o : Nat} (hk : k (.pointer (some ⟨b, o + 0, none⟩)) w) : px Tryz.prog (Instr.fieldAt 83 (.pointer (some ⟨b, o, none⟩)) 0) w k :=
  s_fa 9 0 (Tryz.runUnderlying83 w) (by kernel_rfl) (Tryz.sizeOf9 w) (by decide) hk
theorem fa83_1 {b o : Nat} (hk : k (.pointer (some ⟨b, o + 1, none⟩)) w) : px Tryz.prog (Instr.fieldAt 83 (.pointer (some ⟨b, o, none⟩)) 1) w k :=
  s_fa 36 1 (Tryz.runUnderlying83 w) (by kernel_rfl) (Tryz.sizeOf36 w) (by decide) hk
theorem fa124_0 {b o : Nat} (hk : k (.pointer (some ⟨b, o + 0, none⟩)) w) : px Tryz.prog (Instr.fieldAt 124 (.pointer (some ⟨b, o, none⟩)) 0) w k :=
  s_fa 36 0 (Tryz.runUnderlying124 w) (by kernel_rfl) (Tryz.sizeOf36 w) (by decide) hk
theorem fa124_1 {b o : Nat} (hk : k (.pointer (some ⟨b, o + 1, none⟩)) w) : px Tryz.prog (Instr.fieldAt 124 (.pointer (some ⟨b, o, none⟩)) 1) w k :=
  s_fa 36 1 (Tryz.runUnderlying124 w) (by kernel_rfl) (Tryz.sizeOf36 w) (by decide) hk
theorem fa124_2 {b o : Nat} (hk : k (.pointer (some ⟨b, o + 2, none⟩)) w) : px Tryz.prog (Instr.fieldAt 124 (.pointer (some ⟨b, o, none⟩)) 2) w k :=
  s_fa 122 2 (Tryz.runUnderlying124 w) (by kernel_rfl) (Tryz.sizeOf122 w) (by decide) hk
theorem fa126_0 {b o : Nat} (hk : k (.pointer (some ⟨b, o + 0, none⟩)) w) : px Tryz.prog (Instr.fieldAt 126 (.pointer (some ⟨b, o, none⟩)) 0) w k :=
  s_fa 9 0 (Tryz.runUnderlying126 w) (by kernel_rfl) (Tryz.sizeOf9 w) (by decide) hk
theorem fa126_1 {b o : Nat} (hk : k (.pointer (some ⟨b, o + 1, none⟩)) w) : px Tryz.prog (Instr.fieldAt 126 (.pointer (some ⟨b, o, none⟩)) 1) w k :=
  s_fa 117 1 (Tryz.runUnderlying126 w) (by kernel_rfl) (Tryz.sizeOf117 w) (by decide) hk
theorem fa144_0 {b o : Nat} (hk : k (.pointer (some ⟨b, o + 0, none⟩)) w) : px Tryz.prog (Instr.fieldAt 144 (.pointer (some ⟨b, o, none⟩)) 0) w k :=
  s_fa 9 0 (Tryz.runUnderlying144 w) (by kernel_rfl) (Tryz.sizeOf9 w) (by decide) hk
theorem fa144_1 {b o : Nat} (hk : k (.pointer (some ⟨b, o + 1, none⟩)) w) : px Tryz.prog (Instr.fieldAt 144 (.pointer (some ⟨b, o, none⟩)) 1) w k :=
  s_fa 142 1 (Tryz.runUnderlying144 w) (by kernel_rfl) (Tryz.sizeOf142 w) (by decide) hk
theorem fa146_0 {b o : Nat} (hk : k (.pointer (some ⟨b, o + 0, none⟩)) w) : px Tryz.prog (Instr.fieldAt 146 (.pointer (some ⟨b, o, none⟩)) 0) w k :=
  s_fa 3 0 (Tryz.runUnderlying146 w) (by kernel_rfl) (Tryz.sizeOf3 w) (by decide) hk
theorem fa146_1 {b o : Nat} (hk : k (.pointer (some ⟨b, o + 1, none⟩)) w) : px Tryz.prog (Instr.fieldAt 146 (.pointer (some ⟨b, o, none⟩)) 1) w k :=
  s_fa 9 1 (Tryz.runUnderlying146 w) (by kernel_rfl) (Tryz.sizeOf9 w) (by decide) hk
theorem fa146_2 {b o : Nat} (hk : k (.pointer (some ⟨b, o + 2, none⟩)) w) : px Tryz.prog (Instr.fieldAt 146 (.pointer (some ⟨b, o, none⟩)) 2) w k :=
  s_fa 9 2 (Tryz.runUnderlying146 w) (by kernel_rfl) (Tryz.sizeOf9 w) (by decide) hk
theorem fa146_3 {b o : Nat} (hk : k (.pointer (some ⟨b, o + 3, none⟩)) w) : px Tryz.prog (Instr.fieldAt 146 (.pointer (some ⟨b, o, none⟩)) 3) w k :=
  s_fa 142 3 (Tryz.runUnderlying146 w) (by kernel_rfl) (Tryz.sizeOf142 w) (by decide) hk
theorem fa156_0 {b o : Nat} (hk : k (.pointer (some ⟨b, o + 0, none⟩)) w) : px Tryz.prog (Instr.fieldAt 156 (.pointer (some ⟨b, o, none⟩)) 0) w k :=
  s_fa 36 0 (Tryz.runUnderlying156 w) (by kernel_rfl) (Tryz.sizeOf36 w) (by decide) hk
theorem fa156_1 {b o : Nat} (hk : k (.pointer (some ⟨b, o + 1, none⟩)) w) : px Tryz.prog (Instr.fieldAt 156 (.pointer (some ⟨b, o, none⟩)) 1) w k :=
  s_fa 36 1 (Tryz.runUnderlying156 w) (by kernel_rfl) (Tryz.sizeOf36 w) (by decide) hk
theorem fa156_2 {b o : Nat} (hk : k (.pointer (some ⟨b, o + 2, none⟩)) w) : px Tryz.prog (Instr.fieldAt 156 (.pointer (some ⟨b, o, none⟩)) 2) w k :=
  s_fa 154 2 (Tryz.runUnderlying156 w) (by kernel_rfl) (Tryz.sizeOf154 w) (by decide) hk
theorem fa172_0 {b o : Nat} (hk : k (.pointer (some ⟨b, o + 0, none⟩)) w) : px Tryz.prog (Instr.fieldAt 172 (.pointer (some ⟨b, o, none⟩)) 0) w k :=
  s_fa 9 0 (Tryz.runUnderlying172 w) (by kernel_rfl) (Tryz.sizeOf9 w) (by decide) hk
theorem fa172_1 {b o : Nat} (hk : k (.pointer (some ⟨b, o + 1, none⟩)) w) : px Tryz.prog (Instr.fieldAt 172 (.pointer (some ⟨b, o, none⟩)) 1) w k :=
  s_fa 9 1 (Tryz.runUnderlying172 w) (by kernel_rfl) (Tryz.sizeOf9 w) (by decide) hk
theorem fa184_0 {b o : Nat} (hk : k (.pointer (some ⟨b, o + 0, none⟩)) w) : px Tryz.prog (Instr.fieldAt 184 (.pointer (some ⟨b, o, none⟩)) 0) w k :=
  s_fa 3 0 (Tryz.runUnderlying184 w) (by kernel_rfl) (Tryz.sizeOf3 w) (by decide) hk
theorem fa184_1 {b o : Nat} (hk : k (.pointer (some ⟨b, o + 1, none⟩)) w) : px Tryz.prog (Instr.fieldAt 184 (.pointer (some ⟨b, o, none⟩)) 1) w k :=
  s_fa 36 1 (Tryz.runUnderlying184 w) (by kernel_rfl) (Tryz.sizeOf36 w) (by decide) hk
theorem fa186_0 {b o : Nat} (hk : k (.pointer (some ⟨b, o + 0, none⟩)) w) : px Tryz.prog (Instr.fieldAt 186 (.pointer (some ⟨b, o, none⟩)) 0) w k :=
  s_fa 4 0 (Tryz.runUnderlying186 w) (by kernel_rfl) (Tryz.sizeOf4 w) (by decide) hk
theorem fa186_1 {b o : Nat} (hk : k (.pointer (some ⟨b, o + 1, none⟩)) w) : px Tryz.prog (Instr.fieldAt 186 (.pointer (some ⟨b, o, none⟩)) 1) w k :=
  s_fa 3 1 (Tryz.runUnderlying186 w) (by kernel_rfl) (Tryz.sizeOf3 w) (by decide) hk
theorem fa186_2 {b o : Nat} (hk : k (.pointer (some ⟨b, o + 2, none⟩)) w) : px Tryz.prog (Instr.fieldAt 186 (.pointer (some ⟨b, o, none⟩)) 2) w k :=
  s_fa 36 2 (Tryz.runUnderlying186 w) (by kernel_rfl) (Tryz.sizeOf36 w) (by decide) hk
theorem usl22 : Tryz.prog.underlying 22 = some (.slice (Tryz.prog.elem 22)) := by kernel_rfl
theorem elm22 : Tryz.prog.elem 22 = 41 := by kernel_rfl
theorem sze22 (w : World) : (sizeOf (Tryz.prog.elem 22)).run Tryz.prog w = .ok 10 w := by rw [elm22]; exact Tryz.sizeOf41 w
theorem usl36 : Tryz.prog.underlying 36 = some (.slice (Tryz.prog.elem 36)) := by kernel_rfl
theorem elm36 : Tryz.prog.elem 36 = 5 := by kernel_rfl
theorem sze36 (w : World) : (sizeOf (Tryz.prog.elem 36)).run Tryz.prog w = .ok 1 w := by rw [elm36]; exact Tryz.sizeOf5 w
theorem usl39 : Tryz.prog.underlying 39 = some (.slice (Tryz.prog.elem 39)) := by kernel_rfl
theorem elm39 : Tryz.prog.elem 39 = 3 := by kernel_rfl
theorem sze39 (w : World) : (sizeOf (Tryz.prog.elem 39)).run Tryz.prog w = .ok 1 w := by rw [elm39]; exact Tryz.sizeOf3 w
theorem usl55 : Tryz.prog.underlying 55 = some (.slice (Tryz.prog.elem 55)) := by kernel_rfl
theorem elm55 : Tryz.prog.elem 55 = 136 := by kernel_rfl
theorem sze55 (w : World) : (sizeOf (Tryz.prog.elem 55)).run Tryz.prog w = .ok 1 w := by rw [elm55]; exact Tryz.sizeOf136 w
theorem usl56 : Tryz.prog.underlying 56 = some (.slice (Tryz.prog.elem 56)) := by kernel_rfl
theorem elm56 : Tryz.prog.elem 56 = 134 := by kernel_rfl
theorem sze56 (w : World) : (sizeOf (Tryz.prog.elem 56)).run Tryz.prog w = .ok 3 w := by rw [elm56]; exact Tryz.sizeOf134 w
theorem usl59 : Tryz.prog.underlying 59 = some (.slice (Tryz.prog.elem 59)) := by kernel_rfl
theorem elm59 : Tryz.prog.elem 59 = 144 := by kernel_rfl
theorem sze59 (w : World) : (sizeOf (Tryz.prog.elem 59)).run Tryz.prog w = .ok 2 w := by rw [elm59]; exact Tryz.sizeOf144 w
theorem usl60 : Tryz.prog.underlying 60 = some (.slice (Tryz.prog.elem 60)) := by kernel_rfl
theorem elm60 : Tryz.prog.elem 60 = 146 := by kernel_rfl
theorem sze60 (w : World) : (sizeOf (Tryz.prog.elem 60)).run Tryz.prog w = .ok 4 w := by rw [elm60]; exact Tryz.sizeOf146 w
theorem usl71 : Tryz.prog.underlying 71 = some (.slice (Tryz.prog.elem 71)) := by kernel_rfl
theorem elm71 : Tryz.prog.elem 71 = 83 := by kernel_rfl
theorem sze71 (w : World) : (sizeOf (Tryz.prog.elem 71)).run Tryz.prog w = .ok 2 w := by rw [elm71]; exact Tryz.sizeOf83 w
theorem usl73 : Tryz.prog.underlying 73 = some (.slice (Tryz.prog.elem 73)) := by kernel_rfl
theorem elm73 : Tryz.prog.elem 73 = 9 := by kernel_rfl
theorem sze73 (w : World) : (sizeOf (Tryz.prog.elem 73)).run Tryz.prog w = .ok 1 w := by rw [elm73]; exact Tryz.sizeOf9 w
theorem usl122 : Tryz.prog.underlying 122 = some (.slice (Tryz.prog.elem 122)) := by kernel_rfl
theorem elm122 : Tryz.prog.elem 122 = 130 := by kernel_rfl
theorem sze122 (w : World) : (sizeOf (Tryz.prog.elem 122)).run Tryz.prog w = .ok 1 w := by rw [elm122]; exact Tryz.sizeOf130 w
theorem usl139 : Tryz.prog.underlying 139 = some (.slice (Tryz.prog.elem 139)) := by kernel_rfl
theorem elm139 : Tryz.prog.elem 139 = 142 := by kernel_rfl
theorem sze139 (w : World) : (sizeOf (Tryz.prog.elem 139)).run Tryz.prog w = .ok 1 w := by rw [elm139]; exact Tryz.sizeOf142 w
theorem usl154 : Tryz.prog.underlying 154 = some (.slice (Tryz.prog.elem 154)) := by kernel_rfl
theorem elm154 : Tryz.prog.elem 154 = 186 := by kernel_rfl
theorem sze154 (w : World) : (sizeOf (Tryz.prog.elem 154)).run Tryz.prog w = .ok 3 w := by rw [elm154]; exact Tryz.sizeOf186 w
theorem upt29 : Tryz.prog.underlying 29 = some (.pointer (Tryz.prog.pointee 29)) := by kernel_rfl
theorem upt30 : Tryz.prog.underlying 30 = some (.pointer (Tryz.prog.pointee 30)) := by kernel_rfl
theorem upt117 : Tryz.prog.underlying 117 = some (.pointer (Tryz.prog.pointee 117)) := by kernel_rfl
theorem upt142 : Tryz.prog.underlying 142 = some (.pointer (Tryz.prog.pointee 142)) := by kernel_rfl
theorem cc54 : Tryz.prog.concrete 54 = true := by kernel_rfl
theorem cc126 : Tryz.prog.concrete 126 = true := by kernel_rfl
theorem cc172 : Tryz.prog.concrete 172 = true := by kernel_rfl
theorem cc177 : Tryz.prog.concrete 177 = true := by kernel_rfl
theorem cc184 : Tryz.prog.concrete 184 = true := by kernel_rfl
theorem cc189 : Tryz.prog.concrete 189 = true := by kernel_rfl
theorem lit0_36 (hk : k (.slice (some ⟨w.heap.size, 0, none⟩) 0 0) (w.alloc (.cells #[] 5))) : px Tryz.prog (Instr.buildSlice 36 0 #[]) w k := s_lit0 (Tryz.runUnderlying36 w) (Tryz.sizeOf5 w) hk
theorem lit1_55 {x : Value} (hx : x.cells = #[x]) (hk : k (.slice (some ⟨w.heap.size, 0, none⟩) 1 1) (w.alloc (.cells #[x] 136))) : px Tryz.prog (Instr.buildSlice 55 1 #[(0, x)]) w k := s_lit1 (Tryz.runUnderlying55 w) (Tryz.sizeOf136 w) (Tryz.zeroValue136 w) rfl hx hk
theorem lit0_56 (hk : k (.slice (some ⟨w.heap.size, 0, none⟩) 0 0) (w.alloc (.cells #[] 134))) : px Tryz.prog (Instr.buildSlice 56 0 #[]) w k := s_lit0 (Tryz.runUnderlying56 w) (Tryz.sizeOf134 w) hk
theorem lit0_122 (hk : k (.slice (some ⟨w.heap.size, 0, none⟩) 0 0) (w.alloc (.cells #[] 130))) : px Tryz.prog (Instr.buildSlice 122 0 #[]) w k := s_lit0 (Tryz.runUnderlying122 w) (Tryz.sizeOf130 w) hk
theorem lit1_122 {x : Value} (hx : x.cells = #[x]) (hk : k (.slice (some ⟨w.heap.size, 0, none⟩) 1 1) (w.alloc (.cells #[x] 130))) : px Tryz.prog (Instr.buildSlice 122 1 #[(0, x)]) w k := s_lit1 (Tryz.runUnderlying122 w) (Tryz.sizeOf130 w) (Tryz.zeroValue130 w) rfl hx hk
theorem ap36 {base n m : Nat} {v x : Value} {xs cs : List Value} (HO : w.ownsRow base 5 1 v n xs) (HS : Src w x 1 m cs) (h1 : ∀ u ∈ cs, u.oneCell' = true) (hb : (n + m) * 1 ≤ 140737488355328) (hbase : base ≤ w.heap.size)
    (hk : ∀ v' w', w'.ownsRow base 5 1 v' (n + m) (xs ++ cs) → Fr (fun b => some b = sblk v) w w' → (sblk v' = sblk v ∨ sblk v' = some w.heap.size) → k v' w') : px Tryz.prog (bSem .append #[36, 36] 36 #[v, x]) w k := by
  refine s_append (P := Tryz.prog) (t := 36) (e := 5) (i := Tryz.t5) (z := (Tryz.t5.zero).getD undef) (size := 1) (bytes := 1) (by kernel_rfl) rfl (by kernel_rfl) (by kernel_rfl) (by kernel_rfl) (by kernel_rfl) (by kernel_rfl) (by decide) HO HS h1 ?_ hb hbase hk
  unfold maxLen; omega
theorem ap55 {base n m : Nat} {v x : Value} {xs cs : List Value} (HO : w.ownsRow base 136 1 v n xs) (HS : Src w x 1 m cs) (h1 : ∀ u ∈ cs, u.oneCell' = true) (hb : (n + m) * 16 ≤ 140737488355328) (hbase : base ≤ w.heap.size)
    (hk : ∀ v' w', w'.ownsRow base 136 1 v' (n + m) (xs ++ cs) → Fr (fun b => some b = sblk v) w w' → (sblk v' = sblk v ∨ sblk v' = some w.heap.size) → k v' w') : px Tryz.prog (bSem .append #[55, 55] 55 #[v, x]) w k := by
  refine s_append (P := Tryz.prog) (t := 55) (e := 136) (i := Tryz.t136) (z := (Tryz.t136.zero).getD undef) (size := 1) (bytes := 16) (by kernel_rfl) rfl (by kernel_rfl) (by kernel_rfl) (by kernel_rfl) (by kernel_rfl) (by kernel_rfl) (by decide) HO HS h1 ?_ hb hbase hk
  unfold maxLen; omega
theorem ap56 {base n m : Nat} {v x : Value} {xs cs : List Value} (HO : w.ownsRow base 134 3 v n xs) (HS : Src w x 3 m cs) (h1 : ∀ u ∈ cs, u.oneCell' = true) (hb : (n + m) * 32 ≤ 140737488355328) (hbase : base ≤ w.heap.size)
    (hk : ∀ v' w', w'.ownsRow base 134 3 v' (n + m) (xs ++ cs) → Fr (fun b => some b = sblk v) w w' → (sblk v' = sblk v ∨ sblk v' = some w.heap.size) → k v' w') : px Tryz.prog (bSem .append #[56, 56] 56 #[v, x]) w k := by
  refine s_append (P := Tryz.prog) (t := 56) (e := 134) (i := Tryz.t134) (z := (Tryz.t134.zero).getD undef) (size := 3) (bytes := 32) (by kernel_rfl) rfl (by kernel_rfl) (by kernel_rfl) (by kernel_rfl) (by kernel_rfl) (by kernel_rfl) (by decide) HO HS h1 ?_ hb hbase hk
  unfold maxLen; omega
theorem ap59 {base n m : Nat} {v x : Value} {xs cs : List Value} (HO : w.ownsRow base 144 2 v n xs) (HS : Src w x 2 m cs) (h1 : ∀ u ∈ cs, u.oneCell' = true) (hb : (n + m) * 24 ≤ 140737488355328) (hbase : base ≤ w.heap.size)
    (hk : ∀ v' w', w'.ownsRow base 144 2 v' (n + m) (xs ++ cs) → Fr (fun b => some b = sblk v) w w' → (sblk v' = sblk v ∨ sblk v' = some w.heap.size) → k v' w') : px Tryz.prog (bSem .append #[59, 59] 59 #[v, x]) w k := by
  refine s_append (P := Tryz.prog) (t := 59) (e := 144) (i := Tryz.t144) (z := (Tryz.t144.zero).getD undef) (size := 2) (bytes := 24) (by kernel_rfl) rfl (by kernel_rfl) (by kernel_rfl) (by kernel_rfl) (by kernel_rfl) (by kernel_rfl) (by decide) HO HS h1 ?_ hb hbase hk
  unfold maxLen; omega
theorem ap60 {base n m : Nat} {v x : Value} {xs cs : List Value} (HO : w.ownsRow base 146 4 v n xs) (HS : Src w x 4 m cs) (h1 : ∀ u ∈ cs, u.oneCell' = true) (hb : (n + m) * 48 ≤ 140737488355328) (hbase : base ≤ w.heap.size)
    (hk : ∀ v' w', w'.ownsRow base 146 4 v' (n + m) (xs ++ cs) → Fr (fun b => some b = sblk v) w w' → (sblk v' = sblk v ∨ sblk v' = some w.heap.size) → k v' w') : px Tryz.prog (bSem .append #[60, 60] 60 #[v, x]) w k := by
  refine s_append (P := Tryz.prog) (t := 60) (e := 146) (i := Tryz.t146) (z := (Tryz.t146.zero).getD undef) (size := 4) (bytes := 48) (by kernel_rfl) rfl (by kernel_rfl) (by kernel_rfl) (by kernel_rfl) (by kernel_rfl) (by kernel_rfl) (by decide) HO HS h1 ?_ hb hbase hk
  unfold maxLen; omega
theorem ap71 {base n m : Nat} {v x : Value} {xs cs : List Value} (HO : w.ownsRow base 83 2 v n xs) (HS : Src w x 2 m cs) (h1 : ∀ u ∈ cs, u.oneCell' = true) (hb : (n + m) * 40 ≤ 140737488355328) (hbase : base ≤ w.heap.size)
    (hk : ∀ v' w', w'.ownsRow base 83 2 v' (n + m) (xs ++ cs) → Fr (fun b => some b = sblk v) w w' → (sblk v' = sblk v ∨ sblk v' = some w.heap.size) → k v' w') : px Tryz.prog (bSem .append #[71, 71] 71 #[v, x]) w k := by
  refine s_append (P := Tryz.prog) (t := 71) (e := 83) (i := Tryz.t83) (z := (Tryz.t83.zero).getD undef) (size := 2) (bytes := 40) (by kernel_rfl) rfl (by kernel_rfl) (by kernel_rfl) (by kernel_rfl) (by kernel_rfl) (by kernel_rfl) (by decide) HO HS h1 ?_ hb hbase hk
  unfold maxLen; omega
theorem ap73 {base n m : Nat} {v x : Value} {xs cs : List Value} (HO : w.ownsRow base 9 1 v n xs) (HS : Src w x 1 m cs) (h1 : ∀ u ∈ cs, u.oneCell' = true) (hb : (n + m) * 16 ≤ 140737488355328) (hbase : base ≤ w.heap.size)
    (hk : ∀ v' w', w'.ownsRow base 9 1 v' (n + m) (xs ++ cs) → Fr (fun b => some b = sblk v) w w' → (sblk v' = sblk v ∨ sblk v' = some w.heap.size) → k v' w') : px Tryz.prog (bSem .append #[73, 73] 73 #[v, x]) w k := by
  refine s_append (P := Tryz.prog) (t := 73) (e := 9) (i := Tryz.t9) (z := (Tryz.t9.zero).getD undef) (size := 1) (bytes := 16) (by kernel_rfl) rfl (by kernel_rfl) (by kernel_rfl) (by kernel_rfl) (by kernel_rfl) (by kernel_rfl) (by decide) HO HS h1 ?_ hb hbase hk
  unfold maxLen; omega
theorem ap122 {base n m : Nat} {v x : Value} {xs cs : List Value} (HO : w.ownsRow base 130 1 v n xs) (HS : Src w x 1 m cs) (h1 : ∀ u ∈ cs, u.oneCell' = true) (hb : (n + m) * 16 ≤ 140737488355328) (hbase : base ≤ w.heap.size)
    (hk : ∀ v' w', w'.ownsRow base 130 1 v' (n + m) (xs ++ cs) → Fr (fun b => some b = sblk v) w w' → (sblk v' = sblk v ∨ sblk v' = some w.heap.size) → k v' w') : px Tryz.prog (bSem .append #[122, 122] 122 #[v, x]) w k := by
  refine s_append (P := Tryz.prog) (t := 122) (e := 130) (i := Tryz.t130) (z := (Tryz.t130.zero).getD undef) (size := 1) (bytes := 16) (by kernel_rfl) rfl (by kernel_rfl) (by kernel_rfl) (by kernel_rfl) (by kernel_rfl) (by kernel_rfl) (by decide) HO HS h1 ?_ hb hbase hk
  unfold maxLen; omega
theorem ap139 {base n m : Nat} {v x : Value} {xs cs : List Value} (HO : w.ownsRow base 142 1 v n xs) (HS : Src w x 1 m cs) (h1 : ∀ u ∈ cs, u.oneCell' = true) (hb : (n + m) * 8 ≤ 140737488355328) (hbase : base ≤ w.heap.size)
    (hk : ∀ v' w', w'.ownsRow base 142 1 v' (n + m) (xs ++ cs) → Fr (fun b => some b = sblk v) w w' → (sblk v' = sblk v ∨ sblk v' = some w.heap.size) → k v' w') : px Tryz.prog (bSem .append #[139, 139] 139 #[v, x]) w k := by
  refine s_append (P := Tryz.prog) (t := 139) (e := 142) (i := Tryz.t142) (z := (Tryz.t142.zero).getD undef) (size := 1) (bytes := 8) (by kernel_rfl) rfl (by kernel_rfl) (by kernel_rfl) (by kernel_rfl) (by kernel_rfl) (by kernel_rfl) (by decide) HO HS h1 ?_ hb hbase hk
  unfold maxLen; omega
theorem ap154 {base n m : Nat} {v x : Value} {xs cs : List Value} (HO : w.ownsRow base 186 3 v n xs) (HS : Src w x 3 m cs) (h1 : ∀ u ∈ cs, u.oneCell' = true) (hb : (n + m) * 40 ≤ 140737488355328) (hbase : base ≤ w.heap.size)
    (hk : ∀ v' w', w'.ownsRow base 186 3 v' (n + m) (xs ++ cs) → Fr (fun b => some b = sblk v) w w' → (sblk v' = sblk v ∨ sblk v' = some w.heap.size) → k v' w') : px Tryz.prog (bSem .append #[154, 154] 154 #[v, x]) w k := by
  refine s_append (P := Tryz.prog) (t := 154) (e := 186) (i := Tryz.t186) (z := (Tryz.t186.zero).getD undef) (size := 3) (bytes := 40) (by kernel_rfl) rfl (by kernel_rfl) (by kernel_rfl) (by kernel_rfl) (by kernel_rfl) (by kernel_rfl) (by decide) HO HS h1 ?_ hb hbase hk
  unfold maxLen; omega
theorem pl36 {base n : Nat} {v x0 : Value} {xs : List Value} {kk : Value → Value → World → Prop} (HO : w.ownsRow base 5 1 v n xs) (hx : x0.cells = #[x0]) (h1 : ∀ u ∈ [x0], u.oneCell' = true) (hb : (n + 1) * 1 ≤ 140737488355328) (hbase : base ≤ w.heap.size)
    (hk : ∀ u v' w', w'.ownsRow base 5 1 v' (n + 1) (xs ++ [x0]) → Fr (fun b => some b = sblk v) w w' → (∀ b, sblk v' = some b → sblk v = some b ∨ (w.heap.size ≤ b ∧ b < w'.heap.size)) → kk u v' w') : px Tryz.prog (Instr.buildSlice 36 1 #[(0, x0)]) w fun u w => px Tryz.prog (bSem .append #[36, 36] 36 #[v, u]) w (kk u) := by
  refine s_lit1 (Tryz.runUnderlying36 w) (Tryz.sizeOf5 w) (Tryz.zeroValue5 w) rfl hx ?_
  have f1 := Fr.alloc (fun _ => False) w (.cells #[x0] 5)
  have ho := own_lit w 0 5 1 #[x0] 1 (Nat.zero_le _) (by unfold maxLen; omega) rfl
  have z1 : (w.alloc (.cells #[x0] 5)).heap.size = w.heap.size + 1 := by simp
  generalize w.alloc (.cells #[x0] 5) = w1 at *
  refine ap36 (own_fr HO f1 fun _ _ h => h) (Src.of_own ho) h1 hb (by omega) fun v' w2 h2 f2 hb2 => hk _ v' w2 h2 ((f1.or f2).mono fun b hb => .inl (hb.elim (fun h => h.elim) id)) fun b hb => ?_
  have hlt := (own_blk_lt h2 hb).2
  rcases hb2 with e | e
  · exact .inl (e ▸ hb)
  · rw [e] at hb; injection hb with hb; exact .inr (by omega)
theorem pl56 {base n : Nat} {v x0 x1 x2 : Value} {xs : List Value} {kk : Value → Value → World → Prop} (HO : w.ownsRow base 134 3 v n xs) (h1 : ∀ u ∈ [x0, x1, x2], u.oneCell' = true) (hb : (n + 1) * 32 ≤ 140737488355328) (hbase : base ≤ w.heap.size)
    (hk : ∀ u v' w', w'.ownsRow base 134 3 v' (n + 1) (xs ++ [x0, x1, x2]) → Fr (fun b => some b = sblk v) w w' → (∀ b, sblk v' = some b → sblk v = some b ∨ (w.heap.size ≤ b ∧ b < w'.heap.size)) → kk u v' w') : px Tryz.prog (Instr.buildSlice 56 1 #[(0, .agg #[x0, x1, x2])]) w fun u w => px Tryz.prog (bSem .append #[56, 56] 56 #[v, u]) w (kk u) := by
  refine px_ok (w' := w.alloc (.cells #[x0, x1, x2] 134)) (v := .slice (some ⟨w.heap.size, 0, none⟩) 1 1) (by kernel_rfl) ?_
  have f1 := Fr.alloc (fun _ => False) w (.cells #[x0, x1, x2] 134)
  have ho := own_lit w 0 134 3 #[x0, x1, x2] 1 (Nat.zero_le _) (by unfold maxLen; omega) rfl
  have z1 : (w.alloc (.cells #[x0, x1, x2] 134)).heap.size = w.heap.size + 1 := by simp
  generalize w.alloc (.cells #[x0, x1, x2] 134) = w1 at *
  refine ap56 (own_fr HO f1 fun _ _ h => h) (Src.of_own ho) h1 hb (by omega) fun v' w2 h2 f2 hb2 => hk _ v' w2 h2 ((f1.or f2).mono fun b hb => .inl (hb.elim (fun h => h.elim) id)) fun b hb => ?_
  have hlt := (own_blk_lt h2 hb).2
  rcases hb2 with e | e
  · exact .inl (e ▸ hb)
  · rw [e] at hb; injection hb with hb; exact .inr (by omega)
theorem pl59 {base n : Nat} {v x0 x1 : Value} {xs : List Value} {kk : Value → Value → World → Prop} (HO : w.ownsRow base 144 2 v n xs) (h1 : ∀ u ∈ [x0, x1], u.oneCell' = true) (hb : (n + 1) * 24 ≤ 140737488355328) (hbase : base ≤ w.heap.size)
    (hk : ∀ u v' w', w'.ownsRow base 144 2 v' (n + 1) (xs ++ [x0, x1]) → Fr (fun b => some b = sblk v) w w' → (∀ b, sblk v' = some b → sblk v = some b ∨ (w.heap.size ≤ b ∧ b < w'.heap.size)) → kk u v' w') : px Tryz.prog (Instr.buildSlice 59 1 #[(0, .agg #[x0, x1])]) w fun u w => px Tryz.prog (bSem .append #[59, 59] 59 #[v, u]) w (kk u) := by
  refine px_ok (w' := w.alloc (.cells #[x0, x1] 144)) (v := .slice (some ⟨w.heap.size, 0, none⟩) 1 1) (by kernel_rfl) ?_
  have f1 := Fr.alloc (fun _ => False) w (.cells #[x0, x1] 144)
  have ho := own_lit w 0 144 2 #[x0, x1] 1 (Nat.zero_le _) (by unfold maxLen; omega) rfl
  have z1 : (w.alloc (.cells #[x0, x1] 144)).heap.size = w.heap.size + 1 := by simp
  generalize w.alloc (.cells #[x0, x1] 144) = w1 at *
  refine ap59 (own_fr HO f1 fun _ _ h => h) (Src.of_own ho) h1 hb (by omega) fun v' w2 h2 f2 hb2 => hk _ v' w2 h2 ((f1.or f2).mono fun b hb => .inl (hb.elim (fun h => h.elim) id)) fun b hb => ?_
  have hlt := (own_blk_lt h2 hb).2
  rcases hb2 with e | e
  · exact .inl (e ▸ hb)
  · rw [e] at hb; injection hb with hb; exact .inr (by omega)
theorem pl73 {base n : Nat} {v x0 : Value} {xs : List Value} {kk : Value → Value → World → Prop} (HO : w.ownsRow base 9 1 v n xs) (hx : x0.cells = #[x0]) (h1 : ∀ u ∈ [x0], u.oneCell' = true) (hb : (n + 1) * 16 ≤ 140737488355328) (hbase : base ≤ w.heap.size)
    (hk : ∀ u v' w', w'.ownsRow base 9 1 v' (n + 1) (xs ++ [x0]) → Fr (fun b => some b = sblk v) w w' → (∀ b, sblk v' = some b → sblk v = some b ∨ (w.heap.size ≤ b ∧ b < w'.heap.size)) → kk u v' w') : px Tryz.prog (Instr.buildSlice 73 1 #[(0, x0)]) w fun u w => px Tryz.prog (bSem .append #[73, 73] 73 #[v, u]) w (kk u) := by
  refine s_lit1 (Tryz.runUnderlying73 w) (Tryz.sizeOf9 w) (Tryz.zeroValue9 w) rfl hx ?_
  have f1 := Fr.alloc (fun _ => False) w (.cells #[x0] 9)
  have ho := own_lit w 0 9 1 #[x0] 1 (Nat.zero_le _) (by unfold maxLen; omega) rfl
  have z1 : (w.alloc (.cells #[x0] 9)).heap.size = w.heap.size + 1 := by simp
  generalize w.alloc (.cells #[x0] 9) = w1 at *
  refine ap73 (own_fr HO f1 fun _ _ h => h) (Src.of_own ho) h1 hb (by omega) fun v' w2 h2 f2 hb2 => hk _ v' w2 h2 ((f1.or f2).mono fun b hb => .inl (hb.elim (fun h => h.elim) id)) fun b hb => ?_
  have hlt := (own_blk_lt h2 hb).2
  rcases hb2 with e | e
  · exact .inl (e ▸ hb)
  · rw [e] at hb; injection hb with hb; exact .inr (by omega)
theorem pl139 {base n : Nat} {v x0 : Value} {xs : List Value} {kk : Value → Value → World → Prop} (HO : w.ownsRow base 142 1 v n xs) (hx : x0.cells = #[x0]) (h1 : ∀ u ∈ [x0], u.oneCell' = true) (hb : (n + 1) * 8 ≤ 140737488355328) (hbase : base ≤ w.heap.size)
    (hk : ∀ u v' w', w'.ownsRow base 142 1 v' (n + 1) (xs ++ [x0]) → Fr (fun b => some b = sblk v) w w' → (∀ b, sblk v' = some b → sblk v = some b ∨ (w.heap.size ≤ b ∧ b < w'.heap.size)) → kk u v' w') : px Tryz.prog (Instr.buildSlice 139 1 #[(0, x0)]) w fun u w => px Tryz.prog (bSem .append #[139, 139] 139 #[v, u]) w (kk u) := by
  refine s_lit1 (Tryz.runUnderlying139 w) (Tryz.sizeOf142 w) (Tryz.zeroValue142 w) rfl hx ?_
  have f1 := Fr.alloc (fun _ => False) w (.cells #[x0] 142)
  have ho := own_lit w 0 142 1 #[x0] 1 (Nat.zero_le _) (by unfold maxLen; omega) rfl
  have z1 : (w.alloc (.cells #[x0] 142)).heap.size = w.heap.size + 1 := by simp
  generalize w.alloc (.cells #[x0] 142) = w1 at *
  refine ap139 (own_fr HO f1 fun _ _ h => h) (Src.of_own ho) h1 hb (by omega) fun v' w2 h2 f2 hb2 => hk _ v' w2 h2 ((f1.or f2).mono fun b hb => .inl (hb.elim (fun h => h.elim) id)) fun b hb => ?_
  have hlt := (own_blk_lt h2 hb).2
  rcases hb2 with e | e
  · exact .inl (e ▸ hb)
  · rw [e] at hb; injection hb with hb; exact .inr (by omega)
theorem lk54 {m : Nat} {l : List (ByteArray × Value)} (h : SMap w m l) (s : ByteArray) {z : Value} (hz : (zeroValue 117).run Tryz.prog w = .ok z w) (hk : k ((alGet l s).getD z) w) : px Tryz.prog (Instr.lookup 54 (.map (some m)) (.string s) false) w k := px_ok (h.lookup Tryz.underlying54 Tryz.underlying9 hz s) hk
theorem up54 {m : Nat} {l : List (ByteArray × Value)} {kk : World → Prop} (h : SMap w m l) (s : ByteArray) (v : Value) (hk : ∀ w', SMap w' m (alSet l s v) → Fr (fun b => b = m) w w' → w'.heap.size = w.heap.size → kk w') : pu Tryz.prog (Instr.mapUpdate 54 (.map (some m)) (.string s) v) w kk := by
  obtain ⟨w', h1, h2, h3, h4⟩ := h.update (P := Tryz.prog) Tryz.underlying54 Tryz.underlying9 s v
  exact pu_ok h1 (hk w' h2 h3 h4)
theorem de54 {m : Nat} {l : List (ByteArray × Value)} (h : SMap w m l) (s : ByteArray) (hk : ∀ w', SMap w' m (alDel l s) → Fr (fun b => b = m) w w' → w'.heap.size = w.heap.size → k (.tuple #[]) w') : px Tryz.prog (bSem .delete #[54, 9] 0 #[.map (some m), .string s]) w k := by
  obtain ⟨w', h1, h2, h3, h4⟩ := h.delete (P := Tryz.prog) Tryz.underlying54 Tryz.underlying9 s (ty := 0)
  exact px_ok h1 (hk w' h2 h3 h4)
theorem mk54 (hk : k (.map (some w.heap.size)) (w.alloc (.map #[] 0))) : px Tryz.prog (Instr.makeMap 54 none) w k := px_ok (run_makeMap 54 w) hk
theorem mk127 (hk : k (.map (some w.heap.size)) (w.alloc (.map #[] 0))) : px Tryz.prog (Instr.makeMap 127 none) w k := px_ok (run_makeMap 127 w) hk
end
end Go.Proofs.YtcdcojpfealppaaGreat
