/- PRINTED by wip/tools/stepgen.py: what the walks want to know of the seat's types. -/
import Derived.Test.YtcdcojpfealppaaXSlices
import Derived.Test.YtcdcojpfealppaaProg
import Derived.Carry
set_option linter.unusedVariables false
set_option maxRecDepth 100000
namespace Go.Proofs.Ytcdcojpfealppaa
open Go Go.Proofs Go.RowKit Go.Proofs.XRed Go.Proofs.XHeap Go.Proofs.XMaps Go.Proofs.XSlices

section
variable {w : World} {k : Value → World → Prop}
theorem fa34_0 {b o : Nat} (hk : k (.pointer (some ⟨b, o + 0, none⟩)) w) : px Try.prog (Instr.fieldAt 34 (.pointer (some ⟨b, o, none⟩)) 0) w k :=
  s_fa 9 0 (Try.runUnderlying34 w) (by kernel_rfl) (Try.sizeOf9 w) (by decide) hk
theorem fa34_1 {b o : Nat} (hk : k (.pointer (some ⟨b, o + 1, none⟩)) w) : px Try.prog (Instr.fieldAt 34 (.pointer (some ⟨b, o, none⟩)) 1) w k :=
  s_fa 9 1 (Try.runUnderlying34 w) (by kernel_rfl) (Try.sizeOf9 w) (by decide) hk
theorem fa43_0 {b o : Nat} (hk : k (.pointer (some ⟨b, o + 0, none⟩)) w) : px Try.prog (Instr.fieldAt 43 (.pointer (some ⟨b, o, none⟩)) 0) w k :=
  s_fa 4 0 (Try.runUnderlying43 w) (by kernel_rfl) (Try.sizeOf4 w) (by decide) hk
theorem fa43_1 {b o : Nat} (hk : k (.pointer (some ⟨b, o + 1, none⟩)) w) : px Try.prog (Instr.fieldAt 43 (.pointer (some ⟨b, o, none⟩)) 1) w k :=
  s_fa 3 1 (Try.runUnderlying43 w) (by kernel_rfl) (Try.sizeOf3 w) (by decide) hk
theorem fa43_2 {b o : Nat} (hk : k (.pointer (some ⟨b, o + 2, none⟩)) w) : px Try.prog (Instr.fieldAt 43 (.pointer (some ⟨b, o, none⟩)) 2) w k :=
  s_fa 30 2 (Try.runUnderlying43 w) (by kernel_rfl) (Try.sizeOf30 w) (by decide) hk
theorem fa46_0 {b o : Nat} (hk : k (.pointer (some ⟨b, o + 0, none⟩)) w) : px Try.prog (Instr.fieldAt 46 (.pointer (some ⟨b, o, none⟩)) 0) w k :=
  s_fa 3 0 (Try.runUnderlying46 w) (by kernel_rfl) (Try.sizeOf3 w) (by decide) hk
theorem fa46_1 {b o : Nat} (hk : k (.pointer (some ⟨b, o + 1, none⟩)) w) : px Try.prog (Instr.fieldAt 46 (.pointer (some ⟨b, o, none⟩)) 1) w k :=
  s_fa 3 1 (Try.runUnderlying46 w) (by kernel_rfl) (Try.sizeOf3 w) (by decide) hk
theorem fa46_2 {b o : Nat} (hk : k (.pointer (some ⟨b, o + 2, none⟩)) w) : px Try.prog (Instr.fieldAt 46 (.pointer (some ⟨b, o, none⟩)) 2) w k :=
  s_fa 3 2 (Try.runUnderlying46 w) (by kernel_rfl) (Try.sizeOf3 w) (by decide) hk
theorem fa52_0 {b o : Nat} (hk : k (.pointer (some ⟨b, o + 0, none⟩)) w) : px Try.prog (Instr.fieldAt 52 (.pointer (some ⟨b, o, none⟩)) 0) w k :=
  s_fa 9 0 (Try.runUnderlying52 w) (by kernel_rfl) (Try.sizeOf9 w) (by decide) hk
theorem fa52_1 {b o : Nat} (hk : k (.pointer (some ⟨b, o + 1, none⟩)) w) : px Try.prog (Instr.fieldAt 52 (.pointer (some ⟨b, o, none⟩)) 1) w k :=
  s_fa 30 1 (Try.runUnderlying52 w) (by kernel_rfl) (Try.sizeOf30 w) (by decide) hk
theorem fa59_0 {b o : Nat} (hk : k (.pointer (some ⟨b, o + 0, none⟩)) w) : px Try.prog (Instr.fieldAt 59 (.pointer (some ⟨b, o, none⟩)) 0) w k :=
  s_fa 3 0 (Try.runUnderlying59 w) (by kernel_rfl) (Try.sizeOf3 w) (by decide) hk
theorem fa59_1 {b o : Nat} (hk : k (.pointer (some ⟨b, o + 1, none⟩)) w) : px Try.prog (Instr.fieldAt 59 (.pointer (some ⟨b, o, none⟩)) 1) w k :=
  s_fa 9 1 (Try.runUnderlying59 w) (by kernel_rfl) (Try.sizeOf9 w) (by decide) hk
theorem fa59_2 {b o : Nat} (hk : k (.pointer (some ⟨b, o + 2, none⟩)) w) : px Try.prog (Instr.fieldAt 59 (.pointer (some ⟨b, o, none⟩)) 2) w k :=
  s_fa 9 2 (Try.runUnderlying59 w) (by kernel_rfl) (Try.sizeOf9 w) (by decide) hk
theorem fa59_3 {b o : Nat} (hk : k (.pointer (some ⟨b, o + 3, none⟩)) w) : px Try.prog (Instr.fieldAt 59 (.pointer (some ⟨b, o, none⟩)) 3) w k :=
  s_fa 3 3 (Try.runUnderlying59 w) (by kernel_rfl) (Try.sizeOf3 w) (by decide) hk
theorem fa59_4 {b o : Nat} (hk : k (.pointer (some ⟨b, o + 4, none⟩)) w) : px Try.prog (Instr.fieldAt 59 (.pointer (some ⟨b, o, none⟩)) 4) w k :=
  s_fa 3 4 (Try.runUnderlying59 w) (by kernel_rfl) (Try.sizeOf3 w) (by decide) hk
theorem fa59_5 {b o : Nat} (hk : k (.pointer (some ⟨b, o + 5, none⟩)) w) : px Try.prog (Instr.fieldAt 59 (.pointer (some ⟨b, o, none⟩)) 5) w k :=
  s_fa 30 5 (Try.runUnderlying59 w) (by kernel_rfl) (Try.sizeOf30 w) (by decide) hk
theorem fa59_6 {b o : Nat} (hk : k (.pointer (some ⟨b, o + 6, none⟩)) w) : px Try.prog (Instr.fieldAt 59 (.pointer (some ⟨b, o, none⟩)) 6) w k :=
  s_fa 46 6 (Try.runUnderlying59 w) (by kernel_rfl) (Try.sizeOf46 w) (by decide) hk
theorem fa59_7 {b o : Nat} (hk : k (.pointer (some ⟨b, o + 9, none⟩)) w) : px Try.prog (Instr.fieldAt 59 (.pointer (some ⟨b, o, none⟩)) 7) w k :=
  s_fa 57 9 (Try.runUnderlying59 w) (by kernel_rfl) (Try.sizeOf57 w) (by decide) hk
theorem fa73_0 {b o : Nat} (hk : k (.pointer (some ⟨b, o + 0, none⟩)) w) : px Try.prog (Instr.fieldAt 73 (.pointer (some ⟨b, o, none⟩)) 0) w k :=
  s_fa 71 0 (Try.runUnderlying73 w) (by kernel_rfl) (Try.sizeOf71 w) (by decide) hk
theorem fa73_1 {b o : Nat} (hk : k (.pointer (some ⟨b, o + 1, none⟩)) w) : px Try.prog (Instr.fieldAt 73 (.pointer (some ⟨b, o, none⟩)) 1) w k :=
  s_fa 3 1 (Try.runUnderlying73 w) (by kernel_rfl) (Try.sizeOf3 w) (by decide) hk
theorem fa75_0 {b o : Nat} (hk : k (.pointer (some ⟨b, o + 0, none⟩)) w) : px Try.prog (Instr.fieldAt 75 (.pointer (some ⟨b, o, none⟩)) 0) w k :=
  s_fa 9 0 (Try.runUnderlying75 w) (by kernel_rfl) (Try.sizeOf9 w) (by decide) hk
theorem fa75_1 {b o : Nat} (hk : k (.pointer (some ⟨b, o + 1, none⟩)) w) : px Try.prog (Instr.fieldAt 75 (.pointer (some ⟨b, o, none⟩)) 1) w k :=
  s_fa 3 1 (Try.runUnderlying75 w) (by kernel_rfl) (Try.sizeOf3 w) (by decide) hk
theorem fa93_0 {b o : Nat} (hk : k (.pointer (some ⟨b, o + 0, none⟩)) w) : px Try.prog (Instr.fieldAt 93 (.pointer (some ⟨b, o, none⟩)) 0) w k :=
  s_fa 3 0 (Try.runUnderlying93 w) (by kernel_rfl) (Try.sizeOf3 w) (by decide) hk
theorem fa93_1 {b o : Nat} (hk : k (.pointer (some ⟨b, o + 1, none⟩)) w) : px Try.prog (Instr.fieldAt 93 (.pointer (some ⟨b, o, none⟩)) 1) w k :=
  s_fa 90 1 (Try.runUnderlying93 w) (by kernel_rfl) (Try.sizeOf90 w) (by decide) hk
theorem fa93_2 {b o : Nat} (hk : k (.pointer (some ⟨b, o + 2, none⟩)) w) : px Try.prog (Instr.fieldAt 93 (.pointer (some ⟨b, o, none⟩)) 2) w k :=
  s_fa 90 2 (Try.runUnderlying93 w) (by kernel_rfl) (Try.sizeOf90 w) (by decide) hk
theorem fa93_3 {b o : Nat} (hk : k (.pointer (some ⟨b, o + 3, none⟩)) w) : px Try.prog (Instr.fieldAt 93 (.pointer (some ⟨b, o, none⟩)) 3) w k :=
  s_fa 91 3 (Try.runUnderlying93 w) (by kernel_rfl) (Try.sizeOf91 w) (by decide) hk
theorem fa93_4 {b o : Nat} (hk : k (.pointer (some ⟨b, o + 4, none⟩)) w) : px Try.prog (Instr.fieldAt 93 (.pointer (some ⟨b, o, none⟩)) 4) w k :=
  s_fa 3 4 (Try.runUnderlying93 w) (by kernel_rfl) (Try.sizeOf3 w) (by decide) hk
theorem fa93_5 {b o : Nat} (hk : k (.pointer (some ⟨b, o + 5, none⟩)) w) : px Try.prog (Instr.fieldAt 93 (.pointer (some ⟨b, o, none⟩)) 5) w k :=
  s_fa 46 5 (Try.runUnderlying93 w) (by kernel_rfl) (Try.sizeOf46 w) (by decide) hk
theorem fa93_6 {b o : Nat} (hk : k (.pointer (some ⟨b, o + 8, none⟩)) w) : px Try.prog (Instr.fieldAt 93 (.pointer (some ⟨b, o, none⟩)) 6) w k :=
  s_fa 3 8 (Try.runUnderlying93 w) (by kernel_rfl) (Try.sizeOf3 w) (by decide) hk
theorem fa93_7 {b o : Nat} (hk : k (.pointer (some ⟨b, o + 9, none⟩)) w) : px Try.prog (Instr.fieldAt 93 (.pointer (some ⟨b, o, none⟩)) 7) w k :=
  s_fa 4 9 (Try.runUnderlying93 w) (by kernel_rfl) (Try.sizeOf4 w) (by decide) hk
theorem fa93_8 {b o : Nat} (hk : k (.pointer (some ⟨b, o + 10, none⟩)) w) : px Try.prog (Instr.fieldAt 93 (.pointer (some ⟨b, o, none⟩)) 8) w k :=
  s_fa 60 10 (Try.runUnderlying93 w) (by kernel_rfl) (Try.sizeOf60 w) (by decide) hk
theorem fa101_0 {b o : Nat} (hk : k (.pointer (some ⟨b, o + 0, none⟩)) w) : px Try.prog (Instr.fieldAt 101 (.pointer (some ⟨b, o, none⟩)) 0) w k :=
  s_fa 30 0 (Try.runUnderlying101 w) (by kernel_rfl) (Try.sizeOf30 w) (by decide) hk
theorem fa101_1 {b o : Nat} (hk : k (.pointer (some ⟨b, o + 1, none⟩)) w) : px Try.prog (Instr.fieldAt 101 (.pointer (some ⟨b, o, none⟩)) 1) w k :=
  s_fa 30 1 (Try.runUnderlying101 w) (by kernel_rfl) (Try.sizeOf30 w) (by decide) hk
theorem fa101_2 {b o : Nat} (hk : k (.pointer (some ⟨b, o + 2, none⟩)) w) : px Try.prog (Instr.fieldAt 101 (.pointer (some ⟨b, o, none⟩)) 2) w k :=
  s_fa 99 2 (Try.runUnderlying101 w) (by kernel_rfl) (Try.sizeOf99 w) (by decide) hk
theorem fa103_0 {b o : Nat} (hk : k (.pointer (some ⟨b, o + 0, none⟩)) w) : px Try.prog (Instr.fieldAt 103 (.pointer (some ⟨b, o, none⟩)) 0) w k :=
  s_fa 9 0 (Try.runUnderlying103 w) (by kernel_rfl) (Try.sizeOf9 w) (by decide) hk
theorem fa103_1 {b o : Nat} (hk : k (.pointer (some ⟨b, o + 1, none⟩)) w) : px Try.prog (Instr.fieldAt 103 (.pointer (some ⟨b, o, none⟩)) 1) w k :=
  s_fa 94 1 (Try.runUnderlying103 w) (by kernel_rfl) (Try.sizeOf94 w) (by decide) hk
theorem fa118_0 {b o : Nat} (hk : k (.pointer (some ⟨b, o + 0, none⟩)) w) : px Try.prog (Instr.fieldAt 118 (.pointer (some ⟨b, o, none⟩)) 0) w k :=
  s_fa 3 0 (Try.runUnderlying118 w) (by kernel_rfl) (Try.sizeOf3 w) (by decide) hk
theorem fa118_1 {b o : Nat} (hk : k (.pointer (some ⟨b, o + 1, none⟩)) w) : px Try.prog (Instr.fieldAt 118 (.pointer (some ⟨b, o, none⟩)) 1) w k :=
  s_fa 30 1 (Try.runUnderlying118 w) (by kernel_rfl) (Try.sizeOf30 w) (by decide) hk
theorem fa135_0 {b o : Nat} (hk : k (.pointer (some ⟨b, o + 0, none⟩)) w) : px Try.prog (Instr.fieldAt 135 (.pointer (some ⟨b, o, none⟩)) 0) w k :=
  s_fa 9 0 (Try.runUnderlying135 w) (by kernel_rfl) (Try.sizeOf9 w) (by decide) hk
theorem fa135_1 {b o : Nat} (hk : k (.pointer (some ⟨b, o + 1, none⟩)) w) : px Try.prog (Instr.fieldAt 135 (.pointer (some ⟨b, o, none⟩)) 1) w k :=
  s_fa 9 1 (Try.runUnderlying135 w) (by kernel_rfl) (Try.sizeOf9 w) (by decide) hk
theorem usl22 : Try.prog.underlying 22 = some (.slice (Try.prog.elem 22)) := by kernel_rfl
theorem elm22 : Try.prog.elem 22 = 9 := by kernel_rfl
theorem sze22 (w : World) : (sizeOf (Try.prog.elem 22)).run Try.prog w = .ok 1 w := by rw [elm22]; exact Try.sizeOf9 w
theorem usl23 : Try.prog.underlying 23 = some (.slice (Try.prog.elem 23)) := by kernel_rfl
theorem elm23 : Try.prog.elem 23 = 34 := by kernel_rfl
theorem sze23 (w : World) : (sizeOf (Try.prog.elem 23)).run Try.prog w = .ok 2 w := by rw [elm23]; exact Try.sizeOf34 w
theorem usl30 : Try.prog.underlying 30 = some (.slice (Try.prog.elem 30)) := by kernel_rfl
theorem elm30 : Try.prog.elem 30 = 5 := by kernel_rfl
theorem sze30 (w : World) : (sizeOf (Try.prog.elem 30)).run Try.prog w = .ok 1 w := by rw [elm30]; exact Try.sizeOf5 w
theorem usl37 : Try.prog.underlying 37 = some (.slice (Try.prog.elem 37)) := by kernel_rfl
theorem elm37 : Try.prog.elem 37 = 52 := by kernel_rfl
theorem sze37 (w : World) : (sizeOf (Try.prog.elem 37)).run Try.prog w = .ok 2 w := by rw [elm37]; exact Try.sizeOf52 w
theorem usl41 : Try.prog.underlying 41 = some (.slice (Try.prog.elem 41)) := by kernel_rfl
theorem elm41 : Try.prog.elem 41 = 43 := by kernel_rfl
theorem sze41 (w : World) : (sizeOf (Try.prog.elem 41)).run Try.prog w = .ok 3 w := by rw [elm41]; exact Try.sizeOf43 w
theorem usl55 : Try.prog.underlying 55 = some (.slice (Try.prog.elem 55)) := by kernel_rfl
theorem elm55 : Try.prog.elem 55 = 59 := by kernel_rfl
theorem sze55 (w : World) : (sizeOf (Try.prog.elem 55)).run Try.prog w = .ok 10 w := by rw [elm55]; exact Try.sizeOf59 w
theorem usl57 : Try.prog.underlying 57 = some (.slice (Try.prog.elem 57)) := by kernel_rfl
theorem elm57 : Try.prog.elem 57 = 3 := by kernel_rfl
theorem sze57 (w : World) : (sizeOf (Try.prog.elem 57)).run Try.prog w = .ok 1 w := by rw [elm57]; exact Try.sizeOf3 w
theorem usl60 : Try.prog.underlying 60 = some (.slice (Try.prog.elem 60)) := by kernel_rfl
theorem elm60 : Try.prog.elem 60 = 86 := by kernel_rfl
theorem sze60 (w : World) : (sizeOf (Try.prog.elem 60)).run Try.prog w = .ok 3 w := by rw [elm60]; exact Try.sizeOf86 w
theorem usl71 : Try.prog.underlying 71 = some (.slice (Try.prog.elem 71)) := by kernel_rfl
theorem elm71 : Try.prog.elem 71 = 75 := by kernel_rfl
theorem sze71 (w : World) : (sizeOf (Try.prog.elem 71)).run Try.prog w = .ok 2 w := by rw [elm71]; exact Try.sizeOf75 w
theorem usl91 : Try.prog.underlying 91 = some (.slice (Try.prog.elem 91)) := by kernel_rfl
theorem elm91 : Try.prog.elem 91 = 109 := by kernel_rfl
theorem sze91 (w : World) : (sizeOf (Try.prog.elem 91)).run Try.prog w = .ok 1 w := by rw [elm91]; exact Try.sizeOf109 w
theorem usl99 : Try.prog.underlying 99 = some (.slice (Try.prog.elem 99)) := by kernel_rfl
theorem elm99 : Try.prog.elem 99 = 123 := by kernel_rfl
theorem sze99 (w : World) : (sizeOf (Try.prog.elem 99)).run Try.prog w = .ok 1 w := by rw [elm99]; exact Try.sizeOf123 w
theorem upt24 : Try.prog.underlying 24 = some (.pointer (Try.prog.pointee 24)) := by kernel_rfl
theorem upt94 : Try.prog.underlying 94 = some (.pointer (Try.prog.pointee 94)) := by kernel_rfl
theorem cc90 : Try.prog.concrete 90 = true := by kernel_rfl
theorem cc103 : Try.prog.concrete 103 = true := by kernel_rfl
theorem cc116 : Try.prog.concrete 116 = true := by kernel_rfl
theorem cc118 : Try.prog.concrete 118 = true := by kernel_rfl
theorem cc133 : Try.prog.concrete 133 = true := by kernel_rfl
theorem cc135 : Try.prog.concrete 135 = true := by kernel_rfl
theorem lit1_22 {x : Value} (hx : x.cells = #[x]) (hk : k (.slice (some ⟨w.heap.size, 0, none⟩) 1 1) (w.alloc (.cells #[x] 9))) : px Try.prog (Instr.buildSlice 22 1 #[(0, x)]) w k := s_lit1 (Try.runUnderlying22 w) (Try.sizeOf9 w) (Try.zeroValue9 w) rfl hx hk
theorem lit0_30 (hk : k (.slice (some ⟨w.heap.size, 0, none⟩) 0 0) (w.alloc (.cells #[] 5))) : px Try.prog (Instr.buildSlice 30 0 #[]) w k := s_lit0 (Try.runUnderlying30 w) (Try.sizeOf5 w) hk
theorem lit1_30 {x : Value} (hx : x.cells = #[x]) (hk : k (.slice (some ⟨w.heap.size, 0, none⟩) 1 1) (w.alloc (.cells #[x] 5))) : px Try.prog (Instr.buildSlice 30 1 #[(0, x)]) w k := s_lit1 (Try.runUnderlying30 w) (Try.sizeOf5 w) (Try.zeroValue5 w) rfl hx hk
theorem lit0_57 (hk : k (.slice (some ⟨w.heap.size, 0, none⟩) 0 0) (w.alloc (.cells #[] 3))) : px Try.prog (Instr.buildSlice 57 0 #[]) w k := s_lit0 (Try.runUnderlying57 w) (Try.sizeOf3 w) hk
theorem lit1_57 {x : Value} (hx : x.cells = #[x]) (hk : k (.slice (some ⟨w.heap.size, 0, none⟩) 1 1) (w.alloc (.cells #[x] 3))) : px Try.prog (Instr.buildSlice 57 1 #[(0, x)]) w k := s_lit1 (Try.runUnderlying57 w) (Try.sizeOf3 w) (Try.zeroValue3 w) rfl hx hk
theorem lit0_60 (hk : k (.slice (some ⟨w.heap.size, 0, none⟩) 0 0) (w.alloc (.cells #[] 86))) : px Try.prog (Instr.buildSlice 60 0 #[]) w k := s_lit0 (Try.runUnderlying60 w) (Try.sizeOf86 w) hk
theorem lit1_91 {x : Value} (hx : x.cells = #[x]) (hk : k (.slice (some ⟨w.heap.size, 0, none⟩) 1 1) (w.alloc (.cells #[x] 109))) : px Try.prog (Instr.buildSlice 91 1 #[(0, x)]) w k := s_lit1 (Try.runUnderlying91 w) (Try.sizeOf109 w) (Try.zeroValue109 w) rfl hx hk
theorem lit0_99 (hk : k (.slice (some ⟨w.heap.size, 0, none⟩) 0 0) (w.alloc (.cells #[] 123))) : px Try.prog (Instr.buildSlice 99 0 #[]) w k := s_lit0 (Try.runUnderlying99 w) (Try.sizeOf123 w) hk
theorem lit1_99 {x : Value} (hx : x.cells = #[x]) (hk : k (.slice (some ⟨w.heap.size, 0, none⟩) 1 1) (w.alloc (.cells #[x] 123))) : px Try.prog (Instr.buildSlice 99 1 #[(0, x)]) w k := s_lit1 (Try.runUnderlying99 w) (Try.sizeOf123 w) (Try.zeroValue123 w) rfl hx hk
theorem ap22 {base n m : Nat} {v x : Value} {xs cs : List Value} (HO : w.ownsRow base 9 1 v n xs) (HS : Src w x 1 m cs) (h1 : ∀ u ∈ cs, u.oneCell' = true) (hb : (n + m) * 16 ≤ 140737488355328) (hbase : base ≤ w.heap.size)
    (hk : ∀ v' w', w'.ownsRow base 9 1 v' (n + m) (xs ++ cs) → Fr (fun b => some b = sblk v) w w' → (sblk v' = sblk v ∨ sblk v' = some w.heap.size) → k v' w') : px Try.prog (bSem .append #[22, 22] 22 #[v, x]) w k := by
  refine s_append (P := Try.prog) (t := 22) (e := 9) (i := Try.t9) (z := (Try.t9.zero).getD undef) (size := 1) (bytes := 16) (by kernel_rfl) rfl (by kernel_rfl) (by kernel_rfl) (by kernel_rfl) (by kernel_rfl) (by kernel_rfl) (by decide) HO HS h1 ?_ hb hbase hk
  unfold maxLen; omega
theorem ap23 {base n m : Nat} {v x : Value} {xs cs : List Value} (HO : w.ownsRow base 34 2 v n xs) (HS : Src w x 2 m cs) (h1 : ∀ u ∈ cs, u.oneCell' = true) (hb : (n + m) * 32 ≤ 140737488355328) (hbase : base ≤ w.heap.size)
    (hk : ∀ v' w', w'.ownsRow base 34 2 v' (n + m) (xs ++ cs) → Fr (fun b => some b = sblk v) w w' → (sblk v' = sblk v ∨ sblk v' = some w.heap.size) → k v' w') : px Try.prog (bSem .append #[23, 23] 23 #[v, x]) w k := by
  refine s_append (P := Try.prog) (t := 23) (e := 34) (i := Try.t34) (z := (Try.t34.zero).getD undef) (size := 2) (bytes := 32) (by kernel_rfl) rfl (by kernel_rfl) (by kernel_rfl) (by kernel_rfl) (by kernel_rfl) (by kernel_rfl) (by decide) HO HS h1 ?_ hb hbase hk
  unfold maxLen; omega
theorem ap30 {base n m : Nat} {v x : Value} {xs cs : List Value} (HO : w.ownsRow base 5 1 v n xs) (HS : Src w x 1 m cs) (h1 : ∀ u ∈ cs, u.oneCell' = true) (hb : (n + m) * 1 ≤ 140737488355328) (hbase : base ≤ w.heap.size)
    (hk : ∀ v' w', w'.ownsRow base 5 1 v' (n + m) (xs ++ cs) → Fr (fun b => some b = sblk v) w w' → (sblk v' = sblk v ∨ sblk v' = some w.heap.size) → k v' w') : px Try.prog (bSem .append #[30, 30] 30 #[v, x]) w k := by
  refine s_append (P := Try.prog) (t := 30) (e := 5) (i := Try.t5) (z := (Try.t5.zero).getD undef) (size := 1) (bytes := 1) (by kernel_rfl) rfl (by kernel_rfl) (by kernel_rfl) (by kernel_rfl) (by kernel_rfl) (by kernel_rfl) (by decide) HO HS h1 ?_ hb hbase hk
  unfold maxLen; omega
theorem ap37 {base n m : Nat} {v x : Value} {xs cs : List Value} (HO : w.ownsRow base 52 2 v n xs) (HS : Src w x 2 m cs) (h1 : ∀ u ∈ cs, u.oneCell' = true) (hb : (n + m) * 40 ≤ 140737488355328) (hbase : base ≤ w.heap.size)
    (hk : ∀ v' w', w'.ownsRow base 52 2 v' (n + m) (xs ++ cs) → Fr (fun b => some b = sblk v) w w' → (sblk v' = sblk v ∨ sblk v' = some w.heap.size) → k v' w') : px Try.prog (bSem .append #[37, 37] 37 #[v, x]) w k := by
  refine s_append (P := Try.prog) (t := 37) (e := 52) (i := Try.t52) (z := (Try.t52.zero).getD undef) (size := 2) (bytes := 40) (by kernel_rfl) rfl (by kernel_rfl) (by kernel_rfl) (by kernel_rfl) (by kernel_rfl) (by kernel_rfl) (by decide) HO HS h1 ?_ hb hbase hk
  unfold maxLen; omega
theorem ap41 {base n m : Nat} {v x : Value} {xs cs : List Value} (HO : w.ownsRow base 43 3 v n xs) (HS : Src w x 3 m cs) (h1 : ∀ u ∈ cs, u.oneCell' = true) (hb : (n + m) * 40 ≤ 140737488355328) (hbase : base ≤ w.heap.size)
    (hk : ∀ v' w', w'.ownsRow base 43 3 v' (n + m) (xs ++ cs) → Fr (fun b => some b = sblk v) w w' → (sblk v' = sblk v ∨ sblk v' = some w.heap.size) → k v' w') : px Try.prog (bSem .append #[41, 41] 41 #[v, x]) w k := by
  refine s_append (P := Try.prog) (t := 41) (e := 43) (i := Try.t43) (z := (Try.t43.zero).getD undef) (size := 3) (bytes := 40) (by kernel_rfl) rfl (by kernel_rfl) (by kernel_rfl) (by kernel_rfl) (by kernel_rfl) (by kernel_rfl) (by decide) HO HS h1 ?_ hb hbase hk
  unfold maxLen; omega
theorem ap57 {base n m : Nat} {v x : Value} {xs cs : List Value} (HO : w.ownsRow base 3 1 v n xs) (HS : Src w x 1 m cs) (h1 : ∀ u ∈ cs, u.oneCell' = true) (hb : (n + m) * 8 ≤ 140737488355328) (hbase : base ≤ w.heap.size)
    (hk : ∀ v' w', w'.ownsRow base 3 1 v' (n + m) (xs ++ cs) → Fr (fun b => some b = sblk v) w w' → (sblk v' = sblk v ∨ sblk v' = some w.heap.size) → k v' w') : px Try.prog (bSem .append #[57, 57] 57 #[v, x]) w k := by
  refine s_append (P := Try.prog) (t := 57) (e := 3) (i := Try.t3) (z := (Try.t3.zero).getD undef) (size := 1) (bytes := 8) (by kernel_rfl) rfl (by kernel_rfl) (by kernel_rfl) (by kernel_rfl) (by kernel_rfl) (by kernel_rfl) (by decide) HO HS h1 ?_ hb hbase hk
  unfold maxLen; omega
theorem ap60 {base n m : Nat} {v x : Value} {xs cs : List Value} (HO : w.ownsRow base 86 3 v n xs) (HS : Src w x 3 m cs) (h1 : ∀ u ∈ cs, u.oneCell' = true) (hb : (n + m) * 32 ≤ 140737488355328) (hbase : base ≤ w.heap.size)
    (hk : ∀ v' w', w'.ownsRow base 86 3 v' (n + m) (xs ++ cs) → Fr (fun b => some b = sblk v) w w' → (sblk v' = sblk v ∨ sblk v' = some w.heap.size) → k v' w') : px Try.prog (bSem .append #[60, 60] 60 #[v, x]) w k := by
  refine s_append (P := Try.prog) (t := 60) (e := 86) (i := Try.t86) (z := (Try.t86.zero).getD undef) (size := 3) (bytes := 32) (by kernel_rfl) rfl (by kernel_rfl) (by kernel_rfl) (by kernel_rfl) (by kernel_rfl) (by kernel_rfl) (by decide) HO HS h1 ?_ hb hbase hk
  unfold maxLen; omega
theorem ap71 {base n m : Nat} {v x : Value} {xs cs : List Value} (HO : w.ownsRow base 75 2 v n xs) (HS : Src w x 2 m cs) (h1 : ∀ u ∈ cs, u.oneCell' = true) (hb : (n + m) * 24 ≤ 140737488355328) (hbase : base ≤ w.heap.size)
    (hk : ∀ v' w', w'.ownsRow base 75 2 v' (n + m) (xs ++ cs) → Fr (fun b => some b = sblk v) w w' → (sblk v' = sblk v ∨ sblk v' = some w.heap.size) → k v' w') : px Try.prog (bSem .append #[71, 71] 71 #[v, x]) w k := by
  refine s_append (P := Try.prog) (t := 71) (e := 75) (i := Try.t75) (z := (Try.t75.zero).getD undef) (size := 2) (bytes := 24) (by kernel_rfl) rfl (by kernel_rfl) (by kernel_rfl) (by kernel_rfl) (by kernel_rfl) (by kernel_rfl) (by decide) HO HS h1 ?_ hb hbase hk
  unfold maxLen; omega
theorem ap91 {base n m : Nat} {v x : Value} {xs cs : List Value} (HO : w.ownsRow base 109 1 v n xs) (HS : Src w x 1 m cs) (h1 : ∀ u ∈ cs, u.oneCell' = true) (hb : (n + m) * 16 ≤ 140737488355328) (hbase : base ≤ w.heap.size)
    (hk : ∀ v' w', w'.ownsRow base 109 1 v' (n + m) (xs ++ cs) → Fr (fun b => some b = sblk v) w w' → (sblk v' = sblk v ∨ sblk v' = some w.heap.size) → k v' w') : px Try.prog (bSem .append #[91, 91] 91 #[v, x]) w k := by
  refine s_append (P := Try.prog) (t := 91) (e := 109) (i := Try.t109) (z := (Try.t109.zero).getD undef) (size := 1) (bytes := 16) (by kernel_rfl) rfl (by kernel_rfl) (by kernel_rfl) (by kernel_rfl) (by kernel_rfl) (by kernel_rfl) (by decide) HO HS h1 ?_ hb hbase hk
  unfold maxLen; omega
theorem ap99 {base n m : Nat} {v x : Value} {xs cs : List Value} (HO : w.ownsRow base 123 1 v n xs) (HS : Src w x 1 m cs) (h1 : ∀ u ∈ cs, u.oneCell' = true) (hb : (n + m) * 16 ≤ 140737488355328) (hbase : base ≤ w.heap.size)
    (hk : ∀ v' w', w'.ownsRow base 123 1 v' (n + m) (xs ++ cs) → Fr (fun b => some b = sblk v) w w' → (sblk v' = sblk v ∨ sblk v' = some w.heap.size) → k v' w') : px Try.prog (bSem .append #[99, 99] 99 #[v, x]) w k := by
  refine s_append (P := Try.prog) (t := 99) (e := 123) (i := Try.t123) (z := (Try.t123.zero).getD undef) (size := 1) (bytes := 16) (by kernel_rfl) rfl (by kernel_rfl) (by kernel_rfl) (by kernel_rfl) (by kernel_rfl) (by kernel_rfl) (by decide) HO HS h1 ?_ hb hbase hk
  unfold maxLen; omega
theorem lk90 {m : Nat} {l : List (ByteArray × Value)} (h : SMap w m l) (s : ByteArray) {z : Value} (hz : (zeroValue 94).run Try.prog w = .ok z w) (hk : k ((alGet l s).getD z) w) : px Try.prog (Instr.lookup 90 (.map (some m)) (.string s) false) w k := px_ok (h.lookup Try.underlying90 Try.underlying9 hz s) hk
theorem up90 {m : Nat} {l : List (ByteArray × Value)} {kk : World → Prop} (h : SMap w m l) (s : ByteArray) (v : Value) (hk : ∀ w', SMap w' m (alSet l s v) → Fr (fun b => b = m) w w' → w'.heap.size = w.heap.size → kk w') : pu Try.prog (Instr.mapUpdate 90 (.map (some m)) (.string s) v) w kk := by
  obtain ⟨w', h1, h2, h3, h4⟩ := h.update (P := Try.prog) Try.underlying90 Try.underlying9 s v
  exact pu_ok h1 (hk w' h2 h3 h4)
theorem de90 {m : Nat} {l : List (ByteArray × Value)} (h : SMap w m l) (s : ByteArray) (hk : ∀ w', SMap w' m (alDel l s) → Fr (fun b => b = m) w w' → w'.heap.size = w.heap.size → k (.tuple #[]) w') : px Try.prog (bSem .delete #[90, 9] 0 #[.map (some m), .string s]) w k := by
  obtain ⟨w', h1, h2, h3, h4⟩ := h.delete (P := Try.prog) Try.underlying90 Try.underlying9 s (ty := 0)
  exact px_ok h1 (hk w' h2 h3 h4)
theorem mk90 (hk : k (.map (some w.heap.size)) (w.alloc (.map #[] 0))) : px Try.prog (Instr.makeMap 90 none) w k := px_ok (run_makeMap 90 w) hk
theorem mk120 (hk : k (.map (some w.heap.size)) (w.alloc (.map #[] 0))) : px Try.prog (Instr.makeMap 120 none) w k := px_ok (run_makeMap 120 w) hk
end
end Go.Proofs.Ytcdcojpfealppaa
