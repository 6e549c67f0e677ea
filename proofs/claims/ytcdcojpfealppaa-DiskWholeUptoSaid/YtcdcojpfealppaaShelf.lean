/- The library's slices.Sorted(maps.Keys(m)) at this seat: laid from the shelf; MADE BY mkshelf.py. -/
import Derived.Shelf.SlIter.Nil
import Derived.Shelf.SortM.Plain
import Derived.Shelf.SortM.SortNone
import Derived.Ground.GgzProg
import Derived.Ground.SlgmProg
import Derived.Test.YtcdcojpfealppaaProg
import Derived.Test.YtcdcojpfealppaaSorted
set_option linter.unusedVariables false
set_option linter.unusedSimpArgs false
namespace Go.Proofs.Ytcdcojpfealppaa
open Go Go.Proofs Go.RowKit Go.Maps Go.Sort Go.Shelf
def Try.keys77_ren : Go.Shelf.Ren := ⟨fun | 7 => 77 | 10 => 83 | n => n, fun | 23 => 90 | 26 => 9 | 3 => 94 | 28 => 138 | 0 => 0 | 27 => 137 | 33 => 131 | 4 => 4 | n => n, fun | n => n⟩
theorem Try.keys77 : Go.Proofs.SlLaysZ.n7 Try.prog Try.keys77_ren := {
  mixed := by kernel_rfl
  f7 := ⟨Try.f77.name, by decide, Try.func77.trans (congrArg some (by kernel_rfl))⟩
  f10 := ⟨Try.f83.name, by decide, Try.func83.trans (congrArg some (by kernel_rfl))⟩
  t0 := Try.underlying0
  a0 := Try.isAgg0
  z0 := Try.sizeOf0
  v0 := Try.zeroValue0
  t4 := Try.underlying4
  a4 := Try.isAgg4
  z4 := Try.sizeOf4
  v4 := Try.zeroValue4
  t23 := Try.underlying90
  a23 := Try.isAgg90
  z23 := Try.sizeOf90
  v23 := Try.zeroValue90
  t26 := Try.underlying9
  a26 := Try.isAgg9
  z26 := Try.sizeOf9
  v26 := Try.zeroValue9
  t27 := Try.underlying137
  a27 := Try.isAgg137
  z27 := Try.sizeOf137
  v27 := Try.zeroValue137
  t28 := Try.underlying138
  a28 := Try.isAgg138
  z28 := Try.sizeOf138
  v28 := Try.zeroValue138
  t33 := Try.underlying131
  a33 := Try.isAgg131
  z33 := Try.sizeOf131
  v33 := Try.zeroValue131 }
def Try.sorted76_ren : Go.Shelf.Ren := ⟨fun | 6 => 76 | 8 => 81 | 9 => 82 | 11 => 85 | 13 => 87 | 12 => 86 | 23 => 98 | 24 => 99 | 14 => 89 | 15 => 90 | 16 => 91 | 17 => 92 | 18 => 93 | 19 => 94 | 20 => 95 | 21 => 96 | 22 => 97 | 25 => 100 | 26 => 101 | 27 => 102 | 28 => 103 | 29 => 104 | 30 => 105 | 31 => 106 | n => n, fun | 26 => 9 | 28 => 138 | 24 => 22 | 0 => 0 | 3 => 3 | 37 => 147 | 48 => 157 | 50 => 159 | 4 => 4 | 40 => 150 | 39 => 149 | 45 => 154 | 5 => 5 | 9 => 9 | 51 => 160 | 55 => 164 | 57 => 166 | 58 => 167 | 33 => 131 | n => n, fun | n => n⟩
theorem Try.sorted76 : Go.Proofs.SlLaysZ.n6 Try.prog Try.sorted76_ren := {
  mixed := by kernel_rfl
  f6 := ⟨Try.f76.name, by decide, Try.func76.trans (congrArg some (by kernel_rfl))⟩
  f8 := ⟨Try.f81.name, by decide, Try.func81.trans (congrArg some (by kernel_rfl))⟩
  f11 := ⟨Try.f85.name, by decide, Try.func85.trans (congrArg some (by kernel_rfl))⟩
  t0 := Try.underlying0
  a0 := Try.isAgg0
  z0 := Try.sizeOf0
  v0 := Try.zeroValue0
  t24 := Try.underlying22
  a24 := Try.isAgg22
  z24 := Try.sizeOf22
  v24 := Try.zeroValue22
  t26 := Try.underlying9
  a26 := Try.isAgg9
  z26 := Try.sizeOf9
  v26 := Try.zeroValue9
  t28 := Try.underlying138
  a28 := Try.isAgg138
  z28 := Try.sizeOf138
  v28 := Try.zeroValue138
  i26 := by kernel_rfl }
def Try.sort82_ren : Go.Shelf.Ren := ⟨fun | 6 => 82 | 8 => 87 | 9 => 86 | 19 => 98 | 20 => 99 | 21 => 89 | 22 => 90 | 23 => 91 | 24 => 92 | 25 => 93 | 26 => 94 | 27 => 95 | 28 => 96 | 29 => 97 | 36 => 100 | 31 => 101 | 32 => 102 | 37 => 103 | 38 => 104 | 39 => 105 | 41 => 106 | n => n, fun | 27 => 22 | 29 => 9 | 3 => 3 | 32 => 147 | 26 => 22 | 0 => 0 | 44 => 157 | 46 => 159 | 4 => 4 | 36 => 150 | 35 => 149 | 41 => 154 | 5 => 5 | 9 => 9 | 53 => 160 | 57 => 164 | 63 => 166 | 64 => 167 | n => n, fun | n => n⟩
theorem Try.sort82 : Go.Proofs.SlLaysM.n6 Try.prog Try.sort82_ren := {
  mixed := by kernel_rfl
  f6 := ⟨Try.f82.name, by decide, Try.func82.trans (congrArg some (by kernel_rfl))⟩
  f8 := Try.func87.trans (congrArg some (by kernel_rfl))
  f9 := ⟨Try.f86.name, by decide, Try.func86.trans (congrArg some (by kernel_rfl))⟩
  f19 := Try.func98.trans (congrArg some (by kernel_rfl))
  f20 := Try.func99.trans (congrArg some (by kernel_rfl))
  f21 := ⟨Try.f89.name, by decide, Try.func89.trans (congrArg some (by kernel_rfl))⟩
  f22 := ⟨Try.f90.name, by decide, Try.func90.trans (congrArg some (by kernel_rfl))⟩
  f23 := ⟨Try.f91.name, by decide, Try.func91.trans (congrArg some (by kernel_rfl))⟩
  f24 := ⟨Try.f92.name, by decide, Try.func92.trans (congrArg some (by kernel_rfl))⟩
  f25 := ⟨Try.f93.name, by decide, Try.func93.trans (congrArg some (by kernel_rfl))⟩
  f26 := ⟨Try.f94.name, by decide, Try.func94.trans (congrArg some (by kernel_rfl))⟩
  f27 := ⟨Try.f95.name, by decide, Try.func95.trans (congrArg some (by kernel_rfl))⟩
  f28 := ⟨Try.f96.name, by decide, Try.func96.trans (congrArg some (by kernel_rfl))⟩
  f29 := ⟨Try.f97.name, by decide, Try.func97.trans (congrArg some (by kernel_rfl))⟩
  f31 := Try.func101.trans (congrArg some (by kernel_rfl))
  f32 := Try.func102.trans (congrArg some (by kernel_rfl))
  f36 := ⟨Try.f100.name, by decide, Try.func100.trans (congrArg some (by kernel_rfl))⟩
  f37 := ⟨Try.f103.name, by decide, Try.func103.trans (congrArg some (by kernel_rfl))⟩
  f38 := ⟨Try.f104.name, by decide, Try.func104.trans (congrArg some (by kernel_rfl))⟩
  f39 := ⟨Try.f105.name, by decide, Try.func105.trans (congrArg some (by kernel_rfl))⟩
  f41 := ⟨Try.f106.name, by decide, Try.func106.trans (congrArg some (by kernel_rfl))⟩
  t0 := Try.underlying0
  a0 := Try.isAgg0
  z0 := Try.sizeOf0
  v0 := Try.zeroValue0
  t3 := Try.underlying3
  a3 := Try.isAgg3
  z3 := Try.sizeOf3
  v3 := Try.zeroValue3
  t4 := Try.underlying4
  a4 := Try.isAgg4
  z4 := Try.sizeOf4
  v4 := Try.zeroValue4
  t5 := Try.underlying5
  a5 := Try.isAgg5
  z5 := Try.sizeOf5
  v5 := Try.zeroValue5
  t9 := Try.underlying9
  a9 := Try.isAgg9
  z9 := Try.sizeOf9
  v9 := Try.zeroValue9
  t26 := Try.underlying22
  a26 := Try.isAgg22
  z26 := Try.sizeOf22
  v26 := Try.zeroValue22
  t27 := Try.underlying22
  a27 := Try.isAgg22
  z27 := Try.sizeOf22
  v27 := Try.zeroValue22
  t29 := Try.underlying9
  a29 := Try.isAgg9
  z29 := Try.sizeOf9
  v29 := Try.zeroValue9
  t32 := Try.underlying147
  a32 := Try.isAgg147
  z32 := Try.sizeOf147
  v32 := Try.zeroValue147
  t35 := Try.underlying149
  a35 := Try.isAgg149
  z35 := Try.sizeOf149
  v35 := Try.zeroValue149
  t36 := Try.underlying150
  a36 := Try.isAgg150
  z36 := Try.sizeOf150
  v36 := Try.zeroValue150
  t41 := Try.underlying154
  a41 := Try.isAgg154
  z41 := Try.sizeOf154
  v41 := Try.zeroValue154
  t44 := Try.underlying157
  a44 := Try.isAgg157
  z44 := Try.sizeOf157
  v44 := Try.zeroValue157
  t46 := Try.underlying159
  a46 := Try.isAgg159
  z46 := Try.sizeOf159
  v46 := Try.zeroValue159
  t53 := Try.underlying160
  a53 := Try.isAgg160
  z53 := Try.sizeOf160
  v53 := Try.zeroValue160
  t57 := Try.underlying164
  a57 := Try.isAgg164
  z57 := Try.sizeOf164
  v57 := Try.zeroValue164
  t63 := Try.underlying166
  a63 := Try.isAgg166
  z63 := Try.sizeOf166
  v63 := Try.zeroValue166
  t64 := Try.underlying167
  a64 := Try.isAgg167
  z64 := Try.sizeOf167
  v64 := Try.zeroValue167 }
theorem Try.sorts76 (m : Nat) : AnyZ.SortsIn Try.prog Try.sorted76_ren Fence.wide m :=
  ⟨fun blk off cap ss W hH hblk hsz => callsIn_wide.2 (AnyM.slices_Sort_string Try.sort82 blk off cap ss W hH hblk hsz),
   fun p cap W => callsIn_wide.2 (AnyM.slices_Sort_string_none Try.sort82 p cap W)⟩
theorem Try.maps_Keys_77 (mb : Option Nat) (W : World) : CallsIn Fence.wide 5 Try.prog 77 #[.map mb] W fun e w' => e = .returned (.func (.func 83) #[] #[.pointer (some ⟨W.heap.size, 0, none⟩)]) ∧ w' = W.alloc (.cells #[.map mb] 90) :=
  AnyZ.keys_in Try.keys77 Fence.wide 5 trivial rfl mb W
set_option maxHeartbeats 1000000 in
theorem Try.slices_Sorted_keys_76_77 {H : Type} (b nn : Nat) (D0 : DataW H) (R : Value → Option (DataW H × List MemPlace)) (w : World) (hown : w.ownsMap Try.prog 9 R b nn D0) (hmax : Maps.size D0 ≤ maxLen) (hbytes : Maps.size D0 * 16 ≤ 140737488355328) :
    CallsIn Fence.wide 5 Try.prog 76 #[.func (.func 83) #[] #[.pointer (some ⟨w.heap.size, 0, none⟩)]] (w.alloc (.cells #[.map (some b)] 90)) fun e w' => ∃ (v : Value) (ss : List (List UInt8)), e = .returned v ∧ ss.Perm (strKeys D0) ∧
      w'.ownsRow (w.alloc (.cells #[.map (some b)] 90)).heap.size 9 1 v ss.length ((ss.mergeSort (fun x y => decide (x ≤ y))).map encStr) ∧ (v = .slice none 0 0 ↔ ss = []) ∧ Below (w.alloc (.cells #[.map (some b)] 90)).heap.size (w.alloc (.cells #[.map (some b)] 90)) w' := by
  have hbl := hown.lt
  have hseq : SeqGives Fence.wide 2 Try.prog 83 #[.pointer (some ⟨w.heap.size, 0, none⟩)] encStr (fun ss => ss.Perm (strKeys D0)) (Maps.size D0) (w.alloc (.cells #[.map (some b)] 90)) :=
    AnyZ.keys_gives (ρ := Try.keys77_ren) { Try.keys77 with } Fence.wide _ trivial rfl (by omega) w.heap.size b nn D0 _ (by simp) (by simp) (by
      obtain ⟨es, clock, hb, Ft, hs, hD⟩ := hown
      exact ⟨es, clock, (Below.heap_alloc _ _ b hbl).trans hb, Ft, hs, hD⟩)
  exact AnyZ.sorted_in Try.sorted76 Fence.wide 5 trivial trivial trivial trivial rfl (by omega) (Try.sorts76 _) (enters_of Try.func82 (by kernel_rfl) rfl) 83 #[.pointer (some ⟨w.heap.size, 0, none⟩)] trivial (enters_of Try.func83 (by kernel_rfl) rfl) _ _ hmax hbytes _ hseq
theorem sortsKeys : SortsKeys := ⟨fun m W => callsIn_wide.1 (Try.maps_Keys_77 (some m) W), fun b nn D0 w h1 h2 h3 => callsIn_wide.1 (Try.slices_Sorted_keys_76_77 b nn D0 XKeys.R0 w h1 h2 h3)⟩
end Go.Proofs.Ytcdcojpfealppaa
