/- The names in order; the files. -/
import Derived.Test.YtcdcojpfealppaaXKeys
import Derived.Test.YtcdcojpfealppaaLeft
set_option linter.unusedVariables false
set_option linter.unusedSimpArgs false
set_option maxRecDepth 100000
namespace Go.Proofs.Ytcdcojpfealppaa
open Go Go.Proofs Go.RowKit Go.Proofs.XRed Go.Proofs.XHeap Go.Proofs.XMaps Go.Proofs.XSlices Go.Proofs.XDisk Go.Proofs.XCalls Go.Proofs.XRange Go.Proofs.XKeys
/-- What the library's two functions do (proved by the shelf; joined in at the end). -/
structure SortsKeys : Prop where
  keys : ∀ (m : Nat) (W : World), Calls P 77 #[.map (some m)] W fun e w' => e = .returned (.func (.func 83) #[] #[.pointer (some ⟨W.heap.size, 0, none⟩)]) ∧ w' = W.alloc (.cells #[.map (some m)] 90)
  sort : ∀ (b nn : Nat) (D0 : DataW Unit) (w : World), w.ownsMap P 9 R0 b nn D0 → Maps.size D0 ≤ maxLen → Maps.size D0 * 16 ≤ 140737488355328 →
    Calls P 76 #[.func (.func 83) #[] #[.pointer (some ⟨w.heap.size, 0, none⟩)]] (w.alloc (.cells #[.map (some b)] 90)) fun e w' => ∃ (v : Value) (ss : List (List UInt8)), e = .returned v ∧ ss.Perm (strKeys D0) ∧
      w'.ownsRow (w.alloc (.cells #[.map (some b)] 90)).heap.size 9 1 v ss.length ((ss.mergeSort (fun x y => decide (x ≤ y))).map encStr) ∧ (v = .slice none 0 0 ↔ ss = []) ∧ Below (w.alloc (.cells #[.map (some b)] 90)).heap.size (w.alloc (.cells #[.map (some b)] 90)) w'
def nameVals (l : Names) : List Value := l.map fun p => .string p.1
section
variable {w : World} {D : Nat} {S S' : AD} {O I : Nat → Prop} {L : Lay} {k : Value → World → Prop}
theorem c_sorted (sk : SortsKeys) {m : Nat} {l l' : Names} (h : SMap w m (mapVals L l)) (hp : l.Perm l') (ho : Ordered l') (hs : ∀ p ∈ l', p.1.size ≤ maxLen) (hl : l'.length ≤ 1099511627776)
    (hk : ∀ w' v, w'.ownsRow 0 9 1 v l'.length (nameVals l') → (∀ b, sblk v = some b → w.heap.size ≤ b) → Fr no w w' → k v w') : pFn P 56 [.map (some m)] w k := by
  refine F56_in _ _ _ ?_
  unfold F56_0
  refine pFn_of_calls Try.func77 (by kernel_rfl) (by kernel_rfl) (Calls.mono (sk.keys m w) ?_)
  rintro e w1 ⟨rfl, rfl⟩
  refine ⟨_, rfl, ?_⟩
  have hlen := hp.length_eq
  have hml : (mapVals L l).length = l.length := by simp [mapVals]
  obtain ⟨D0, h1, h2, h3⟩ := owns_of (P := P) Try.underlying9 h (by
    intro p hpm
    obtain ⟨q, hq, rfl⟩ := List.mem_map.1 hpm
    exact hs q (hp.mem_iff.1 hq)) (by unfold maxLen; omega)
  refine pFn_of_calls Try.func76 (by kernel_rfl) (by kernel_rfl) (Calls.mono (sk.sort m _ D0 w h1 (by unfold maxLen; omega) (by omega)) ?_)
  rintro e w2 ⟨v, ss, rfl, h4, h5, _, h6⟩
  refine ⟨v, rfl, ?_⟩
  have e1 : (mapVals L l).map (fun p => p.1.data.toList) = l.map fun p => p.1.data.toList := by simp [mapVals, Function.comp_def]
  have h7 : ss.Perm (l.map fun p => p.1.data.toList) := by rw [← e1]; exact h4.trans h3
  rw [sorted_keys hp ho h7] at h5
  have e2 : ss.length = l'.length := by have := h7.length_eq; simp at this; omega
  rw [e2] at h5
  have hf : Fr no w (w.alloc (.cells #[.map (some m)] 90)) := Fr.alloc ..
  have z1 : (w.alloc (.cells #[.map (some m)] 90)).heap.size = w.heap.size + 1 := by simp
  refine hk w2 v (own_less h5 (Nat.zero_le _)) (fun b hb => by have := (own_blk_lt h5 hb).1; omega) ((hf.or (Fr.below h6)).mono ?_)
  rintro b (hb | hb)
  · exact hb.elim
  · exact .inr (by omega)
end
end Go.Proofs.Ytcdcojpfealppaa
