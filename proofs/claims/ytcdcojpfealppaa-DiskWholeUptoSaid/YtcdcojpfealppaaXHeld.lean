/- Rows of the call's own that may be cut short: append on them, element stores. -/
import Derived.Test.YtcdcojpfealppaaXCalls
import Derived.Deep.Upon
import Derived.Laws.Append
set_option linter.unusedVariables false
set_option linter.unusedSimpArgs false
namespace Go.Proofs.XHeld
open Go Go.RowKit Go.Proofs.XRed Go.Proofs.XHeap Go.Proofs.XMaps Go.Proofs.XSlices Go.Proofs.XCalls
/-- A row of the call's own, of whose block more may be there than its capacity. -/
def row2 (w : World) (base : Nat) (e : TypeId) (size : Nat) (v : Value) (n : Nat) (xs : List Value) : Prop :=
  xs.length = n * size ∧ ((v = .slice none 0 0 ∧ n = 0) ∨
    ∃ g cap cur, v = .slice (some ⟨g, 0, none⟩) n cap ∧ base ≤ g ∧ w.heap[g]? = some (.cells cur e (0, 0)) ∧ n ≤ cap ∧ cap ≤ maxLen ∧ cap * size ≤ cur.size ∧ cur.toList.take (n * size) = xs)
section
variable {w w' : World} {base size n : Nat} {e : TypeId} {v : Value} {xs : List Value} {P : Program} {k : Value → World → Prop}
theorem row2_of (h : w.ownsRow base e size v n xs) : row2 w base e size v n xs := by
  refine ⟨h.1, ?_⟩
  rcases h.2 with h2 | ⟨g, cap, cur, hv, hb, hg, hn, hc, hs, ht⟩
  · exact .inl h2
  · exact .inr ⟨g, cap, cur, hv, hb, hg, hn, hc, by omega, ht⟩
theorem row2_nil : row2 w base e size (.slice none 0 0) 0 [] := ⟨by simp, .inl ⟨rfl, rfl⟩⟩
theorem row2_fr {O : Nat → Prop} (h : row2 w base e size v n xs) (hf : Fr O w w') (hn : ∀ b, sblk v = some b → ¬ O b) : row2 w' base e size v n xs := by
  refine ⟨h.1, ?_⟩
  rcases h.2 with h2 | ⟨g, cap, cur, rfl, hb, hg, rest⟩
  · exact .inl h2
  · exact .inr ⟨g, cap, cur, rfl, hb, hf.get hg (hn g rfl), rest⟩
theorem row2_lt (h : row2 w base e size v n xs) {b : Nat} (hb : sblk v = some b) : base ≤ b ∧ b < w.heap.size := by
  rcases h.2 with ⟨rfl, _⟩ | ⟨g, cap, cur, rfl, hb', hg, rest⟩
  · cases hb
  · simp only [sblk, Option.some.injEq] at hb
    subst hb
    exact ⟨hb', lt_of_get hg⟩
theorem row2_obj (h : row2 w base e size v n xs) {b : Nat} (hb : sblk v = some b) : ∃ cur, w.heap[b]? = some (.cells cur e (0, 0)) := by
  rcases h.2 with ⟨rfl, _⟩ | ⟨g, cap, cur, rfl, hb', hg, rest⟩
  · cases hb
  · simp only [sblk, Option.some.injEq] at hb
    subst hb
    exact ⟨cur, hg⟩
theorem row2_one (h : row2 w base e size v n xs) : v.cells = #[v] ∧ v.oneCell' = true := by
  rcases h.2 with ⟨rfl, _⟩ | ⟨g, cap, cur, rfl, _⟩ <;> exact ⟨rfl, rfl⟩
theorem row2_cell {g cap : Nat} (h : row2 w base e size (.slice (some ⟨g, 0, none⟩) n cap) n xs) {j : Nat} {u : Value} (hj : xs[j]? = some u) : w.cell? ⟨g, j, none⟩ = some u := by
  rcases h.2 with ⟨h', _⟩ | ⟨g', cap', cur, hv, _, hg, _, _, _, ht⟩
  · cases h'
  · simp only [Value.slice.injEq, Option.some.injEq, Addr.mk.injEq, and_true, true_and] at hv
    obtain ⟨rfl, rfl⟩ := hv
    refine cell_blk hg ?_
    rw [← ht] at hj
    rw [List.getElem?_take] at hj
    split at hj
    · simpa using hj
    · cases hj
theorem of_row2 (h : row2 w base e size v n xs) : XSlices.Src w v size n xs := by
  rcases h.2 with ⟨rfl, rfl⟩ | ⟨g, cap, cur, rfl, hb, hg, hn, _⟩
  · exact ⟨none, 0, rfl, Nat.le_refl _, by simpa using h.1, fun h => absurd h (Nat.lt_irrefl _)⟩
  · exact ⟨_, cap, rfl, hn, h.1, fun _ => ⟨g, 0, rfl, fun j u hj => by rw [Nat.zero_add]; exact row2_cell h hj⟩⟩
theorem row2_set {g cap : Nat} (h : row2 w base e size (.slice (some ⟨g, 0, none⟩) n cap) n xs) (j : Nat) (u : Value) : row2 (w.setCell ⟨g, j, none⟩ u) base e size (.slice (some ⟨g, 0, none⟩) n cap) n (xs.set j u) := by
  rcases h.2 with ⟨h', _⟩ | ⟨g', cap', cur, h', hb, hg, hnc, hcm, hcs, htake⟩
  · cases h'
  · simp only [Value.slice.injEq, Option.some.injEq, Addr.mk.injEq, and_true, true_and] at h'
    obtain ⟨rfl, rfl⟩ := h'
    refine ⟨by simpa using h.1, .inr ⟨g, cap, cur.setIfInBounds j u, rfl, hb, heap_setCell_same w g j cur e u hg, hnc, hcm, by simpa using hcs, ?_⟩⟩
    rw [Array.toList_setIfInBounds, ← htake, List.take_set]
/-- A row cut to its first elements, its capacity too. -/
theorem row2_cut {g cap m : Nat} (h : row2 w base e size (.slice (some ⟨g, 0, none⟩) n cap) n xs) (hm : m ≤ n) : row2 w base e size (.slice (some ⟨g, 0, none⟩) m m) m (xs.take (m * size)) := by
  have hms : m * size ≤ n * size := Nat.mul_le_mul_right _ hm
  rcases h.2 with ⟨h', _⟩ | ⟨g', cap', cur, h', hb, hg, hnc, hcm, hcs, htake⟩
  · cases h'
  · simp only [Value.slice.injEq, Option.some.injEq, Addr.mk.injEq, and_true, true_and] at h'
    obtain ⟨rfl, rfl⟩ := h'
    refine ⟨by rw [List.length_take, h.1]; omega, .inr ⟨g, m, cur, rfl, hb, hg, Nat.le_refl _, by omega, ?_, ?_⟩⟩
    · have : n * size ≤ cap * size := Nat.mul_le_mul_right _ hnc
      omega
    · rw [← htake, List.take_take]
      congr 1; omega
theorem s_append2 {t t' ty : TypeId} {i : TypeInfo} {z : Value} {bytes : Nat} (ht : P.underlying t = some (.slice e)) (ht' : t' = t) (hi : P.info? e = some i) (hz : i.zero = some z)
    (hsize : i.size = size) (hby : i.bytes = bytes) (hzs : z.cells.size = size) (hsz : 0 < size) {x : Value} {m : Nat} {cs : List Value} (HO : row2 w base e size v n xs) (HS : XSlices.Src w x size m cs)
    (h1 : ∀ u ∈ cs, u.oneCell' = true) (h63 : n + m ≤ maxLen) (hb : (n + m) * bytes ≤ 140737488355328) (hbase : base ≤ w.heap.size)
    (hk : ∀ v' w', row2 w' base e size v' (n + m) (xs ++ cs) → Fr (fun b => some b = sblk v) w w' → (sblk v' = sblk v ∨ sblk v' = some w.heap.size) → k v' w') : px P (bSem .append #[t, t'] ty #[v, x]) w k := by
  rcases HO.2 with ⟨rfl, rfl⟩ | ⟨g, cap, cur, rfl, hbg, hg, hnc, hcm, hcs, htake⟩
  · have hx : xs = [] := List.eq_nil_of_length_eq_zero (by simpa using HO.1)
    subst hx
    exact s_append ht ht' hi hz hsize hby hzs hsz (n := 0) (xs := []) (base := base) ⟨by simp, .inl ⟨rfl, rfl⟩⟩ HS h1 h63 hb hbase fun v' w' h2 h3 h4 => hk v' w' (row2_of h2) h3 h4
  subst ht'
  subst hsize
  subst hby
  obtain ⟨A, c, rfl, hc, hl, hr⟩ := HS
  have hlen : (xs ++ cs).length = (n + m) * i.size := by rw [List.length_append, HO.1, hl, Nat.add_mul]
  rcases Nat.eq_zero_or_pos m with h0 | h0
  · subst h0
    have hcs0 : cs = [] := List.eq_nil_of_length_eq_zero (by simpa using hl)
    subst hcs0
    refine px_ok (w' := w) (v := .slice (some ⟨g, 0, none⟩) n cap) ?_ (hk _ w (by simpa using HO) (Fr.refl _ _) (.inl rfl))
    cases A <;> simp [bSem, Builtin.append_, run_underlying ht, sizeOf, typeInfo, hi, Builtin.lenOf, Builtin.firstCells, hnc, storeCells, loadCells, loadCellsFrom]
  · obtain ⟨b, o, rfl, hcell⟩ := hr h0
    have hnews : ∀ j u, cs[j]? = some u → w.cell? ((⟨b, o, none⟩ : Addr).add j) = some u := fun j u hu => by rw [add_at]; exact hcell j u hu
    by_cases hroom : n + m ≤ cap
    · have hfit : n * i.size + cs.length ≤ cur.size := by
        rw [hl, ← Nat.add_mul]
        exact Nat.le_trans (Nat.mul_le_mul_right _ hroom) hcs
      refine px_ok (run_append_room (P := P) w t' ty e i ht hi g n cap cur hg ⟨b, o, none⟩ m c cs hl hnews h1 hroom hfit) (hk _ _ ⟨hlen, .inr ⟨g, cap, _, rfl, hbg, setRow_heap w g cur _ e _ hg, hroom, hcm, ?_, ?_⟩⟩ ?_ (.inl rfl))
      · simp only [List.size_toArray, List.length_append, List.length_take, List.length_drop, Array.length_toList]
        omega
      · rw [htake, ← hlen]
        exact List.take_left
      · exact (Fr.setRow hg).mono fun b hb => .inl (by rw [hb]; rfl)
    · have holds : ∀ j u, xs[j]? = some u → w.cell? ((⟨g, 0, none⟩ : Addr).add j) = some u := fun j u hj => by
        rw [add_at, Nat.zero_add]; exact row2_cell HO hj
      have hsm : n + m ≤ 9223372036854775807 := by simp only [maxLen] at h63; omega
      have hge := grownCap_ge w (n + m) cap e
      have hcm' : grownCap w (n + m) cap e ≤ maxLen := grownCap_le_maxLen w (n + m) cap e h63
      refine px_ok (run_append_grow (P := P) w t' ty e i z ht hi hz ⟨g, 0, none⟩ n cap xs HO.1 holds ⟨b, o, none⟩ m c cs hl hnews (by omega) (by omega) (growslice_fits (by omega) hb)) (hk _ _ ⟨hlen, .inr ⟨w.heap.size, _, _, rfl, hbase, heap_alloc_new w.drew _, hge, hcm', ?_, ?_⟩⟩ ?_ (.inr rfl))
      · refine Nat.le_of_eq ?_
        simp only [Array.size_append, List.size_toArray, size_zeroCells, hzs, HO.1, hl, ← Nat.add_mul]
        congr 1
        omega
      · simp only [Array.toList_append, List.append_assoc]
        rw [← List.append_assoc, ← hlen]
        exact List.take_left
      · exact (Fr.drew _ _).trans (Fr.alloc _ _ _) fun b hb => .inl hb
theorem s_sl_hm {t : TypeId} {A : Option Addr} {n c sz : Nat} {q q' : IntKind} {i j : Int} (h : P.underlying t = some (.slice (P.elem t))) (hs : (sizeOf (P.elem t)).run P w = .ok sz w) (h0 : 0 ≤ i) (h1 : i ≤ j) (h2 : j ≤ c) (hk : k (.slice A i.toNat j.toNat) w) :
    px P (Instr.sliceAt t (.slice A n c) none (some (.int q i)) (some (.int q' j))) w k := by
  refine px_ok (w' := w) ?_ hk
  rw [run_sliceAt_slice w t _ _ _ _ h, run_slice_hm w t A n c h q q' i j h0 h1 (by omega), hs]
  simp only [sliced, Result.andThen, Nat.zero_mul, Nat.sub_zero]
  split
  · rfl
  · cases A <;> simp [Addr.add]
end
end Go.Proofs.XHeld
