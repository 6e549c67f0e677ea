/- Things: changes of bytes. -/
import Derived.Test.YtcdcojpfealppaaStroke
set_option linter.unusedVariables false
set_option linter.unusedSimpArgs false
set_option maxRecDepth 100000
namespace Go.Proofs.Ytcdcojpfealppaa
open Go Go.Proofs Go.RowKit Go.Proofs.XRed Go.Proofs.XHeap Go.Proofs.XMaps Go.Proofs.XSlices Go.Proofs.XDisk Go.Proofs.XCalls
def no : Nat → Prop := fun _ => False
theorem Src.front {w : World} {size n m : Nat} {cs : List Value} {A : Option Addr} {c : Nat} (h : Src w (.slice A n c) size n cs) (hm : m ≤ n) : Src w (.slice A m c) size m (cs.take (m * size)) := by
  obtain ⟨A', c', he, hc, hl, hr⟩ := h
  injection he with e1 e2 e3
  subst e1; subst e3
  refine ⟨_, _, rfl, by omega, ?_, fun h0 => ?_⟩
  · rw [List.length_take, hl]
    exact Nat.min_eq_left (Nat.mul_le_mul_right _ hm)
  · obtain ⟨b, o, rfl, hcell⟩ := hr (by omega)
    refine ⟨b, o, rfl, fun j u hj => hcell j u ?_⟩
    rw [List.getElem?_take] at hj
    split at hj
    · exact hj
    · cases hj
theorem SBytes.front {w : World} {A : Option Addr} {c m : Nat} {bs : List UInt8} (h : SBytes w (.slice A bs.length c) bs) (hm : m ≤ bs.length) : SBytes w (.slice A m c) (bs.take m) := by
  have := Src.front h hm
  unfold SBytes
  rw [List.length_take, Nat.min_eq_left hm]
  unfold u8s at *
  rw [Nat.mul_one, ← List.map_take] at this
  exact this
theorem SBytes.blk {w : World} {g : Nat} {t : TypeId} {fr : Nat × Nat} {bs : List UInt8} {c : Nat} (h : w.heap[g]? = some (.cells (u8s bs).toArray t fr)) (hc : bs.length ≤ c) : SBytes w (.slice (some ⟨g, 0, none⟩) bs.length c) bs := by
  refine ⟨_, _, rfl, hc, by simp [u8s], fun _ => ⟨g, 0, rfl, fun j u hj => ?_⟩⟩
  rw [Nat.zero_add]
  exact cell_blk h (by simpa using hj)
section
variable {w : World} {D : Nat} {S S' : AD} {O I : Nat → Prop} {L : Lay} {k : Value → World → Prop}
theorem c_units {c : Chg} {v : Value} (h : ChgV w I c v) (hk : ∀ w', Fr no w w' → k (i64 c.units) w') : pInv P v "freight/disk.units" [] w k := by
  cases c with
  | cut n =>
    subst h
    refine s_inv (f := 126) (by kernel_rfl) Try.underlying116 (fun e h => by cases h) ?_
    refine F126_in _ _ _ ?_
    exact hk w (Fr.refl _ _)
  | wr a d =>
    obtain ⟨s, rfl, hs⟩ := h
    refine s_inv (f := 128) (by kernel_rfl) Try.underlying118 (fun e h => by cases h) ?_
    refine F128_in _ _ _ ?_
    unfold F128_0
    refine s_box (fa118_1 (s_ldb (v := s) (Try.isAgg30 _) (alloc_new w _) rfl ?_))
    obtain ⟨A, c, rfl, hc⟩ := hs.1.form
    exact s_len usl30 (hk _ (Fr.alloc _ _ _))
theorem c_made {c : Chg} {v on : Value} {b : Bytes} {u : Nat} (h : ChgV w I c v) (hon : SB w I on b) (hu : u ≤ c.units) (hb : b.length ≤ 1099511627776) (hcut : ∀ n, c = .cut n → u ≠ 0 → n ≤ b.length) (hwr : ∀ a d, c = .wr a d → u ≠ 0 → a + u ≤ 1099511627776)
    (hk : ∀ w' v', SBytes w' v' (c.made b u) → (∀ i, sblk v' = some i → I i ∨ (w.heap.size ≤ i ∧ i < w'.heap.size)) → Fr no w w' → k v' w') : pInv P v "freight/disk.made" [on, i64 u] w k := by
  cases c with
  | cut n =>
    subst h
    refine s_inv (f := 125) (by kernel_rfl) Try.underlying116 (fun e h => by cases h) ?_
    refine F125_in _ _ _ _ _ ?_
    unfold F125_0
    by_cases h0 : u = 0
    · refine s_eqi_t (by omega) (pC_true (hk w on ?_ (fun i hi => .inl (hon.2 i hi)) (Fr.refl _ _)))
      simp only [Chg.made, h0, if_true]; exact hon.1
    · refine s_eqi_f (by omega) (pC_false ?_)
      obtain ⟨A, c, rfl, hc⟩ := hon.1.form
      have hn := hcut n rfl h0
      refine s_sl_h usl30 (sze30 _) (by omega) (by omega) ?_
      rw [Int.toNat_natCast]
      refine hk w _ ?_ (fun i hi => .inl (hon.2 i (by cases A <;> exact hi))) (Fr.refl _ _)
      simp only [Chg.made, h0, if_false]
      exact SBytes.front hon.1 hn
  | wr a d =>
    obtain ⟨s, rfl, hs⟩ := h
    have hud : u ≤ d.length := hu
    refine s_inv (f := 127) (by kernel_rfl) Try.underlying118 (fun e h => by cases h) ?_
    refine F127_in _ _ _ _ _ ?_
    unfold F127_0
    refine s_box ?_
    have hB := alloc_new w (.cells #[i64 a, s] 118)
    have f1 := Fr.alloc no w (.cells #[i64 a, s] 118)
    have z1 : (w.alloc (.cells #[i64 a, s] 118)).heap.size = w.heap.size + 1 := by simp
    have hon1 := hon.1.fr f1 (fun b _ => id)
    have hs1 := hs.1.fr f1 (fun b _ => id)
    show px P _ (w.alloc (.cells #[i64 a, s] 118)) _
    generalize w.alloc (.cells #[i64 a, s] 118) = w1 at *
    by_cases h0 : u = 0
    · refine s_eqi_t (by omega) (pC_true (hk w1 on ?_ (fun i hi => .inl (hon.2 i hi)) f1))
      simp only [Chg.made, h0, if_true]; exact hon1
    · have ha := hwr a d rfl h0
      refine s_eqi_f (by omega) (pC_false ?_)
      obtain ⟨A, c, rfl, hc⟩ := hon.1.form
      refine s_len usl30 (fa118_0 (s_ldb (v := i64 a) (Try.isAgg3 _) hB rfl (s_add_in (by omega) (s_max ?_))))
      have en : (if (a : Int) + u > b.length then (a : Int) + u else b.length) = ((max b.length (a + u) : Nat) : Int) := by split <;> omega
      rw [en]
      have hN : max b.length (a + u) ≤ 1099511627776 := by omega
      generalize hNe : max b.length (a + u) = N at *
      refine s_mks (t := 30) (e := 5) (i := Try.t5) (z := .int .u8 0) (by kernel_rfl) (by kernel_rfl) (by kernel_rfl) (by omega) (by show (1 : Int) * N ≤ _; omega) (by omega) ?_
      rw [Int.toNat_natCast, madeCells_one _ rfl]
      have ez : List.replicate (N * Try.t5.size) (Value.int .u8 0) = u8s (List.replicate N 0) := by
        have : N * Try.t5.size = N := Nat.mul_one N
        rw [this]; simp [u8s]
      rw [ez]
      have f2 := Fr.alloc no w1 (.cells (u8s (List.replicate N 0)).toArray 5)
      have hg := alloc_new w1 (.cells (u8s (List.replicate N 0)).toArray 5)
      have z2 : (w1.alloc (.cells (u8s (List.replicate N 0)).toArray 5)).heap.size = w1.heap.size + 1 := by simp
      have hB2 := f2.get hB id
      have hon2 := hon1.fr f2 (fun b _ => id)
      have hs2 := hs1.fr f2 (fun b _ => id)
      show px P _ (w1.alloc (.cells (u8s (List.replicate N 0)).toArray 5)) _
      generalize w1.alloc (.cells (u8s (List.replicate N 0)).toArray 5) = w2 at *
      refine s_copy usl30 (by kernel_rfl) hg hon2 u8s_one (by simp [u8s]; omega) fun w3 hg3 f3 z3 => ?_
      have e3 : (List.take 0 (u8s (List.replicate N 0)).toArray.toList ++ List.take N (u8s b) ++ List.drop (0 + min b.length N) (u8s (List.replicate N 0)).toArray.toList) = u8s (b ++ List.replicate (N - b.length) 0) := by
        have h1 : min b.length N = b.length := by omega
        have h2 : List.take N (u8s b) = u8s b := List.take_of_length_le (by rw [u8s_length]; omega)
        simp only [h1, h2, List.take_zero, List.nil_append, Nat.zero_add, u8s_append]
        congr 1
        simp [u8s, List.drop_replicate]
      rw [e3] at hg3
      have hsg : ∀ i, sblk s = some i → i ≠ w1.heap.size := by
        rintro i hi rfl
        rcases Nat.eq_zero_or_pos d.length with h1 | h1
        · omega
        · have := Src.lt hs1 (by omega) h1 hi; omega
      have hs3 := hs2.fr f3 hsg
      have hB3 := f3.get hB2 (by omega)
      show ∃ S : World → Prop, _
      refine ⟨fun w' => w'.heap[w.heap.size]? = some (.cells #[i64 a, s] 118 (0, 0)), hB3, ?_⟩
      refine q_of _ (fun w_ hS => fa118_0 ⟨rfl, rfl⟩) ?_
      refine q_of (i64 a) (fun w_ hS => s_ldb (Try.isAgg3 _) hS rfl ⟨rfl, rfl⟩) ?_
      refine q_of (.slice (some ⟨w1.heap.size, a, none⟩) (N - a) (N - a)) (fun w_ hS => s_sl_l usl30 (sze30 _) (by omega) (by omega) ⟨?_, rfl⟩) ?_
      · rw [Int.toNat_natCast]
        unfold sliced
        rw [if_neg (by omega)]
        simp [add_at]
      refine q_of _ (fun w_ hS => fa118_1 ⟨rfl, rfl⟩) ?_
      refine q_of s (fun w_ hS => s_ldb (Try.isAgg30 _) hS rfl ⟨rfl, rfl⟩) ?_
      obtain ⟨A', c', rfl, hc'⟩ := hs3.form
      refine q_of (.slice A' u c') (fun w_ hS => s_sl_h usl30 (sze30 _) (by omega) (by omega) ⟨by rw [Int.toNat_natCast], rfl⟩) ?_
      have hsf := SBytes.front hs3 hud
      have hl : (d.take u).length = u := by rw [List.length_take]; omega
      have hsf' : Src w3.drew (.slice A' u c') 1 u (u8s (d.take u)) := by have := hsf; unfold SBytes at this; rw [hl] at this; exact this
      refine s_copy usl30 (by kernel_rfl) (show w3.drew.heap[w1.heap.size]? = _ from hg3) hsf' u8s_one (by simp [u8s]; omega) fun w4 hg4 f4 z4 => ?_
      have e4 : (List.take a (u8s (b ++ List.replicate (N - b.length) 0)).toArray.toList ++ List.take (N - a) (u8s (d.take u)) ++ List.drop (a + min u (N - a)) (u8s (b ++ List.replicate (N - b.length) 0)).toArray.toList) = u8s (Chg.made b u (.wr a d)) := by
        have h1 : min u (N - a) = u := by omega
        have h2 : List.take (N - a) (u8s (d.take u)) = u8s (d.take u) := List.take_of_length_le (by rw [u8s_length, hl]; omega)
        have h3 : a + u - b.length = N - b.length := by omega
        simp only [h1, h2, Chg.made, if_neg h0, h3]
        simp [u8s, List.map_append, List.map_take, List.map_drop]
      rw [e4] at hg4
      have hlen : (Chg.made b u (.wr a d)).length = N := by
        simp only [Chg.made, if_neg h0]
        rw [made_len]; omega
      have hf : Fr no w w4 := (((f1.or f2).or f3).or ((Fr.drew no w3).or f4)).mono (by
        rintro i (((hi | hi) | hi) | (hi | hi))
        · exact .inl hi
        · exact .inl hi
        · exact .inr (by omega)
        · exact .inl hi
        · exact .inr (by omega))
      refine hk w4 _ ?_ ?_ hf
      · have := SBytes.blk hg4 (Nat.le_refl _)
        rw [hlen] at this; exact this
      · intro i hi
        injection hi with hi
        have h1 : i = w1.heap.size := hi.symm
        have h2 : w3.drew.heap.size = w3.heap.size := rfl
        exact .inr ⟨by omega, by omega⟩
end
end Go.Proofs.Ytcdcojpfealppaa
