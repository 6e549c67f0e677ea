/- Slices for the walk by reduction: what is read of them, rows that grow, bytes. -/
import Derived.Test.YtcdcojpfealppaaXMaps
import Derived.Laws.MakeOwn
import Derived.Laws.OwnMore
import Derived.Deep.AppendLies
set_option linter.unusedVariables false
set_option linter.unusedSimpArgs false
namespace Go.Proofs.XSlices
open Go Go.RowKit Go.Proofs.XRed Go.Proofs.XHeap Go.Proofs.XMaps

/-- The block that a slice lies in. -/
def sblk : Value → Option Nat
  | .slice (some a) _ _ => some a.block
  | _ => none
theorem sblk_own (v : Value) : v.ownBlock = sblk v := by cases v <;> first | rfl | (rename_i a n c; cases a <;> rfl)
theorem add_at (b o j : Nat) : (⟨b, o, none⟩ : Addr).add j = ⟨b, o + j, none⟩ := by unfold Addr.add; split <;> simp_all

/-- x is a slice of m elements (size cells each) whose cells are cs. -/
def Src (w : World) (x : Value) (size m : Nat) (cs : List Value) : Prop :=
  ∃ A c, x = .slice A m c ∧ m ≤ c ∧ cs.length = m * size ∧ (0 < m → ∃ b o, A = some ⟨b, o, none⟩ ∧ ∀ j u, cs[j]? = some u → w.cell? ⟨b, o + j, none⟩ = some u)
theorem Src.nil (w : World) (size : Nat) : Src w (.slice none 0 0) size 0 [] := ⟨none, 0, rfl, Nat.le_refl _, by simp, fun h => absurd h (Nat.lt_irrefl _)⟩
theorem Src.fr {O : Nat → Prop} {w w' : World} {x : Value} {size m : Nat} {cs : List Value} (h : Src w x size m cs) (hs : 0 < size) (hf : Fr O w w') (hn : ∀ b, sblk x = some b → ¬ O b) : Src w' x size m cs := by
  obtain ⟨A, c, rfl, hc, hl, hr⟩ := h
  refine ⟨A, c, rfl, hc, hl, fun hm => ?_⟩
  obtain ⟨b, o, rfl, hcell⟩ := hr hm
  refine ⟨b, o, rfl, fun j u hj => ?_⟩
  have hlt : b < w.heap.size := World.block_lt_of_cell? w ⟨b, o + j, none⟩ (hcell j u hj)
  rw [World.cell?_of_block (w := w) (hf.block b hlt (hn b rfl))]
  exact hcell j u hj
theorem Src.lt {w : World} {x : Value} {size m : Nat} {cs : List Value} (h : Src w x size m cs) (hs : 0 < size) (hm : 0 < m) {b : Nat} (hb : sblk x = some b) : b < w.heap.size := by
  obtain ⟨A, c, rfl, hc, hl, hr⟩ := h
  obtain ⟨b', o, rfl, hcell⟩ := hr hm
  have h0 : 0 < cs.length := by rw [hl]; exact Nat.mul_pos hm hs
  have := World.block_lt_of_cell? w ⟨b', o + 0, none⟩ (hcell 0 cs[0] (by simp [h0]))
  simp only [sblk, Option.some.injEq] at hb
  subst hb; exact this
theorem Src.of_own {w : World} {base size m : Nat} {e : TypeId} {v : Value} {cs : List Value} (h : w.ownsRow base e size v m cs) : Src w v size m cs := by
  have h1 := h.1
  rcases h.2 with ⟨rfl, rfl⟩ | ⟨g, cap, cur, rfl, _, hg, hn, _⟩
  · exact ⟨none, 0, rfl, Nat.le_refl _, by simpa using h1, fun h => absurd h (Nat.lt_irrefl _)⟩
  · refine ⟨_, cap, rfl, hn, h1, fun _ => ⟨g, 0, rfl, fun j u hj => ?_⟩⟩
    have := h.cells (g := g) rfl j u hj
    rwa [add_at] at this

def u8s (bs : List UInt8) : List Value := bs.map fun x => .int .u8 x.toNat
theorem u8s_length (bs : List UInt8) : (u8s bs).length = bs.length := by simp [u8s]
theorem u8s_append (a b : List UInt8) : u8s (a ++ b) = u8s a ++ u8s b := by simp [u8s]
theorem u8s_one {bs : List UInt8} : ∀ u ∈ u8s bs, u.oneCell' = true := by
  intro u hu; obtain ⟨x, _, rfl⟩ := List.mem_map.1 hu; rfl
/-- A slice of bytes. -/
def SBytes (w : World) (v : Value) (bs : List UInt8) : Prop := Src w v 1 bs.length (u8s bs)
theorem SBytes.fr {O : Nat → Prop} {w w' : World} {v : Value} {bs : List UInt8} (h : SBytes w v bs) (hf : Fr O w w') (hn : ∀ b, sblk v = some b → ¬ O b) : SBytes w' v bs := Src.fr h (by omega) hf hn
theorem SBytes.nil (w : World) : SBytes w (.slice none 0 0) [] := Src.nil w 1
theorem SBytes.form {w : World} {v : Value} {bs : List UInt8} (h : SBytes w v bs) : ∃ A c, v = .slice A bs.length c ∧ bs.length ≤ c := by
  obtain ⟨A, c, hv, hc, _⟩ := h; exact ⟨A, c, hv, hc⟩

section
variable {P : Program} {w : World} {k : Value → World → Prop}

theorem s_len {t ty : TypeId} {A : Option Addr} {n c : Nat} (h : P.underlying t = some (.slice (P.elem t))) (hk : k (.int .i64 n) w) : px P (bSem .len #[t] ty #[.slice A n c]) w k :=
  px_ok (run_len_slice w t ty A n c h) hk
theorem s_lens {t ty : TypeId} {s : ByteArray} (h : P.underlying t = some .string) (hk : k (.int .i64 s.size) w) : px P (bSem .len #[t] ty #[.string s]) w k := by
  refine px_ok (w' := w) ?_ hk
  simp [bSem, Builtin.len_, goInt, run_underlying h, Result.andThen]
theorem s_ix {t : TypeId} {b o n c sz : Nat} {q : IntKind} {i : Int} (h : P.underlying t = some (.slice (P.elem t))) (hs : (sizeOf (P.elem t)).run P w = .ok sz w) (h0 : 0 ≤ i) (h1 : i < n)
    (hk : k (.pointer (some ⟨b, o + i.toNat * sz, none⟩)) w) : px P (Instr.indexAt t (.slice (some ⟨b, o, none⟩) n c) (.int q i)) w k := by
  refine px_ok (w' := w) ?_ hk
  rw [run_indexAt_slice w t _ n c q i h, if_pos ⟨h0, h1⟩, hs]
  simp [Result.andThen, add_at]
/-- The element i of a slice of one-cell elements: its address, and what lies there. -/
theorem s_ix_src {t : TypeId} {x : Value} {m : Nat} {cs : List Value} {q : IntKind} {i : Int} (h : P.underlying t = some (.slice (P.elem t))) {size : Nat} (hs : (sizeOf (P.elem t)).run P w = .ok size w) (hS : Src w x size m cs) (h0 : 0 ≤ i) (h1 : i < m)
    (hk : ∀ b o, (∀ j u, j < size → cs[i.toNat * size + j]? = some u → w.cell? ⟨b, o + j, none⟩ = some u) → k (.pointer (some ⟨b, o, none⟩)) w) : px P (Instr.indexAt t x (.int q i)) w k := by
  obtain ⟨A, c, rfl, hc, hl, hr⟩ := hS
  obtain ⟨b, o, rfl, hcell⟩ := hr (by omega)
  refine s_ix h hs h0 h1 (hk b _ fun j u hj hu => ?_)
  have := hcell _ u hu
  rwa [Nat.add_assoc]
theorem s_sl_h {t : TypeId} {A : Option Addr} {n c sz : Nat} {q : IntKind} {i : Int} (h : P.underlying t = some (.slice (P.elem t))) (hs : (sizeOf (P.elem t)).run P w = .ok sz w) (h0 : 0 ≤ i) (h1 : i ≤ c) (hk : k (.slice A i.toNat c) w) :
    px P (Instr.sliceAt t (.slice A n c) none (some (.int q i)) none) w k := by
  refine px_ok (w' := w) ?_ hk
  rw [run_sliceAt_slice w t _ _ _ _ h, run_slice_h w t A n c h q i h0 (by omega), hs]
  simp only [sliced, Result.andThen, Nat.zero_mul, Nat.sub_zero]
  split
  · rfl
  · cases A <;> simp [Addr.add]
theorem s_sl_l {t : TypeId} {A : Option Addr} {n c sz : Nat} {q : IntKind} {i : Int} (h : P.underlying t = some (.slice (P.elem t))) (hs : (sizeOf (P.elem t)).run P w = .ok sz w) (h0 : 0 ≤ i) (h1 : i ≤ n)
    (hk : k (sliced A i.toNat n c sz) w) : px P (Instr.sliceAt t (.slice A n c) (some (.int q i)) none none) w k := by
  refine px_ok (w' := w) ?_ hk
  rw [run_sliceAt_slice w t _ _ _ _ h, run_slice_l w t A n c h q i h0 (by omega), hs]
  rfl
theorem s_sl_lh {t : TypeId} {A : Option Addr} {n c sz : Nat} {q q' : IntKind} {i j : Int} (h : P.underlying t = some (.slice (P.elem t))) (hs : (sizeOf (P.elem t)).run P w = .ok sz w) (h0 : 0 ≤ i) (h1 : i ≤ j) (h2 : j ≤ c)
    (hk : k (sliced A i.toNat j.toNat c sz) w) : px P (Instr.sliceAt t (.slice A n c) (some (.int q i)) (some (.int q' j)) none) w k := by
  refine px_ok (w' := w) ?_ hk
  rw [run_sliceAt_slice w t _ _ _ _ h, run_slice_lh w t A n c h q q' i j h0 h1 (by omega), hs]
  rfl
/-- A cut of what is read. -/
theorem Src.cut {size n : Nat} {cs : List Value} {A : Option Addr} {c : Nat} (h : Src w (.slice A n c) size n cs) {l h' : Nat} (h1 : l ≤ h') (h2 : h' ≤ n) :
    Src w (sliced A l h' c size) size (h' - l) ((cs.drop (l * size)).take ((h' - l) * size)) := by
  obtain ⟨A', c', he, hc, hl, hr⟩ := h
  injection he with e1 e2 e3
  subst e1; subst e3
  refine ⟨_, _, rfl, by omega, ?_, fun hm => ?_⟩
  · rw [List.length_take, List.length_drop, hl]
    have : (h' - l) * size ≤ n * size - l * size := by rw [← Nat.sub_mul]; exact Nat.mul_le_mul_right _ (by omega)
    omega
  · obtain ⟨b, o, rfl, hcell⟩ := hr (by omega)
    have hne : ¬ c = l := by omega
    rw [if_neg hne]
    refine ⟨b, o + l * size, by simp [add_at], fun j u hj => ?_⟩
    rw [List.getElem?_take] at hj
    split at hj
    · rw [List.getElem?_drop] at hj
      have := hcell _ u hj
      rwa [Nat.add_assoc]
    · cases hj

/-! A slice literal of one element, of none -/
theorem s_lit1 {t e : TypeId} {z x : Value} (ht : (underlying t).run P w = .ok (.slice e) w) (hs : (sizeOf e).run P w = .ok 1 w) (hz : (zeroValue e).run P w = .ok z w) (hz1 : z.cells = #[z]) (hx : x.cells = #[x])
    (hk : k (.slice (some ⟨w.heap.size, 0, none⟩) 1 1) (w.alloc (.cells #[x] e))) : px P (Instr.buildSlice t 1 #[(0, x)]) w k := by
  refine px_ok ?_ hk
  have hr : Array.range 1 = #[0] := rfl
  simp [Instr.buildSlice, ht, hs, hz, hz1, hx, Instr.fill, newRow, newObj, Sem.run, Result.andThen, hr]
theorem s_lit0 {t e : TypeId} {sz : Nat} (ht : (underlying t).run P w = .ok (.slice e) w) (hs : (sizeOf e).run P w = .ok sz w)
    (hk : k (.slice (some ⟨w.heap.size, 0, none⟩) 0 0) (w.alloc (.cells #[] e))) : px P (Instr.buildSlice t 0 #[]) w k := by
  refine px_ok ?_ hk
  have hr : Array.range 0 = #[] := rfl
  simp [Instr.buildSlice, ht, hs, Instr.fill, newRow, newObj, Sem.run, Result.andThen, hr]

/-! append -/
theorem run_append_src {base : Nat} {t t' ty e : TypeId} {i : TypeInfo} {z : Value} {size bytes : Nat} (ht : P.underlying t = some (.slice e)) (ht' : t' = t) (hi : P.info? e = some i) (hz : i.zero = some z)
    (hsize : i.size = size) (hby : i.bytes = bytes) (hzs : z.cells.size = size) (hsz : 0 < size) {v x : Value} {n m : Nat} {xs cs : List Value} (HO : w.ownsRow base e size v n xs) (HS : Src w x size m cs)
    (h1 : ∀ u ∈ cs, u.oneCell' = true) (h63 : n + m ≤ maxLen) (hb : (n + m) * bytes ≤ 140737488355328) (hbase : base ≤ w.heap.size) :
    ∃ v' w', (Builtin.append_ #[t, t'] ty #[v, x]).run P w = .ok v' w' ∧ w'.ownsRow base e size v' (n + m) (xs ++ cs) ∧ w.grownBy w' v.ownBlock ∧ (v'.ownBlock = v.ownBlock ∨ v'.ownBlock = some w.heap.size) := by
  subst ht'
  obtain ⟨A, c, rfl, hc, hl, hr⟩ := HS
  rcases Nat.eq_zero_or_pos m with h0 | h0
  · subst h0
    have hcs : cs = [] := List.eq_nil_of_length_eq_zero (by simpa using hl)
    subst hcs
    cases A with
    | none =>
      rcases HO.2 with ⟨rfl, rfl⟩ | ⟨g, cap, cur, rfl, hg, hh, hnc, rest⟩
      · refine ⟨_, w, ?_, by simpa using HO, World.grownBy.refl w _, .inl rfl⟩
        simp [Builtin.append_, run_underlying ht, sizeOf, typeInfo, hi, Builtin.lenOf, Builtin.firstCells]
      · refine ⟨_, w, ?_, by simpa using HO, World.grownBy.refl w _, .inl rfl⟩
        simp [Builtin.append_, run_underlying ht, sizeOf, typeInfo, hi, Builtin.lenOf, Builtin.firstCells, hnc, storeCells]
    | some a =>
      obtain ⟨v', w', hrun, h2, h3, _, h5⟩ := run_append_own_at (P := P) w base t' ty e i z size bytes ht hi hz hsize hby hzs hsz v n xs HO a 0 c [] (by simp) (by simp) (by simp) h63 hb hbase
      exact ⟨v', w', hrun, h2, h3, h5⟩
  · obtain ⟨b, o, rfl, hcell⟩ := hr h0
    obtain ⟨v', w', hrun, h2, h3, _, h5⟩ := run_append_own_at (P := P) w base t' ty e i z size bytes ht hi hz hsize hby hzs hsz v n xs HO ⟨b, o, none⟩ m c cs hl
      (fun j u hu => by rw [add_at]; exact hcell j u hu) h1 h63 hb hbase
    exact ⟨v', w', hrun, h2, h3, h5⟩
theorem s_append {base : Nat} {t t' ty e : TypeId} {i : TypeInfo} {z : Value} {size bytes : Nat} (ht : P.underlying t = some (.slice e)) (ht' : t' = t) (hi : P.info? e = some i) (hz : i.zero = some z)
    (hsize : i.size = size) (hby : i.bytes = bytes) (hzs : z.cells.size = size) (hsz : 0 < size) {v x : Value} {n m : Nat} {xs cs : List Value} (HO : w.ownsRow base e size v n xs) (HS : Src w x size m cs)
    (h1 : ∀ u ∈ cs, u.oneCell' = true) (h63 : n + m ≤ maxLen) (hb : (n + m) * bytes ≤ 140737488355328) (hbase : base ≤ w.heap.size)
    (hk : ∀ v' w', w'.ownsRow base e size v' (n + m) (xs ++ cs) → Fr (fun b => some b = sblk v) w w' → (sblk v' = sblk v ∨ sblk v' = some w.heap.size) → k v' w') : px P (bSem .append #[t, t'] ty #[v, x]) w k := by
  obtain ⟨v', w', hrun, h2, h3, h4⟩ := run_append_src (P := P) (w := w) ht ht' hi hz hsize hby hzs hsz HO HS h1 h63 hb hbase (ty := ty)
  rw [sblk_own] at h3 h4
  rw [sblk_own] at h4
  exact px_ok hrun (hk v' w' h2 (Fr.grown h3) h4)
/-- A row of the call's own, in whose stead other blocks were written. -/
theorem own_fr {O : Nat → Prop} {w' : World} {base size n : Nat} {e : TypeId} {v : Value} {xs : List Value} (h : w.ownsRow base e size v n xs) (hf : Fr O w w') (hn : ∀ b, sblk v = some b → ¬ O b) : w'.ownsRow base e size v n xs := by
  obtain ⟨h1, h2⟩ := h
  refine ⟨h1, ?_⟩
  rcases h2 with h2 | ⟨g, cap, cur, rfl, hg, hh, rest⟩
  · exact .inl h2
  · exact .inr ⟨g, cap, cur, rfl, hg, hf.get hh (hn g rfl), rest⟩
theorem own_lit (w : World) (base : Nat) (e : TypeId) (size : Nat) (cs : Array Value) (n : Nat) (hb : base ≤ w.heap.size) (hm : n ≤ maxLen) (hs : cs.size = n * size) :
    (w.alloc (.cells cs e)).ownsRow base e size (.slice (some ⟨w.heap.size, 0, none⟩) n n) n cs.toList := World.ownsRow_lit w cs n hb hm hs
theorem own_less {base base' size n : Nat} {e : TypeId} {v : Value} {xs : List Value} (h : w.ownsRow base e size v n xs) (hb : base' ≤ base) : w.ownsRow base' e size v n xs := by
  obtain ⟨h1, h2⟩ := h
  refine ⟨h1, ?_⟩
  rcases h2 with h2 | ⟨g, cap, cur, hv, hg, rest⟩
  · exact .inl h2
  · exact .inr ⟨g, cap, cur, hv, Nat.le_trans hb hg, rest⟩
theorem own_blk_lt {base size n : Nat} {e : TypeId} {v : Value} {xs : List Value} (h : w.ownsRow base e size v n xs) {b : Nat} (hb : sblk v = some b) : base ≤ b ∧ b < w.heap.size := h.lt b (by rw [sblk_own]; exact hb)
end
end Go.Proofs.XSlices
