import Derived.Test.YtcdcojpfealppaaXWhole
import Derived.Test.YtcdcojpfealppaaXHeld
import Derived.Test.YtcdcojpfealppaaDo
import Derived.Test.YtcdcojpfealppaaSafeW
/- DiskWhole's own functions: the rows that are counted by hand. -/
set_option linter.unusedVariables false
set_option linter.unusedSimpArgs false
set_option maxRecDepth 100000
namespace Go.Proofs.Ytcdcojpfealppaa
open Go Go.Proofs Go.RowKit Go.Proofs.XRed Go.Proofs.XHeap Go.Proofs.XMaps Go.Proofs.XSlices Go.Proofs.XDisk Go.Proofs.XCalls Go.Proofs.XRange Go.Proofs.XKeys Go.Proofs.XHeld
def heldCells (l : Helds) : List Value := l.flatMap fun p => [.string p.1, i64 p.2]
theorem held_len (l : Helds) : (heldCells l).length = l.length * 2 := by
  induction l with
  | nil => rfl
  | cons p r ih => unfold heldCells at *; rw [List.flatMap_cons, List.length_append, ih]; simp; omega
theorem held_at : ∀ {l : Helds} {i : Nat} {m : ByteArray × Nat}, l[i]? = some m → (heldCells l)[i * 2]? = some (.string m.1) ∧ (heldCells l)[i * 2 + 1]? = some (i64 m.2)
  | [], i, p, h => by simp at h
  | q :: r, 0, p, h => by simp only [List.getElem?_cons_zero, Option.some.injEq] at h; subst h; exact ⟨rfl, rfl⟩
  | q :: r, i + 1, p, h => by
    have h1 := held_at (l := r) (i := i) (m := p) (by simpa using h)
    have e : (i + 1) * 2 = i * 2 + 2 := by omega
    rw [e]
    unfold heldCells at *
    simpa [List.flatMap_cons] using h1
theorem held_set : ∀ (l : Helds) (i : Nat) (hi : i < l.length) (v : Nat), (heldCells l).set (i * 2 + 1) (i64 v) = heldCells (l.set i (l[i].1, v))
  | q :: r, 0, _, v => rfl
  | q :: r, i + 1, hi, v => by
    have h1 := held_set r i (by simpa using hi) v
    have e : (i + 1) * 2 + 1 = i * 2 + 1 + 1 + 1 := by omega
    rw [e]
    have hi' : i < r.length := by simpa using hi
    show (Value.string q.1 :: i64 q.2 :: heldCells r).set _ _ = Value.string q.1 :: i64 q.2 :: heldCells (r.set i (r[i].1, v))
    rw [List.set_cons_succ, List.set_cons_succ, h1]
theorem held_take (l : Helds) (i : Nat) : (heldCells l).take (i * 2) = heldCells (l.take i) := by
  induction l generalizing i with
  | nil => simp [heldCells]
  | cons q r ih =>
    cases i with
    | zero => rfl
    | succ i =>
      have e : (i + 1) * 2 = i * 2 + 1 + 1 := by omega
      rw [e]
      show (Value.string q.1 :: i64 q.2 :: heldCells r).take _ = Value.string q.1 :: i64 q.2 :: heldCells (r.take i)
      rw [List.take_succ_cons, List.take_succ_cons, ih]
theorem held_drop (l : Helds) (i : Nat) : (heldCells l).drop (i * 2) = heldCells (l.drop i) := by
  induction l generalizing i with
  | nil => simp [heldCells]
  | cons q r ih =>
    cases i with
    | zero => rfl
    | succ i =>
      have e : (i + 1) * 2 = i * 2 + 1 + 1 := by omega
      rw [e]
      show (Value.string q.1 :: i64 q.2 :: heldCells r).drop _ = heldCells (r.drop i)
      rw [List.drop_succ_cons, List.drop_succ_cons, ih]
theorem held_app (a b : Helds) : heldCells (a ++ b) = heldCells a ++ heldCells b := by unfold heldCells; rw [List.flatMap_append]
structure HRep (w : World) (B R : Nat) (lv : Value) (hl : Helds) (k : Nat) : Prop where
  blk : w.heap[R]? = some (.cells #[lv, i64 k] 73 (0, 0))
  row : row2 w B 75 2 lv hl.length (heldCells hl)
  low : B ≤ R
/-- The blocks that it owns. -/
def hown (R : Nat) (lv : Value) : Nat → Prop := fun b => b = R ∨ sblk lv = some b
section
variable {w w' w0 : World} {B R D : Nat} {lv : Value} {hl : Helds} {kt : Nat} {k : Value → World → Prop}
theorem HRep.fr {O : Nat → Prop} (h : HRep w B R lv hl kt) (hf : Fr O w w') (hn : ∀ b, hown R lv b → ¬ O b) : HRep w' B R lv hl kt :=
  ⟨hf.get h.blk (hn R (.inl rfl)), row2_fr h.row hf fun b hb => hn b (.inr hb), h.low⟩
theorem HRep.ne (h : HRep w B R lv hl kt) {b : Nat} (hb : sblk lv = some b) : b ≠ R := by
  rintro rfl
  obtain ⟨cur, h1⟩ := row2_obj h.row hb
  exact absurd (two_types h1 h.blk) (by decide)
theorem HRep.lt (h : HRep w B R lv hl kt) {b : Nat} (hb : hown R lv b) : B ≤ b ∧ b < w.heap.size := by
  rcases hb with rfl | hb
  · exact ⟨h.low, lt_of_get h.blk⟩
  · exact row2_lt h.row hb
/-- The row's head written. -/
theorem HRep.put (h : HRep w B R lv hl kt) {lv' : Value} {hl' : Helds} (hr : row2 w B 75 2 lv' hl'.length (heldCells hl')) : HRep (w.setCell ⟨R, 0, none⟩ lv') B R lv' hl' kt := by
  refine ⟨set_same h.blk 0 lv', row2_fr hr (Fr.setCell w ⟨R, 0, none⟩ lv') fun b hb e => ?_, h.low⟩
  have e' : b = R := e
  subst e'
  obtain ⟨cur, h1⟩ := row2_obj hr hb
  exact absurd (two_types h1 h.blk) (by decide)
theorem HRep.turn (h : HRep w B R lv hl kt) (kt' : Nat) : HRep (w.setCell ⟨R, 1, none⟩ (i64 kt')) B R lv hl kt' := by
  refine ⟨set_same h.blk 1 (i64 kt'), row2_fr h.row (Fr.setCell w ⟨R, 1, none⟩ (i64 kt')) fun b hb e => ?_, h.low⟩
  exact h.ne hb e
theorem HRep.units (h : HRep w B R lv hl kt) (hn : (alKeys hl).Nodup) {i : Nat} (hi : i < hl.length) (v : Nat) :
    ∃ g cap cur, lv = .slice (some ⟨g, 0, none⟩) hl.length cap ∧ w.heap[g]? = some (.cells cur 75 (0, 0)) ∧ i * 2 + 1 < cur.size ∧ w.cell? ⟨g, i * 2, none⟩ = some (.string hl[i].1) ∧ w.cell? ⟨g, i * 2 + 1, none⟩ = some (i64 hl[i].2) ∧
      HRep (w.setCell ⟨g, i * 2 + 1, none⟩ (i64 v)) B R lv (alSet hl hl[i].1 v) kt ∧ Fr (hown R lv) w (w.setCell ⟨g, i * 2 + 1, none⟩ (i64 v)) := by
  obtain ⟨g, cap, cur, e, hb, hg, hnc, hcm, hcs, ht⟩ : ∃ g cap cur, lv = .slice (some ⟨g, 0, none⟩) hl.length cap ∧ B ≤ g ∧ w.heap[g]? = some (.cells cur 75 (0, 0)) ∧ hl.length ≤ cap ∧ cap ≤ maxLen ∧ cap * 2 ≤ cur.size ∧ cur.toList.take (hl.length * 2) = heldCells hl := by
    rcases h.row.2 with ⟨_, h0⟩ | h2
    · omega
    · exact h2
  have hrow := h.row
  rw [e] at hrow
  obtain ⟨a1, a2⟩ := held_at (l := hl) (i := i) (m := hl[i]) (by simp [hi])
  have hfr : Fr (fun b => b = g) w (w.setCell ⟨g, i * 2 + 1, none⟩ (i64 v)) := Fr.setCell w ⟨g, i * 2 + 1, none⟩ (i64 v)
  refine ⟨g, cap, cur, e, hg, by omega, row2_cell hrow a1, row2_cell hrow a2, ?_, hfr.mono fun b hb => .inl (.inr (by rw [e, hb]; rfl))⟩
  have hs := row2_set hrow (i * 2 + 1) (i64 v)
  rw [held_set hl i hi v, set_at hn hi v] at hs
  have hll : (alSet hl hl[i].1 v).length = hl.length := by rw [← set_at hn hi v]; simp
  refine ⟨hfr.get h.blk fun hR => ?_, by rw [hll, e]; exact hs, h.low⟩
  have : R = g := hR
  exact h.ne (b := g) (by rw [e]; rfl) this.symm
theorem apH {base n m : Nat} {v x : Value} {xs cs : List Value} (HO : row2 w base 75 2 v n xs) (HS : XSlices.Src w x 2 m cs) (h1 : ∀ u ∈ cs, u.oneCell' = true) (hb : (n + m) * 24 ≤ 140737488355328) (hbase : base ≤ w.heap.size)
    (hk : ∀ v' w', row2 w' base 75 2 v' (n + m) (xs ++ cs) → Fr (fun b => some b = sblk v) w w' → (sblk v' = sblk v ∨ sblk v' = some w.heap.size) → k v' w') : px Try.prog (bSem .append #[71, 71] 71 #[v, x]) w k := by
  refine s_append2 (P := Try.prog) (t := 71) (e := 75) (i := Try.t75) (z := (Try.t75.zero).getD undef) (size := 2) (bytes := 24) (by kernel_rfl) rfl (by kernel_rfl) (by kernel_rfl) (by kernel_rfl) (by kernel_rfl) (by kernel_rfl) (by decide) HO HS h1 ?_ hb hbase hk
  unfold maxLen; omega
/-- at: the place of a name. -/
theorem c_at {n : ByteArray} (h : HRep w B R lv hl kt) (hl62 : hl.length ≤ 1099511627776) (h1 : ∀ i (hi : i < hl.length), hl[i].1 = n → k (i64 i) w) (h0 : (∀ p ∈ hl, p.1 ≠ n) → k (i64 (-1)) w) : pFn P 67 [ptr R, .string n] w k := by
  refine F67_in _ _ _ _ ?_
  unfold F67_0
  refine F67L1_inv (m := hl.length) k (fun m ρ w' => ∃ i : Nat, i + m = hl.length ∧ w' = w ∧ ρ 0 = ptr R ∧ ρ 1 = .string n ∧ ρ 5 = i64 i ∧ ∀ p ∈ hl.take i, p.1 ≠ n) ?_
    ⟨0, by omega, rfl, rfl, rfl, rfl, fun p hp => by simp at hp⟩
  rintro m ρ w' ⟨i, him, hw, e0, e1, e5, hall⟩
  subst hw
  rw [F67_1_eq]
  unfold F67_1
  rw [e0, e1, e5]
  have hS := of_row2 h.row
  refine s_nil (fa73_0 (s_ldb (v := lv) (Try.isAgg71 _) h.blk rfl (s_lenS usl71 hS ?_)))
  by_cases hi : i < hl.length
  · refine s_lt_t (by omega) (pC_true ?_)
    obtain ⟨b, o, c, ev, hc⟩ := hS.place hi (by omega)
    have a1 := hc 0 (.string hl[i].1) (by omega) (held_at (by simp [hi])).1
    refine s_nil (fa73_0 (s_ldb (v := lv) (Try.isAgg71 _) h.blk rfl ?_))
    rw [ev]
    refine s_ix (i := (i : Int)) usl71 (sze71 _) (by omega) (by omega) (fa75_0 (s_ld (v := .string hl[i].1) (Try.isAgg9 _) (by simpa using a1) ?_))
    refine s_eqs ?_
    by_cases he : hl[i].1 = n
    · rw [decide_eq_true he]
      exact pC_true (h1 i hi he)
    · rw [decide_eq_false he]
      refine pC_false (s_add_in (by omega) ?_)
      refine ⟨m - 1, by omega, i + 1, by omega, rfl, e0, e1, ?_, fun p hp => ?_⟩
      · show i64 _ = i64 _; simp
      · rw [List.take_succ_eq_append_getElem hi] at hp
        rcases List.mem_append.1 hp with hp | hp
        · exact hall p hp
        · rw [List.mem_singleton] at hp; subst hp; exact he
  · refine s_lt_f (by omega) (pC_false ?_)
    rw [F67_2_eq]
    refine h0 fun p hp => hall p ?_
    rw [List.take_of_length_le (by omega)]; exact hp
/-- gone: a name is none any more. -/
theorem c_gone {n : ByteArray} (h : HRep w B R lv hl kt) (hB : B ≤ w.heap.size) (hnd : (alKeys hl).Nodup) (hl62 : hl.length ≤ 1099511627776)
    (hk : ∀ w' lv', HRep w' B R lv' (alDel hl n) kt → Fr (hown R lv) w w' → (∀ b, sblk lv' = some b → sblk lv = some b ∨ w.heap.size ≤ b) → k (.tuple #[]) w') : pFn P 68 [ptr R, .string n] w k := by
  refine F68_in _ _ _ _ ?_
  unfold F68_0
  refine c_at h hl62 (fun i hi he => ?_) fun hno => ?_
  · refine s_ge_t (by omega) (pC_true ?_)
    have fd : Fr no w w.drew := Fr.drew _ _
    have hd := h.fr fd fun b _ => id
    obtain ⟨g, cap, cur, e, hg, hsz, _⟩ := hd.units hnd hi 0
    have hrow := hd.row
    rw [e] at hrow
    have hcap : hl.length ≤ cap := by
      rcases hrow.2 with ⟨h', _⟩ | ⟨g', cap', cur', h', _, _, hnc, _⟩
      · cases h'
      · simp only [Value.slice.injEq] at h'; omega
    refine ⟨fun w_ => w_.heap[R]? = some (.cells #[lv, i64 kt] 73 (0, 0)), hd.blk, ?_⟩
    refine q_of _ (fun w_ hS => s_nil ⟨rfl, rfl⟩) ?_
    refine q_of _ (fun w_ hS => fa73_0 ⟨rfl, rfl⟩) ?_
    refine q_of lv (fun w_ hS => s_ldb (v := lv) (Try.isAgg71 _) hS rfl ⟨rfl, rfl⟩) ?_
    rw [e]
    refine q_of (.slice (some ⟨g, 0, none⟩) i i) (fun w_ hS => s_sl_hm usl71 (sze71 _) (by omega) (by omega) (by omega) ⟨by simp, rfl⟩) ?_
    refine q_of _ (fun w_ hS => s_nil ⟨rfl, rfl⟩) ?_
    refine q_of _ (fun w_ hS => fa73_0 ⟨rfl, rfl⟩) ?_
    refine q_of (.slice (some ⟨g, 0, none⟩) hl.length cap) (fun w_ hS => s_ldb (v := .slice (some ⟨g, 0, none⟩) hl.length cap) (Try.isAgg71 _) hS (by rw [← e]; rfl) ⟨rfl, rfl⟩) ?_
    refine q_of (i64 ((i : Int) + 1)) (fun w_ hS => s_add_in (by omega) ⟨rfl, rfl⟩) ?_
    refine q_of (sliced (some ⟨g, 0, none⟩) (i + 1) hl.length cap 2) (fun w_ hS => s_sl_l usl71 (sze71 _) (by omega) (by omega) ⟨by
      have : ((i : Int) + 1).toNat = i + 1 := by omega
      rw [this], rfl⟩) ?_
    have hcut := row2_cut hrow (m := i) (by omega)
    rw [held_take] at hcut
    have hsrc := Src.cut (of_row2 hrow) (l := i + 1) (h' := hl.length) (by omega) (Nat.le_refl _)
    have e1 : ((heldCells hl).drop ((i + 1) * 2)).take ((hl.length - (i + 1)) * 2) = heldCells (hl.drop (i + 1)) := by
      rw [held_drop]
      exact List.take_of_length_le (by rw [held_len]; simp)
    rw [e1] at hsrc
    refine apH hcut hsrc (by
      intro u hu
      unfold heldCells at hu
      obtain ⟨p, _, hp⟩ := List.mem_flatMap.1 hu
      simp at hp
      rcases hp with rfl | rfl <;> rfl) (by omega) hB fun lv' w2 hrow2 f2 hb2 => ?_
    have hR2 : w2.heap[R]? = some (.cells #[lv, i64 kt] 73 (0, 0)) := f2.get hd.blk fun hb => by
      injection hb with hb
      exact hd.ne (b := g) (by rw [e]; rfl) hb.symm
    have hR2' := hR2
    rw [e] at hR2'
    refine ⟨hR2', ?_⟩
    have ed : heldCells (hl.take i) ++ heldCells (hl.drop (i + 1)) = heldCells (alDel hl n) := by
      rw [← held_app, del_at hnd hi, he]
    have el : i + (hl.length - (i + 1)) = (alDel hl n).length := by
      rw [← he, ← del_at hnd hi]; simp; omega
    rw [ed, el] at hrow2
    refine q_of _ (fun w_ hS => s_nil ⟨rfl, rfl⟩) ?_
    refine q_of _ (fun w_ hS => fa73_0 ⟨rfl, rfl⟩) ?_
    refine s_st (Try.sizeOf71 _) (row2_one hrow2).1 (row2_one hrow2).2 hR2 (by show 0 < 2; decide) ?_
    have hrep : HRep w2 B R lv (alDel hl n) kt → True := fun _ => trivial
    refine hk _ lv' ?_ ?_ ?_
    · refine ⟨set_same hR2 0 lv', row2_fr hrow2 (Fr.setCell w2 ⟨R, 0, none⟩ lv') fun b hb eb => ?_, h.low⟩
      have eb' : b = R := eb
      subst eb'
      obtain ⟨cur', h1⟩ := row2_obj hrow2 hb
      exact absurd (two_types h1 hR2) (by decide)
    · refine ((fd.or f2).or (Fr.setCell w2 ⟨R, 0, none⟩ lv')).mono ?_
      rintro b ((hb | hb) | hb)
      · exact hb.elim
      · injection hb with hb
        exact .inl (.inr (by rw [e, hb]; rfl))
      · exact .inl (.inl hb)
    · intro b hb
      rcases hb2 with e2 | e2
      · left; rw [e, ← hb, e2]; rfl
      · right
        rw [e2] at hb
        injection hb with hb
        have : w.drew.heap.size = w.heap.size := rfl
        omega
  · refine s_ge_f (by omega) (pC_false (hk w lv ?_ (Fr.refl _ _) fun b hb => .inl hb))
    rw [alDel_none hno]
    exact h
end
end Go.Proofs.Ytcdcojpfealppaa
/- DiskWhole's own functions: made, all. -/
set_option linter.unusedVariables false
set_option linter.unusedSimpArgs false
set_option maxRecDepth 100000
namespace Go.Proofs.Ytcdcojpfealppaa
open Go Go.Proofs Go.RowKit Go.Proofs.XRed Go.Proofs.XHeap Go.Proofs.XMaps Go.Proofs.XSlices Go.Proofs.XDisk Go.Proofs.XCalls Go.Proofs.XRange Go.Proofs.XKeys Go.Proofs.XHeld
section
variable {w w' w0 : World} {B R D : Nat} {lv : Value} {hl : Helds} {kt : Nat} {k : Value → World → Prop}
/-- What at says. -/
def AtH (hl : Helds) (n : ByteArray) (iv : Int) : Prop := (∃ i, ∃ hi : i < hl.length, iv = i ∧ hl[i].1 = n) ∨ (iv = -1 ∧ ∀ p ∈ hl, p.1 ≠ n)
theorem c_at' {n : ByteArray} (h : HRep w B R lv hl kt) (hl62 : hl.length ≤ 1099511627776) (hk : ∀ iv, AtH hl n iv → k (i64 iv) w) : pFn P 67 [ptr R, .string n] w k :=
  c_at h hl62 (fun i hi he => hk i (.inl ⟨i, hi, rfl, he⟩)) fun h0 => hk (-1) (.inr ⟨rfl, h0⟩)
/-- One more name, written into the head. -/
theorem push (h : HRep w B R lv hl kt) (hB : B ≤ w.heap.size) (hl62 : hl.length ≤ 1099511627776) (p : ByteArray × Nat) {kk : Value → World → Prop}
    (hk : ∀ lv' w2, Fr (hown R lv) w w2 → w2.heap[R]? = some (.cells #[lv, i64 kt] 73 (0, 0)) → row2 w2 B 75 2 lv' (hl ++ [p]).length (heldCells (hl ++ [p])) → HRep (w2.setCell ⟨R, 0, none⟩ lv') B R lv' (hl ++ [p]) kt → (∀ b, sblk lv' = some b → sblk lv = some b ∨ w.heap.size ≤ b) → kk lv' w2) :
    px P (bSem .append #[71, 71] 71 #[lv, .slice (some ⟨w.heap.size, 0, none⟩) 1 1]) (w.alloc (.cells #[.string p.1, i64 p.2] 75)) kk := by
  have f5 := Fr.alloc no w (.cells #[.string p.1, i64 p.2] 75)
  have hlit := own_lit w 0 75 2 #[.string p.1, i64 p.2] 1 (Nat.zero_le _) (by unfold maxLen; omega) rfl
  have z5 : (w.alloc (.cells #[.string p.1, i64 p.2] 75)).heap.size = w.heap.size + 1 := by simp
  generalize w.alloc (.cells #[.string p.1, i64 p.2] 75) = w5 at *
  have h5 := h.fr f5 fun b _ => id
  refine apH h5.row (Src.of_own hlit) (by intro u hu; simp at hu; rcases hu with rfl | rfl <;> rfl) (by omega) (by omega) fun lv' w2 hrow2 f2 hb2 => ?_
  have e1 : heldCells hl ++ [.string p.1, i64 p.2] = heldCells (hl ++ [p]) := by rw [held_app]; rfl
  have e2 : hl.length + 1 = (hl ++ [p]).length := by simp
  have hrow3 : row2 w2 B 75 2 lv' (hl ++ [p]).length (heldCells (hl ++ [p])) := by rw [← e1, ← e2]; exact hrow2
  have hR2 : w2.heap[R]? = some (.cells #[lv, i64 kt] 73 (0, 0)) := f2.get h5.blk fun hb => h.ne hb.symm rfl
  refine hk lv' w2 ?_ hR2 hrow3 ?_ ?_
  · refine (f5.or f2).mono ?_
    rintro b (hb | hb)
    · exact hb.elim
    · exact .inl (.inr hb.symm)
  · refine ⟨set_same hR2 0 lv', row2_fr hrow3 (Fr.setCell w2 ⟨R, 0, none⟩ lv') fun b hb eb => ?_, h.low⟩
    have eb' : b = R := eb
    subst eb'
    obtain ⟨cur', h1⟩ := row2_obj hrow3 hb
    exact absurd (two_types h1 hR2) (by decide)
  · intro b hb
    rcases hb2 with e | e
    · left; rw [← e]; exact hb
    · right; rw [e] at hb; injection hb with hb; omega
/-- turns = turns + 1 (behind other work). -/
theorem s_turn (h : HRep w B R lv hl kt) (hkt : kt ≤ 1099511627776) {kk : Value → Value → Value → Value → Value → Value → World → Prop} {x1 x2 : Operand}
    (hk : ∀ v1 v2 v3 v4 v5 v6 w2, w2 = w.setCell ⟨R, 1, none⟩ (i64 (kt + 1 : Nat)) → kk v1 v2 v3 v4 v5 v6 w2) :
    px P (nilSem (ptr R)) w fun v28 w => px P (Instr.fieldAt 73 v28 1) w fun v29 w => px P (Instr.loadAt 3 v29) w fun v30 w => px P (binSem .add 3 x1 x2 v30 (i64 1)) w fun v31 w => px P (nilSem (ptr R)) w fun v32 w => px P (Instr.fieldAt 73 v32 1) w fun v33 w => pu P (Instr.storeAt 3 v33 v31) w (kk v28 v29 v30 v31 v32 v33) := by
  refine s_nil (fa73_1 (s_ldb (v := i64 kt) (Try.isAgg3 _) h.blk rfl (s_add_in (by omega) (s_nil (fa73_1 ?_)))))
  refine s_st (Try.sizeOf3 _) rfl rfl h.blk (by show 1 < 2; decide) ?_
  refine hk _ _ _ _ _ _ _ ?_
  congr 1
theorem run_ldHeld {g o : Nat} {n : ByteArray} {u : Int} (h0 : w.cell? ⟨g, o, none⟩ = some (.string n)) (h1 : w.cell? ⟨g, o + 1, none⟩ = some (i64 u)) : (Instr.loadAt 75 (.pointer (some ⟨g, o, none⟩))).run P w = .ok (.agg #[.string n, i64 u]) w := by
  have := run_loadCells_list (P := P) w ⟨g, o, none⟩ [.string n, i64 u] (fun j v hj => by
    rw [add_at]
    match j, hj with
    | 0, hj => injection hj with hj; rw [← hj]; exact h0
    | 1, hj => injection hj with hj; rw [← hj]; exact h1)
  have e : ([.string n, i64 u] : List Value).length = 2 := rfl
  rw [e] at this
  have hr : (Instr.loadAt 75 (.pointer (some ⟨g, o, none⟩))).run P w = .ok (.agg ([.string n, i64 u] : List Value).toArray) w := by
    simp [Instr.loadAt, Instr.sureAddr, loadVar, Try.isAgg75, Try.sizeOf75, this, Result.andThen]
  exact hr
set_option maxHeartbeats 1000000 in
/-- made: a call that has done what it does. -/
theorem c_rmade {x : StepA} {dv pv : Value} (h : HRep w B R lv hl kt) (hB : B ≤ w.heap.size) (hnd : (alKeys hl).Nodup) (hl62 : hl.length ≤ 1099511627776) (hkt : kt ≤ 1099511627776) (hun : ∀ p ∈ hl, p.2 ≤ 1099511627776) (hdv : SBytes w dv x.data) (hdl : x.data.length ≤ 100000)
    (hk : ∀ w' lv', HRep w' B R lv' (madeH hl kt x).1 (madeH hl kt x).2 → Fr (hown R lv) w w' → (∀ b, sblk lv' = some b → sblk lv = some b ∨ w.heap.size ≤ b) → k (.tuple #[]) w') : pFn P 36 [ptr R, stepVal x dv pv] w k := by
  refine F36_in _ _ _ _ ?_
  unfold F36_0 stepVal
  refine s_box ?_
  have f1 := Fr.alloc no w (.cells #[i64 x.kind, .string x.name, .string x.to_, i64 x.at_, i64 x.n, dv, i64 x.plan.off, i64 x.plan.from_, i64 x.plan.to_, pv] 59)
  have b1 := alloc_new w (.cells #[i64 x.kind, .string x.name, .string x.to_, i64 x.at_, i64 x.n, dv, i64 x.plan.off, i64 x.plan.from_, i64 x.plan.to_, pv] 59)
  have z1 : (w.alloc (.cells #[i64 x.kind, .string x.name, .string x.to_, i64 x.at_, i64 x.n, dv, i64 x.plan.off, i64 x.plan.from_, i64 x.plan.to_, pv] 59)).heap.size = w.heap.size + 1 := by simp
  show px P _ (w.alloc (.cells #[i64 x.kind, .string x.name, .string x.to_, i64 x.at_, i64 x.n, dv, i64 x.plan.off, i64 x.plan.from_, i64 x.plan.to_, pv] 59)) _
  generalize w.alloc (.cells #[i64 x.kind, .string x.name, .string x.to_, i64 x.at_, i64 x.n, dv, i64 x.plan.off, i64 x.plan.from_, i64 x.plan.to_, pv] 59) = w1 at *
  have h1 := h.fr f1 fun b _ => id
  have hB1 : B ≤ w1.heap.size := by omega
  have hxb : ∀ b, hown R lv b → b ≠ w.heap.size := fun b hb => by have := h.lt hb; omega
  obtain ⟨Ad, cd, ed, hcd⟩ := hdv.form
  -- the end
  have out : ∀ {w' : World} {lv' : Value} {hl' : Helds} {k' : Nat}, madeH hl kt x = (hl', k') → HRep w' B R lv' hl' k' → Fr (hown R lv) w1 w' → (∀ b, sblk lv' = some b → sblk lv = some b ∨ w1.heap.size ≤ b) → k (.tuple #[]) w' := by
    intro w' lv' hl' k' e hr hf hb
    refine hk w' lv' (by rw [e]; exact hr) ((f1.or hf).mono ?_) fun b hb' => (hb b hb').imp id fun h => by omega
    rintro b (hb | hb)
    · exact hb.elim
    · exact .inl hb
  refine fa59_1 (s_ldb (v := .string x.name) (Try.isAgg9 _) b1 rfl ?_)
  refine c_at' h1 hl62 fun iv hiv => ?_
  refine fa59_0 (s_ldb (v := i64 x.kind) (Try.isAgg3 _) b1 rfl ?_)
  have fd : Fr no w1 w1.drew := Fr.drew _ _
  have hd := h1.fr fd fun b _ => id
  have bd := fd.get b1 id
  have up : ∀ {w2 : World}, Fr (hown R lv) w1.drew w2 → Fr (hown R lv) w1 w2 := fun f => (fd.or f).mono (by
    rintro b (hb | hb)
    · exact hb.elim
    · exact .inl hb)
  by_cases k1 : x.kind = 1
  · have em : madeH hl kt x = (hl ++ [(x.name, 0)], kt + 1) := by unfold madeH; rw [if_pos k1]
    refine s_eqi_t k1 (pC_true ?_)
    refine ⟨fun w_ => w_.heap[R]? = some (.cells #[lv, i64 kt] 73 (0, 0)) ∧ w_.heap[w.heap.size]? = some (.cells #[i64 x.kind, .string x.name, .string x.to_, i64 x.at_, i64 x.n, dv, i64 x.plan.off, i64 x.plan.from_, i64 x.plan.to_, pv] 59 (0, 0)), ⟨hd.blk, bd⟩, ?_⟩
    refine q_of _ (fun w_ hS => s_nil ⟨rfl, rfl⟩) ?_
    refine q_of _ (fun w_ hS => fa73_0 ⟨rfl, rfl⟩) ?_
    refine q_of lv (fun w_ hS => s_ldb (v := lv) (Try.isAgg71 _) hS.1 rfl ⟨rfl, rfl⟩) ?_
    refine q_of _ (fun w_ hS => fa59_1 ⟨rfl, rfl⟩) ?_
    refine q_of (.string x.name) (fun w_ hS => s_ldb (v := .string x.name) (Try.isAgg9 _) hS.2 rfl ⟨rfl, rfl⟩) ?_
    refine q_of (.agg #[.string x.name, i64 0]) (fun w_ hS => px_ok (w' := w_) (v := .agg #[.string x.name, i64 0]) (by kernel_rfl) ⟨rfl, rfl⟩) ?_
    refine px_ok (w' := w1.drew.alloc (.cells #[.string x.name, i64 0] 75)) (v := .slice (some ⟨w1.drew.heap.size, 0, none⟩) 1 1) (by kernel_rfl) ⟨⟨(Fr.alloc no _ _).get hd.blk id, (Fr.alloc no _ _).get bd id⟩, ?_⟩
    refine push hd hB1 hl62 (x.name, 0) fun lv' w2 f2 hR2 hr2 hp2 hnb => ⟨⟨hR2, f2.get bd fun hb => hxb _ hb rfl⟩, ?_⟩
    refine q_of _ (fun w_ hS => s_nil ⟨rfl, rfl⟩) ?_
    refine q_of _ (fun w_ hS => fa73_0 ⟨rfl, rfl⟩) ?_
    refine s_st (Try.sizeOf71 _) (row2_one hr2).1 (row2_one hr2).2 hR2 (by show 0 < 2; decide) ?_
    have f3 : Fr (fun b => b = R) w2 (w2.setCell ⟨R, 0, none⟩ lv') := Fr.setCell w2 ⟨R, 0, none⟩ lv'
    show px P _ (w2.setCell ⟨R, 0, none⟩ lv') _
    generalize w2.setCell ⟨R, 0, none⟩ lv' = w3 at *
    refine s_turn hp2 hkt fun v1 v2 v3 v4 v5 v6 w4 e4 => ?_
    subst e4
    refine out em (hp2.turn (kt + 1)) ?_ hnb
    refine up (((f2.or f3).or (Fr.setCell w3 ⟨R, 1, none⟩ (i64 (kt + 1 : Nat)))).mono ?_)
    rintro b ((hb | hb) | hb)
    · exact .inl hb
    · exact .inl (.inl hb)
    · exact .inl (.inl hb)
  -- the others
  have part1 : ∀ (ρ' : Env) (b : Bool), ρ' 0 = ptr R → ρ' 3 = ptr w.heap.size → ρ' 4 = i64 iv → ρ' 11 = i64 x.kind → ρ' 34 = .bool b → (b = true ↔ x.kind = 2 ∨ x.kind = 3) → F36A k [1, 1, 1, 0, 1, 1, 1] ρ' w1 := by
    intro ρ' b e0 e3 e4 e11 e34 hb
    rw [F36_1_eq]
    unfold F36_1
    rw [e0, e3, e4, e11, e34]
    by_cases k23 : x.kind = 2 ∨ x.kind = 3
    · rw [hb.2 k23]
      refine pC_true ?_
      rcases hiv with ⟨i, hi, rfl, he⟩ | ⟨rfl, hno⟩
      · have hg : alGet hl x.name = some hl[i].2 := by rw [← he]; exact alGet_at' hnd hi
        have em : madeH hl kt x = (alSet hl hl[i].1 (hl[i].2 + x.data.length), kt) := by unfold madeH; rw [if_neg k1, if_pos k23, hg, he]
        have hub := hun _ (List.getElem_mem hi)
        refine s_ge_t (by omega) (pC_true ?_)
        obtain ⟨g, cap, cur, ev, hg', hsz, c0, c1, hrep, hfr⟩ := hd.units hnd hi (hl[i].2 + x.data.length)
        refine ⟨fun w_ => w_.heap[R]? = some (.cells #[lv, i64 kt] 73 (0, 0)) ∧ w_.heap[w.heap.size]? = some (.cells #[i64 x.kind, .string x.name, .string x.to_, i64 x.at_, i64 x.n, dv, i64 x.plan.off, i64 x.plan.from_, i64 x.plan.to_, pv] 59 (0, 0)) ∧ w_.cell? ⟨g, i * 2 + 1, none⟩ = some (i64 hl[i].2), ⟨hd.blk, bd, c1⟩, ?_⟩
        refine q_of _ (fun w_ hS => s_nil ⟨rfl, rfl⟩) ?_
        refine q_of _ (fun w_ hS => fa73_0 ⟨rfl, rfl⟩) ?_
        refine q_of lv (fun w_ hS => s_ldb (v := lv) (Try.isAgg71 _) hS.1 rfl ⟨rfl, rfl⟩) ?_
        refine q_of _ (fun w_ hS => s_nil ⟨rfl, rfl⟩) ?_
        refine q_of _ (fun w_ hS => fa73_0 ⟨rfl, rfl⟩) ?_
        refine q_of lv (fun w_ hS => s_ldb (v := lv) (Try.isAgg71 _) hS.1 rfl ⟨rfl, rfl⟩) ?_
        rw [ev]
        refine q_of (.pointer (some ⟨g, i * 2, none⟩)) (fun w_ hS => s_ix (i := (i : Int)) usl71 (sze71 _) (by omega) (by omega) ⟨by simp, rfl⟩) ?_
        refine q_of _ (fun w_ hS => fa75_1 ⟨rfl, rfl⟩) ?_
        refine q_of (i64 hl[i].2) (fun w_ hS => s_ld (v := i64 hl[i].2) (Try.isAgg3 _) hS.2.2 ⟨rfl, rfl⟩) ?_
        refine q_of _ (fun w_ hS => fa59_5 ⟨rfl, rfl⟩) ?_
        refine q_of dv (fun w_ hS => s_ldb (v := dv) (Try.isAgg30 _) hS.2.1 rfl ⟨rfl, rfl⟩) ?_
        rw [ed]
        refine q_of _ (fun w_ hS => s_len usl30 ⟨rfl, rfl⟩) ?_
        refine q_of (i64 (hl[i].2 + x.data.length : Nat)) (fun w_ hS => s_add_in (by omega) ⟨by congr 1, rfl⟩) ?_
        refine q_of (.pointer (some ⟨g, i * 2, none⟩)) (fun w_ hS => s_ix (i := (i : Int)) usl71 (sze71 _) (by omega) (by omega) ⟨by simp, rfl⟩) ?_
        refine q_of _ (fun w_ hS => fa75_1 ⟨rfl, rfl⟩) ?_
        refine s_st (Try.sizeOf3 _) rfl rfl hg' hsz ?_
        exact out em hrep (up hfr) fun b hb => .inl hb
      · have hg : alGet hl x.name = none := alGet_none_iff.2 hno
        have em : madeH hl kt x = (hl, kt) := by unfold madeH; rw [if_neg k1, if_pos k23, hg]
        exact s_ge_f (by omega) (pC_false (out em h1 (Fr.refl _ _) fun b hb => .inl hb))
    · have eb : b = false := by
        cases b with
        | false => rfl
        | true => exact absurd (hb.1 rfl) k23
      rw [eb]
      refine pC_false ?_
      by_cases k4 : x.kind = 4
      · refine s_eqi_t k4 (pC_true ?_)
        rcases hiv with ⟨i, hi, rfl, he⟩ | ⟨rfl, hno⟩
        · have hg : alGet hl x.name = some hl[i].2 := by rw [← he]; exact alGet_at' hnd hi
          have em : madeH hl kt x = (alSet hl hl[i].1 (hl[i].2 + 1), kt) := by unfold madeH; rw [if_neg k1, if_neg k23, if_pos k4, hg, he]
          have hub := hun _ (List.getElem_mem hi)
          refine s_ge_t (by omega) (pC_true ?_)
          obtain ⟨g, cap, cur, ev, hg', hsz, c0, c1, hrep, hfr⟩ := hd.units hnd hi (hl[i].2 + 1)
          refine ⟨fun w_ => w_.heap[R]? = some (.cells #[lv, i64 kt] 73 (0, 0)) ∧ w_.cell? ⟨g, i * 2 + 1, none⟩ = some (i64 hl[i].2), ⟨hd.blk, c1⟩, ?_⟩
          refine q_of _ (fun w_ hS => s_nil ⟨rfl, rfl⟩) ?_
          refine q_of _ (fun w_ hS => fa73_0 ⟨rfl, rfl⟩) ?_
          refine q_of lv (fun w_ hS => s_ldb (v := lv) (Try.isAgg71 _) hS.1 rfl ⟨rfl, rfl⟩) ?_
          refine q_of _ (fun w_ hS => s_nil ⟨rfl, rfl⟩) ?_
          refine q_of _ (fun w_ hS => fa73_0 ⟨rfl, rfl⟩) ?_
          refine q_of lv (fun w_ hS => s_ldb (v := lv) (Try.isAgg71 _) hS.1 rfl ⟨rfl, rfl⟩) ?_
          rw [ev]
          refine q_of (.pointer (some ⟨g, i * 2, none⟩)) (fun w_ hS => s_ix (i := (i : Int)) usl71 (sze71 _) (by omega) (by omega) ⟨by simp, rfl⟩) ?_
          refine q_of _ (fun w_ hS => fa75_1 ⟨rfl, rfl⟩) ?_
          refine q_of (i64 hl[i].2) (fun w_ hS => s_ld (v := i64 hl[i].2) (Try.isAgg3 _) hS.2 ⟨rfl, rfl⟩) ?_
          refine q_of (i64 (hl[i].2 + 1 : Nat)) (fun w_ hS => s_add_in (by omega) ⟨by congr 1, rfl⟩) ?_
          refine q_of (.pointer (some ⟨g, i * 2, none⟩)) (fun w_ hS => s_ix (i := (i : Int)) usl71 (sze71 _) (by omega) (by omega) ⟨by simp, rfl⟩) ?_
          refine q_of _ (fun w_ hS => fa75_1 ⟨rfl, rfl⟩) ?_
          refine s_st (Try.sizeOf3 _) rfl rfl hg' hsz ?_
          exact out em hrep (up hfr) fun b hb => .inl hb
        · have hg : alGet hl x.name = none := alGet_none_iff.2 hno
          have em : madeH hl kt x = (hl, kt) := by unfold madeH; rw [if_neg k1, if_neg k23, if_pos k4, hg]
          exact s_ge_f (by omega) (pC_false (out em h1 (Fr.refl _ _) fun b hb => .inl hb))
      refine s_eqi_f k4 (pC_false ?_)
      by_cases k5 : x.kind = 5
      · refine s_eqi_t k5 (pC_true ?_)
        refine fa59_1 (s_ldb (v := .string x.name) (Try.isAgg9 _) b1 rfl ?_)
        refine fa59_2 (s_ldb (v := .string x.to_) (Try.isAgg9 _) b1 rfl ?_)
        refine s_nes ?_
        by_cases hab : x.name = x.to_
        · have em : madeH hl kt x = (hl, kt) := by unfold madeH; rw [if_neg k1, if_neg k23, if_neg k4, if_pos k5, if_pos hab]
          rw [decide_eq_true hab]
          repeat (first | refine pG_sk ?_ | refine pG_skf ?_ | refine pG_un ?_ | refine pG_yes rfl ?_)
          exact s_pick_f (pC_false (out em h1 (Fr.refl _ _) fun b hb => .inl hb))
        rw [decide_eq_false hab]
        refine pG_yes rfl (pG_yes rfl ?_)
        rcases hiv with ⟨i, hi, rfl, he⟩ | ⟨rfl, hno⟩
        · have hg : alGet hl x.name = some hl[i].2 := by rw [← he]; exact alGet_at' hnd hi
          have em : madeH hl kt x = (alDel (alDel hl x.name) x.to_ ++ [(x.to_, hl[i].2)], kt + 1) := by unfold madeH; rw [if_neg k1, if_neg k23, if_neg k4, if_pos k5, if_neg hab, hg]
          have hub := hun _ (List.getElem_mem hi)
          refine s_ge_t (by omega) (s_pick_t (pC_true ?_))
          obtain ⟨g, cap, cur, ev, hg', hsz, c0, c1, -, -⟩ := h1.units hnd hi 0
          refine s_nil (fa73_0 (s_ldb (v := lv) (Try.isAgg71 _) h1.blk rfl ?_))
          rw [ev]
          refine s_ix (i := (i : Int)) usl71 (sze71 _) (by omega) (by omega) ?_
          have ei : 0 + (i : Int).toNat * 2 = i * 2 := by simp
          rw [ei]
          refine px_ok (run_ldHeld c0 c1) ?_
          refine s_alloc (Try.zeroValue75 _) ?_
          generalize hz : (Value.cells _ : Array Value) = zs
          have hzs : zs.size = 2 := by rw [← hz]; rfl
          have f2 : Fr no w1 (w1.alloc (.cells zs 75)) := Fr.alloc ..
          have b2 := alloc_new w1 (.cells zs 75)
          have z2 : (w1.alloc (.cells zs 75)).heap.size = w1.heap.size + 1 := by simp
          refine s_stN (vs := [.string hl[i].1, i64 hl[i].2]) (Try.sizeOf75 _) rfl (by intro u hu; simp at hu; rcases hu with rfl | rfl <;> rfl) b2 (by omega) fun w3 hb3 f3 z3 => ?_
          have b3 : w3.heap[w1.heap.size]? = some (.cells #[.string hl[i].1, i64 hl[i].2] 75 (0, 0)) := by
            rw [hb3]
            have e : zs.toList.drop (0 + 2) = [] := List.drop_eq_nil_of_le (by simp; omega)
            simp at e
            simp [e]
            try omega
          have f13 : Fr no w1 w3 := (f2.or f3).mono (by
            rintro b (hb | hb)
            · exact hb.elim
            · right; omega)
          have h3 := h1.fr f13 fun b _ => id
          have bx3 := f13.get b1 id
          refine fa59_1 (s_ldb (v := .string x.name) (Try.isAgg9 _) bx3 rfl ?_)
          refine c_gone h3 (by omega) hnd hl62 fun w4 lv4 h4 f4 hb4 => ?_
          have nd4 := alDel_keys_nodup hnd x.name
          have ll4 : (alDel hl x.name).length ≤ hl.length := List.length_filter_le _ _
          have bx4 := f4.get bx3 fun hb => hxb _ hb rfl
          have hh4 : w4.heap[w1.heap.size]? = some (.cells #[.string hl[i].1, i64 hl[i].2] 75 (0, 0)) := f4.get b3 fun hb => by have := h1.lt hb; omega
          refine fa59_2 (s_ldb (v := .string x.to_) (Try.isAgg9 _) bx4 rfl ?_)
          have own4 : ∀ b, hown R lv4 b → hown R lv b ∨ w3.heap.size ≤ b := by
            rintro b (hb | hb)
            · exact .inl (.inl hb)
            · exact (hb4 b hb).imp .inr id
          have zz3 : w3.heap.size = w1.heap.size + 1 := by omega
          refine c_gone h4 (by have := f4.size; omega) nd4 (by omega) fun w5 lv5 h5 f5 hb5 => ?_
          have ll5 : (alDel (alDel hl x.name) x.to_).length ≤ (alDel hl x.name).length := List.length_filter_le _ _
          have bx5 := f5.get bx4 fun hb => by
            rcases own4 _ hb with h' | h'
            · exact hxb _ h' rfl
            · omega
          have hh5 : w5.heap[w1.heap.size]? = some (.cells #[.string hl[i].1, i64 hl[i].2] 75 (0, 0)) := f5.get hh4 fun hb => by
            rcases own4 _ hb with h' | h'
            · have := h1.lt h'; omega
            · omega
          have f35 : Fr (hown R lv) w3 w5 := f4.trans f5 own4
          have own5 : ∀ b, hown R lv5 b → hown R lv b ∨ w3.heap.size ≤ b := by
            rintro b (hb | hb)
            · exact .inl (.inl hb)
            · rcases hb5 b hb with h' | h'
              · exact own4 b (.inr h')
              · right; have := f4.size; omega
          have fd5 : Fr no w5 w5.drew := Fr.drew _ _
          have hd5 := h5.fr fd5 fun b _ => id
          have bxd := fd5.get bx5 id
          have hhd := fd5.get hh5 id
          have hz5 : w3.heap.size ≤ w5.heap.size := f35.size
          refine ⟨fun w_ => w_.heap[R]? = some (.cells #[lv5, i64 kt] 73 (0, 0)) ∧ w_.heap[w.heap.size]? = some (.cells #[i64 x.kind, .string x.name, .string x.to_, i64 x.at_, i64 x.n, dv, i64 x.plan.off, i64 x.plan.from_, i64 x.plan.to_, pv] 59 (0, 0)) ∧ w_.heap[w1.heap.size]? = some (.cells #[.string hl[i].1, i64 hl[i].2] 75 (0, 0)), ⟨hd5.blk, bxd, hhd⟩, ?_⟩
          refine q_of _ (fun w_ hS => s_nil ⟨rfl, rfl⟩) ?_
          refine q_of _ (fun w_ hS => fa73_0 ⟨rfl, rfl⟩) ?_
          refine q_of lv5 (fun w_ hS => s_ldb (v := lv5) (Try.isAgg71 _) hS.1 rfl ⟨rfl, rfl⟩) ?_
          refine q_of _ (fun w_ hS => fa59_2 ⟨rfl, rfl⟩) ?_
          refine q_of (.string x.to_) (fun w_ hS => s_ldb (v := .string x.to_) (Try.isAgg9 _) hS.2.1 rfl ⟨rfl, rfl⟩) ?_
          refine q_of _ (fun w_ hS => fa75_1 ⟨rfl, rfl⟩) ?_
          refine q_of (i64 hl[i].2) (fun w_ hS => s_ldb (v := i64 hl[i].2) (Try.isAgg3 _) hS.2.2 rfl ⟨rfl, rfl⟩) ?_
          refine q_of (.agg #[.string x.to_, i64 hl[i].2]) (fun w_ hS => px_ok (w' := w_) (v := .agg #[.string x.to_, i64 hl[i].2]) (by kernel_rfl) ⟨rfl, rfl⟩) ?_
          refine px_ok (w' := w5.drew.alloc (.cells #[.string x.to_, i64 hl[i].2] 75)) (v := .slice (some ⟨w5.drew.heap.size, 0, none⟩) 1 1) (by kernel_rfl) ⟨⟨(Fr.alloc no _ _).get hd5.blk id, (Fr.alloc no _ _).get bxd id, (Fr.alloc no _ _).get hhd id⟩, ?_⟩
          have hwd : w5.drew.heap.size = w5.heap.size := rfl
          refine push hd5 (by omega) (by omega) (x.to_, hl[i].2) fun lv' w6 f6 hR6 hr6 hp6 hnb => ⟨⟨hR6, f6.get bxd fun hb => ?_, f6.get hhd fun hb => ?_⟩, ?_⟩
          · rcases own5 _ hb with h' | h'
            · exact hxb _ h' rfl
            · omega
          · rcases own5 _ hb with h' | h'
            · have := h1.lt h'; omega
            · omega
          refine q_of _ (fun w_ hS => s_nil ⟨rfl, rfl⟩) ?_
          refine q_of _ (fun w_ hS => fa73_0 ⟨rfl, rfl⟩) ?_
          refine s_st (Try.sizeOf71 _) (row2_one hr6).1 (row2_one hr6).2 hR6 (by show 0 < 2; decide) ?_
          have f7 : Fr (fun b => b = R) w6 (w6.setCell ⟨R, 0, none⟩ lv') := Fr.setCell w6 ⟨R, 0, none⟩ lv'
          show px P _ (w6.setCell ⟨R, 0, none⟩ lv') _
          generalize w6.setCell ⟨R, 0, none⟩ lv' = w7 at *
          refine s_turn hp6 hkt fun v1 v2 v3 v4 v5 v6 w8 e8 => ?_
          subst e8
          refine out em (hp6.turn (kt + 1)) ?_ ?_
          · have f68 : Fr (hown R lv5) w5 (w7.setCell ⟨R, 1, none⟩ (i64 (kt + 1 : Nat))) := (((fd5.or f6).or f7).or (Fr.setCell w7 ⟨R, 1, none⟩ (i64 (kt + 1 : Nat)))).mono (by
              rintro b (((hb | hb) | hb) | hb)
              · exact hb.elim
              · exact .inl hb
              · exact .inl (.inl hb)
              · exact .inl (.inl hb))
            have f38 := f35.trans f68 own5
            exact (f13.or f38).mono (by
              rintro b (hb | hb)
              · exact hb.elim
              · exact .inl hb)
          · intro b hb
            rcases hnb b hb with h' | h'
            · rcases own5 b (.inr h') with h'' | h''
              · rcases h'' with h'' | h''
                · exact absurd h'' (h5.ne h')
                · exact .inl h''
              · right; omega
            · right; omega
        · have hg : alGet hl x.name = none := alGet_none_iff.2 hno
          have em : madeH hl kt x = (hl, kt) := by unfold madeH; rw [if_neg k1, if_neg k23, if_neg k4, if_pos k5, if_neg hab, hg]
          exact s_ge_f (by omega) (s_pick_t (pC_false (out em h1 (Fr.refl _ _) fun b hb => .inl hb)))
      refine s_eqi_f k5 (pC_false ?_)
      by_cases k6 : x.kind = 6
      · have em : madeH hl kt x = (alDel hl x.name, kt + 1) := by unfold madeH; rw [if_neg k1, if_neg k23, if_neg k4, if_neg k5, if_pos k6]
        refine s_eqi_t k6 (pC_true ?_)
        refine fa59_1 (s_ldb (v := .string x.name) (Try.isAgg9 _) b1 rfl ?_)
        refine c_gone h1 hB1 hnd hl62 fun w2 lv2 h2 f2 hb2 => ?_
        refine s_turn h2 hkt fun v1 v2 v3 v4 v5 v6 w3 e3 => ?_
        subst e3
        refine out em (h2.turn (kt + 1)) ?_ hb2
        refine (f2.or (Fr.setCell w2 ⟨R, 1, none⟩ (i64 (kt + 1 : Nat)))).mono ?_
        rintro b (hb | hb)
        · exact .inl hb
        · exact .inl (.inl hb)
      refine s_eqi_f k6 (pC_false ?_)
      by_cases k7 : x.kind = 7
      · refine s_eqi_t k7 (pC_true ?_)
        rcases hiv with ⟨i, hi, rfl, he⟩ | ⟨rfl, hno⟩
        · have hg : alGet hl x.name = some hl[i].2 := by rw [← he]; exact alGet_at' hnd hi
          have em : madeH hl kt x = (alSet hl hl[i].1 0, kt) := by unfold madeH; rw [if_neg k1, if_neg k23, if_neg k4, if_neg k5, if_neg k6, if_pos k7, hg, he]
          refine s_ge_t (by omega) (pC_true ?_)
          obtain ⟨g, cap, cur, ev, hg', hsz, c0, c1, hrep, hfr⟩ := h1.units hnd hi 0
          refine s_nil (fa73_0 (s_ldb (v := lv) (Try.isAgg71 _) h1.blk rfl ?_))
          rw [ev]
          refine s_ix (i := (i : Int)) usl71 (sze71 _) (by omega) (by omega) ?_
          have ei : 0 + (i : Int).toNat * 2 = i * 2 := by simp
          rw [ei]
          refine fa75_1 (s_st (Try.sizeOf3 _) rfl rfl hg' hsz ?_)
          exact out em hrep hfr fun b hb => .inl hb
        · have hg : alGet hl x.name = none := alGet_none_iff.2 hno
          have em : madeH hl kt x = (hl, kt) := by unfold madeH; rw [if_neg k1, if_neg k23, if_neg k4, if_neg k5, if_neg k6, if_pos k7, hg]
          exact s_ge_f (by omega) (pC_false (out em h1 (Fr.refl _ _) fun b hb => .inl hb))
      refine s_eqi_f k7 (pC_false ?_)
      by_cases k8 : x.kind = 8
      · have em : madeH hl kt x = (hl, 0) := by unfold madeH; rw [if_neg k1, if_neg k23, if_neg k4, if_neg k5, if_neg k6, if_neg k7, if_pos k8]
        refine s_eqi_t k8 (pC_true (s_nil (fa73_1 ?_)))
        refine s_st (Try.sizeOf3 _) rfl rfl h1.blk (by show 1 < 2; decide) ?_
        refine out em (h1.turn 0) ((Fr.setCell w1 ⟨R, 1, none⟩ (i64 (0 : Nat))).mono fun b hb => .inl (.inl hb)) fun b hb => .inl hb
      · have em : madeH hl kt x = (hl, kt) := by unfold madeH; rw [if_neg k1, if_neg k23, if_neg k4, if_neg k5, if_neg k6, if_neg k7, if_neg k8]
        exact s_eqi_f k8 (pC_false (out em h1 (Fr.refl _ _) fun b hb => .inl hb))
  refine s_eqi_f k1 (pC_false ?_)
  by_cases k2 : x.kind = 2
  · refine s_eqi_t k2 (pC_true (part1 _ true rfl rfl rfl rfl rfl ⟨fun _ => .inl k2, fun _ => rfl⟩))
  refine s_eqi_f k2 (pC_false ?_)
  by_cases k3 : x.kind = 3
  · exact s_eqi_t k3 (part1 _ true rfl rfl rfl rfl rfl ⟨fun _ => .inr k3, fun _ => rfl⟩)
  · exact s_eqi_f k3 (part1 _ false rfl rfl rfl rfl rfl ⟨(fun e => by cases e), fun e => by omega⟩)
end
end Go.Proofs.Ytcdcojpfealppaa
/- DiskWhole, walked. -/
set_option linter.unusedVariables false
set_option linter.unusedSimpArgs false
set_option maxRecDepth 100000
namespace Go.Proofs.Ytcdcojpfealppaa
open Go Go.Proofs Go.RowKit Go.Proofs.XRed Go.Proofs.XHeap Go.Proofs.XMaps Go.Proofs.XSlices Go.Proofs.XDisk Go.Proofs.XCalls Go.Proofs.XRange Go.Proofs.XKeys Go.Proofs.XHeld
section
variable {W w w' w0 : World} {B R D : Nat} {S T : AD} {lv : Value} {hl : Helds} {kt : Nat} {k : Value → World → Prop}
theorem mul_bd {t m : Int} (h1 : -1000 ≤ t) (h2 : t ≤ 1000) (h3 : 0 ≤ m) (h4 : m ≤ 1099511627776) : -1099511627776000 ≤ t * m ∧ t * m ≤ 1099511627776000 := by
  have a := Int.mul_le_mul_of_nonneg_right h2 h3
  have b := Int.mul_le_mul_of_nonneg_right h1 h3
  omega
/-- The picks that all makes. -/
def picksOf (hl : Helds) (kt : Nat) (times : Int) (fs : List (ByteArray × Bytes)) : List Int := ((kt : Int) + times * (kt + 1)) :: fs.map fun f => (((alGet hl f.1).getD 0 : Nat) : Int) + times * (((alGet hl f.1).getD 0 : Nat) + 1)
theorem picksOf_snoc {times : Int} {fs : List (ByteArray × Bytes)} {i : Nat} (hi : i < fs.length) : picksOf hl kt times (fs.take (i + 1)) = picksOf hl kt times (fs.take i) ++ [(((alGet hl fs[i].1).getD 0 : Nat) : Int) + times * (((alGet hl fs[i].1).getD 0 : Nat) + 1)] := by
  unfold picksOf
  rw [List.take_succ_eq_append_getElem hi, List.map_append]; rfl
/-- all: the picks. -/
theorem c_all {fv : Value} {times : Int} {fs : List (ByteArray × Bytes)} (h : HRep w B R lv hl kt) (hf : FilesV w 0 fv fs) (hnd : (alKeys hl).Nodup) (hlen : hl.length = fs.length) (hl62 : hl.length ≤ 256) (hkt : kt ≤ 1073741824) (hun : ∀ p ∈ hl, p.2 ≤ 1073741824) (h1 : -1000 ≤ times) (h2 : times ≤ 1000)
    (hall : ∀ f ∈ fs, alGet hl f.1 ≠ none)
    (hk : ∀ w' pv, Fr no w w' → XSlices.Src w' pv 1 (picksOf hl kt times fs).length ((picksOf hl kt times fs).map i64) → k (.tuple #[pv, .bool true]) w') : pFn P 37 [ptr R, fv, i64 times] w k := by
  refine F37_in _ _ _ _ _ ?_
  unfold F37_0
  have fd : Fr no w w.drew := Fr.drew _ _
  have hd := h.fr fd fun b _ => id
  have hm := mul_bd h1 h2 (m := (kt : Int) + 1) (by omega) (by omega)
  refine ⟨fun w_ => w_.heap[R]? = some (.cells #[lv, i64 kt] 73 (0, 0)), hd.blk, ?_⟩
  refine q_of _ (fun w_ hS => s_nil ⟨rfl, rfl⟩) ?_
  refine q_of _ (fun w_ hS => fa73_1 ⟨rfl, rfl⟩) ?_
  refine q_of (i64 kt) (fun w_ hS => s_ldb (v := i64 kt) (Try.isAgg3 _) hS rfl ⟨rfl, rfl⟩) ?_
  refine q_of _ (fun w_ hS => s_nil ⟨rfl, rfl⟩) ?_
  refine q_of _ (fun w_ hS => fa73_1 ⟨rfl, rfl⟩) ?_
  refine q_of (i64 kt) (fun w_ hS => s_ldb (v := i64 kt) (Try.isAgg3 _) hS rfl ⟨rfl, rfl⟩) ?_
  refine q_of _ (fun w_ hS => s_add_in (by omega) ⟨rfl, rfl⟩) ?_
  refine q_of (i64 (times * ((kt : Int) + 1))) (fun w_ hS => s_mul (by rw [wrap_in (by omega)]; exact ⟨rfl, rfl⟩)) ?_
  refine q_of (i64 ((kt : Int) + times * ((kt : Int) + 1))) (fun w_ hS => s_add_in (by omega) ⟨rfl, rfl⟩) ?_
  refine lit1_57 rfl ⟨(Fr.alloc no _ _).get hd.blk id, ?_⟩
  have f1 : Fr no w.drew (w.drew.alloc (.cells #[i64 ((kt : Int) + times * ((kt : Int) + 1))] 3)) := Fr.alloc ..
  have hl1 := own_lit w.drew w.heap.size 3 1 #[i64 ((kt : Int) + times * ((kt : Int) + 1))] 1 (Nat.le_refl _) (by unfold maxLen; omega) rfl
  have hz : w.drew.heap.size = w.heap.size := rfl
  rw [hz] at hl1 ⊢
  generalize w.drew.alloc (.cells #[i64 ((kt : Int) + times * ((kt : Int) + 1))] 3) = w1 at *
  have f01 : Fr no w w1 := fd.trans f1 fun b hb => .inl hb
  refine F37L1_inv (m := fs.length) k (fun m ρ w' => ∃ (i : Nat) (pv : Value), i + m = fs.length ∧ Fr no w w' ∧ ρ 0 = ptr R ∧ ρ 1 = fv ∧ ρ 2 = i64 times ∧ ρ 8 = pv ∧ ρ 9 = i64 i ∧ w'.ownsRow w.heap.size 3 1 pv (i + 1) ((picksOf hl kt times (fs.take i)).map i64)) ?_
    ⟨0, _, by omega, f01, rfl, rfl, rfl, rfl, rfl, hl1⟩
  rintro m ρ w' ⟨i, pv, him, hfr, e0, e1, e2, e8, e9, hrow⟩
  rw [F37_1_eq]
  unfold F37_1
  rw [e0, e1, e2, e8, e9]
  have h' := h.fr hfr fun b _ => id
  have hf' := filesV_fr hf hfr
  obtain ⟨A, cc, ev⟩ : ∃ A cc, fv = .slice A fs.length cc := by obtain ⟨ps, _, h, _⟩ := hf'; obtain ⟨A, c, e, _⟩ := Src.of_own h; exact ⟨A, c, e⟩
  have hlenv : ∀ {w' : World} {K : Value → World → Prop}, K (i64 fs.length) w' → px P (bSem .len #[37] 3 #[fv]) w' K := by
    intro w' K hK
    rw [ev]
    exact s_len usl37 hK
  refine hlenv ?_
  by_cases hi : i < fs.length
  · refine s_lt_t (by omega) (pC_true ?_)
    obtain ⟨b, o, c', dd, ev', g0, _, _⟩ := files_at hf' hi
    have hix : ∀ {w' : World} {K : Value → World → Prop}, K (.pointer (some ⟨b, o + i * 2, none⟩)) w' → px P (Instr.indexAt 37 fv (i64 i)) w' K := by
      intro w' K hK
      rw [ev']
      exact s_ix (i := (i : Int)) usl37 (sze37 _) (by omega) (by omega) hK
    refine hix (fa52_0 (s_ld (v := .string fs[i].1) (Try.isAgg9 _) g0 ?_))
    refine c_at' h' (by omega) fun iv hiv => ?_
    rcases hiv with ⟨j, hj, rfl, he⟩ | ⟨rfl, hno⟩
    · refine s_lt_f (by omega) (pC_false ?_)
      obtain ⟨g, cap, cur, el, _, _, _, c1, _⟩ := h'.units hnd hj 0
      have hg : alGet hl fs[i].1 = some hl[j].2 := by rw [← he]; exact alGet_at' hnd hj
      have hu := hun _ (List.getElem_mem hj)
      have hm := mul_bd h1 h2 (m := (hl[j].2 : Int) + 1) (by omega) (by omega)
      refine s_nil (fa73_0 (s_ldb (v := lv) (Try.isAgg71 _) h'.blk rfl ?_))
      rw [el]
      refine s_ix (i := (j : Int)) usl71 (sze71 _) (by omega) (by omega) ?_
      have ej : 0 + (j : Int).toNat * 2 = j * 2 := by simp
      rw [ej]
      refine fa75_1 (s_ld (v := i64 hl[j].2) (Try.isAgg3 _) c1 ?_)
      refine s_add_in (by omega) (s_mul ?_)
      rw [wrap_in (by omega)]
      refine s_add_in (by omega) (lit1_57 rfl ?_)
      have f5 := Fr.alloc no w' (.cells #[i64 ((hl[j].2 : Int) + times * ((hl[j].2 : Int) + 1))] 3)
      have hlit := own_lit w' 0 3 1 #[i64 ((hl[j].2 : Int) + times * ((hl[j].2 : Int) + 1))] 1 (Nat.zero_le _) (by unfold maxLen; omega) rfl
      show px P _ (w'.alloc (.cells #[i64 ((hl[j].2 : Int) + times * ((hl[j].2 : Int) + 1))] 3)) _
      generalize w'.alloc (.cells #[i64 ((hl[j].2 : Int) + times * ((hl[j].2 : Int) + 1))] 3) = w5 at *
      have hs5 := f5.size
      have hs0 := hfr.size
      refine ap57 (own_fr hrow f5 fun _ _ h => h) (Src.of_own hlit) (by intro y hy; simp at hy; subst hy; rfl) (by omega) (by omega) fun pv' w6 h6 f6 hb6 => ?_
      refine s_add_in (by omega) ?_
      refine ⟨m - 1, by omega, i + 1, pv', by omega, ?_, e0, e1, e2, rfl, ?_, ?_⟩
      · refine (hfr.trans f5 fun b hb => .inl hb).trans f6 fun b hb => .inr ?_
        have := own_blk_lt hrow hb.symm
        exact this.1
      · show i64 _ = i64 _; simp
      · rw [picksOf_snoc hi, hg, List.map_append]
        exact h6
    · exact absurd (alGet_none_iff.2 hno) (hall _ (List.getElem_mem hi))
  · refine s_lt_f (by omega) (pC_false ?_)
    rw [F37_2_eq]
    unfold F37_2
    have ei : i = fs.length := by omega
    subst ei
    rw [List.take_of_length_le (Nat.le_refl _)] at hrow
    have fd' : Fr no w' w'.drew := Fr.drew _ _
    have hd' := h'.fr fd' fun b _ => id
    refine ⟨fun w_ => w_.heap[R]? = some (.cells #[lv, i64 kt] 73 (0, 0)), hd'.blk, ?_⟩
    show pq P _ (bSem .len #[37] 3 #[ρ 1]) _
    rw [e1]
    refine q_of (i64 fs.length) (fun w_ hS => hlenv ⟨rfl, rfl⟩) ?_
    show pq P _ (nilSem (ρ 0)) _
    rw [e0]
    refine q_of _ (fun w_ hS => s_nil ⟨rfl, rfl⟩) ?_
    refine q_of _ (fun w_ hS => fa73_0 ⟨rfl, rfl⟩) ?_
    refine q_of lv (fun w_ hS => s_ldb (v := lv) (Try.isAgg71 _) hS rfl ⟨rfl, rfl⟩) ?_
    refine q_of (i64 hl.length) (fun w_ hS => by
      obtain ⟨A, c, e, _⟩ := of_row2 h.row
      rw [e]
      exact s_len usl71 ⟨rfl, rfl⟩) ?_
    refine q_of (.bool true) (fun w_ hS => s_eqi_t (by omega) ⟨rfl, rfl⟩) ?_
    show k (.tuple #[ρ 8, .bool true]) w'.drew
    rw [e8]
    refine hk _ pv (hfr.trans fd' fun b hb => .inl hb) ?_
    have hpl : (picksOf hl kt times fs).length = fs.length + 1 := by unfold picksOf; simp
    rw [hpl]
    exact Src.of_own (own_fr hrow fd' fun _ _ h => h)
theorem unitsOf_bd : ∀ {r : List Chg} {b s : Bytes}, rowOk b r s → unitsOf r ≤ r.length * 1048576
  | [], b, s, h => by simp [unitsOf]
  | c :: r, b, s, h => by
    have e : unitsOf (c :: r) = c.units + unitsOf r := by unfold unitsOf; simp
    have ih := unitsOf_bd h.2.2.2
    have hu : c.units ≤ 1048576 := by
      cases c with
      | wr a d => have := (h.2.2.1 a d rfl).2; show d.length ≤ _; omega
      | cut n => show 1 ≤ _; omega
    rw [e, List.length_cons]; omega
theorem counts_bds {c : Nat} (h : Counts S hl kt) (ok : S.Ok c) (hc : c ≤ 100) : hl.length ≤ 256 ∧ kt ≤ 100 ∧ ∀ p ∈ hl, p.2 ≤ 104857600 := by
  refine ⟨by rw [h.len ok.shown.nodup]; exact ok.turns.len.1, by have := ok.row; rw [h.turns]; omega, fun p hp => ?_⟩
  have hg := alGet_mem h.nd hp
  rw [h.get] at hg
  cases hs : alGet S.shown p.1 with
  | none => rw [hs] at hg; cases hg
  | some t =>
    rw [hs] at hg
    simp only [Option.map_some, Option.some.injEq] at hg
    have ht := ok.thing t (.inl ⟨p.1, mem_of_alGet hs⟩)
    have h1 := unitsOf_bd ht.ok
    have h2 := ht.row
    have : (S.things t).row.length * 1048576 ≤ 100 * 1048576 := Nat.mul_le_mul_right _ (by omega)
    omega
end
end Go.Proofs.Ytcdcojpfealppaa
/- DiskWhole, walked: the loop. -/
set_option linter.unusedVariables false
set_option linter.unusedSimpArgs false
set_option maxRecDepth 100000
namespace Go.Proofs.Ytcdcojpfealppaa
open Go Go.Proofs Go.RowKit Go.Proofs.XRed Go.Proofs.XHeap Go.Proofs.XMaps Go.Proofs.XSlices Go.Proofs.XDisk Go.Proofs.XCalls Go.Proofs.XRange Go.Proofs.XKeys Go.Proofs.XHeld
section
variable {W w w' w0 : World} {B R D : Nat} {S T : AD} {lv : Value} {hl : Helds} {kt : Nat} {k : Value → World → Prop}
/-- The step's own variable. -/
def stepArr (x : StepA) (dv pv : Value) : Array Value := #[i64 x.kind, .string x.name, .string x.to_, i64 x.at_, i64 x.n, dv, i64 x.plan.off, i64 x.plan.from_, i64 x.plan.to_, pv]
/-- Element i of a script, put into a variable of the round's. -/
theorem s_stepVar {v : Value} {l : Script} {i : Nat} (h : ScriptV w v l) (hi : i < l.length) {kk : Value → Value → Value → World → Prop}
    (hk : ∀ p w', Fr no w w' → w'.heap.size = w.heap.size + 1 → w'.heap[w.heap.size]? = some (.cells (stepArr l[i].1 l[i].2.1 l[i].2.2) 59 (0, 0)) → kk p (stepVal l[i].1 l[i].2.1 l[i].2.2) (ptr w.heap.size) w') :
    px P (Instr.indexAt 55 v (i64 i)) w fun p w => px P (Instr.loadAt 59 p) w fun x w => px P (Instr.alloc 59 true (.tuple #[])) w fun a w => pu P (Instr.storeAt 59 a x) w (kk p x a) := by
  obtain ⟨b, o, c, ev, hc⟩ := h.at_ hi
  rw [ev]
  refine s_ix (i := (i : Int)) usl55 (sze55 _) (by omega) (by omega) ?_
  refine px_ok (run_ldStep (x := l[i].1) (dv := l[i].2.1) (pv := l[i].2.2) (fun j u hj => by have := hc j u hj; simpa using this)) ?_
  refine s_alloc (Try.zeroValue59 _) ?_
  generalize hz : (Value.cells _ : Array Value) = zs
  have hzs : zs.size = 10 := by rw [← hz]; rfl
  have f1 : Fr no w (w.alloc (.cells zs 59)) := Fr.alloc ..
  have b1 := alloc_new w (.cells zs 59)
  have z1 : (w.alloc (.cells zs 59)).heap.size = w.heap.size + 1 := by simp
  refine s_stN (vs := stepCells l[i].1 l[i].2.1 l[i].2.2) (Try.sizeOf59 _) rfl ?_ b1 (by omega) fun w2 hb2 f2 z2 => ?_
  · have hs := h.all _ (List.getElem_mem hi)
    obtain ⟨A5, c5, ed, _⟩ := hs.data.form
    obtain ⟨A9, c9, ep, _⟩ : ∃ A c, l[i].2.2 = .slice A l[i].1.picks.length c ∧ l[i].1.picks.length ≤ c := by obtain ⟨A, c, e, hc, _⟩ := hs.picks; exact ⟨A, c, e, hc⟩
    intro u hu
    unfold stepCells at hu
    rw [ed, ep] at hu
    simp only [List.mem_cons, List.not_mem_nil, or_false] at hu
    rcases hu with rfl | rfl | rfl | rfl | rfl | rfl | rfl | rfl | rfl | rfl <;> rfl
  · refine hk _ w2 ((f1.or f2).mono ?_) (by omega) ?_
    · rintro b (hb | hb)
      · exact hb.elim
      · right; omega
    · rw [hb2]
      have e : zs.toList.drop (0 + 10) = [] := List.drop_eq_nil_of_le (by simp; omega)
      rw [e]
      simp [stepCells, stepArr]
/-- b and a test of the step's kind. -/
theorem s_andF {b want : Bool} {n c : Int} {op : BinOp} {x y : Operand} {xb : Nat} {cs : Array Value} (hb : w.heap[xb]? = some (.cells cs 59 (0, 0))) (hc : cs[0]? = some (i64 n)) (hop : ∀ K : Value → World → Prop, K (.bool want) w → px P (binSem op 3 x y (i64 n) (i64 c)) w K)
    {kk : Value → Value → Value → Value → World → Prop} (hk : ∀ v1 v2 v3, kk v1 v2 v3 (.bool (b && want)) w) :
    pG (.bool b) true (fun k => px P (Instr.fieldAt 59 (ptr xb) 0) w k) (fun v1 w => pG (.bool b) true (fun k => px P (Instr.loadAt 3 v1) w k) (fun v2 w => pG (.bool b) true (fun k => px P (binSem op 3 x y v2 (i64 c)) w k) (fun v3 w => px P (pickSem (.bool b) v3 (.bool false)) w (kk v1 v2 v3)) w) w) w := by
  cases b with
  | false => exact pG_sk (pG_sk (pG_sk (s_pick_f (hk _ _ _))))
  | true => exact pG_yes rfl (fa59_0 (pG_yes rfl (s_ldb (v := i64 n) (Try.isAgg3 _) hb hc (pG_yes rfl (hop _ (s_pick_t (by have := hk (.pointer (some ⟨xb, 0 + 0, none⟩)) (i64 n) (.bool want); simpa using this)))))))
/-- b and a test of a value. -/
theorem s_andV {b want : Bool} {u : Value} {c : Int} {op : BinOp} {t : TypeId} {x y : Operand} (hop : ∀ K : Value → World → Prop, K (.bool want) w → px P (binSem op t x y u (i64 c)) w K)
    {kk : Value → Value → Value → World → Prop} (hk : ∀ v1 v2, kk v1 v2 (.bool (b && want)) w) :
    pG (.bool b) true (fun k => k u w) (fun v1 w => pG (.bool b) true (fun k => px P (binSem op t x y v1 (i64 c)) w k) (fun v2 w => px P (pickSem (.bool b) v2 (.bool false)) w (kk v1 v2)) w) w := by
  cases b with
  | false => exact pG_sk (pG_sk (s_pick_f (hk _ _)))
  | true => exact pG_yes rfl (pG_yes rfl (hop _ (s_pick_t (by have := hk u (.bool want); simpa using this))))
/-- b or a test of the step's kind. -/
theorem s_orF {b want : Bool} {n c : Int} {op : BinOp} {x y : Operand} {xb : Nat} {cs : Array Value} (hb : w.heap[xb]? = some (.cells cs 59 (0, 0))) (hc : cs[0]? = some (i64 n)) (hop : ∀ K : Value → World → Prop, K (.bool want) w → px P (binSem op 3 x y (i64 n) (i64 c)) w K)
    {kk : Value → Value → Value → Value → World → Prop} (hk : ∀ v1 v2 v3, kk v1 v2 v3 (.bool (b || want)) w) :
    pG (.bool b) false (fun k => px P (Instr.fieldAt 59 (ptr xb) 0) w k) (fun v1 w => pG (.bool b) false (fun k => px P (Instr.loadAt 3 v1) w k) (fun v2 w => pG (.bool b) false (fun k => px P (binSem op 3 x y v2 (i64 c)) w k) (fun v3 w => px P (pickSem (.bool b) (.bool true) v3) w (kk v1 v2 v3)) w) w) w := by
  cases b with
  | true => exact pG_skf (pG_skf (pG_skf (s_pick_t (hk _ _ _))))
  | false => exact pG_yes rfl (fa59_0 (pG_yes rfl (s_ldb (v := i64 n) (Try.isAgg3 _) hb hc (pG_yes rfl (hop _ (s_pick_f (by have := hk (.pointer (some ⟨xb, 0 + 0, none⟩)) (i64 n) (.bool want); simpa using this)))))))
/-- b or a test of a value. -/
theorem s_orV {b want : Bool} {u : Value} {c : Int} {op : BinOp} {t : TypeId} {x y : Operand} (hop : ∀ K : Value → World → Prop, K (.bool want) w → px P (binSem op t x y u (i64 c)) w K)
    {kk : Value → Value → Value → World → Prop} (hk : ∀ v1 v2, kk v1 v2 (.bool (b || want)) w) :
    pG (.bool b) false (fun k => k u w) (fun v1 w => pG (.bool b) false (fun k => px P (binSem op t x y v1 (i64 c)) w k) (fun v2 w => px P (pickSem (.bool b) (.bool true) v2) w (kk v1 v2)) w) w := by
  cases b with
  | true => exact pG_skf (pG_skf (s_pick_t (hk _ _)))
  | false => exact pG_yes rfl (pG_yes rfl (hop _ (s_pick_f (by have := hk u (.bool want); simpa using this))))
theorem used_small' {c : Nat} {S : AD} (ok : S.Ok c) : S.used ≤ 256 * 1048576 := by
  have h1 := ok.turns.len.1
  have h2 : ∀ l : Names, (∀ p ∈ l, (S.things p.2).shown.length ≤ 1048576) → (l.map fun p => (S.things p.2).shown.length).sum ≤ l.length * 1048576 := by
    intro l
    induction l with
    | nil => intro _; exact Nat.zero_le _
    | cons p r ih =>
      intro h
      have a := h p List.mem_cons_self
      have b := ih fun q hq => h q (List.mem_cons_of_mem _ hq)
      simp only [List.map_cons, List.sum_cons, List.length_cons]
      omega
  have h3 := h2 S.shown fun p hp => (ok.thing p.2 (.inl ⟨p.1, hp⟩)).ok.len.1
  exact Nat.le_trans h3 (Nat.mul_le_mul_right _ h1)
theorem total_files' (S : AD) : totalOf S.files = S.used := by
  unfold totalOf AD.files AD.used
  rw [List.map_map]; rfl

/-- b and a test of the datum's length. -/
theorem s_andLen {b : Bool} {dv : Value} {n : Nat} {x y : Operand} {xb : Nat} {cs : Array Value} (hb : w.heap[xb]? = some (.cells cs 59 (0, 0))) (hc : cs[5]? = some dv) (hd : ∃ A c, dv = .slice A n c)
    {kk : Value → Value → Value → Value → Value → World → Prop} (hk : ∀ v1 v2 v3 v4, kk v1 v2 v3 v4 (.bool (b && decide (n > 0))) w) :
    pG (.bool b) true (fun k => px P (Instr.fieldAt 59 (ptr xb) 5) w k) (fun v1 w => pG (.bool b) true (fun k => px P (Instr.loadAt 30 v1) w k) (fun v2 w => pG (.bool b) true (fun k => px P (bSem .len #[30] 3 #[v2]) w k) (fun v3 w => pG (.bool b) true (fun k => px P (binSem .gtr 3 x y v3 (i64 0)) w k) (fun v4 w => px P (pickSem (.bool b) v4 (.bool false)) w (kk v1 v2 v3 v4)) w) w) w) w := by
  obtain ⟨A, c, rfl⟩ := hd
  cases b with
  | false => exact pG_sk (pG_sk (pG_sk (pG_sk (s_pick_f (hk _ _ _ _)))))
  | true =>
    refine pG_yes rfl (fa59_5 (pG_yes rfl (s_ldb (v := .slice A n c) (Try.isAgg30 _) hb hc (pG_yes rfl (s_len usl30 (pG_yes rfl (s_gt (s_pick_t ?_))))))))
    have := hk (.pointer (some ⟨xb, 0 + 5, none⟩)) (.slice A n c) (i64 n) (.bool (decide ((n : Int) > 0)))
    have e : decide ((n : Int) > 0) = decide (n > 0) := by by_cases h : n > 0 <;> simp [h]
    rw [e] at this ⊢
    simpa using this
/-- b and the files are alike. -/
theorem s_andFiles {b : Bool} {v1 v2 : Value} {B1 B2 : Nat} {x y : List (ByteArray × Bytes)} (hx : FilesV w B1 v1 x) (hy : FilesV w B2 v2 y) (hl : x.length ≤ 4611686018427387904) (hlb : ∀ f ∈ x, f.2.length ≤ 4611686018427387904)
    {kk : Value → Value → Value → Value → World → Prop} (hk : ∀ u1 u2 u3 w', Fr no w w' → kk u1 u2 u3 (.bool (b && decide (x = y))) w') :
    pG (.bool b) true (fun k => k v1 w) (fun u1 w => pG (.bool b) true (fun k => k v2 w) (fun u2 w => pG (.bool b) true (fun k => pFn P 16 [u1, u2] w k) (fun u3 w => px P (pickSem (.bool b) u3 (.bool false)) w (kk u1 u2 u3)) w) w) w := by
  cases b with
  | false => exact pG_sk (pG_sk (pG_sk (s_pick_f (hk _ _ _ w (Fr.refl _ _)))))
  | true => exact pG_yes rfl (pG_yes rfl (pG_yes rfl (c_filesEq hx hy hl hlb fun w' f => s_pick_t (by have := hk v1 v2 (.bool (decide (x = y))) w' f; simpa using this))))
theorem run_ldStepB {xb : Nat} {x : StepA} {dv pv : Value} (hb : w.heap[xb]? = some (.cells (stepArr x dv pv) 59 (0, 0))) : (Instr.loadAt 59 (ptr xb)).run P w = .ok (stepVal x dv pv) w := by
  refine run_ldStep fun j u hj => ?_
  have hj' : j < 10 := (List.getElem?_eq_some_iff.1 hj).1
  refine cell_blk hb ?_
  rw [Nat.zero_add]
  have : (stepArr x dv pv).toList = stepCells x dv pv := rfl
  rw [← Array.getElem?_toList, this]; exact hj
/-- A round's end. -/
theorem w_whole6 {v : Value} {l : Script} {times : Int} {m i : Nat} (ht1 : -1000 ≤ times) (ht2 : times ≤ 1000) (hl60 : l.length ≤ 60) (him : i + m = l.length) (hi : i < l.length) {Kf : Nat → Prop} {fv : Value}
    {ρ' : Env} {w' : World} (e1 : ρ' 1 = v) (e2 : ρ' 2 = i64 times) (e7 : ρ' 7 = ptr D) (e9 : ρ' 9 = ptr R) (e10 : ρ' 10 = i64 i) (e15 : ρ' 15 = fv) (hf : FilesIn w' Kf fv T.files) (hI : Is1 W w' D T (fun b => hown R lv b ∨ Kf b)) (hH : HRep w' W.heap.size R lv hl kt) (hC : Counts T hl kt) (ok : T.Ok (i + 1)) (hin : T.Inj) :
    F7A1 k (fun ρ' w' => ∃ m', m' < m ∧ ∃ (i : Nat) (S : AD) (R : Nat) (lv : Value) (hl : Helds) (kt : Nat), i + m' = l.length ∧ ρ' 1 = v ∧ ρ' 2 = i64 times ∧ ρ' 7 = ptr D ∧ ρ' 9 = ptr R ∧ ρ' 10 = i64 i ∧ Is1 W w' D S (hown R lv) ∧ HRep w' W.heap.size R lv hl kt ∧ Counts S hl kt ∧ S.Ok i ∧ S.Inj) [1, 0, 0, 1, 1, 1, 1, 1, 1, 1, 1] ρ' w' := by
  rw [F7_6_eq]
  unfold F7_6
  rw [e2, e7, e9, e10, e15]
  obtain ⟨bl, bk, bu⟩ := counts_bds hC ok (by omega)
  have hlenF : hl.length = T.files.length := by rw [hC.len ok.shown.nodup]; unfold AD.files; simp
  refine c_all hH hf.toV hC.nd hlenF bl (by omega) (fun p hp => by have := bu p hp; omega) ht1 ht2 (fun f hfm => ?_) fun w2 pv f2 hpv => ?_
  · unfold AD.files at hfm
    obtain ⟨p, hp, rfl⟩ := List.mem_map.1 hfm
    show alGet hl p.1 ≠ none
    rw [hC.of (alGet_mem ok.shown.nodup hp)]
    simp
  have epk : picksOf hl kt times T.files = allPicks T hl kt times := by unfold picksOf allPicks AD.files; rw [List.map_map]; rfl
  rw [epk] at hpv
  have hI2 := hI.quiet f2
  have hf2 := hf.fr f2 fun _ _ h => h
  have hH2 := hH.fr f2 fun b _ => id
  refine s_ext rfl (s_ext rfl ?_)
  obtain ⟨O, I, L, T2⟩ := hI2
  refine c_twin T2.rep ok fun w3 D2 L2 d3 f3 => ?_
  have i3 := Is1.twin d3 f3
  clear d3
  refine s_not ?_
  repeat (first | refine pG_sk ?_ | refine pG_skf ?_ | refine pG_un ?_ | refine pG_yes rfl ?_)
  refine s_eqpn upt24 (s_pick_f (pC_false ?_))
  obtain ⟨O3, I3, L3, T3⟩ := i3
  have okC := ok.crash (allPicks T hl kt times)
  have hpl : (allPicks T hl kt times).length ≤ 4611686018427387904 := by
    have := ok.turns.len.1
    unfold allPicks; simp; omega
  refine c_crashP (picks := allPicks T hl kt times) sortsKeys T3.rep ok hpl (hpv.fr (by omega) f3 fun _ _ h => h) (crashMax ok _) fun w4 O' I' L' hx => ?_
  obtain ⟨⟨O4, I4, L4, T4⟩, -⟩ := T3.is1 hx
  clear T3 hx
  have ef : (T.crash (allPicks T hl kt times)).files = T.files := crash_all ok hC times
  have es : (T.crash (allPicks T hl kt times)).safes = T.files := (crash_safes _).trans ef
  have eo : (T.crash (allPicks T hl kt times)).off = false := rfl
  generalize T.crash (allPicks T hl kt times) = C at *
  have f24 : Fr no w2 w4 := T4.fr
  refine c_files sortsKeys T4.rep okC (shownMax okC) fun w5 v5 h5 f5 => ?_
  have d5 := T4.rep.fr f5 fun b hb => hb.elim
  have f25 : Fr no w2 w5 := fr_up f24 f5 fun b hb => hb.elim
  refine c_filesEq h5 (hf2.fr f25 fun _ _ h => h).toV (files_small okC).1 (files_small okC).2 fun w6 f6 => ?_
  rw [decide_eq_true ef]
  have d6 := d5.fr f6 fun b hb => hb.elim
  have f26 : Fr no w2 w6 := fr_up f25 f6 fun b hb => hb.elim
  refine s_not ?_
  repeat (first | refine pG_sk ?_ | refine pG_skf ?_ | refine pG_un ?_ | refine pG_yes rfl ?_)
  refine c_safe sortsKeys d6 okC (safeMax okC) fun w7 v7 h7 f7 => ?_
  have d7 := d6.fr f7 fun b hb => hb.elim
  have f27 : Fr no w2 w7 := fr_up f26 f7 fun b hb => hb.elim
  repeat (first | refine pG_sk ?_ | refine pG_skf ?_ | refine pG_un ?_ | refine pG_yes rfl ?_)
  refine c_filesEq h7 (hf2.fr f27 fun _ _ h => h).toV (safes_small okC).1 (safes_small okC).2 fun w8 f8 => ?_
  rw [decide_eq_true es]
  have d8 := d7.fr f8 fun b hb => hb.elim
  have f28 : Fr no w2 w8 := fr_up f27 f8 fun b hb => hb.elim
  repeat (first | refine pG_sk ?_ | refine pG_skf ?_ | refine pG_un ?_ | refine pG_yes rfl ?_)
  refine s_not (s_pick_f ?_)
  repeat (first | refine pG_sk ?_ | refine pG_skf ?_ | refine pG_un ?_ | refine pG_yes rfl ?_)
  refine c_off d8.disk okC.room.1 ?_
  rw [eo]
  refine s_pick_f ?_
  repeat (first | refine pG_sk ?_ | refine pG_skf ?_ | refine pG_un ?_ | refine pG_yes rfl ?_)
  have us := used_small' okC
  have usT := used_small' ok
  refine c_used d8 okC.room.1 (by omega) fun w9 f9 => ?_
  have f29 : Fr no w2 w9 := fr_up f28 f9 fun b hb => hb.elim
  repeat (first | refine pG_sk ?_ | refine pG_skf ?_ | refine pG_un ?_ | refine pG_yes rfl ?_)
  have htot : totalOf T.files = C.used := by rw [← ef]; exact total_files' C
  refine c_total (hf2.fr f29 fun _ _ h => h).toV (files_small ok).1 (by rw [htot]; omega) ?_
  repeat (first | refine pG_sk ?_ | refine pG_skf ?_ | refine pG_un ?_ | refine pG_yes rfl ?_)
  refine s_nei_f (by rw [htot]) (s_pick_f (pC_false (s_add_in (by omega) ?_)))
  have hI9 : Is1 W w9 D T (hown R lv) := (Is1.quiet ⟨_, _, _, T2⟩ f29).less fun b hb => .inl hb
  refine ⟨m - 1, by omega, i + 1, T, R, lv, hl, kt, by omega, by exact e1, by exact e2, by exact e7, by exact e9, ?_, hI9, hH2.fr f29 fun b _ => id, hC, ok, hin⟩
  show i64 _ = i64 _; simp
/-- Behind the call: what was OK is counted. -/
theorem w_whole3 {v : Value} {l : Script} {times : Int} {m i xb : Nat} {x : StepA} {dv xpv : Value} {r : Int} (ht1 : -1000 ≤ times) (ht2 : times ≤ 1000) (hl60 : l.length ≤ 60) (him : i + m = l.length) (hi : i < l.length) {Kf : Nat → Prop} {fv : Value}
    {ρ' : Env} {w' : World} (e1 : ρ' 1 = v) (e2 : ρ' 2 = i64 times) (e7 : ρ' 7 = ptr D) (e9 : ρ' 9 = ptr R) (e10 : ρ' 10 = i64 i) (e11 : ρ' 11 = ptr xb) (e14 : ρ' 14 = i64 r) (e15 : ρ' 15 = fv) (hf : FilesIn w' Kf fv T.files) (hI : Is1 W w' D T (fun b => hown R lv b ∨ Kf b)) (hH : HRep w' W.heap.size R lv hl kt)
    (hdis : ∀ b, Kf b → ¬ hown R lv b) (hKlow : ∀ b, Kf b → W.heap.size ≤ b) (hx : w'.heap[xb]? = some (.cells (stepArr x dv xpv) 59 (0, 0))) (hdv : SBytes w' dv x.data) (hdl : x.data.length ≤ 100000)
    (hpre : r = 0 → (alKeys hl).Nodup ∧ hl.length ≤ 256 ∧ kt ≤ 100 ∧ ∀ p ∈ hl, p.2 ≤ 104857600)
    (hC : Counts T (if r = 0 ∧ 1 ≤ x.kind ∧ x.kind ≤ 8 then madeH hl kt x else (hl, kt)).1 (if r = 0 ∧ 1 ≤ x.kind ∧ x.kind ≤ 8 then madeH hl kt x else (hl, kt)).2) (ok : T.Ok (i + 1)) (hin : T.Inj) :
    F7A1 k (fun ρ' w' => ∃ m', m' < m ∧ ∃ (i : Nat) (S : AD) (R : Nat) (lv : Value) (hl : Helds) (kt : Nat), i + m' = l.length ∧ ρ' 1 = v ∧ ρ' 2 = i64 times ∧ ρ' 7 = ptr D ∧ ρ' 9 = ptr R ∧ ρ' 10 = i64 i ∧ Is1 W w' D S (hown R lv) ∧ HRep w' W.heap.size R lv hl kt ∧ Counts S hl kt ∧ S.Ok i ∧ S.Inj) [1, 0, 0, 1, 1, 1, 1, 1, 1, 1] ρ' w' := by
  rw [F7_3_eq]
  unfold F7_3
  rw [e9, e11, e14]
  have hKlt : ∀ b, Kf b → b < w'.heap.size := by obtain ⟨O, I, L, T1⟩ := hI; exact fun b hb => T1.klt b (.inr hb)
  by_cases h0 : r = 0
  · refine s_eqi_t h0 ?_
    repeat (first | refine pG_sk ?_ | refine pG_skf ?_ | refine pG_un ?_ | refine pG_yes rfl ?_)
    refine px_ok (run_ldStepB hx) ?_
    repeat (first | refine pG_sk ?_ | refine pG_skf ?_ | refine pG_un ?_ | refine pG_yes rfl ?_)
    refine c_isStroke fun w2 f2 => s_pick_t ?_
    have hI2 := hI.quiet f2
    have hf2 := hf.fr f2 fun _ _ h => h
    have hH2 := hH.fr f2 fun b _ => id
    have hx2 := f2.get hx id
    have hdv2 := hdv.fr f2 fun _ _ h => h
    by_cases hk8 : 1 ≤ x.kind ∧ x.kind ≤ 8
    · rw [decide_eq_true hk8]
      rw [if_pos ⟨h0, hk8⟩] at hC
      refine pC_true (px_ok (run_ldStepB hx2) ?_)
      obtain ⟨q1, q2, q3, q4⟩ := hpre h0
      refine c_rmade hH2 hI2.base.size q1 (by omega) (by omega) (fun p hp => by have := q4 p hp; omega) hdv2 hdl fun w3 lv3 h3 f3 hb3 => ?_
      have hown3 : ∀ b, hown R lv3 b → hown R lv b ∨ w2.heap.size ≤ b := by
        rintro b (hb | hb)
        · exact .inl (.inl hb)
        · exact (hb3 b hb).imp .inr id
      have hI3 : Is1 W w3 D T (fun b => hown R lv3 b ∨ Kf b) := by
        refine hI2.own (f3.mono fun b hb => .inl (.inl hb)) ?_ ?_ ?_
        · rintro b (hb | hb)
          · exact (hH2.lt hb).1
          · exact hKlow b hb
        · rintro b (hb | hb)
          · exact (hown3 b hb).imp .inl id
          · exact .inl (.inr hb)
        · rintro b (hb | hb)
          · exact (h3.lt hb).2
          · have := hKlt b hb; have := f2.size; have := f3.size; omega
      exact w_whole6 ht1 ht2 hl60 him hi (by exact e1) (by exact e2) (by exact e7) (by exact e9) (by exact e10) (by exact e15) (hf2.fr f3 fun b hb hn => hdis b hb hn) hI3 h3 hC ok hin
    · rw [decide_eq_false hk8]
      rw [if_neg (fun h => hk8 h.2)] at hC
      exact pC_false (w_whole6 ht1 ht2 hl60 him hi (by exact e1) (by exact e2) (by exact e7) (by exact e9) (by exact e10) (by exact e15) hf2 hI2 hH2 hC ok hin)
  · rw [if_neg (fun h => h0 h.1)] at hC
    refine s_eqi_f h0 ?_
    repeat (first | refine pG_sk ?_ | refine pG_skf ?_ | refine pG_un ?_ | refine pG_yes rfl ?_)
    refine s_pick_f (pC_false ?_)
    exact w_whole6 ht1 ht2 hl60 him hi (by exact e1) (by exact e2) (by exact e7) (by exact e9) (by exact e10) (by exact e15) hf hI hH hC ok hin
end
end Go.Proofs.Ytcdcojpfealppaa
/- DiskWhole, walked: the loop's body. -/
set_option linter.unusedVariables false
set_option linter.unusedSimpArgs false
set_option maxRecDepth 100000
namespace Go.Proofs.Ytcdcojpfealppaa
open Go Go.Proofs Go.RowKit Go.Proofs.XRed Go.Proofs.XHeap Go.Proofs.XMaps Go.Proofs.XSlices Go.Proofs.XDisk Go.Proofs.XCalls Go.Proofs.XRange Go.Proofs.XKeys Go.Proofs.XHeld
section
variable {W w w' w0 : World} {B R D : Nat} {S T : AD} {lv : Value} {hl : Helds} {kt : Nat} {k : Value → World → Prop}
theorem FilesIn.mono {K K' : Nat → Prop} {v : Value} {fs : List (ByteArray × Bytes)} (h : FilesIn w K v fs) (hm : ∀ b, K b → K' b) : FilesIn w K' v fs := by
  obtain ⟨ps, h1, h2, h3⟩ := h
  exact ⟨ps, all2_imp h1 fun f p ⟨a, b, c⟩ => ⟨a, b, fun i hi => ⟨hm i (c i hi).1, (c i hi).2⟩⟩, h2, fun i hi => hm i (h3 i hi)⟩
/-- Behind a crash: the names anew. -/
theorem w_whole2 {v : Value} {l : Script} {times : Int} {m i xb : Nat} {x : StepA} {dv xpv : Value} (ht1 : -1000 ≤ times) (ht2 : times ≤ 1000) (hl60 : l.length ≤ 60) (him : i + m = l.length) (hi : i < l.length) {Kf : Nat → Prop} {fv : Value} (hk12 : x.kind = 12) (hfl : T.files.length ≤ 256)
    {ρ : Env} {w' : World} (e1 : ρ 1 = v) (e2 : ρ 2 = i64 times) (e7 : ρ 7 = ptr D) (e9 : ρ 9 = ptr R) (e10 : ρ 10 = i64 i) (e11 : ρ 11 = ptr xb) (e14 : ρ 14 = i64 0) (e15 : ρ 15 = fv) (e16 : ρ 16 = i64 0) (hf : FilesIn w' Kf fv T.files) (hI : Is1 W w' D T (fun b => hown R (.slice none 0 0) b ∨ Kf b)) (hH : HRep w' W.heap.size R (.slice none 0 0) [] 0)
    (hdis : ∀ b, Kf b → b ≠ R) (hKlow : ∀ b, Kf b → W.heap.size ≤ b) (hKx : Kf xb) (hx : w'.heap[xb]? = some (.cells (stepArr x dv xpv) 59 (0, 0))) (hdv : SBytes W dv x.data) (hdl : x.data.length ≤ 100000)
    (hC : Counts T (T.files.map fun f => (f.1, 0)) 0) (ok : T.Ok (i + 1)) (hin : T.Inj) :
    F7L2 k (fun ρ' w' => ∃ m', m' < m ∧ ∃ (i : Nat) (S : AD) (R : Nat) (lv : Value) (hl : Helds) (kt : Nat), i + m' = l.length ∧ ρ' 1 = v ∧ ρ' 2 = i64 times ∧ ρ' 7 = ptr D ∧ ρ' 9 = ptr R ∧ ρ' 10 = i64 i ∧ Is1 W w' D S (hown R lv) ∧ HRep w' W.heap.size R lv hl kt ∧ Counts S hl kt ∧ S.Ok i ∧ S.Inj) ρ w' := by
  refine F7L2_inv (m := T.files.length) k (fun ρ' w' => ∃ m', m' < m ∧ ∃ (i : Nat) (S : AD) (R : Nat) (lv : Value) (hl : Helds) (kt : Nat), i + m' = l.length ∧ ρ' 1 = v ∧ ρ' 2 = i64 times ∧ ρ' 7 = ptr D ∧ ρ' 9 = ptr R ∧ ρ' 10 = i64 i ∧ Is1 W w' D S (hown R lv) ∧ HRep w' W.heap.size R lv hl kt ∧ Counts S hl kt ∧ S.Ok i ∧ S.Inj) (fun m2 ρ w' => ∃ (j : Nat) (lv : Value), j + m2 = T.files.length ∧ ρ 1 = v ∧ ρ 2 = i64 times ∧ ρ 7 = ptr D ∧ ρ 9 = ptr R ∧ ρ 10 = i64 i ∧ ρ 11 = ptr xb ∧ ρ 14 = i64 0 ∧ ρ 15 = fv ∧ ρ 16 = i64 j ∧ FilesIn w' Kf fv T.files ∧ Is1 W w' D T (fun b => hown R lv b ∨ Kf b) ∧
      HRep w' W.heap.size R lv ((T.files.take j).map fun f => (f.1, 0)) 0 ∧ (∀ b, Kf b → ¬ hown R lv b) ∧ w'.heap[xb]? = some (.cells (stepArr x dv xpv) 59 (0, 0))) ?_
    ⟨0, _, by omega, e1, e2, e7, e9, e10, e11, e14, e15, e16, hf, hI, hH, fun b hb hn => hn.elim (hdis b hb) fun h => by (cases h), hx⟩
  rintro m2 ρ w' ⟨j, lv, hjm, e1, e2, e7, e9, e10, e11, e14, e15, e16, hf, hI, hH, hdis, hx⟩
  rw [F7_2_eq]
  unfold F7_2
  rw [e9, e15, e16]
  obtain ⟨A, cc, ev⟩ : ∃ A cc, fv = .slice A T.files.length cc := by obtain ⟨ps, _, h, _⟩ := hf; obtain ⟨A, c, e, _⟩ := Src.of_own h; exact ⟨A, c, e⟩
  have hlenv : ∀ {w' : World} {K : Value → World → Prop}, K (i64 T.files.length) w' → px P (bSem .len #[37] 3 #[fv]) w' K := by
    intro w' K hK
    rw [ev]
    exact s_len usl37 hK
  refine hlenv ?_
  by_cases hj : j < T.files.length
  · refine s_lt_t (by omega) (pC_true ?_)
    have fd : Fr no w' w'.drew := Fr.drew _ _
    have hd := hH.fr fd fun b _ => id
    have hfd := hf.fr fd fun _ _ h => h
    have hId := hI.quiet fd
    have hxd := fd.get hx id
    obtain ⟨ps, hps, hrow, hKv⟩ := hfd
    have hfd : FilesIn w'.drew Kf fv T.files := ⟨ps, hps, hrow, hKv⟩
    obtain ⟨b, o, c', dd, ev', g0, _, _⟩ := files_at hfd.toV hj
    have hix : ∀ {w' : World} {K : Value → World → Prop}, K (.pointer (some ⟨b, o + j * 2, none⟩)) w' → px P (Instr.indexAt 37 fv (i64 j)) w' K := by
      intro w' K hK
      rw [ev']
      exact s_ix (i := (j : Int)) usl37 (sze37 _) (by omega) (by omega) hK
    have hbK : Kf b := hKv b (by rw [ev']; rfl)
    have hblt : b < w'.drew.heap.size := World.block_lt_of_cell? w'.drew ⟨b, o + j * 2, none⟩ g0
    refine ⟨fun w_ => w_.heap[R]? = some (.cells #[lv, i64 0] 73 (0, 0)) ∧ w_.cell? ⟨b, o + j * 2, none⟩ = some (.string T.files[j].1), ⟨hd.blk, g0⟩, ?_⟩
    refine q_of _ (fun w_ hS => s_nil ⟨rfl, rfl⟩) ?_
    refine q_of _ (fun w_ hS => fa73_0 ⟨rfl, rfl⟩) ?_
    refine q_of lv (fun w_ hS => s_ldb (v := lv) (Try.isAgg71 _) hS.1 rfl ⟨rfl, rfl⟩) ?_
    refine q_of _ (fun w_ hS => hix ⟨rfl, rfl⟩) ?_
    refine q_of _ (fun w_ hS => fa52_0 ⟨rfl, rfl⟩) ?_
    refine q_of (.string T.files[j].1) (fun w_ hS => s_ld (v := .string T.files[j].1) (Try.isAgg9 _) hS.2 ⟨rfl, rfl⟩) ?_
    refine q_of (.agg #[.string T.files[j].1, i64 0]) (fun w_ hS => px_ok (w' := w_) (v := .agg #[.string T.files[j].1, i64 0]) (by kernel_rfl) ⟨rfl, rfl⟩) ?_
    have f5 : Fr no w'.drew (w'.drew.alloc (.cells #[.string T.files[j].1, i64 0] 75)) := Fr.alloc ..
    have hcell : ∀ {M : Nat → Prop} {w1 w2 : World}, Fr M w1 w2 → b < w1.heap.size → ¬ M b → w1.cell? ⟨b, o + j * 2, none⟩ = some (.string T.files[j].1) → w2.cell? ⟨b, o + j * 2, none⟩ = some (.string T.files[j].1) := fun hf hlt hn hc => by
      rw [World.cell?_of_block (hf.block b hlt hn)]; exact hc
    refine px_ok (w' := w'.drew.alloc (.cells #[.string T.files[j].1, i64 0] 75)) (v := .slice (some ⟨w'.drew.heap.size, 0, none⟩) 1 1) (by kernel_rfl) ⟨⟨f5.get hd.blk id, hcell f5 hblt id g0⟩, ?_⟩
    have hll : ((T.files.take j).map fun f => (f.1, 0)).length ≤ 256 := by rw [List.length_map, List.length_take]; omega
    refine push hd hId.base.size (by omega) (T.files[j].1, 0) fun lv' w2 f2 hR2 hr2 hp2 hnb => ⟨⟨hR2, hcell f2 hblt (hdis b hbK) g0⟩, ?_⟩
    refine q_of _ (fun w_ hS => s_nil ⟨rfl, rfl⟩) ?_
    refine q_of _ (fun w_ hS => fa73_0 ⟨rfl, rfl⟩) ?_
    refine s_st (Try.sizeOf71 _) (row2_one hr2).1 (row2_one hr2).2 hR2 (by show 0 < 2; decide) ?_
    have f3 : Fr (fun b => b = R) w2 (w2.setCell ⟨R, 0, none⟩ lv') := Fr.setCell w2 ⟨R, 0, none⟩ lv'
    show px P _ (w2.setCell ⟨R, 0, none⟩ lv') _
    generalize w2.setCell ⟨R, 0, none⟩ lv' = w3 at *
    have f23 : Fr (hown R lv) w'.drew w3 := (f2.or f3).mono (by
      rintro b (hb | hb)
      · exact .inl hb
      · exact .inl (.inl hb))
    have hKlt : ∀ b, Kf b → b < w'.drew.heap.size := by obtain ⟨O, I, L, T1⟩ := hId; exact fun b hb => T1.klt b (.inr hb)
    have hown' : ∀ b, hown R lv' b → hown R lv b ∨ w'.drew.heap.size ≤ b := by
      rintro b (hb | hb)
      · exact .inl (.inl hb)
      · exact (hnb b hb).imp .inr id
    refine s_add_in (by omega) ?_
    refine ⟨m2 - 1, by omega, j + 1, lv', by omega, by exact e1, by exact e2, by exact e7, by exact e9, by exact e10, by exact e11, by exact e14, by exact e15, ?_, hfd.fr f23 (fun b hb hn => hdis b hb hn), ?_, ?_, ?_, ?_⟩
    · show i64 _ = i64 _; simp
    · refine hId.own (f23.mono fun b hb => .inl (.inl hb)) ?_ ?_ ?_
      · rintro b (hb | hb)
        · exact (hd.lt hb).1
        · exact hKlow b hb
      · rintro b (hb | hb)
        · exact (hown' b hb).imp .inl id
        · exact .inl (.inr hb)
      · rintro b (hb | hb)
        · exact (hp2.lt hb).2
        · have := hKlt b hb; have := f23.size; omega
    · rw [List.take_succ_eq_append_getElem hj, List.map_append]
      exact hp2
    · intro b hb hn
      rcases hown' b hn with h | h
      · exact hdis b hb h
      · have := hKlt b hb; omega
    · exact f23.get hxd fun hn => hdis _ hKx hn
  · refine s_lt_f (by omega) (pC_false ?_)
    have ej : j = T.files.length := by omega
    subst ej
    rw [List.take_of_length_le (Nat.le_refl _)] at hH
    rw [F7_5_eq]
    unfold F7_5
    show px P (binSem BinOp.eql 25 _ _ (ρ 14) _) w' _
    rw [e14]
    refine s_eqi_f (by decide) ?_
    repeat (first | refine pG_sk ?_ | refine pG_skf ?_ | refine pG_un ?_ | refine pG_yes rfl ?_)
    refine s_pick_f ?_
    repeat (first | refine pG_sk ?_ | refine pG_skf ?_ | refine pG_un ?_ | refine pG_yes rfl ?_)
    refine s_pick_f (pC_false ?_)
    refine w_whole3 (x := x) (dv := dv) (xpv := xpv) (r := 0) ht1 ht2 hl60 him hi (by exact e1) (by exact e2) (by exact e7) (by exact e9) (by exact e10) (by exact e11) (by exact e14) (by exact e15) hf hI hH hdis hKlow hx (hdv.fr hI.base fun _ _ h => h) hdl (fun _ => ?_) ?_ ok hin
    · obtain ⟨bl, bk, bu⟩ := counts_bds hC ok (by omega)
      exact ⟨hC.nd, bl, bk, bu⟩
    · rw [if_neg (fun h => by omega)]
      exact hC
set_option maxHeartbeats 1000000 in
theorem w_whole1 {v : Value} {l : Script} {times : Int} (ht1 : -1000 ≤ times) (ht2 : times ≤ 1000) (hv : ScriptV W v l) (hl60 : l.length ≤ 60) (hbd : ∀ p ∈ l, p.1.data.length ≤ 100000) (hk : ∀ w', Fr no W w' → k (.bool true) w')
    {ρ : Env} {w : World} (e1 : ρ 1 = v) (e2 : ρ 2 = i64 times) (e7 : ρ 7 = ptr D) (e9 : ρ 9 = ptr R) (e10 : ρ 10 = i64 0) (hI : Is1 W w D S (hown R lv)) (hH : HRep w W.heap.size R lv [] 0) (hC : Counts S [] 0) (ok : S.Ok 0) (hin : S.Inj) : F7L1 k ρ w := by
  refine F7L1_inv (m := l.length) k (fun m ρ' w' => ∃ (i : Nat) (S : AD) (R : Nat) (lv : Value) (hl : Helds) (kt : Nat), i + m = l.length ∧ ρ' 1 = v ∧ ρ' 2 = i64 times ∧ ρ' 7 = ptr D ∧ ρ' 9 = ptr R ∧ ρ' 10 = i64 i ∧ Is1 W w' D S (hown R lv) ∧ HRep w' W.heap.size R lv hl kt ∧ Counts S hl kt ∧ S.Ok i ∧ S.Inj) ?_
    ⟨0, S, R, lv, [], 0, by omega, e1, e2, e7, e9, e10, hI, hH, hC, ok, hin⟩
  clear hI hH hC ok hin e1 e2 e7 e9 e10
  rintro m ρ w ⟨i, S, R, lv, hl, kt, him, e1, e2, e7, e9, e10, hI, hH, hC0, ok, hin0⟩
  rw [F7_1_eq]
  unfold F7_1
  have hvw := hv.fr hI.base
  rw [e1, e7, e9, e10]
  refine s_lenS usl55 hvw.src ?_
  by_cases hi : i < l.length
  · refine s_lt_t (by omega) (pC_true ?_)
    refine s_stepVar hvw hi fun p w1 f1 z1 b1 => ?_
    have hdl : l[i].1.data.length ≤ 100000 := hbd _ (List.getElem_mem hi)
    have hsv : StepV W l[i].1 l[i].2.1 l[i].2.2 := hv.all _ (List.getElem_mem hi)
    generalize l[i].1 = x at *
    generalize l[i].2.1 = dv at *
    generalize l[i].2.2 = xpv at *
    have hdv := hsv.data
    have okT := ok.doStep (by omega) x
    have F := facts_do ok hin0 x
    obtain ⟨bl, bk, bu⟩ := counts_bds hC0 ok (by omega)
    have zW := hI.base.size
    -- the files before
    obtain ⟨O, I, L, T1⟩ := hI.quiet f1
    refine c_files sortsKeys T1.rep ok (shownMax ok) fun w2 was hwas f2 => ?_
    have f02 : Fr no w w2 := (f1.or f2).mono (by rintro b (hb | hb) <;> exact hb.elim)
    have b2 := f2.get b1 id
    have hH2 := hH.fr f02 fun b _ => id
    have hI2 : Is1 W w2 D S (fun b => hown R lv b ∨ (w.heap.size ≤ b ∧ b < w2.heap.size)) := by
      refine hI.own (f02.mono fun b hb => hb.elim) (fun b hb => (hH.lt hb).1) ?_ ?_
      · rintro b (hb | hb)
        · exact .inl hb
        · exact .inr hb.1
      · rintro b (hb | hb)
        · exact (hH2.lt hb).2
        · exact hb.2
    clear T1
    obtain ⟨O, I, L, T2⟩ := hI2
    refine c_off T2.rep.disk ok.room.1 ?_
    refine px_ok (run_ldStepB b2) ?_
    have hdo := next_do ok hin0 hC0 (x := x)
    have hk12 : x.kind = 12 → S.doStep x = (0, S.crash x.picks) := by
      intro h
      unfold AD.doStep
      rw [if_neg (by omega), if_neg (by omega), if_neg (by omega), if_neg (by omega), if_neg (by omega), if_neg (by omega), if_neg (by omega), if_neg (by omega), if_neg (by omega), if_neg (by omega), if_neg (by omega), if_pos h]
    refine c_do T2.rep ok (hsv.fr T2.fr) hdl fun w3 O' I' L' hx3 => ?_
    obtain ⟨hI3, f3⟩ := T2.is1 hx3
    have hkeep : ∀ b, (hown R lv b ∨ (w.heap.size ≤ b ∧ b < w2.heap.size)) → ¬ ¬ (hown R lv b ∨ (w.heap.size ≤ b ∧ b < w2.heap.size)) := fun b hb hn => hn hb
    clear T2 hx3
    have hin := F.inj
    clear F
    generalize hr : (S.doStep x).1 = r at *
    generalize hT : (S.doStep x).2 = T at *
    have b3 := f3.get b2 (hkeep _ (.inr ⟨Nat.le_refl _, by have := lt_of_get b2; omega⟩))
    have hwas3 : FilesV w3 w1.heap.size was S.files := filesV_keep hwas f3 fun b h1 h2 => hkeep b (.inr ⟨by omega, h2⟩)
    have hH3 := hH2.fr f3 fun b hb => hkeep b (.inl hb)
    obtain ⟨O, I, L, T3⟩ := hI3
    refine c_files sortsKeys T3.rep okT (shownMax okT) fun w4 fv h4 f4 => ?_
    have hI3 : Is1 W w3 D T (fun b => hown R lv b ∨ (w.heap.size ≤ b ∧ b < w2.heap.size)) := ⟨_, _, _, T3⟩
    clear T3
    have hz23 := f3.size
    have hz34 := f4.size
    have hz02 := f02.size
    obtain ⟨Kf, hKf⟩ : ∃ Kf : Nat → Prop, Kf = fun b => (w.heap.size ≤ b ∧ b < w2.heap.size) ∨ (w3.heap.size ≤ b ∧ b < w4.heap.size) := ⟨_, rfl⟩
    have hfc : FilesIn w4 Kf fv T.files := (filesIn_of h4).mono fun b hb => by rw [hKf]; exact .inr hb
    have hKlt : ∀ b, Kf b → w.heap.size ≤ b ∧ b < w4.heap.size := by
      intro b hb
      rw [hKf] at hb
      rcases hb with hb | hb <;> omega
    have hKlow : ∀ b, Kf b → W.heap.size ≤ b := fun b hb => by have := hKlt b hb; omega
    have hKc : ∀ b, Kf b → b < w4.heap.size := fun b hb => (hKlt b hb).2
    have hdis : ∀ b, Kf b → ¬ hown R lv b := fun b hb hn => by have := hKlt b hb; have := (hH.lt hn).2; omega
    have hKx : Kf w.heap.size := by rw [hKf]; exact .inl ⟨Nat.le_refl _, by have := lt_of_get b2; omega⟩
    have hIc : Is1 W w4 D T (fun b => hown R lv b ∨ Kf b) := by
      refine hI3.own (f4.mono fun b hb => hb.elim) ?_ ?_ ?_
      · rintro b (hb | hb)
        · exact (hH.lt hb).1
        · omega
      · rintro b (hb | hb)
        · exact .inl (.inl hb)
        · rw [hKf] at hb
          rcases hb with hb | hb
          · exact .inl (.inr hb)
          · exact .inr hb.1
      · rintro b (hb | hb)
        · have := (hH3.lt hb).2; omega
        · exact hKc b hb
    have hH4 := hH3.fr f4 fun b _ => id
    have b4 := f4.get b3 id
    have hwas4 := filesV_fr hwas3 f4
    have hdv4 : SBytes w4 dv x.data := hdv.fr hIc.base fun _ _ h => h
    refine fa59_0 (s_ldb (v := i64 x.kind) (Try.isAgg3 _) b4 rfl ?_)
    by_cases k12 : x.kind = 12
    · have e12 := hk12 k12
      have er0 : r = 0 := by rw [← hr, e12]
      have eT : T = S.crash x.picks := by rw [← hT, e12]
      have hfl : T.files.length ≤ 256 := by have := okT.turns.len.1; unfold AD.files; simpa using this
      refine s_eqi_t k12 (pC_true ?_)
      refine px_ok (w' := w4) (v := .agg #[.slice none 0 0, i64 0]) (by kernel_rfl) ?_
      refine s_box ?_
      have f5 := Fr.alloc no w4 (.cells #[.slice none 0 0, i64 0] 73)
      have b5 := alloc_new w4 (.cells #[.slice none 0 0, i64 0] 73)
      have z5 : (w4.alloc (.cells #[.slice none 0 0, i64 0] 73)).heap.size = w4.heap.size + 1 := by simp
      show F7L2 _ _ _ (w4.alloc (.cells #[.slice none 0 0, i64 0] 73))
      generalize w4.alloc (.cells #[.slice none 0 0, i64 0] 73) = w5 at *
      have hI5 : Is1 W w5 D T (fun b => hown w4.heap.size (.slice none 0 0) b ∨ Kf b) := by
        refine hIc.own (f5.mono fun b hb => hb.elim) ?_ ?_ ?_
        · rintro b (hb | hb)
          · exact (hH4.lt hb).1
          · exact hKlow b hb
        · rintro b ((hb | hb) | hb)
          · exact .inr (by omega)
          · cases hb
          · exact .inl (.inr hb)
        · rintro b ((hb | hb) | hb)
          · omega
          · cases hb
          · have := hKc b hb; omega
      have hCT : Counts T (T.files.map fun f => (f.1, 0)) 0 := by
        rw [eT] at okT ⊢
        have := Counts.crash okT
        unfold AD.files
        rw [List.map_map]
        exact this
      refine w_whole2 (x := x) (dv := dv) (xpv := xpv) (xb := w.heap.size) (fv := fv) (Kf := Kf) ht1 ht2 hl60 him hi k12 hfl (by exact e1) (by exact e2) (by exact e7) rfl (by exact e10) rfl ?_ rfl rfl (hfc.fr f5 fun _ _ h => h) hI5 ⟨b5, row2_nil, by have := hIc.base.size; omega⟩ (fun b hb hn => by have := hKc b hb; omega) hKlow hKx (f5.get b4 id) hdv hdl hCT okT hin
      show i64 r = i64 0
      rw [er0]
    refine s_eqi_f k12 (pC_false ?_)
    have hnext := hdo k12
    -- names that the pieces below use
    have hH := hH4
    have bx := b4
    have hdvc := hdv4
    have ok := okT
    obtain ⟨wc, hwc⟩ : ∃ wc, wc = w4 := ⟨_, rfl⟩
    by_cases h50 : r = 50
    · refine s_eqi_t h50 ?_
      repeat (first | refine pG_sk ?_ | refine pG_skf ?_ | refine pG_un ?_ | refine pG_yes rfl ?_)
      refine s_not ?_
      cases ho : S.off with
      | true =>
        refine s_pick_t ?_
        repeat (first | refine pG_sk ?_ | refine pG_skf ?_ | refine pG_un ?_ | refine pG_yes rfl ?_)
        refine s_pick_f (pC_false ?_)
        refine w_whole3 (x := x) (dv := dv) (xpv := xpv) (r := r) ht1 ht2 hl60 him hi (by exact e1) (by exact e2) (by exact e7) (by exact e9) (by exact e10) rfl (by first | rfl | exact e14) (by first | rfl | exact e15) hfc hIc hH hdis hKlow bx hdvc hdl (fun _ => ⟨hC0.nd, bl, bk, bu⟩) ?_ ok hin
        have hn := hnext (fun hh => by have h2 := hh.2.1; rw [ho] at h2; cases h2)
        unfold nextH at hn
        exact (by
          by_cases hcd : r = 0 ∧ 1 ≤ x.kind ∧ x.kind ≤ 8
          · rw [if_pos hcd]; rw [if_pos (.inr hcd)] at hn; exact hn
          · rw [if_neg hcd]; rw [if_neg (fun hh => hh.elim (fun hh => by have h2 := hh.2.1; rw [ho] at h2; cases h2) hcd)] at hn; exact hn)
      | false =>
        refine s_pick_t ?_
        repeat (first | refine pG_sk ?_ | refine pG_skf ?_ | refine pG_un ?_ | refine pG_yes rfl ?_)
        have hdT : w4.heap[D]? = some (.cells (dcells T (Classical.choose (Classical.choose_spec (Classical.choose_spec hIc)))) 93 (0, 0)) := (Classical.choose_spec (Classical.choose_spec (Classical.choose_spec hIc))).rep.disk
        refine c_off hdT ok.room.1 ?_
        refine s_pick_t ?_
        cases hoT : T.off with
        | false =>
          refine pC_false ?_
          refine w_whole3 (x := x) (dv := dv) (xpv := xpv) (r := r) ht1 ht2 hl60 him hi (by exact e1) (by exact e2) (by exact e7) (by exact e9) (by exact e10) rfl (by first | rfl | exact e14) (by first | rfl | exact e15) hfc hIc hH hdis hKlow bx hdvc hdl (fun _ => ⟨hC0.nd, bl, bk, bu⟩) ?_ ok hin
          have hn := hnext (fun hh => by have h2 := hh.2.2.1; rw [hoT] at h2; cases h2)
          unfold nextH at hn
          exact (by
            by_cases hcd : r = 0 ∧ 1 ≤ x.kind ∧ x.kind ≤ 8
            · rw [if_pos hcd]; rw [if_pos (.inr hcd)] at hn; exact hn
            · rw [if_neg hcd]; rw [if_neg (fun hh => hh.elim (fun hh => by have h2 := hh.2.2.1; rw [hoT] at h2; cases h2) hcd)] at hn; exact hn)
        | true =>
          refine pC_true ?_
          refine fa59_0 (s_ldb (v := i64 x.kind) (Try.isAgg3 _) bx rfl (s_eqi ?_))
          refine s_orF (want := (x.kind == 3)) bx rfl (fun K h => s_eqi h) fun _ _ _ => ?_
          refine s_andLen (n := x.data.length) bx rfl (by obtain ⟨A, c, e, _⟩ := hdvc.form; exact ⟨A, c, e⟩) fun _ _ _ _ => ?_
          refine s_andFiles h4 hwas4 (files_small ok).1 (files_small ok).2 fun _ _ _ w6 f6 => ?_
          by_cases hls : ((x.kind == 2) || (x.kind == 3)) = true ∧ x.data.length > 0 ∧ T.files = S.files
          · rw [hls.1, decide_eq_true hls.2.1, decide_eq_true hls.2.2]
            exact pC_true (c_known sortsKeys fun w7 f7 => hk w7 (fr_up (fr_up hIc.base f6 fun b hb => hb.elim) f7 fun b hb => hb.elim))
          have ebl : (((x.kind == 2) || (x.kind == 3)) && decide (x.data.length > 0) && decide (T.files = S.files)) = false := by
            cases hb1 : ((x.kind == 2) || (x.kind == 3)) with
            | false => rfl
            | true =>
              by_cases h2 : x.data.length > 0
              · by_cases h3 : T.files = S.files
                · exact absurd ⟨hb1, h2, h3⟩ hls
                · rw [decide_eq_false h3, Bool.and_false]
              · rw [decide_eq_false h2, Bool.and_false, Bool.false_and]
          rw [ebl]
          have hnl : ¬ loose S T r x := by
            rintro ⟨_, _, _, h4, h5, h6⟩
            refine hls ⟨?_, h5, h6⟩
            rcases h4 with h4 | h4 <;> simp [h4]
          refine pC_false ?_
          have hIc := hIc.quiet f6
          have hfc := hfc.fr f6 fun _ _ h => h
          have hH := hH.fr f6 fun b _ => id
          have bx := f6.get bx id
          have hdvc := hdvc.fr f6 fun _ _ h => h
          have hKc : ∀ b, Kf b → b < w6.heap.size := fun b hb => by have := hKc b hb; have := f6.size; omega
          clear hwc wc
          obtain ⟨wc, hwc⟩ : ∃ wc, wc = w6 := ⟨_, rfl⟩
          rw [← hwc] at hIc hfc hH bx hdvc hKc ⊢
          refine fa59_0 (s_ldb (v := i64 x.kind) (Try.isAgg3 _) bx rfl ?_)
          have hfS : S.files.length = S.shown.length := by unfold AD.files; simp
          have hfT : T.files.length = T.shown.length := by unfold AD.files; simp
          obtain ⟨Aw, cw, ew⟩ : ∃ A cc, was = .slice A S.files.length cc := by obtain ⟨ps, _, h, _⟩ := hwas; obtain ⟨A, c, e, _⟩ := Src.of_own h; exact ⟨A, c, e⟩
          obtain ⟨Af, cf, ef⟩ : ∃ A cc, fv = .slice A T.files.length cc := by obtain ⟨ps, _, h, _⟩ := h4; obtain ⟨A, c, e, _⟩ := Src.of_own h; exact ⟨A, c, e⟩
          have hlenw : ∀ {w' : World} {K : Value → World → Prop}, K (i64 S.files.length) w' → px P (bSem .len #[37] 3 #[was]) w' K := by
            intro w' K hK
            rw [ew]
            exact s_len usl37 hK
          have hlenf : ∀ {w' : World} {K : Value → World → Prop}, K (i64 T.files.length) w' → px P (bSem .len #[37] 3 #[fv]) w' K := by
            intro w' K hK
            rw [ef]
            exact s_len usl37 hK
          by_cases k7 : x.kind = 7
          · refine s_nei_f k7 ?_
            repeat (first | refine pG_sk ?_ | refine pG_skf ?_ | refine pG_un ?_ | refine pG_yes rfl ?_)
            refine s_pick_f ?_
            repeat (first | refine pG_sk ?_ | refine pG_skf ?_ | refine pG_un ?_ | refine pG_yes rfl ?_)
            refine s_pick_f (pC_false ?_)
            refine w_whole3 (x := x) (dv := dv) (xpv := xpv) (r := r) ht1 ht2 hl60 him hi (by exact e1) (by exact e2) (by exact e7) (by exact e9) (by exact e10) rfl (by first | rfl | exact e14) (by first | rfl | exact e15) hfc hIc hH hdis hKlow bx hdvc hdl (fun _ => ⟨hC0.nd, bl, bk, bu⟩) ?_ ok hin
            have hn := hnext hnl
            unfold nextH at hn
            exact (by
              by_cases hcd : r = 0 ∧ 1 ≤ x.kind ∧ x.kind ≤ 8
              · rw [if_pos hcd]; rw [if_pos (.inr hcd)] at hn; exact hn
              · rw [if_neg hcd]; rw [if_neg (fun hh => hh.elim (fun hh => hh.2.2.2.1 k7) hcd)] at hn; exact hn)
          refine s_nei_t k7 ?_
          repeat (first | refine pG_sk ?_ | refine pG_skf ?_ | refine pG_un ?_ | refine pG_yes rfl ?_)
          refine fa59_0 ?_
          repeat (first | refine pG_sk ?_ | refine pG_skf ?_ | refine pG_un ?_ | refine pG_yes rfl ?_)
          refine s_ldb (v := i64 x.kind) (Try.isAgg3 _) bx rfl ?_
          repeat (first | refine pG_sk ?_ | refine pG_skf ?_ | refine pG_un ?_ | refine pG_yes rfl ?_)
          by_cases k8 : x.kind = 8
          · refine s_nei_f k8 (s_pick_t ?_)
            repeat (first | refine pG_sk ?_ | refine pG_skf ?_ | refine pG_un ?_ | refine pG_yes rfl ?_)
            refine s_pick_f (pC_false ?_)
            refine w_whole3 (x := x) (dv := dv) (xpv := xpv) (r := r) ht1 ht2 hl60 him hi (by exact e1) (by exact e2) (by exact e7) (by exact e9) (by exact e10) rfl (by first | rfl | exact e14) (by first | rfl | exact e15) hfc hIc hH hdis hKlow bx hdvc hdl (fun _ => ⟨hC0.nd, bl, bk, bu⟩) ?_ ok hin
            have hn := hnext hnl
            unfold nextH at hn
            exact (by
              by_cases hcd : r = 0 ∧ 1 ≤ x.kind ∧ x.kind ≤ 8
              · rw [if_pos hcd]; rw [if_pos (.inr hcd)] at hn; exact hn
              · rw [if_neg hcd]; rw [if_neg (fun hh => hh.elim (fun hh => hh.2.2.2.2.1 k8) hcd)] at hn; exact hn)
          refine s_nei_t k8 (s_pick_t ?_)
          repeat (first | refine pG_sk ?_ | refine pG_skf ?_ | refine pG_un ?_ | refine pG_yes rfl ?_)
          refine fa59_0 ?_
          repeat (first | refine pG_sk ?_ | refine pG_skf ?_ | refine pG_un ?_ | refine pG_yes rfl ?_)
          refine s_ldb (v := i64 x.kind) (Try.isAgg3 _) bx rfl ?_
          repeat (first | refine pG_sk ?_ | refine pG_skf ?_ | refine pG_un ?_ | refine pG_yes rfl ?_)
          by_cases k1 : x.kind = 1
          · refine s_nei_f k1 ?_
            repeat (first | refine pG_sk ?_ | refine pG_skf ?_ | refine pG_un ?_ | refine pG_yes rfl ?_)
            refine hlenf ?_
            repeat (first | refine pG_sk ?_ | refine pG_skf ?_ | refine pG_un ?_ | refine pG_yes rfl ?_)
            refine hlenw ?_
            repeat (first | refine pG_sk ?_ | refine pG_skf ?_ | refine pG_un ?_ | refine pG_yes rfl ?_)
            by_cases hgt : (T.files.length : Int) > S.files.length
            · refine s_gt_t hgt ?_
              repeat (first | refine pG_sk ?_ | refine pG_skf ?_ | refine pG_un ?_ | refine pG_yes rfl ?_)
              refine s_pick_f (s_pick_t (pC_true ?_))
              refine px_ok (run_ldStepB bx) ?_
              refine c_rmade hH hIc.base.size hC0.nd (by omega) (by omega) (fun p hp => by have := bu p hp; omega) hdvc hdl fun w9 lv9 h9 f9 hb9 => ?_
              have hown9 : ∀ b, hown R lv9 b → hown R lv b ∨ wc.heap.size ≤ b := by
                rintro b (hb | hb)
                · exact .inl (.inl hb)
                · exact (hb9 b hb).imp .inr id
              have hI9 : Is1 W w9 D T (fun b => hown R lv9 b ∨ Kf b) := by
                refine hIc.own (f9.mono fun b hb => .inl (.inl hb)) ?_ ?_ ?_
                · rintro b (hb | hb)
                  · exact (hH.lt hb).1
                  · exact hKlow b hb
                · rintro b (hb | hb)
                  · exact (hown9 b hb).imp .inl id
                  · exact .inl (.inr hb)
                · rintro b (hb | hb)
                  · exact (h9.lt hb).2
                  · have := hKc b hb; have := f9.size; omega
              refine w_whole3 (x := x) (dv := dv) (xpv := xpv) (r := r) ht1 ht2 hl60 him hi (by exact e1) (by exact e2) (by exact e7) (by exact e9) (by exact e10) rfl (by first | rfl | exact e14) (by first | rfl | exact e15) (hfc.fr f9 fun b hb hn => hdis b hb hn) hI9 h9 (fun b hb hn => (hown9 b hn).elim (hdis b hb) fun h => by have := hKc b hb; omega) hKlow
                (f9.get bx fun hn => hdis _ hKx hn) (hdv.fr hI9.base fun _ _ h => h) hdl (fun h => absurd h (by omega)) ?_ ok hin
              rw [if_neg (fun h => by omega)]
              have hn := hnext hnl
              unfold nextH at hn
              rw [if_pos (.inl ⟨h50, ho, hoT, k7, k8, .inr (by omega)⟩)] at hn
              exact hn
            · refine s_gt_f hgt ?_
              repeat (first | refine pG_sk ?_ | refine pG_skf ?_ | refine pG_un ?_ | refine pG_yes rfl ?_)
              refine s_pick_f (s_pick_t (pC_false ?_))
              refine w_whole3 (x := x) (dv := dv) (xpv := xpv) (r := r) ht1 ht2 hl60 him hi (by exact e1) (by exact e2) (by exact e7) (by exact e9) (by exact e10) rfl (by first | rfl | exact e14) (by first | rfl | exact e15) hfc hIc hH hdis hKlow bx hdvc hdl (fun _ => ⟨hC0.nd, bl, bk, bu⟩) ?_ ok hin
              have hn := hnext hnl
              unfold nextH at hn
              exact (by
                by_cases hcd : r = 0 ∧ 1 ≤ x.kind ∧ x.kind ≤ 8
                · rw [if_pos hcd]; rw [if_pos (.inr hcd)] at hn; exact hn
                · rw [if_neg hcd]; rw [if_neg (fun hh => hh.elim (fun hh => hh.2.2.2.2.2.elim (fun h => h k1) (fun h => by omega)) hcd)] at hn; exact hn)
          · refine s_nei_t k1 ?_
            repeat (first | refine pG_sk ?_ | refine pG_skf ?_ | refine pG_un ?_ | refine pG_yes rfl ?_)
            refine s_pick_t (s_pick_t (pC_true ?_))
            refine px_ok (run_ldStepB bx) ?_
            refine c_rmade hH hIc.base.size hC0.nd (by omega) (by omega) (fun p hp => by have := bu p hp; omega) hdvc hdl fun w9 lv9 h9 f9 hb9 => ?_
            have hown9 : ∀ b, hown R lv9 b → hown R lv b ∨ wc.heap.size ≤ b := by
              rintro b (hb | hb)
              · exact .inl (.inl hb)
              · exact (hb9 b hb).imp .inr id
            have hI9 : Is1 W w9 D T (fun b => hown R lv9 b ∨ Kf b) := by
              refine hIc.own (f9.mono fun b hb => .inl (.inl hb)) ?_ ?_ ?_
              · rintro b (hb | hb)
                · exact (hH.lt hb).1
                · exact hKlow b hb
              · rintro b (hb | hb)
                · exact (hown9 b hb).imp .inl id
                · exact .inl (.inr hb)
              · rintro b (hb | hb)
                · exact (h9.lt hb).2
                · have := hKc b hb; have := f9.size; omega
            refine w_whole3 (x := x) (dv := dv) (xpv := xpv) (r := r) ht1 ht2 hl60 him hi (by exact e1) (by exact e2) (by exact e7) (by exact e9) (by exact e10) rfl (by first | rfl | exact e14) (by first | rfl | exact e15) (hfc.fr f9 fun b hb hn => hdis b hb hn) hI9 h9 (fun b hb hn => (hown9 b hn).elim (hdis b hb) fun h => by have := hKc b hb; omega) hKlow
              (f9.get bx fun hn => hdis _ hKx hn) (hdv.fr hI9.base fun _ _ h => h) hdl (fun h => absurd h (by omega)) ?_ ok hin
            rw [if_neg (fun h => by omega)]
            have hn := hnext hnl
            unfold nextH at hn
            rw [if_pos (.inl ⟨h50, ho, hoT, k7, k8, .inl k1⟩)] at hn
            exact hn
    · refine s_eqi_f h50 ?_
      repeat (first | refine pG_sk ?_ | refine pG_skf ?_ | refine pG_un ?_ | refine pG_yes rfl ?_)
      refine s_pick_f ?_
      repeat (first | refine pG_sk ?_ | refine pG_skf ?_ | refine pG_un ?_ | refine pG_yes rfl ?_)
      refine s_pick_f (pC_false ?_)
      refine w_whole3 (x := x) (dv := dv) (xpv := xpv) (r := r) ht1 ht2 hl60 him hi (by exact e1) (by exact e2) (by exact e7) (by exact e9) (by exact e10) rfl (by first | rfl | exact e14) (by first | rfl | exact e15) hfc hIc hH hdis hKlow bx hdvc hdl (fun _ => ⟨hC0.nd, bl, bk, bu⟩) ?_ ok hin
      have hn := hnext (fun hh => h50 hh.1)
      unfold nextH at hn
      exact (by
        by_cases hcd : r = 0 ∧ 1 ≤ x.kind ∧ x.kind ≤ 8
        · rw [if_pos hcd]; rw [if_pos (.inr hcd)] at hn; exact hn
        · rw [if_neg hcd]; rw [if_neg (fun hh => hh.elim (fun hh => h50 hh.1) hcd)] at hn; exact hn)
  · refine s_lt_f (by omega) (pC_false ?_)
    rw [F7_4_eq]
    unfold F7_4
    exact c_known sortsKeys fun w2 f2 => hk w2 (fr_up hI.base f2 fun b hb => hb.elim)
end
end Go.Proofs.Ytcdcojpfealppaa
/- DiskWhole, walked: the beginning. -/
set_option linter.unusedVariables false
set_option linter.unusedSimpArgs false
set_option maxRecDepth 100000
namespace Go.Proofs.Ytcdcojpfealppaa
open Go Go.Proofs Go.RowKit Go.Proofs.XRed Go.Proofs.XHeap Go.Proofs.XMaps Go.Proofs.XSlices Go.Proofs.XDisk Go.Proofs.XCalls Go.Proofs.XRange Go.Proofs.XKeys Go.Proofs.XHeld
section
variable {W : World} {k : Value → World → Prop}
/-- DiskWhole answers true, and what lay there before is as it was. -/
theorem w_whole {v : Value} {l : Script} {room times : Int} (hv : ScriptV W v l) (hk : ∀ w', Fr no W w' → k (.bool true) w') : pFn P 7 [i64 room, v, i64 times] W k := by
  refine F7_in _ _ _ _ _ ?_
  unfold F7_0
  refine c_long hv fun b w1 f1 hb => ?_
  cases b with
  | true =>
    repeat (first | refine pG_skf ?_ | refine pG_un ?_)
    refine s_pick_t ?_
    repeat (first | refine pG_skf ?_ | refine pG_un ?_)
    refine s_pick_t ?_
    repeat (first | refine pG_skf ?_ | refine pG_un ?_)
    refine s_pick_t ?_
    repeat (first | refine pG_skf ?_ | refine pG_un ?_)
    refine s_pick_t ?_
    repeat (first | refine pG_skf ?_ | refine pG_un ?_)
    exact s_pick_t (pC_true (hk w1 f1))
  | false =>
    obtain ⟨hl, hbd⟩ := hb rfl
    refine pG_yes rfl (pG_yes rfl (s_lenS usl55 (hv.fr f1).src (pG_yes rfl ?_)))
    by_cases h60 : l.length > 60
    · refine s_gt_t (by omega) (s_pick_f ?_)
      repeat (first | refine pG_skf ?_ | refine pG_un ?_)
      refine s_pick_t ?_
      repeat (first | refine pG_skf ?_ | refine pG_un ?_)
      refine s_pick_t ?_
      repeat (first | refine pG_skf ?_ | refine pG_un ?_)
      refine s_pick_t ?_
      repeat (first | refine pG_skf ?_ | refine pG_un ?_)
      exact s_pick_t (pC_true (hk w1 f1))
    refine s_gt_f (by omega) (s_pick_f (pG_yes rfl (pG_yes rfl ?_)))
    by_cases ht1 : times < -1000
    · refine s_lt_t ht1 (s_pick_f ?_)
      repeat (first | refine pG_skf ?_ | refine pG_un ?_)
      refine s_pick_t ?_
      repeat (first | refine pG_skf ?_ | refine pG_un ?_)
      refine s_pick_t ?_
      repeat (first | refine pG_skf ?_ | refine pG_un ?_)
      exact s_pick_t (pC_true (hk w1 f1))
    refine s_lt_f ht1 (s_pick_f (pG_yes rfl (pG_yes rfl ?_)))
    by_cases ht2 : times > 1000
    · refine s_gt_t ht2 (s_pick_f ?_)
      repeat (first | refine pG_skf ?_ | refine pG_un ?_)
      refine s_pick_t ?_
      repeat (first | refine pG_skf ?_ | refine pG_un ?_)
      exact s_pick_t (pC_true (hk w1 f1))
    refine s_gt_f ht2 (s_pick_f (pG_yes rfl (pG_yes rfl ?_)))
    by_cases h1 : room < 1
    · refine s_lt_t h1 (s_pick_f ?_)
      repeat (first | refine pG_skf ?_ | refine pG_un ?_)
      exact s_pick_t (pC_true (hk w1 f1))
    refine s_lt_f h1 (s_pick_f (pG_yes rfl (pG_yes rfl ?_)))
    by_cases h2 : room > 1048576
    · exact s_gt_t h2 (s_pick_f (pC_true (hk w1 f1)))
    refine s_gt_f h2 (s_pick_f (pC_false ?_))
    refine c_new (fun hbad => absurd (show 1 ≤ room ∧ room ≤ 1048576 by omega) hbad) fun hok w2 L2 d2 f2 => ?_
    have i2 := Is1.new f1 d2 f2
    refine s_ext rfl (s_ext rfl ?_)
    refine s_nei_f rfl (pG_yes rfl (pG_yes rfl (s_eqpn upt24 (s_pick_f (pC_false ?_)))))
    refine px_ok (w' := w2) (v := .agg #[.slice none 0 0, i64 0]) (by kernel_rfl) ?_
    refine s_box ?_
    have f3 := Fr.alloc no w2 (.cells #[.slice none 0 0, i64 0] 73)
    have b3 := alloc_new w2 (.cells #[.slice none 0 0, i64 0] 73)
    have z3 : (w2.alloc (.cells #[.slice none 0 0, i64 0] 73)).heap.size = w2.heap.size + 1 := by simp
    show F7L1 _ _ (w2.alloc (.cells #[.slice none 0 0, i64 0] 73))
    generalize w2.alloc (.cells #[.slice none 0 0, i64 0] 73) = w3 at *
    have hz := i2.base.size
    have i3 : Is1 W w3 (w1.heap.size + 2) (AD.new room) (hown w2.heap.size (.slice none 0 0)) := by
      refine i2.own (f3.mono fun b hb => hb.elim) (fun b hb => hb.elim) ?_ ?_
      · rintro b (hb | hb)
        · exact .inr (by omega)
        · cases hb
      · rintro b (hb | hb)
        · omega
        · cases hb
    exact w_whole1 (times := times) (by omega) (by omega) hv (by omega) (fun p hp => (hbd p hp).1) hk rfl rfl rfl rfl rfl i3 ⟨b3, row2_nil, hz⟩ (Counts.new room) (AD.Ok.new hok) (new_inj room)
end
end Go.Proofs.Ytcdcojpfealppaa
