/- Used; a new disk. -/
import Derived.Test.YtcdcojpfealppaaXRange
import Derived.Test.YtcdcojpfealppaaAdd
set_option linter.unusedVariables false
set_option linter.unusedSimpArgs false
set_option maxRecDepth 100000
namespace Go.Proofs.Ytcdcojpfealppaa
open Go Go.Proofs Go.RowKit Go.Proofs.XRed Go.Proofs.XHeap Go.Proofs.XMaps Go.Proofs.XSlices Go.Proofs.XDisk Go.Proofs.XCalls Go.Proofs.XRange
theorem perm_map_inv {α β : Type} {f : α → β} {a m : List β} (h : a.Perm m) : ∀ l : List α, a = l.map f → ∃ l' : List α, l.Perm l' ∧ m = l'.map f := by
  induction h with
  | nil => intro l e; exact ⟨l, .refl _, e⟩
  | cons x h ih =>
    intro l e
    cases l with
    | nil => cases e
    | cons y l =>
      simp only [List.map_cons, List.cons.injEq] at e
      obtain ⟨l', h1, h2⟩ := ih l e.2
      exact ⟨y :: l', .cons y h1, by simp [e.1, h2]⟩
  | swap x y l =>
    intro m e
    match m, e with
    | [], e => cases e
    | [a], e => simp at e
    | a :: b :: m, e =>
      simp only [List.map_cons, List.cons.injEq] at e
      exact ⟨b :: a :: m, .swap .., by simp [e.1, e.2.1, e.2.2]⟩
  | trans h1 h2 ih1 ih2 =>
    intro l e
    obtain ⟨l1, p1, e1⟩ := ih1 l e
    obtain ⟨l2, p2, e2⟩ := ih2 l1 e1
    exact ⟨l2, p1.trans p2, e2⟩
theorem mapVals_perm_cons {L : Lay} {l : Names} {p : ByteArray × Value} {r : List (ByteArray × Value)} (h : (mapVals L l).Perm (p :: r)) : ∃ q l', l.Perm (q :: l') ∧ p = (q.1, ptr (L.loc q.2)) ∧ r = mapVals L l' := by
  obtain ⟨m, h1, h2⟩ := perm_map_inv h l rfl
  cases m with
  | nil => cases h2
  | cons q l' =>
    simp only [List.map_cons, List.cons.injEq] at h2
    exact ⟨q, l', h1, h2.1, h2.2⟩
def usedOf (S : AD) (l : Names) : Nat := (l.map fun p => (S.things p.2).shown.length).sum
theorem usedOf_perm (S : AD) {l l' : Names} (h : l.Perm l') : usedOf S l = usedOf S l' := (h.map _).sum_nat
section
variable {w : World} {D : Nat} {S S' : AD} {O I : Nat → Prop} {L : Lay} {k : Value → World → Prop}
theorem c_used (h : DRep w D S O I L) (hr : 1 ≤ S.room) (hu : S.used ≤ 1152921504606846976) (hk : ∀ w', Fr no w w' → k (i64 S.used) w') : pFn P 32 [ptr D] w k := by
  refine F32_in _ _ _ ?_
  unfold F32_0
  refine c_none h.disk hr (pC_false ?_)
  refine s_nil (fa93_1 (s_ldb (v := .map (some L.sh)) (Try.isAgg90 _) h.disk rfl ?_))
  refine s_range h.sh Try.underlying90 fun w1 hi f1 z1 => ?_
  have hu0 : usedOf S L.lsh = S.used := usedOf_perm S h.shp
  refine F32L1_inv (m := L.lsh.length) k (fun m ρ w' => ∃ (rest : Names) (acc : Nat), m = rest.length ∧ Fr no w w' ∧ Iter w' w.heap.size L.sh (mapVals L L.lsh) (mapVals L rest) ∧ (∀ p ∈ rest, p ∈ L.lsh) ∧ ρ 3 = i64 acc ∧ ρ 12 = .pointer (some ⟨w.heap.size, 0, none⟩) ∧ acc + usedOf S rest = S.used) ?_
    ⟨L.lsh, 0, rfl, f1, hi, fun p hp => hp, rfl, rfl, by omega⟩
  rintro m ρ w' ⟨rest, acc, hm, hf, hit, hsub, h3, h12, hsum⟩
  rw [F32_1_eq]
  unfold F32_1
  rw [h3, h12]
  refine s_next hit (fun he => ?_) (fun p rest' w2 hp hit2 f2 z2 hent => ?_)
  · refine s_ext rfl (pC_false ?_)
    rw [F32_2_eq]
    unfold F32_2
    have : rest = [] := List.map_eq_nil_iff.1 he
    subst this
    have e : acc = S.used := by simpa [usedOf] using hsum
    show k (ρ 3) w'
    rw [h3, e]
    exact hk w' hf
  · refine s_ext rfl (pC_true ?_)
    refine hent _ ?_
    obtain ⟨q, l', hq, rfl, rfl⟩ := mapVals_perm_cons hp
    have hqm : q ∈ L.lsh := hsub q (hq.mem_iff.2 List.mem_cons_self)
    have hreach : reach S q.2 := .inl ⟨q.1, h.shp.mem_iff.1 hqm⟩
    have f02 : Fr no w w2 := (hf.or f2).mono (by rintro b (hb | hb); exact .inl hb; exact .inr (by omega))
    have hT := (h.things _ hreach).fr (O' := O) f02 (fun h => h) (fun _ _ h => h) (fun _ _ h => h)
    obtain ⟨sv, hv, cs, hb, h1, h2, _⟩ := hT.ex
    refine s_ext rfl (s_nil (fa101_1 (s_ldb (v := hv) (Try.isAgg30 _) hb rfl ?_)))
    obtain ⟨A, c, rfl, hc⟩ := h2.1.form
    have hs2 : usedOf S rest = (S.things q.2).shown.length + usedOf S l' := by rw [usedOf_perm S hq]; rfl
    refine s_len usl30 (s_add_in (by omega) ?_)
    refine ⟨l'.length, ?_, l', acc + (S.things q.2).shown.length, rfl, f02, hit2, ?_, ?_, h12, by omega⟩
    · rw [hm, hq.length_eq]; exact Nat.lt_succ_self _
    · intro p hp; exact hsub p (hq.mem_iff.2 (List.mem_cons_of_mem _ hp))
    · show i64 _ = i64 _; simp
theorem c_new {room : Int} (hb : ¬ (1 ≤ room ∧ room ≤ 1048576) → k (.tuple #[.pointer none, i64 1]) w)
    (hk : 1 ≤ room ∧ room ≤ 1048576 → ∀ w' L, DRep w' (w.heap.size + 2) (AD.new room) (fun b => w.heap.size ≤ b ∧ b < w'.heap.size) no L → Fr no w w' → k (.tuple #[ptr (w.heap.size + 2), i64 0]) w') : pFn P 9 [i64 room] w k := by
  refine F9_in _ _ _ ?_
  unfold F9_0
  by_cases h1 : room < 1
  · refine s_lt_t h1 (pG_skf (pG_skf (s_pick_t (pC_true (hb (by omega))))))
  · refine s_lt_f h1 (pG_yes rfl (pG_yes rfl ?_))
    by_cases h2 : room > 1048576
    · exact s_gt_t h2 (s_pick_f (pC_true (hb (by omega))))
    · refine s_gt_f h2 (s_pick_f (pC_false ?_))
      have g1 : Fr no w (w.alloc (.map #[] 0)) := Fr.alloc ..
      have m1 := SMap.made w
      have z1 : (w.alloc (.map #[] 0)).heap.size = w.heap.size + 1 := by simp
      refine mk90 ?_
      generalize w.alloc (.map #[] 0) = w1 at *
      have g2 : Fr no w1 (w1.alloc (.map #[] 0)) := Fr.alloc ..
      have m2 := SMap.made w1
      have z2 : (w1.alloc (.map #[] 0)).heap.size = w1.heap.size + 1 := by simp
      refine mk90 ?_
      have m1' := m1.fr g2 id
      generalize w1.alloc (.map #[] 0) = w2 at *
      let L : Lay := ⟨w.heap.size, w1.heap.size, fun _ => 0, fun _ => .slice none 0 0, .slice none 0 0, .slice none 0 0, [], []⟩
      refine px_ok (w' := w2) (v := .agg (dcells (AD.new room) L)) (by kernel_rfl) ?_
      refine s_box ?_
      have hd := alloc_new w2 (.cells (dcells (AD.new room) L) 93)
      have g3 : Fr no w2 (w2.alloc (.cells (dcells (AD.new room) L) 93)) := Fr.alloc ..
      have z3 : (w2.alloc (.cells (dcells (AD.new room) L) 93)).heap.size = w2.heap.size + 1 := by simp
      have e2 : w2.heap.size = w.heap.size + 2 := by omega
      show k (.tuple #[ptr w2.heap.size, i64 0]) (w2.alloc (.cells (dcells (AD.new room) L) 93))
      generalize w2.alloc (.cells (dcells (AD.new room) L) 93) = w3 at *
      rw [e2] at hd ⊢
      refine hk (by omega) w3 L ?_ (((g1.or g2).or g3).mono (by rintro b ((hb | hb) | hb) <;> exact hb.elim))
      have nor : ∀ t, ¬ reach (AD.new room) t := by rintro t (⟨n, h⟩ | ⟨n, h⟩ | ⟨n, h⟩) <;> cases h
      exact {
        disk := hd
        sh := m1'.fr g3 id
        shp := .refl _
        sf := m2.fr g3 id
        sfp := .refl _
        ne := by show w.heap.size ≠ w1.heap.size; omega
        row := ⟨rfl, .inl ⟨rfl, rfl⟩⟩
        reads := ⟨rfl, .inl ⟨rfl, rfl⟩⟩
        things := fun t ht => absurd ht (nor t)
        inj := fun t u ht => absurd ht (nor t)
        rows := fun t u ht => absurd ht (nor t)
        oD := ⟨by omega, by omega⟩
        osh := ⟨Nat.le_refl _, by show w.heap.size < _; omega⟩
        osf := ⟨by show _ ≤ w1.heap.size; omega, by show w1.heap.size < _; omega⟩
        orow := by rintro b hb; cases hb
        oreads := by rintro b hb; cases hb
        apart := fun b _ h => h
        lt := fun b hb => hb.elim (fun h => h.2) fun h => h.elim }
end
end Go.Proofs.Ytcdcojpfealppaa
