/- List; names alike. -/
import Derived.Test.YtcdcojpfealppaaXSafe
import Derived.Test.YtcdcojpfealppaaDo
import Derived.Lib.SliceRun
set_option linter.unusedVariables false
set_option linter.unusedSimpArgs false
set_option maxRecDepth 100000
namespace Go.Proofs.Ytcdcojpfealppaa
open Go Go.Proofs Go.RowKit Go.Proofs.XRed Go.Proofs.XHeap Go.Proofs.XMaps Go.Proofs.XSlices Go.Proofs.XDisk Go.Proofs.XCalls Go.Proofs.XRange Go.Proofs.XKeys
/-- s begins with p. -/
def hasP (p s : ByteArray) : Bool := decide (p.size ≤ s.size) && decide (s.extract 0 p.size = p)
def AD.listA (S : AD) (p : ByteArray) : List ByteArray := if S.off then [] else (S.shown.map (·.1)).filter (hasP p)
section
variable {w w0 : World} {D : Nat} {S S' : AD} {O I : Nat → Prop} {L : Lay} {k : Value → World → Prop}
theorem s_cutS {s : ByteArray} {n : Int} (h0 : 0 ≤ n) (h1 : n ≤ s.size) (hk : k (.string (s.extract 0 n.toNat)) w) : px P (Instr.sliceAt 9 (.string s) none (some (i64 n)) none) w k :=
  px_ok ((run_sliceAt_string w 9 _ _ _ _ Try.underlying9).trans (run_slice_string_h w 9 s Try.underlying9 .i64 n h0 h1)) hk
theorem c_hasP (s p : ByteArray) (hk : k (.bool (hasP p s)) w) : pFn P 71 [.string s, .string p] w k := by
  refine F71_in _ _ _ _ ?_
  unfold F71_0
  refine F79_in _ _ _ _ ?_
  unfold F79_0
  refine s_lens Try.underlying9 (s_lens Try.underlying9 ?_)
  unfold hasP at hk
  by_cases h : p.size ≤ s.size
  · rw [decide_eq_true h, Bool.true_and] at hk
    refine s_ge_t (by omega) (pG_yes rfl (pG_yes rfl (pG_yes rfl (s_lens Try.underlying9 (pG_yes rfl (s_cutS (by omega) (by omega) (pG_yes rfl (pG_yes rfl (s_eqs (s_pick_t ?_)))))))))) 
    exact hk
  · rw [decide_eq_false h, Bool.false_and] at hk
    refine s_ge_f (by omega) ?_
    repeat (first | refine pG_sk ?_ | refine pG_un ?_)
    exact s_pick_f hk
theorem c_del {pb : Nat} {p : ByteArray} (s : ByteArray) (hb : w.heap[pb]? = some (.cells #[.string p] 9 (0, 0))) (hk : k (.bool (!hasP p s)) w) : pVal P (.func (.func 70) #[] #[ptr pb]) [.string s] w k := by
  show pFn P 70 [.string s, ptr pb] w k
  refine F70_in _ _ _ _ ?_
  unfold F70_0
  exact s_ldb (v := .string p) (Try.isAgg9 _) hb rfl (c_hasP s p (s_not hk))
theorem c_indexFunc {pb : Nat} {p : ByteArray} {v : Value} {names : List ByteArray} (hv : Src w v 1 names.length (names.map .string)) (hb : w.heap[pb]? = some (.cells #[.string p] 9 (0, 0))) (hl : names.length ≤ 4611686018427387904)
    (h0 : (∀ s ∈ names, hasP p s = true) → k (i64 (-1)) w) (h1 : ∀ i (hi : i < names.length), (∀ s ∈ names.take i, hasP p s = true) → hasP p names[i] = false → k (i64 i) w) : pFn P 78 [v, .func (.func 70) #[] #[ptr pb]] w k := by
  refine F78_in _ _ _ _ ?_
  unfold F78_0
  refine s_lenS usl22 hv ?_
  refine F78L1_inv (m := names.length) k (fun m ρ w' => ∃ i : Nat, i + m = names.length ∧ w' = w ∧ ρ 0 = v ∧ ρ 1 = .func (.func 70) #[] #[ptr pb] ∧ ρ 7 = i64 names.length ∧ ρ 8 = i64 i ∧ ∀ s ∈ names.take i, hasP p s = true) ?_
    ⟨0, by omega, rfl, rfl, rfl, rfl, rfl, fun s hs => by simp at hs⟩
  rintro m ρ w' ⟨i, him, hw, e0, e1, e7, e8, hall⟩
  subst hw
  rw [F78_1_eq]
  unfold F78_1
  rw [e0, e1, e7, e8]
  by_cases hi : i < names.length
  · refine s_lt_t (by omega) (pC_true ?_)
    refine s_elem (u := .string names[i]) usl22 (sze22 _) (Try.isAgg9 _) hv hi (by simp [hi]) fun _ => ?_
    refine c_del names[i] hb ?_
    cases hp : hasP p names[i] with
    | false => exact pC_true (h1 i hi hall hp)
    | true =>
      refine pC_false (s_add_in (by omega) ?_)
      refine ⟨m - 1, by omega, i + 1, by omega, rfl, e0, e1, e7, ?_, fun s hs => ?_⟩
      · show i64 _ = i64 _; simp
      · rw [List.take_succ_eq_append_getElem hi] at hs
        rcases List.mem_append.1 hs with hs | hs
        · exact hall s hs
        · rw [List.mem_singleton] at hs; subst hs; exact hp
  · refine s_lt_f (by omega) (pC_false ?_)
    rw [F78_2_eq]
    refine h0 fun s hs => hall s ?_
    rw [List.take_of_length_le (by omega)]; exact hs
theorem setCells_fr (b : Nat) : ∀ (vs : List Value) (o : Nat) (w : World), Fr (fun x => x = b) w (w.setCells b o vs) ∧ (w.setCells b o vs).heap.size = w.heap.size
  | [], _, w => ⟨Fr.refl _ _, rfl⟩
  | v :: r, o, w => by
    obtain ⟨h1, h2⟩ := setCells_fr b r (o + 1) (w.setCell ⟨b, o, none⟩ v)
    have h3 : Fr (fun x => x = b) w (w.setCell ⟨b, o, none⟩ v) := Fr.setCell w ⟨b, o, none⟩ v
    exact ⟨h3.trans h1 fun i hi => .inl hi, by show ((w.setCell ⟨b, o, none⟩ v).setCells b (o + 1) r).heap.size = _; rw [h2]; simp [World.setCell]⟩
theorem c_deleteFunc {pb : Nat} {p : ByteArray} {v : Value} {names : List ByteArray} (hv : w.ownsRow 0 9 1 v names.length (names.map .string)) (hb : w.heap[pb]? = some (.cells #[.string p] 9 (0, 0))) (hpb : sblk v ≠ some pb) (hl : names.length ≤ 1099511627776)
    (hk : ∀ w' v', Src w' v' 1 (names.filter (hasP p)).length ((names.filter (hasP p)).map .string) → (∀ b, sblk v' = some b → sblk v = some b) → Fr (fun b => sblk v = some b) w w' → w'.heap.size = w.heap.size → k v' w') : pFn P 69 [v, .func (.func 70) #[] #[ptr pb]] w k := by
  refine F69_in _ _ _ _ ?_
  unfold F69_0
  refine c_indexFunc (Src.of_own hv) hb (by omega) (fun hall => ?_) fun i0 hi0 hall hno => ?_
  · refine s_eqi_t rfl (pC_true (hk w v ?_ (fun b h => h) (Fr.refl _ _) rfl))
    rw [List.filter_eq_self.2 hall]; exact Src.of_own hv
  · refine s_eqi_f (by omega) (pC_false (s_add_in (by omega) ?_))
    obtain ⟨g, cap, rfl⟩ : ∃ g cap, v = .slice (some ⟨g, 0, none⟩) names.length cap := by
      rcases hv.2 with ⟨_, h0⟩ | ⟨g, cap, cur, e, _⟩
      · omega
      · exact ⟨g, cap, e⟩
    have hgp : g ≠ pb := fun e => hpb (by rw [e]; rfl)
    have hf0 : (names.take (i0 + 1)).filter (hasP p) = names.take i0 := by
      rw [List.take_succ_eq_append_getElem hi0, List.filter_append, List.filter_eq_self.2 hall]
      simp [hno]
    have hlen0 : (names.take i0).length = i0 := by simp; omega
    refine F69L1_inv (m := names.length - (i0 + 1)) k (fun m ρ w' => ∃ (i j : Nat) (xs : List Value), j + m = names.length ∧ i ≤ j ∧ i = ((names.take j).filter (hasP p)).length ∧ w'.ownsRow 0 9 1 (.slice (some ⟨g, 0, none⟩) names.length cap) names.length xs ∧
        xs.take i = ((names.take j).filter (hasP p)).map .string ∧ xs.drop j = (names.drop j).map .string ∧ Fr (fun b => b = g) w w' ∧ w'.heap.size = w.heap.size ∧ ρ 0 = .slice (some ⟨g, 0, none⟩) names.length cap ∧ ρ 1 = .func (.func 70) #[] #[ptr pb] ∧ ρ 5 = i64 i ∧ ρ 6 = i64 j) ?_
      ⟨i0, i0 + 1, names.map .string, by omega, by omega, by rw [hf0, hlen0], hv, by rw [hf0, List.map_take], by rw [List.map_drop], Fr.refl _ _, rfl, rfl, rfl, rfl, by show i64 _ = i64 _; simp⟩
    rintro m ρ w' ⟨i, j, xs, hjm, hij, hi, hrow, htake, hdrop, hf, hz, e0, e1, e5, e6⟩
    rw [F69_1_eq]
    unfold F69_1
    rw [e0, e1, e5, e6]
    have hS := Src.of_own hrow
    refine s_len usl22 ?_
    have hxl : xs.length = names.length := by have := hrow.1; simpa using this
    by_cases hj : j < names.length
    · refine s_lt_t (by omega) (pC_true ?_)
      have hxj : xs[j]? = some (.string names[j]) := by
        have h1 : (xs.drop j)[0]? = ((names.drop j).map Value.string)[0]? := by rw [hdrop]
        rw [List.getElem?_drop] at h1
        simpa [hj] using h1
      refine s_elem usl22 (sze22 _) (Try.isAgg9 _) hS hj hxj fun _ => ?_
      refine c_del names[j] (hf.get hb fun e => hgp (show pb = g from e).symm) ?_
      have hft : (names.take (j + 1)).filter (hasP p) = (names.take j).filter (hasP p) ++ (if hasP p names[j] then [names[j]] else []) := by
        rw [List.take_succ_eq_append_getElem hj, List.filter_append]
        congr 1
        cases hq : hasP p names[j] <;> simp [hq]
      cases hp : hasP p names[j] with
      | true =>
        rw [hp] at hft
        simp only [if_true] at hft
        refine s_not (pC_true ?_)
        refine s_ix (i := (i : Int)) usl22 (sze22 _) (by omega) (by omega) ?_
        obtain ⟨g', cap', cur, e', _, hg, _, _, hcs, _⟩ := hrow.2.resolve_left (by rintro ⟨h, _⟩; cases h)
        simp only [Value.slice.injEq, Option.some.injEq, Addr.mk.injEq, and_true, true_and] at e'
        obtain ⟨rfl, rfl⟩ := e'
        have hcap : names.length ≤ cap := by obtain ⟨A, c, e, hc, _⟩ := hS; injection e
        have ei : 0 + (i : Int).toNat * 1 = i := by simp
        rw [ei]
        refine s_st (Try.sizeOf9 _) rfl rfl hg (by omega) ?_
        obtain ⟨hrow2, hgr⟩ := hrow.stored i (.string names[j])
        have f2 : Fr (fun b => b = g) w' (w'.setCell ⟨g, i, none⟩ (.string names[j])) := Fr.setCell w' ⟨g, i, none⟩ _
        have z2 : (w'.setCell ⟨g, i, none⟩ (.string names[j])).heap.size = w'.heap.size := by simp [World.setCell]
        refine s_add_in (by omega) ?_
        rw [F69_2_eq]
        unfold F69_2
        show px P (binSem BinOp.add 3 (Operand.tmp 20) (Operand.const (Value.int IntKind.i64 1)) (ρ 6) (Value.int IntKind.i64 1)) _ _
        rw [e6]
        refine s_add_in (by omega) ?_
        refine ⟨m - 1, by omega, i + 1, j + 1, xs.set i (.string names[j]), by omega, by omega, by rw [hft]; simp [hi], hrow2, ?_, ?_, (hf.or f2).mono (by rintro b (hb | hb) <;> exact .inl hb), by omega, e0, e1, ?_, ?_⟩
        · rw [hft, List.map_append, ← htake]
          have hix : i < xs.length := by omega
          rw [List.take_succ_eq_append_getElem (by simpa using hix)]
          simp [List.take_set_of_le]
        · rw [List.drop_set_of_lt (by omega), ← List.drop_drop, hdrop, ← List.map_drop, List.drop_drop]
        · show i64 _ = i64 _; simp
        · show i64 _ = i64 _; simp
      | false =>
        rw [hp] at hft
        simp only [Bool.false_eq_true, if_false, List.append_nil] at hft
        refine s_not (pC_false ?_)
        rw [F69_2_eq]
        unfold F69_2
        show px P (binSem BinOp.add 3 (Operand.tmp 20) (Operand.const (Value.int IntKind.i64 1)) (ρ 6) (Value.int IntKind.i64 1)) _ _
        rw [e6]
        refine s_add_in (by omega) ?_
        refine ⟨m - 1, by omega, i, j + 1, xs, by omega, by omega, by rw [hft]; exact hi, hrow, by rw [hft]; exact htake, ?_, hf, hz, e0, e1, e5, ?_⟩
        · rw [← List.drop_drop, hdrop, ← List.map_drop, List.drop_drop]
        · show i64 _ = i64 _; simp
    · refine s_lt_f (by omega) (pC_false ?_)
      rw [F69_3_eq]
      unfold F69_3
      show px P (Instr.sliceAt 22 (ρ 0) (some (ρ 5)) none none) w' _
      rw [e0, e5]
      have hjn : j = names.length := by omega
      subst hjn
      rw [List.take_of_length_le (Nat.le_refl _)] at hi htake
      have hcap : names.length ≤ cap := by obtain ⟨A, c, e, hc, _⟩ := hS; injection e with _ _ e3; omega
      refine s_sl_l usl22 (sze22 _) (by omega) (by omega) ?_
      have hilt : i < names.length := by
        have h1 : ((names.filter (hasP p)).length) < names.length := by
          rcases Nat.lt_or_ge (names.filter (hasP p)).length names.length with h' | h'
          · exact h'
          · have e := List.Sublist.eq_of_length (List.filter_sublist (l := names) (p := hasP p)) (Nat.le_antisymm (List.length_filter_le _ _) h')
            have := List.filter_eq_self.1 e _ (List.getElem_mem hi0)
            rw [hno] at this; cases this
        omega
      have hne : ¬ cap = (i : Int).toNat := by omega
      have esl : sliced (some ⟨g, 0, none⟩) (i : Int).toNat names.length cap 1 = .slice (some ⟨g, i, none⟩) (names.length - i) (cap - i) := by
        unfold sliced
        rw [if_neg hne]
        simp [add_at]
      rw [esl]
      refine px_ok (Lib.run_clear_slice w' 22 9 0 (.string (ByteArray.mk #[])) Try.underlying22 Try.zeroValue9 rfl rfl g i (names.length - i) (cap - i) (by omega) (fun q hq => ?_) fun q hq => hrow.frozenAt _) ?_
      · rw [hrow.cellAt (i + q) (by omega)]
        simp; omega
      · obtain ⟨f3, z3⟩ := setCells_fr g (List.replicate (names.length - i) (.string (ByteArray.mk #[]))) i w'
        have hcell : ∀ q u, (xs.take i)[q]? = some u → (w'.setCells g i (List.replicate (names.length - i) (.string (ByteArray.mk #[])))).cell? ⟨g, q, none⟩ = some u := by
          intro q u hq
          have hql : q < i := by have := (List.getElem?_eq_some_iff.1 hq).1; simp at this; omega
          rw [World.cell?_setCells_out g _ i w' ⟨g, q, none⟩ fun _ _ => .inl hql, hrow.cellAt q (by omega)]
          rwa [List.getElem?_take_of_lt hql] at hq
        generalize w'.setCells g i (List.replicate (names.length - i) (.string (ByteArray.mk #[]))) = w3 at *
        show px P (Instr.sliceAt 22 (ρ 0) none (some (ρ 5)) none) w3 _
        rw [e0, e5]
        refine s_sl_h usl22 (sze22 _) (by omega) (by omega) (hk w3 _ ?_ (fun b h => h) ?_ (by omega))
        · rw [← hi]
          refine ⟨some ⟨g, 0, none⟩, cap, by simp, by omega, by simp [hi], fun _ => ⟨g, 0, rfl, fun q u hq => ?_⟩⟩
          rw [Nat.zero_add]
          exact hcell q u (by rw [htake]; exact hq)
        · refine (hf.or f3).mono ?_
          rintro b (hb' | hb')
          · exact .inl (by rw [show b = g from hb']; rfl)
          · exact .inl (by rw [show b = g from hb']; rfl)
theorem c_list {c : Nat} (h : DRep w D S O I L) (ok : S.Ok c) (p : ByteArray) (hk : ∀ w' v, Src w' v 1 (AD.listA S p).length ((AD.listA S p).map .string) → (∀ b, sblk v = some b → w.heap.size ≤ b ∧ b < w'.heap.size) → Fr no w w' → k v w') : pFn P 39 [ptr D, .string p] w k := by
  refine F39_in _ _ _ _ ?_
  unfold F39_0
  refine s_box ?_
  have f1 := Fr.alloc no w (.cells #[.string p] 9)
  have b1 := alloc_new w (.cells #[.string p] 9)
  have z1 : (w.alloc (.cells #[.string p] 9)).heap.size = w.heap.size + 1 := by simp
  show pFn P _ _ (w.alloc (.cells #[.string p] 9)) _
  generalize w.alloc (.cells #[.string p] 9) = w1 at *
  have h1 := h.fr f1 fun b hb => hb.elim
  refine c_off h1.disk ok.room.1 ?_
  unfold AD.listA at hk
  cases ho : S.off with
  | true =>
    rw [ho] at hk
    exact pC_true (hk w1 _ (Src.nil _ _) (fun b hb => by cases hb) f1)
  | false =>
    rw [ho] at hk
    simp only [Bool.false_eq_true, if_false] at hk
    refine pC_false (s_nil (fa93_1 (s_ldb (v := .map (some L.sh)) (Try.isAgg90 _) h1.disk rfl ?_)))
    have hlen := ok.turns.len.1
    refine c_sorted sortsKeys h1.sh h1.shp ok.shown (fun q hq => by have := ok.shownNames q hq; unfold maxLen; omega) (by omega) fun w2 v hv hvb f2 => ?_
    refine s_mkf ?_
    have e1 : nameVals S.shown = (S.shown.map (·.1)).map .string := by unfold nameVals; rw [List.map_map]; rfl
    have e2 : S.shown.length = (S.shown.map (·.1)).length := by simp
    rw [e1, e2] at hv
    refine c_deleteFunc hv (f2.get b1 id) (fun e => by have := hvb _ e; omega) (by rw [← e2]; omega) fun w3 v' hS hb3 f3 z3 => ?_
    refine hk w3 v' hS (fun b hb => ?_) ((f1.or f2).or f3 |>.mono ?_)
    · have h5 := hb3 b hb
      have h6 := hvb b h5
      have h7 := (own_blk_lt hv h5).2
      omega
    · rintro b ((hb | hb) | hb)
      · exact hb.elim
      · exact hb.elim
      · have := hvb b hb; right; omega
end
end Go.Proofs.Ytcdcojpfealppaa
