/- The scripts: long, total, spans, stroke. -/
import Derived.Laws.StructEq
import Derived.Test.YtcdcojpfealppaaDo
set_option linter.unusedVariables false
set_option linter.unusedSimpArgs false
set_option maxRecDepth 100000
namespace Go.Proofs.Ytcdcojpfealppaa
open Go Go.Proofs Go.RowKit Go.Proofs.XRed Go.Proofs.XHeap Go.Proofs.XMaps Go.Proofs.XSlices Go.Proofs.XDisk Go.Proofs.XCalls Go.Proofs.XRange Go.Proofs.XKeys
/-- A script that came in. -/
abbrev Script := List (StepA × Value × Value)
def scriptCells (l : Script) : List Value := l.flatMap fun p => stepCells p.1 p.2.1 p.2.2
structure ScriptV (W : World) (v : Value) (l : Script) : Prop where
  src : Src W v 10 l.length (scriptCells l)
  all : ∀ p ∈ l, StepV W p.1 p.2.1 p.2.2
theorem ScriptV.fr {W w : World} {v : Value} {l : Script} (h : ScriptV W v l) (hf : Fr no W w) : ScriptV w v l := ⟨h.src.fr (by omega) hf fun _ _ h => h, fun p hp => (h.all p hp).fr hf⟩
theorem ScriptV.at_ {W : World} {v : Value} {l : Script} (h : ScriptV W v l) {i : Nat} (hi : i < l.length) : ∃ b o c, v = .slice (some ⟨b, o, none⟩) l.length c ∧ ∀ j u, (stepCells l[i].1 l[i].2.1 l[i].2.2)[j]? = some u → W.cell? ⟨b, o + i * 10 + j, none⟩ = some u := by
  obtain ⟨b, o, c, e, hc⟩ := h.src.place hi (by omega)
  refine ⟨b, o, c, e, fun j u hj => ?_⟩
  have hlt : j < 10 := (List.getElem?_eq_some_iff.1 hj).1
  refine hc j u hlt ?_
  have := flatAt (f := fun p : StepA × Value × Value => stepCells p.1 p.2.1 p.2.2) (n := 10) (fun _ => rfl) (l := l) (i := i) (j := j) (a := l[i]) (by simp [hi]) hlt
  unfold scriptCells
  rw [this]; exact hj
section
variable {W w : World} {D : Nat} {S S' : AD} {O I : Nat → Prop} {L : Lay} {k : Value → World → Prop}
theorem c_long {v : Value} {l : Script} (h : ScriptV W v l) (hk : ∀ (b : Bool) w', Fr no W w' → (b = false → l.length ≤ 300 ∧ ∀ p ∈ l, p.1.data.length ≤ 100000 ∧ p.1.picks.length ≤ 12500) → k (.bool b) w') : pFn P 26 [v] W k := by
  refine F26_in _ _ _ ?_
  unfold F26_0
  refine s_lenS usl55 h.src ?_
  by_cases hl : l.length > 300
  · exact s_gt_t (by omega) (pC_true (hk true W (Fr.refl _ _) (fun h => by cases h)))
  refine s_gt_f (by omega) (pC_false ?_)
  refine F26L1_inv (m := l.length) k (fun m ρ w => ∃ (i : Nat) (n : Int), i + m = l.length ∧ Fr no W w ∧ ρ 0 = v ∧ ρ 3 = i64 n ∧ ρ 4 = i64 i ∧ 0 ≤ n ∧ n ≤ 100000 ∧ ∀ p ∈ l.take i, p.1.data.length ≤ 100000 ∧ p.1.picks.length ≤ 12500) ?_
    ⟨0, 0, by omega, Fr.refl _ _, rfl, rfl, rfl, by omega, by omega, fun p hp => by simp at hp⟩
  rintro m ρ w ⟨i, n, him, hf, e0, e3, e4, hn0, hn1, hall⟩
  rw [F26_1_eq]
  unfold F26_1
  rw [e0, e3, e4]
  refine s_lenS usl55 (h.fr hf).src ?_
  by_cases hi : i < l.length
  · refine s_lt_t (by omega) (pC_true ?_)
    have fd : Fr no w w.drew := Fr.drew _ _
    have ff : Fr no W w.drew := hf.trans fd fun b hb => .inl hb
    have hv := h.fr ff
    obtain ⟨b, o, c, ev, hc⟩ := hv.at_ hi
    have hs := hv.all _ (List.getElem_mem hi)
    have h5 := hc 5 _ rfl
    have h9 := hc 9 _ rfl
    have hdl := hs.dlen
    have hpl := hs.plen
    refine ⟨fun w' => w'.cell? ⟨b, o + i * 10 + 5, none⟩ = some l[i].2.1 ∧ w'.cell? ⟨b, o + i * 10 + 9, none⟩ = some l[i].2.2, ⟨h5, h9⟩, ?_⟩
    obtain ⟨A5, c5, ed, _⟩ := hs.data.form
    obtain ⟨A9, c9, ep, _⟩ : ∃ A c, l[i].2.2 = .slice A l[i].1.picks.length c ∧ l[i].1.picks.length ≤ c := by obtain ⟨A, c, e, hc, _⟩ := hs.picks; exact ⟨A, c, e, hc⟩
    rw [ev]
    refine q_of (.pointer (some ⟨b, o + i * 10, none⟩)) (fun w_ hS => s_ix (i := (i : Int)) usl55 (sze55 _) (by omega) (by omega) ⟨by simp, rfl⟩) ?_
    refine q_of _ (fun w_ hS => fa59_5 ⟨rfl, rfl⟩) (q_of l[i].2.1 (fun w_ hS => s_ld (Try.isAgg30 _) hS.1 ⟨rfl, rfl⟩) ?_)
    rw [ed]
    refine q_of _ (fun w_ hS => s_len usl30 ⟨rfl, rfl⟩) ?_
    refine q_of _ (fun w_ hS => s_add_in (by omega) ⟨rfl, rfl⟩) ?_
    refine q_of (.pointer (some ⟨b, o + i * 10, none⟩)) (fun w_ hS => s_ix (i := (i : Int)) usl55 (sze55 _) (by omega) (by omega) ⟨by simp, rfl⟩) ?_
    refine q_of _ (fun w_ hS => fa59_7 ⟨rfl, rfl⟩) (q_of l[i].2.2 (fun w_ hS => s_ld (Try.isAgg57 _) hS.2 ⟨rfl, rfl⟩) ?_)
    rw [ep]
    refine q_of _ (fun w_ hS => s_len usl57 ⟨rfl, rfl⟩) ?_
    refine q_of (i64 (8 * (l[i].1.picks.length : Int))) (fun w_ hS => s_mul (by rw [wrap_in (by omega)]; exact ⟨rfl, rfl⟩)) ?_
    refine q_of _ (fun w_ hS => s_add_in (by omega) ⟨rfl, rfl⟩) ?_
    by_cases hbig : n + l[i].1.data.length + 8 * (l[i].1.picks.length : Int) > 100000
    · exact s_gt_t hbig (pC_true (hk true _ ff (fun h => by cases h)))
    refine s_gt_f hbig (pC_false (s_add_in (by omega) ?_))
    refine ⟨m - 1, by omega, i + 1, _, by omega, ff, e0.trans ev, rfl, ?_, by omega, by omega, fun p hp => ?_⟩
    · show i64 _ = i64 _; simp
    · rw [List.take_succ_eq_append_getElem hi] at hp
      rcases List.mem_append.1 hp with hp | hp
      · exact hall p hp
      · rw [List.mem_singleton] at hp; subst hp; omega
  · refine s_lt_f (by omega) (pC_false ?_)
    rw [F26_2_eq]
    refine hk false w hf (fun _ => ⟨by omega, fun p hp => hall p ?_⟩)
    rw [List.take_of_length_le (by omega)]; exact hp
theorem filesV_keep {M : Nat → Prop} {B : Nat} {v : Value} {fs : List (ByteArray × Bytes)} {w' : World} (h : FilesV w B v fs) (hf : Fr M w w') (hn : ∀ b, B ≤ b → b < w.heap.size → ¬ M b) : FilesV w' B v fs := by
  obtain ⟨ps, h1, h2, h3⟩ := h
  refine ⟨ps, all2_imp h1 fun f p ⟨a, b, c⟩ => ⟨a, b.fr hf fun i hi => hn i (c i hi).1 (c i hi).2.1, fun i hi => ⟨(c i hi).1, Nat.lt_of_lt_of_le (c i hi).2.1 hf.size, (c i hi).2.2⟩⟩, own_fr h2 hf fun i hi => hn i (h3 i hi) (own_blk_lt h2 hi).2, h3⟩
def totalOf (fs : List (ByteArray × Bytes)) : Nat := (fs.map fun f => f.2.length).sum
theorem totalOf_take {fs : List (ByteArray × Bytes)} {i : Nat} (hi : i < fs.length) : totalOf (fs.take (i + 1)) = totalOf (fs.take i) + fs[i].2.length := by
  unfold totalOf
  rw [List.take_succ_eq_append_getElem hi, List.map_append, List.sum_append]; simp
theorem totalOf_le (fs : List (ByteArray × Bytes)) (i : Nat) : totalOf (fs.take i) ≤ totalOf fs := by
  have e : totalOf fs = totalOf (fs.take i) + totalOf (fs.drop i) := by
    unfold totalOf
    rw [← List.sum_append, ← List.map_append, List.take_append_drop]
  omega
theorem c_total {B : Nat} {v : Value} {fs : List (ByteArray × Bytes)} (hx : FilesV w B v fs) (hl : fs.length ≤ 4611686018427387904) (ht : totalOf fs ≤ 4611686018427387904) (hk : k (i64 (totalOf fs)) w) : pFn P 33 [v] w k := by
  refine F33_in _ _ _ ?_
  unfold F33_0
  obtain ⟨A1, c1, e1⟩ : ∃ A c, v = .slice A fs.length c := by obtain ⟨ps, _, h, _⟩ := hx; obtain ⟨A, c, e, _⟩ := Src.of_own h; exact ⟨A, c, e⟩
  refine F33L1_inv (m := fs.length) k (fun m ρ w' => ∃ i : Nat, i + m = fs.length ∧ w' = w ∧ ρ 0 = v ∧ ρ 3 = i64 (totalOf (fs.take i)) ∧ ρ 4 = i64 i) ?_
    ⟨0, by omega, rfl, rfl, rfl, rfl⟩
  rintro m ρ w' ⟨i, him, hw, e0, e3, e4⟩
  subst hw
  rw [F33_1_eq]
  unfold F33_1
  rw [e0, e3, e4, e1]
  refine s_len usl37 ?_
  have hle := totalOf_le fs (i + 1)
  by_cases hi : i < fs.length
  · refine s_lt_t (by omega) (pC_true ?_)
    obtain ⟨b, o, c, d, e, g0, g1, gd⟩ := files_at hx hi
    rw [e1] at e
    injection e with q1 q2 q3
    subst q1
    obtain ⟨A5, c5, ed, _⟩ := gd.form
    rw [totalOf_take hi] at hle
    refine s_ix (i := (i : Int)) usl37 (sze37 _) (by omega) (by omega) ?_
    refine fa52_1 (s_ld (v := d) (Try.isAgg30 _) (by simpa using g1) ?_)
    rw [ed]
    refine s_len usl30 (s_add_in (by omega) (s_add_in (by omega) ?_))
    refine ⟨m - 1, by omega, i + 1, by omega, rfl, by rw [← e1]; exact e0, ?_, ?_⟩
    · show i64 _ = i64 _
      rw [totalOf_take hi]; simp
    · show i64 _ = i64 _; simp
  · refine s_lt_f (by omega) (pC_false ?_)
    rw [F33_2_eq]
    unfold F33_2
    show k (ρ 3) w'
    rw [e3, List.take_of_length_le (by omega)]; exact hk
theorem run_eqSpan (x y : SpanA) (w : World) : (Op.equalIn 10000 86 (.agg (spanCells x).toArray) (.agg (spanCells y).toArray)).run P w = .ok (decide (x.name = y.name ∧ x.at_ = y.at_ ∧ x.n = y.n)) w := by
  have u3 := Try.underlying3
  have a3 := Try.isAgg3
  have z3 := Try.sizeOf3
  have u9 := Try.underlying9
  have a9 := Try.isAgg9
  have z9 := Try.sizeOf9
  have hS : Try.prog.underlying 86 = some (.struct (Try.prog.fieldsOf 86)) := by kernel_rfl
  rw [show (10000 : Nat) = 9999 + 1 from rfl, run_equalIn_agg w 9999 86 _ _ hS (by kernel_rfl)]
  simp only [Program.fieldsOf, Try.underlying86]
  unfold spanCells
  go_simp
  have e : x.name.toList = y.name.toList ↔ x.name = y.name := by
    have h := str_beq x.name y.name
    rw [Bool.eq_iff_iff] at h
    simpa using h
  simp only [e]
  by_cases h1 : x.name = y.name <;> by_cases h2 : x.at_ = y.at_ <;> by_cases h3 : x.n = y.n <;> simp [h1, h2, h3]
theorem s_neSpan {x y : SpanA} {p q : Operand} (hk : k (.bool (!decide (x.name = y.name ∧ x.at_ = y.at_ ∧ x.n = y.n))) w) : px P (binSem .neq 86 p q (.agg (spanCells x).toArray) (.agg (spanCells y).toArray)) w k := by
  refine px_ok (w' := w) ?_ hk
  have hg : (eqGuard .neq 86 p q (.agg (spanCells x).toArray) (.agg (spanCells y).toArray)).run P w = .ok () w := by kernel_rfl
  simp [binSem, hg, run_neq_struct, run_eqSpan, Result.andThen]
theorem SpanA.ext' {x y : SpanA} (h1 : x.name = y.name) (h2 : x.at_ = y.at_) (h3 : x.n = y.n) : x = y := by
  cases x; cases y; simp only at h1 h2 h3; subst h1; subst h2; subst h3; rfl
theorem c_spansEq {v1 v2 : Value} {x y : List SpanA} (hx : Src W v1 3 x.length (x.flatMap spanCells)) (hy : Src W v2 3 y.length (y.flatMap spanCells)) (hl : x.length ≤ 4611686018427387904) (hk : ∀ (b : Bool) w', Fr no W w' → (b = true ↔ x = y) → k (.bool b) w') : pFn P 34 [v1, v2] W k := by
  refine F34_in _ _ _ _ ?_
  unfold F34_0
  refine s_lenS usl60 hx (s_lenS usl60 hy ?_)
  by_cases hlen : x.length = y.length
  · refine s_nei_f (by omega) (pC_false ?_)
    refine F34L1_inv (m := x.length) k (fun m ρ w' => ∃ i : Nat, i + m = x.length ∧ Fr no W w' ∧ ρ 0 = v1 ∧ ρ 1 = v2 ∧ ρ 5 = i64 i ∧ x.take i = y.take i) ?_
      ⟨0, by omega, Fr.refl _ _, rfl, rfl, rfl, rfl⟩
    rintro m ρ w' ⟨i, him, hf, e0, e1, e5, heq⟩
    rw [F34_1_eq]
    unfold F34_1
    rw [e0, e1, e5]
    have hx' := hx.fr (by omega) hf fun _ _ h => h
    have hy' := hy.fr (by omega) hf fun _ _ h => h
    refine s_lenS usl60 hx' ?_
    by_cases hi : i < x.length
    · refine s_lt_t (by omega) (pC_true ?_)
      have fd : Fr no w' w'.drew := Fr.drew _ _
      have ff : Fr no W w'.drew := hf.trans fd fun b hb => .inl hb
      have hiy : i < y.length := by omega
      obtain ⟨b1, o1, c1, f1, g1⟩ := (hx'.fr (by omega) fd fun _ _ h => h).place hi (by omega)
      obtain ⟨b2, o2, c2, f2, g2⟩ := (hy'.fr (by omega) fd fun _ _ h => h).place hiy (by omega)
      have at1 : ∀ j u, j < 3 → (spanCells x[i])[j]? = some u → w'.drew.cell? ⟨b1, o1 + i * 3 + j, none⟩ = some u := fun j u hj hu => g1 j u hj (by rw [flatAt (n := 3) (fun _ => rfl) (a := x[i]) (by simp [hi]) hj]; exact hu)
      have at2 : ∀ j u, j < 3 → (spanCells y[i])[j]? = some u → w'.drew.cell? ⟨b2, o2 + i * 3 + j, none⟩ = some u := fun j u hj hu => g2 j u hj (by rw [flatAt (n := 3) (fun _ => rfl) (a := y[i]) (by simp [hiy]) hj]; exact hu)
      refine ⟨fun w' => (∀ j u, j < 3 → (spanCells x[i])[j]? = some u → w'.cell? ⟨b1, o1 + i * 3 + j, none⟩ = some u) ∧ ∀ j u, j < 3 → (spanCells y[i])[j]? = some u → w'.cell? ⟨b2, o2 + i * 3 + j, none⟩ = some u, ⟨at1, at2⟩, ?_⟩
      rw [f1, f2]
      have ld : ∀ (w_ : World) (b o : Nat) (s : SpanA), (∀ j u, j < 3 → (spanCells s)[j]? = some u → w_.cell? ⟨b, o + j, none⟩ = some u) → (Instr.loadAt 86 (.pointer (some ⟨b, o, none⟩))).run P w_ = .ok (.agg (spanCells s).toArray) w_ := by
        intro w_ b o s h
        have := run_loadCells_list (P := P) w_ ⟨b, o, none⟩ (spanCells s) (fun j v hj => by
          rw [add_at]
          exact h j v (List.getElem?_eq_some_iff.1 hj).1 hj)
        have e : (spanCells s).length = 3 := rfl
        rw [e] at this
        simp [Instr.loadAt, Instr.sureAddr, loadVar, Try.isAgg86, Try.sizeOf86, this, Result.andThen]
      refine q_of (.pointer (some ⟨b1, o1 + i * 3, none⟩)) (fun w_ hS => s_ix (i := (i : Int)) usl60 (sze60 _) (by omega) (by omega) ⟨by simp, rfl⟩) ?_
      refine q_of (.agg (spanCells x[i]).toArray) (fun w_ hS => px_ok (ld w_ _ _ _ hS.1) ⟨rfl, rfl⟩) ?_
      refine q_of (.pointer (some ⟨b2, o2 + i * 3, none⟩)) (fun w_ hS => s_ix (i := (i : Int)) usl60 (sze60 _) (by omega) (by omega) ⟨by simp, rfl⟩) ?_
      refine q_of (.agg (spanCells y[i]).toArray) (fun w_ hS => px_ok (ld w_ _ _ _ hS.2) ⟨rfl, rfl⟩) ?_
      refine q_of _ (fun w_ hS => s_neSpan ⟨rfl, rfl⟩) ?_
      by_cases he : x[i].name = y[i].name ∧ x[i].at_ = y[i].at_ ∧ x[i].n = y[i].n
      · rw [decide_eq_true he]
        refine pC_false (s_add_in (by omega) ?_)
        refine ⟨m - 1, by omega, i + 1, by omega, ff, e0.trans f1, e1.trans f2, ?_, ?_⟩
        · show i64 _ = i64 _; simp
        · rw [List.take_succ_eq_append_getElem hi, List.take_succ_eq_append_getElem hiy, heq, SpanA.ext' he.1 he.2.1 he.2.2]
      · rw [decide_eq_false he]
        refine pC_true (hk false _ ff ⟨(fun h => by cases h), fun h => absurd ?_ he⟩)
        subst h; exact ⟨rfl, rfl, rfl⟩
    · refine s_lt_f (by omega) (pC_false ?_)
      rw [F34_2_eq]
      refine hk true w' hf ⟨fun _ => ?_, fun _ => rfl⟩
      have a1 := List.take_of_length_le (l := x) (i := i) (by omega)
      have a2 := List.take_of_length_le (l := y) (i := i) (by omega)
      rw [← a1, heq, a2]
  · exact s_nei_t (by omega) (pC_true (hk false W (Fr.refl _ _) ⟨(fun h => by cases h), fun h => absurd (by rw [h]) hlen⟩))
theorem c_isStroke {x : StepA} {dv pv : Value} (hk : ∀ w', Fr no w w' → k (.bool (decide (1 ≤ x.kind ∧ x.kind ≤ 8))) w') : pFn P 31 [stepVal x dv pv] w k := by
  refine F31_in _ _ _ ?_
  unfold F31_0 stepVal
  refine s_box ?_
  have f1 := Fr.alloc no w (.cells #[i64 x.kind, .string x.name, .string x.to_, i64 x.at_, i64 x.n, dv, i64 x.plan.off, i64 x.plan.from_, i64 x.plan.to_, pv] 59)
  have b1 := alloc_new w (.cells #[i64 x.kind, .string x.name, .string x.to_, i64 x.at_, i64 x.n, dv, i64 x.plan.off, i64 x.plan.from_, i64 x.plan.to_, pv] 59)
  show px P _ (w.alloc (.cells #[i64 x.kind, .string x.name, .string x.to_, i64 x.at_, i64 x.n, dv, i64 x.plan.off, i64 x.plan.from_, i64 x.plan.to_, pv] 59)) _
  generalize w.alloc (.cells #[i64 x.kind, .string x.name, .string x.to_, i64 x.at_, i64 x.n, dv, i64 x.plan.off, i64 x.plan.from_, i64 x.plan.to_, pv] 59) = w1 at *
  have := hk w1 f1
  refine fa59_0 (s_ldb (v := i64 x.kind) (Try.isAgg3 _) b1 rfl ?_)
  by_cases h1 : x.kind ≥ 1
  · refine s_ge_t h1 (pG_yes rfl (fa59_0 (pG_yes rfl (s_ldb (v := i64 x.kind) (Try.isAgg3 _) b1 rfl (pG_yes rfl ?_)))))
    by_cases h2 : x.kind ≤ 8
    · rw [decide_eq_true ⟨h1, h2⟩] at this
      exact s_le_t h2 (s_pick_t this)
    · rw [decide_eq_false (fun h => h2 h.2)] at this
      exact s_le_f h2 (s_pick_t this)
  · rw [decide_eq_false (fun h => h1 h.1)] at this
    refine s_ge_f h1 ?_
    repeat (first | refine pG_sk ?_ | refine pG_un ?_)
    exact s_pick_f this
end
end Go.Proofs.Ytcdcojpfealppaa
