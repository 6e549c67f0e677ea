/- The row's frame for a law that reads its arguments and answers: shut by 'Below'; arguments opened as slices. -/
import Derived.Test.YtcdcojpfealppaaXElem
import Derived.ProofKit
import Derived.SliceStrings
import Derived.Deep.SlicePairs
set_option linter.unusedVariables false
set_option linter.unusedSimpArgs false
namespace Go.Proofs.XRow
open Go Go.ChangeShapes Go.WideShapes Go.ChangeAt Go.RowKit Go.Proofs.XRed Go.Proofs.XHeap Go.Proofs.XSlices
section
variable {H : Type} {enc : TypeId × Value → H} {P : Program}
theorem post_of_below {f : Func} {s : ChangeSpec} {apart fresh handsOn again : Bool} {W W' : World} {args : Array Value} {v : Value} {ds gs : List (DataW H)} {before pa pv : List MemPlace}
    (hW : DataW.Whole enc P f.params.toList s.vars apart W args.toList ds gs before) (hb : Below W.heap.size W W')
    (hres : ∀ (b : Nat) (sp : Nat → Bool) (hd : Bool), DataW.TrodAll enc P W' b sp hd f.resultTypes.toList (v.resultList f.resultTypes.size) (s.fn H (ds ++ gs)).results [])
    (hargs : ∀ sp : Nat → Bool, (∀ p ∈ before, sp p.block = true) → DataW.TrodAll enc P W' 0 sp true f.params.toList args.toList (s.fn H (ds ++ gs)).args pa)
    (hvars : ∀ sp : Nat → Bool, (∀ p ∈ before, sp p.block = true) → DataW.TrodVars enc P W' sp s.vars (s.fn H (ds ++ gs)).vars pv)
    (hps : before = pa ++ pv)
    (hok : ∀ (j : Nat) (t : TypeId) (r : Value), f.resultTypes[j]? = some t → (v.resultList f.resultTypes.size)[j]? = some r → Value.okWide P W' .any 0 t r) :
    s.post enc P f apart fresh handsOn again W args v W' := by
  have hold : ∀ p ∈ before, (fun b => decide (b < W.heap.size)) p.block = true := fun p hp => by simpa using hW.lt p hp
  refine ⟨ds, gs, before, [], pa, pv, hW, hres _ _ _, hargs _ hold, hvars _ hold, hb.frame _, fun _ => ?_⟩
  have hlt := hW.lt
  obtain ⟨_, _, _, _, _, hz, hn⟩ := hW
  refine ⟨hok, _, _, ([] ++ pa) ++ pv, ⟨[] ++ pa, pv, trodAll_append (hargs _ (fun _ _ => rfl)) (hres _ _ _), hvars _ (fun _ _ => rfl), rfl, ?_, ?_⟩, ?_⟩
  · intro b off hp
    have hp' : MemPlace.cell b off ∈ before := by rw [hps]; simpa using hp
    have h1 := hz b off hp'
    have h2 : b < W.heap.size := hlt _ hp'
    unfold World.frozen? at *
    rw [hb.block _ h2]
    exact h1
  · intro ha
    have := hn ha
    rw [hps] at this
    simpa using this
  · intro p hp _
    rw [hps]
    simpa using hp
theorem stays {t : TypeId} (hl : laidOutB P = true) (hr : P.readableRec t = true) (hrow : t < P.types.size) {W W' : World} {v : Value} {d : DataW H} {ps : List MemPlace} {sp : Nat → Bool}
    (h : DataW.Trod enc P W 0 (fun _ => true) true t v d ps) (hb : Below W.heap.size W W') (hlt : ∀ x ∈ ps, x.block < W.heap.size) (hs : ∀ x ∈ ps, sp x.block = true) : DataW.Trod enc P W' 0 sp true t v d ps :=
  WideElems.Trod_stays hl hr hrow h (fun x hx => hb.same (hlt x hx)) hs
/-- What a law's walk ends in: the answer true, and nothing old has turned. -/
def Fine (W : World) (v : Value) (w' : World) : Prop := v = .bool true ∧ Below W.heap.size W w'
theorem fine {O : Nat → Prop} {W : World} (hO : ∀ b, O b → W.heap.size ≤ b) : ∀ w', Fr O W w' → Fine W (.bool true) w' := fun w' hf => ⟨rfl, hf.to_below hO (Nat.le_refl _)⟩
theorem calls_true {f : FuncId} {fn : Func} (hf : P.funcs[f]? = some fn) (hname : (fn.name == "runtime.NumGoroutine") = false) (hbody : fn.body.isNone = false) {args : List Value} {W : World} (h : pFn P f args W (Fine W)) :
    Calls P f args.toArray W fun e w' => e = .returned (.bool true) ∧ Below W.heap.size W w' := by
  refine (calls_of_pFn hf hname hbody h).mono ?_
  rintro e w' ⟨v, rfl, rfl, hb⟩
  exact ⟨rfl, hb⟩
/-- A slice of texts. -/
theorem src_strings {W : World} {t e : TypeId} {v : Value} {d : DataW H} {ps : List MemPlace} (ht : P.underlying t = some (.slice e)) (he : P.underlying e = some .string) (hc : P.cellsOf e = 1) (hv : Value.okWide P W .any 0 t v)
    (h : DataW.Trod enc P W 0 (fun _ => true) true t v d ps) : ∃ names : List ByteArray, Src W v 1 names.length (names.map .string) ∧ ∀ n ∈ names, n.size ≤ maxLen := by
  obtain ⟨a0, len, cap, rfl⟩ := okWide_slice ht hv
  obtain ⟨fuel, hf⟩ := h
  rcases open_strings ht he hc hf with ⟨hcs, hx⟩ | ⟨a, len', cap', ss, hcs, _, hl, hm, hz, hx, hcell, hsz⟩
  · simp [Value.cells] at hcs
    obtain ⟨rfl, rfl, rfl⟩ := hcs
    exact ⟨[], Src.nil _ _, fun n h => by cases h⟩
  · simp [Value.cells] at hcs
    obtain ⟨rfl, rfl, rfl⟩ := hcs
    simp only [if_true] at hz
    have hlen : (ss.take len).length = len := by simp; omega
    refine ⟨ss.take len, ?_, fun n hn => hsz n (List.mem_of_mem_take hn)⟩
    rw [hlen]
    obtain ⟨b, off, spot⟩ := a
    refine ⟨some ⟨b, off, spot⟩, cap, rfl, hl, by simp; omega, fun h0 => ?_⟩
    have hspot : spot = none := by simpa [Addr.add] using World.cell?_spot (hcell 0 (by omega))
    subst hspot
    refine ⟨b, off, rfl, fun j u hj => ?_⟩
    rw [List.getElem?_map] at hj
    obtain ⟨s, hs, rfl⟩ := Option.map_eq_some_iff.1 hj
    have hjl : j < len := by
      have := (List.getElem?_eq_some_iff.1 hs).1
      simp at this; omega
    rw [List.getElem?_take_of_lt hjl] at hs
    have := hcell j (by omega)
    rw [add_at, List.getD, hs] at this
    exact this
/-- A slice of structs of two texts. -/
theorem src_pairs {W : World} {t e : TypeId} {f0 f1 : Field} {v : Value} {d : DataW H} {ps : List MemPlace} (ht : P.underlying t = some (.slice e)) (he : P.underlying e = some (.struct #[f0, f1])) (hc : P.cellsOf e = 2) (o0 : f0.offset = 0) (o1 : f1.offset = 1)
    (h0 : P.underlying f0.type = some .string) (h1 : P.underlying f1.type = some .string) (c0 : P.cellsOf f0.type = 1) (c1 : P.cellsOf f1.type = 1) (hv : Value.okWide P W .any 0 t v)
    (h : DataW.Trod enc P W 0 (fun _ => true) true t v d ps) : ∃ l : List (ByteArray × ByteArray), Src W v 2 l.length (l.flatMap fun m => [.string m.1, .string m.2]) ∧ ∀ m ∈ l, m.1.size ≤ maxLen ∧ m.2.size ≤ maxLen := by
  obtain ⟨a0, len, cap, rfl⟩ := okWide_slice ht hv
  obtain ⟨fuel, hf⟩ := h
  rcases Go.Deep.open_slice_pairs ht he hc o0 o1 c0 c1 hf with ⟨hcs, hx⟩ | ⟨a, len', cap', m, n, V0, V1, D0, D1, P0, P1, hcs, _, hl, hm, hmm, hx, hcell⟩
  · simp [Value.cells] at hcs
    obtain ⟨rfl, rfl, rfl⟩ := hcs
    exact ⟨[], Src.nil _ _, fun n h => by cases h⟩
  · simp [Value.cells] at hcs
    obtain ⟨rfl, rfl, rfl⟩ := hcs
    simp only [if_true] at hmm
    have str : ∀ i, i < m → ∃ s0 s1 : ByteArray, V0 i = .string s0 ∧ V1 i = .string s1 ∧ s0.size ≤ maxLen ∧ s1.size ≤ maxLen := by
      intro i hi
      obtain ⟨_, _, t0, t1⟩ := hcell i hi
      obtain ⟨s0, e0, _, w0⟩ := DataW.trod_string h0 t0
      obtain ⟨s1, e1, _, w1⟩ := DataW.trod_string h1 t1
      simp at e0 e1
      exact ⟨s0, s1, e0, e1, w0, w1⟩
    have hS : ∃ g : Nat → ByteArray × ByteArray, ∀ i, i < m → V0 i = .string (g i).1 ∧ V1 i = .string (g i).2 ∧ (g i).1.size ≤ maxLen ∧ (g i).2.size ≤ maxLen := by
      refine ⟨fun i => (match V0 i with | .string s => s | _ => ByteArray.empty, match V1 i with | .string s => s | _ => ByteArray.empty), fun i hi => ?_⟩
      obtain ⟨s0, s1, e0, e1, w0, w1⟩ := str i hi
      simp only [e0, e1]
      exact ⟨trivial, trivial, w0, w1⟩
    obtain ⟨g, hg⟩ := hS
    have hlm : len ≤ m := by omega
    refine ⟨(List.range len).map g, ?_, ?_⟩
    · rw [List.length_map, List.length_range]
      obtain ⟨b, off, spot⟩ := a
      have hfl : ∀ k : Nat, (((List.range k).map g).flatMap fun m => [Value.string m.1, Value.string m.2]).length = k * 2 := by
        intro k
        induction k with
        | zero => rfl
        | succ k ih => rw [List.range_succ, List.map_append, List.flatMap_append, List.length_append, ih]; simp; omega
      refine ⟨some ⟨b, off, spot⟩, cap, rfl, hl, hfl len, fun hpos => ?_⟩
      have hspot : spot = none := by simpa [Addr.add] using World.cell?_spot (hcell 0 (by omega)).1
      subst hspot
      refine ⟨b, off, rfl, fun j u hj => ?_⟩
      have hat : ∀ k i : Nat, i < k → (((List.range k).map g).flatMap fun m => [Value.string m.1, Value.string m.2])[i * 2]? = some (.string (g i).1) ∧ (((List.range k).map g).flatMap fun m => [Value.string m.1, Value.string m.2])[i * 2 + 1]? = some (.string (g i).2) := by
        intro k
        induction k with
        | zero => intro i hi; omega
        | succ k ih =>
          intro i hi
          rw [List.range_succ, List.map_append, List.flatMap_append]
          rcases Nat.lt_or_ge i k with h' | h'
          · rw [List.getElem?_append_left (by rw [hfl]; omega), List.getElem?_append_left (by rw [hfl]; omega)]
            exact ih i h'
          · have : i = k := by omega
            subst this
            rw [List.getElem?_append_right (by rw [hfl]; omega), List.getElem?_append_right (by rw [hfl]; omega), hfl]
            simp
      have hjl : j < len * 2 := by have := (List.getElem?_eq_some_iff.1 hj).1; rw [hfl] at this; exact this
      obtain ⟨h2, h3⟩ := hat len (j / 2) (by omega)
      obtain ⟨k0, k1, _, _⟩ := hcell (j / 2) (by omega)
      obtain ⟨g0, g1, _, _⟩ := hg (j / 2) (by omega)
      rw [add_at] at k0 k1
      rcases Nat.mod_two_eq_zero_or_one j with hp | hp
      · have e : j = j / 2 * 2 := by omega
        rw [e] at hj ⊢
        rw [h2] at hj; injection hj with hj; subst hj
        rw [k0, g0]
      · have e : j = j / 2 * 2 + 1 := by omega
        rw [e] at hj ⊢
        rw [h3] at hj; injection hj with hj; subst hj
        rw [k1, g1]
    · intro x hx
      obtain ⟨i, hi, rfl⟩ := List.mem_map.1 hx
      have := hg i (by have := List.mem_range.1 hi; omega)
      exact ⟨this.2.2.1, this.2.2.2⟩
end
end Go.Proofs.XRow
