/- DiskTorn: the given row, proved: whatever the input, the law answers true and its arguments read as they did. No conditions. -/
import Derived.Test.YtcdcojpfealppaaScript
import Derived.Test.YtcdcojpfealppaaTornX
import Derived.SizedLaws
set_option linter.unusedVariables false
set_option linter.unusedSimpArgs false
set_option maxRecDepth 100000
namespace Go.Proofs.Ytcdcojpfealppaa
open Go Go.ChangeShapes Go.WideShapes Go.ChangeAt Go.RowKit Go.Proofs Go.Proofs.XRed Go.Proofs.XHeap Go.Proofs.XSlices Go.Proofs.XRow Go.Proofs.XDisk
theorem own1 : ownKnob Try.prog.godebug = none := by kernel_rfl
theorem laid1 : laidOutB Try.prog = true := by kernel_rfl
section
variable {H : Type} {enc : TypeId × Value → H} {W : World}
/-- The bound on a write's list, off its datum. -/
def WrFits (d : DataW H) : Prop := ∀ parts, d = .agg parts → ∀ q n, parts[2]? = some q → Len q n → n ≤ 140737488355328
theorem trod_bool {fuel : Nat} {cs : List Value} {x : DataW H × List MemPlace} (h : DataW.trod enc Try.prog W 0 (fun _ => true) true fuel 4 cs = some x) : ∃ b : Bool, cs = [.bool b] := by
  obtain ⟨b, e, -⟩ := DataW.trod_bool Try.underlying4 h
  exact ⟨b, e⟩
/-- One write. -/
theorem open_wr {fuel : Nat} {cs : List Value} {x : DataW H × List MemPlace} (hb : WrFits x.1) (h : DataW.trod enc Try.prog W 0 (fun _ => true) true fuel 43 cs = some x) : ∃ (s : WrA) (dv : Value), cs = wrCells s dv ∧ WrV W s dv := by
  obtain ⟨xs, k, rfl, rfl, hlen, hxl, hf⟩ := DataW.trod_struct Try.underlying43 h
  have c3 : Try.prog.cellsOf 43 = 3 := by kernel_rfl
  rw [c3] at hlen
  match cs, hlen with
  | [c0, c1, c2], _ =>
  match xs, hxl with
  | [x0, x1, x2], _ =>
  have g0 : DataW.trod enc Try.prog W 0 (fun _ => true) true k 4 (([c0, c1, c2].drop 0).take (Try.prog.cellsOf 4)) = some x0 := hf 0 _ rfl
  have g1 : DataW.trod enc Try.prog W 0 (fun _ => true) true k 3 (([c0, c1, c2].drop 1).take (Try.prog.cellsOf 3)) = some x1 := hf 1 _ rfl
  have g2 : DataW.trod enc Try.prog W 0 (fun _ => true) true k 30 (([c0, c1, c2].drop 2).take (Try.prog.cellsOf 30)) = some x2 := hf 2 _ rfl
  have k3 : Try.prog.cellsOf 3 = 1 := by kernel_rfl
  have k4 : Try.prog.cellsOf 4 = 1 := by kernel_rfl
  have k30 : Try.prog.cellsOf 30 = 1 := by kernel_rfl
  simp only [k3, k4, k30, List.drop_zero, List.drop_succ_cons, List.take_succ_cons, List.take_zero, List.getElem?_cons_zero, List.getElem?_cons_succ] at g0 g1 g2
  obtain ⟨b0, e0⟩ := trod_bool g0
  obtain ⟨n1, e1, r1, w1⟩ := DataW.trod_int Try.underlying3 g1
  obtain ⟨dv, d2, e2, s2, l2⟩ := open_bytes g2
  simp only [List.cons.injEq, and_true] at e0 e1 e2
  subst e0 e1 e2
  exact ⟨⟨b0, n1, d2⟩, c2, rfl, ⟨s2, i64_wf w1, hb _ rfl _ _ rfl l2⟩⟩
/-- A row of writes. -/
theorem open_writes {v : Value} {d : DataW H} {ps : List MemPlace} (hb : ∀ elems spare, d = .slice elems spare → ∀ e ∈ elems, WrFits e) (hv : Value.okWide Try.prog W .any 0 41 v) (h : DataW.Trod enc Try.prog W 0 (fun _ => true) true 41 v d ps) : ∃ l : Writes, WritesV W v l := by
  obtain ⟨a0, len, cap, rfl⟩ := okWide_slice Try.underlying41 hv
  obtain ⟨fuel, hf⟩ := h
  have c3 : Try.prog.cellsOf 43 = 3 := by kernel_rfl
  rcases Go.Deep.open_slice Try.underlying41 hf with ⟨hcs, hx⟩ | ⟨a, len', cap', m, n, Ds, Pl, hcs, _, hl, hm, hmm, hx, hcell⟩
  · simp [Value.cells] at hcs
    obtain ⟨rfl, rfl, rfl⟩ := hcs
    exact ⟨[], Src.nil _ _, fun p hp => by cases hp⟩
  · simp [Value.cells] at hcs
    obtain ⟨rfl, rfl, rfl⟩ := hcs
    simp only [if_true] at hmm
    rw [c3] at hcell
    injection hx with hx _
    have each : ∀ i, i < len → ∃ p : WrA × Value, WrV W p.1 p.2 ∧ ∀ j u, (wrCells p.1 p.2)[j]? = some u → W.cell? ((a.add (i * 3)).add j) = some u := by
      intro i hi
      obtain ⟨cs', h1, h2⟩ := hcell i (by omega)
      obtain ⟨_, hlen, hc⟩ := World.cells?_some h1
      have hD : WrFits (Ds i) := hb _ _ hx _ (List.mem_map.2 ⟨i, List.mem_range.2 hi, rfl⟩)
      obtain ⟨s, dv, rfl, hs⟩ := open_wr (x := (Ds i, Pl i)) hD h2
      refine ⟨(s, dv), hs, fun j u hj => ?_⟩
      rw [hc j (List.getElem?_eq_some_iff.1 hj).1]; exact hj
    have hS : ∃ g : Nat → WrA × Value, ∀ i, i < len → WrV W (g i).1 (g i).2 ∧ ∀ j u, (wrCells (g i).1 (g i).2)[j]? = some u → W.cell? ((a.add (i * 3)).add j) = some u := by
      classical
      refine ⟨fun i => if h : i < len then Classical.choose (each i h) else (⟨false, 0, []⟩, undef), fun i hi => ?_⟩
      simp only [dif_pos hi]
      exact Classical.choose_spec (each i hi)
    obtain ⟨g, hg⟩ := hS
    refine ⟨(List.range len).map g, ?_, ?_⟩
    · rw [List.length_map, List.length_range]
      have hfl : (writesCells ((List.range len).map g)).length = len * 3 := by
        have : ∀ l : Writes, (writesCells l).length = l.length * 3 := by
          intro l
          induction l with
          | nil => rfl
          | cons p r ih => unfold writesCells at *; rw [List.flatMap_cons, List.length_append, ih]; simp [wrCells]; omega
        rw [this]; simp
      obtain ⟨b, off, spot⟩ := a
      refine ⟨some ⟨b, off, spot⟩, cap, rfl, hl, hfl, fun hpos => ?_⟩
      have h00 := (hg 0 hpos).2 0 _ rfl
      have hspot : spot = none := by simpa [Addr.add] using World.cell?_spot h00
      subst hspot
      refine ⟨b, off, rfl, fun j u hj => ?_⟩
      have hjl : j < len * 3 := by have := (List.getElem?_eq_some_iff.1 hj).1; rw [hfl] at this; exact this
      have hi : j / 3 < len := by omega
      have hgi : ((List.range len).map g)[j / 3]? = some (g (j / 3)) := by simp [hi]
      have hfa := flatAt (f := fun p : WrA × Value => wrCells p.1 p.2) (n := 3) (fun _ => rfl) (l := (List.range len).map g) (i := j / 3) (j := j % 3) hgi (Nat.mod_lt _ (by omega))
      have e : j / 3 * 3 + j % 3 = j := by omega
      rw [e] at hfa
      unfold writesCells at hj
      rw [hfa] at hj
      have := (hg (j / 3) hi).2 (j % 3) u hj
      rw [add_at, add_at] at this
      have e2 : off + j / 3 * 3 + j % 3 = off + j := by omega
      rw [e2] at this
      exact this
    · intro p hp
      obtain ⟨i, hi, rfl⟩ := List.mem_map.1 hp
      exact (hg i (List.mem_range.1 hi)).1
theorem wrFits_weights {d : DataW H} (hw : ∀ m ∈ d.weights Try.prog 43, m ≤ reachBytes) : WrFits d := by
  have hr : reachBytes ≤ 140737488355328 := by decide
  rintro parts rfl
  have hu := Try.underlying43
  have hwe : DataW.weights Try.prog 43 (.agg parts) = DataW.weightsEach Try.prog [4, 3, 30] parts := by
    simp only [DataW.weights, hu]
    rfl
  intro q n hq hl
  have := len_weight (b := 1) Try.underlying30 (by kernel_rfl) hl (fun m hm => hw m (by rw [hwe]; exact DataW.weights_mem_each (j := 2) rfl hq m hm))
  omega
theorem writes_weights {d : DataW H} (hw : ∀ m ∈ d.weights Try.prog 41, m ≤ reachBytes) : ∀ elems spare, d = .slice elems spare → ∀ e ∈ elems, WrFits e := by
  rintro elems spare rfl e he
  refine wrFits_weights fun m hm => hw m ?_
  simp only [DataW.weights, Try.underlying41, List.mem_cons, List.mem_append]
  exact Or.inr (Or.inl (weights_all he m hm))
theorem tcons {P : Program} {w : World} {base : Nat} {spare : Nat → Bool} {held : Bool} {t : TypeId} {ts : List TypeId} {v : Value} {vs : List Value} {d : DataW H} {ds : List (DataW H)} {p p' : List MemPlace}
    (h : DataW.Trod enc P w base spare held t v d p) (hs : DataW.TrodAll enc P w base spare held ts vs ds p') : DataW.TrodAll enc P w base spare held (t :: ts) (v :: vs) (d :: ds) (p ++ p') := ⟨p, p', h, hs, rfl⟩
end
set_option maxRecDepth 100000 in
theorem diskTorn_lifted (os : Os) (started : os.Started) (H : Type) (enc : TypeId × Value → H) :
    ReturnsInHanded {} Try.checked os 4 .any (Rows.diskTornSpec.pre6 enc Try.prog Try.f4 Rows.diskTornRow.domain false) (Rows.diskTornSpec.post enc Try.prog Try.f4 false true false false) := by
  refine returnsInHanded_of_change_sized (C := Try.checked) own1 started (by kernel_rfl) Try.func4
    (ChangeSpec.witness6 (enc := enc) (C := Try.checked) false ⟨#[], #[.slice none 0 0, .slice none 0 0, .int .i64 0, .int .i64 0, .int .i64 0], []⟩ 8 (by kernel_rfl) (by kernel_rfl) (by kernel_rfl) (by kernel_rfl)) ?_
  intro W base args ds gs before hval0 hW _ hsz0 _
  have hsz : (DataW.weightsEach Try.prog (Try.f4.params.toList ++ Rows.diskTornSpec.plain.varTypes Try.prog) (ds ++ gs)).all (· ≤ reachBytes) = true := hsz0
  have hval : ∀ (j : Nat) t v, Try.f4.params[j]? = some t → args[j]? = some v → Value.okWide Try.prog W .any base t v := hval0
  have hW' := hW
  obtain ⟨p, q, hA0, hV, rfl, hfz, hnd⟩ := hW
  have hA : DataW.TrodAll enc Try.prog W 0 (fun _ => true) true Try.f4.params.toList args.toList ds p := hA0
  rw [Try.params4] at hA hval hsz
  obtain ⟨v0, r0, d0, e0, p0, q0, hargs, rfl, rfl, h0, hA⟩ := trodAll_cons hA
  obtain ⟨v1, r1, d1, e1, p1, q1, rfl, rfl, rfl, h1, hA⟩ := trodAll_cons hA
  obtain ⟨v2, r2, d2, e2, p2, q2, rfl, rfl, rfl, h2, hA⟩ := trodAll_cons hA
  obtain ⟨v3, r3, d3, e3, p3, q3, rfl, rfl, rfl, h3, hA⟩ := trodAll_cons hA
  obtain ⟨v4, r4, d4, e4, p4, q4, rfl, rfl, rfl, h4, hA⟩ := trodAll_cons hA
  obtain ⟨rfl, rfl, rfl⟩ := trodAll_nil hA
  obtain rfl : args = #[v0, v1, v2, v3, v4] := by cases args; simp_all
  obtain ⟨rfl, rfl⟩ := trodVars_none hV
  have hw0 : ∀ m ∈ d0.weights Try.prog 30, m ≤ reachBytes := fun m hm => of_decide_eq_true (List.all_eq_true.1 hsz m (DataW.weights_mem_each (j := 0) rfl rfl m hm))
  have hw1 : ∀ m ∈ d1.weights Try.prog 41, m ≤ reachBytes := fun m hm => of_decide_eq_true (List.all_eq_true.1 hsz m (DataW.weights_mem_each (j := 1) rfl rfl m hm))
  obtain ⟨b0, hB, hbl⟩ : ∃ b0 : Bytes, SBytes W v0 b0 ∧ b0.length ≤ 140737488355328 := by
    obtain ⟨a0, len, cap, rfl⟩ := okWide_slice Try.underlying30 (hval 0 30 v0 rfl rfl)
    obtain ⟨fuel, hf⟩ := h0
    obtain ⟨dv, d, e, hd, hl⟩ := open_bytes hf
    simp [Value.cells] at e
    subst e
    have hr : reachBytes ≤ 140737488355328 := by decide
    have := len_weight (b := 1) Try.underlying30 (by kernel_rfl) hl hw0
    exact ⟨d, hd, by omega⟩
  obtain ⟨l, hS⟩ := open_writes (writes_weights hw1) (hval 1 41 v1 rfl rfl) h1
  obtain ⟨pick, rfl, rfl, rfl, w2⟩ := open_int Try.underlying3 (hval 2 3 v2 rfl rfl) h2
  obtain ⟨off, rfl, rfl, rfl, w3⟩ := open_int Try.underlying3 (hval 3 3 v3 rfl rfl) h3
  obtain ⟨how, rfl, rfl, rfl, w4⟩ := open_int Try.underlying3 (hval 4 3 v4 rfl rfl) h4
  clear hA0 hval0 hsz hsz0 hA
  simp only [List.append_nil, List.nil_append, List.singleton_append] at hW'
  refine (calls_true Try.func4 (by kernel_rfl) (by kernel_rfl) (args := [v0, v1, .int .i64 pick, .int .i64 off, .int .i64 how]) (w_torn hS hB hbl (fine fun b hb => hb.elim))).mono fun e W' ⟨he, hb⟩ => ?_
  subst he
  have hlt := hW'.lt
  refine ⟨_, rfl, post_of_below (pa := p0 ++ p1) (pv := []) hW' hb (fun _ _ _ => trodAll_mk1 (shut_bool Try.underlying4 true)) (fun sp hsp => ?_) (fun _ _ => rfl) (by simp) (ok_one (by kernel_rfl) rfl (okWide_bool_mk Try.underlying4 true))⟩
  have e : p0 ++ p1 = p0 ++ (p1 ++ ([] ++ ([] ++ ([] ++ [])))) := by simp
  rw [e]
  exact tcons (stays laid1 (by kernel_rfl) (of_decide_eq_true (by kernel_rfl)) h0 hb (fun x hx => by simpa using hlt x (by simp [hx])) (fun x hx => hsp x (by simp [hx])))
    (tcons (stays laid1 (by kernel_rfl) (of_decide_eq_true (by kernel_rfl)) h1 hb (fun x hx => by simpa using hlt x (by simp [hx])) (fun x hx => hsp x (by simp [hx])))
    (tcons (shut_int Try.underlying3 w2) (tcons (shut_int Try.underlying3 w3) (tcons (shut_int Try.underlying3 w4) trodAll_mk0))))
theorem diskTorn_holds : Rows.DiskTornSaid :=
  OpenClaim.holds_of_wide 4 Try.f4 rfl rfl rfl rfl rfl rfl rfl ⟨rfl, rfl, rfl, rfl, rfl⟩ rfl rfl rfl rfl rfl (by kernel_rfl) Try.func4 (by kernel_rfl)
    (of_decide_eq_true (by kernel_rfl)) (by unfold Func.isWrapper; first | (rw [if_pos (by decide +kernel)]; kernel_rfl) | (rw [if_neg (by decide +kernel)]; exact ⟨rfl, rfl⟩))
    (fun os started H enc _ => diskTorn_lifted os started H enc)
#print axioms diskTorn_holds
end Go.Proofs.Ytcdcojpfealppaa
