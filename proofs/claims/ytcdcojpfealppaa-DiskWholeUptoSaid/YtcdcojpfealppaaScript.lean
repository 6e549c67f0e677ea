/- A script among the arguments, opened; what the bound on the bulk gives. -/
import Derived.Test.YtcdcojpfealppaaRows
import Derived.Test.YtcdcojpfealppaaLong
import Derived.Test.YtcdcojpfealppaaXRow
import Derived.JoinedCond
import Derived.Deep.Slices
set_option linter.unusedVariables false
set_option linter.unusedSimpArgs false
set_option maxRecDepth 100000
namespace Go.Proofs.Ytcdcojpfealppaa
open Go Go.ChangeShapes Go.WideShapes Go.ChangeAt Go.RowKit Go.Proofs Go.Proofs.XRed Go.Proofs.XHeap Go.Proofs.XSlices Go.Proofs.XRow Go.Proofs.XDisk
section
variable {H : Type} {enc : TypeId × Value → H}
theorem bulk_one (d : DataW H) : 1 ≤ Rows.uptoBulk d := by
  cases d with
  | lit l => cases l <;> simp [Rows.uptoBulk]
  | nil => simp [Rows.uptoBulk]
  | ptr d => simp [Rows.uptoBulk]
  | slice elems spare => simp [Rows.uptoBulk]
  | agg parts => simp [Rows.uptoBulk]
  | iface t d => simp [Rows.uptoBulk]
  | map entries => simp [Rows.uptoBulk]
  | held h => simp [Rows.uptoBulk]
theorem bulk_part {d : DataW H} {l : List (DataW H)} (h : d ∈ l) : Rows.uptoBulk d ≤ Rows.uptoBulkAll l := by
  induction l with
  | nil => cases h
  | cons x r ih =>
    simp only [Rows.uptoBulkAll]
    cases List.mem_cons.1 h with
    | inl e => subst e; omega
    | inr e => have := ih e; omega
theorem bulk_len (l : List (DataW H)) : l.length ≤ Rows.uptoBulkAll l := by
  induction l with
  | nil => simp [Rows.uptoBulkAll]
  | cons x r ih => have := bulk_one x; simp only [Rows.uptoBulkAll, List.length_cons]; omega
theorem bulk_agg {d : DataW H} {l : List (DataW H)} (h : d ∈ l) : Rows.uptoBulk d ≤ Rows.uptoBulk (.agg l) := by
  have := bulk_part h
  simp only [Rows.uptoBulk]; omega
theorem bulk_elem {d : DataW H} {l m : List (DataW H)} (h : d ∈ l) : Rows.uptoBulk d ≤ Rows.uptoBulk (.slice l m) := by
  have := bulk_part h
  simp only [Rows.uptoBulk]; omega
theorem bulk_slice (l m : List (DataW H)) : l.length ≤ Rows.uptoBulk (.slice l m) := by
  have := bulk_len l
  simp only [Rows.uptoBulk]; omega
variable {W : World}
/-- A slice's datum has so many elements. -/
def Len (d : DataW H) (n : Nat) : Prop := n = 0 ∨ ∃ e s, d = .slice e s ∧ e.length = n
theorem Len.bulk {d : DataW H} {n : Nat} (h : Len d n) : n ≤ Rows.uptoBulk d := by
  rcases h with rfl | ⟨e, s, rfl, rfl⟩
  · exact Nat.zero_le _
  · exact bulk_slice e s
/-- A slice of bytes, from its cell. -/
theorem open_bytes {fuel : Nat} {cs : List Value} {x : DataW H × List MemPlace} (h : DataW.trod enc Try.prog W 0 (fun _ => true) true fuel 30 cs = some x) : ∃ (dv : Value) (d : Bytes), cs = [dv] ∧ SBytes W dv d ∧ Len x.1 d.length := by
  rcases open_ints Try.underlying30 Try.underlying5 (by kernel_rfl) h with ⟨rfl, rfl⟩ | ⟨a, len, cap, zs, rfl, _, hl, hm, hz, rfl, hcell, hwf⟩
  · exact ⟨_, [], rfl, SBytes.nil _, .inl rfl⟩
  · simp only [if_true] at hz
    have hbyte : ∀ z ∈ zs, ((UInt8.ofNat z.toNat).toNat : Int) = z := by
      intro z hz
      have hb := hwf z hz
      simp only [Lit.wf, IntKind.min, IntKind.max, IntKind.signed, IntKind.bits] at hb
      simp at hb
      have : (UInt8.ofNat z.toNat).toNat = z.toNat := by simp; omega
      rw [this]; omega
    have hlen : ((zs.take len).map fun z => UInt8.ofNat z.toNat).length = len := by simp; omega
    refine ⟨_, (zs.take len).map fun z => UInt8.ofNat z.toNat, rfl, ?_, ?_⟩
    · unfold SBytes
      rw [hlen]
      obtain ⟨b, off, spot⟩ := a
      refine ⟨some ⟨b, off, spot⟩, cap, rfl, hl, by simp [u8s]; omega, fun h0 => ?_⟩
      have hspot : spot = none := by simpa [Addr.add] using World.cell?_spot (hcell 0 (by omega))
      subst hspot
      refine ⟨b, off, rfl, fun j u hj => ?_⟩
      unfold u8s at hj
      rw [List.map_map, List.getElem?_map] at hj
      obtain ⟨z, hz', rfl⟩ := Option.map_eq_some_iff.1 hj
      have hjl : j < len := by
        have := (List.getElem?_eq_some_iff.1 hz').1
        simp at this; omega
      rw [List.getElem?_take_of_lt hjl] at hz'
      have := hcell j (by omega)
      rw [add_at, List.getD, hz'] at this
      rw [this]
      show some (Value.int .u8 z) = some (Value.int .u8 ((UInt8.ofNat z.toNat).toNat : Int))
      rw [hbyte z (List.mem_of_getElem? hz')]
    · rw [hlen]
      exact .inr ⟨lits .u8 (zs.take len), lits .u8 (zs.drop len), rfl, by simp [lits]; omega⟩
/-- A slice of ints, from its cell. -/
theorem open_intsV {fuel : Nat} {cs : List Value} {x : DataW H × List MemPlace} (h : DataW.trod enc Try.prog W 0 (fun _ => true) true fuel 57 cs = some x) : ∃ (dv : Value) (d : List Int), cs = [dv] ∧ Src W dv 1 d.length (d.map fun n => .int .i64 n) ∧ Len x.1 d.length := by
  rcases open_ints Try.underlying57 Try.underlying3 (by kernel_rfl) h with ⟨rfl, rfl⟩ | ⟨a, len, cap, zs, rfl, _, hl, hm, hz, rfl, hcell, hwf⟩
  · exact ⟨_, [], rfl, Src.nil _ _, .inl rfl⟩
  · simp only [if_true] at hz
    have hlen : (zs.take len).length = len := by simp; omega
    refine ⟨_, zs.take len, rfl, ?_, ?_⟩
    · rw [hlen]
      obtain ⟨b, off, spot⟩ := a
      refine ⟨some ⟨b, off, spot⟩, cap, rfl, hl, by simp; omega, fun h0 => ?_⟩
      have hspot : spot = none := by simpa [Addr.add] using World.cell?_spot (hcell 0 (by omega))
      subst hspot
      refine ⟨b, off, rfl, fun j u hj => ?_⟩
      rw [List.getElem?_map] at hj
      obtain ⟨z, hz', rfl⟩ := Option.map_eq_some_iff.1 hj
      have hjl : j < len := by
        have := (List.getElem?_eq_some_iff.1 hz').1
        simp at this; omega
      rw [List.getElem?_take_of_lt hjl] at hz'
      have := hcell j (by omega)
      rw [add_at, List.getD, hz'] at this
      exact this
    · rw [hlen]
      exact .inr ⟨lits .i64 (zs.take len), lits .i64 (zs.drop len), rfl, by simp [lits]; omega⟩
theorem i64_wf {n : Int} (h : (Lit.int .i64 n).wf = true) : -9223372036854775808 ≤ n ∧ n ≤ 9223372036854775807 := by
  simp only [Lit.wf, IntKind.min, IntKind.max, IntKind.signed, IntKind.bits] at h
  simp at h
  omega
/-- The bounds on a step's lists, off its datum. -/
def StepFits (d : DataW H) : Prop := ∀ parts, d = .agg parts → (∀ q n, parts[5]? = some q → Len q n → n ≤ 140737488355328) ∧ ∀ q n, parts[7]? = some q → Len q n → n ≤ 17592186044416
theorem stepFits_bulk {d : DataW H} (h : Rows.uptoBulk d ≤ 1048576) : StepFits d := by
  rintro parts rfl
  refine ⟨fun q n hq hl => ?_, fun q n hq hl => ?_⟩
  · have := hl.bulk; have := bulk_agg (List.mem_of_getElem? hq); omega
  · have := hl.bulk; have := bulk_agg (List.mem_of_getElem? hq); omega
/-- One step. -/
theorem open_step {fuel : Nat} {cs : List Value} {x : DataW H × List MemPlace} (hb : StepFits x.1) (h : DataW.trod enc Try.prog W 0 (fun _ => true) true fuel 59 cs = some x) : ∃ (s : StepA) (dv pv : Value), cs = stepCells s dv pv ∧ StepV W s dv pv := by
  obtain ⟨xs, k, rfl, rfl, hlen, hxl, hf⟩ := DataW.trod_struct Try.underlying59 h
  have c10 : Try.prog.cellsOf 59 = 10 := by kernel_rfl
  rw [c10] at hlen
  match cs, hlen with
  | [c0, c1, c2, c3, c4, c5, c6, c7, c8, c9], _ =>
  match xs, hxl with
  | [x0, x1, x2, x3, x4, x5, x6, x7], _ =>
  have g0 : DataW.trod enc Try.prog W 0 (fun _ => true) true k 3 (([c0, c1, c2, c3, c4, c5, c6, c7, c8, c9].drop 0).take (Try.prog.cellsOf 3)) = some x0 := hf 0 _ rfl
  have g1 : DataW.trod enc Try.prog W 0 (fun _ => true) true k 9 (([c0, c1, c2, c3, c4, c5, c6, c7, c8, c9].drop 1).take (Try.prog.cellsOf 9)) = some x1 := hf 1 _ rfl
  have g2 : DataW.trod enc Try.prog W 0 (fun _ => true) true k 9 (([c0, c1, c2, c3, c4, c5, c6, c7, c8, c9].drop 2).take (Try.prog.cellsOf 9)) = some x2 := hf 2 _ rfl
  have g3 : DataW.trod enc Try.prog W 0 (fun _ => true) true k 3 (([c0, c1, c2, c3, c4, c5, c6, c7, c8, c9].drop 3).take (Try.prog.cellsOf 3)) = some x3 := hf 3 _ rfl
  have g4 : DataW.trod enc Try.prog W 0 (fun _ => true) true k 3 (([c0, c1, c2, c3, c4, c5, c6, c7, c8, c9].drop 4).take (Try.prog.cellsOf 3)) = some x4 := hf 4 _ rfl
  have g5 : DataW.trod enc Try.prog W 0 (fun _ => true) true k 30 (([c0, c1, c2, c3, c4, c5, c6, c7, c8, c9].drop 5).take (Try.prog.cellsOf 30)) = some x5 := hf 5 _ rfl
  have g6 : DataW.trod enc Try.prog W 0 (fun _ => true) true k 46 (([c0, c1, c2, c3, c4, c5, c6, c7, c8, c9].drop 6).take (Try.prog.cellsOf 46)) = some x6 := hf 6 _ rfl
  have g7 : DataW.trod enc Try.prog W 0 (fun _ => true) true k 57 (([c0, c1, c2, c3, c4, c5, c6, c7, c8, c9].drop 9).take (Try.prog.cellsOf 57)) = some x7 := hf 7 _ rfl
  have k3 : Try.prog.cellsOf 3 = 1 := by kernel_rfl
  have k9 : Try.prog.cellsOf 9 = 1 := by kernel_rfl
  have k30 : Try.prog.cellsOf 30 = 1 := by kernel_rfl
  have k46 : Try.prog.cellsOf 46 = 3 := by kernel_rfl
  have k57 : Try.prog.cellsOf 57 = 1 := by kernel_rfl
  simp only [k3, k9, k30, k46, k57, List.drop_zero, List.drop_succ_cons, List.take_succ_cons, List.take_zero, List.getElem?_cons_zero, List.getElem?_cons_succ] at g0 g1 g2 g3 g4 g5 g6 g7
  obtain ⟨n0, e0, r0, w0⟩ := DataW.trod_int Try.underlying3 g0
  obtain ⟨s1, e1, r1, w1⟩ := DataW.trod_string Try.underlying9 g1
  obtain ⟨s2, e2, r2, w2⟩ := DataW.trod_string Try.underlying9 g2
  obtain ⟨n3, e3, r3, w3⟩ := DataW.trod_int Try.underlying3 g3
  obtain ⟨n4, e4, r4, w4⟩ := DataW.trod_int Try.underlying3 g4
  obtain ⟨dv, d5, e5, s5, l5⟩ := open_bytes g5
  obtain ⟨pv, d7, e7, s7, l7⟩ := open_intsV g7
  obtain ⟨ys, k', hk', hx6, hlen6, hyl, hf6⟩ := DataW.trod_struct Try.underlying46 g6
  match ys, hyl with
  | [y0, y1, y2], _ =>
  have p0 : DataW.trod enc Try.prog W 0 (fun _ => true) true k' 3 (([c6, c7, c8].drop 0).take (Try.prog.cellsOf 3)) = some y0 := hf6 0 _ rfl
  have p1 : DataW.trod enc Try.prog W 0 (fun _ => true) true k' 3 (([c6, c7, c8].drop 1).take (Try.prog.cellsOf 3)) = some y1 := hf6 1 _ rfl
  have p2 : DataW.trod enc Try.prog W 0 (fun _ => true) true k' 3 (([c6, c7, c8].drop 2).take (Try.prog.cellsOf 3)) = some y2 := hf6 2 _ rfl
  simp only [k3, List.drop_zero, List.drop_succ_cons, List.take_succ_cons, List.take_zero, List.getElem?_cons_zero, List.getElem?_cons_succ] at p0 p1 p2
  obtain ⟨m0, q0, _, _⟩ := DataW.trod_int Try.underlying3 p0
  obtain ⟨m1, q1, _, _⟩ := DataW.trod_int Try.underlying3 p1
  obtain ⟨m2, q2, _, _⟩ := DataW.trod_int Try.underlying3 p2
  simp only [List.cons.injEq, and_true] at e0 e1 e2 e3 e4 e5 e7 q0 q1 q2
  subst e0 e1 e2 e3 e4 e5 e7 q0 q1 q2
  obtain ⟨hb5, hb7⟩ := hb _ rfl
  exact ⟨⟨n0, s1, s2, n3, n4, d5, ⟨m0, m1, m2⟩, d7⟩, c5, c9, rfl, ⟨s5, s7, w1, w2, i64_wf w3, hb5 _ _ rfl l5, hb7 _ _ rfl l7⟩⟩
/-- A script. -/
theorem open_script {v : Value} {d : DataW H} {ps : List MemPlace} (hb : ∀ elems spare, d = .slice elems spare → ∀ e ∈ elems, StepFits e) (hv : Value.okWide Try.prog W .any 0 55 v) (h : DataW.Trod enc Try.prog W 0 (fun _ => true) true 55 v d ps) : ∃ l : Script, ScriptV W v l := by
  obtain ⟨a0, len, cap, rfl⟩ := okWide_slice Try.underlying55 hv
  obtain ⟨fuel, hf⟩ := h
  have c10 : Try.prog.cellsOf 59 = 10 := by kernel_rfl
  rcases Go.Deep.open_slice Try.underlying55 hf with ⟨hcs, hx⟩ | ⟨a, len', cap', m, n, Ds, Pl, hcs, _, hl, hm, hmm, hx, hcell⟩
  · simp [Value.cells] at hcs
    obtain ⟨rfl, rfl, rfl⟩ := hcs
    exact ⟨[], Src.nil _ _, fun p hp => by cases hp⟩
  · simp [Value.cells] at hcs
    obtain ⟨rfl, rfl, rfl⟩ := hcs
    simp only [if_true] at hmm
    rw [c10] at hcell
    injection hx with hx _
    have each : ∀ i, i < len → ∃ p : StepA × Value × Value, StepV W p.1 p.2.1 p.2.2 ∧ ∀ j u, (stepCells p.1 p.2.1 p.2.2)[j]? = some u → W.cell? ((a.add (i * 10)).add j) = some u := by
      intro i hi
      obtain ⟨cs', h1, h2⟩ := hcell i (by omega)
      obtain ⟨_, hlen, hc⟩ := World.cells?_some h1
      have hD : StepFits (Ds i) := hb _ _ hx _ (List.mem_map.2 ⟨i, List.mem_range.2 hi, rfl⟩)
      obtain ⟨s, dv, pv, rfl, hs⟩ := open_step (x := (Ds i, Pl i)) hD h2
      refine ⟨(s, dv, pv), hs, fun j u hj => ?_⟩
      rw [hc j (List.getElem?_eq_some_iff.1 hj).1]; exact hj
    have hS : ∃ g : Nat → StepA × Value × Value, ∀ i, i < len → StepV W (g i).1 (g i).2.1 (g i).2.2 ∧ ∀ j u, (stepCells (g i).1 (g i).2.1 (g i).2.2)[j]? = some u → W.cell? ((a.add (i * 10)).add j) = some u := by
      classical
      refine ⟨fun i => if h : i < len then Classical.choose (each i h) else (⟨0, .empty, .empty, 0, 0, [], ⟨0, 0, 0⟩, []⟩, undef, undef), fun i hi => ?_⟩
      simp only [dif_pos hi]
      exact Classical.choose_spec (each i hi)
    obtain ⟨g, hg⟩ := hS
    refine ⟨(List.range len).map g, ?_, ?_⟩
    · rw [List.length_map, List.length_range]
      have hfl : (scriptCells ((List.range len).map g)).length = len * 10 := by
        have : ∀ l : Script, (scriptCells l).length = l.length * 10 := by
          intro l
          induction l with
          | nil => rfl
          | cons p r ih => unfold scriptCells at *; rw [List.flatMap_cons, List.length_append, ih]; simp [stepCells]; omega
        rw [this]; simp
      obtain ⟨b, off, spot⟩ := a
      refine ⟨some ⟨b, off, spot⟩, cap, rfl, hl, hfl, fun hpos => ?_⟩
      have h00 := (hg 0 hpos).2 0 _ rfl
      have hspot : spot = none := by simpa [Addr.add] using World.cell?_spot h00
      subst hspot
      refine ⟨b, off, rfl, fun j u hj => ?_⟩
      have hjl : j < len * 10 := by have := (List.getElem?_eq_some_iff.1 hj).1; rw [hfl] at this; exact this
      have hi : j / 10 < len := by omega
      have hgi : ((List.range len).map g)[j / 10]? = some (g (j / 10)) := by simp [hi]
      have hfa := flatAt (f := fun p : StepA × Value × Value => stepCells p.1 p.2.1 p.2.2) (n := 10) (fun _ => rfl) (l := (List.range len).map g) (i := j / 10) (j := j % 10) hgi (Nat.mod_lt _ (by omega))
      have e : j / 10 * 10 + j % 10 = j := by omega
      rw [e] at hfa
      unfold scriptCells at hj
      rw [hfa] at hj
      have := (hg (j / 10) hi).2 (j % 10) u hj
      rw [add_at, add_at] at this
      have e2 : off + j / 10 * 10 + j % 10 = off + j := by omega
      rw [e2] at this
      exact this
    · intro p hp
      obtain ⟨i, hi, rfl⟩ := List.mem_map.1 hp
      exact (hg i (List.mem_range.1 hi)).1
theorem script_bulk {d : DataW H} (h : Rows.uptoBulk d ≤ 1048576) : ∀ elems spare, d = .slice elems spare → ∀ e ∈ elems, StepFits e := by
  rintro elems spare rfl e he
  exact stepFits_bulk (Nat.le_trans (bulk_elem he) h)
theorem weights_all {P : Program} {t : TypeId} {d : DataW H} : ∀ {l : List (DataW H)}, d ∈ l → ∀ n ∈ d.weights P t, n ∈ DataW.weightsAll P t l
  | a :: r, h, n, hn => by
    simp only [DataW.weightsAll, List.mem_append]
    rcases List.mem_cons.1 h with rfl | h
    · exact Or.inl hn
    · exact Or.inr (weights_all h n hn)
theorem len_weight {P : Program} {t e : TypeId} {d : DataW H} {n b : Nat} (ht : P.underlying t = some (.slice e)) (hb : P.bytesOf e = b) (hl : Len d n) (hw : ∀ m ∈ d.weights P t, m ≤ reachBytes) : n * b ≤ reachBytes := by
  rcases hl with rfl | ⟨el, sp, rfl, rfl⟩
  · rw [Nat.zero_mul]; exact Nat.zero_le _
  · have := hw ((el.length + sp.length) * P.bytesOf e) (by simp [DataW.weights, ht])
    rw [hb] at this
    exact Nat.le_trans (Nat.mul_le_mul_right _ (by omega)) this
theorem stepFits_weights {d : DataW H} (hw : ∀ m ∈ d.weights Try.prog 59, m ≤ reachBytes) : StepFits d := by
  have hr : reachBytes ≤ 140737488355328 := by decide
  rintro parts rfl
  have hu := Try.underlying59
  have hwe : DataW.weights Try.prog 59 (.agg parts) = DataW.weightsEach Try.prog [3, 9, 9, 3, 3, 30, 46, 57] parts := by
    simp only [DataW.weights, hu]
    rfl
  have sub : ∀ (j : Nat) (q : DataW H) (t : TypeId), parts[j]? = some q → [3, 9, 9, 3, 3, 30, 46, 57][j]? = some t → ∀ m ∈ q.weights Try.prog t, m ≤ reachBytes := by
    intro j q t hq ht m hm
    refine hw m ?_
    rw [hwe]
    exact DataW.weights_mem_each ht hq m hm
  refine ⟨fun q n hq hl => ?_, fun q n hq hl => ?_⟩
  · have := len_weight (b := 1) Try.underlying30 (by kernel_rfl) hl (sub 5 q 30 hq rfl)
    omega
  · have := len_weight (b := 8) Try.underlying57 (by kernel_rfl) hl (sub 7 q 57 hq rfl)
    omega
theorem script_weights {d : DataW H} (hw : ∀ m ∈ d.weights Try.prog 55, m ≤ reachBytes) : ∀ elems spare, d = .slice elems spare → ∀ e ∈ elems, StepFits e := by
  rintro elems spare rfl e he
  refine stepFits_weights fun m hm => hw m ?_
  simp only [DataW.weights, Try.underlying55, List.mem_cons, List.mem_append]
  exact Or.inr (Or.inl (weights_all he m hm))
end
end Go.Proofs.Ytcdcojpfealppaa
