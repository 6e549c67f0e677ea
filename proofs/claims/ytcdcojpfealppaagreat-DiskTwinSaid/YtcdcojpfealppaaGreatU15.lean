/- Put together by a program (wip/tools/shake.py): Script, XSep, XSep2, XSep3, XOwn, XRefuse, XSafe, XRef, List. -/
import Derived.Test.YtcdcojpfealppaaGreatRows
import Derived.Test.YtcdcojpfealppaaGreatU14
import Derived.JoinedCond
import Derived.Deep.Slices
import Derived.Test.YtcdcojpfealppaaGreatU2
import Derived.Test.YtcdcojpfealppaaGreatU3
import Derived.Lib.SliceRun
set_option linter.unusedVariables false
set_option linter.unusedSimpArgs false
set_option maxRecDepth 100000
namespace Go.Proofs.YtcdcojpfealppaaGreat
open Go Go.ChangeShapes Go.WideShapes Go.ChangeAt Go.RowKit Go.Proofs Go.Proofs.XRed Go.Proofs.XHeap Go.Proofs.XSlices Go.Proofs.XRow Go.Proofs.XDisk Tryz
section
variable {H : Type} {enc : TypeId × Value → H}
variable {W : World}
def Len (d : DataW H) (n : Nat) : Prop := n = 0 ∨ ∃ e s, d = .slice e s ∧ e.length = n
theorem open_bytes {fuel : Nat} {cs : List Value} {x : DataW H × List MemPlace} (h : DataW.trod enc prog W 0 (fun _ => true) true fuel 36 cs = some x) : ∃ (dv : Value) (d : Bytes), cs = [dv] ∧ SBytes W dv d ∧ Len x.1 d.length := by
 rcases open_ints underlying36 underlying5 (by kernel_rfl) h with ⟨rfl, rfl⟩ | ⟨a, len, cap, zs, rfl, _, hl, hm, hz, rfl, hcell, hwf⟩
 ·exact ⟨_, [], rfl, SBytes.nil _, .inl rfl⟩
 ·simp only [if_true] at hz
  have hbyte : ∀ z ∈ zs, ((UInt8.ofNat z.toNat).toNat : Int) = z := by
   intro z hz
   have hb := hwf z hz
   simp only [Lit.wf, IntKind.min, IntKind.max, IntKind.signed, IntKind.bits] at hb
   simp at hb
   have : (UInt8.ofNat z.toNat).toNat = z.toNat := by simp; omega
   rw [this]; omega
  have hlen : ((zs.take len).map fun z => UInt8.ofNat z.toNat).length = len := by simp; omega
  refine ⟨_, (zs.take len).map fun z => UInt8.ofNat z.toNat, rfl, ?_, ?_⟩
  ·unfold SBytes
   rw [hlen]
   obtain ⟨b, off, spot⟩ := a
   refine ⟨some ⟨b, off, spot⟩, cap, rfl, hl, by simp [u8s]; omega, fun h0 => ?_⟩
   have hspot : spot = none := by simpa [Addr.add] using World.cell?_spot (hcell 0 (by omega))
   subst hspot
   refine ⟨b, off, rfl, fun j u hj => ?_⟩
   unfold u8s at hj
   rw [List.map_map, List.getElem?_map] at hj
   obtain ⟨z, hz', rfl⟩ := Option.map_eq_some_iff.1 hj
   have hjl : j < len := by
    have := (List.getElem?_eq_some_iff.1 hz').1
    simp at this; omega
   rw [List.getElem?_take_of_lt hjl] at hz'
   have := hcell j (by omega)
   rw [add_at, List.getD, hz'] at this
   rw [this]
   show some (Value.int .u8 z) = some (Value.int .u8 ((UInt8.ofNat z.toNat).toNat : Int))
   rw [hbyte z (List.mem_of_getElem? hz')]
  ·rw [hlen]
   exact .inr ⟨lits .u8 (zs.take len), lits .u8 (zs.drop len), rfl, by simp [lits]; omega⟩
theorem open_intsV {fuel : Nat} {cs : List Value} {x : DataW H × List MemPlace} (h : DataW.trod enc prog W 0 (fun _ => true) true fuel 39 cs = some x) : ∃ (dv : Value) (d : List Int), cs = [dv] ∧ Src W dv 1 d.length (d.map fun n => .int .i64 n) ∧ Len x.1 d.length := by
 rcases open_ints underlying39 underlying3 (by kernel_rfl) h with ⟨rfl, rfl⟩ | ⟨a, len, cap, zs, rfl, _, hl, hm, hz, rfl, hcell, hwf⟩
 ·exact ⟨_, [], rfl, Src.nil _ _, .inl rfl⟩
 ·simp only [if_true] at hz
  have hlen : (zs.take len).length = len := by simp; omega
  refine ⟨_, zs.take len, rfl, ?_, ?_⟩
  ·rw [hlen]
   obtain ⟨b, off, spot⟩ := a
   refine ⟨some ⟨b, off, spot⟩, cap, rfl, hl, by simp; omega, fun h0 => ?_⟩
   have hspot : spot = none := by simpa [Addr.add] using World.cell?_spot (hcell 0 (by omega))
   subst hspot
   refine ⟨b, off, rfl, fun j u hj => ?_⟩
   rw [List.getElem?_map] at hj
   obtain ⟨z, hz', rfl⟩ := Option.map_eq_some_iff.1 hj
   have hjl : j < len := by
    have := (List.getElem?_eq_some_iff.1 hz').1
    simp at this; omega
   rw [List.getElem?_take_of_lt hjl] at hz'
   have := hcell j (by omega)
   rw [add_at, List.getD, hz'] at this
   exact this
  ·rw [hlen]
   exact .inr ⟨lits .i64 (zs.take len), lits .i64 (zs.drop len), rfl, by simp [lits]; omega⟩
theorem i64_wf {n : Int} (h : (Lit.int .i64 n).wf = true) : -9223372036854775808 ≤ n ∧ n ≤ 9223372036854775807 := by
 simp only [Lit.wf, IntKind.min, IntKind.max, IntKind.signed, IntKind.bits] at h
 simp at h
 omega
def StepFits (d : DataW H) : Prop := ∀ parts, d = .agg parts → (∀ q n, parts[5]? = some q → Len q n → n ≤ 140737488355328) ∧ ∀ q n, parts[7]? = some q → Len q n → n ≤ 17592186044416
theorem open_step {fuel : Nat} {cs : List Value} {x : DataW H × List MemPlace} (hb : StepFits x.1) (h : DataW.trod enc prog W 0 (fun _ => true) true fuel 41 cs = some x) : ∃ (s : StepA) (dv pv : Value), cs = stepCells s dv pv ∧ StepV W s dv pv := by
 obtain ⟨xs, k, rfl, rfl, hlen, hxl, hf⟩ := DataW.trod_struct underlying41 h
 have c10 : prog.cellsOf 41 = 10 := by kernel_rfl
 rw [c10] at hlen
 match cs, hlen with
 | [c0, c1, c2, c3, c4, c5, c6, c7, c8, c9], _ =>
 match xs, hxl with
 | [x0, x1, x2, x3, x4, x5, x6, x7], _ =>
 have g0 : DataW.trod enc prog W 0 (fun _ => true) true k 3 (([c0, c1, c2, c3, c4, c5, c6, c7, c8, c9].drop 0).take (prog.cellsOf 3)) = some x0 := hf 0 _ rfl
 have g1 : DataW.trod enc prog W 0 (fun _ => true) true k 9 (([c0, c1, c2, c3, c4, c5, c6, c7, c8, c9].drop 1).take (prog.cellsOf 9)) = some x1 := hf 1 _ rfl
 have g2 : DataW.trod enc prog W 0 (fun _ => true) true k 9 (([c0, c1, c2, c3, c4, c5, c6, c7, c8, c9].drop 2).take (prog.cellsOf 9)) = some x2 := hf 2 _ rfl
 have g3 : DataW.trod enc prog W 0 (fun _ => true) true k 3 (([c0, c1, c2, c3, c4, c5, c6, c7, c8, c9].drop 3).take (prog.cellsOf 3)) = some x3 := hf 3 _ rfl
 have g4 : DataW.trod enc prog W 0 (fun _ => true) true k 3 (([c0, c1, c2, c3, c4, c5, c6, c7, c8, c9].drop 4).take (prog.cellsOf 3)) = some x4 := hf 4 _ rfl
 have g5 : DataW.trod enc prog W 0 (fun _ => true) true k 36 (([c0, c1, c2, c3, c4, c5, c6, c7, c8, c9].drop 5).take (prog.cellsOf 36)) = some x5 := hf 5 _ rfl
 have g6 : DataW.trod enc prog W 0 (fun _ => true) true k 38 (([c0, c1, c2, c3, c4, c5, c6, c7, c8, c9].drop 6).take (prog.cellsOf 38)) = some x6 := hf 6 _ rfl
 have g7 : DataW.trod enc prog W 0 (fun _ => true) true k 39 (([c0, c1, c2, c3, c4, c5, c6, c7, c8, c9].drop 9).take (prog.cellsOf 39)) = some x7 := hf 7 _ rfl
 have k3 : prog.cellsOf 3 = 1 := by kernel_rfl
 have k9 : prog.cellsOf 9 = 1 := by kernel_rfl
 have k30 : prog.cellsOf 36 = 1 := by kernel_rfl
 have k46 : prog.cellsOf 38 = 3 := by kernel_rfl
 have k57 : prog.cellsOf 39 = 1 := by kernel_rfl
 simp only [k3, k9, k30, k46, k57, List.drop_zero, List.drop_succ_cons, List.take_succ_cons, List.take_zero, List.getElem?_cons_zero, List.getElem?_cons_succ] at g0 g1 g2 g3 g4 g5 g6 g7
 obtain ⟨n0, e0, r0, w0⟩ := DataW.trod_int underlying3 g0
 obtain ⟨s1, e1, r1, w1⟩ := DataW.trod_string underlying9 g1
 obtain ⟨s2, e2, r2, w2⟩ := DataW.trod_string underlying9 g2
 obtain ⟨n3, e3, r3, w3⟩ := DataW.trod_int underlying3 g3
 obtain ⟨n4, e4, r4, w4⟩ := DataW.trod_int underlying3 g4
 obtain ⟨dv, d5, e5, s5, l5⟩ := open_bytes g5
 obtain ⟨pv, d7, e7, s7, l7⟩ := open_intsV g7
 obtain ⟨ys, k', hk', hx6, hlen6, hyl, hf6⟩ := DataW.trod_struct underlying38 g6
 match ys, hyl with
 | [y0, y1, y2], _ =>
 have p0 : DataW.trod enc prog W 0 (fun _ => true) true k' 3 (([c6, c7, c8].drop 0).take (prog.cellsOf 3)) = some y0 := hf6 0 _ rfl
 have p1 : DataW.trod enc prog W 0 (fun _ => true) true k' 3 (([c6, c7, c8].drop 1).take (prog.cellsOf 3)) = some y1 := hf6 1 _ rfl
 have p2 : DataW.trod enc prog W 0 (fun _ => true) true k' 3 (([c6, c7, c8].drop 2).take (prog.cellsOf 3)) = some y2 := hf6 2 _ rfl
 simp only [k3, List.drop_zero, List.drop_succ_cons, List.take_succ_cons, List.take_zero, List.getElem?_cons_zero, List.getElem?_cons_succ] at p0 p1 p2
 obtain ⟨m0, q0, _, _⟩ := DataW.trod_int underlying3 p0
 obtain ⟨m1, q1, _, _⟩ := DataW.trod_int underlying3 p1
 obtain ⟨m2, q2, _, _⟩ := DataW.trod_int underlying3 p2
 simp only [List.cons.injEq, and_true] at e0 e1 e2 e3 e4 e5 e7 q0 q1 q2
 subst e0 e1 e2 e3 e4 e5 e7 q0 q1 q2
 obtain ⟨hb5, hb7⟩ := hb _ rfl
 exact ⟨⟨n0, s1, s2, n3, n4, d5, ⟨m0, m1, m2⟩, d7⟩, c5, c9, rfl, ⟨s5, s7, w1, w2, i64_wf w3, hb5 _ _ rfl l5, hb7 _ _ rfl l7⟩⟩
theorem open_script {v : Value} {d : DataW H} {ps : List MemPlace} (hb : ∀ elems spare, d = .slice elems spare → ∀ e ∈ elems, StepFits e) (hv : Value.okWide prog W .any 0 22 v) (h : DataW.Trod enc prog W 0 (fun _ => true) true 22 v d ps) : ∃ l : Script, ScriptV W v l := by
 obtain ⟨a0, len, cap, rfl⟩ := okWide_slice underlying22 hv
 obtain ⟨fuel, hf⟩ := h
 have c10 : prog.cellsOf 41 = 10 := by kernel_rfl
 rcases Go.Deep.open_slice underlying22 hf with ⟨hcs, hx⟩ | ⟨a, len', cap', m, n, Ds, Pl, hcs, _, hl, hm, hmm, hx, hcell⟩
 ·simp [Value.cells] at hcs
  obtain ⟨rfl, rfl, rfl⟩ := hcs
  exact ⟨[], Src.nil _ _, fun p hp => by cases hp⟩
 ·simp [Value.cells] at hcs
  obtain ⟨rfl, rfl, rfl⟩ := hcs
  simp only [if_true] at hmm
  rw [c10] at hcell
  injection hx with hx _
  have each : ∀ i, i < len → ∃ p : StepA × Value × Value, StepV W p.1 p.2.1 p.2.2 ∧ ∀ j u, (stepCells p.1 p.2.1 p.2.2)[j]? = some u → W.cell? ((a.add (i * 10)).add j) = some u := by
   intro i hi
   obtain ⟨cs', h1, h2⟩ := hcell i (by omega)
   obtain ⟨_, hlen, hc⟩ := World.cells?_some h1
   have hD : StepFits (Ds i) := hb _ _ hx _ (List.mem_map.2 ⟨i, List.mem_range.2 hi, rfl⟩)
   obtain ⟨s, dv, pv, rfl, hs⟩ := open_step (x := (Ds i, Pl i)) hD h2
   refine ⟨(s, dv, pv), hs, fun j u hj => ?_⟩
   rw [hc j (List.getElem?_eq_some_iff.1 hj).1]; exact hj
  have hS : ∃ g : Nat → StepA × Value × Value, ∀ i, i < len → StepV W (g i).1 (g i).2.1 (g i).2.2 ∧ ∀ j u, (stepCells (g i).1 (g i).2.1 (g i).2.2)[j]? = some u → W.cell? ((a.add (i * 10)).add j) = some u := by
   classical
   refine ⟨fun i => if h : i < len then Classical.choose (each i h) else (⟨0, .empty, .empty, 0, 0, [], ⟨0, 0, 0⟩, []⟩, undef, undef), fun i hi => ?_⟩
   simp only [dif_pos hi]
   exact Classical.choose_spec (each i hi)
  obtain ⟨g, hg⟩ := hS
  refine ⟨(List.range len).map g, ?_, ?_⟩
  ·rw [List.length_map, List.length_range]
   have hfl : (scriptCells ((List.range len).map g)).length = len * 10 := by
    have : ∀ l : Script, (scriptCells l).length = l.length * 10 := by
     intro l
     induction l with
     | nil => rfl
     | cons p r ih => unfold scriptCells at *; rw [List.flatMap_cons, List.length_append, ih]; simp [stepCells]; omega
    rw [this]; simp
   obtain ⟨b, off, spot⟩ := a
   refine ⟨some ⟨b, off, spot⟩, cap, rfl, hl, hfl, fun hpos => ?_⟩
   have h00 := (hg 0 hpos).2 0 _ rfl
   have hspot : spot = none := by simpa [Addr.add] using World.cell?_spot h00
   subst hspot
   refine ⟨b, off, rfl, fun j u hj => ?_⟩
   have hjl : j < len * 10 := by have := (List.getElem?_eq_some_iff.1 hj).1; rw [hfl] at this; exact this
   have hi : j / 10 < len := by omega
   have hgi : ((List.range len).map g)[j / 10]? = some (g (j / 10)) := by simp [hi]
   have hfa := flatAt (f := fun p : StepA × Value × Value => stepCells p.1 p.2.1 p.2.2) (n := 10) (fun _ => rfl) (l := (List.range len).map g) (i := j / 10) (j := j % 10) hgi (Nat.mod_lt _ (by omega))
   have e : j / 10 * 10 + j % 10 = j := by omega
   rw [e] at hfa
   unfold scriptCells at hj
   rw [hfa] at hj
   have := (hg (j / 10) hi).2 (j % 10) u hj
   rw [add_at, add_at] at this
   have e2 : off + j / 10 * 10 + j % 10 = off + j := by omega
   rw [e2] at this
   exact this
  ·intro p hp
   obtain ⟨i, hi, rfl⟩ := List.mem_map.1 hp
   exact (hg i (List.mem_range.1 hi)).1
theorem weights_all {P : Program} {t : TypeId} {d : DataW H} : ∀ {l : List (DataW H)}, d ∈ l → ∀ n ∈ d.weights P t, n ∈ DataW.weightsAll P t l
 | a :: r, h, n, hn => by
  simp only [DataW.weightsAll, List.mem_append]
  rcases List.mem_cons.1 h with rfl | h
  ·exact Or.inl hn
  ·exact Or.inr (weights_all h n hn)
theorem len_weight {P : Program} {t e : TypeId} {d : DataW H} {n b : Nat} (ht : P.underlying t = some (.slice e)) (hb : P.bytesOf e = b) (hl : Len d n) (hw : ∀ m ∈ d.weights P t, m ≤ reachBytes) : n * b ≤ reachBytes := by
 rcases hl with rfl | ⟨el, sp, rfl, rfl⟩
 ·rw [Nat.zero_mul]; exact Nat.zero_le _
 ·have := hw ((el.length + sp.length) * P.bytesOf e) (by simp [DataW.weights, ht])
  rw [hb] at this
  exact Nat.le_trans (Nat.mul_le_mul_right _ (by omega)) this
theorem stepFits_weights {d : DataW H} (hw : ∀ m ∈ d.weights prog 41, m ≤ reachBytes) : StepFits d := by
 have hr : reachBytes ≤ 140737488355328 := by decide
 rintro parts rfl
 have hu := underlying41
 have hwe : DataW.weights prog 41 (.agg parts) = DataW.weightsEach prog [3, 9, 9, 3, 3, 36, 38, 39] parts := by
  simp only [DataW.weights, hu]
  rfl
 have sub : ∀ (j : Nat) (q : DataW H) (t : TypeId), parts[j]? = some q → [3, 9, 9, 3, 3, 36, 38, 39][j]? = some t → ∀ m ∈ q.weights prog t, m ≤ reachBytes := by
  intro j q t hq ht m hm
  refine hw m ?_
  rw [hwe]
  exact DataW.weights_mem_each ht hq m hm
 refine ⟨fun q n hq hl => ?_, fun q n hq hl => ?_⟩
 ·have := len_weight (b := 1) underlying36 (by kernel_rfl) hl (sub 5 q 36 hq rfl)
  omega
 ·have := len_weight (b := 8) underlying39 (by kernel_rfl) hl (sub 7 q 39 hq rfl)
  omega
theorem script_weights {d : DataW H} (hw : ∀ m ∈ d.weights prog 22, m ≤ reachBytes) : ∀ elems spare, d = .slice elems spare → ∀ e ∈ elems, StepFits e := by
 rintro elems spare rfl e he
 refine stepFits_weights fun m hm => hw m ?_
 simp only [DataW.weights, underlying22, List.mem_cons, List.mem_append]
 exact Or.inr (Or.inl (weights_all he m hm))
end
end Go.Proofs.YtcdcojpfealppaaGreat

set_option linter.unusedVariables false
namespace Go.Proofs.XSep
open Go Go.RowKit Go.Proofs.XRed Go.Proofs.XHeap
abbrev Blks := Nat → Prop
structure Asrt where
 h : World → Blks → Blks → Prop
 fr : ∀ {w w' : World} {O I M : Blks}, h w O I → Fr M w w' → (∀ b, M b → ¬ O b ∧ ¬ I b) → h w' O I
 lt : ∀ {w : World} {O I : Blks}, h w O I → ∀ b, O b ∨ I b → b < w.heap.size
 ap : ∀ {w : World} {O I : Blks}, h w O I → ∀ b, O b → ¬ I b
structure Nxt (w : World) (O J : Blks) (w' : World) (O' I' : Blks) : Prop where
 fr : Fr O w w'
 on : ∀ b, O' b → O b ∨ w.heap.size ≤ b
 in_ : ∀ b, I' b → J b ∨ w.heap.size ≤ b
def Apart (O1 I1 O2 I2 : Blks) : Prop := (∀ b, O1 b → ¬ O2 b ∧ ¬ I2 b) ∧ ∀ b, O2 b → ¬ O1 b ∧ ¬ I1 b
def Seps : List Asrt → World → Blks → Blks → Prop
 | [], _, O, I => (∀ b, ¬ O b) ∧ ∀ b, ¬ I b
 | a :: l, w, O, I => ∃ O1 I1 O2 I2, a.h w O1 I1 ∧ Seps l w O2 I2 ∧ Apart O1 I1 O2 I2 ∧ (∀ b, O b ↔ O1 b ∨ O2 b) ∧ ∀ b, I b ↔ I1 b ∨ I2 b
def Sep (l : List Asrt) (w : World) : Prop := ∃ O I, Seps l w O I
theorem Seps.fr {w w' : World} {M : Blks} (hf : Fr M w w') : ∀ {l : List Asrt} {O I : Blks}, Seps l w O I → (∀ b, M b → ¬ O b ∧ ¬ I b) → Seps l w' O I
  | [], _, _, h, _ => h
  | a :: l, O, I, ⟨O1, I1, O2, I2, h1, h2, h3, h4, h5⟩, hm => ⟨O1, I1, O2, I2, a.fr h1 hf fun b hb => ⟨fun h => (hm b hb).1 ((h4 b).2 (.inl h)), fun h => (hm b hb).2 ((h5 b).2 (.inl h))⟩,
      Seps.fr hf h2 (fun b hb => ⟨fun h => (hm b hb).1 ((h4 b).2 (.inr h)), fun h => (hm b hb).2 ((h5 b).2 (.inr h))⟩), h3, h4, h5⟩
theorem Seps.lt {w : World} : ∀ {l : List Asrt} {O I : Blks}, Seps l w O I → ∀ b, O b ∨ I b → b < w.heap.size
 | [], _, _, h, b, hb => hb.elim (fun h' => absurd h' (h.1 b)) fun h' => absurd h' (h.2 b)
 | a :: l, O, I, ⟨O1, I1, O2, I2, h1, h2, h3, h4, h5⟩, b, hb => by
  rcases hb with hb | hb
  ·exact ((h4 b).1 hb).elim (fun h => a.lt h1 b (.inl h)) fun h => Seps.lt h2 b (.inl h)
  ·exact ((h5 b).1 hb).elim (fun h => a.lt h1 b (.inr h)) fun h => Seps.lt h2 b (.inr h)
theorem Seps.ap {w : World} : ∀ {l : List Asrt} {O I : Blks}, Seps l w O I → ∀ b, O b → ¬ I b
 | [], _, _, h, b, hb => absurd hb (h.1 b)
 | a :: l, O, I, ⟨O1, I1, O2, I2, h1, h2, h3, h4, h5⟩, b, hb => fun hi => by
  rcases (h4 b).1 hb with h | h <;> rcases (h5 b).1 hi with k | k
  ·exact a.ap h1 b h k
  ·exact (h3.1 b h).2 k
  ·exact (h3.2 b h).2 k
  ·exact Seps.ap h2 b h k
theorem Seps.at_ {w : World} {J : Blks} {a : Asrt} : ∀ {l : List Asrt} {i : Nat} {O I : Blks}, Seps l w O I → (∀ b, O b → ¬ J b) → l[i]? = some a →
    ∃ O1 I1, a.h w O1 I1 ∧ (∀ b, O1 b → O b) ∧ (∀ b, I1 b → I b) ∧ ∀ c w' O' I', c.h w' O' I' → Nxt w O1 J w' O' I' → ∃ O2 I2, Seps (l.set i c) w' O2 I2 ∧ Fr O w w' ∧ (∀ b, O2 b → O b ∨ w.heap.size ≤ b) ∧ ∀ b, I2 b → I b ∨ J b ∨ w.heap.size ≤ b
  | [], _, _, _, _, _, h => by simp at h
  | x :: l, 0, O, I, ⟨O1, I1, O2, I2, h1, h2, h3, h4, h5⟩, hJ, hi => by
    simp at hi; subst hi
    refine ⟨O1, I1, h1, fun b hb => (h4 b).2 (.inl hb), fun b hb => (h5 b).2 (.inl hb), fun c w' O' I' hc hn => ?_⟩
    refine ⟨fun b => O' b ∨ O2 b, fun b => I' b ∨ I2 b, ⟨O', I', O2, I2, hc, Seps.fr hn.fr h2 h3.1, ⟨fun b hb => ?_, fun b hb => ?_⟩, fun _ => Iff.rfl, fun _ => Iff.rfl⟩, ?_, ?_, ?_⟩
    · rcases hn.on b hb with h | h
      · exact h3.1 b h
      · exact ⟨fun h' => absurd (h2.lt b (.inl h')) (by omega), fun h' => absurd (h2.lt b (.inr h')) (by omega)⟩
    · have hlt := h2.lt b (.inl hb)
      refine ⟨fun h => ?_, fun h => ?_⟩
      · rcases hn.on b h with h | h
        · exact (h3.1 b h).1 hb
        · omega
      · rcases hn.in_ b h with h | h
        · exact hJ b ((h4 b).2 (.inr hb)) h
        · omega
    · exact hn.fr.mono fun b hb => .inl ((h4 b).2 (.inl hb))
    · rintro b (hb | hb)
      · exact (hn.on b hb).imp (fun h => (h4 b).2 (.inl h)) id
      · exact .inl ((h4 b).2 (.inr hb))
    · rintro b (hb | hb)
      · exact .inr (hn.in_ b hb)
      · exact .inl ((h5 b).2 (.inr hb))
  | x :: l, i + 1, O, I, ⟨O1, I1, O2, I2, h1, h2, h3, h4, h5⟩, hJ, hi => by
    obtain ⟨Oa, Ia, ha, ho, hi2, hs⟩ := Seps.at_ (J := J) (i := i) h2 (fun b hb => hJ b ((h4 b).2 (.inr hb))) (by simpa using hi)
    refine ⟨Oa, Ia, ha, fun b hb => (h4 b).2 (.inr (ho b hb)), fun b hb => (h5 b).2 (.inr (hi2 b hb)), fun c w' O' I' hc hn => ?_⟩
    obtain ⟨O3, I3, hs3, hf, hon, hin⟩ := hs c w' O' I' hc hn
    refine ⟨fun b => O1 b ∨ O3 b, fun b => I1 b ∨ I3 b, ⟨O1, I1, O3, I3, x.fr h1 hf h3.2, hs3, ⟨fun b hb => ?_, fun b hb => ?_⟩, fun _ => Iff.rfl, fun _ => Iff.rfl⟩, ?_, ?_, ?_⟩
    · have hlt := x.lt h1 b (.inl hb)
      refine ⟨fun h => ?_, fun h => ?_⟩
      · rcases hon b h with h | h
        · exact (h3.1 b hb).1 h
        · omega
      · rcases hin b h with h | h | h
        · exact (h3.1 b hb).2 h
        · exact hJ b ((h4 b).2 (.inl hb)) h
        · omega
    · rcases hon b hb with h | h
      · exact h3.2 b h
      · exact ⟨fun h' => absurd (x.lt h1 b (.inl h')) (by omega), fun h' => absurd (x.lt h1 b (.inr h')) (by omega)⟩
    · exact hf.mono fun b hb => .inl ((h4 b).2 (.inr hb))
    · rintro b (hb | hb)
      · exact .inl ((h4 b).2 (.inl hb))
      · exact (hon b hb).imp (fun h => (h4 b).2 (.inr h)) id
    · rintro b (hb | hb)
      · exact .inl ((h5 b).2 (.inl hb))
      · rcases hin b hb with h | h
        · exact .inl ((h5 b).2 (.inr h))
        · exact .inr h
theorem Sep.at_ {l : List Asrt} {w : World} (h : Sep l w) (i : Nat) {a : Asrt} (hi : l[i]? = some a) :
    ∃ O I J, a.h w O I ∧ (∀ b, I b → J b) ∧ (∀ b, O b → ¬ J b) ∧ ∀ c w' O' I', c.h w' O' I' → Nxt w O J w' O' I' → Sep (l.set i c) w' := by
  obtain ⟨O, I, hs⟩ := h
  obtain ⟨O1, I1, h1, h2, h3, h4⟩ := hs.at_ (J := I) hs.ap hi
  refine ⟨O1, I1, I, h1, h3, fun b hb => hs.ap b (h2 b hb), fun c w' O' I' hc hn => ?_⟩
  obtain ⟨O2, I2, h5, -⟩ := h4 c w' O' I' hc hn
  exact ⟨O2, I2, h5⟩
theorem Sep.get {l : List Asrt} {w : World} (h : Sep l w) (i : Nat) {a : Asrt} (hi : l[i]? = some a) : ∃ O I, a.h w O I := by
 obtain ⟨O, I, J, h, -⟩ := h.at_ i hi; exact ⟨O, I, h⟩
theorem Sep.quiet {l : List Asrt} {w w' : World} {M : Blks} (h : Sep l w) (hf : Fr M w w') (hm : ∀ b, M b → w.heap.size ≤ b) : Sep l w' := by
 obtain ⟨O, I, hs⟩ := h
 exact ⟨O, I, hs.fr hf fun b hb => ⟨fun h' => absurd (hs.lt b (.inl h')) (by have := hm b hb; omega), fun h' => absurd (hs.lt b (.inr h')) (by have := hm b hb; omega)⟩⟩
theorem Sep.q {l : List Asrt} {w w' : World} (h : Sep l w) (hf : Fr (fun _ => False) w w') : Sep l w' := h.quiet hf fun b hb => hb.elim
theorem Sep.new {l : List Asrt} {w w' : World} {M : Blks} {a : Asrt} {O' I' : Blks} (h : Sep l w) (hf : Fr M w w') (hm : ∀ b, M b → w.heap.size ≤ b) (ha : a.h w' O' I') (ho : ∀ b, O' b → w.heap.size ≤ b) (hi : ∀ b, I' b → w.heap.size ≤ b) : Sep (a :: l) w' := by
 obtain ⟨O, I, hs⟩ := h
 refine ⟨_, _, O', I', O, I, ha, hs.fr hf fun b hb => ⟨fun h' => absurd (hs.lt b (.inl h')) (by have := hm b hb; omega), fun h' => absurd (hs.lt b (.inr h')) (by have := hm b hb; omega)⟩, ⟨fun b hb => ?_, fun b hb => ?_⟩, fun _ => Iff.rfl, fun _ => Iff.rfl⟩
 ·have := ho b hb
  exact ⟨fun h' => absurd (hs.lt b (.inl h')) (by omega), fun h' => absurd (hs.lt b (.inr h')) (by omega)⟩
 ·have := hs.lt b (.inl hb)
  exact ⟨fun h' => absurd (ho b h') (by omega), fun h' => absurd (hi b h') (by omega)⟩
theorem Seps.perm {w : World} {l l' : List Asrt} (hp : l.Perm l') : ∀ {O I : Blks}, Seps l w O I → Seps l' w O I := by
 induction hp with
 | nil => exact fun h => h
 | cons a _ ih => exact fun ⟨O1, I1, O2, I2, h1, h2, h3⟩ => ⟨O1, I1, O2, I2, h1, ih h2, h3⟩
 | trans _ _ ih1 ih2 => exact fun h => ih2 (ih1 h)
 | swap a b l =>
  rintro O I ⟨O1, I1, O2, I2, h1, ⟨O3, I3, O4, I4, k1, k2, k3, k4, k5⟩, h3, h4, h5⟩
  refine ⟨O3, I3, fun b => O1 b ∨ O4 b, fun b => I1 b ∨ I4 b, k1, ⟨O1, I1, O4, I4, h1, k2, ⟨fun b hb => ?_, fun b hb => ?_⟩, fun _ => Iff.rfl, fun _ => Iff.rfl⟩, ⟨fun b hb => ?_, fun b hb => ?_⟩, fun b => ?_, fun b => ?_⟩
  ·exact ⟨fun h => (h3.1 b hb).1 ((k4 b).2 (.inr h)), fun h => (h3.1 b hb).2 ((k5 b).2 (.inr h))⟩
  ·exact h3.2 b ((k4 b).2 (.inr hb))
  ·have e := h3.2 b ((k4 b).2 (.inl hb))
   exact ⟨fun h => h.elim e.1 (k3.1 b hb).1, fun h => h.elim e.2 (k3.1 b hb).2⟩
  ·rcases hb with hb | hb
   ·exact ⟨fun h => (h3.1 b hb).1 ((k4 b).2 (.inl h)), fun h => (h3.1 b hb).2 ((k5 b).2 (.inl h))⟩
   ·exact k3.2 b hb
  ·rw [h4, k4]; exact ⟨fun h => h.elim (fun h => .inr (.inl h)) fun h => h.elim .inl fun h => .inr (.inr h), fun h => h.elim (fun h => .inr (.inl h)) fun h => h.elim .inl fun h => .inr (.inr h)⟩
  ·rw [h5, k5]; exact ⟨fun h => h.elim (fun h => .inr (.inl h)) fun h => h.elim .inl fun h => .inr (.inr h), fun h => h.elim (fun h => .inr (.inl h)) fun h => h.elim .inl fun h => .inr (.inr h)⟩
theorem Sep.perm {w : World} {l l' : List Asrt} (h : Sep l w) (hp : l.Perm l') : Sep l' w := by obtain ⟨O, I, h⟩ := h; exact ⟨O, I, h.perm hp⟩
theorem Sep.drop {w : World} {l : List Asrt} {a : Asrt} (h : Sep (a :: l) w) : Sep l w := by obtain ⟨O, I, O1, I1, O2, I2, h1, h2, _⟩ := h; exact ⟨_, _, h2⟩
def star (a b : Asrt) : Asrt where
 h w O I := ∃ O1 I1 O2 I2, a.h w O1 I1 ∧ b.h w O2 I2 ∧ Apart O1 I1 O2 I2 ∧ (∀ b, O b ↔ O1 b ∨ O2 b) ∧ ∀ b, I b ↔ I1 b ∨ I2 b
 fr := fun ⟨O1, I1, O2, I2, h1, h2, h3, h4, h5⟩ hf hm => ⟨O1, I1, O2, I2, a.fr h1 hf fun b hb => ⟨fun h => (hm b hb).1 ((h4 b).2 (.inl h)), fun h => (hm b hb).2 ((h5 b).2 (.inl h))⟩,
  b.fr h2 hf (fun b hb => ⟨fun h => (hm b hb).1 ((h4 b).2 (.inr h)), fun h => (hm b hb).2 ((h5 b).2 (.inr h))⟩), h3, h4, h5⟩
 lt := fun ⟨O1, I1, O2, I2, h1, h2, h3, h4, h5⟩ x hx => by
  rcases hx with hx | hx
  ·exact ((h4 x).1 hx).elim (fun h => a.lt h1 x (.inl h)) fun h => b.lt h2 x (.inl h)
  ·exact ((h5 x).1 hx).elim (fun h => a.lt h1 x (.inr h)) fun h => b.lt h2 x (.inr h)
 ap := fun ⟨O1, I1, O2, I2, h1, h2, h3, h4, h5⟩ x hx hi => by
  rcases (h4 x).1 hx with h | h <;> rcases (h5 x).1 hi with k | k
  ·exact a.ap h1 x h k
  ·exact (h3.1 x h).2 k
  ·exact (h3.2 x h).2 k
  ·exact b.ap h2 x h k
theorem Sep.unstar {w : World} {l : List Asrt} {a b : Asrt} (h : Sep (star a b :: l) w) : Sep (a :: b :: l) w := by
 obtain ⟨O, I, O1, I1, O2, I2, ⟨O3, I3, O4, I4, k1, k2, k3, k4, k5⟩, h2, h3, h4, h5⟩ := h
 refine ⟨O, I, O3, I3, fun x => O4 x ∨ O2 x, fun x => I4 x ∨ I2 x, k1, ⟨O4, I4, O2, I2, k2, h2, ⟨fun x hx => h3.1 x ((k4 x).2 (.inr hx)), fun x hx => ⟨fun h => (h3.2 x hx).1 ((k4 x).2 (.inr h)), fun h => (h3.2 x hx).2 ((k5 x).2 (.inr h))⟩⟩, fun _ => Iff.rfl, fun _ => Iff.rfl⟩, ⟨fun x hx => ?_, fun x hx => ?_⟩, fun x => ?_, fun x => ?_⟩
 ·have e := h3.1 x ((k4 x).2 (.inl hx))
  exact ⟨fun h => h.elim (k3.1 x hx).1 e.1, fun h => h.elim (k3.1 x hx).2 e.2⟩
 ·rcases hx with hx | hx
  ·exact k3.2 x hx
  ·exact ⟨fun h => (h3.2 x hx).1 ((k4 x).2 (.inl h)), fun h => (h3.2 x hx).2 ((k5 x).2 (.inl h))⟩
 ·rw [h4, k4]; exact or_assoc
 ·rw [h5, k5]; exact or_assoc
def Base (W : World) : Asrt where
 h w O I := Fr (fun _ => False) W w ∧ (∀ b, ¬ O b) ∧ ∀ b, I b ↔ b < W.heap.size
 fr := fun ⟨h1, h2, h3⟩ hf hm => ⟨h1.trans hf fun b hb => .inr (by have := (hm b hb).2; rw [h3] at this; omega), h2, h3⟩
 lt := fun ⟨h1, h2, h3⟩ b hb => hb.elim (fun h => absurd h (h2 b)) fun h => Nat.lt_of_lt_of_le ((h3 b).1 h) h1.size
 ap := fun ⟨h1, h2, h3⟩ b hb => absurd hb (h2 b)
theorem Sep.base (W : World) : Sep [Base W] W :=
 ⟨fun _ => False, fun b => b < W.heap.size, fun _ => False, fun b => b < W.heap.size, fun _ => False, fun _ => False, ⟨Fr.refl _ _, fun _ h => h, fun _ => Iff.rfl⟩, ⟨fun _ h => h, fun _ h => h⟩, ⟨fun b h => h.elim, fun b h => h.elim⟩, fun b => by simp, fun b => by simp⟩
theorem Sep.base_at {W w : World} {l : List Asrt} (h : Sep l w) (i : Nat) (hi : l[i]? = some (Base W)) : Fr (fun _ => False) W w := by
 obtain ⟨O, I, h⟩ := h.get i hi; exact h.1
def Cells (b : Nat) (cs : Array Value) (t : TypeId) : Asrt where
 h w O I := w.heap[b]? = some (.cells cs t (0, 0)) ∧ (∀ x, O x ↔ x = b) ∧ ∀ x, ¬ I x
 fr := fun ⟨h1, h2, h3⟩ hf hm => ⟨hf.get h1 fun h => (hm b h).1 ((h2 b).2 rfl), h2, h3⟩
 lt := fun ⟨h1, h2, h3⟩ x hx => hx.elim (fun h => (h2 x).1 h ▸ lt_of_get h1) fun h => absurd h (h3 x)
 ap := fun ⟨h1, h2, h3⟩ x _ => h3 x
theorem Sep.cells {w : World} {l : List Asrt} (h : Sep l w) (i : Nat) {b : Nat} {cs : Array Value} {t : TypeId} (hi : l[i]? = some (Cells b cs t)) : w.heap[b]? = some (.cells cs t (0, 0)) := by
 obtain ⟨O, I, h, _⟩ := h.get i hi; exact h
theorem Sep.set {w : World} {l : List Asrt} (h : Sep l w) (i : Nat) {b : Nat} {cs : Array Value} {t : TypeId} (hi : l[i]? = some (Cells b cs t)) (j : Nat) (u : Value) : Sep (l.set i (Cells b (cs.setIfInBounds j u) t)) (w.setCell ⟨b, j, none⟩ u) := by
 obtain ⟨O, I, J, ⟨h1, h2, h3⟩, -, -, hs⟩ := h.at_ i hi
 exact hs _ _ O I ⟨set_same h1 j u, h2, h3⟩ ⟨(Fr.setCell w ⟨b, j, none⟩ u).mono fun x hx => .inl ((h2 x).2 hx), fun x => .inl, fun x hx => absurd hx (h3 x)⟩
theorem Sep.cell {w : World} {l : List Asrt} (h : Sep l w) (cs : Array Value) (t : TypeId) : Sep (Cells w.heap.size cs t :: l) (w.alloc (.cells cs t)) :=
 h.new (Fr.alloc (fun _ => False) w _) (fun b hb => hb.elim) (O' := fun x => x = w.heap.size) (I' := fun _ => False) ⟨alloc_new _ _, fun _ => Iff.rfl, fun _ h => h⟩ (fun b hb => by omega) fun b hb => hb.elim
end Go.Proofs.XSep

set_option linter.unusedVariables false
namespace Go.Proofs.XSep
open Go Go.RowKit Go.Proofs.XRed Go.Proofs.XHeap
theorem Seps.at2 {w : World} {J : Blks} {a b : Asrt} : ∀ {l : List Asrt} {i j : Nat} {O I : Blks}, Seps l w O I → (∀ b, O b → ¬ J b) → i ≠ j → l[i]? = some a → l[j]? = some b →
    ∃ O1 I1 O2 I2, a.h w O1 I1 ∧ b.h w O2 I2 ∧ (∀ x, O1 x → ¬ O2 x ∧ ¬ I2 x) ∧ (∀ x, O2 x → ¬ O1 x ∧ ¬ I1 x) ∧ (∀ b, O1 b → O b) ∧ (∀ b, I1 b → I b) ∧ ∀ c w' O' I', c.h w' O' I' → Nxt w O1 J w' O' I' → ∃ O3 I3, Seps (l.set i c) w' O3 I3 ∧ Fr O w w' ∧ (∀ b, O3 b → O b ∨ w.heap.size ≤ b) ∧ ∀ b, I3 b → I b ∨ J b ∨ w.heap.size ≤ b
  | [], _, _, _, _, _, _, _, h, _ => by simp at h
  | x :: l, 0, 0, _, _, _, _, h, _, _ => absurd rfl h
  | x :: l, 0, j + 1, O, I, hs, hJ, _, hi, hj => by
    have hs0 := hs
    obtain ⟨Oa, Ia, Ob, Ib, h1, h2, h3, h4, h5⟩ := hs
    simp at hi; subst hi
    obtain ⟨O2, I2, g1, g2, g3, _⟩ := h2.at_ (J := fun _ => False) (i := j) (a := b) (fun _ _ h => h) (by simpa using hj)
    refine ⟨Oa, Ia, O2, I2, h1, g1, fun x hx => ⟨fun h => (h3.1 x hx).1 (g2 x h), fun h => (h3.1 x hx).2 (g3 x h)⟩, fun x hx => h3.2 x (g2 x hx), fun b hb => (h4 b).2 (.inl hb), fun b hb => (h5 b).2 (.inl hb), fun c w' O' I' hc hn => ?_⟩
    refine ⟨fun b => O' b ∨ Ob b, fun b => I' b ∨ Ib b, ⟨O', I', Ob, Ib, hc, Seps.fr hn.fr h2 h3.1, ⟨fun b hb => ?_, fun b hb => ?_⟩, fun _ => Iff.rfl, fun _ => Iff.rfl⟩, ?_, ?_, ?_⟩
    · rcases hn.on b hb with h | h
      · exact h3.1 b h
      · exact ⟨fun h' => absurd (h2.lt b (.inl h')) (by omega), fun h' => absurd (h2.lt b (.inr h')) (by omega)⟩
    · have hlt := h2.lt b (.inl hb)
      refine ⟨fun h => ?_, fun h => ?_⟩
      · rcases hn.on b h with h | h
        · exact (h3.1 b h).1 hb
        · omega
      · rcases hn.in_ b h with h | h
        · exact hJ b ((h4 b).2 (.inr hb)) h
        · omega
    · exact hn.fr.mono fun b hb => .inl ((h4 b).2 (.inl hb))
    · rintro b (hb | hb)
      · exact (hn.on b hb).imp (fun h => (h4 b).2 (.inl h)) id
      · exact .inl ((h4 b).2 (.inr hb))
    · rintro b (hb | hb)
      · exact .inr (hn.in_ b hb)
      · exact .inl ((h5 b).2 (.inr hb))
  | x :: l, i + 1, j, O, I, ⟨O1, I1, O2, I2, h1, h2, h3, h4, h5⟩, hJ, hij, hi, hj => by
    have main : ∀ Oa Ia, a.h w Oa Ia → (∀ b, Oa b → O2 b) → (∀ b, Ia b → I2 b) → (∀ c w' O' I', c.h w' O' I' → Nxt w Oa J w' O' I' → ∃ O3 I3, Seps (l.set i c) w' O3 I3 ∧ Fr O2 w w' ∧ (∀ b, O3 b → O2 b ∨ w.heap.size ≤ b) ∧ ∀ b, I3 b → I2 b ∨ J b ∨ w.heap.size ≤ b) →
        ∀ c w' O' I', c.h w' O' I' → Nxt w Oa J w' O' I' → ∃ O3 I3, Seps ((x :: l).set (i + 1) c) w' O3 I3 ∧ Fr O w w' ∧ (∀ b, O3 b → O b ∨ w.heap.size ≤ b) ∧ ∀ b, I3 b → I b ∨ J b ∨ w.heap.size ≤ b := by
      intro Oa Ia ha ho hi2 hs c w' O' I' hc hn
      obtain ⟨O3, I3, hs3, hf, hon, hin⟩ := hs c w' O' I' hc hn
      refine ⟨fun b => O1 b ∨ O3 b, fun b => I1 b ∨ I3 b, ⟨O1, I1, O3, I3, x.fr h1 hf h3.2, hs3, ⟨fun b hb => ?_, fun b hb => ?_⟩, fun _ => Iff.rfl, fun _ => Iff.rfl⟩, ?_, ?_, ?_⟩
      · have hlt := x.lt h1 b (.inl hb)
        refine ⟨fun h => ?_, fun h => ?_⟩
        · rcases hon b h with h | h
          · exact (h3.1 b hb).1 h
          · omega
        · rcases hin b h with h | h | h
          · exact (h3.1 b hb).2 h
          · exact hJ b ((h4 b).2 (.inl hb)) h
          · omega
      · rcases hon b hb with h | h
        · exact h3.2 b h
        · exact ⟨fun h' => absurd (x.lt h1 b (.inl h')) (by omega), fun h' => absurd (x.lt h1 b (.inr h')) (by omega)⟩
      · exact hf.mono fun b hb => .inl ((h4 b).2 (.inr hb))
      · rintro b (hb | hb)
        · exact .inl ((h4 b).2 (.inl hb))
        · exact (hon b hb).imp (fun h => (h4 b).2 (.inr h)) id
      · rintro b (hb | hb)
        · exact .inl ((h5 b).2 (.inl hb))
        · rcases hin b hb with h | h
          · exact .inl ((h5 b).2 (.inr h))
          · exact .inr h
    cases j with
    | zero =>
      simp at hj; subst hj
      obtain ⟨Oa, Ia, ha, ho, hi2, hs⟩ := h2.at_ (J := J) (i := i) (a := a) (fun b hb => hJ b ((h4 b).2 (.inr hb))) (by simpa using hi)
      exact ⟨Oa, Ia, O1, I1, ha, h1, fun y hy => h3.2 y (ho y hy), fun y hy => ⟨fun h => (h3.1 y hy).1 (ho y h), fun h => (h3.1 y hy).2 (hi2 y h)⟩, fun b hb => (h4 b).2 (.inr (ho b hb)), fun b hb => (h5 b).2 (.inr (hi2 b hb)), main Oa Ia ha ho hi2 hs⟩
    | succ j =>
      obtain ⟨Oa, Ia, Oc, Ic, ha, hc, g1, g2, ho, hi2, hs⟩ := Seps.at2 (J := J) (i := i) (j := j) h2 (fun b hb => hJ b ((h4 b).2 (.inr hb))) (by omega) (by simpa using hi) (by simpa using hj)
      exact ⟨Oa, Ia, Oc, Ic, ha, hc, g1, g2, fun b hb => (h4 b).2 (.inr (ho b hb)), fun b hb => (h5 b).2 (.inr (hi2 b hb)), main Oa Ia ha ho hi2 hs⟩
theorem Sep.at2 {l : List Asrt} {w : World} (h : Sep l w) (i j : Nat) {a b : Asrt} (hij : i ≠ j) (hi : l[i]? = some a) (hj : l[j]? = some b) :
    ∃ O I O2 I2 J, a.h w O I ∧ b.h w O2 I2 ∧ (∀ x, O x → ¬ O2 x ∧ ¬ I2 x) ∧ (∀ x, O2 x → ¬ O x ∧ ¬ I x) ∧ (∀ b, I b → J b) ∧ (∀ b, O b → ¬ J b) ∧ ∀ c w' O' I', c.h w' O' I' → Nxt w O J w' O' I' → Sep (l.set i c) w' := by
  obtain ⟨O, I, hs⟩ := h
  obtain ⟨O1, I1, O2, I2, h1, h2, g1, g2, h3, h4, h5⟩ := hs.at2 (J := I) hs.ap hij hi hj
  refine ⟨O1, I1, O2, I2, I, h1, h2, g1, g2, h4, fun b hb => hs.ap b (h3 b hb), fun c w' O' I' hc hn => ?_⟩
  obtain ⟨O3, I3, h6, -⟩ := h5 c w' O' I' hc hn
  exact ⟨O3, I3, h6⟩
end Go.Proofs.XSep

set_option linter.unusedVariables false
namespace Go.Proofs.XSep
open Go Go.RowKit Go.Proofs.XRed Go.Proofs.XHeap
theorem perm_front {α : Type} : ∀ {l : List α} {i : Nat} {a : α}, l[i]? = some a → l.Perm (a :: l.eraseIdx i)
 | [], _, _, h => by simp at h
 | x :: l, 0, a, h => by simp at h; subst h; exact .refl _
 | x :: l, i + 1, a, h => (List.Perm.cons x (perm_front (l := l) (i := i) (by simpa using h))).trans (List.Perm.swap _ _ _)
theorem Sep.front {w : World} {l : List Asrt} (h : Sep l w) (i : Nat) {a : Asrt} (hi : l[i]? = some a) : Sep (a :: l.eraseIdx i) w := h.perm (perm_front hi)
theorem Sep.erase {w : World} {l : List Asrt} (h : Sep l w) (i : Nat) {a : Asrt} (hi : l[i]? = some a) : Sep (l.eraseIdx i) w := (h.front i hi).drop
theorem Sep.left {w : World} {l : List Asrt} (h : Sep l w) (i : Nat) {a b : Asrt} (hi : l[i]? = some (star a b)) : Sep (l.set i a) w := by
 obtain ⟨O, I, J, ⟨O1, I1, O2, I2, h1, h2, h3, h4, h5⟩, g1, g2, g3⟩ := h.at_ i hi
 exact g3 a w O1 I1 h1 ⟨Fr.refl _ _, fun b hb => .inl ((h4 b).2 (.inl hb)), fun b hb => .inl (g1 b ((h5 b).2 (.inl hb)))⟩
theorem Sep.right {w : World} {l : List Asrt} (h : Sep l w) (i : Nat) {a b : Asrt} (hi : l[i]? = some (star a b)) : ∃ O I, b.h w O I := by
 obtain ⟨O, I, ⟨O1, I1, O2, I2, h1, h2, _⟩⟩ := h.get i hi
 exact ⟨O2, I2, h2⟩
end Go.Proofs.XSep

set_option linter.unusedVariables false
set_option linter.unusedSimpArgs false
namespace Go.Proofs.XSlices
open Go Go.RowKit Go.Proofs.XRed Go.Proofs.XHeap
section
variable {w : World} {base size n : Nat} {e : TypeId} {v : Value} {xs : List Value}
theorem own_at (h : w.ownsRow base e size v n xs) {i : Nat} (hi : i < n * size) :
    ∃ g cap cur, v = .slice (some ⟨g, 0, none⟩) n cap ∧ n ≤ cap ∧ base ≤ g ∧ w.heap[g]? = some (.cells cur e (0, 0)) ∧ i < cur.size ∧ cur[i]? = xs[i]? ∧ ∀ u, (w.setCell ⟨g, i, none⟩ u).ownsRow base e size v n (xs.set i u) := by
  obtain ⟨hl, h2⟩ := h
  rcases h2 with ⟨_, h0⟩ | ⟨g, cap, cur, hv, hb, hg, hnc, hcm, hcs, ht⟩
  · subst h0; omega
  · have hle : n * size ≤ cap * size := Nat.mul_le_mul_right _ hnc
    refine ⟨g, cap, cur, hv, hnc, hb, hg, by omega, ?_, fun u => ⟨by simp [hl], .inr ⟨g, cap, cur.setIfInBounds i u, hv, hb, set_same hg i u, hnc, hcm, by simp [hcs], ?_⟩⟩⟩
    · rw [← ht, List.getElem?_take_of_lt hi]; simp
    · rw [Array.toList_setIfInBounds, List.take_set, ht]
theorem own_blk {w : World} {g : Nat} {cs : Array Value} {e : TypeId} {n : Nat} (hg : w.heap[g]? = some (.cells cs e (0, 0))) (hb : base ≤ g) (hn : n ≤ maxLen) (hs : cs.size = n * size) : w.ownsRow base e size (.slice (some ⟨g, 0, none⟩) n n) n cs.toList :=
 ⟨by simp [hs], .inr ⟨g, n, cs, rfl, hb, hg, Nat.le_refl _, hn, hs, by rw [List.take_of_length_le]; simp [hs]⟩⟩
end
theorem s_ldN {P : Program} {w : World} {k : Value → World → Prop} {t : TypeId} {b o m : Nat} {vs : List Value} (hag : (isAgg t).run P w = .ok true w) (hsz : (sizeOf t).run P w = .ok m w) (hm : vs.length = m) (h : ∀ (j : Nat) (u : Value), vs[j]? = some u → w.cell? ⟨b, o + j, none⟩ = some u)
    (hk : k (.agg vs.toArray) w) : px P (Instr.loadAt t (.pointer (some ⟨b, o, none⟩))) w k := by
  refine px_ok (w' := w) ?_ hk
  have := run_loadCells_list (P := P) w ⟨b, o, none⟩ vs (fun j v hj => by rw [add_at]; exact h j v hj)
  rw [hm] at this
  simp [Instr.loadAt, Instr.sureAddr, loadVar, hag, hsz, this, Result.andThen]
theorem s_elemN {P : Program} {w : World} {t te : TypeId} {x : Value} {n m size : Nat} {cs vs : List Value} {i : Nat} {kk : Value → Value → World → Prop} (h : P.underlying t = some (.slice (P.elem t))) (hs : (sizeOf (P.elem t)).run P w = .ok size w) (hag : (isAgg te).run P w = .ok true w) (hsz : (sizeOf te).run P w = .ok size w)
    (hS : Src w x size n cs) (hi : i < n) (h0 : 0 < size) (hvs : vs.length = size) (hc : ∀ j, j < size → cs[i * size + j]? = vs[j]?) (hk : ∀ p, kk p (.agg vs.toArray) w) :
    px P (Instr.indexAt t x (.int .i64 i)) w fun p w => px P (Instr.loadAt te p) w (kk p) := by
  obtain ⟨b, o, c, e, hp⟩ := hS.place hi h0
  subst e
  refine s_ix (i := (i : Int)) h hs (by omega) (by omega) ?_
  refine s_ldN hag hsz hvs (fun j u hj => ?_) (hk _)
  have hj' : j < size := by rw [← hvs]; exact (List.getElem?_eq_some_iff.1 hj).1
  have := hp j u hj' ((hc j hj').trans hj)
  simpa using this
end Go.Proofs.XSlices

set_option linter.unusedVariables false
set_option linter.unusedSimpArgs false
namespace Go.Proofs.XDisk
open Go.Proofs.XMaps
end Go.Proofs.XDisk

set_option linter.unusedVariables false
set_option linter.unusedSimpArgs false
namespace Go.Proofs.XDisk
open Go.Proofs.XMaps
theorem leftOf_zero : ∀ (r : List Chg) (b : Bytes), XDisk.leftOf b r 0 = b
 | [], b => rfl
 | c :: r, b => by
  have zero : ∀ b : Bytes, c.made b 0 = b := by intro b; cases c <;> simp [Chg.made]
  unfold XDisk.leftOf
  rw [Nat.zero_min, zero, Nat.zero_sub]
  exact leftOf_zero r b
end Go.Proofs.XDisk

set_option linter.unusedVariables false
set_option linter.unusedSimpArgs false
namespace Go.Proofs.XDisk
open Go.Proofs.XMaps
def putL (done : Bool) (rest : Names) (s : ByteArray) (t : Nat) : Names := if done then rest else insN rest s t
theorem putL_step {p : ByteArray × Nat} {rest : Names} {s : ByteArray} {t : Nat} (h : blt s p.1 = true) : putL false (p :: rest) s t = (s, t) :: p :: putL true rest s t := by
 simp [putL, insN, h]
theorem putL_skip {p : ByteArray × Nat} {rest : Names} {s : ByteArray} {t : Nat} (h : blt s p.1 = false) : putL false (p :: rest) s t = p :: putL false rest s t := by
 simp [putL, insN, h]
theorem putL_end (s : ByteArray) (t : Nat) : putL false [] s t = [(s, t)] := rfl
theorem made_zero (c : Chg) (b : Bytes) : c.made b 0 = b := by cases c <;> simp [Chg.made]
theorem made_wr {b d : Bytes} {a u : Nat} (ha : a ≤ b.length) (hu : u ≤ d.length) : Chg.made b u (.wr a d) = b.take a ++ d.take u ++ b.drop (a + u) := by
 by_cases h0 : u = 0
 ·subst h0; simp [Chg.made]
 ·simp only [Chg.made, if_neg h0]
  congr 1
  ·congr 1
   rw [List.take_append_of_le_length ha]
  ·rw [List.drop_append]
   have : (List.replicate (a + u - b.length) (0 : UInt8)).drop (a + u - b.length) = [] := by rw [List.drop_eq_nil_iff]; simp
   rw [this, List.append_nil]
theorem made_step {b d : Bytes} {a i : Nat} (ha : a ≤ b.length) (hi : i < d.length) (h : a + i < (Chg.made b i (.wr a d)).length) :
    Chg.made b (i + 1) (.wr a d) = (Chg.made b i (.wr a d)).set (a + i) d[i] := by
  rw [made_wr ha (by omega)] at h ⊢
  rw [made_wr ha (by omega)]
  have hl : (b.take a ++ d.take i).length = a + i := by simp; omega
  have hlt : a + i < b.length := by
    rw [List.length_append, hl, List.length_drop] at h; omega
  rw [List.drop_eq_getElem_cons hlt, List.set_append_right _ _ (by omega), hl, Nat.sub_self, List.set_cons_zero]
  rw [List.take_add_one, List.getElem?_eq_getElem hi, ← Nat.add_assoc]
  simp only [Option.toList, List.append_assoc, List.cons_append, List.nil_append]
theorem made_push {b d : Bytes} {a i : Nat} (ha : a ≤ b.length) (hi : i < d.length) (h : ¬ a + i < (Chg.made b i (.wr a d)).length) :
    Chg.made b (i + 1) (.wr a d) = Chg.made b i (.wr a d) ++ [d[i]] := by
  rw [made_wr ha (by omega)] at h ⊢
  rw [made_wr ha (by omega)]
  have hl : (b.take a ++ d.take i).length = a + i := by simp; omega
  have hge : b.length ≤ a + i := by
    rw [List.length_append, hl, List.length_drop] at h; omega
  rw [List.drop_eq_nil_of_le hge, List.drop_eq_nil_of_le (by omega : b.length ≤ a + (i + 1)), List.append_nil, List.append_nil]
  rw [List.take_add_one, List.getElem?_eq_getElem hi]
  simp only [Option.toList, List.append_assoc, List.cons_append, List.nil_append]
theorem units_take (row : List Chg) {k : Nat} (hk : k < row.length) : unitsOf (row.take (k + 1)) = unitsOf (row.take k) + row[k].units := by
 unfold unitsOf
 rw [List.take_add_one, List.getElem?_eq_getElem hk]
 simp only [Option.toList, List.map_append, List.map_cons, List.map_nil, List.sum_append, List.sum_cons, List.sum_nil, Nat.add_zero]
theorem leftOf_drop {row : List Chg} {k u : Nat} {b : Bytes} (hk : k < row.length) : leftOf b (row.drop k) u = leftOf (row[k].made b (min u row[k].units)) (row.drop (k + 1)) (u - min u row[k].units) := by
 rw [List.drop_eq_getElem_cons hk]; rfl
def AD.lacks (S : AD) : Bool := decide (S.since + 1 ≥ S.plan.from_) && decide (S.since + 1 ≤ S.plan.to_)
def AD.out (S : AD) : Bool := decide (S.since + 1 = S.plan.off)
theorem stroke_def (S : AD) (kind refused : Int) (act : AD → AD) : S.stroke kind refused act = (if S.out then 50 else (if refused = 0 ∧ kind = 1 ∧ S.since + 1 ≥ S.plan.from_ ∧ S.since + 1 ≤ S.plan.to_ then 55 else refused),
    if (if refused = 0 ∧ kind = 1 ∧ S.since + 1 ≥ S.plan.from_ ∧ S.since + 1 ≤ S.plan.to_ then 55 else refused) = 0 ∧ ¬ (S.out = true ∧ kind = 2) then act { S.ticked with off := S.out } else { S.ticked with off := S.out }) := rfl
theorem stroke_r (S : AD) (kind refused r : Int) (act : AD → AD) (T : AD) (hr : (if refused = 0 ∧ kind = 1 ∧ S.since + 1 ≥ S.plan.from_ ∧ S.since + 1 ≤ S.plan.to_ then 55 else refused) = r)
    (hT : (if r = 0 ∧ ¬ (S.out = true ∧ kind = 2) then act { S.ticked with off := S.out } else { S.ticked with off := S.out }) = T) : S.stroke kind refused act = (if S.out then 50 else r, T) := by
  rw [stroke_def, hr, hT]
theorem stroke_ref (S : AD) (kind e : Int) (act : AD → AD) (h : e ≠ 0) : S.stroke kind e act = (if S.out then 50 else e, { S.ticked with off := S.out }) :=
 stroke_r S kind e e act _ (if_neg (fun h' => h h'.1)) (if_neg (fun h' => h h'.1))
theorem stroke_lack (S : AD) (act : AD → AD) (h : S.lacks = true) : S.stroke 1 0 act = (if S.out then 50 else 55, { S.ticked with off := S.out }) := by
 unfold AD.lacks at h
 rw [Bool.and_eq_true, decide_eq_true_eq, decide_eq_true_eq] at h
 exact stroke_r S 1 0 55 act _ (if_pos ⟨rfl, rfl, h.1, h.2⟩) (if_neg (fun h' => by have := h'.1; omega))
theorem stroke_do (S : AD) (act : AD → AD) (h : S.lacks = false) : S.stroke 1 0 act = (if S.out then 50 else 0, act { S.ticked with off := S.out }) := by
 have e1 : ¬ ((0 : Int) = 0 ∧ (1 : Int) = 1 ∧ S.since + 1 ≥ S.plan.from_ ∧ S.since + 1 ≤ S.plan.to_) := by
  rintro ⟨_, _, h1, h2⟩
  unfold AD.lacks at h
  rw [decide_eq_true h1, decide_eq_true h2] at h
  cases h
 exact stroke_r S 1 0 0 act _ (if_neg e1) (if_pos ⟨rfl, fun h' => by have := h'.2; omega⟩)
theorem stroke_plain (S : AD) (act : AD → AD) : S.stroke 0 0 act = (if S.out then 50 else 0, act { S.ticked with off := S.out }) :=
 stroke_r S 0 0 0 act _ (if_neg (fun h' => by have := h'.2.1; omega)) (if_pos ⟨rfl, fun h' => by have := h'.2; omega⟩)
theorem stroke_settle (S : AD) (act : AD → AD) : S.stroke 2 0 act = (if S.out then 50 else 0, if S.out then { S.ticked with off := true } else act { S.ticked with off := false }) := by
 refine stroke_r S 2 0 0 act _ (if_neg (fun h' => by have := h'.2.1; omega)) ?_
 cases S.out <;> simp
theorem off_of_look2 (S : AD) (name : ByteArray) (h : S.look name = 53 ∨ S.look name = 0) : S.off = false := by
 unfold AD.look at h
 cases ho : S.off with
 | false => rfl
 | true => rw [ho] at h; simp at h
theorem turnsOk.at_ {s : Names} : ∀ {r : List Turn} {l : Names} {i : Nat} {c : Turn}, turnsOk l r s → r[i]? = some c → (∀ a b, c = .give a b → alGet ((r.take i).foldl (fun l c => c.on l) l) a ≠ none) ∧ ((r.take i).foldl (fun l c => c.on l) l).length ≤ 256
 | [], _, _, _, _, hi => by simp at hi
 | c :: r, l, 0, d, h, hi => by
  simp at hi; subst hi
  exact ⟨h.2.1, h.1⟩
 | c :: r, l, i + 1, d, h, hi => by
  have := turnsOk.at_ (i := i) h.2.2 (by simpa using hi)
  simpa using this
end Go.Proofs.XDisk

set_option linter.unusedVariables false
set_option linter.unusedSimpArgs false
set_option maxRecDepth 100000
namespace Go.Proofs.YtcdcojpfealppaaGreat
open Go Go.Proofs Go.RowKit Go.Proofs.XRed Go.Proofs.XHeap Go.Proofs.XMaps Go.Proofs.XSlices Go.Proofs.XDisk Go.Proofs.XCalls Go.Proofs.XRange Go.Proofs.XKeys Tryz
def hasP (p s : ByteArray) : Bool := decide (p.size ≤ s.size) && decide (s.extract 0 p.size = p)
def AD.listA (S : AD) (p : ByteArray) : List ByteArray := if S.off then [] else (S.shown.map (·.1)).filter (hasP p)
section
variable {w w0 : World} {D : Nat} {S S' : AD} {O I : Nat → Prop} {L : Lay} {k : Value → World → Prop}
theorem s_cutS {s : ByteArray} {n : Int} (h0 : 0 ≤ n) (h1 : n ≤ s.size) (hk : k (.string (s.extract 0 n.toNat)) w) : px P (Instr.sliceAt 9 (.string s) none (some (i64 n)) none) w k :=
 px_ok ((run_sliceAt_string w 9 _ _ _ _ underlying9).trans (run_slice_string_h w 9 s underlying9 .i64 n h0 h1)) hk
theorem c_hasP (s p : ByteArray) (hk : k (.bool (hasP p s)) w) : pFn P 92 [.string s, .string p] w k := by
 refine F92_in _ _ _ _ ?_
 unfold F92_0
 refine F130_in _ _ _ _ ?_
 unfold F130_0
 refine s_lens underlying9 (s_lens underlying9 ?_)
 unfold hasP at hk
 by_cases h : p.size ≤ s.size
 ·rw [decide_eq_true h, Bool.true_and] at hk
  refine s_ge_t (by omega) (pG_yes rfl (pG_yes rfl (pG_yes rfl (s_lens underlying9 (pG_yes rfl (s_cutS (by omega) (by omega) (pG_yes rfl (pG_yes rfl (s_eqs (s_pick_t ?_)))))))))) 
  exact hk
 ·rw [decide_eq_false h, Bool.false_and] at hk
  refine s_ge_f (by omega) ?_
  repeat (first | refine pG_sk ?_ | refine pG_un ?_)
  exact s_pick_f hk
theorem c_del {pb : Nat} {p : ByteArray} (s : ByteArray) (hb : w.heap[pb]? = some (.cells #[.string p] 9 (0, 0))) (hk : k (.bool (!hasP p s)) w) : pVal P (.func (.func 91) #[] #[ptr pb]) [.string s] w k := by
 show pFn P 91 [.string s, ptr pb] w k
 refine F91_in _ _ _ _ ?_
 unfold F91_0
 exact s_ldb (v := .string p) (isAgg9 _) hb rfl (c_hasP s p (s_not hk))
theorem c_indexFunc {pb : Nat} {p : ByteArray} {v : Value} {names : List ByteArray} (hv : Src w v 1 names.length (names.map .string)) (hb : w.heap[pb]? = some (.cells #[.string p] 9 (0, 0))) (hl : names.length ≤ 4611686018427387904)
    (h0 : (∀ s ∈ names, hasP p s = true) → k (i64 (-1)) w) (h1 : ∀ i (hi : i < names.length), (∀ s ∈ names.take i, hasP p s = true) → hasP p names[i] = false → k (i64 i) w) : pFn P 129 [v, .func (.func 91) #[] #[ptr pb]] w k := by
  refine F129_in _ _ _ _ ?_
  unfold F129_0
  refine s_lenS usl73 hv ?_
  refine F129L1_inv (m := names.length) k (fun m ρ w' => ∃ i : Nat, i + m = names.length ∧ w' = w ∧ ρ 0 = v ∧ ρ 1 = .func (.func 91) #[] #[ptr pb] ∧ ρ 7 = i64 names.length ∧ ρ 8 = i64 i ∧ ∀ s ∈ names.take i, hasP p s = true) ?_
    ⟨0, by omega, rfl, rfl, rfl, rfl, rfl, fun s hs => by simp at hs⟩
  rintro m ρ w' ⟨i, him, hw, e0, e1, e7, e8, hall⟩
  subst hw
  rw [F129_1_eq]
  unfold F129_1
  rw [e0, e1, e7, e8]
  by_cases hi : i < names.length
  · refine s_lt_t (by omega) (pC_true ?_)
    refine s_elem (u := .string names[i]) usl73 (sze73 _) (isAgg9 _) hv hi (by simp [hi]) fun _ => ?_
    refine c_del names[i] hb ?_
    cases hp : hasP p names[i] with
    | false => exact pC_true (h1 i hi hall hp)
    | true =>
      refine pC_false (s_add_in (by omega) ?_)
      refine ⟨m - 1, by omega, i + 1, by omega, rfl, e0, e1, e7, ?_, fun s hs => ?_⟩
      · show i64 _ = i64 _; simp
      · rw [List.take_succ_eq_append_getElem hi] at hs
        rcases List.mem_append.1 hs with hs | hs
        · exact hall s hs
        · rw [List.mem_singleton] at hs; subst hs; exact hp
  · refine s_lt_f (by omega) (pC_false ?_)
    rw [F129_2_eq]
    refine h0 fun s hs => hall s ?_
    rw [List.take_of_length_le (by omega)]; exact hs
theorem setCells_fr (b : Nat) : ∀ (vs : List Value) (o : Nat) (w : World), Fr (fun x => x = b) w (w.setCells b o vs) ∧ (w.setCells b o vs).heap.size = w.heap.size
 | [], _, w => ⟨Fr.refl _ _, rfl⟩
 | v :: r, o, w => by
  obtain ⟨h1, h2⟩ := setCells_fr b r (o + 1) (w.setCell ⟨b, o, none⟩ v)
  have h3 : Fr (fun x => x = b) w (w.setCell ⟨b, o, none⟩ v) := Fr.setCell w ⟨b, o, none⟩ v
  exact ⟨h3.trans h1 fun i hi => .inl hi, by show ((w.setCell ⟨b, o, none⟩ v).setCells b (o + 1) r).heap.size = _; rw [h2]; simp [World.setCell]⟩
theorem c_deleteFunc {pb : Nat} {p : ByteArray} {v : Value} {names : List ByteArray} (hv : w.ownsRow 0 9 1 v names.length (names.map .string)) (hb : w.heap[pb]? = some (.cells #[.string p] 9 (0, 0))) (hpb : sblk v ≠ some pb) (hl : names.length ≤ 1099511627776)
    (hk : ∀ w' v', Src w' v' 1 (names.filter (hasP p)).length ((names.filter (hasP p)).map .string) → (∀ b, sblk v' = some b → sblk v = some b) → Fr (fun b => sblk v = some b) w w' → w'.heap.size = w.heap.size → k v' w') : pFn P 90 [v, .func (.func 91) #[] #[ptr pb]] w k := by
  refine F90_in _ _ _ _ ?_
  unfold F90_0
  refine c_indexFunc (Src.of_own hv) hb (by omega) (fun hall => ?_) fun i0 hi0 hall hno => ?_
  · refine s_eqi_t rfl (pC_true (hk w v ?_ (fun b h => h) (Fr.refl _ _) rfl))
    rw [List.filter_eq_self.2 hall]; exact Src.of_own hv
  · refine s_eqi_f (by omega) (pC_false (s_add_in (by omega) ?_))
    obtain ⟨g, cap, rfl⟩ : ∃ g cap, v = .slice (some ⟨g, 0, none⟩) names.length cap := by
      rcases hv.2 with ⟨_, h0⟩ | ⟨g, cap, cur, e, _⟩
      · omega
      · exact ⟨g, cap, e⟩
    have hgp : g ≠ pb := fun e => hpb (by rw [e]; rfl)
    have hf0 : (names.take (i0 + 1)).filter (hasP p) = names.take i0 := by
      rw [List.take_succ_eq_append_getElem hi0, List.filter_append, List.filter_eq_self.2 hall]
      simp [hno]
    have hlen0 : (names.take i0).length = i0 := by simp; omega
    refine F90L1_inv (m := names.length - (i0 + 1)) k (fun m ρ w' => ∃ (i j : Nat) (xs : List Value), j + m = names.length ∧ i ≤ j ∧ i = ((names.take j).filter (hasP p)).length ∧ w'.ownsRow 0 9 1 (.slice (some ⟨g, 0, none⟩) names.length cap) names.length xs ∧
        xs.take i = ((names.take j).filter (hasP p)).map .string ∧ xs.drop j = (names.drop j).map .string ∧ Fr (fun b => b = g) w w' ∧ w'.heap.size = w.heap.size ∧ ρ 0 = .slice (some ⟨g, 0, none⟩) names.length cap ∧ ρ 1 = .func (.func 91) #[] #[ptr pb] ∧ ρ 5 = i64 i ∧ ρ 6 = i64 j) ?_
      ⟨i0, i0 + 1, names.map .string, by omega, by omega, by rw [hf0, hlen0], hv, by rw [hf0, List.map_take], by rw [List.map_drop], Fr.refl _ _, rfl, rfl, rfl, rfl, by show i64 _ = i64 _; simp⟩
    rintro m ρ w' ⟨i, j, xs, hjm, hij, hi, hrow, htake, hdrop, hf, hz, e0, e1, e5, e6⟩
    rw [F90_1_eq]
    unfold F90_1
    rw [e0, e1, e5, e6]
    have hS := Src.of_own hrow
    refine s_len usl73 ?_
    have hxl : xs.length = names.length := by have := hrow.1; simpa using this
    by_cases hj : j < names.length
    · refine s_lt_t (by omega) (pC_true ?_)
      have hxj : xs[j]? = some (.string names[j]) := by
        have h1 : (xs.drop j)[0]? = ((names.drop j).map Value.string)[0]? := by rw [hdrop]
        rw [List.getElem?_drop] at h1
        simpa [hj] using h1
      refine s_elem usl73 (sze73 _) (isAgg9 _) hS hj hxj fun _ => ?_
      refine c_del names[j] (hf.get hb fun e => hgp (show pb = g from e).symm) ?_
      have hft : (names.take (j + 1)).filter (hasP p) = (names.take j).filter (hasP p) ++ (if hasP p names[j] then [names[j]] else []) := by
        rw [List.take_succ_eq_append_getElem hj, List.filter_append]
        congr 1
        cases hq : hasP p names[j] <;> simp [hq]
      cases hp : hasP p names[j] with
      | true =>
        rw [hp] at hft
        simp only [if_true] at hft
        refine s_not (pC_true ?_)
        refine s_ix (i := (i : Int)) usl73 (sze73 _) (by omega) (by omega) ?_
        obtain ⟨g', cap', cur, e', _, hg, _, _, hcs, _⟩ := hrow.2.resolve_left (by rintro ⟨h, _⟩; cases h)
        simp only [Value.slice.injEq, Option.some.injEq, Addr.mk.injEq, and_true, true_and] at e'
        obtain ⟨rfl, rfl⟩ := e'
        have hcap : names.length ≤ cap := by obtain ⟨A, c, e, hc, _⟩ := hS; injection e
        have ei : 0 + (i : Int).toNat * 1 = i := by simp
        rw [ei]
        refine s_st (sizeOf9 _) rfl rfl hg (by omega) ?_
        obtain ⟨hrow2, hgr⟩ := hrow.stored i (.string names[j])
        have f2 : Fr (fun b => b = g) w' (w'.setCell ⟨g, i, none⟩ (.string names[j])) := Fr.setCell w' ⟨g, i, none⟩ _
        have z2 : (w'.setCell ⟨g, i, none⟩ (.string names[j])).heap.size = w'.heap.size := by simp [World.setCell]
        refine s_add_in (by omega) ?_
        rw [F90_2_eq]
        unfold F90_2
        show px P (binSem BinOp.add 3 (Operand.tmp 20) (Operand.const (Value.int IntKind.i64 1)) (ρ 6) (Value.int IntKind.i64 1)) _ _
        rw [e6]
        refine s_add_in (by omega) ?_
        refine ⟨m - 1, by omega, i + 1, j + 1, xs.set i (.string names[j]), by omega, by omega, by rw [hft]; simp [hi], hrow2, ?_, ?_, (hf.or f2).mono (by rintro b (hb | hb) <;> exact .inl hb), by omega, e0, e1, ?_, ?_⟩
        · rw [hft, List.map_append, ← htake]
          have hix : i < xs.length := by omega
          rw [List.take_succ_eq_append_getElem (by simpa using hix)]
          simp [List.take_set_of_le]
        · rw [List.drop_set_of_lt (by omega), ← List.drop_drop, hdrop, ← List.map_drop, List.drop_drop]
        · show i64 _ = i64 _; simp
        · show i64 _ = i64 _; simp
      | false =>
        rw [hp] at hft
        simp only [Bool.false_eq_true, if_false, List.append_nil] at hft
        refine s_not (pC_false ?_)
        rw [F90_2_eq]
        unfold F90_2
        show px P (binSem BinOp.add 3 (Operand.tmp 20) (Operand.const (Value.int IntKind.i64 1)) (ρ 6) (Value.int IntKind.i64 1)) _ _
        rw [e6]
        refine s_add_in (by omega) ?_
        refine ⟨m - 1, by omega, i, j + 1, xs, by omega, by omega, by rw [hft]; exact hi, hrow, by rw [hft]; exact htake, ?_, hf, hz, e0, e1, e5, ?_⟩
        · rw [← List.drop_drop, hdrop, ← List.map_drop, List.drop_drop]
        · show i64 _ = i64 _; simp
    · refine s_lt_f (by omega) (pC_false ?_)
      rw [F90_3_eq]
      unfold F90_3
      show px P (Instr.sliceAt 73 (ρ 0) (some (ρ 5)) none none) w' _
      rw [e0, e5]
      have hjn : j = names.length := by omega
      subst hjn
      rw [List.take_of_length_le (Nat.le_refl _)] at hi htake
      have hcap : names.length ≤ cap := by obtain ⟨A, c, e, hc, _⟩ := hS; injection e with _ _ e3; omega
      refine s_sl_l usl73 (sze73 _) (by omega) (by omega) ?_
      have hilt : i < names.length := by
        have h1 : ((names.filter (hasP p)).length) < names.length := by
          rcases Nat.lt_or_ge (names.filter (hasP p)).length names.length with h' | h'
          · exact h'
          · have e := List.Sublist.eq_of_length (List.filter_sublist (l := names) (p := hasP p)) (Nat.le_antisymm (List.length_filter_le _ _) h')
            have := List.filter_eq_self.1 e _ (List.getElem_mem hi0)
            rw [hno] at this; cases this
        omega
      have hne : ¬ cap = (i : Int).toNat := by omega
      have esl : sliced (some ⟨g, 0, none⟩) (i : Int).toNat names.length cap 1 = .slice (some ⟨g, i, none⟩) (names.length - i) (cap - i) := by
        unfold sliced
        rw [if_neg hne]
        simp [add_at]
      rw [esl]
      refine px_ok (Lib.run_clear_slice w' 73 9 0 (.string (ByteArray.mk #[])) underlying73 zeroValue9 rfl rfl g i (names.length - i) (cap - i) (by omega) (fun q hq => ?_) fun q hq => hrow.frozenAt _) ?_
      · rw [hrow.cellAt (i + q) (by omega)]
        simp; omega
      · obtain ⟨f3, z3⟩ := setCells_fr g (List.replicate (names.length - i) (.string (ByteArray.mk #[]))) i w'
        have hcell : ∀ q u, (xs.take i)[q]? = some u → (w'.setCells g i (List.replicate (names.length - i) (.string (ByteArray.mk #[])))).cell? ⟨g, q, none⟩ = some u := by
          intro q u hq
          have hql : q < i := by have := (List.getElem?_eq_some_iff.1 hq).1; simp at this; omega
          rw [World.cell?_setCells_out g _ i w' ⟨g, q, none⟩ fun _ _ => .inl hql, hrow.cellAt q (by omega)]
          rwa [List.getElem?_take_of_lt hql] at hq
        generalize w'.setCells g i (List.replicate (names.length - i) (.string (ByteArray.mk #[]))) = w3 at *
        show px P (Instr.sliceAt 73 (ρ 0) none (some (ρ 5)) none) w3 _
        rw [e0, e5]
        refine s_sl_h usl73 (sze73 _) (by omega) (by omega) (hk w3 _ ?_ (fun b h => h) ?_ (by omega))
        · rw [← hi]
          refine ⟨some ⟨g, 0, none⟩, cap, by simp, by omega, by simp [hi], fun _ => ⟨g, 0, rfl, fun q u hq => ?_⟩⟩
          rw [Nat.zero_add]
          exact hcell q u (by rw [htake]; exact hq)
        · refine (hf.or f3).mono ?_
          rintro b (hb' | hb')
          · exact .inl (by rw [show b = g from hb']; rfl)
          · exact .inl (by rw [show b = g from hb']; rfl)
theorem c_list {c : Nat} (h : DRep w D S O I L) (ok : S.Ok c) (p : ByteArray) (hk : ∀ w' v, Src w' v 1 (AD.listA S p).length ((AD.listA S p).map .string) → (∀ b, sblk v = some b → w.heap.size ≤ b ∧ b < w'.heap.size) → Fr no w w' → k v w') : pFn P 30 [ptr D, .string p] w k := by
 refine F30_in _ _ _ _ ?_
 unfold F30_0
 refine s_box ?_
 have f1 := Fr.alloc no w (.cells #[.string p] 9)
 have b1 := alloc_new w (.cells #[.string p] 9)
 have z1 : (w.alloc (.cells #[.string p] 9)).heap.size = w.heap.size + 1 := by simp
 show pFn P _ _ (w.alloc (.cells #[.string p] 9)) _
 generalize w.alloc (.cells #[.string p] 9) = w1 at *
 have h1 := h.fr f1 fun b hb => hb.elim
 refine c_off h1.disk ok.room.1 ?_
 unfold AD.listA at hk
 cases ho : S.off with
 | true =>
  rw [ho] at hk
  exact pC_true (hk w1 _ (Src.nil _ _) (fun b hb => by cases hb) f1)
 | false =>
  rw [ho] at hk
  simp only [Bool.false_eq_true, if_false] at hk
  refine pC_false (s_nil (fa58_1 (s_ldb (v := .map (some L.sh)) (isAgg54 _) h1.disk rfl ?_)))
  have hlen := ok.turns.len.1
  refine c_sorted sortsKeys h1.sh h1.shp ok.shown (fun q hq => by have := ok.shownNames q hq; unfold maxLen; omega) (by omega) fun w2 v hv hvb f2 => ?_
  refine s_mkf ?_
  have e1 : nameVals S.shown = (S.shown.map (·.1)).map .string := by unfold nameVals; rw [List.map_map]; rfl
  have e2 : S.shown.length = (S.shown.map (·.1)).length := by simp
  rw [e1, e2] at hv
  refine c_deleteFunc hv (f2.get b1 id) (fun e => by have := hvb _ e; omega) (by rw [← e2]; omega) fun w3 v' hS hb3 f3 z3 => ?_
  refine hk w3 v' hS (fun b hb => ?_) ((f1.or f2).or f3 |>.mono ?_)
  ·have h5 := hb3 b hb
   have h6 := hvb b h5
   have h7 := (own_blk_lt hv h5).2
   omega
  ·rintro b ((hb | hb) | hb)
   ·exact hb.elim
   ·exact hb.elim
   ·have := hvb b hb; right; omega
end
end Go.Proofs.YtcdcojpfealppaaGreat
