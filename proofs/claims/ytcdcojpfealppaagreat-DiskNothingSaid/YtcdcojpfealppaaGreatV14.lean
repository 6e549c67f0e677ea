/- Put together by a program (wip/tools/shake.py): Script, XRefuse, XSafe, List, None, XOwn, XRef, XSep, XPtr, Twin, SepD, RRep, ROps, ROps2, ROps3, ROps4, ROps5, ROps6, ROps7, ROps8, ROps9, ROps10, ROps11, ROps12, ROps13, RNone, XSep2. -/
import Derived.Test.YtcdcojpfealppaaGreatRows
import Derived.Test.YtcdcojpfealppaaGreatV13
import Derived.JoinedCond
import Derived.Deep.Slices
import Derived.Test.YtcdcojpfealppaaGreatV3
import Derived.Lib.SliceRun
import Derived.Test.YtcdcojpfealppaaGreatV7
import Derived.Test.YtcdcojpfealppaaGreatV2
import Derived.LaidEql
import Derived.Sort.Walk0
set_option linter.unusedVariables false
set_option linter.unusedSimpArgs false
set_option maxRecDepth 100000
namespace Go.Proofs.YtcdcojpfealppaaGreat
open Go Go.ChangeShapes Go.WideShapes Go.ChangeAt Go.RowKit Go.Proofs Go.Proofs.XRed Go.Proofs.XHeap Go.Proofs.XSlices Go.Proofs.XRow Go.Proofs.XDisk Tryz
section
variable {H : Type} {enc : TypeId × Value → H}
variable {W : World}
def Len (d : DataW H) (n : Nat) : Prop := n = 0 ∨ ∃ e s, d = .slice e s ∧ e.length = n
theorem open_bytes {fuel : Nat} {cs : List Value} {x : DataW H × List MemPlace} (h : DataW.trod enc prog W 0 (fun _ => true) true fuel 36 cs = some x) : ∃ (dv : Value) (d : Bytes), cs = [dv] ∧ SBytes W dv d ∧ Len x.1 d.length := by
 rcases open_ints underlying36 underlying5 (by kernel_rfl) h with ⟨rfl, rfl⟩ | ⟨a, len, cap, zs, rfl, _, hl, hm, hz, rfl, hcell, hwf⟩
 ·exact ⟨_, [], rfl, SBytes.nil _, .inl rfl⟩
 ·simp only [if_true] at hz
  have hbyte : ∀ z ∈ zs, ((UInt8.ofNat z.toNat).toNat : Int) = z := by
   intro z hz
   have hb := hwf z hz
   simp only [Lit.wf, IntKind.min, IntKind.max, IntKind.signed, IntKind.bits] at hb
   simp at hb
   have : (UInt8.ofNat z.toNat).toNat = z.toNat := by simp; omega
   rw [this]; omega
  have hlen : ((zs.take len).map fun z => UInt8.ofNat z.toNat).length = len := by simp; omega
  refine ⟨_, (zs.take len).map fun z => UInt8.ofNat z.toNat, rfl, ?_, ?_⟩
  ·unfold SBytes
   rw [hlen]
   obtain ⟨b, off, spot⟩ := a
   refine ⟨some ⟨b, off, spot⟩, cap, rfl, hl, by simp [u8s]; omega, fun h0 => ?_⟩
   have hspot : spot = none := by simpa [Addr.add] using World.cell?_spot (hcell 0 (by omega))
   subst hspot
   refine ⟨b, off, rfl, fun j u hj => ?_⟩
   unfold u8s at hj
   rw [List.map_map, List.getElem?_map] at hj
   obtain ⟨z, hz', rfl⟩ := Option.map_eq_some_iff.1 hj
   have hjl : j < len := by
    have := (List.getElem?_eq_some_iff.1 hz').1
    simp at this; omega
   rw [List.getElem?_take_of_lt hjl] at hz'
   have := hcell j (by omega)
   rw [add_at, List.getD, hz'] at this
   rw [this]
   show some (Value.int .u8 z) = some (Value.int .u8 ((UInt8.ofNat z.toNat).toNat : Int))
   rw [hbyte z (List.mem_of_getElem? hz')]
  ·rw [hlen]
   exact .inr ⟨lits .u8 (zs.take len), lits .u8 (zs.drop len), rfl, by simp [lits]; omega⟩
theorem open_intsV {fuel : Nat} {cs : List Value} {x : DataW H × List MemPlace} (h : DataW.trod enc prog W 0 (fun _ => true) true fuel 39 cs = some x) : ∃ (dv : Value) (d : List Int), cs = [dv] ∧ Src W dv 1 d.length (d.map fun n => .int .i64 n) ∧ Len x.1 d.length := by
 rcases open_ints underlying39 underlying3 (by kernel_rfl) h with ⟨rfl, rfl⟩ | ⟨a, len, cap, zs, rfl, _, hl, hm, hz, rfl, hcell, hwf⟩
 ·exact ⟨_, [], rfl, Src.nil _ _, .inl rfl⟩
 ·simp only [if_true] at hz
  have hlen : (zs.take len).length = len := by simp; omega
  refine ⟨_, zs.take len, rfl, ?_, ?_⟩
  ·rw [hlen]
   obtain ⟨b, off, spot⟩ := a
   refine ⟨some ⟨b, off, spot⟩, cap, rfl, hl, by simp; omega, fun h0 => ?_⟩
   have hspot : spot = none := by simpa [Addr.add] using World.cell?_spot (hcell 0 (by omega))
   subst hspot
   refine ⟨b, off, rfl, fun j u hj => ?_⟩
   rw [List.getElem?_map] at hj
   obtain ⟨z, hz', rfl⟩ := Option.map_eq_some_iff.1 hj
   have hjl : j < len := by
    have := (List.getElem?_eq_some_iff.1 hz').1
    simp at this; omega
   rw [List.getElem?_take_of_lt hjl] at hz'
   have := hcell j (by omega)
   rw [add_at, List.getD, hz'] at this
   exact this
  ·rw [hlen]
   exact .inr ⟨lits .i64 (zs.take len), lits .i64 (zs.drop len), rfl, by simp [lits]; omega⟩
theorem i64_wf {n : Int} (h : (Lit.int .i64 n).wf = true) : -9223372036854775808 ≤ n ∧ n ≤ 9223372036854775807 := by
 simp only [Lit.wf, IntKind.min, IntKind.max, IntKind.signed, IntKind.bits] at h
 simp at h
 omega
def StepFits (d : DataW H) : Prop := ∀ parts, d = .agg parts → (∀ q n, parts[5]? = some q → Len q n → n ≤ 140737488355328) ∧ ∀ q n, parts[7]? = some q → Len q n → n ≤ 17592186044416
theorem open_step {fuel : Nat} {cs : List Value} {x : DataW H × List MemPlace} (hb : StepFits x.1) (h : DataW.trod enc prog W 0 (fun _ => true) true fuel 41 cs = some x) : ∃ (s : StepA) (dv pv : Value), cs = stepCells s dv pv ∧ StepV W s dv pv := by
 obtain ⟨xs, k, rfl, rfl, hlen, hxl, hf⟩ := DataW.trod_struct underlying41 h
 have c10 : prog.cellsOf 41 = 10 := by kernel_rfl
 rw [c10] at hlen
 match cs, hlen with
 | [c0, c1, c2, c3, c4, c5, c6, c7, c8, c9], _ =>
 match xs, hxl with
 | [x0, x1, x2, x3, x4, x5, x6, x7], _ =>
 have g0 : DataW.trod enc prog W 0 (fun _ => true) true k 3 (([c0, c1, c2, c3, c4, c5, c6, c7, c8, c9].drop 0).take (prog.cellsOf 3)) = some x0 := hf 0 _ rfl
 have g1 : DataW.trod enc prog W 0 (fun _ => true) true k 9 (([c0, c1, c2, c3, c4, c5, c6, c7, c8, c9].drop 1).take (prog.cellsOf 9)) = some x1 := hf 1 _ rfl
 have g2 : DataW.trod enc prog W 0 (fun _ => true) true k 9 (([c0, c1, c2, c3, c4, c5, c6, c7, c8, c9].drop 2).take (prog.cellsOf 9)) = some x2 := hf 2 _ rfl
 have g3 : DataW.trod enc prog W 0 (fun _ => true) true k 3 (([c0, c1, c2, c3, c4, c5, c6, c7, c8, c9].drop 3).take (prog.cellsOf 3)) = some x3 := hf 3 _ rfl
 have g4 : DataW.trod enc prog W 0 (fun _ => true) true k 3 (([c0, c1, c2, c3, c4, c5, c6, c7, c8, c9].drop 4).take (prog.cellsOf 3)) = some x4 := hf 4 _ rfl
 have g5 : DataW.trod enc prog W 0 (fun _ => true) true k 36 (([c0, c1, c2, c3, c4, c5, c6, c7, c8, c9].drop 5).take (prog.cellsOf 36)) = some x5 := hf 5 _ rfl
 have g6 : DataW.trod enc prog W 0 (fun _ => true) true k 38 (([c0, c1, c2, c3, c4, c5, c6, c7, c8, c9].drop 6).take (prog.cellsOf 38)) = some x6 := hf 6 _ rfl
 have g7 : DataW.trod enc prog W 0 (fun _ => true) true k 39 (([c0, c1, c2, c3, c4, c5, c6, c7, c8, c9].drop 9).take (prog.cellsOf 39)) = some x7 := hf 7 _ rfl
 have k3 : prog.cellsOf 3 = 1 := by kernel_rfl
 have k9 : prog.cellsOf 9 = 1 := by kernel_rfl
 have k30 : prog.cellsOf 36 = 1 := by kernel_rfl
 have k46 : prog.cellsOf 38 = 3 := by kernel_rfl
 have k57 : prog.cellsOf 39 = 1 := by kernel_rfl
 simp only [k3, k9, k30, k46, k57, List.drop_zero, List.drop_succ_cons, List.take_succ_cons, List.take_zero, List.getElem?_cons_zero, List.getElem?_cons_succ] at g0 g1 g2 g3 g4 g5 g6 g7
 obtain ⟨n0, e0, r0, w0⟩ := DataW.trod_int underlying3 g0
 obtain ⟨s1, e1, r1, w1⟩ := DataW.trod_string underlying9 g1
 obtain ⟨s2, e2, r2, w2⟩ := DataW.trod_string underlying9 g2
 obtain ⟨n3, e3, r3, w3⟩ := DataW.trod_int underlying3 g3
 obtain ⟨n4, e4, r4, w4⟩ := DataW.trod_int underlying3 g4
 obtain ⟨dv, d5, e5, s5, l5⟩ := open_bytes g5
 obtain ⟨pv, d7, e7, s7, l7⟩ := open_intsV g7
 obtain ⟨ys, k', hk', hx6, hlen6, hyl, hf6⟩ := DataW.trod_struct underlying38 g6
 match ys, hyl with
 | [y0, y1, y2], _ =>
 have p0 : DataW.trod enc prog W 0 (fun _ => true) true k' 3 (([c6, c7, c8].drop 0).take (prog.cellsOf 3)) = some y0 := hf6 0 _ rfl
 have p1 : DataW.trod enc prog W 0 (fun _ => true) true k' 3 (([c6, c7, c8].drop 1).take (prog.cellsOf 3)) = some y1 := hf6 1 _ rfl
 have p2 : DataW.trod enc prog W 0 (fun _ => true) true k' 3 (([c6, c7, c8].drop 2).take (prog.cellsOf 3)) = some y2 := hf6 2 _ rfl
 simp only [k3, List.drop_zero, List.drop_succ_cons, List.take_succ_cons, List.take_zero, List.getElem?_cons_zero, List.getElem?_cons_succ] at p0 p1 p2
 obtain ⟨m0, q0, _, _⟩ := DataW.trod_int underlying3 p0
 obtain ⟨m1, q1, _, _⟩ := DataW.trod_int underlying3 p1
 obtain ⟨m2, q2, _, _⟩ := DataW.trod_int underlying3 p2
 simp only [List.cons.injEq, and_true] at e0 e1 e2 e3 e4 e5 e7 q0 q1 q2
 subst e0 e1 e2 e3 e4 e5 e7 q0 q1 q2
 obtain ⟨hb5, hb7⟩ := hb _ rfl
 exact ⟨⟨n0, s1, s2, n3, n4, d5, ⟨m0, m1, m2⟩, d7⟩, c5, c9, rfl, ⟨s5, s7, w1, w2, i64_wf w3, hb5 _ _ rfl l5, hb7 _ _ rfl l7⟩⟩
theorem open_script {v : Value} {d : DataW H} {ps : List MemPlace} (hb : ∀ elems spare, d = .slice elems spare → ∀ e ∈ elems, StepFits e) (hv : Value.okWide prog W .any 0 22 v) (h : DataW.Trod enc prog W 0 (fun _ => true) true 22 v d ps) : ∃ l : Script, ScriptV W v l := by
 obtain ⟨a0, len, cap, rfl⟩ := okWide_slice underlying22 hv
 obtain ⟨fuel, hf⟩ := h
 have c10 : prog.cellsOf 41 = 10 := by kernel_rfl
 rcases Go.Deep.open_slice underlying22 hf with ⟨hcs, hx⟩ | ⟨a, len', cap', m, n, Ds, Pl, hcs, _, hl, hm, hmm, hx, hcell⟩
 ·simp [Value.cells] at hcs
  obtain ⟨rfl, rfl, rfl⟩ := hcs
  exact ⟨[], Src.nil _ _, fun p hp => by cases hp⟩
 ·simp [Value.cells] at hcs
  obtain ⟨rfl, rfl, rfl⟩ := hcs
  simp only [if_true] at hmm
  rw [c10] at hcell
  injection hx with hx _
  have each : ∀ i, i < len → ∃ p : StepA × Value × Value, StepV W p.1 p.2.1 p.2.2 ∧ ∀ j u, (stepCells p.1 p.2.1 p.2.2)[j]? = some u → W.cell? ((a.add (i * 10)).add j) = some u := by
   intro i hi
   obtain ⟨cs', h1, h2⟩ := hcell i (by omega)
   obtain ⟨_, hlen, hc⟩ := World.cells?_some h1
   have hD : StepFits (Ds i) := hb _ _ hx _ (List.mem_map.2 ⟨i, List.mem_range.2 hi, rfl⟩)
   obtain ⟨s, dv, pv, rfl, hs⟩ := open_step (x := (Ds i, Pl i)) hD h2
   refine ⟨(s, dv, pv), hs, fun j u hj => ?_⟩
   rw [hc j (List.getElem?_eq_some_iff.1 hj).1]; exact hj
  have hS : ∃ g : Nat → StepA × Value × Value, ∀ i, i < len → StepV W (g i).1 (g i).2.1 (g i).2.2 ∧ ∀ j u, (stepCells (g i).1 (g i).2.1 (g i).2.2)[j]? = some u → W.cell? ((a.add (i * 10)).add j) = some u := by
   classical
   refine ⟨fun i => if h : i < len then Classical.choose (each i h) else (⟨0, .empty, .empty, 0, 0, [], ⟨0, 0, 0⟩, []⟩, undef, undef), fun i hi => ?_⟩
   simp only [dif_pos hi]
   exact Classical.choose_spec (each i hi)
  obtain ⟨g, hg⟩ := hS
  refine ⟨(List.range len).map g, ?_, ?_⟩
  ·rw [List.length_map, List.length_range]
   have hfl : (scriptCells ((List.range len).map g)).length = len * 10 := by
    have : ∀ l : Script, (scriptCells l).length = l.length * 10 := by
     intro l
     induction l with
     | nil => rfl
     | cons p r ih => unfold scriptCells at *; rw [List.flatMap_cons, List.length_append, ih]; simp [stepCells]; omega
    rw [this]; simp
   obtain ⟨b, off, spot⟩ := a
   refine ⟨some ⟨b, off, spot⟩, cap, rfl, hl, hfl, fun hpos => ?_⟩
   have h00 := (hg 0 hpos).2 0 _ rfl
   have hspot : spot = none := by simpa [Addr.add] using World.cell?_spot h00
   subst hspot
   refine ⟨b, off, rfl, fun j u hj => ?_⟩
   have hjl : j < len * 10 := by have := (List.getElem?_eq_some_iff.1 hj).1; rw [hfl] at this; exact this
   have hi : j / 10 < len := by omega
   have hgi : ((List.range len).map g)[j / 10]? = some (g (j / 10)) := by simp [hi]
   have hfa := flatAt (f := fun p : StepA × Value × Value => stepCells p.1 p.2.1 p.2.2) (n := 10) (fun _ => rfl) (l := (List.range len).map g) (i := j / 10) (j := j % 10) hgi (Nat.mod_lt _ (by omega))
   have e : j / 10 * 10 + j % 10 = j := by omega
   rw [e] at hfa
   unfold scriptCells at hj
   rw [hfa] at hj
   have := (hg (j / 10) hi).2 (j % 10) u hj
   rw [add_at, add_at] at this
   have e2 : off + j / 10 * 10 + j % 10 = off + j := by omega
   rw [e2] at this
   exact this
  ·intro p hp
   obtain ⟨i, hi, rfl⟩ := List.mem_map.1 hp
   exact (hg i (List.mem_range.1 hi)).1
theorem weights_all {P : Program} {t : TypeId} {d : DataW H} : ∀ {l : List (DataW H)}, d ∈ l → ∀ n ∈ d.weights P t, n ∈ DataW.weightsAll P t l
 | a :: r, h, n, hn => by
  simp only [DataW.weightsAll, List.mem_append]
  rcases List.mem_cons.1 h with rfl | h
  ·exact Or.inl hn
  ·exact Or.inr (weights_all h n hn)
theorem len_weight {P : Program} {t e : TypeId} {d : DataW H} {n b : Nat} (ht : P.underlying t = some (.slice e)) (hb : P.bytesOf e = b) (hl : Len d n) (hw : ∀ m ∈ d.weights P t, m ≤ reachBytes) : n * b ≤ reachBytes := by
 rcases hl with rfl | ⟨el, sp, rfl, rfl⟩
 ·rw [Nat.zero_mul]; exact Nat.zero_le _
 ·have := hw ((el.length + sp.length) * P.bytesOf e) (by simp [DataW.weights, ht])
  rw [hb] at this
  exact Nat.le_trans (Nat.mul_le_mul_right _ (by omega)) this
theorem stepFits_weights {d : DataW H} (hw : ∀ m ∈ d.weights prog 41, m ≤ reachBytes) : StepFits d := by
 have hr : reachBytes ≤ 140737488355328 := by decide
 rintro parts rfl
 have hu := underlying41
 have hwe : DataW.weights prog 41 (.agg parts) = DataW.weightsEach prog [3, 9, 9, 3, 3, 36, 38, 39] parts := by
  simp only [DataW.weights, hu]
  rfl
 have sub : ∀ (j : Nat) (q : DataW H) (t : TypeId), parts[j]? = some q → [3, 9, 9, 3, 3, 36, 38, 39][j]? = some t → ∀ m ∈ q.weights prog t, m ≤ reachBytes := by
  intro j q t hq ht m hm
  refine hw m ?_
  rw [hwe]
  exact DataW.weights_mem_each ht hq m hm
 refine ⟨fun q n hq hl => ?_, fun q n hq hl => ?_⟩
 ·have := len_weight (b := 1) underlying36 (by kernel_rfl) hl (sub 5 q 36 hq rfl)
  omega
 ·have := len_weight (b := 8) underlying39 (by kernel_rfl) hl (sub 7 q 39 hq rfl)
  omega
theorem script_weights {d : DataW H} (hw : ∀ m ∈ d.weights prog 22, m ≤ reachBytes) : ∀ elems spare, d = .slice elems spare → ∀ e ∈ elems, StepFits e := by
 rintro elems spare rfl e he
 refine stepFits_weights fun m hm => hw m ?_
 simp only [DataW.weights, underlying22, List.mem_cons, List.mem_append]
 exact Or.inr (Or.inl (weights_all he m hm))
end
end Go.Proofs.YtcdcojpfealppaaGreat

set_option linter.unusedVariables false
set_option linter.unusedSimpArgs false
namespace Go.Proofs.XDisk
open Go.Proofs.XMaps
end Go.Proofs.XDisk

set_option linter.unusedVariables false
set_option linter.unusedSimpArgs false
namespace Go.Proofs.XDisk
open Go.Proofs.XMaps
end Go.Proofs.XDisk

set_option linter.unusedVariables false
set_option linter.unusedSimpArgs false
set_option maxRecDepth 100000
namespace Go.Proofs.YtcdcojpfealppaaGreat
open Go Go.Proofs Go.RowKit Go.Proofs.XRed Go.Proofs.XHeap Go.Proofs.XMaps Go.Proofs.XSlices Go.Proofs.XDisk Go.Proofs.XCalls Go.Proofs.XRange Go.Proofs.XKeys Tryz
section
variable {w w0 : World} {D : Nat} {S S' : AD} {O I : Nat → Prop} {L : Lay} {k : Value → World → Prop}
end
end Go.Proofs.YtcdcojpfealppaaGreat

set_option linter.unusedVariables false
set_option linter.unusedSimpArgs false
set_option maxRecDepth 100000
namespace Go.Proofs.YtcdcojpfealppaaGreat
open Go Go.Proofs Go.RowKit Go.Proofs.XRed Go.Proofs.XHeap Go.Proofs.XMaps Go.Proofs.XSlices Go.Proofs.XDisk Go.Proofs.XCalls Tryz
def NilD (w : World) (p : Option Addr) : Prop := p = none ∨ ∃ b cs, p = some ⟨b, 0, none⟩ ∧ w.heap[b]? = some (.cells cs 58 (0, 0)) ∧ cs[0]? = some (i64 0)
theorem NilD.fr {w w' : World} {p : Option Addr} (h : NilD w p) (hf : Fr no w w') : NilD w' p := by
 rcases h with h | ⟨b, cs, h1, h2, h3⟩
 ·exact .inl h
 ·exact .inr ⟨b, cs, h1, hf.get h2 id, h3⟩
def zDisk : Value := .agg #[i64 0, .map none, .map none, .slice none 0 0, i64 0, i64 0, i64 0, i64 0, i64 0, .bool false, .slice none 0 0]
section
variable {w : World} {p : Option Addr} {k : Value → World → Prop}
theorem s_boxQ {t : TypeId} {v : Value} {K : Value → World → Prop} (hk : ∀ w' b, Fr no w w' → w'.heap[b]? = some (.cells v.cells t (0, 0)) → K (ptr b) w') : px P (Instr.box t v) w K :=
 s_box (hk _ _ (Fr.alloc no w _) (alloc_new _ _))
theorem n_none (h : NilD w p) (hk : k (.bool true) w) : pFn P 82 [.pointer p] w k := by
 refine F82_in _ _ _ ?_
 unfold F82_0
 refine s_eqpn upt29 ?_
 rcases h with rfl | ⟨b, cs, rfl, h2, h3⟩
 ·refine pG_skf ?_
  repeat (first | refine pG_skf ?_ | refine pG_un ?_)
  exact s_pick_t hk
 ·exact pG_yes rfl (pG_yes rfl (s_nil (pG_yes rfl (fa58_0 (pG_yes rfl (s_ldb (v := i64 0) (isAgg3 _) h2 h3 (pG_yes rfl (s_eqi_t rfl (s_pick_f hk)))))))))
theorem n_off (h : NilD w p) (hk : k (.bool true) w) : pFn P 26 [.pointer p] w k := by
 refine F26_in _ _ _ ?_
 unfold F26_0
 refine n_none h (pG_skf ?_)
 repeat (first | refine pG_skf ?_ | refine pG_un ?_)
 exact s_pick_t hk
theorem n_look (h : NilD w p) {v : Value} (hk : k (.tuple #[.pointer none, i64 50]) w) : pFn P 78 [.pointer p, v] w k := by
 refine F78_in _ _ _ _ ?_
 unfold F78_0
 exact n_off h (pC_true hk)
theorem n_create (h : NilD w p) {v : ByteArray} (hk : ∀ w', Fr no w w' → k (i64 50) w') : pFn P 21 [.pointer p, .string v] w k := by
 refine F21_in _ _ _ _ ?_
 unfold F21_0
 refine s_boxQ fun w1 b1 f1 g1 => s_boxQ fun w2 b2 f2 g2 => ?_
 have f := fr_up f1 f2 fun b hb => hb.elim
 refine s_ldb (v := .pointer p) (isAgg29 _) (f2.get g1 id) rfl (s_ldb (v := .string v) (isAgg9 _) g2 rfl ?_)
 refine n_look (h.fr f) (s_ext rfl (s_ext rfl ?_))
 refine s_eqi_f (by decide) (pC_false (s_eqi_f (by decide) (pC_false ?_)))
 exact hk _ f
theorem n_writeAt (h : NilD w p) {v : ByteArray} {a : Int} {d : Value} (hd : d.cells = #[d]) (hk : ∀ w', Fr no w w' → k (i64 50) w') : pFn P 62 [.pointer p, .string v, i64 a, d] w k := by
 refine F62_in _ _ _ _ _ _ ?_
 unfold F62_0
 refine s_boxQ fun w1 b1 f1 g1 => s_boxQ fun w2 b2 f2 g2 => ?_
 have f := fr_up f1 f2 fun b hb => hb.elim
 refine n_look (h.fr f) (s_ext rfl (s_ext rfl ?_))
 refine s_alloc (zeroValue117 _) ?_
 have f3 := Fr.alloc no w2 (.cells #[.pointer none] 117)
 have g3 := alloc_new w2 (.cells #[.pointer none] 117)
 rw [show Value.cells (.pointer none) = #[.pointer none] from rfl]
 refine s_st (sizeOf117 _) rfl rfl g3 (by decide) ?_
 have f4 : Fr no w2 _ := f3.trans (Fr.setCell _ ⟨w2.heap.size, 0, none⟩ (.pointer none)) fun b hb => .inr (by rw [show b = w2.heap.size from hb]; exact Nat.le_refl _)
 exact s_nei_t (by decide) (pC_true (hk _ (fr_up f f4 fun b hb => hb.elim)))
theorem n_append (h : NilD w p) {v : ByteArray} {d : Value} (hk : k (i64 50) w) : pFn P 23 [.pointer p, .string v, d] w k := by
 refine F23_in _ _ _ _ _ ?_
 unfold F23_0
 exact n_look h (s_ext rfl (s_ext rfl (s_nei_t (by decide) (pC_true hk))))
theorem n_truncate (h : NilD w p) {v : ByteArray} {n : Int} (hk : ∀ w', Fr no w w' → k (i64 50) w') : pFn P 67 [.pointer p, .string v, i64 n] w k := by
 refine F67_in _ _ _ _ _ ?_
 unfold F67_0
 refine s_boxQ fun w1 b1 f1 g1 => ?_
 refine n_look (h.fr f1) (s_ext rfl (s_ext rfl ?_))
 refine s_alloc (zeroValue117 _) ?_
 have f3 := Fr.alloc no w1 (.cells #[.pointer none] 117)
 have g3 := alloc_new w1 (.cells #[.pointer none] 117)
 rw [show Value.cells (.pointer none) = #[.pointer none] from rfl]
 refine s_st (sizeOf117 _) rfl rfl g3 (by decide) ?_
 have f4 : Fr no w1 _ := f3.trans (Fr.setCell _ ⟨w1.heap.size, 0, none⟩ (.pointer none)) fun b hb => .inr (by rw [show b = w1.heap.size from hb]; exact Nat.le_refl _)
 exact s_nei_t (by decide) (pC_true (hk _ (fr_up f1 f4 fun b hb => hb.elim)))
theorem n_rename (h : NilD w p) {v u : ByteArray} (hk : ∀ w', Fr no w w' → k (i64 50) w') : pFn P 56 [.pointer p, .string v, .string u] w k := by
 refine F56_in _ _ _ _ _ ?_
 unfold F56_0
 refine s_boxQ fun w1 b1 f1 g1 => s_boxQ fun w2 b2 f2 g2 => s_boxQ fun w3 b3 f3 g3 => ?_
 have f := fr_up (fr_up f1 f2 fun b hb => hb.elim) f3 fun b hb => hb.elim
 refine s_ldb (v := .pointer p) (isAgg29 _) (f3.get (f2.get g1 id) id) rfl ?_
 exact n_off (h.fr f) (pC_true (hk _ f))
theorem n_remove (h : NilD w p) {v : ByteArray} (hk : ∀ w', Fr no w w' → k (i64 50) w') : pFn P 59 [.pointer p, .string v] w k := by
 refine F59_in _ _ _ _ ?_
 unfold F59_0
 refine s_boxQ fun w1 b1 f1 g1 => s_boxQ fun w2 b2 f2 g2 => ?_
 have f := fr_up f1 f2 fun b hb => hb.elim
 refine s_ldb (v := .pointer p) (isAgg29 _) (f2.get g1 id) rfl (s_ldb (v := .string v) (isAgg9 _) g2 rfl ?_)
 exact n_look (h.fr f) (s_ext rfl (s_ext rfl (s_nei_t (by decide) (pC_true (hk _ f)))))
theorem n_sync (h : NilD w p) {v : ByteArray} (hk : k (i64 50) w) : pFn P 54 [.pointer p, .string v] w k := by
 refine F54_in _ _ _ _ ?_
 unfold F54_0
 exact n_look h (s_ext rfl (s_ext rfl (s_nei_t (by decide) (pC_true hk))))
theorem n_syncNames (h : NilD w p) (hk : ∀ w', Fr no w w' → k (i64 50) w') : pFn P 55 [.pointer p] w k := by
 refine F55_in _ _ _ ?_
 unfold F55_0
 refine s_boxQ fun w1 b1 f1 g1 => ?_
 refine s_ldb (v := .pointer p) (isAgg29 _) g1 rfl ?_
 exact n_off (h.fr f1) (pC_true (hk _ f1))
theorem n_plan (h : NilD w p) {v : Value} (hk : ∀ w', Fr no w w' → k (.tuple #[]) w') : pFn P 22 [.pointer p, v] w k := by
 refine F22_in _ _ _ _ ?_
 unfold F22_0
 refine s_boxQ fun w1 b1 f1 g1 => ?_
 exact n_off (h.fr f1) (s_not (pC_false (hk _ f1)))
theorem n_crash (h : NilD w p) {v : Value} (hk : ∀ w', Fr no w w' → k (.tuple #[]) w') : pFn P 58 [.pointer p, v] w k := by
 refine F58_in _ _ _ _ ?_
 unfold F58_0
 refine s_boxQ fun w1 b1 f1 g1 => ?_
 exact n_none (h.fr f1) (pC_true (hk _ f1))
theorem n_strokes (h : NilD w p) (hk : k (i64 0) w) : pFn P 57 [.pointer p] w k := by
 refine F57_in _ _ _ ?_
 unfold F57_0
 exact n_none h (pC_true hk)
theorem n_used (h : NilD w p) (hk : k (i64 0) w) : pFn P 60 [.pointer p] w k := by
 refine F60_in _ _ _ ?_
 unfold F60_0
 exact n_none h (pC_true hk)
theorem n_room (h : NilD w p) (hk : k (i64 0) w) : pFn P 27 [.pointer p] w k := by
 refine F27_in _ _ _ ?_
 unfold F27_0
 exact n_none h (pC_true hk)
theorem n_files (h : NilD w p) (hk : k (.slice none 0 0) w) : pFn P 28 [.pointer p] w k := by
 refine F28_in _ _ _ ?_
 unfold F28_0
 exact n_none h (pC_true hk)
theorem n_safe (h : NilD w p) (hk : k (.slice none 0 0) w) : pFn P 29 [.pointer p] w k := by
 refine F29_in _ _ _ ?_
 unfold F29_0
 exact n_none h (pC_true hk)
theorem n_reads (h : NilD w p) (hk : k (.slice none 0 0) w) : pFn P 31 [.pointer p] w k := by
 refine F31_in _ _ _ ?_
 unfold F31_0
 exact n_none h (pC_true hk)
theorem n_read (h : NilD w p) {v : ByteArray} {a n : Int} (hk : k (.tuple #[.slice none 0 0, i64 50]) w) : pFn P 32 [.pointer p, .string v, i64 a, i64 n] w k := by
 refine F32_in _ _ _ _ _ _ ?_
 unfold F32_0
 exact n_look h (s_ext rfl (s_ext rfl (s_nei_t (by decide) (pC_true hk))))
theorem n_size (h : NilD w p) {v : ByteArray} (hk : k (.tuple #[i64 0, i64 50]) w) : pFn P 119 [.pointer p, .string v] w k := by
 refine F119_in _ _ _ _ ?_
 unfold F119_0
 exact n_look h (s_ext rfl (s_ext rfl (s_nei_t (by decide) (pC_true hk))))
theorem n_list (h : NilD w p) {v : ByteArray} (hk : ∀ w', Fr no w w' → k (.slice none 0 0) w') : pFn P 30 [.pointer p, .string v] w k := by
 refine F30_in _ _ _ _ ?_
 unfold F30_0
 refine s_boxQ fun w1 b1 f1 g1 => ?_
 exact n_off (h.fr f1) (pC_true (hk _ f1))
theorem n_lookF (h : NilD w p) (hk : k (.tuple #[]) w) : pFn P 125 [.pointer p] w k := by
 refine F125_in _ _ _ ?_
 unfold F125_0
 exact n_none h (s_not (pC_false hk))
theorem n_twin (h : NilD w p) (hk : ∀ w' b, NilD w' (some ⟨b, 0, none⟩) → Fr no w w' → k (ptr b) w') : pFn P 24 [.pointer p] w k := by
 refine F24_in _ _ _ ?_
 unfold F24_0
 refine n_none h (pC_true ?_)
 refine px_ok (w' := w) (v := zDisk) (by kernel_rfl) (s_box ?_)
 exact hk _ _ (.inr ⟨_, _, rfl, alloc_new _ _, rfl⟩) (Fr.alloc no w _)
end
end Go.Proofs.YtcdcojpfealppaaGreat

set_option linter.unusedVariables false
set_option linter.unusedSimpArgs false
namespace Go.Proofs.XSlices
open Go Go.RowKit Go.Proofs.XRed Go.Proofs.XHeap
section
variable {w : World} {base size n : Nat} {e : TypeId} {v : Value} {xs : List Value}
theorem own_at (h : w.ownsRow base e size v n xs) {i : Nat} (hi : i < n * size) :
    ∃ g cap cur, v = .slice (some ⟨g, 0, none⟩) n cap ∧ n ≤ cap ∧ base ≤ g ∧ w.heap[g]? = some (.cells cur e (0, 0)) ∧ i < cur.size ∧ cur[i]? = xs[i]? ∧ ∀ u, (w.setCell ⟨g, i, none⟩ u).ownsRow base e size v n (xs.set i u) := by
  obtain ⟨hl, h2⟩ := h
  rcases h2 with ⟨_, h0⟩ | ⟨g, cap, cur, hv, hb, hg, hnc, hcm, hcs, ht⟩
  · subst h0; omega
  · have hle : n * size ≤ cap * size := Nat.mul_le_mul_right _ hnc
    refine ⟨g, cap, cur, hv, hnc, hb, hg, by omega, ?_, fun u => ⟨by simp [hl], .inr ⟨g, cap, cur.setIfInBounds i u, hv, hb, set_same hg i u, hnc, hcm, by simp [hcs], ?_⟩⟩⟩
    · rw [← ht, List.getElem?_take_of_lt hi]; simp
    · rw [Array.toList_setIfInBounds, List.take_set, ht]
theorem own_blk {w : World} {g : Nat} {cs : Array Value} {e : TypeId} {n : Nat} (hg : w.heap[g]? = some (.cells cs e (0, 0))) (hb : base ≤ g) (hn : n ≤ maxLen) (hs : cs.size = n * size) : w.ownsRow base e size (.slice (some ⟨g, 0, none⟩) n n) n cs.toList :=
 ⟨by simp [hs], .inr ⟨g, n, cs, rfl, hb, hg, Nat.le_refl _, hn, hs, by rw [List.take_of_length_le]; simp [hs]⟩⟩
end
end Go.Proofs.XSlices

set_option linter.unusedVariables false
set_option linter.unusedSimpArgs false
namespace Go.Proofs.XDisk
open Go.Proofs.XMaps
theorem turnsOk.at_ {s : Names} : ∀ {r : List Turn} {l : Names} {i : Nat} {c : Turn}, turnsOk l r s → r[i]? = some c → (∀ a b, c = .give a b → alGet ((r.take i).foldl (fun l c => c.on l) l) a ≠ none) ∧ ((r.take i).foldl (fun l c => c.on l) l).length ≤ 256
 | [], _, _, _, _, hi => by simp at hi
 | c :: r, l, 0, d, h, hi => by
  simp at hi; subst hi
  exact ⟨h.2.1, h.1⟩
 | c :: r, l, i + 1, d, h, hi => by
  have := turnsOk.at_ (i := i) h.2.2 (by simpa using hi)
  simpa using this
end Go.Proofs.XDisk

set_option linter.unusedVariables false
namespace Go.Proofs.XSep
open Go Go.RowKit Go.Proofs.XRed Go.Proofs.XHeap
abbrev Blks := Nat → Prop
structure Asrt where
 h : World → Blks → Blks → Prop
 fr : ∀ {w w' : World} {O I M : Blks}, h w O I → Fr M w w' → (∀ b, M b → ¬ O b ∧ ¬ I b) → h w' O I
 lt : ∀ {w : World} {O I : Blks}, h w O I → ∀ b, O b ∨ I b → b < w.heap.size
 ap : ∀ {w : World} {O I : Blks}, h w O I → ∀ b, O b → ¬ I b
structure Nxt (w : World) (O J : Blks) (w' : World) (O' I' : Blks) : Prop where
 fr : Fr O w w'
 on : ∀ b, O' b → O b ∨ w.heap.size ≤ b
 in_ : ∀ b, I' b → J b ∨ w.heap.size ≤ b
def Apart (O1 I1 O2 I2 : Blks) : Prop := (∀ b, O1 b → ¬ O2 b ∧ ¬ I2 b) ∧ ∀ b, O2 b → ¬ O1 b ∧ ¬ I1 b
def Seps : List Asrt → World → Blks → Blks → Prop
 | [], _, O, I => (∀ b, ¬ O b) ∧ ∀ b, ¬ I b
 | a :: l, w, O, I => ∃ O1 I1 O2 I2, a.h w O1 I1 ∧ Seps l w O2 I2 ∧ Apart O1 I1 O2 I2 ∧ (∀ b, O b ↔ O1 b ∨ O2 b) ∧ ∀ b, I b ↔ I1 b ∨ I2 b
def Sep (l : List Asrt) (w : World) : Prop := ∃ O I, Seps l w O I
theorem Seps.fr {w w' : World} {M : Blks} (hf : Fr M w w') : ∀ {l : List Asrt} {O I : Blks}, Seps l w O I → (∀ b, M b → ¬ O b ∧ ¬ I b) → Seps l w' O I
  | [], _, _, h, _ => h
  | a :: l, O, I, ⟨O1, I1, O2, I2, h1, h2, h3, h4, h5⟩, hm => ⟨O1, I1, O2, I2, a.fr h1 hf fun b hb => ⟨fun h => (hm b hb).1 ((h4 b).2 (.inl h)), fun h => (hm b hb).2 ((h5 b).2 (.inl h))⟩,
      Seps.fr hf h2 (fun b hb => ⟨fun h => (hm b hb).1 ((h4 b).2 (.inr h)), fun h => (hm b hb).2 ((h5 b).2 (.inr h))⟩), h3, h4, h5⟩
theorem Seps.lt {w : World} : ∀ {l : List Asrt} {O I : Blks}, Seps l w O I → ∀ b, O b ∨ I b → b < w.heap.size
 | [], _, _, h, b, hb => hb.elim (fun h' => absurd h' (h.1 b)) fun h' => absurd h' (h.2 b)
 | a :: l, O, I, ⟨O1, I1, O2, I2, h1, h2, h3, h4, h5⟩, b, hb => by
  rcases hb with hb | hb
  ·exact ((h4 b).1 hb).elim (fun h => a.lt h1 b (.inl h)) fun h => Seps.lt h2 b (.inl h)
  ·exact ((h5 b).1 hb).elim (fun h => a.lt h1 b (.inr h)) fun h => Seps.lt h2 b (.inr h)
theorem Seps.ap {w : World} : ∀ {l : List Asrt} {O I : Blks}, Seps l w O I → ∀ b, O b → ¬ I b
 | [], _, _, h, b, hb => absurd hb (h.1 b)
 | a :: l, O, I, ⟨O1, I1, O2, I2, h1, h2, h3, h4, h5⟩, b, hb => fun hi => by
  rcases (h4 b).1 hb with h | h <;> rcases (h5 b).1 hi with k | k
  ·exact a.ap h1 b h k
  ·exact (h3.1 b h).2 k
  ·exact (h3.2 b h).2 k
  ·exact Seps.ap h2 b h k
theorem Seps.at_ {w : World} {J : Blks} {a : Asrt} : ∀ {l : List Asrt} {i : Nat} {O I : Blks}, Seps l w O I → (∀ b, O b → ¬ J b) → l[i]? = some a →
    ∃ O1 I1, a.h w O1 I1 ∧ (∀ b, O1 b → O b) ∧ (∀ b, I1 b → I b) ∧ ∀ c w' O' I', c.h w' O' I' → Nxt w O1 J w' O' I' → ∃ O2 I2, Seps (l.set i c) w' O2 I2 ∧ Fr O w w' ∧ (∀ b, O2 b → O b ∨ w.heap.size ≤ b) ∧ ∀ b, I2 b → I b ∨ J b ∨ w.heap.size ≤ b
  | [], _, _, _, _, _, h => by simp at h
  | x :: l, 0, O, I, ⟨O1, I1, O2, I2, h1, h2, h3, h4, h5⟩, hJ, hi => by
    simp at hi; subst hi
    refine ⟨O1, I1, h1, fun b hb => (h4 b).2 (.inl hb), fun b hb => (h5 b).2 (.inl hb), fun c w' O' I' hc hn => ?_⟩
    refine ⟨fun b => O' b ∨ O2 b, fun b => I' b ∨ I2 b, ⟨O', I', O2, I2, hc, Seps.fr hn.fr h2 h3.1, ⟨fun b hb => ?_, fun b hb => ?_⟩, fun _ => Iff.rfl, fun _ => Iff.rfl⟩, ?_, ?_, ?_⟩
    · rcases hn.on b hb with h | h
      · exact h3.1 b h
      · exact ⟨fun h' => absurd (h2.lt b (.inl h')) (by omega), fun h' => absurd (h2.lt b (.inr h')) (by omega)⟩
    · have hlt := h2.lt b (.inl hb)
      refine ⟨fun h => ?_, fun h => ?_⟩
      · rcases hn.on b h with h | h
        · exact (h3.1 b h).1 hb
        · omega
      · rcases hn.in_ b h with h | h
        · exact hJ b ((h4 b).2 (.inr hb)) h
        · omega
    · exact hn.fr.mono fun b hb => .inl ((h4 b).2 (.inl hb))
    · rintro b (hb | hb)
      · exact (hn.on b hb).imp (fun h => (h4 b).2 (.inl h)) id
      · exact .inl ((h4 b).2 (.inr hb))
    · rintro b (hb | hb)
      · exact .inr (hn.in_ b hb)
      · exact .inl ((h5 b).2 (.inr hb))
  | x :: l, i + 1, O, I, ⟨O1, I1, O2, I2, h1, h2, h3, h4, h5⟩, hJ, hi => by
    obtain ⟨Oa, Ia, ha, ho, hi2, hs⟩ := Seps.at_ (J := J) (i := i) h2 (fun b hb => hJ b ((h4 b).2 (.inr hb))) (by simpa using hi)
    refine ⟨Oa, Ia, ha, fun b hb => (h4 b).2 (.inr (ho b hb)), fun b hb => (h5 b).2 (.inr (hi2 b hb)), fun c w' O' I' hc hn => ?_⟩
    obtain ⟨O3, I3, hs3, hf, hon, hin⟩ := hs c w' O' I' hc hn
    refine ⟨fun b => O1 b ∨ O3 b, fun b => I1 b ∨ I3 b, ⟨O1, I1, O3, I3, x.fr h1 hf h3.2, hs3, ⟨fun b hb => ?_, fun b hb => ?_⟩, fun _ => Iff.rfl, fun _ => Iff.rfl⟩, ?_, ?_, ?_⟩
    · have hlt := x.lt h1 b (.inl hb)
      refine ⟨fun h => ?_, fun h => ?_⟩
      · rcases hon b h with h | h
        · exact (h3.1 b hb).1 h
        · omega
      · rcases hin b h with h | h | h
        · exact (h3.1 b hb).2 h
        · exact hJ b ((h4 b).2 (.inl hb)) h
        · omega
    · rcases hon b hb with h | h
      · exact h3.2 b h
      · exact ⟨fun h' => absurd (x.lt h1 b (.inl h')) (by omega), fun h' => absurd (x.lt h1 b (.inr h')) (by omega)⟩
    · exact hf.mono fun b hb => .inl ((h4 b).2 (.inr hb))
    · rintro b (hb | hb)
      · exact .inl ((h4 b).2 (.inl hb))
      · exact (hon b hb).imp (fun h => (h4 b).2 (.inr h)) id
    · rintro b (hb | hb)
      · exact .inl ((h5 b).2 (.inl hb))
      · rcases hin b hb with h | h
        · exact .inl ((h5 b).2 (.inr h))
        · exact .inr h
theorem Sep.at_ {l : List Asrt} {w : World} (h : Sep l w) (i : Nat) {a : Asrt} (hi : l[i]? = some a) :
    ∃ O I J, a.h w O I ∧ (∀ b, I b → J b) ∧ (∀ b, O b → ¬ J b) ∧ ∀ c w' O' I', c.h w' O' I' → Nxt w O J w' O' I' → Sep (l.set i c) w' := by
  obtain ⟨O, I, hs⟩ := h
  obtain ⟨O1, I1, h1, h2, h3, h4⟩ := hs.at_ (J := I) hs.ap hi
  refine ⟨O1, I1, I, h1, h3, fun b hb => hs.ap b (h2 b hb), fun c w' O' I' hc hn => ?_⟩
  obtain ⟨O2, I2, h5, -⟩ := h4 c w' O' I' hc hn
  exact ⟨O2, I2, h5⟩
theorem Sep.get {l : List Asrt} {w : World} (h : Sep l w) (i : Nat) {a : Asrt} (hi : l[i]? = some a) : ∃ O I, a.h w O I := by
 obtain ⟨O, I, J, h, -⟩ := h.at_ i hi; exact ⟨O, I, h⟩
theorem Sep.quiet {l : List Asrt} {w w' : World} {M : Blks} (h : Sep l w) (hf : Fr M w w') (hm : ∀ b, M b → w.heap.size ≤ b) : Sep l w' := by
 obtain ⟨O, I, hs⟩ := h
 exact ⟨O, I, hs.fr hf fun b hb => ⟨fun h' => absurd (hs.lt b (.inl h')) (by have := hm b hb; omega), fun h' => absurd (hs.lt b (.inr h')) (by have := hm b hb; omega)⟩⟩
theorem Sep.q {l : List Asrt} {w w' : World} (h : Sep l w) (hf : Fr (fun _ => False) w w') : Sep l w' := h.quiet hf fun b hb => hb.elim
theorem Sep.new {l : List Asrt} {w w' : World} {M : Blks} {a : Asrt} {O' I' : Blks} (h : Sep l w) (hf : Fr M w w') (hm : ∀ b, M b → w.heap.size ≤ b) (ha : a.h w' O' I') (ho : ∀ b, O' b → w.heap.size ≤ b) (hi : ∀ b, I' b → w.heap.size ≤ b) : Sep (a :: l) w' := by
 obtain ⟨O, I, hs⟩ := h
 refine ⟨_, _, O', I', O, I, ha, hs.fr hf fun b hb => ⟨fun h' => absurd (hs.lt b (.inl h')) (by have := hm b hb; omega), fun h' => absurd (hs.lt b (.inr h')) (by have := hm b hb; omega)⟩, ⟨fun b hb => ?_, fun b hb => ?_⟩, fun _ => Iff.rfl, fun _ => Iff.rfl⟩
 ·have := ho b hb
  exact ⟨fun h' => absurd (hs.lt b (.inl h')) (by omega), fun h' => absurd (hs.lt b (.inr h')) (by omega)⟩
 ·have := hs.lt b (.inl hb)
  exact ⟨fun h' => absurd (ho b h') (by omega), fun h' => absurd (hi b h') (by omega)⟩
theorem Seps.perm {w : World} {l l' : List Asrt} (hp : l.Perm l') : ∀ {O I : Blks}, Seps l w O I → Seps l' w O I := by
 induction hp with
 | nil => exact fun h => h
 | cons a _ ih => exact fun ⟨O1, I1, O2, I2, h1, h2, h3⟩ => ⟨O1, I1, O2, I2, h1, ih h2, h3⟩
 | trans _ _ ih1 ih2 => exact fun h => ih2 (ih1 h)
 | swap a b l =>
  rintro O I ⟨O1, I1, O2, I2, h1, ⟨O3, I3, O4, I4, k1, k2, k3, k4, k5⟩, h3, h4, h5⟩
  refine ⟨O3, I3, fun b => O1 b ∨ O4 b, fun b => I1 b ∨ I4 b, k1, ⟨O1, I1, O4, I4, h1, k2, ⟨fun b hb => ?_, fun b hb => ?_⟩, fun _ => Iff.rfl, fun _ => Iff.rfl⟩, ⟨fun b hb => ?_, fun b hb => ?_⟩, fun b => ?_, fun b => ?_⟩
  ·exact ⟨fun h => (h3.1 b hb).1 ((k4 b).2 (.inr h)), fun h => (h3.1 b hb).2 ((k5 b).2 (.inr h))⟩
  ·exact h3.2 b ((k4 b).2 (.inr hb))
  ·have e := h3.2 b ((k4 b).2 (.inl hb))
   exact ⟨fun h => h.elim e.1 (k3.1 b hb).1, fun h => h.elim e.2 (k3.1 b hb).2⟩
  ·rcases hb with hb | hb
   ·exact ⟨fun h => (h3.1 b hb).1 ((k4 b).2 (.inl h)), fun h => (h3.1 b hb).2 ((k5 b).2 (.inl h))⟩
   ·exact k3.2 b hb
  ·rw [h4, k4]; exact ⟨fun h => h.elim (fun h => .inr (.inl h)) fun h => h.elim .inl fun h => .inr (.inr h), fun h => h.elim (fun h => .inr (.inl h)) fun h => h.elim .inl fun h => .inr (.inr h)⟩
  ·rw [h5, k5]; exact ⟨fun h => h.elim (fun h => .inr (.inl h)) fun h => h.elim .inl fun h => .inr (.inr h), fun h => h.elim (fun h => .inr (.inl h)) fun h => h.elim .inl fun h => .inr (.inr h)⟩
theorem Sep.perm {w : World} {l l' : List Asrt} (h : Sep l w) (hp : l.Perm l') : Sep l' w := by obtain ⟨O, I, h⟩ := h; exact ⟨O, I, h.perm hp⟩
theorem Sep.drop {w : World} {l : List Asrt} {a : Asrt} (h : Sep (a :: l) w) : Sep l w := by obtain ⟨O, I, O1, I1, O2, I2, h1, h2, _⟩ := h; exact ⟨_, _, h2⟩
def Base (W : World) : Asrt where
 h w O I := Fr (fun _ => False) W w ∧ (∀ b, ¬ O b) ∧ ∀ b, I b ↔ b < W.heap.size
 fr := fun ⟨h1, h2, h3⟩ hf hm => ⟨h1.trans hf fun b hb => .inr (by have := (hm b hb).2; rw [h3] at this; omega), h2, h3⟩
 lt := fun ⟨h1, h2, h3⟩ b hb => hb.elim (fun h => absurd h (h2 b)) fun h => Nat.lt_of_lt_of_le ((h3 b).1 h) h1.size
 ap := fun ⟨h1, h2, h3⟩ b hb => absurd hb (h2 b)
theorem Sep.base (W : World) : Sep [Base W] W :=
 ⟨fun _ => False, fun b => b < W.heap.size, fun _ => False, fun b => b < W.heap.size, fun _ => False, fun _ => False, ⟨Fr.refl _ _, fun _ h => h, fun _ => Iff.rfl⟩, ⟨fun _ h => h, fun _ h => h⟩, ⟨fun b h => h.elim, fun b h => h.elim⟩, fun b => by simp, fun b => by simp⟩
theorem Sep.base_at {W w : World} {l : List Asrt} (h : Sep l w) (i : Nat) (hi : l[i]? = some (Base W)) : Fr (fun _ => False) W w := by
 obtain ⟨O, I, h⟩ := h.get i hi; exact h.1
def Cells (b : Nat) (cs : Array Value) (t : TypeId) : Asrt where
 h w O I := w.heap[b]? = some (.cells cs t (0, 0)) ∧ (∀ x, O x ↔ x = b) ∧ ∀ x, ¬ I x
 fr := fun ⟨h1, h2, h3⟩ hf hm => ⟨hf.get h1 fun h => (hm b h).1 ((h2 b).2 rfl), h2, h3⟩
 lt := fun ⟨h1, h2, h3⟩ x hx => hx.elim (fun h => (h2 x).1 h ▸ lt_of_get h1) fun h => absurd h (h3 x)
 ap := fun ⟨h1, h2, h3⟩ x _ => h3 x
theorem Sep.cells {w : World} {l : List Asrt} (h : Sep l w) (i : Nat) {b : Nat} {cs : Array Value} {t : TypeId} (hi : l[i]? = some (Cells b cs t)) : w.heap[b]? = some (.cells cs t (0, 0)) := by
 obtain ⟨O, I, h, _⟩ := h.get i hi; exact h
theorem Sep.cell {w : World} {l : List Asrt} (h : Sep l w) (cs : Array Value) (t : TypeId) : Sep (Cells w.heap.size cs t :: l) (w.alloc (.cells cs t)) :=
 h.new (Fr.alloc (fun _ => False) w _) (fun b hb => hb.elim) (O' := fun x => x = w.heap.size) (I' := fun _ => False) ⟨alloc_new _ _, fun _ => Iff.rfl, fun _ h => h⟩ (fun b hb => by omega) fun b hb => hb.elim
end Go.Proofs.XSep

set_option linter.unusedVariables false
set_option linter.unusedSimpArgs false
namespace Go.Proofs.XPtr
open Go Go.RowKit Go.Proofs.XRed Go.Proofs.XHeap Go.Proofs.XMaps Go.MapKept
section
variable {P : Program} {w : World} {m : Nat} {l : List (Nat × Nat)} {t kt et : TypeId}
end
end Go.Proofs.XPtr

set_option linter.unusedVariables false
set_option linter.unusedSimpArgs false
set_option maxRecDepth 100000
namespace Go.Proofs.YtcdcojpfealppaaGreat
open Go Go.Proofs Go.RowKit Go.Proofs.XRed Go.Proofs.XHeap Go.Proofs.XMaps Go.Proofs.XSlices Go.Proofs.XDisk Go.Proofs.XCalls Go.Proofs.XRange Go.Proofs.XKeys Go.Proofs.XPtr Tryz
section
variable {w w0 : World} {D : Nat} {S S' : AD} {O I : Nat → Prop} {L : Lay} {k : Value → World → Prop}
abbrev Twins := List (Nat × Nat × Value)
section
variable {ov M dk m1 m2 : Nat} {d1 d2 : Names} {rv rdv : Value} {rs : List Turn} {tl tl' : Twins} {w' : World}
end
end
end Go.Proofs.YtcdcojpfealppaaGreat

set_option linter.unusedVariables false
set_option linter.unusedSimpArgs false
set_option maxRecDepth 100000
namespace Go.Proofs.YtcdcojpfealppaaGreat
open Go Go.Proofs Go.RowKit Go.Proofs.XRed Go.Proofs.XHeap Go.Proofs.XMaps Go.Proofs.XSlices Go.Proofs.XDisk Go.Proofs.XCalls Go.Proofs.XSep Tryz
end Go.Proofs.YtcdcojpfealppaaGreat

set_option linter.unusedVariables false
set_option linter.unusedSimpArgs false
set_option maxRecDepth 100000
namespace Go.Proofs.YtcdcojpfealppaaGreat
open Go Go.Proofs Go.RowKit Go.Proofs.XRed Go.Proofs.XHeap Go.Proofs.XMaps Go.Proofs.XSlices Go.Proofs.XDisk Go.Proofs.XCalls Go.Proofs.XSep Tryz
structure RLay where
 has : Nat → Prop
 loc : Nat → Nat
 trow : Nat → Value
 nowv : Value
 befv : Value
 turnv : Value
 toldv : Value
section
variable {w : World} {D : Nat} {S S' : AD} {O I : Nat → Prop} {L L' : RLay} {k : Value → World → Prop}
end
end Go.Proofs.YtcdcojpfealppaaGreat

set_option linter.unusedVariables false
set_option linter.unusedSimpArgs false
set_option maxRecDepth 100000
namespace Go.Proofs.YtcdcojpfealppaaGreat
open Go Go.Proofs Go.RowKit Go.Proofs.XRed Go.Proofs.XHeap Go.Proofs.XMaps Go.Proofs.XSlices Go.Proofs.XDisk Go.Proofs.XCalls Go.Proofs.XSep Tryz
section
variable {w w0 : World} {D : Nat} {S S' : AD} {O I : Nat → Prop} {L L' : RLay} {k : Value → World → Prop}
end
end Go.Proofs.YtcdcojpfealppaaGreat

set_option linter.unusedVariables false
set_option linter.unusedSimpArgs false
set_option maxRecDepth 100000
namespace Go.Proofs.YtcdcojpfealppaaGreat
open Go Go.Proofs Go.RowKit Go.Proofs.XRed Go.Proofs.XHeap Go.Proofs.XMaps Go.Proofs.XSlices Go.Proofs.XDisk Go.Proofs.XCalls Go.Proofs.XSep Tryz
section
variable {w w0 : World} {D : Nat} {S S' : AD} {O I : Nat → Prop} {L L' : RLay} {k : Value → World → Prop}
theorem u8s_at {d : Bytes} {i : Nat} (hi : i < d.length) : (u8s d)[i]? = some (.int .u8 (d[i]).toNat) := by unfold u8s; simp [hi]
theorem u8s_set (b : Bytes) (i : Nat) (x : UInt8) : (u8s b).set i (.int .u8 x.toNat) = u8s (b.set i x) := by unfold u8s; rw [List.map_set]
end
end Go.Proofs.YtcdcojpfealppaaGreat

set_option linter.unusedVariables false
set_option linter.unusedSimpArgs false
set_option maxRecDepth 100000
namespace Go.Proofs.YtcdcojpfealppaaGreat
open Go Go.Proofs Go.RowKit Go.Proofs.XRed Go.Proofs.XHeap Go.Proofs.XMaps Go.Proofs.XSlices Go.Proofs.XDisk Go.Proofs.XCalls Go.Proofs.XSep Tryz
section
variable {w w0 : World} {D : Nat} {S S' : AD} {O I : Nat → Prop} {L L' : RLay} {k : Value → World → Prop}
end
end Go.Proofs.YtcdcojpfealppaaGreat

set_option linter.unusedVariables false
set_option linter.unusedSimpArgs false
set_option maxRecDepth 100000
namespace Go.Proofs.YtcdcojpfealppaaGreat
open Go Go.Proofs Go.RowKit Go.Proofs.XRed Go.Proofs.XHeap Go.Proofs.XMaps Go.Proofs.XSlices Go.Proofs.XDisk Go.Proofs.XCalls Go.Proofs.XSep Tryz
section
variable {w w0 : World} {D : Nat} {S S' : AD} {O I : Nat → Prop} {L L' : RLay} {k : Value → World → Prop}
end
end Go.Proofs.YtcdcojpfealppaaGreat

set_option linter.unusedVariables false
set_option linter.unusedSimpArgs false
set_option maxRecDepth 100000
namespace Go.Proofs.YtcdcojpfealppaaGreat
open Go Go.Proofs Go.RowKit Go.Proofs.XRed Go.Proofs.XHeap Go.Proofs.XMaps Go.Proofs.XSlices Go.Proofs.XDisk Go.Proofs.XCalls Go.Proofs.XSep Tryz
section
variable {w w0 : World} {D : Nat} {S S' : AD} {O I : Nat → Prop} {L L' : RLay} {k : Value → World → Prop}
end
end Go.Proofs.YtcdcojpfealppaaGreat

set_option linter.unusedVariables false
set_option linter.unusedSimpArgs false
set_option maxRecDepth 100000
namespace Go.Proofs.YtcdcojpfealppaaGreat
open Go Go.Proofs Go.RowKit Go.Proofs.XRed Go.Proofs.XHeap Go.Proofs.XMaps Go.Proofs.XSlices Go.Proofs.XDisk Go.Proofs.XCalls Go.Proofs.XSep Tryz
section
variable {w w0 : World} {D : Nat} {S S' : AD} {O I : Nat → Prop} {L L' : RLay} {k : Value → World → Prop}
end
end Go.Proofs.YtcdcojpfealppaaGreat

set_option linter.unusedVariables false
set_option linter.unusedSimpArgs false
set_option maxRecDepth 100000
namespace Go.Proofs.YtcdcojpfealppaaGreat
open Go Go.Proofs Go.RowKit Go.Proofs.XRed Go.Proofs.XHeap Go.Proofs.XMaps Go.Proofs.XSlices Go.Proofs.XDisk Go.Proofs.XCalls Go.Proofs.XSep Tryz
section
variable {w w0 : World} {D : Nat} {S S' : AD} {O I : Nat → Prop} {L L' : RLay} {k : Value → World → Prop}
end
end Go.Proofs.YtcdcojpfealppaaGreat

set_option linter.unusedVariables false
set_option linter.unusedSimpArgs false
set_option maxRecDepth 100000
namespace Go.Proofs.YtcdcojpfealppaaGreat
open Go Go.Proofs Go.RowKit Go.Proofs.XRed Go.Proofs.XHeap Go.Proofs.XMaps Go.Proofs.XSlices Go.Proofs.XDisk Go.Proofs.XCalls Go.Proofs.XSep Tryz
section
variable {w w0 : World} {D : Nat} {S S' : AD} {O I : Nat → Prop} {L L' : RLay} {k : Value → World → Prop}
theorem Src.fr0 {O : Nat → Prop} {w w' : World} {x : Value} {size m : Nat} {cs : List Value} (h : Src w x size m cs) (hs : 0 < size) (hf : Fr O w w') (hn : 0 < m → ∀ b, sblk x = some b → ¬ O b) : Src w' x size m cs := by
 by_cases h0 : 0 < m
 ·exact h.fr hs hf (hn h0)
 ·obtain ⟨A, c, e, hc, hl, _⟩ := h
  exact ⟨A, c, e, hc, hl, fun h1 => absurd h1 h0⟩
theorem SBytes.fr0 {O : Nat → Prop} {w w' : World} {x : Value} {bs : Bytes} (h : SBytes w x bs) (hf : Fr O w w') (hn : 0 < bs.length → ∀ b, sblk x = some b → ¬ O b) : SBytes w' x bs := Src.fr0 h (by omega) hf hn
end
end Go.Proofs.YtcdcojpfealppaaGreat

set_option linter.unusedVariables false
set_option linter.unusedSimpArgs false
set_option maxRecDepth 100000
namespace Go.Proofs.YtcdcojpfealppaaGreat
open Go Go.Proofs Go.RowKit Go.Proofs.XRed Go.Proofs.XHeap Go.Proofs.XMaps Go.Proofs.XSlices Go.Proofs.XDisk Go.Proofs.XCalls Go.Proofs.XSep Tryz
section
variable {w w0 : World} {D : Nat} {S S' : AD} {O I : Nat → Prop} {L L' : RLay} {k : Value → World → Prop}
theorem FilesV.none {B : Nat} {w : World} : FilesV w B (.slice Option.none 0 0) [] := ⟨[], .nil, ⟨rfl, .inl ⟨rfl, rfl⟩⟩, by rintro b hb; cases hb⟩
end
end Go.Proofs.YtcdcojpfealppaaGreat

set_option linter.unusedVariables false
set_option linter.unusedSimpArgs false
set_option maxRecDepth 100000
namespace Go.Proofs.YtcdcojpfealppaaGreat
open Go Go.Proofs Go.RowKit Go.Proofs.XRed Go.Proofs.XHeap Go.Proofs.XMaps Go.Proofs.XSlices Go.Proofs.XDisk Go.Proofs.XCalls Go.Proofs.XSep Tryz
section
variable {w w0 : World} {D : Nat} {S S' : AD} {O I : Nat → Prop} {L L' : RLay} {k : Value → World → Prop}
end
end Go.Proofs.YtcdcojpfealppaaGreat

set_option linter.unusedVariables false
set_option linter.unusedSimpArgs false
set_option maxRecDepth 100000
namespace Go.Proofs.YtcdcojpfealppaaGreat
open Go Go.Proofs Go.RowKit Go.Proofs.XRed Go.Proofs.XHeap Go.Proofs.XMaps Go.Proofs.XSlices Go.Proofs.XDisk Go.Proofs.XCalls Go.Proofs.XSep Tryz
section
variable {w w0 : World} {D : Nat} {S S' : AD} {O I : Nat → Prop} {L L' : RLay} {k : Value → World → Prop}
end
end Go.Proofs.YtcdcojpfealppaaGreat

set_option linter.unusedVariables false
set_option linter.unusedSimpArgs false
set_option maxRecDepth 100000
namespace Go.Proofs.YtcdcojpfealppaaGreat
open Go Go.Proofs Go.RowKit Go.Proofs.XRed Go.Proofs.XHeap Go.Proofs.XMaps Go.Proofs.XSlices Go.Proofs.XDisk Go.Proofs.XCalls Go.Proofs.XSep Tryz
section
variable {w w0 : World} {D : Nat} {S S' : AD} {O I : Nat → Prop} {L L' : RLay} {k : Value → World → Prop}
end
end Go.Proofs.YtcdcojpfealppaaGreat

set_option linter.unusedVariables false
set_option linter.unusedSimpArgs false
set_option maxRecDepth 100000
namespace Go.Proofs.YtcdcojpfealppaaGreat
open Go Go.Proofs Go.RowKit Go.Proofs.XRed Go.Proofs.XHeap Go.Proofs.XMaps Go.Proofs.XSlices Go.Proofs.XDisk Go.Proofs.XCalls Go.Proofs.XSep Tryz
section
variable {w w0 : World} {D : Nat} {S S' : AD} {O I : Nat → Prop} {L L' : RLay} {k : Value → World → Prop}
end
end Go.Proofs.YtcdcojpfealppaaGreat

set_option linter.unusedVariables false
set_option linter.unusedSimpArgs false
set_option maxRecDepth 100000
namespace Go.Proofs.YtcdcojpfealppaaGreat
open Go Go.Proofs Go.RowKit Go.Proofs.XRed Go.Proofs.XHeap Go.Proofs.XMaps Go.Proofs.XSlices Go.Proofs.XDisk Go.Proofs.XCalls Tryz
def zR : Array Value := #[.bool false, i64 0, .slice none 0 0, .slice none 0 0, .slice none 0 0, i64 0, i64 0, i64 0, i64 0, i64 0, .slice none 0 0]
def NilR (w : World) (p : Option Addr) : Prop := p = none ∨ ∃ b, p = some ⟨b, 0, none⟩ ∧ w.heap[b]? = some (.cells zR 62 (0, 0))
theorem NilR.fr {w w' : World} {p : Option Addr} (h : NilR w p) (hf : Fr no w w') : NilR w' p := by
 rcases h with h | ⟨b, h1, h2⟩
 ·exact .inl h
 ·exact .inr ⟨b, h1, hf.get h2 id⟩
section
variable {w : World} {p : Option Addr} {k : Value → World → Prop}
theorem nr_off (h : NilR w p) (hk : k (.bool true) w) : pFn P 74 [.pointer p] w k := by
 refine F74_in _ _ _ ?_
 unfold F74_0
 refine s_eqpn upt30 ?_
 rcases h with rfl | ⟨b, rfl, h⟩
 ·refine pG_skf ?_
  repeat (first | refine pG_skf ?_ | refine pG_un ?_)
  exact s_pick_t hk
 ·exact pG_yes rfl (pG_yes rfl (s_nil (pG_yes rfl (fa62_0 (pG_yes rfl (s_ldb (v := .bool false) (isAgg4 _) h rfl (pG_yes rfl (s_not (s_pick_f hk)))))))))
theorem nr_there (h : NilR w p) {v : Value} (hk : k (.tuple #[i64 0, i64 50]) w) : pFn P 93 [.pointer p, v] w k := by
 refine F93_in _ _ _ _ ?_
 unfold F93_0
 exact nr_off h (pC_true hk)
theorem nr_create (h : NilR w p) {v : Value} (hk : k (i64 50) w) : pFn P 61 [.pointer p, v] w k := by
 refine F61_in _ _ _ _ ?_
 unfold F61_0
 exact nr_off h (pC_true hk)
theorem nr_writeAt (h : NilR w p) {v u d : Value} (hk : k (i64 50) w) : pFn P 64 [.pointer p, v, u, d] w k := by
 refine F64_in _ _ _ _ _ _ ?_
 unfold F64_0
 exact nr_there h (s_ext rfl (s_ext rfl (s_nei_t (by decide) (pC_true hk))))
theorem nr_append (h : NilR w p) {v d : Value} (hk : k (i64 50) w) : pFn P 66 [.pointer p, v, d] w k := by
 refine F66_in _ _ _ _ _ ?_
 unfold F66_0
 exact nr_there h (s_ext rfl (s_ext rfl (s_nei_t (by decide) (pC_true hk))))
theorem nr_truncate (h : NilR w p) {v d : Value} (hk : k (i64 50) w) : pFn P 68 [.pointer p, v, d] w k := by
 refine F68_in _ _ _ _ _ ?_
 unfold F68_0
 exact nr_there h (s_ext rfl (s_ext rfl (s_nei_t (by decide) (pC_true hk))))
theorem nr_rename (h : NilR w p) {v d : Value} (hk : k (i64 50) w) : pFn P 69 [.pointer p, v, d] w k := by
 refine F69_in _ _ _ _ _ ?_
 unfold F69_0
 exact nr_off h (pC_true hk)
theorem nr_remove (h : NilR w p) {v : Value} (hk : k (i64 50) w) : pFn P 70 [.pointer p, v] w k := by
 refine F70_in _ _ _ _ ?_
 unfold F70_0
 exact nr_there h (s_ext rfl (s_ext rfl (s_nei_t (by decide) (pC_true hk))))
theorem nr_sync (h : NilR w p) {v : Value} (hk : k (i64 50) w) : pFn P 71 [.pointer p, v] w k := by
 refine F71_in _ _ _ _ ?_
 unfold F71_0
 exact nr_there h (s_ext rfl (s_ext rfl (s_nei_t (by decide) (pC_true hk))))
theorem nr_syncNames (h : NilR w p) (hk : k (i64 50) w) : pFn P 72 [.pointer p] w k := by
 refine F72_in _ _ _ ?_
 unfold F72_0
 exact nr_off h (pC_true hk)
theorem nr_plan (h : NilR w p) {v : Value} (hk : ∀ w', Fr no w w' → k (.tuple #[]) w') : pFn P 121 [.pointer p, v] w k := by
 refine F121_in _ _ _ _ ?_
 unfold F121_0
 refine s_boxQ fun w1 b1 f1 g1 => ?_
 exact nr_off (h.fr f1) (s_not (pC_false (hk _ f1)))
theorem nr_crash (h : NilR w p) {v : Value} (hk : k (.tuple #[]) w) : pFn P 123 [.pointer p, v] w k := by
 refine F123_in _ _ _ _ ?_
 unfold F123_0
 refine s_eqpn upt30 ?_
 rcases h with rfl | ⟨b, rfl, h⟩
 ·refine pG_skf ?_
  repeat (first | refine pG_skf ?_ | refine pG_un ?_)
  exact s_pick_t (pC_true hk)
 ·exact pG_yes rfl (pG_yes rfl (s_nil (pG_yes rfl (fa62_1 (pG_yes rfl (s_ldb (v := i64 0) (isAgg3 _) h rfl (pG_yes rfl (s_eqi_t rfl (s_pick_f (pC_true hk))))))))))
theorem nr_strokes (h : NilR w p) (hk : k (i64 0) w) : pFn P 75 [.pointer p] w k := by
 refine F75_in _ _ _ ?_
 unfold F75_0
 refine s_eqpn upt30 ?_
 rcases h with rfl | ⟨b, rfl, h⟩
 ·exact pC_true hk
 ·exact pC_false (s_nil (fa62_5 (s_ldb (v := i64 0) (isAgg3 _) h rfl hk)))
theorem nr_room (h : NilR w p) (hk : k (i64 0) w) : pFn P 77 [.pointer p] w k := by
 refine F77_in _ _ _ ?_
 unfold F77_0
 refine s_eqpn upt30 ?_
 rcases h with rfl | ⟨b, rfl, h⟩
 ·exact pC_true hk
 ·exact pC_false (s_nil (fa62_1 (s_ldb (v := i64 0) (isAgg3 _) h rfl hk)))
theorem nr_used (h : NilR w p) (hk : k (i64 0) w) : pFn P 76 [.pointer p] w k := by
 refine F76_in _ _ _ ?_
 unfold F76_0
 refine s_eqpn upt30 ?_
 rcases h with rfl | ⟨b, rfl, h⟩
 ·exact pC_true hk
 ·refine pC_false ?_
  refine F76L1_inv (m := 0) k (fun m ρ w' => w' = w ∧ ρ 0 = ptr b ∧ ρ 3 = i64 0 ∧ ρ 4 = i64 0) ?_ ⟨rfl, rfl, rfl, rfl⟩
  rintro m ρ w' ⟨rfl, e0, e3, e4⟩
  rw [F76_1_eq]
  unfold F76_1
  rw [e0, e4]
  refine s_nil (fa62_2 (s_ldb (v := .slice none 0 0) (isAgg59 _) h rfl (s_len usl59 (s_lt_f (by decide) (pC_false ?_)))))
  rw [F76_2_eq]
  unfold F76_2
  first | (show k (ρ 3) _; rw [e3]; exact hk) | skip
theorem nr_files (h : NilR w p) (hk : k (.slice none 0 0) w) : pFn P 41 [.pointer p] w k := by
 refine F41_in _ _ _ ?_
 unfold F41_0
 refine s_eqpn upt30 ?_
 rcases h with rfl | ⟨b, rfl, h⟩
 ·exact pC_true hk
 ·refine pC_false ?_
  refine F41L1_inv (m := 0) k (fun m ρ w' => w' = w ∧ ρ 0 = ptr b ∧ ρ 3 = .slice none 0 0 ∧ ρ 4 = i64 0) ?_ ⟨rfl, rfl, rfl, rfl⟩
  rintro m ρ w' ⟨rfl, e0, e3, e4⟩
  rw [F41_1_eq]
  unfold F41_1
  rw [e0, e4]
  refine s_nil (fa62_2 (s_ldb (v := .slice none 0 0) (isAgg59 _) h rfl (s_len usl59 (s_lt_f (by decide) (pC_false ?_)))))
  rw [F41_2_eq]
  unfold F41_2
  show k (ρ 3) _; rw [e3]; exact hk
theorem nr_safe (h : NilR w p) (hk : k (.slice none 0 0) w) : pFn P 42 [.pointer p] w k := by
 refine F42_in _ _ _ ?_
 unfold F42_0
 refine s_eqpn upt30 ?_
 rcases h with rfl | ⟨b, rfl, h⟩
 ·exact pC_true hk
 ·refine pC_false ?_
  refine F42L1_inv (m := 0) k (fun m ρ w' => w' = w ∧ ρ 0 = ptr b ∧ ρ 3 = .slice none 0 0 ∧ ρ 4 = i64 0) ?_ ⟨rfl, rfl, rfl, rfl⟩
  rintro m ρ w' ⟨rfl, e0, e3, e4⟩
  rw [F42_1_eq]
  unfold F42_1
  rw [e0, e4]
  refine s_nil (fa62_3 (s_ldb (v := .slice none 0 0) (isAgg59 _) h rfl (s_len usl59 (s_lt_f (by decide) (pC_false ?_)))))
  rw [F42_2_eq]
  unfold F42_2
  show k (ρ 3) _; rw [e3]; exact hk
theorem nr_read (h : NilR w p) {v u d : Value} (hk : k (.tuple #[.slice none 0 0, i64 50]) w) : pFn P 34 [.pointer p, v, u, d] w k := by
 refine F34_in _ _ _ _ _ _ ?_
 unfold F34_0
 exact nr_there h (s_ext rfl (s_ext rfl (s_nei_t (by decide) (pC_true hk))))
theorem nr_size (h : NilR w p) {v : Value} (hk : k (.tuple #[i64 0, i64 50]) w) : pFn P 120 [.pointer p, v] w k := by
 refine F120_in _ _ _ _ ?_
 unfold F120_0
 exact nr_there h (s_ext rfl (s_ext rfl (s_nei_t (by decide) (pC_true hk))))
theorem nr_list (h : NilR w p) {v : Value} (hk : k (.slice none 0 0) w) : pFn P 44 [.pointer p, v] w k := by
 refine F44_in _ _ _ _ ?_
 unfold F44_0
 exact nr_off h (pC_true hk)
theorem nr_reads (h : NilR w p) (hk : ∀ w' v, Src w' v 3 0 [] → Fr no w w' → k v w') : pFn P 33 [.pointer p] w k := by
 refine F33_in _ _ _ ?_
 unfold F33_0
 refine s_eqpn upt30 ?_
 rcases h with rfl | ⟨b, rfl, h⟩
 ·exact pC_true (hk w _ (Src.nil w 3) (Fr.refl _ _))
 ·refine pC_false (lit0_56 ?_)
  have f1 := Fr.alloc no w (.cells #[] 134)
  have ho := own_lit w w.heap.size 134 3 #[] 0 (Nat.le_refl _) (by unfold maxLen; omega) rfl
  show px P _ (w.alloc (.cells #[] 134)) _
  have z1 := f1.size
  generalize w.alloc (.cells #[] 134) = w1 at *
  refine s_nil (fa62_8 (s_ldb (v := .slice none 0 0) (isAgg56 _) (f1.get h id) rfl ?_))
  refine ap56 ho (Src.nil w1 3) (by intro u hu; cases hu) (by omega) (by omega) fun v' w2 h2 f2 hb2 => ?_
  exact hk w2 v' (Src.of_own h2) (f1.trans f2 fun b hb => .inr (by injection hb with hb; have hb' : b = w.heap.size := hb; omega))
theorem nr_look (h : NilR w p) (hk : ∀ w', (p = none ∧ w' = w) ∨ (∃ b, p = some ⟨b, 0, none⟩ ∧ w' = w.setCell ⟨b, 10, none⟩ (.slice none 0 0)) → k (.tuple #[]) w') : pFn P 126 [.pointer p] w k := by
 refine F126_in _ _ _ ?_
 unfold F126_0
 refine s_nepn upt30 ?_
 rcases h with rfl | ⟨b, rfl, h⟩
 ·exact pC_false (hk w (.inl ⟨rfl, rfl⟩))
 ·refine pC_true (s_nil (fa62_8 (s_st (sizeOf56 _) rfl rfl h (by decide) ?_)))
  exact hk _ (.inr ⟨b, rfl, rfl⟩)
end
end Go.Proofs.YtcdcojpfealppaaGreat

set_option linter.unusedVariables false
namespace Go.Proofs.XSep
open Go Go.RowKit Go.Proofs.XRed Go.Proofs.XHeap
theorem Seps.at2 {w : World} {J : Blks} {a b : Asrt} : ∀ {l : List Asrt} {i j : Nat} {O I : Blks}, Seps l w O I → (∀ b, O b → ¬ J b) → i ≠ j → l[i]? = some a → l[j]? = some b →
    ∃ O1 I1 O2 I2, a.h w O1 I1 ∧ b.h w O2 I2 ∧ (∀ x, O1 x → ¬ O2 x ∧ ¬ I2 x) ∧ (∀ x, O2 x → ¬ O1 x ∧ ¬ I1 x) ∧ (∀ b, O1 b → O b) ∧ (∀ b, I1 b → I b) ∧ ∀ c w' O' I', c.h w' O' I' → Nxt w O1 J w' O' I' → ∃ O3 I3, Seps (l.set i c) w' O3 I3 ∧ Fr O w w' ∧ (∀ b, O3 b → O b ∨ w.heap.size ≤ b) ∧ ∀ b, I3 b → I b ∨ J b ∨ w.heap.size ≤ b
  | [], _, _, _, _, _, _, _, h, _ => by simp at h
  | x :: l, 0, 0, _, _, _, _, h, _, _ => absurd rfl h
  | x :: l, 0, j + 1, O, I, hs, hJ, _, hi, hj => by
    have hs0 := hs
    obtain ⟨Oa, Ia, Ob, Ib, h1, h2, h3, h4, h5⟩ := hs
    simp at hi; subst hi
    obtain ⟨O2, I2, g1, g2, g3, _⟩ := h2.at_ (J := fun _ => False) (i := j) (a := b) (fun _ _ h => h) (by simpa using hj)
    refine ⟨Oa, Ia, O2, I2, h1, g1, fun x hx => ⟨fun h => (h3.1 x hx).1 (g2 x h), fun h => (h3.1 x hx).2 (g3 x h)⟩, fun x hx => h3.2 x (g2 x hx), fun b hb => (h4 b).2 (.inl hb), fun b hb => (h5 b).2 (.inl hb), fun c w' O' I' hc hn => ?_⟩
    refine ⟨fun b => O' b ∨ Ob b, fun b => I' b ∨ Ib b, ⟨O', I', Ob, Ib, hc, Seps.fr hn.fr h2 h3.1, ⟨fun b hb => ?_, fun b hb => ?_⟩, fun _ => Iff.rfl, fun _ => Iff.rfl⟩, ?_, ?_, ?_⟩
    · rcases hn.on b hb with h | h
      · exact h3.1 b h
      · exact ⟨fun h' => absurd (h2.lt b (.inl h')) (by omega), fun h' => absurd (h2.lt b (.inr h')) (by omega)⟩
    · have hlt := h2.lt b (.inl hb)
      refine ⟨fun h => ?_, fun h => ?_⟩
      · rcases hn.on b h with h | h
        · exact (h3.1 b h).1 hb
        · omega
      · rcases hn.in_ b h with h | h
        · exact hJ b ((h4 b).2 (.inr hb)) h
        · omega
    · exact hn.fr.mono fun b hb => .inl ((h4 b).2 (.inl hb))
    · rintro b (hb | hb)
      · exact (hn.on b hb).imp (fun h => (h4 b).2 (.inl h)) id
      · exact .inl ((h4 b).2 (.inr hb))
    · rintro b (hb | hb)
      · exact .inr (hn.in_ b hb)
      · exact .inl ((h5 b).2 (.inr hb))
  | x :: l, i + 1, j, O, I, ⟨O1, I1, O2, I2, h1, h2, h3, h4, h5⟩, hJ, hij, hi, hj => by
    have main : ∀ Oa Ia, a.h w Oa Ia → (∀ b, Oa b → O2 b) → (∀ b, Ia b → I2 b) → (∀ c w' O' I', c.h w' O' I' → Nxt w Oa J w' O' I' → ∃ O3 I3, Seps (l.set i c) w' O3 I3 ∧ Fr O2 w w' ∧ (∀ b, O3 b → O2 b ∨ w.heap.size ≤ b) ∧ ∀ b, I3 b → I2 b ∨ J b ∨ w.heap.size ≤ b) →
        ∀ c w' O' I', c.h w' O' I' → Nxt w Oa J w' O' I' → ∃ O3 I3, Seps ((x :: l).set (i + 1) c) w' O3 I3 ∧ Fr O w w' ∧ (∀ b, O3 b → O b ∨ w.heap.size ≤ b) ∧ ∀ b, I3 b → I b ∨ J b ∨ w.heap.size ≤ b := by
      intro Oa Ia ha ho hi2 hs c w' O' I' hc hn
      obtain ⟨O3, I3, hs3, hf, hon, hin⟩ := hs c w' O' I' hc hn
      refine ⟨fun b => O1 b ∨ O3 b, fun b => I1 b ∨ I3 b, ⟨O1, I1, O3, I3, x.fr h1 hf h3.2, hs3, ⟨fun b hb => ?_, fun b hb => ?_⟩, fun _ => Iff.rfl, fun _ => Iff.rfl⟩, ?_, ?_, ?_⟩
      · have hlt := x.lt h1 b (.inl hb)
        refine ⟨fun h => ?_, fun h => ?_⟩
        · rcases hon b h with h | h
          · exact (h3.1 b hb).1 h
          · omega
        · rcases hin b h with h | h | h
          · exact (h3.1 b hb).2 h
          · exact hJ b ((h4 b).2 (.inl hb)) h
          · omega
      · rcases hon b hb with h | h
        · exact h3.2 b h
        · exact ⟨fun h' => absurd (x.lt h1 b (.inl h')) (by omega), fun h' => absurd (x.lt h1 b (.inr h')) (by omega)⟩
      · exact hf.mono fun b hb => .inl ((h4 b).2 (.inr hb))
      · rintro b (hb | hb)
        · exact .inl ((h4 b).2 (.inl hb))
        · exact (hon b hb).imp (fun h => (h4 b).2 (.inr h)) id
      · rintro b (hb | hb)
        · exact .inl ((h5 b).2 (.inl hb))
        · rcases hin b hb with h | h
          · exact .inl ((h5 b).2 (.inr h))
          · exact .inr h
    cases j with
    | zero =>
      simp at hj; subst hj
      obtain ⟨Oa, Ia, ha, ho, hi2, hs⟩ := h2.at_ (J := J) (i := i) (a := a) (fun b hb => hJ b ((h4 b).2 (.inr hb))) (by simpa using hi)
      exact ⟨Oa, Ia, O1, I1, ha, h1, fun y hy => h3.2 y (ho y hy), fun y hy => ⟨fun h => (h3.1 y hy).1 (ho y h), fun h => (h3.1 y hy).2 (hi2 y h)⟩, fun b hb => (h4 b).2 (.inr (ho b hb)), fun b hb => (h5 b).2 (.inr (hi2 b hb)), main Oa Ia ha ho hi2 hs⟩
    | succ j =>
      obtain ⟨Oa, Ia, Oc, Ic, ha, hc, g1, g2, ho, hi2, hs⟩ := Seps.at2 (J := J) (i := i) (j := j) h2 (fun b hb => hJ b ((h4 b).2 (.inr hb))) (by omega) (by simpa using hi) (by simpa using hj)
      exact ⟨Oa, Ia, Oc, Ic, ha, hc, g1, g2, fun b hb => (h4 b).2 (.inr (ho b hb)), fun b hb => (h5 b).2 (.inr (hi2 b hb)), main Oa Ia ha ho hi2 hs⟩
theorem Sep.at2 {l : List Asrt} {w : World} (h : Sep l w) (i j : Nat) {a b : Asrt} (hij : i ≠ j) (hi : l[i]? = some a) (hj : l[j]? = some b) :
    ∃ O I O2 I2 J, a.h w O I ∧ b.h w O2 I2 ∧ (∀ x, O x → ¬ O2 x ∧ ¬ I2 x) ∧ (∀ x, O2 x → ¬ O x ∧ ¬ I x) ∧ (∀ b, I b → J b) ∧ (∀ b, O b → ¬ J b) ∧ ∀ c w' O' I', c.h w' O' I' → Nxt w O J w' O' I' → Sep (l.set i c) w' := by
  obtain ⟨O, I, hs⟩ := h
  obtain ⟨O1, I1, O2, I2, h1, h2, g1, g2, h3, h4, h5⟩ := hs.at2 (J := I) hs.ap hij hi hj
  refine ⟨O1, I1, O2, I2, I, h1, h2, g1, g2, h4, fun b hb => hs.ap b (h3 b hb), fun c w' O' I' hc hn => ?_⟩
  obtain ⟨O3, I3, h6, -⟩ := h5 c w' O' I' hc hn
  exact ⟨O3, I3, h6⟩
end Go.Proofs.XSep
