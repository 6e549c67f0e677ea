/- Put together by a program (wip/tools/shake.py): Args6,Card6,CardU,XFileA,XFileB,XWhole,XCut,XTorn,XCut2,XCut3,XCut4,XLoad6,XSep2,XSep3,XBag,XBag2,XEntry. -/
import Derived.Test.YteeeggphkhimcaaGreatDoorRows
import Derived.Test.YteeeggphkhimcaaGreatDoorD6
import Derived.Test.YteeeggphkhimcaaGreatDoorD13
import Derived.JoinedCond
import Derived.Deep.Slices
import Derived.Test.YteeeggphkhimcaaGreatDoorTie
import Derived.Test.YteeeggphkhimcaaGreatDoorD7
import Derived.ChangeMaps5
import Derived.LaidLaws
import Derived.LaidHandle
import Derived.SizedLaws
import Derived.SevenTiedAt
import Derived.Carry
import Derived.Test.YteeeggphkhimcaaGreatDoorD8
import Derived.Test.YteeeggphkhimcaaGreatDoorD2
set_option linter.unusedVariables false
set_option linter.unusedSimpArgs false
set_option maxRecDepth 100000
namespace Go.Proofs.YteeeggphkhimcaaGreatDoor
open Go Go.ChangeShapes Go.WideShapes Go.ChangeAt Go.RowKit Go.Proofs Go.Proofs.XRed Go.Proofs.XHeap Go.Proofs.XSlices Go.Proofs.XRow Go.Proofs.XDisk Tryz
section
variable {H:Type} {enc:TypeId × Value → H}
variable {W:World}
def Len (d:DataW H) (n:Nat) : Prop := n = 0 ∨ ∃ e s,d = .slice e s ∧ e.length = n
theorem open_bytes {fuel:Nat} {cs:List Value} {x:DataW H × List MemPlace} (h:DataW.trod enc prog W 0 (fun _ => true) true fuel 23 cs = some x) : ∃ (dv:Value) (d:Bytes),cs = [dv] ∧ SBytes W dv d ∧ Len x.1 d.length := by
 rcases open_ints underlying23 underlying5 (by kernel_rfl) h with ⟨rfl,rfl⟩ | ⟨a,len,cap,zs,rfl,_,hl,hm,hz,rfl,hcell,hwf⟩
 ·exact ⟨_,[],rfl,SBytes.nil _,.inl rfl⟩
 ·simp only [if_true] at hz
  have hbyte : ∀ z ∈ zs,((UInt8.ofNat z.toNat).toNat : Int) = z := by
   intro z hz
   have hb := hwf z hz
   simp only [Lit.wf,IntKind.min,IntKind.max,IntKind.signed,IntKind.bits] at hb
   simp at hb
   have : (UInt8.ofNat z.toNat).toNat = z.toNat := by simp; omega
   rw [this]; omega
  have hlen : ((zs.take len).map fun z => UInt8.ofNat z.toNat).length = len := by simp; omega
  refine ⟨_,(zs.take len).map fun z => UInt8.ofNat z.toNat,rfl,?_,?_⟩
  ·unfold SBytes
   rw [hlen]
   obtain ⟨b,off,spot⟩ := a
   refine ⟨some ⟨b,off,spot⟩,cap,rfl,hl,by simp [u8s]; omega,fun h0 => ?_⟩
   have hspot : spot = none := by simpa [Addr.add] using World.cell?_spot (hcell 0 (by omega))
   subst hspot
   refine ⟨b,off,rfl,fun j u hj => ?_⟩
   unfold u8s at hj
   rw [List.map_map,List.getElem?_map] at hj
   obtain ⟨z,hz',rfl⟩ := Option.map_eq_some_iff.1 hj
   have hjl : j < len := by
    have := (List.getElem?_eq_some_iff.1 hz').1
    simp at this; omega
   rw [List.getElem?_take_of_lt hjl] at hz'
   have := hcell j (by omega)
   rw [add_at,List.getD,hz'] at this
   rw [this]
   show some (Value.int .u8 z) = some (Value.int .u8 ((UInt8.ofNat z.toNat).toNat : Int))
   rw [hbyte z (List.mem_of_getElem? hz')]
  ·rw [hlen]
   exact .inr ⟨lits .u8 (zs.take len),lits .u8 (zs.drop len),rfl,by simp [lits]; omega⟩
theorem open_intsV {fuel:Nat} {cs:List Value} {x:DataW H × List MemPlace} (h:DataW.trod enc prog W 0 (fun _ => true) true fuel 58 cs = some x) : ∃ (dv:Value) (d:List Int),cs = [dv] ∧ Src W dv 1 d.length (d.map fun n => .int .i64 n) ∧ Len x.1 d.length := by
 rcases open_ints underlying58 underlying3 (by kernel_rfl) h with ⟨rfl,rfl⟩ | ⟨a,len,cap,zs,rfl,_,hl,hm,hz,rfl,hcell,hwf⟩
 ·exact ⟨_,[],rfl,Src.nil _ _,.inl rfl⟩
 ·simp only [if_true] at hz
  have hlen : (zs.take len).length = len := by simp; omega
  refine ⟨_,zs.take len,rfl,?_,?_⟩
  ·rw [hlen]
   obtain ⟨b,off,spot⟩ := a
   refine ⟨some ⟨b,off,spot⟩,cap,rfl,hl,by simp; omega,fun h0 => ?_⟩
   have hspot : spot = none := by simpa [Addr.add] using World.cell?_spot (hcell 0 (by omega))
   subst hspot
   refine ⟨b,off,rfl,fun j u hj => ?_⟩
   rw [List.getElem?_map] at hj
   obtain ⟨z,hz',rfl⟩ := Option.map_eq_some_iff.1 hj
   have hjl : j < len := by
    have := (List.getElem?_eq_some_iff.1 hz').1
    simp at this; omega
   rw [List.getElem?_take_of_lt hjl] at hz'
   have := hcell j (by omega)
   rw [add_at,List.getD,hz'] at this
   exact this
  ·rw [hlen]
   exact .inr ⟨lits .i64 (zs.take len),lits .i64 (zs.drop len),rfl,by simp [lits]; omega⟩
theorem i64_wf {n:Int} (h:(Lit.int .i64 n).wf = true) : -9223372036854775808 ≤ n ∧ n ≤ 9223372036854775807 := by
 simp only [Lit.wf,IntKind.min,IntKind.max,IntKind.signed,IntKind.bits] at h
 simp at h
 omega
theorem weights_all {P:Program} {t:TypeId} {d:DataW H} : ∀ {l:List (DataW H)},d ∈ l → ∀ n ∈ d.weights P t,n ∈ DataW.weightsAll P t l
 | a :: r,h,n,hn => by
  simp only [DataW.weightsAll,List.mem_append]
  rcases List.mem_cons.1 h with rfl | h
  ·exact Or.inl hn
  ·exact Or.inr (weights_all h n hn)
theorem len_weight {P:Program} {t e:TypeId} {d:DataW H} {n b:Nat} (ht:P.underlying t = some (.slice e)) (hb:P.bytesOf e = b) (hl:Len d n) (hw:∀ m ∈ d.weights P t,m ≤ reachBytes) : n * b ≤ reachBytes := by
 rcases hl with rfl | ⟨el,sp,rfl,rfl⟩
 ·rw [Nat.zero_mul]; exact Nat.zero_le _
 ·have := hw ((el.length + sp.length) * P.bytesOf e) (by simp [DataW.weights,ht])
  rw [hb] at this
  exact Nat.le_trans (Nat.mul_le_mul_right _ (by omega)) this
def FileFits (d:DataW H) : Prop := ∀ parts,d = .agg parts → ∀ q n,parts[1]? = some q → Len q n → n ≤ 140737488355328
theorem fileFits_weights {d:DataW H} (hw:∀ m ∈ d.weights prog 107,m ≤ reachBytes) : FileFits d := by
 have hr : reachBytes ≤ 140737488355328 := by decide
 rintro parts rfl q n hq hl
 have hu := underlying107
 have hwe : DataW.weights prog 107 (.agg parts) = DataW.weightsEach prog [9,23] parts := by
  simp only [DataW.weights,hu]
  rfl
 have sub : ∀ m ∈ q.weights prog 23,m ≤ reachBytes := by
  intro m hm
  refine hw m ?_
  rw [hwe]
  exact DataW.weights_mem_each (ts := [9,23]) (j := 1) rfl hq m hm
 have := len_weight (b := 1) underlying23 (by kernel_rfl) hl sub
 omega
theorem files_weights {d:DataW H} (hw:∀ m ∈ d.weights prog 36,m ≤ reachBytes) : ∀ elems spare,d = .slice elems spare → ∀ e ∈ elems,FileFits e := by
 rintro elems spare rfl e he
 refine fileFits_weights fun m hm => hw m ?_
 simp only [DataW.weights,underlying36,List.mem_cons,List.mem_append]
 exact Or.inr (Or.inl (weights_all he m hm))
theorem open_file {fuel:Nat} {cs:List Value} {x:DataW H × List MemPlace} (hb:FileFits x.1) (h:DataW.trod enc prog W 0 (fun _ => true) true fuel 107 cs = some x) : ∃ (f:FileA) (dv:Value),cs = [.string f.1,dv] ∧ SBytes W dv f.2 ∧ f.1.size ≤ 9223372036854775807 ∧ f.2.length ≤ 140737488355328 := by
 obtain ⟨xs,k,rfl,rfl,hlen,hxl,hf⟩ := DataW.trod_struct underlying107 h
 have c10 : prog.cellsOf 107 = 2 := by kernel_rfl
 rw [c10] at hlen
 match cs,hlen with
 | [c0,c1],_ =>
 match xs,hxl with
 | [x0,x1],_ =>
 have g0 : DataW.trod enc prog W 0 (fun _ => true) true k 9 (([c0,c1].drop 0).take (prog.cellsOf 9)) = some x0 := hf 0 _ rfl
 have g1 : DataW.trod enc prog W 0 (fun _ => true) true k 23 (([c0,c1].drop 1).take (prog.cellsOf 23)) = some x1 := hf 1 _ rfl
 have k9 : prog.cellsOf 9 = 1 := by kernel_rfl
 have k30 : prog.cellsOf 23 = 1 := by kernel_rfl
 simp only [k9,k30,List.drop_zero,List.drop_succ_cons,List.take_succ_cons,List.take_zero,List.getElem?_cons_zero,List.getElem?_cons_succ] at g0 g1
 obtain ⟨s1,e1,r1,w1⟩ := DataW.trod_string underlying9 g0
 obtain ⟨dv,d5,e5,s5,l5⟩ := open_bytes g1
 simp only [List.cons.injEq,and_true] at e1 e5
 subst e1 e5
 exact ⟨(s1,d5),c1,rfl,s5,small_name (by first | exact w1 | simpa [Lit.wf] using w1),hb _ rfl _ _ rfl l5⟩
theorem plain_small {l:FilesL} (h:∀ p ∈ l,p.1.1.size ≤ 9223372036854775807) : ∀ f ∈ l.plain,f.1.size ≤ 9223372036854775807 := fun f hf => by
 obtain ⟨q,hq,rfl⟩ := List.mem_map.1 hf; exact h q hq
theorem open_files {v:Value} {d:DataW H} {ps:List MemPlace} (hb:∀ elems spare,d = .slice elems spare → ∀ e ∈ elems,FileFits e) (hv:Value.okWide prog W .any 0 36 v) (h:DataW.Trod enc prog W 0 (fun _ => true) true 36 v d ps) :
    ∃ l : FilesL,FilesS W v l ∧ (∀ p ∈ l,p.1.2.length ≤ 140737488355328) ∧ ∀ p ∈ l,p.1.1.size ≤ 9223372036854775807 := by
  obtain ⟨a0,len,cap,rfl⟩ := okWide_slice underlying36 hv
  obtain ⟨fuel,hf⟩ := h
  have c10 : prog.cellsOf 107 = 2 := by kernel_rfl
  rcases Go.Deep.open_slice underlying36 hf with ⟨hcs,hx⟩ | ⟨a,len',cap',m,n,Ds,Pl,hcs,_,hl,hm,hmm,hx,hcell⟩
  · simp [Value.cells] at hcs
    obtain ⟨rfl,rfl,rfl⟩ := hcs
    exact ⟨[],⟨Src.nil _ _,fun p hp => by cases hp⟩,fun p hp => (by cases hp),fun p hp => (by cases hp)⟩
  · simp [Value.cells] at hcs
    obtain ⟨rfl,rfl,rfl⟩ := hcs
    simp only [if_true] at hmm
    rw [c10] at hcell
    injection hx with hx _
    have each : ∀ i,i < len → ∃ p : FileA × Value,(SBytes W p.2 p.1.2 ∧ p.1.1.size ≤ 9223372036854775807 ∧ p.1.2.length ≤ 140737488355328) ∧ ∀ j u,([Value.string p.1.1,p.2] : List Value)[j]? = some u → W.cell? ((a.add (i * 2)).add j) = some u := by
      intro i hi
      obtain ⟨cs',h1,h2⟩ := hcell i (by omega)
      obtain ⟨_,hlen,hc⟩ := World.cells?_some h1
      have hD : FileFits (Ds i) := hb _ _ hx _ (List.mem_map.2 ⟨i,List.mem_range.2 hi,rfl⟩)
      obtain ⟨f,dv,rfl,hs⟩ := open_file (x := (Ds i,Pl i)) hD h2
      refine ⟨(f,dv),hs,fun j u hj => ?_⟩
      rw [hc j (List.getElem?_eq_some_iff.1 hj).1]; exact hj
    have hS : ∃ g : Nat → FileA × Value,∀ i,i < len → (SBytes W (g i).2 (g i).1.2 ∧ (g i).1.1.size ≤ 9223372036854775807 ∧ (g i).1.2.length ≤ 140737488355328) ∧ ∀ j u,([Value.string (g i).1.1,(g i).2] : List Value)[j]? = some u → W.cell? ((a.add (i * 2)).add j) = some u := by
      classical
      refine ⟨fun i => if h : i < len then Classical.choose (each i h) else ((.empty,[]),undef),fun i hi => ?_⟩
      simp only [dif_pos hi]
      exact Classical.choose_spec (each i hi)
    obtain ⟨g,hg⟩ := hS
    have hmem : ∀ p ∈ (List.range len).map g,SBytes W p.2 p.1.2 ∧ p.1.1.size ≤ 9223372036854775807 ∧ p.1.2.length ≤ 140737488355328 := fun p hp => by
      obtain ⟨i,hi,rfl⟩ := List.mem_map.1 hp
      exact (hg i (List.mem_range.1 hi)).1
    refine ⟨(List.range len).map g,⟨?_,fun p hp => (hmem p hp).1⟩,fun p hp => (hmem p hp).2.2,fun p hp => (hmem p hp).2.1⟩
    rw [List.length_map,List.length_range]
    have hfl : (((List.range len).map g).flatMap fun p => ([Value.string p.1.1,p.2] : List Value)).length = len * 2 := by
      have : ∀ l : FilesL,(l.flatMap fun p => ([Value.string p.1.1,p.2] : List Value)).length = l.length * 2 := by
        intro l
        induction l with
        | nil => rfl
        | cons p r ih => rw [List.flatMap_cons,List.length_append,ih]; simp; omega
      rw [this]; simp
    obtain ⟨b,off,spot⟩ := a
    refine ⟨some ⟨b,off,spot⟩,cap,rfl,hl,hfl,fun hpos => ?_⟩
    have h00 := (hg 0 hpos).2 0 _ rfl
    have hspot : spot = none := by simpa [Addr.add] using World.cell?_spot h00
    subst hspot
    refine ⟨b,off,rfl,fun j u hj => ?_⟩
    have hjl : j < len * 2 := by have := (List.getElem?_eq_some_iff.1 hj).1; rw [hfl] at this; exact this
    have hi : j / 2 < len := by omega
    have hgi : ((List.range len).map g)[j / 2]? = some (g (j / 2)) := by simp [hi]
    have hfa := flatAt (f := fun p : FileA × Value => ([Value.string p.1.1,p.2] : List Value)) (n := 2) (fun _ => rfl) (l := (List.range len).map g) (i := j / 2) (j := j % 2) hgi (Nat.mod_lt _ (by omega))
    have e : j / 2 * 2 + j % 2 = j := by omega
    rw [e] at hfa
    rw [hfa] at hj
    have := (hg (j / 2) hi).2 (j % 2) u hj
    rw [add_at,add_at] at this
    have e2 : off + j / 2 * 2 + j % 2 = off + j := by omega
    rw [e2] at this
    exact this
end
theorem own1 : ownKnob prog.godebug = none := by kernel_rfl
theorem laid1 : laidOutB prog = true := by kernel_rfl
theorem et1 : P.globalNamed "errors.errorType" = some 0 := by kernel_rfl
theorem rt1 : (P.cutTypes.find? (·.1 == "internal/reflectlite.rtype")).map (·.2) = some 273 := by kernel_rfl
theorem oneRow1 : ((List.range P.types.size).filter fun t => P.rowNamed t [101,114,114,111,114]) = [31] := by kernel_rfl
theorem th1 : typeHandle P 31 = .pointer (some ⟨4,31,none⟩) := by kernel_rfl
theorem errT_of_handles {W : World} {l : List (String × DataW Unit)} (hm : ("errors.errorType", Rows.laid_errors_errorType) ∈ l) (h : handlesMet P l W) : ErrT W := by
 obtain ⟨name,u,ty,e1,e2,e3,e4,e5⟩ := h _ hm
 have en : name = [101,114,114,111,114] := (Option.some.inj e1).symm
 subst en
 obtain rfl := Option.some.inj (rt1.symm.trans e2)
 have hm : ty ∈ (List.range P.types.size).filter fun t => P.rowNamed t [101,114,114,111,114] := List.mem_filter.2 ⟨List.mem_range.2 e3,e4⟩
 rw [oneRow1] at hm
 obtain rfl := List.mem_singleton.1 hm
 rw [th1] at e5
 exact World.var?_cell et1 e5 0
def laidE : List (String × DataW Unit) := [("errors.errorType", Rows.laid_errors_errorType)]
theorem errT_of_laid {W:World} (h:laidMetH P laidE W) : ErrT W := by
 have h' : laidMet P [] W ∧ handlesMet P laidE W := h
 exact errT_of_handles (List.mem_singleton.2 rfl) h'.2
noncomputable def laidWorld (os:Os) : World :=
  let w0 := World.holding P os ⟨#[],#[],[]⟩
  { w0 with heap := w0.heap.modify 0 fun
      | .cells _ t frozen => .cells #[.iface 273 (.agg #[.pointer (some ⟨4,31,none⟩)])] t frozen
      | o => o }
theorem laidWorld_met (os:Os) (args:Array Value) : laidMetH P laidE ((laidWorld os).forCall (fun _ _ => 0) ⟨#[],args,[]⟩).memory :=
 laidMetH_of_parts (laidMet_nil _ _) (by kernel_rfl)
theorem small_max {s:ByteArray} (h:s.size ≤ maxLen) : s.size ≤ 9223372036854775807 := by unfold maxLen at h; omega
section
variable {H:Type} {enc:TypeId × Value → H} {W:World}
theorem open_picksV {v:Value} {d:DataW H} {ps:List MemPlace} (hv:Value.okWide P W .any 0 58 v) (h:DataW.Trod enc P W 0 (fun _ => true) true 58 v d ps) : ∃ dd : List Int,Src W v 1 dd.length (dd.map fun n => .int .i64 n) ∧ Len d dd.length := by
 obtain ⟨a0,len,cap,rfl⟩ := okWide_slice underlying58 hv
 obtain ⟨fuel,hf⟩ := h
 obtain ⟨dv,dd,e,s,l⟩ := open_intsV hf
 simp only [Value.cells,List.cons.injEq,and_true] at e
 subst e
 exact ⟨dd,s,l⟩
end
end Go.Proofs.YteeeggphkhimcaaGreatDoor

namespace Go.Proofs.YteeeggphkhimcaaGreatDoor
open Go Go.ChangeShapes Go.WideShapes Go.ChangeAt Go.RowKit Go.Proofs Go.Proofs.XRed Go.Proofs.XHeap Go.Proofs.XSlices Go.Proofs.XRow Tryz
end Go.Proofs.YteeeggphkhimcaaGreatDoor

namespace Go.Proofs.XDisk
open Go.Proofs.XMaps
def plusB : ByteArray := ByteArray.mk #[43]
def plusOf (s:ByteArray) : ByteArray := plusB ++ s
theorem plusOf_list (s:ByteArray) : (plusOf s).data.toList = 43 :: s.data.toList := by
 unfold plusOf plusB
 rw [ByteArray.data_append,Array.toList_append]; rfl
theorem plusOf_size (s:ByteArray) : (plusOf s).size = s.size + 1 := by
 unfold plusOf plusB
 rw [ByteArray.size_append]; show 1 + _ = _; omega
def lays (s:ByteArray) : Bool := s.data.toList.all okByte && decide (1 ≤ s.size) && decide (s.size ≤ 111) && decide (s.data.toList.head? ≠ some 43)
theorem lays_name {s:ByteArray} (h:lays s = true) : isName s = true ∧ isName (plusOf s) = true ∧ plusOf s ≠ s := by
 unfold lays at h
 simp only [Bool.and_eq_true,decide_eq_true_eq] at h
 obtain ⟨⟨⟨h1,h2⟩,h3⟩,h4⟩ := h
 refine ⟨?_,?_,fun e => ?_⟩
 ·unfold isName; simp [h1,h2]; omega
 ·unfold isName; rw [plusOf_list,plusOf_size]; simp only [List.all_cons,h1,Bool.and_true,Bool.and_eq_true,decide_eq_true_eq]
  exact ⟨⟨rfl,by omega⟩,by omega⟩
 ·have := congrArg ByteArray.size e
  rw [plusOf_size] at this; omega
def AD.undo (S:AD) (plus:ByteArray) (begun removed:Bool) (e:Int) : Int × AD :=
 if e ≠ 55 ∧ e ≠ 56 then (e,S) else
 if begun then (if (S.remove plus).1 ≠ 0 then S.remove plus else if (S.remove plus).2.syncNames.1 ≠ 0 then (S.remove plus).2.syncNames else (e,(S.remove plus).2.syncNames.2))
 else if removed then (if S.syncNames.1 ≠ 0 then S.syncNames else (e,S.syncNames.2))
 else (e,S)
def andE (r:Int × AD) (u:AD → Int → Int × AD) (n:AD → Int × AD) : Int × AD := if r.1 ≠ 0 then u r.2 r.1 else n r.2
def AD.has (S:AD) (name:ByteArray) : Bool := decide (S.look name = 0)
def AD.putF (S:AD) (name:ByteArray) (data:Bytes) : Int × AD :=
 if !lays name then (51,S) else if S.off then (50,S) else
 andE (if S.has (plusOf name) then S.remove (plusOf name) else (0,S)) (fun T e => T.undo (plusOf name) false false e) fun S1 =>
 andE (S1.create (plusOf name)) (fun T e => T.undo (plusOf name) false (S.has (plusOf name)) e) fun S2 =>
 andE (S2.append (plusOf name) data) (fun T e => T.undo (plusOf name) true (S.has (plusOf name)) e) fun S3 =>
 andE (S3.sync (plusOf name)) (fun T e => T.undo (plusOf name) true (S.has (plusOf name)) e) fun S4 =>
 andE (S4.rename (plusOf name) name) (fun T e => T.undo (plusOf name) true (S.has (plusOf name)) e) fun S5 =>
 andE S5.syncNames (fun T e => T.undo (plusOf name) true (S.has (plusOf name)) e) fun S6 => (0,S6)
def AD.getF (S:AD) (name:ByteArray) : Int × Bytes × AD :=
 if !isName name then (51,[],S) else if S.look name ≠ 0 then (S.look name,[],S) else S.read name 0 (S.bytes name).length
def AD.removeAll : List ByteArray → AD → Int × AD
 | [],S => (0,S)
 | n :: l,S => andE (S.remove n) (fun T e => (e,T)) fun S1 => AD.removeAll l S1
def AD.cleanF (S:AD) (l:List ByteArray) : Int × AD :=
 if S.off then (50,S) else
 andE (AD.removeAll l S) (fun T e => (e,T)) fun S1 => if l = [] then (0,S1) else S1.syncNames
theorem AD.Ok.up {S:AD} {c c':Nat} (h:S.Ok c) (hc:c ≤ c') (hs:c' ≤ 1099511627776) : S.Ok c' := h.mono hc hs
theorem ok_andE {r:Int × AD} {u:AD → Int → Int × AD} {n:AD → Int × AD} {c:Nat} (h:r.2.Ok c) {c':Nat} (hu:∀ e,(u r.2 e).2.Ok c') (hn:(n r.2).2.Ok c') : (andE r u n).2.Ok c' := by
 unfold andE; split
 ·exact hu _
 ·exact hn
theorem ok_undo {S:AD} {c:Nat} (ok:S.Ok c) (hc:c + 2 ≤ 1099511627776) (plus:ByteArray) (b r:Bool) (e:Int) : (S.undo plus b r e).2.Ok (c + 2) := by
 have h1 := ok.remove (by omega) plus
 have h2 := h1.syncNames (by omega)
 have h3 := ok.syncNames (by omega)
 unfold AD.undo
 split
 ·exact ok.up (by omega) hc
 ·split
  ·split
   ·exact h1.up (by omega) hc
   ·split
    ·exact h2
    ·exact h2
  ·split
   ·split
    ·exact h3.up (by omega) hc
    ·exact h3.up (by omega) hc
   ·exact ok.up (by omega) hc
theorem ok_putF {S:AD} {c:Nat} (ok:S.Ok c) (hc:c + 8 ≤ 1099511627776) (name:ByteArray) (d:Bytes) : (S.putF name d).2.Ok (c + 8) := by
 unfold AD.putF
 split
 ·exact ok.up (by omega) hc
 split
 ·exact ok.up (by omega) hc
 have h1 : (if S.has (plusOf name) = true then S.remove (plusOf name) else (0,S)).2.Ok (c + 1) := by
  split
  ·exact ok.remove (by omega) _
  ·exact ok.up (by omega) (by omega)
 refine ok_andE h1 (fun e => (ok_undo h1 (by omega) _ _ _ e).up (by omega) hc) ?_
 generalize (if S.has (plusOf name) = true then S.remove (plusOf name) else (0,S)).2 = S1 at *
 have h2 := h1.create (by omega) (plusOf name)
 refine ok_andE h2 (fun e => (ok_undo h2 (by omega) _ _ _ e).up (by omega) hc) ?_
 have h3 := h2.append (by omega) (plusOf name) d
 refine ok_andE h3 (fun e => (ok_undo h3 (by omega) _ _ _ e).up (by omega) hc) ?_
 have h4 := h3.sync (by omega) (plusOf name)
 refine ok_andE h4 (fun e => (ok_undo h4 (by omega) _ _ _ e).up (by omega) hc) ?_
 have h5 := h4.rename (by omega) (plusOf name) name
 refine ok_andE h5 (fun e => (ok_undo h5 (by omega) _ _ _ e).up (by omega) hc) ?_
 have h6 := h5.syncNames (by omega)
 refine ok_andE h6 (fun e => (ok_undo h6 (by omega) _ _ _ e).up (by omega) hc) ?_
 exact h6.up (by omega) hc
theorem ok_getF {S:AD} {c:Nat} (ok:S.Ok c) (hc:c + 1 ≤ 1099511627776) (name:ByteArray) : (S.getF name).2.2.Ok (c + 1) := by
 unfold AD.getF
 split
 ·exact ok.up (by omega) hc
 split
 ·exact ok.up (by omega) hc
 ·exact ok.read (by omega) _ _ _
section
variable {β:Type}
theorem alGet_cons (s:ByteArray) (v:β) (l:List (ByteArray × β)) (n:ByteArray) : alGet ((s,v) :: l) n = if s = n then some v else alGet l n := by
 unfold alGet
 by_cases h : s = n
 ·rw [if_pos h,List.find?_cons_of_pos (by simp [h])]; rfl
 ·rw [if_neg h,List.find?_cons_of_neg (by simp [h])]
end
abbrev Helds := List (ByteArray × Nat)
def madeH (hl:Helds) (k:Nat) (x:StepA) : Helds × Nat :=
 if x.kind = 1 then (hl ++ [(x.name,0)],k + 1)
 else if x.kind = 2 ∨ x.kind = 3 then (match alGet hl x.name with | some u => alSet hl x.name (u + x.data.length) | none => hl,k)
 else if x.kind = 4 then (match alGet hl x.name with | some u => alSet hl x.name (u + 1) | none => hl,k)
 else if x.kind = 5 then (if x.name = x.to_ then (hl,k) else match alGet hl x.name with | some u => (alDel (alDel hl x.name) x.to_ ++ [(x.to_,u)],k + 1) | none => (hl,k))
 else if x.kind = 6 then (alDel hl x.name,k + 1)
 else if x.kind = 7 then (match alGet hl x.name with | some u => alSet hl x.name 0 | none => hl,k)
 else if x.kind = 8 then (hl,0)
 else (hl,k)
structure Counts (S:AD) (hl:Helds) (k:Nat) : Prop where
 nd : (alKeys hl).Nodup
 get : ∀ n,alGet hl n = (alGet S.shown n).map fun t => unitsOf (S.things t).row
 turns : k = S.row.length
section
variable {S T:AD} {hl:Helds} {k c:Nat}
def nextH (S T:AD) (r:Int) (x:StepA) (hl:Helds) (k:Nat) : Helds × Nat :=
 if (r = 50 ∧ S.off = false ∧ T.off = true ∧ x.kind ≠ 7 ∧ x.kind ≠ 8 ∧ (x.kind ≠ 1 ∨ T.shown.length > S.shown.length)) ∨ (r = 0 ∧ 1 ≤ x.kind ∧ x.kind ≤ 8) then madeH hl k x else (hl,k)
def loose (S T:AD) (r:Int) (x:StepA) : Prop := r = 50 ∧ S.off = false ∧ T.off = true ∧ (x.kind = 2 ∨ x.kind = 3) ∧ x.data.length > 0 ∧ T.files = S.files
def Next (S T:AD) (r:Int) (x:StepA) (hl:Helds) (k:Nat) : Prop := ¬ loose S T r x → Counts T (nextH S T r x hl k).1 (nextH S T r x hl k).2
end
section
variable {β γ:Type} {one two:ByteArray}
end
structure AtRest (S:AD) : Prop where
 set : Settled S
 off : S.off = false
 ok : ∃ c,S.Ok c
theorem AtRest.nodup {S:AD} (h:AtRest S) : (alKeys S.shown).Nodup := by obtain ⟨c,ok⟩ := h.ok; exact ok.shown.nodup
def AD.cnt (S:AD) (a b:Int) (o:Bool) : AD := { S with strokes := a,since := b,off := o }
theorem cnt_self (S:AD) (h:S.off = false) : S = S.cnt S.strokes S.since false := by
 cases S; simp only at h; subst h; rfl
def outAt (S:AD) (b:Int) : Bool := decide (b + 1 = S.plan.off)
def winAt (S:AD) (b:Int) : Bool := decide (b + 1 ≥ S.plan.from_) && decide (b + 1 ≤ S.plan.to_)
theorem cnt_stroke (X:AD) (a b:Int) (kind ref:Int) (act:AD → AD) (ha:∀ a b o,act (X.cnt a b o) = (act X).cnt a b o) :
    (X.cnt a b false).stroke kind ref act =
      (if outAt X b then 50 else if ref = 0 ∧ kind = 1 ∧ winAt X b = true then 55 else ref,
       if (if ref = 0 ∧ kind = 1 ∧ winAt X b = true then 55 else ref) = 0 ∧ ¬ (outAt X b = true ∧ kind = 2) then (act X).cnt (a + 1) (b + 1) (outAt X b) else X.cnt (a + 1) (b + 1) (outAt X b)) := by
  unfold AD.stroke
  have e1 : ({ (X.cnt a b false).ticked with off := decide ((X.cnt a b false).ticked.since = (X.cnt a b false).ticked.plan.off) } : AD) = X.cnt (a + 1) (b + 1) (outAt X b) := rfl
  have e2 : (ref = 0 ∧ kind = 1 ∧ (X.cnt a b false).ticked.since ≥ (X.cnt a b false).ticked.plan.from_ ∧ (X.cnt a b false).ticked.since ≤ (X.cnt a b false).ticked.plan.to_) ↔ (ref = 0 ∧ kind = 1 ∧ winAt X b = true) := by
    unfold winAt
    simp only [Bool.and_eq_true,decide_eq_true_eq]
    exact Iff.rfl
  dsimp only
  rw [e1,ha]
  have e3 : decide ((X.cnt a b false).ticked.since = (X.cnt a b false).ticked.plan.off) = outAt X b := rfl
  rw [e3]
  congr 1
  · by_cases h : ref = 0 ∧ kind = 1 ∧ winAt X b = true
    · rw [if_pos h,if_pos (e2.2 h)]
    · rw [if_neg h,if_neg (fun h' => h (e2.1 h'))]
  · by_cases h : ref = 0 ∧ kind = 1 ∧ winAt X b = true
    · rw [if_pos h,if_pos (e2.2 h)]
    · rw [if_neg h,if_neg (fun h' => h (e2.1 h'))]
section
variable {X:AD} {a b:Int} {n m:ByteArray}
theorem cnt_look (o:Bool) : (X.cnt a b false).look n = if !isName n then 51 else match alGet X.shown n with | none => 53 | some _ => 0 := by
 unfold AD.look
 show (if (false = true) then _ else _) = _
 rw [if_neg (by simp)]; rfl
theorem cnt_look0 (hn:isName n = true) {t:Nat} (h:alGet X.shown n = some t) : (X.cnt a b false).look n = 0 := by
 rw [cnt_look false,hn,h]; rfl
theorem cnt_stroke0 {kind:Int} {act:AD → AD} (hk:kind ≠ 1) (ha:∀ a b o,act (X.cnt a b o) = (act X).cnt a b o) :
    (X.cnt a b false).stroke kind 0 act = (if outAt X b then 50 else 0,if ¬ (outAt X b = true ∧ kind = 2) then (act X).cnt (a + 1) (b + 1) (outAt X b) else X.cnt (a + 1) (b + 1) (outAt X b)) := by
  rw [cnt_stroke X a b kind 0 act ha]
  have : ¬ ((0 : Int) = 0 ∧ kind = 1 ∧ winAt X b = true) := fun h => hk h.2.1
  rw [if_neg this]
  simp
theorem cnt_remove (hn:isName n = true) {t:Nat} (h:alGet X.shown n = some t) :
    (X.cnt a b false).remove n = (if outAt X b then 50 else 0,(X.turned (.take n)).cnt (a + 1) (b + 1) (outAt X b)) := by
  unfold AD.remove
  rw [cnt_look0 hn h,if_neg (by decide),cnt_stroke0 (by decide) (fun _ _ _ => rfl)]
  cases outAt X b <;> simp
theorem cnt_syncNames : (X.cnt a b false).syncNames = (if outAt X b then 50 else 0,if outAt X b then X.cnt (a + 1) (b + 1) true else ({ X with safe := X.shown,row := [] } : AD).cnt (a + 1) (b + 1) false) := by
 unfold AD.syncNames
 show (if (false = true) then _ else _) = _
 rw [if_neg (by simp)]
 refine (cnt_stroke0 (X := X) (by decide) (fun _ _ _ => rfl)).trans ?_
 cases outAt X b <;> simp
theorem kind1 {ref:Int} {Y:AD} (hr:ref = 0 ∨ ref = 55 ∨ ref = 56) {R:Int × AD}
    (hR:R = (if outAt X b then 50 else if ref = 0 ∧ (1 : Int) = 1 ∧ winAt X b = true then 55 else ref,
       if (if ref = 0 ∧ (1 : Int) = 1 ∧ winAt X b = true then 55 else ref) = 0 ∧ ¬ (outAt X b = true ∧ (1 : Int) = 2) then Y.cnt (a + 1) (b + 1) (outAt X b) else X.cnt (a + 1) (b + 1) (outAt X b)) := by rfl) :
    (R = (0,Y.cnt (a + 1) (b + 1) false) ∧ outAt X b = false) ∨
    (∃ e,(e = 55 ∨ e = 56) ∧ (e = 56 → ref = 56) ∧ R = (e,X.cnt (a + 1) (b + 1) false) ∧ outAt X b = false) ∨
    (outAt X b = true ∧ (R = (50,X.cnt (a + 1) (b + 1) true) ∨ R = (50,Y.cnt (a + 1) (b + 1) true))) := by
  subst hR
  generalize hq : (if ref = 0 ∧ (1 : Int) = 1 ∧ winAt X b = true then (55 : Int) else ref) = r
  have h3 : r = 0 ∨ r = 55 ∨ (r = 56 ∧ ref = 56) := by
    subst hq; split
    · exact .inr (.inl rfl)
    · omega
  cases ho : outAt X b
  · rcases h3 with h | h | h
    · left; subst h; simp
    · right; left; refine ⟨55,.inl rfl,(fun h => by simp at h),?_,rfl⟩; subst h; simp
    · right; left; refine ⟨56,.inr rfl,(fun _ => h.2),?_,rfl⟩; rw [h.1]; simp
  · right; right; refine ⟨rfl,?_⟩
    rcases h3 with h | h | h
    · right; subst h; simp
    · left; subst h; simp
    · left; rw [h.1]; simp
end
structure WrA where
 cut : Bool
 at_ : Int
 data : Bytes
def hN : ByteArray := ByteArray.mk #[104]
def WrA.fit (x:WrA) (n:Nat) : Prop := 0 ≤ x.at_ ∧ x.at_ ≤ n
instance (x:WrA) (n:Nat) : Decidable (x.fit n) := by unfold WrA.fit; infer_instance
def AD.synced (X:AD) : AD := { X with safe := X.shown,row := [] }
def k2 (X:AD) (p:ByteArray) : AD := X.made p
def k3 (X:AD) (p:ByteArray) (d:Bytes) : AD := (k2 X p).setThing X.next (((k2 X p).things X.next).add (.wr 0 d))
def k4 (X:AD) (p:ByteArray) (d:Bytes) : AD := (k3 X p d).setThing X.next ((k3 X p d).things X.next).settle
def k5 (X:AD) (p n:ByteArray) (d:Bytes) : AD := (k4 X p d).turned (.give p n)
theorem andE_bad {r:Int × AD} {u:AD → Int → Int × AD} {n:AD → Int × AD} {e:Int} {T:AD} (h:r = (e,T)) (he:e ≠ 0) : andE r u n = u T e := by subst h; unfold andE; rw [if_pos he]
theorem andE_ok {r:Int × AD} {u:AD → Int → Int × AD} {n:AD → Int × AD} {T:AD} (h:r = (0,T)) : andE r u n = n T := by subst h; unfold andE; simp
section
variable {X S:AD} {p n name:ByteArray} {d:Bytes}
def k1 (S:AD) (p:ByteArray) : AD := if (alGet S.shown p).isSome then S.turned (.take p) else S
end
def foldT (r:List Turn) (l:Names) : Names := r.foldl (fun l c => c.on l) l
section
variable {S:AD} {p n name:ByteArray} {d:Bytes}
theorem settled_left (h:Settled S) {q:ByteArray × Nat} (hq:q ∈ S.shown) (u:Nat) : (S.things q.2).left u = (S.things q.2).shown := by
 obtain ⟨h1,h2⟩ := h.things q hq
 unfold Thg.left; rw [h1]; exact h2
theorem AtRest.plans (h:AtRest S) (pl:PlanA) : AtRest (S.plans pl) ∧ (S.plans pl).files = S.files ∧ (S.plans pl).shown = S.shown ∧ (S.plans pl).strokes = S.strokes := by
 obtain ⟨c,ok⟩ := h.ok
 have e : S.plans pl = { S with plan := pl,since := 0 } := by unfold AD.plans; rw [h.off]; rfl
 exact ⟨⟨by rw [e]; exact ⟨h.set.row,h.set.safe,h.set.things⟩,by rw [e]; exact h.off,c,ok.plans pl⟩,by rw [e]; rfl,by rw [e],by rw [e]⟩
end
def inL (L:List ByteArray) (n:ByteArray) : Bool := L.any fun m => decide (m = n)
theorem inL_iff {L:List ByteArray} {n:ByteArray} : inL L n = true ↔ n ∈ L := by
 unfold inL
 rw [List.any_eq_true]
 exact ⟨fun ⟨m,h,e⟩ => of_decide_eq_true e ▸ h,fun h => ⟨n,h,decide_eq_true rfl⟩⟩
theorem inL_cons (m:ByteArray) (L:List ByteArray) (n:ByteArray) : inL (m :: L) n = (decide (m = n) || inL L n) := rfl
def without {β:Type} (L:List ByteArray) (l:List (ByteArray × β)) : List (ByteArray × β) := l.filter fun q => !inL L q.1
theorem without_map {β γ:Type} (f:β → γ) (L:List ByteArray) (l:List (ByteArray × β)) : without L (l.map fun p => (p.1,f p.2)) = (without L l).map fun p => (p.1,f p.2) := by
 unfold without
 rw [List.filter_map]; rfl
theorem without_nil {β:Type} (l:List (ByteArray × β)) : without [] l = l := by unfold without inL; simp
theorem without_cons {β:Type} (L:List ByteArray) (n:ByteArray) (l:List (ByteArray × β)) : without L (alDel l n) = without (n :: L) l := by
 unfold without alDel
 rw [List.filter_filter]
 congr 1
 funext q
 rw [inL_cons]
 by_cases h1 : q.1 = n
 ·subst h1; simp
 ·have : ¬ n = q.1 := fun e => h1 e.symm
  simp [h1,this]
theorem without_get {β:Type} {L:List ByteArray} (n:ByteArray) : ∀ l : List (ByteArray × β),alGet (without L l) n = if inL L n then none else alGet l n
 | [] => by simp [without,alGet]
 | q :: r => by
  have ih := without_get (L := L) n r
  unfold without at *
  rw [List.filter_cons]
  by_cases h : inL L q.1 = true
  ·rw [if_neg (by simp [h]),ih,← show (q.1,q.2) = q from rfl,alGet_cons]
   by_cases e : q.1 = n
   ·subst e; rw [if_pos h,if_pos h]
   ·rw [if_neg e]
  ·rw [if_pos (by simp [h]),← show (q.1,q.2) = q from rfl,alGet_cons,alGet_cons,ih]
   by_cases e : q.1 = n
   ·subst e; rw [if_pos rfl,if_neg h,if_pos rfl]
   ·rw [if_neg e,if_neg e]
def takeAll (L:List ByteArray) (X:AD) : AD := L.foldl (fun X n => X.turned (.take n)) X
theorem takeAll_facts : ∀ (L:List ByteArray) (X:AD),(takeAll L X).things = X.things ∧ (takeAll L X).next = X.next ∧ (takeAll L X).safe = X.safe ∧ (takeAll L X).plan = X.plan ∧ (takeAll L X).row = X.row ++ L.map Turn.take ∧ (takeAll L X).shown = without L X.shown
 | [],X => ⟨rfl,rfl,rfl,rfl,by simp [takeAll],by unfold takeAll; rw [List.foldl_nil,without_nil]⟩
 | n :: L,X => by
  obtain ⟨h1,h2,h3,h4,h5,h6⟩ := takeAll_facts L (X.turned (.take n))
  refine ⟨h1,h2,h3,h4,?_,?_⟩
  ·show (takeAll L (X.turned (.take n))).row = _
   rw [h5]; show (X.row ++ [.take n]) ++ _ = _
   simp
  ·show (takeAll L (X.turned (.take n))).shown = _
   rw [h6]
   exact without_cons L n X.shown
theorem takeAll_snoc (L:List ByteArray) (n:ByteArray) (X:AD) : takeAll (L ++ [n]) X = (takeAll L X).turned (.take n) := by unfold takeAll; rw [List.foldl_append]; rfl
theorem foldT_takes : ∀ (L:List ByteArray) (l:Names),foldT (L.map Turn.take) l = without L l
 | [],l => by unfold foldT; rw [List.map_nil,List.foldl_nil,without_nil]
 | n :: L,l => by
  have ih := foldT_takes L (alDel l n)
  unfold foldT at *
  rw [List.map_cons,List.foldl_cons]
  show List.foldl _ (alDel l n) _ = _
  rw [ih]
  exact without_cons L n l
section
variable {S:AD} {L:List ByteArray}
theorem crash_taken (h:AtRest S) (L:List ByteArray) (picks:List Int) : ∃ j,((takeAll L S).crash picks).files = without (L.take j) S.files := by
 obtain ⟨h1,h2,h3,h4,h5,h6⟩ := takeAll_facts L S
 rw [h.set.row,List.nil_append] at h5
 refine ⟨pickA picks 0 (takeAll L S).row.length,?_⟩
 rw [crash_files]
 have e : (takeAll L S).crashNames picks = without (L.take (pickA picks 0 (takeAll L S).row.length)) S.shown := by
  unfold AD.crashNames
  rw [h3,h.set.safe]
  generalize pickA picks 0 (takeAll L S).row.length = j
  rw [h5,← List.map_take]
  exact foldT_takes _ _
 rw [e]
 generalize pickA picks 0 (takeAll L S).row.length = j
 rw [zip_map (f := (takeAll L S).crashBytes picks) (g := fun t => (S.things t).shown) _ 0 fun q hq i => ?_]
 ·unfold AD.files
  exact (without_map (fun t => (S.things t).shown) _ _).symm
 ·have hq' : q ∈ S.shown := (List.mem_filter.1 hq).1
  show ((takeAll L S).things q.2).left _ = _
  rw [h1]
  exact settled_left h.set hq' _
theorem remAll (X:AD) : ∀ (R L:List ByteArray) (a b:Int),(∀ n ∈ R,isName n = true ∧ ∃ t,alGet X.shown n = some t) → (L ++ R).Nodup →
    (AD.removeAll R ((takeAll L X).cnt a b false) = (0,(takeAll (L ++ R) X).cnt (a + R.length) (b + R.length) false)) ∨
    (∃ j a' b' b0,b ≤ b0 ∧ outAt X b0 = true ∧ 1 ≤ j ∧ j ≤ R.length ∧ AD.removeAll R ((takeAll L X).cnt a b false) = (50,(takeAll (L ++ R.take j) X).cnt a' b' true))
  | [],L,a,b,_,_ => .inl (by simp [AD.removeAll])
  | n :: R,L,a,b,hn,hd => by
    obtain ⟨h1,h2,h3,h4,h5,h6⟩ := takeAll_facts L X
    obtain ⟨hnm,t,ht⟩ := hn n List.mem_cons_self
    have hnL : n ∉ L := fun hm => by
      have := (List.nodup_append.1 hd).2.2 n hm n List.mem_cons_self
      exact this rfl
    have hg : alGet (takeAll L X).shown n = some t := by rw [h6,without_get,if_neg (fun h => hnL (inL_iff.1 h))]; exact ht
    have hr := cnt_remove (X := takeAll L X) (a := a) (b := b) hnm hg
    have ho : outAt (takeAll L X) b = outAt X b := by unfold outAt; rw [h4]
    rw [ho] at hr
    unfold AD.removeAll
    cases hout : outAt X b
    · rw [hout] at hr
      simp only [Bool.false_eq_true,if_false] at hr
      rw [andE_ok hr,← takeAll_snoc]
      rcases remAll X R (L ++ [n]) (a + 1) (b + 1) (fun m hm => hn m (List.mem_cons_of_mem _ hm)) (by simpa using hd) with e | ⟨j,a',b',b0,g1,g2,g3,g4,e⟩
      · left
        rw [e]
        have e1 : a + 1 + (R.length : Int) = a + ((n :: R).length : Nat) := by simp; omega
        have e2 : b + 1 + (R.length : Int) = b + ((n :: R).length : Nat) := by simp; omega
        rw [e1,e2,List.append_assoc]; rfl
      · right
        refine ⟨j + 1,a',b',b0,by omega,g2,by omega,by simp; omega,?_⟩
        rw [e,List.append_assoc]; rfl
    · rw [hout] at hr
      simp only [if_true] at hr
      rw [andE_bad hr (by decide)]
      right
      refine ⟨1,a + 1,b + 1,b,Int.le_refl _,hout,Nat.le_refl _,by simp,?_⟩
      rw [show (n :: R).take 1 = [n] by simp,takeAll_snoc]
theorem settled_taken (h:AtRest S) (L:List ByteArray) (a b:Int) : Settled ((takeAll L S).synced.cnt a b false) := by
 obtain ⟨h1,h2,h3,h4,h5,h6⟩ := takeAll_facts L S
 refine ⟨rfl,rfl,fun q hq => ?_⟩
 have hq : q ∈ (takeAll L S).shown := hq
 rw [h6] at hq
 show ((takeAll L S).things q.2).row = [] ∧ ((takeAll L S).things q.2).safe = ((takeAll L S).things q.2).shown
 rw [h1]
 exact h.set.things q (List.mem_filter.1 hq).1
theorem clean_law (h:AtRest S) (hL:∀ n ∈ L,isName n = true ∧ ∃ t,alGet S.shown n = some t) (hd:L.Nodup) :
    ((S.cleanF L).1 = 0 ∧ Settled (S.cleanF L).2 ∧ (S.cleanF L).2.off = false ∧ (S.cleanF L).2.files = without L S.files ∧ (S.cleanF L).2.strokes = S.strokes + (if L = [] then 0 else (L.length : Int) + 1)) ∨
    (L ≠ [] ∧ (S.cleanF L).1 = 50 ∧ (∃ b,S.since ≤ b ∧ outAt S b = true) ∧ (S.cleanF L).2.off = true ∧ ∀ picks,∃ j,((S.cleanF L).2.crash picks).files = without (L.take j) S.files) := by
  have hs := cnt_self S h.off
  have hf : ∀ L,(takeAll L S).files = without L S.files := fun L => by
    obtain ⟨h1,h2,h3,h4,h5,h6⟩ := takeAll_facts L S
    unfold AD.files
    rw [h6,h1]
    exact (without_map (fun t => (S.things t).shown) _ _).symm
  have hc : S.cleanF L = andE (AD.removeAll L (S.cnt S.strokes S.since false)) (fun T e => (e,T)) fun S1 => if L = [] then (0,S1) else S1.syncNames := by
    rw [← hs]; unfold AD.cleanF; rw [h.off]; rfl
  rw [hc]
  rcases remAll S L [] S.strokes S.since hL (by simpa using hd) with e | ⟨j,a',b',b0,g1,g2,g3,g4,e⟩
  · have e : AD.removeAll L (S.cnt S.strokes S.since false) = (0,(takeAll L S).cnt (S.strokes + L.length) (S.since + L.length) false) := e
    rw [andE_ok e]
    by_cases h0 : L = []
    · subst h0
      left
      rw [if_pos rfl]
      refine ⟨rfl,⟨h.set.row,h.set.safe,h.set.things⟩,rfl,?_,by simp [AD.cnt]⟩
      rw [without_nil]; rfl
    · rw [if_neg h0]
      have hy := cnt_syncNames (X := takeAll L S) (a := S.strokes + L.length) (b := S.since + L.length)
      have ho : outAt (takeAll L S) (S.since + L.length) = outAt S (S.since + L.length) := by
        obtain ⟨h1,h2,h3,h4,h5,h6⟩ := takeAll_facts L S
        unfold outAt; rw [h4]
      rw [ho] at hy
      cases hout : outAt S (S.since + L.length)
      · rw [hout] at hy
        simp only [Bool.false_eq_true,if_false] at hy
        left
        rw [hy]
        refine ⟨rfl,settled_taken h L _ _,rfl,hf L,?_⟩
        rw [if_neg h0]; show S.strokes + (L.length : Int) + 1 = _; omega
      · rw [hout] at hy
        simp only [if_true] at hy
        right
        rw [hy]
        exact ⟨h0,rfl,⟨_,by omega,hout⟩,rfl,fun picks => crash_taken h L picks⟩
  · have e : AD.removeAll L (S.cnt S.strokes S.since false) = (50,(takeAll (L.take j) S).cnt a' b' true) := e
    rw [andE_bad e (by decide)]
    right
    refine ⟨fun h0 => by subst h0; simp at g4; omega,rfl,⟨b0,g1,g2⟩,rfl,fun picks => ?_⟩
    obtain ⟨i,hi⟩ := crash_taken h (L.take j) picks
    refine ⟨min i j,?_⟩
    show ((takeAll (L.take j) S).crash picks).files = _
    rw [hi,List.take_take]
end
def sizes (fs:List FileA) : Nat := (fs.map fun f => f.2.length).sum
structure Picked (room:Int) (fs:List FileA) : Prop where
 names : ∀ f ∈ fs,isName f.1 = true
 nd : (fs.map (·.1)).Nodup
 sum : (sizes fs:Int) ≤ room
def pickGo {α:Type} (room:Int) : List (FileA × α) → List (FileA × α) → List (FileA × α)
 | [],acc => acc
 | x :: r,acc => if isName x.1.1 = false ∨ ((sizes (acc.map (·.1)) : Nat) : Int) + x.1.2.length > room ∨ (alGet (acc.map (·.1)) x.1.1).isSome = true then pickGo room r acc else pickGo room r (acc ++ [x])
theorem sizes_snoc (fs:List FileA) (f:FileA) : sizes (fs ++ [f]) = sizes fs + f.2.length := by unfold sizes; simp
theorem pickGo_ok {α:Type} {room:Int} : ∀ (r acc:List (FileA × α)),Picked room (acc.map (·.1)) → Picked room ((pickGo room r acc).map (·.1)) ∧ (pickGo room r acc).length ≤ acc.length + r.length
 | [],acc,h => ⟨h,Nat.le_refl _⟩
 | x :: r,acc,h => by
  unfold pickGo
  split
  ·obtain ⟨a,b⟩ := pickGo_ok r acc h
   exact ⟨a,by simp only [List.length_cons]; omega⟩
  ·rename_i hc
   simp only [not_or] at hc
   obtain ⟨c1,c2,c3⟩ := hc
   have hn : isName x.1.1 = true := by simpa using c1
   have hg : alGet (acc.map (·.1)) x.1.1 = none := by simpa using c3
   have h' : Picked room ((acc ++ [x]).map (·.1)) := by
    rw [List.map_append]
    refine ⟨fun f hf => ?_,?_,?_⟩
    ·rcases List.mem_append.1 hf with hf | hf
     ·exact h.names f hf
     ·rw [List.mem_singleton.1 hf]; exact hn
    ·rw [List.map_append,List.nodup_append]
     refine ⟨h.nd,by simp,fun a ha b hb e => ?_⟩
     obtain ⟨f,hf,rfl⟩ := List.mem_map.1 ha
     have hb' : b = x.1.1 := by simpa using hb
     exact alGet_none_iff.1 hg f hf (e.trans hb')
    ·show ((sizes (acc.map (·.1) ++ [x.1]) : Nat) : Int) ≤ room
     rw [sizes_snoc]; omega
   obtain ⟨a,b⟩ := pickGo_ok r (acc ++ [x]) h'
   exact ⟨a,by simp only [List.length_append,List.length_cons,List.length_nil] at b ⊢; omega⟩
section
variable {room:Int} {fs:List FileA}
theorem load_keys : ∀ k,k ≤ fs.length → ∀ n,(∃ t,(n,t) ∈ (AD.loadTo room fs k).shown) ↔ n ∈ (fs.take k).map (·.1) := by
 intro k
 induction k with
 | zero => intro _ n; simp [loadTo_zero,AD.new]
 | succ k ih =>
  intro hk n
  rw [loadTo_succ room (by omega),List.take_succ_eq_append_getElem (by omega),List.map_append,List.mem_append,← ih (by omega) n]
  show (∃ t,(n,t) ∈ setN (AD.loadTo room fs k).shown fs[k].1 (AD.loadTo room fs k).next) ↔ _
  constructor
  ·rintro ⟨t,ht⟩
   rcases mem_setN.1 ht with e | ⟨h,_⟩
   ·right; simp [(Prod.mk.inj e).1]
   ·exact .inl ⟨t,h⟩
  ·rintro (⟨t,ht⟩ | h)
   ·by_cases e : n = fs[k].1
    ·exact ⟨(AD.loadTo room fs k).next,mem_setN.2 (.inl (by rw [e]))⟩
    ·exact ⟨t,mem_setN.2 (.inr ⟨ht,e⟩)⟩
   ·have e : n = fs[k].1 := by simpa using h
    exact ⟨(AD.loadTo room fs k).next,mem_setN.2 (.inl (by rw [e]))⟩
theorem load_fresh (h:Picked room fs) {k:Nat} (hk:k < fs.length) : alGet (AD.loadTo room fs k).shown fs[k].1 = none := by
 refine alGet_none_iff.2 fun p hp e => ?_
 have hm := (load_keys (room := room) (fs := fs) k (by omega) p.1).1 ⟨p.2,hp⟩
 rw [e] at hm
 have hnd := h.nd
 rw [← List.take_append_drop k fs,List.drop_eq_getElem_cons hk,List.map_append,List.nodup_append] at hnd
 exact hnd.2.2 _ hm _ (by rw [List.map_cons]; exact List.mem_cons_self) rfl
theorem load_dup (h:Picked room fs) : ∀ j,j < fs.length → dupAt room fs j = false := by
 intro j hj
 unfold dupAt
 rw [List.getElem?_eq_getElem hj]
 show (alGet (AD.loadTo room fs j).shown fs[j].1).isSome = false
 rw [load_fresh h hj]; rfl
theorem load_things : ∀ k,k ≤ fs.length → ∀ t,((AD.loadTo room fs k).things t).row = [] ∧ ((AD.loadTo room fs k).things t).safe = ((AD.loadTo room fs k).things t).shown := by
 intro k
 induction k with
 | zero => intro _ t; exact ⟨rfl,rfl⟩
 | succ k ih =>
  intro hk t
  rw [loadTo_succ room (by omega)]
  show (if t = (AD.loadTo room fs k).next then (⟨fs[k].2,fs[k].2,[]⟩ : Thg) else (AD.loadTo room fs k).things t).row = [] ∧ (if t = (AD.loadTo room fs k).next then (⟨fs[k].2,fs[k].2,[]⟩ : Thg) else (AD.loadTo room fs k).things t).safe = (if t = (AD.loadTo room fs k).next then (⟨fs[k].2,fs[k].2,[]⟩ : Thg) else (AD.loadTo room fs k).things t).shown
  split
  ·exact ⟨rfl,rfl⟩
  ·exact ih (by omega) t
theorem load_rest : ∀ k,k ≤ fs.length → (AD.loadTo room fs k).off = false ∧ (AD.loadTo room fs k).strokes = 0 ∧ (AD.loadTo room fs k).since = 0 ∧ (AD.loadTo room fs k).plan = .zero := by
 intro k
 induction k with
 | zero => intro _; exact ⟨rfl,rfl,rfl,rfl⟩
 | succ k ih => intro hk; rw [loadTo_succ room (by omega)]; exact ih (by omega)
theorem isName_size {n:ByteArray} (h:isName n = true) : n.size ≤ 112 := by
 unfold isName at h
 simp only [Bool.and_eq_true,decide_eq_true_eq] at h
 exact h.2
theorem sizes_mem : ∀ {fs:List FileA} {f:FileA},f ∈ fs → f.2.length ≤ sizes fs
 | g :: r,f,h => by
  unfold sizes
  rw [List.map_cons,List.sum_cons]
  rcases List.mem_cons.1 h with rfl | h
  ·omega
  ·have := sizes_mem h; unfold sizes at this; omega
theorem load_all (hr:1 ≤ room ∧ room ≤ 1048576) (h:Picked room fs) (hl:fs.length ≤ 256) : AD.loadCode room fs = 0 ∧ AtRest (AD.loadTo room fs fs.length) ∧ (∀ q ∈ (AD.loadTo room fs fs.length).shown,isName q.1 = true) := by
 have hd : ∀ f ∈ fs,f.2.length ≤ 1048576 := fun f hf => by have := sizes_mem hf; have := h.sum; omega
 have hL := fun k hk => loading_to (room := room) hr hl (fun f hf => isName_size (h.names f hf)) hd k hk (fun j hj => load_dup h j (by omega))
 have hu : ∀ k,k ≤ fs.length → (AD.loadTo room fs k).used = sizes (fs.take k) := by
  intro k
  induction k with
  | zero => intro _; rfl
  | succ k ih =>
   intro hk
   rw [loadTo_succ room (by omega),used_add (hL k (by omega)) (load_fresh h (by omega)),ih (by omega),List.take_succ_eq_append_getElem (by omega),sizes_snoc]
 refine ⟨?_,⟨⟨(hL _ (Nat.le_refl _)).row,(hL _ (Nat.le_refl _)).safe,fun q _ => load_things _ (Nat.le_refl _) q.2⟩,(load_rest _ (Nat.le_refl _)).1,0,(hL _ (Nat.le_refl _)).ok⟩,fun q hq => ?_⟩
 ·unfold AD.loadCode
  rw [if_neg (by omega),if_neg (by omega),if_neg,if_neg,if_neg]
  ·rw [hu _ (Nat.le_refl _),List.take_length]; have := h.sum; omega
  ·rw [Bool.not_eq_true,List.any_eq_false]
   intro j hj
   rw [load_dup h j (List.mem_range.1 hj)]; simp
  ·rw [Bool.not_eq_true,List.any_eq_false]
   intro f hf
   rw [h.names f hf]; simp
 ·have := (load_keys (room := room) (fs := fs) _ (Nat.le_refl _) q.1).1 ⟨q.2,hq⟩
  obtain ⟨f,hf,e⟩ := List.mem_map.1 this
  rw [← e]; exact h.names f (List.mem_of_mem_take hf)
end
end Go.Proofs.XDisk

namespace Go.Proofs.XSep
open Go Go.RowKit Go.Proofs.XRed Go.Proofs.XHeap
theorem Seps.at2 {w:World} {J:Blks} {a b:Asrt} : ∀ {l:List Asrt} {i j:Nat} {O I:Blks},Seps l w O I → (∀ b,O b → ¬ J b) → i ≠ j → l[i]? = some a → l[j]? = some b →
    ∃ O1 I1 O2 I2,a.h w O1 I1 ∧ b.h w O2 I2 ∧ (∀ x,O1 x → ¬ O2 x ∧ ¬ I2 x) ∧ (∀ x,O2 x → ¬ O1 x ∧ ¬ I1 x) ∧ (∀ b,O1 b → O b) ∧ (∀ b,I1 b → I b) ∧ ∀ c w' O' I',c.h w' O' I' → Nxt w O1 J w' O' I' → ∃ O3 I3,Seps (l.set i c) w' O3 I3 ∧ Fr O w w' ∧ (∀ b,O3 b → O b ∨ w.heap.size ≤ b) ∧ ∀ b,I3 b → I b ∨ J b ∨ w.heap.size ≤ b
  | [],_,_,_,_,_,_,_,h,_ => by simp at h
  | x :: l,0,0,_,_,_,_,h,_,_ => absurd rfl h
  | x :: l,0,j + 1,O,I,hs,hJ,_,hi,hj => by
    have hs0 := hs
    obtain ⟨Oa,Ia,Ob,Ib,h1,h2,h3,h4,h5⟩ := hs
    simp at hi; subst hi
    obtain ⟨O2,I2,g1,g2,g3,_⟩ := h2.at_ (J := fun _ => False) (i := j) (a := b) (fun _ _ h => h) (by simpa using hj)
    refine ⟨Oa,Ia,O2,I2,h1,g1,fun x hx => ⟨fun h => (h3.1 x hx).1 (g2 x h),fun h => (h3.1 x hx).2 (g3 x h)⟩,fun x hx => h3.2 x (g2 x hx),fun b hb => (h4 b).2 (.inl hb),fun b hb => (h5 b).2 (.inl hb),fun c w' O' I' hc hn => ?_⟩
    refine ⟨fun b => O' b ∨ Ob b,fun b => I' b ∨ Ib b,⟨O',I',Ob,Ib,hc,Seps.fr hn.fr h2 h3.1,⟨fun b hb => ?_,fun b hb => ?_⟩,fun _ => Iff.rfl,fun _ => Iff.rfl⟩,?_,?_,?_⟩
    · rcases hn.on b hb with h | h
      · exact h3.1 b h
      · exact ⟨fun h' => absurd (h2.lt b (.inl h')) (by omega),fun h' => absurd (h2.lt b (.inr h')) (by omega)⟩
    · have hlt := h2.lt b (.inl hb)
      refine ⟨fun h => ?_,fun h => ?_⟩
      · rcases hn.on b h with h | h
        · exact (h3.1 b h).1 hb
        · omega
      · rcases hn.in_ b h with h | h
        · exact hJ b ((h4 b).2 (.inr hb)) h
        · omega
    · exact hn.fr.mono fun b hb => .inl ((h4 b).2 (.inl hb))
    · rintro b (hb | hb)
      · exact (hn.on b hb).imp (fun h => (h4 b).2 (.inl h)) id
      · exact .inl ((h4 b).2 (.inr hb))
    · rintro b (hb | hb)
      · exact .inr (hn.in_ b hb)
      · exact .inl ((h5 b).2 (.inr hb))
  | x :: l,i + 1,j,O,I,⟨O1,I1,O2,I2,h1,h2,h3,h4,h5⟩,hJ,hij,hi,hj => by
    have main : ∀ Oa Ia,a.h w Oa Ia → (∀ b,Oa b → O2 b) → (∀ b,Ia b → I2 b) → (∀ c w' O' I',c.h w' O' I' → Nxt w Oa J w' O' I' → ∃ O3 I3,Seps (l.set i c) w' O3 I3 ∧ Fr O2 w w' ∧ (∀ b,O3 b → O2 b ∨ w.heap.size ≤ b) ∧ ∀ b,I3 b → I2 b ∨ J b ∨ w.heap.size ≤ b) →
        ∀ c w' O' I',c.h w' O' I' → Nxt w Oa J w' O' I' → ∃ O3 I3,Seps ((x :: l).set (i + 1) c) w' O3 I3 ∧ Fr O w w' ∧ (∀ b,O3 b → O b ∨ w.heap.size ≤ b) ∧ ∀ b,I3 b → I b ∨ J b ∨ w.heap.size ≤ b := by
      intro Oa Ia ha ho hi2 hs c w' O' I' hc hn
      obtain ⟨O3,I3,hs3,hf,hon,hin⟩ := hs c w' O' I' hc hn
      refine ⟨fun b => O1 b ∨ O3 b,fun b => I1 b ∨ I3 b,⟨O1,I1,O3,I3,x.fr h1 hf h3.2,hs3,⟨fun b hb => ?_,fun b hb => ?_⟩,fun _ => Iff.rfl,fun _ => Iff.rfl⟩,?_,?_,?_⟩
      · have hlt := x.lt h1 b (.inl hb)
        refine ⟨fun h => ?_,fun h => ?_⟩
        · rcases hon b h with h | h
          · exact (h3.1 b hb).1 h
          · omega
        · rcases hin b h with h | h | h
          · exact (h3.1 b hb).2 h
          · exact hJ b ((h4 b).2 (.inl hb)) h
          · omega
      · rcases hon b hb with h | h
        · exact h3.2 b h
        · exact ⟨fun h' => absurd (x.lt h1 b (.inl h')) (by omega),fun h' => absurd (x.lt h1 b (.inr h')) (by omega)⟩
      · exact hf.mono fun b hb => .inl ((h4 b).2 (.inr hb))
      · rintro b (hb | hb)
        · exact .inl ((h4 b).2 (.inl hb))
        · exact (hon b hb).imp (fun h => (h4 b).2 (.inr h)) id
      · rintro b (hb | hb)
        · exact .inl ((h5 b).2 (.inl hb))
        · rcases hin b hb with h | h
          · exact .inl ((h5 b).2 (.inr h))
          · exact .inr h
    cases j with
    | zero =>
      simp at hj; subst hj
      obtain ⟨Oa,Ia,ha,ho,hi2,hs⟩ := h2.at_ (J := J) (i := i) (a := a) (fun b hb => hJ b ((h4 b).2 (.inr hb))) (by simpa using hi)
      exact ⟨Oa,Ia,O1,I1,ha,h1,fun y hy => h3.2 y (ho y hy),fun y hy => ⟨fun h => (h3.1 y hy).1 (ho y h),fun h => (h3.1 y hy).2 (hi2 y h)⟩,fun b hb => (h4 b).2 (.inr (ho b hb)),fun b hb => (h5 b).2 (.inr (hi2 b hb)),main Oa Ia ha ho hi2 hs⟩
    | succ j =>
      obtain ⟨Oa,Ia,Oc,Ic,ha,hc,g1,g2,ho,hi2,hs⟩ := Seps.at2 (J := J) (i := i) (j := j) h2 (fun b hb => hJ b ((h4 b).2 (.inr hb))) (by omega) (by simpa using hi) (by simpa using hj)
      exact ⟨Oa,Ia,Oc,Ic,ha,hc,g1,g2,fun b hb => (h4 b).2 (.inr (ho b hb)),fun b hb => (h5 b).2 (.inr (hi2 b hb)),main Oa Ia ha ho hi2 hs⟩
theorem Sep.at2 {l:List Asrt} {w:World} (h:Sep l w) (i j:Nat) {a b:Asrt} (hij:i ≠ j) (hi:l[i]? = some a) (hj:l[j]? = some b) :
    ∃ O I O2 I2 J,a.h w O I ∧ b.h w O2 I2 ∧ (∀ x,O x → ¬ O2 x ∧ ¬ I2 x) ∧ (∀ x,O2 x → ¬ O x ∧ ¬ I x) ∧ (∀ b,I b → J b) ∧ (∀ b,O b → ¬ J b) ∧ ∀ c w' O' I',c.h w' O' I' → Nxt w O J w' O' I' → Sep (l.set i c) w' := by
  obtain ⟨O,I,hs⟩ := h
  obtain ⟨O1,I1,O2,I2,h1,h2,g1,g2,h3,h4,h5⟩ := hs.at2 (J := I) hs.ap hij hi hj
  refine ⟨O1,I1,O2,I2,I,h1,h2,g1,g2,h4,fun b hb => hs.ap b (h3 b hb),fun c w' O' I' hc hn => ?_⟩
  obtain ⟨O3,I3,h6,-⟩ := h5 c w' O' I' hc hn
  exact ⟨O3,I3,h6⟩
theorem perm_front {α:Type} : ∀ {l:List α} {i:Nat} {a:α},l[i]? = some a → l.Perm (a :: l.eraseIdx i)
 | [],_,_,h => by simp at h
 | x :: l,0,a,h => by simp at h; subst h; exact .refl _
 | x :: l,i + 1,a,h => (List.Perm.cons x (perm_front (l := l) (i := i) (by simpa using h))).trans (List.Perm.swap _ _ _)
theorem Sep.front {w:World} {l:List Asrt} (h:Sep l w) (i:Nat) {a:Asrt} (hi:l[i]? = some a) : Sep (a :: l.eraseIdx i) w := h.perm (perm_front hi)
theorem Sep.erase {w:World} {l:List Asrt} (h:Sep l w) (i:Nat) {a:Asrt} (hi:l[i]? = some a) : Sep (l.eraseIdx i) w := (h.front i hi).drop
open Go.Proofs.XSlices
variable {w:World} {l:List Asrt} {ix:Nat} {te sz n:Nat} {v:Value} {cs:List Value}
end Go.Proofs.XSep

namespace Go.Proofs.XMaps
open Go Go.RowKit Go.MapKept Go.Proofs.XHeap
section
variable {P:Program} {w:World} {m:Nat} {l:List (ByteArray × Value)} {t kt et:TypeId}
theorem SMap.entry_new (h:SMap w m l) (ht:P.underlying t = some (.map kt et)) (hk:P.underlying kt = some .string) {z:Value} (hz:∀ w,(zeroValue et).run P w = .ok z w) (s:ByteArray) (hn:∀ p ∈ l,p.1 ≠ s) :
    ∃ (w1:World) (c:Nat),(Instr.mapEntry t (.map (some m)) (.string s)).run P w = .ok (.tuple #[z,.int .i64 c]) w1 ∧ Fr (fun b => b = m) w w1 ∧ w1.heap.size = w.heap.size ∧
      ∀ (v:Value) (w2:World),w2.heap[m]? = w1.heap[m]? → ∃ w3,(Instr.entryStore t (.map (some m)) (.int .i64 c) v).run P w2 = .ok () w3 ∧ SMap w3 m (l ++ [(s,v)]) ∧ Fr (fun b => b = m) w2 w3 ∧ w3.heap.size = w2.heap.size := by
  obtain ⟨es,clock,hb,hs,hl,hc⟩ := h.find s
  have hck := fun e => run_checkKey (P := P) (w := w) (k := .string s) hk trivial e 9999
  have hlt := lt_of_get hb
  rcases hc with ⟨h1,h1',h2⟩ | ⟨j,e,p,h1,h2,h3,h4,h5,h6⟩
  · refine ⟨ChangeMaps.setBlock w m (.map (es.push { key := .string s,val := z,born := clock }) (clock + 1)),clock,?_,Fr.setBlock _ _ _,by simp [ChangeMaps.setBlock],fun v w2 hw => ?_⟩
    · simp [Instr.mapEntry,run_underlying ht,MapKept.run_getObj_map hb,hck,run_findKey hk h1,hz,MapKept.run_setObj_map _ hb,Result.andThen,ChangeMaps.setBlock,goInt]
    · have hb2 : w2.heap[m]? = some (.map (es.push { key := .string s,val := z,born := clock }) (clock + 1)) := by
        rw [hw]; simp [ChangeMaps.setBlock,hlt]
      have hlt2 := lt_of_get hb2
      have hbn := ((stamped_iff es clock).1 hs).1
      have hfi : (es.push { key := .string s,val := z,born := clock }).findIdx? (fun e => (e.born : Int) == (clock:Int)) = some es.size := by
        rw [Array.findIdx?_eq_some_iff_getElem]
        refine ⟨by simp,by simp,fun j hj => ?_⟩
        have hj' : j < es.size := by simpa using hj
        have : es[j].born < clock := hbn es[j] (by simp)
        simp only [Array.getElem_push_lt hj']
        simp; omega
      have hmod : (es.push { key := .string s,val := z,born := clock }).modify es.size (fun e => { e with val := v }) = es.push { key := .string s,val := v,born := clock } := by
        apply Array.ext
        · simp
        · intro i h1 h2
          simp only [Array.getElem_modify,Array.getElem_push]
          by_cases he : es.size = i
          · subst he; simp
          · rw [if_neg he]
            have : i < es.size := by simp at h2; omega
            simp [this]
      refine ⟨ChangeMaps.setBlock w2 m (.map (es.push { key := .string s,val := v,born := clock }) (clock + 1)),?_,⟨es.push { key := .string s,val := v,born := clock },clock + 1,by simp [ChangeMaps.setBlock,hlt2],stamped_push hs h1',by simp [hl]⟩,Fr.setBlock _ _ _,by simp [ChangeMaps.setBlock]⟩
      simp [Instr.entryStore,MapKept.run_getObj_map hb2,asInt,asIntOf,hfi,hmod,MapKept.run_setObj_map _ hb2,Result.andThen,ChangeMaps.setBlock]
  · exact absurd h5 (hn p (List.mem_of_getElem? h4))
end
end Go.Proofs.XMaps
namespace Go.Proofs.XHeap
open Go Go.RowKit Go.Proofs.XRed
theorem s_boxC {P:Program} {w:World} {k:KV} {t:TypeId} {v:Value} {cs:Array Value} (h:v.cells = cs) (hk:k (.pointer (some ⟨w.heap.size,0,none⟩)) (w.alloc (.cells cs t))) : px P (Instr.box t v) w k := by
 subst h; exact s_box hk
end Go.Proofs.XHeap
