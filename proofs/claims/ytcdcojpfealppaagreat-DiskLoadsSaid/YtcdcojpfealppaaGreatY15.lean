/- Put together by a program (wip/tools/shake.py): Script,XEntry,XLoad,XOwn,XRefuse,XSafe,XRef,XSep. -/
import Derived.Test.YtcdcojpfealppaaGreatRows
import Derived.Test.YtcdcojpfealppaaGreatY14
import Derived.JoinedCond
import Derived.Deep.Slices
import Derived.Test.YtcdcojpfealppaaGreatY2
import Derived.Test.YtcdcojpfealppaaGreatY3
set_option linter.unusedVariables false
set_option linter.unusedSimpArgs false
set_option maxRecDepth 100000
namespace Go.Proofs.YtcdcojpfealppaaGreat
open Go Go.ChangeShapes Go.WideShapes Go.ChangeAt Go.RowKit Go.Proofs Go.Proofs.XRed Go.Proofs.XHeap Go.Proofs.XSlices Go.Proofs.XRow Go.Proofs.XDisk Tryz
section
variable {H:Type} {enc:TypeId × Value → H}
variable {W:World}
def Len (d:DataW H) (n:Nat) : Prop := n = 0 ∨ ∃ e s,d = .slice e s ∧ e.length = n
theorem open_bytes {fuel:Nat} {cs:List Value} {x:DataW H × List MemPlace} (h:DataW.trod enc prog W 0 (fun _ => true) true fuel 36 cs = some x) : ∃ (dv:Value) (d:Bytes),cs = [dv] ∧ SBytes W dv d ∧ Len x.1 d.length := by
 rcases open_ints underlying36 underlying5 (by kernel_rfl) h with ⟨rfl,rfl⟩ | ⟨a,len,cap,zs,rfl,_,hl,hm,hz,rfl,hcell,hwf⟩
 ·exact ⟨_,[],rfl,SBytes.nil _,.inl rfl⟩
 ·simp only [if_true] at hz
  have hbyte : ∀ z ∈ zs,((UInt8.ofNat z.toNat).toNat : Int) = z := by
   intro z hz
   have hb := hwf z hz
   simp only [Lit.wf,IntKind.min,IntKind.max,IntKind.signed,IntKind.bits] at hb
   simp at hb
   have : (UInt8.ofNat z.toNat).toNat = z.toNat := by simp; omega
   rw [this]; omega
  have hlen : ((zs.take len).map fun z => UInt8.ofNat z.toNat).length = len := by simp; omega
  refine ⟨_,(zs.take len).map fun z => UInt8.ofNat z.toNat,rfl,?_,?_⟩
  ·unfold SBytes
   rw [hlen]
   obtain ⟨b,off,spot⟩ := a
   refine ⟨some ⟨b,off,spot⟩,cap,rfl,hl,by simp [u8s]; omega,fun h0 => ?_⟩
   have hspot : spot = none := by simpa [Addr.add] using World.cell?_spot (hcell 0 (by omega))
   subst hspot
   refine ⟨b,off,rfl,fun j u hj => ?_⟩
   unfold u8s at hj
   rw [List.map_map,List.getElem?_map] at hj
   obtain ⟨z,hz',rfl⟩ := Option.map_eq_some_iff.1 hj
   have hjl : j < len := by
    have := (List.getElem?_eq_some_iff.1 hz').1
    simp at this; omega
   rw [List.getElem?_take_of_lt hjl] at hz'
   have := hcell j (by omega)
   rw [add_at,List.getD,hz'] at this
   rw [this]
   show some (Value.int .u8 z) = some (Value.int .u8 ((UInt8.ofNat z.toNat).toNat : Int))
   rw [hbyte z (List.mem_of_getElem? hz')]
  ·rw [hlen]
   exact .inr ⟨lits .u8 (zs.take len),lits .u8 (zs.drop len),rfl,by simp [lits]; omega⟩
theorem open_intsV {fuel:Nat} {cs:List Value} {x:DataW H × List MemPlace} (h:DataW.trod enc prog W 0 (fun _ => true) true fuel 39 cs = some x) : ∃ (dv:Value) (d:List Int),cs = [dv] ∧ Src W dv 1 d.length (d.map fun n => .int .i64 n) ∧ Len x.1 d.length := by
 rcases open_ints underlying39 underlying3 (by kernel_rfl) h with ⟨rfl,rfl⟩ | ⟨a,len,cap,zs,rfl,_,hl,hm,hz,rfl,hcell,hwf⟩
 ·exact ⟨_,[],rfl,Src.nil _ _,.inl rfl⟩
 ·simp only [if_true] at hz
  have hlen : (zs.take len).length = len := by simp; omega
  refine ⟨_,zs.take len,rfl,?_,?_⟩
  ·rw [hlen]
   obtain ⟨b,off,spot⟩ := a
   refine ⟨some ⟨b,off,spot⟩,cap,rfl,hl,by simp; omega,fun h0 => ?_⟩
   have hspot : spot = none := by simpa [Addr.add] using World.cell?_spot (hcell 0 (by omega))
   subst hspot
   refine ⟨b,off,rfl,fun j u hj => ?_⟩
   rw [List.getElem?_map] at hj
   obtain ⟨z,hz',rfl⟩ := Option.map_eq_some_iff.1 hj
   have hjl : j < len := by
    have := (List.getElem?_eq_some_iff.1 hz').1
    simp at this; omega
   rw [List.getElem?_take_of_lt hjl] at hz'
   have := hcell j (by omega)
   rw [add_at,List.getD,hz'] at this
   exact this
  ·rw [hlen]
   exact .inr ⟨lits .i64 (zs.take len),lits .i64 (zs.drop len),rfl,by simp [lits]; omega⟩
theorem i64_wf {n:Int} (h:(Lit.int .i64 n).wf = true) : -9223372036854775808 ≤ n ∧ n ≤ 9223372036854775807 := by
 simp only [Lit.wf,IntKind.min,IntKind.max,IntKind.signed,IntKind.bits] at h
 simp at h
 omega
def StepFits (d:DataW H) : Prop := ∀ parts,d = .agg parts → (∀ q n,parts[5]? = some q → Len q n → n ≤ 140737488355328) ∧ ∀ q n,parts[7]? = some q → Len q n → n ≤ 17592186044416
theorem open_step {fuel:Nat} {cs:List Value} {x:DataW H × List MemPlace} (hb:StepFits x.1) (h:DataW.trod enc prog W 0 (fun _ => true) true fuel 41 cs = some x) : ∃ (s:StepA) (dv pv:Value),cs = stepCells s dv pv ∧ StepV W s dv pv := by
 obtain ⟨xs,k,rfl,rfl,hlen,hxl,hf⟩ := DataW.trod_struct underlying41 h
 have c10 : prog.cellsOf 41 = 10 := by kernel_rfl
 rw [c10] at hlen
 match cs,hlen with
 | [c0,c1,c2,c3,c4,c5,c6,c7,c8,c9],_ =>
 match xs,hxl with
 | [x0,x1,x2,x3,x4,x5,x6,x7],_ =>
 have g0 : DataW.trod enc prog W 0 (fun _ => true) true k 3 (([c0,c1,c2,c3,c4,c5,c6,c7,c8,c9].drop 0).take (prog.cellsOf 3)) = some x0 := hf 0 _ rfl
 have g1 : DataW.trod enc prog W 0 (fun _ => true) true k 9 (([c0,c1,c2,c3,c4,c5,c6,c7,c8,c9].drop 1).take (prog.cellsOf 9)) = some x1 := hf 1 _ rfl
 have g2 : DataW.trod enc prog W 0 (fun _ => true) true k 9 (([c0,c1,c2,c3,c4,c5,c6,c7,c8,c9].drop 2).take (prog.cellsOf 9)) = some x2 := hf 2 _ rfl
 have g3 : DataW.trod enc prog W 0 (fun _ => true) true k 3 (([c0,c1,c2,c3,c4,c5,c6,c7,c8,c9].drop 3).take (prog.cellsOf 3)) = some x3 := hf 3 _ rfl
 have g4 : DataW.trod enc prog W 0 (fun _ => true) true k 3 (([c0,c1,c2,c3,c4,c5,c6,c7,c8,c9].drop 4).take (prog.cellsOf 3)) = some x4 := hf 4 _ rfl
 have g5 : DataW.trod enc prog W 0 (fun _ => true) true k 36 (([c0,c1,c2,c3,c4,c5,c6,c7,c8,c9].drop 5).take (prog.cellsOf 36)) = some x5 := hf 5 _ rfl
 have g6 : DataW.trod enc prog W 0 (fun _ => true) true k 38 (([c0,c1,c2,c3,c4,c5,c6,c7,c8,c9].drop 6).take (prog.cellsOf 38)) = some x6 := hf 6 _ rfl
 have g7 : DataW.trod enc prog W 0 (fun _ => true) true k 39 (([c0,c1,c2,c3,c4,c5,c6,c7,c8,c9].drop 9).take (prog.cellsOf 39)) = some x7 := hf 7 _ rfl
 have k3 : prog.cellsOf 3 = 1 := by kernel_rfl
 have k9 : prog.cellsOf 9 = 1 := by kernel_rfl
 have k30 : prog.cellsOf 36 = 1 := by kernel_rfl
 have k46 : prog.cellsOf 38 = 3 := by kernel_rfl
 have k57 : prog.cellsOf 39 = 1 := by kernel_rfl
 simp only [k3,k9,k30,k46,k57,List.drop_zero,List.drop_succ_cons,List.take_succ_cons,List.take_zero,List.getElem?_cons_zero,List.getElem?_cons_succ] at g0 g1 g2 g3 g4 g5 g6 g7
 obtain ⟨n0,e0,r0,w0⟩ := DataW.trod_int underlying3 g0
 obtain ⟨s1,e1,r1,w1⟩ := DataW.trod_string underlying9 g1
 obtain ⟨s2,e2,r2,w2⟩ := DataW.trod_string underlying9 g2
 obtain ⟨n3,e3,r3,w3⟩ := DataW.trod_int underlying3 g3
 obtain ⟨n4,e4,r4,w4⟩ := DataW.trod_int underlying3 g4
 obtain ⟨dv,d5,e5,s5,l5⟩ := open_bytes g5
 obtain ⟨pv,d7,e7,s7,l7⟩ := open_intsV g7
 obtain ⟨ys,k',hk',hx6,hlen6,hyl,hf6⟩ := DataW.trod_struct underlying38 g6
 match ys,hyl with
 | [y0,y1,y2],_ =>
 have p0 : DataW.trod enc prog W 0 (fun _ => true) true k' 3 (([c6,c7,c8].drop 0).take (prog.cellsOf 3)) = some y0 := hf6 0 _ rfl
 have p1 : DataW.trod enc prog W 0 (fun _ => true) true k' 3 (([c6,c7,c8].drop 1).take (prog.cellsOf 3)) = some y1 := hf6 1 _ rfl
 have p2 : DataW.trod enc prog W 0 (fun _ => true) true k' 3 (([c6,c7,c8].drop 2).take (prog.cellsOf 3)) = some y2 := hf6 2 _ rfl
 simp only [k3,List.drop_zero,List.drop_succ_cons,List.take_succ_cons,List.take_zero,List.getElem?_cons_zero,List.getElem?_cons_succ] at p0 p1 p2
 obtain ⟨m0,q0,_,_⟩ := DataW.trod_int underlying3 p0
 obtain ⟨m1,q1,_,_⟩ := DataW.trod_int underlying3 p1
 obtain ⟨m2,q2,_,_⟩ := DataW.trod_int underlying3 p2
 simp only [List.cons.injEq,and_true] at e0 e1 e2 e3 e4 e5 e7 q0 q1 q2
 subst e0 e1 e2 e3 e4 e5 e7 q0 q1 q2
 obtain ⟨hb5,hb7⟩ := hb _ rfl
 exact ⟨⟨n0,s1,s2,n3,n4,d5,⟨m0,m1,m2⟩,d7⟩,c5,c9,rfl,⟨s5,s7,w1,w2,i64_wf w3,hb5 _ _ rfl l5,hb7 _ _ rfl l7⟩⟩
theorem open_script {v:Value} {d:DataW H} {ps:List MemPlace} (hb:∀ elems spare,d = .slice elems spare → ∀ e ∈ elems,StepFits e) (hv:Value.okWide prog W .any 0 22 v) (h:DataW.Trod enc prog W 0 (fun _ => true) true 22 v d ps) : ∃ l : Script,ScriptV W v l := by
 obtain ⟨a0,len,cap,rfl⟩ := okWide_slice underlying22 hv
 obtain ⟨fuel,hf⟩ := h
 have c10 : prog.cellsOf 41 = 10 := by kernel_rfl
 rcases Go.Deep.open_slice underlying22 hf with ⟨hcs,hx⟩ | ⟨a,len',cap',m,n,Ds,Pl,hcs,_,hl,hm,hmm,hx,hcell⟩
 ·simp [Value.cells] at hcs
  obtain ⟨rfl,rfl,rfl⟩ := hcs
  exact ⟨[],Src.nil _ _,fun p hp => by cases hp⟩
 ·simp [Value.cells] at hcs
  obtain ⟨rfl,rfl,rfl⟩ := hcs
  simp only [if_true] at hmm
  rw [c10] at hcell
  injection hx with hx _
  have each : ∀ i,i < len → ∃ p : StepA × Value × Value,StepV W p.1 p.2.1 p.2.2 ∧ ∀ j u,(stepCells p.1 p.2.1 p.2.2)[j]? = some u → W.cell? ((a.add (i * 10)).add j) = some u := by
   intro i hi
   obtain ⟨cs',h1,h2⟩ := hcell i (by omega)
   obtain ⟨_,hlen,hc⟩ := World.cells?_some h1
   have hD : StepFits (Ds i) := hb _ _ hx _ (List.mem_map.2 ⟨i,List.mem_range.2 hi,rfl⟩)
   obtain ⟨s,dv,pv,rfl,hs⟩ := open_step (x := (Ds i,Pl i)) hD h2
   refine ⟨(s,dv,pv),hs,fun j u hj => ?_⟩
   rw [hc j (List.getElem?_eq_some_iff.1 hj).1]; exact hj
  have hS : ∃ g : Nat → StepA × Value × Value,∀ i,i < len → StepV W (g i).1 (g i).2.1 (g i).2.2 ∧ ∀ j u,(stepCells (g i).1 (g i).2.1 (g i).2.2)[j]? = some u → W.cell? ((a.add (i * 10)).add j) = some u := by
   classical
   refine ⟨fun i => if h : i < len then Classical.choose (each i h) else (⟨0,.empty,.empty,0,0,[],⟨0,0,0⟩,[]⟩,undef,undef),fun i hi => ?_⟩
   simp only [dif_pos hi]
   exact Classical.choose_spec (each i hi)
  obtain ⟨g,hg⟩ := hS
  refine ⟨(List.range len).map g,?_,?_⟩
  ·rw [List.length_map,List.length_range]
   have hfl : (scriptCells ((List.range len).map g)).length = len * 10 := by
    have : ∀ l : Script,(scriptCells l).length = l.length * 10 := by
     intro l
     induction l with
     | nil => rfl
     | cons p r ih => unfold scriptCells at *; rw [List.flatMap_cons,List.length_append,ih]; simp [stepCells]; omega
    rw [this]; simp
   obtain ⟨b,off,spot⟩ := a
   refine ⟨some ⟨b,off,spot⟩,cap,rfl,hl,hfl,fun hpos => ?_⟩
   have h00 := (hg 0 hpos).2 0 _ rfl
   have hspot : spot = none := by simpa [Addr.add] using World.cell?_spot h00
   subst hspot
   refine ⟨b,off,rfl,fun j u hj => ?_⟩
   have hjl : j < len * 10 := by have := (List.getElem?_eq_some_iff.1 hj).1; rw [hfl] at this; exact this
   have hi : j / 10 < len := by omega
   have hgi : ((List.range len).map g)[j / 10]? = some (g (j / 10)) := by simp [hi]
   have hfa := flatAt (f := fun p : StepA × Value × Value => stepCells p.1 p.2.1 p.2.2) (n := 10) (fun _ => rfl) (l := (List.range len).map g) (i := j / 10) (j := j % 10) hgi (Nat.mod_lt _ (by omega))
   have e : j / 10 * 10 + j % 10 = j := by omega
   rw [e] at hfa
   unfold scriptCells at hj
   rw [hfa] at hj
   have := (hg (j / 10) hi).2 (j % 10) u hj
   rw [add_at,add_at] at this
   have e2 : off + j / 10 * 10 + j % 10 = off + j := by omega
   rw [e2] at this
   exact this
  ·intro p hp
   obtain ⟨i,hi,rfl⟩ := List.mem_map.1 hp
   exact (hg i (List.mem_range.1 hi)).1
theorem weights_all {P:Program} {t:TypeId} {d:DataW H} : ∀ {l:List (DataW H)},d ∈ l → ∀ n ∈ d.weights P t,n ∈ DataW.weightsAll P t l
 | a :: r,h,n,hn => by
  simp only [DataW.weightsAll,List.mem_append]
  rcases List.mem_cons.1 h with rfl | h
  ·exact Or.inl hn
  ·exact Or.inr (weights_all h n hn)
theorem len_weight {P:Program} {t e:TypeId} {d:DataW H} {n b:Nat} (ht:P.underlying t = some (.slice e)) (hb:P.bytesOf e = b) (hl:Len d n) (hw:∀ m ∈ d.weights P t,m ≤ reachBytes) : n * b ≤ reachBytes := by
 rcases hl with rfl | ⟨el,sp,rfl,rfl⟩
 ·rw [Nat.zero_mul]; exact Nat.zero_le _
 ·have := hw ((el.length + sp.length) * P.bytesOf e) (by simp [DataW.weights,ht])
  rw [hb] at this
  exact Nat.le_trans (Nat.mul_le_mul_right _ (by omega)) this
theorem stepFits_weights {d:DataW H} (hw:∀ m ∈ d.weights prog 41,m ≤ reachBytes) : StepFits d := by
 have hr : reachBytes ≤ 140737488355328 := by decide
 rintro parts rfl
 have hu := underlying41
 have hwe : DataW.weights prog 41 (.agg parts) = DataW.weightsEach prog [3,9,9,3,3,36,38,39] parts := by
  simp only [DataW.weights,hu]
  rfl
 have sub : ∀ (j:Nat) (q:DataW H) (t:TypeId),parts[j]? = some q → [3,9,9,3,3,36,38,39][j]? = some t → ∀ m ∈ q.weights prog t,m ≤ reachBytes := by
  intro j q t hq ht m hm
  refine hw m ?_
  rw [hwe]
  exact DataW.weights_mem_each ht hq m hm
 refine ⟨fun q n hq hl => ?_,fun q n hq hl => ?_⟩
 ·have := len_weight (b := 1) underlying36 (by kernel_rfl) hl (sub 5 q 36 hq rfl)
  omega
 ·have := len_weight (b := 8) underlying39 (by kernel_rfl) hl (sub 7 q 39 hq rfl)
  omega
theorem script_weights {d:DataW H} (hw:∀ m ∈ d.weights prog 22,m ≤ reachBytes) : ∀ elems spare,d = .slice elems spare → ∀ e ∈ elems,StepFits e := by
 rintro elems spare rfl e he
 refine stepFits_weights fun m hm => hw m ?_
 simp only [DataW.weights,underlying22,List.mem_cons,List.mem_append]
 exact Or.inr (Or.inl (weights_all he m hm))
end
end Go.Proofs.YtcdcojpfealppaaGreat

namespace Go.Proofs.XMaps
open Go Go.RowKit Go.MapKept Go.Proofs.XHeap
section
variable {P:Program} {w:World} {m:Nat} {l:List (ByteArray × Value)} {t kt et:TypeId}
theorem SMap.entry_new (h:SMap w m l) (ht:P.underlying t = some (.map kt et)) (hk:P.underlying kt = some .string) {z:Value} (hz:∀ w,(zeroValue et).run P w = .ok z w) (s:ByteArray) (hn:∀ p ∈ l,p.1 ≠ s) :
    ∃ (w1:World) (c:Nat),(Instr.mapEntry t (.map (some m)) (.string s)).run P w = .ok (.tuple #[z,.int .i64 c]) w1 ∧ Fr (fun b => b = m) w w1 ∧ w1.heap.size = w.heap.size ∧
      ∀ (v:Value) (w2:World),w2.heap[m]? = w1.heap[m]? → ∃ w3,(Instr.entryStore t (.map (some m)) (.int .i64 c) v).run P w2 = .ok () w3 ∧ SMap w3 m (l ++ [(s,v)]) ∧ Fr (fun b => b = m) w2 w3 ∧ w3.heap.size = w2.heap.size := by
  obtain ⟨es,clock,hb,hs,hl,hc⟩ := h.find s
  have hck := fun e => run_checkKey (P := P) (w := w) (k := .string s) hk trivial e 9999
  have hlt := lt_of_get hb
  rcases hc with ⟨h1,h1',h2⟩ | ⟨j,e,p,h1,h2,h3,h4,h5,h6⟩
  · refine ⟨ChangeMaps.setBlock w m (.map (es.push { key := .string s,val := z,born := clock }) (clock + 1)),clock,?_,Fr.setBlock _ _ _,by simp [ChangeMaps.setBlock],fun v w2 hw => ?_⟩
    · simp [Instr.mapEntry,run_underlying ht,MapKept.run_getObj_map hb,hck,run_findKey hk h1,hz,MapKept.run_setObj_map _ hb,Result.andThen,ChangeMaps.setBlock,goInt]
    · have hb2 : w2.heap[m]? = some (.map (es.push { key := .string s,val := z,born := clock }) (clock + 1)) := by
        rw [hw]; simp [ChangeMaps.setBlock,hlt]
      have hlt2 := lt_of_get hb2
      have hbn := ((stamped_iff es clock).1 hs).1
      have hfi : (es.push { key := .string s,val := z,born := clock }).findIdx? (fun e => (e.born : Int) == (clock:Int)) = some es.size := by
        rw [Array.findIdx?_eq_some_iff_getElem]
        refine ⟨by simp,by simp,fun j hj => ?_⟩
        have hj' : j < es.size := by simpa using hj
        have : es[j].born < clock := hbn es[j] (by simp)
        simp only [Array.getElem_push_lt hj']
        simp; omega
      have hmod : (es.push { key := .string s,val := z,born := clock }).modify es.size (fun e => { e with val := v }) = es.push { key := .string s,val := v,born := clock } := by
        apply Array.ext
        · simp
        · intro i h1 h2
          simp only [Array.getElem_modify,Array.getElem_push]
          by_cases he : es.size = i
          · subst he; simp
          · rw [if_neg he]
            have : i < es.size := by simp at h2; omega
            simp [this]
      refine ⟨ChangeMaps.setBlock w2 m (.map (es.push { key := .string s,val := v,born := clock }) (clock + 1)),?_,⟨es.push { key := .string s,val := v,born := clock },clock + 1,by simp [ChangeMaps.setBlock,hlt2],stamped_push hs h1',by simp [hl]⟩,Fr.setBlock _ _ _,by simp [ChangeMaps.setBlock]⟩
      simp [Instr.entryStore,MapKept.run_getObj_map hb2,asInt,asIntOf,hfi,hmod,MapKept.run_setObj_map _ hb2,Result.andThen,ChangeMaps.setBlock]
  · exact absurd h5 (hn p (List.mem_of_getElem? h4))
end
end Go.Proofs.XMaps
namespace Go.Proofs.XHeap
open Go Go.RowKit Go.Proofs.XRed
theorem s_boxC {P:Program} {w:World} {k:KV} {t:TypeId} {v:Value} {cs:Array Value} (h:v.cells = cs) (hk:k (.pointer (some ⟨w.heap.size,0,none⟩)) (w.alloc (.cells cs t))) : px P (Instr.box t v) w k := by
 subst h; exact s_box hk
end Go.Proofs.XHeap

namespace Go.Proofs.XDisk
open Go.Proofs.XMaps
abbrev FileA := ByteArray × Bytes
def AD.addFile (S:AD) (f:FileA) : AD :=
 { S with things := fun i => if i = S.next then ⟨f.2,f.2,[]⟩ else S.things i,next := S.next + 1,shown := setN S.shown f.1 S.next,safe := setN S.safe f.1 S.next }
def AD.load (room:Int) (l:List FileA) : AD := l.foldl AD.addFile (AD.new room)
structure Loading (S:AD) (n:Nat) : Prop where
 row : S.row = []
 safe : S.safe = S.shown
 len : S.shown.length = n
 ok : S.Ok 0
theorem Loading.new {room:Int} (h:1 ≤ room ∧ room ≤ 1048576) : Loading (AD.new room) 0 := ⟨rfl,rfl,rfl,AD.Ok.new h⟩
theorem Loading.add {S:AD} {n:Nat} (h:Loading S n) (f:FileA) (hn:f.1.size ≤ 112) (hd:f.2.length ≤ 1048576) (hf:alGet S.shown f.1 = none) (hl:n < 256) : Loading (S.addFile f) (n + 1) := by
 have hlen : (setN S.shown f.1 S.next).length = n + 1 := by
  rw [(setN_perm S.shown f.1 S.next).length_eq,List.length_cons,alDel_none (alGet_none_iff.1 hf),h.len]
 have hreach : ∀ t,reach (S.addFile f) t → t = S.next ∨ reach S t := by
  have key : ∀ (m:ByteArray) t,(m,t) ∈ setN S.shown f.1 S.next → t = S.next ∨ reach S t := by
   intro m t hm
   rcases mem_setN.1 hm with e | hm
   ·exact .inl (congrArg Prod.snd e)
   ·exact .inr (.inl ⟨m,hm.1⟩)
  rintro t (⟨m,hm⟩ | ⟨m,hm⟩ | ⟨m,hm⟩)
  ·exact key m t hm
  ·have e : (S.addFile f).safe = setN S.shown f.1 S.next := by show setN S.safe f.1 S.next = _; rw [h.safe]
   rw [e] at hm; exact key m t hm
  ·have e : (S.addFile f).row = [] := h.row
   rw [e] at hm; cases hm
 refine ⟨h.row,by show setN S.safe f.1 S.next = setN S.shown f.1 S.next; rw [h.safe],hlen,?_⟩
 have o := h.ok
 exact {
  room := o.room
  small := o.small
  strokes := o.strokes
  since := o.since
  row := o.row
  reads := o.reads
  next := fun t ht => by
   rcases hreach t ht with rfl | ht
   ·exact Nat.lt_succ_self _
   ·exact Nat.lt_succ_of_lt (o.next t ht)
  thing := fun t ht => by
   show Thg.Ok (if t = S.next then ⟨f.2,f.2,[]⟩ else S.things t) 0
   by_cases e : t = S.next
   ·rw [if_pos e]; exact ⟨Nat.le_refl _,rfl,hd⟩
   ·rw [if_neg e]
    rcases hreach t ht with h' | h'
    ·exact absurd h' e
    ·exact o.thing t h'
  turns := by
   have e : (S.addFile f).row = [] := h.row
   rw [e]
   refine ⟨by show setN S.shown f.1 S.next = setN S.safe f.1 S.next; rw [h.safe],?_⟩
   show (setN S.safe f.1 S.next).length ≤ 256
   rw [h.safe,hlen]; omega
  sn := fun p hp => by
   have hp : p ∈ setN S.safe f.1 S.next := hp
   rcases mem_setN.1 hp with rfl | hp
   ·exact hn
   ·exact o.sn p hp.1
  rn := fun c hc => o.rn c hc
  safe := o.safe.set _ _ }
def AD.loadTo (room:Int) (l:List FileA) (k:Nat) : AD := AD.load room (l.take k)
theorem loadTo_succ (room:Int) {l:List FileA} {k:Nat} (hk:k < l.length) : AD.loadTo room l (k + 1) = (AD.loadTo room l k).addFile l[k] := by
 unfold AD.loadTo AD.load
 rw [List.take_succ_eq_append_getElem hk,List.foldl_append]; rfl
theorem used_add {S:AD} {n:Nat} (h:Loading S n) {f:FileA} (hf:alGet S.shown f.1 = none) : (S.addFile f).used = S.used + f.2.length := by
 have hlt : ∀ p ∈ S.shown,p.2 ≠ S.next := fun p hp e => by
  have := h.ok.next p.2 (.inl ⟨p.1,hp⟩); omega
 unfold AD.used
 show ((setN S.shown f.1 S.next).map fun p => (if p.2 = S.next then (⟨f.2,f.2,[]⟩ : Thg) else S.things p.2).shown.length).sum = _
 have hp := ((setN_perm S.shown f.1 S.next).map fun p => (if p.2 = S.next then (⟨f.2,f.2,[]⟩ : Thg) else S.things p.2).shown.length)
 rw [hp.sum_nat,alDel_none (alGet_none_iff.1 hf),List.map_cons,List.sum_cons,if_pos rfl]
 have e : (S.shown.map fun p => (if p.2 = S.next then (⟨f.2,f.2,[]⟩ : Thg) else S.things p.2).shown.length) = S.shown.map fun p => (S.things p.2).shown.length :=
  List.map_congr_left fun p hp => by rw [if_neg (hlt p hp)]
 rw [e]
 exact Nat.add_comm _ _
def AD.part (S:AD) : AD := { S with safe := [] }
def dupAt (room:Int) (l:List FileA) (k:Nat) : Bool := match l[k]? with
 | some f => (alGet (AD.loadTo room l k).shown f.1).isSome
 | none => false
def AD.loadCode (room:Int) (l:List FileA) : Int :=
 if ¬ (1 ≤ room ∧ room ≤ 1048576) then 1 else if l.length > 256 then 56 else if l.any (fun f => !isName f.1) then 51
 else if (List.range l.length).any (dupAt room l) then 52 else if ((AD.loadTo room l l.length).used : Int) > room then 55 else 0
theorem loading_to {room:Int} (hr:1 ≤ room ∧ room ≤ 1048576) {l:List FileA} (hl:l.length ≤ 256) (hn:∀ f ∈ l,f.1.size ≤ 112) (hd:∀ f ∈ l,f.2.length ≤ 1048576) : ∀ k,k ≤ l.length → (∀ j,j < k → dupAt room l j = false) → Loading (AD.loadTo room l k) k := by
 intro k
 induction k with
 | zero => intro _ _; exact Loading.new hr
 | succ k ih =>
  intro hk hdup
  have h := ih (by omega) fun j hj => hdup j (by omega)
  have hm : l[k] ∈ l := List.getElem_mem (by omega)
  rw [loadTo_succ room (by omega)]
  refine h.add l[k] (hn _ hm) (hd _ hm) ?_ (by omega)
  have := hdup k (by omega)
  unfold dupAt at this
  rw [List.getElem?_eq_getElem (by omega)] at this
  simpa using this
end Go.Proofs.XDisk

namespace Go.Proofs.XSlices
open Go Go.RowKit Go.Proofs.XRed Go.Proofs.XHeap
section
variable {w:World} {base size n:Nat} {e:TypeId} {v:Value} {xs:List Value}
theorem own_at (h:w.ownsRow base e size v n xs) {i:Nat} (hi:i < n * size) :
    ∃ g cap cur,v = .slice (some ⟨g,0,none⟩) n cap ∧ n ≤ cap ∧ base ≤ g ∧ w.heap[g]? = some (.cells cur e (0,0)) ∧ i < cur.size ∧ cur[i]? = xs[i]? ∧ ∀ u,(w.setCell ⟨g,i,none⟩ u).ownsRow base e size v n (xs.set i u) := by
  obtain ⟨hl,h2⟩ := h
  rcases h2 with ⟨_,h0⟩ | ⟨g,cap,cur,hv,hb,hg,hnc,hcm,hcs,ht⟩
  · subst h0; omega
  · have hle : n * size ≤ cap * size := Nat.mul_le_mul_right _ hnc
    refine ⟨g,cap,cur,hv,hnc,hb,hg,by omega,?_,fun u => ⟨by simp [hl],.inr ⟨g,cap,cur.setIfInBounds i u,hv,hb,set_same hg i u,hnc,hcm,by simp [hcs],?_⟩⟩⟩
    · rw [← ht,List.getElem?_take_of_lt hi]; simp
    · rw [Array.toList_setIfInBounds,List.take_set,ht]
theorem own_blk {w:World} {g:Nat} {cs:Array Value} {e:TypeId} {n:Nat} (hg:w.heap[g]? = some (.cells cs e (0,0))) (hb:base ≤ g) (hn:n ≤ maxLen) (hs:cs.size = n * size) : w.ownsRow base e size (.slice (some ⟨g,0,none⟩) n n) n cs.toList :=
 ⟨by simp [hs],.inr ⟨g,n,cs,rfl,hb,hg,Nat.le_refl _,hn,hs,by rw [List.take_of_length_le]; simp [hs]⟩⟩
end
theorem s_ldN {P:Program} {w:World} {k:KV} {t:TypeId} {b o m:Nat} {vs:List Value} (hag:(isAgg t).run P w = .ok true w) (hsz:(sizeOf t).run P w = .ok m w) (hm:vs.length = m) (h:∀ (j:Nat) (u:Value),vs[j]? = some u → w.cell? ⟨b,o + j,none⟩ = some u)
    (hk:k (.agg vs.toArray) w) : px P (Instr.loadAt t (.pointer (some ⟨b,o,none⟩))) w k := by
  refine px_ok (w' := w) ?_ hk
  have := run_loadCells_list (P := P) w ⟨b,o,none⟩ vs (fun j v hj => by rw [add_at]; exact h j v hj)
  rw [hm] at this
  simp [Instr.loadAt,Instr.sureAddr,loadVar,hag,hsz,this,Result.andThen]
theorem s_elemN {P:Program} {w:World} {t te:TypeId} {x:Value} {n m size:Nat} {cs vs:List Value} {i:Nat} {kk:Value → KV} (h:P.underlying t = some (.slice (P.elem t))) (hs:(sizeOf (P.elem t)).run P w = .ok size w) (hag:(isAgg te).run P w = .ok true w) (hsz:(sizeOf te).run P w = .ok size w)
    (hS:Src w x size n cs) (hi:i < n) (h0:0 < size) (hvs:vs.length = size) (hc:∀ j,j < size → cs[i * size + j]? = vs[j]?) (hk:∀ p,kk p (.agg vs.toArray) w) :
    px P (Instr.indexAt t x (.int .i64 i)) w fun p w => px P (Instr.loadAt te p) w (kk p) := by
  obtain ⟨b,o,c,e,hp⟩ := hS.place hi h0
  subst e
  refine s_ix (i := (i:Int)) h hs (by omega) (by omega) ?_
  refine s_ldN hag hsz hvs (fun j u hj => ?_) (hk _)
  have hj' : j < size := by rw [← hvs]; exact (List.getElem?_eq_some_iff.1 hj).1
  have := hp j u hj' ((hc j hj').trans hj)
  simpa using this
end Go.Proofs.XSlices

namespace Go.Proofs.XDisk
open Go.Proofs.XMaps
theorem leftOf_zero : ∀ (r:List Chg) (b:Bytes),XDisk.leftOf b r 0 = b
 | [],b => rfl
 | c :: r,b => by
  have zero : ∀ b : Bytes,c.made b 0 = b := by intro b; cases c <;> simp [Chg.made]
  unfold XDisk.leftOf
  rw [Nat.zero_min,zero,Nat.zero_sub]
  exact leftOf_zero r b
def putL (done:Bool) (rest:Names) (s:ByteArray) (t:Nat) : Names := if done then rest else insN rest s t
theorem putL_step {p:ByteArray × Nat} {rest:Names} {s:ByteArray} {t:Nat} (h:blt s p.1 = true) : putL false (p :: rest) s t = (s,t) :: p :: putL true rest s t := by
 simp [putL,insN,h]
theorem putL_skip {p:ByteArray × Nat} {rest:Names} {s:ByteArray} {t:Nat} (h:blt s p.1 = false) : putL false (p :: rest) s t = p :: putL false rest s t := by
 simp [putL,insN,h]
theorem putL_end (s:ByteArray) (t:Nat) : putL false [] s t = [(s,t)] := rfl
theorem made_zero (c:Chg) (b:Bytes) : c.made b 0 = b := by cases c <;> simp [Chg.made]
theorem made_wr {b d:Bytes} {a u:Nat} (ha:a ≤ b.length) (hu:u ≤ d.length) : Chg.made b u (.wr a d) = b.take a ++ d.take u ++ b.drop (a + u) := by
 by_cases h0 : u = 0
 ·subst h0; simp [Chg.made]
 ·simp only [Chg.made,if_neg h0]
  congr 1
  ·congr 1
   rw [List.take_append_of_le_length ha]
  ·rw [List.drop_append]
   have : (List.replicate (a + u - b.length) (0 : UInt8)).drop (a + u - b.length) = [] := by rw [List.drop_eq_nil_iff]; simp
   rw [this,List.append_nil]
theorem made_step {b d:Bytes} {a i:Nat} (ha:a ≤ b.length) (hi:i < d.length) (h:a + i < (Chg.made b i (.wr a d)).length) :
    Chg.made b (i + 1) (.wr a d) = (Chg.made b i (.wr a d)).set (a + i) d[i] := by
  rw [made_wr ha (by omega)] at h ⊢
  rw [made_wr ha (by omega)]
  have hl : (b.take a ++ d.take i).length = a + i := by simp; omega
  have hlt : a + i < b.length := by
    rw [List.length_append,hl,List.length_drop] at h; omega
  rw [List.drop_eq_getElem_cons hlt,List.set_append_right _ _ (by omega),hl,Nat.sub_self,List.set_cons_zero]
  rw [List.take_add_one,List.getElem?_eq_getElem hi,← Nat.add_assoc]
  simp only [Option.toList,List.append_assoc,List.cons_append,List.nil_append]
theorem made_push {b d:Bytes} {a i:Nat} (ha:a ≤ b.length) (hi:i < d.length) (h:¬ a + i < (Chg.made b i (.wr a d)).length) :
    Chg.made b (i + 1) (.wr a d) = Chg.made b i (.wr a d) ++ [d[i]] := by
  rw [made_wr ha (by omega)] at h ⊢
  rw [made_wr ha (by omega)]
  have hl : (b.take a ++ d.take i).length = a + i := by simp; omega
  have hge : b.length ≤ a + i := by
    rw [List.length_append,hl,List.length_drop] at h; omega
  rw [List.drop_eq_nil_of_le hge,List.drop_eq_nil_of_le (by omega:b.length ≤ a + (i + 1)),List.append_nil,List.append_nil]
  rw [List.take_add_one,List.getElem?_eq_getElem hi]
  simp only [Option.toList,List.append_assoc,List.cons_append,List.nil_append]
theorem units_take (row:List Chg) {k:Nat} (hk:k < row.length) : unitsOf (row.take (k + 1)) = unitsOf (row.take k) + row[k].units := by
 unfold unitsOf
 rw [List.take_add_one,List.getElem?_eq_getElem hk]
 simp only [Option.toList,List.map_append,List.map_cons,List.map_nil,List.sum_append,List.sum_cons,List.sum_nil,Nat.add_zero]
theorem leftOf_drop {row:List Chg} {k u:Nat} {b:Bytes} (hk:k < row.length) : leftOf b (row.drop k) u = leftOf (row[k].made b (min u row[k].units)) (row.drop (k + 1)) (u - min u row[k].units) := by
 rw [List.drop_eq_getElem_cons hk]; rfl
def AD.lacks (S:AD) : Bool := decide (S.since + 1 ≥ S.plan.from_) && decide (S.since + 1 ≤ S.plan.to_)
def AD.out (S:AD) : Bool := decide (S.since + 1 = S.plan.off)
theorem stroke_def (S:AD) (kind refused:Int) (act:AD → AD) : S.stroke kind refused act = (if S.out then 50 else (if refused = 0 ∧ kind = 1 ∧ S.since + 1 ≥ S.plan.from_ ∧ S.since + 1 ≤ S.plan.to_ then 55 else refused),
    if (if refused = 0 ∧ kind = 1 ∧ S.since + 1 ≥ S.plan.from_ ∧ S.since + 1 ≤ S.plan.to_ then 55 else refused) = 0 ∧ ¬ (S.out = true ∧ kind = 2) then act { S.ticked with off := S.out } else { S.ticked with off := S.out }) := rfl
theorem stroke_r (S:AD) (kind refused r:Int) (act:AD → AD) (T:AD) (hr:(if refused = 0 ∧ kind = 1 ∧ S.since + 1 ≥ S.plan.from_ ∧ S.since + 1 ≤ S.plan.to_ then 55 else refused) = r)
    (hT:(if r = 0 ∧ ¬ (S.out = true ∧ kind = 2) then act { S.ticked with off := S.out } else { S.ticked with off := S.out }) = T) : S.stroke kind refused act = (if S.out then 50 else r,T) := by
  rw [stroke_def,hr,hT]
theorem stroke_ref (S:AD) (kind e:Int) (act:AD → AD) (h:e ≠ 0) : S.stroke kind e act = (if S.out then 50 else e,{ S.ticked with off := S.out }) :=
 stroke_r S kind e e act _ (if_neg (fun h' => h h'.1)) (if_neg (fun h' => h h'.1))
theorem stroke_lack (S:AD) (act:AD → AD) (h:S.lacks = true) : S.stroke 1 0 act = (if S.out then 50 else 55,{ S.ticked with off := S.out }) := by
 unfold AD.lacks at h
 rw [Bool.and_eq_true,decide_eq_true_eq,decide_eq_true_eq] at h
 exact stroke_r S 1 0 55 act _ (if_pos ⟨rfl,rfl,h.1,h.2⟩) (if_neg (fun h' => by have := h'.1; omega))
theorem stroke_do (S:AD) (act:AD → AD) (h:S.lacks = false) : S.stroke 1 0 act = (if S.out then 50 else 0,act { S.ticked with off := S.out }) := by
 have e1 : ¬ ((0 : Int) = 0 ∧ (1 : Int) = 1 ∧ S.since + 1 ≥ S.plan.from_ ∧ S.since + 1 ≤ S.plan.to_) := by
  rintro ⟨_,_,h1,h2⟩
  unfold AD.lacks at h
  rw [decide_eq_true h1,decide_eq_true h2] at h
  cases h
 exact stroke_r S 1 0 0 act _ (if_neg e1) (if_pos ⟨rfl,fun h' => by have := h'.2; omega⟩)
theorem stroke_plain (S:AD) (act:AD → AD) : S.stroke 0 0 act = (if S.out then 50 else 0,act { S.ticked with off := S.out }) :=
 stroke_r S 0 0 0 act _ (if_neg (fun h' => by have := h'.2.1; omega)) (if_pos ⟨rfl,fun h' => by have := h'.2; omega⟩)
theorem stroke_settle (S:AD) (act:AD → AD) : S.stroke 2 0 act = (if S.out then 50 else 0,if S.out then { S.ticked with off := true } else act { S.ticked with off := false }) := by
 refine stroke_r S 2 0 0 act _ (if_neg (fun h' => by have := h'.2.1; omega)) ?_
 cases S.out <;> simp
theorem off_of_look2 (S:AD) (name:ByteArray) (h:S.look name = 53 ∨ S.look name = 0) : S.off = false := by
 unfold AD.look at h
 cases ho : S.off with
 | false => rfl
 | true => rw [ho] at h; simp at h
theorem turnsOk.at_ {s:Names} : ∀ {r:List Turn} {l:Names} {i:Nat} {c:Turn},turnsOk l r s → r[i]? = some c → (∀ a b,c = .give a b → alGet ((r.take i).foldl (fun l c => c.on l) l) a ≠ none) ∧ ((r.take i).foldl (fun l c => c.on l) l).length ≤ 256
 | [],_,_,_,_,hi => by simp at hi
 | c :: r,l,0,d,h,hi => by
  simp at hi; subst hi
  exact ⟨h.2.1,h.1⟩
 | c :: r,l,i + 1,d,h,hi => by
  have := turnsOk.at_ (i := i) h.2.2 (by simpa using hi)
  simpa using this
end Go.Proofs.XDisk

namespace Go.Proofs.XSep
open Go Go.RowKit Go.Proofs.XRed Go.Proofs.XHeap
abbrev Blks := Nat → Prop
structure Asrt where
 h : World → Blks → Blks → Prop
 fr : ∀ {w w':World} {O I M:Blks},h w O I → Fr M w w' → (∀ b,M b → ¬ O b ∧ ¬ I b) → h w' O I
 lt : ∀ {w:World} {O I:Blks},h w O I → ∀ b,O b ∨ I b → b < w.heap.size
 ap : ∀ {w:World} {O I:Blks},h w O I → ∀ b,O b → ¬ I b
structure Nxt (w:World) (O J:Blks) (w':World) (O' I':Blks) : Prop where
 fr : Fr O w w'
 on : ∀ b,O' b → O b ∨ w.heap.size ≤ b
 in_ : ∀ b,I' b → J b ∨ w.heap.size ≤ b
def Apart (O1 I1 O2 I2:Blks) : Prop := (∀ b,O1 b → ¬ O2 b ∧ ¬ I2 b) ∧ ∀ b,O2 b → ¬ O1 b ∧ ¬ I1 b
def Seps : List Asrt → World → Blks → Blks → Prop
 | [],_,O,I => (∀ b,¬ O b) ∧ ∀ b,¬ I b
 | a :: l,w,O,I => ∃ O1 I1 O2 I2,a.h w O1 I1 ∧ Seps l w O2 I2 ∧ Apart O1 I1 O2 I2 ∧ (∀ b,O b ↔ O1 b ∨ O2 b) ∧ ∀ b,I b ↔ I1 b ∨ I2 b
def Sep (l:List Asrt) (w:World) : Prop := ∃ O I,Seps l w O I
theorem Seps.fr {w w':World} {M:Blks} (hf:Fr M w w') : ∀ {l:List Asrt} {O I:Blks},Seps l w O I → (∀ b,M b → ¬ O b ∧ ¬ I b) → Seps l w' O I
  | [],_,_,h,_ => h
  | a :: l,O,I,⟨O1,I1,O2,I2,h1,h2,h3,h4,h5⟩,hm => ⟨O1,I1,O2,I2,a.fr h1 hf fun b hb => ⟨fun h => (hm b hb).1 ((h4 b).2 (.inl h)),fun h => (hm b hb).2 ((h5 b).2 (.inl h))⟩,
      Seps.fr hf h2 (fun b hb => ⟨fun h => (hm b hb).1 ((h4 b).2 (.inr h)),fun h => (hm b hb).2 ((h5 b).2 (.inr h))⟩),h3,h4,h5⟩
theorem Seps.lt {w:World} : ∀ {l:List Asrt} {O I:Blks},Seps l w O I → ∀ b,O b ∨ I b → b < w.heap.size
 | [],_,_,h,b,hb => hb.elim (fun h' => absurd h' (h.1 b)) fun h' => absurd h' (h.2 b)
 | a :: l,O,I,⟨O1,I1,O2,I2,h1,h2,h3,h4,h5⟩,b,hb => by
  rcases hb with hb | hb
  ·exact ((h4 b).1 hb).elim (fun h => a.lt h1 b (.inl h)) fun h => Seps.lt h2 b (.inl h)
  ·exact ((h5 b).1 hb).elim (fun h => a.lt h1 b (.inr h)) fun h => Seps.lt h2 b (.inr h)
theorem Seps.ap {w:World} : ∀ {l:List Asrt} {O I:Blks},Seps l w O I → ∀ b,O b → ¬ I b
 | [],_,_,h,b,hb => absurd hb (h.1 b)
 | a :: l,O,I,⟨O1,I1,O2,I2,h1,h2,h3,h4,h5⟩,b,hb => fun hi => by
  rcases (h4 b).1 hb with h | h <;> rcases (h5 b).1 hi with k | k
  ·exact a.ap h1 b h k
  ·exact (h3.1 b h).2 k
  ·exact (h3.2 b h).2 k
  ·exact Seps.ap h2 b h k
theorem Seps.at_ {w:World} {J:Blks} {a:Asrt} : ∀ {l:List Asrt} {i:Nat} {O I:Blks},Seps l w O I → (∀ b,O b → ¬ J b) → l[i]? = some a →
    ∃ O1 I1,a.h w O1 I1 ∧ (∀ b,O1 b → O b) ∧ (∀ b,I1 b → I b) ∧ ∀ c w' O' I',c.h w' O' I' → Nxt w O1 J w' O' I' → ∃ O2 I2,Seps (l.set i c) w' O2 I2 ∧ Fr O w w' ∧ (∀ b,O2 b → O b ∨ w.heap.size ≤ b) ∧ ∀ b,I2 b → I b ∨ J b ∨ w.heap.size ≤ b
  | [],_,_,_,_,_,h => by simp at h
  | x :: l,0,O,I,⟨O1,I1,O2,I2,h1,h2,h3,h4,h5⟩,hJ,hi => by
    simp at hi; subst hi
    refine ⟨O1,I1,h1,fun b hb => (h4 b).2 (.inl hb),fun b hb => (h5 b).2 (.inl hb),fun c w' O' I' hc hn => ?_⟩
    refine ⟨fun b => O' b ∨ O2 b,fun b => I' b ∨ I2 b,⟨O',I',O2,I2,hc,Seps.fr hn.fr h2 h3.1,⟨fun b hb => ?_,fun b hb => ?_⟩,fun _ => Iff.rfl,fun _ => Iff.rfl⟩,?_,?_,?_⟩
    · rcases hn.on b hb with h | h
      · exact h3.1 b h
      · exact ⟨fun h' => absurd (h2.lt b (.inl h')) (by omega),fun h' => absurd (h2.lt b (.inr h')) (by omega)⟩
    · have hlt := h2.lt b (.inl hb)
      refine ⟨fun h => ?_,fun h => ?_⟩
      · rcases hn.on b h with h | h
        · exact (h3.1 b h).1 hb
        · omega
      · rcases hn.in_ b h with h | h
        · exact hJ b ((h4 b).2 (.inr hb)) h
        · omega
    · exact hn.fr.mono fun b hb => .inl ((h4 b).2 (.inl hb))
    · rintro b (hb | hb)
      · exact (hn.on b hb).imp (fun h => (h4 b).2 (.inl h)) id
      · exact .inl ((h4 b).2 (.inr hb))
    · rintro b (hb | hb)
      · exact .inr (hn.in_ b hb)
      · exact .inl ((h5 b).2 (.inr hb))
  | x :: l,i + 1,O,I,⟨O1,I1,O2,I2,h1,h2,h3,h4,h5⟩,hJ,hi => by
    obtain ⟨Oa,Ia,ha,ho,hi2,hs⟩ := Seps.at_ (J := J) (i := i) h2 (fun b hb => hJ b ((h4 b).2 (.inr hb))) (by simpa using hi)
    refine ⟨Oa,Ia,ha,fun b hb => (h4 b).2 (.inr (ho b hb)),fun b hb => (h5 b).2 (.inr (hi2 b hb)),fun c w' O' I' hc hn => ?_⟩
    obtain ⟨O3,I3,hs3,hf,hon,hin⟩ := hs c w' O' I' hc hn
    refine ⟨fun b => O1 b ∨ O3 b,fun b => I1 b ∨ I3 b,⟨O1,I1,O3,I3,x.fr h1 hf h3.2,hs3,⟨fun b hb => ?_,fun b hb => ?_⟩,fun _ => Iff.rfl,fun _ => Iff.rfl⟩,?_,?_,?_⟩
    · have hlt := x.lt h1 b (.inl hb)
      refine ⟨fun h => ?_,fun h => ?_⟩
      · rcases hon b h with h | h
        · exact (h3.1 b hb).1 h
        · omega
      · rcases hin b h with h | h | h
        · exact (h3.1 b hb).2 h
        · exact hJ b ((h4 b).2 (.inl hb)) h
        · omega
    · rcases hon b hb with h | h
      · exact h3.2 b h
      · exact ⟨fun h' => absurd (x.lt h1 b (.inl h')) (by omega),fun h' => absurd (x.lt h1 b (.inr h')) (by omega)⟩
    · exact hf.mono fun b hb => .inl ((h4 b).2 (.inr hb))
    · rintro b (hb | hb)
      · exact .inl ((h4 b).2 (.inl hb))
      · exact (hon b hb).imp (fun h => (h4 b).2 (.inr h)) id
    · rintro b (hb | hb)
      · exact .inl ((h5 b).2 (.inl hb))
      · rcases hin b hb with h | h
        · exact .inl ((h5 b).2 (.inr h))
        · exact .inr h
theorem Sep.at_ {l:List Asrt} {w:World} (h:Sep l w) (i:Nat) {a:Asrt} (hi:l[i]? = some a) :
    ∃ O I J,a.h w O I ∧ (∀ b,I b → J b) ∧ (∀ b,O b → ¬ J b) ∧ ∀ c w' O' I',c.h w' O' I' → Nxt w O J w' O' I' → Sep (l.set i c) w' := by
  obtain ⟨O,I,hs⟩ := h
  obtain ⟨O1,I1,h1,h2,h3,h4⟩ := hs.at_ (J := I) hs.ap hi
  refine ⟨O1,I1,I,h1,h3,fun b hb => hs.ap b (h2 b hb),fun c w' O' I' hc hn => ?_⟩
  obtain ⟨O2,I2,h5,-⟩ := h4 c w' O' I' hc hn
  exact ⟨O2,I2,h5⟩
theorem Sep.get {l:List Asrt} {w:World} (h:Sep l w) (i:Nat) {a:Asrt} (hi:l[i]? = some a) : ∃ O I,a.h w O I := by
 obtain ⟨O,I,J,h,-⟩ := h.at_ i hi; exact ⟨O,I,h⟩
theorem Sep.quiet {l:List Asrt} {w w':World} {M:Blks} (h:Sep l w) (hf:Fr M w w') (hm:∀ b,M b → w.heap.size ≤ b) : Sep l w' := by
 obtain ⟨O,I,hs⟩ := h
 exact ⟨O,I,hs.fr hf fun b hb => ⟨fun h' => absurd (hs.lt b (.inl h')) (by have := hm b hb; omega),fun h' => absurd (hs.lt b (.inr h')) (by have := hm b hb; omega)⟩⟩
theorem Sep.q {l:List Asrt} {w w':World} (h:Sep l w) (hf:Fr (fun _ => False) w w') : Sep l w' := h.quiet hf fun b hb => hb.elim
theorem Sep.new {l:List Asrt} {w w':World} {M:Blks} {a:Asrt} {O' I':Blks} (h:Sep l w) (hf:Fr M w w') (hm:∀ b,M b → w.heap.size ≤ b) (ha:a.h w' O' I') (ho:∀ b,O' b → w.heap.size ≤ b) (hi:∀ b,I' b → w.heap.size ≤ b) : Sep (a :: l) w' := by
 obtain ⟨O,I,hs⟩ := h
 refine ⟨_,_,O',I',O,I,ha,hs.fr hf fun b hb => ⟨fun h' => absurd (hs.lt b (.inl h')) (by have := hm b hb; omega),fun h' => absurd (hs.lt b (.inr h')) (by have := hm b hb; omega)⟩,⟨fun b hb => ?_,fun b hb => ?_⟩,fun _ => Iff.rfl,fun _ => Iff.rfl⟩
 ·have := ho b hb
  exact ⟨fun h' => absurd (hs.lt b (.inl h')) (by omega),fun h' => absurd (hs.lt b (.inr h')) (by omega)⟩
 ·have := hs.lt b (.inl hb)
  exact ⟨fun h' => absurd (ho b h') (by omega),fun h' => absurd (hi b h') (by omega)⟩
theorem Seps.perm {w:World} {l l':List Asrt} (hp:l.Perm l') : ∀ {O I:Blks},Seps l w O I → Seps l' w O I := by
 induction hp with
 | nil => exact fun h => h
 | cons a _ ih => exact fun ⟨O1,I1,O2,I2,h1,h2,h3⟩ => ⟨O1,I1,O2,I2,h1,ih h2,h3⟩
 | trans _ _ ih1 ih2 => exact fun h => ih2 (ih1 h)
 | swap a b l =>
  rintro O I ⟨O1,I1,O2,I2,h1,⟨O3,I3,O4,I4,k1,k2,k3,k4,k5⟩,h3,h4,h5⟩
  refine ⟨O3,I3,fun b => O1 b ∨ O4 b,fun b => I1 b ∨ I4 b,k1,⟨O1,I1,O4,I4,h1,k2,⟨fun b hb => ?_,fun b hb => ?_⟩,fun _ => Iff.rfl,fun _ => Iff.rfl⟩,⟨fun b hb => ?_,fun b hb => ?_⟩,fun b => ?_,fun b => ?_⟩
  ·exact ⟨fun h => (h3.1 b hb).1 ((k4 b).2 (.inr h)),fun h => (h3.1 b hb).2 ((k5 b).2 (.inr h))⟩
  ·exact h3.2 b ((k4 b).2 (.inr hb))
  ·have e := h3.2 b ((k4 b).2 (.inl hb))
   exact ⟨fun h => h.elim e.1 (k3.1 b hb).1,fun h => h.elim e.2 (k3.1 b hb).2⟩
  ·rcases hb with hb | hb
   ·exact ⟨fun h => (h3.1 b hb).1 ((k4 b).2 (.inl h)),fun h => (h3.1 b hb).2 ((k5 b).2 (.inl h))⟩
   ·exact k3.2 b hb
  ·rw [h4,k4]; exact ⟨fun h => h.elim (fun h => .inr (.inl h)) fun h => h.elim .inl fun h => .inr (.inr h),fun h => h.elim (fun h => .inr (.inl h)) fun h => h.elim .inl fun h => .inr (.inr h)⟩
  ·rw [h5,k5]; exact ⟨fun h => h.elim (fun h => .inr (.inl h)) fun h => h.elim .inl fun h => .inr (.inr h),fun h => h.elim (fun h => .inr (.inl h)) fun h => h.elim .inl fun h => .inr (.inr h)⟩
theorem Sep.perm {w:World} {l l':List Asrt} (h:Sep l w) (hp:l.Perm l') : Sep l' w := by obtain ⟨O,I,h⟩ := h; exact ⟨O,I,h.perm hp⟩
theorem Sep.drop {w:World} {l:List Asrt} {a:Asrt} (h:Sep (a :: l) w) : Sep l w := by obtain ⟨O,I,O1,I1,O2,I2,h1,h2,_⟩ := h; exact ⟨_,_,h2⟩
def star (a b:Asrt) : Asrt where
 h w O I := ∃ O1 I1 O2 I2,a.h w O1 I1 ∧ b.h w O2 I2 ∧ Apart O1 I1 O2 I2 ∧ (∀ b,O b ↔ O1 b ∨ O2 b) ∧ ∀ b,I b ↔ I1 b ∨ I2 b
 fr := fun ⟨O1,I1,O2,I2,h1,h2,h3,h4,h5⟩ hf hm => ⟨O1,I1,O2,I2,a.fr h1 hf fun b hb => ⟨fun h => (hm b hb).1 ((h4 b).2 (.inl h)),fun h => (hm b hb).2 ((h5 b).2 (.inl h))⟩,
  b.fr h2 hf (fun b hb => ⟨fun h => (hm b hb).1 ((h4 b).2 (.inr h)),fun h => (hm b hb).2 ((h5 b).2 (.inr h))⟩),h3,h4,h5⟩
 lt := fun ⟨O1,I1,O2,I2,h1,h2,h3,h4,h5⟩ x hx => by
  rcases hx with hx | hx
  ·exact ((h4 x).1 hx).elim (fun h => a.lt h1 x (.inl h)) fun h => b.lt h2 x (.inl h)
  ·exact ((h5 x).1 hx).elim (fun h => a.lt h1 x (.inr h)) fun h => b.lt h2 x (.inr h)
 ap := fun ⟨O1,I1,O2,I2,h1,h2,h3,h4,h5⟩ x hx hi => by
  rcases (h4 x).1 hx with h | h <;> rcases (h5 x).1 hi with k | k
  ·exact a.ap h1 x h k
  ·exact (h3.1 x h).2 k
  ·exact (h3.2 x h).2 k
  ·exact b.ap h2 x h k
theorem Sep.unstar {w:World} {l:List Asrt} {a b:Asrt} (h:Sep (star a b :: l) w) : Sep (a :: b :: l) w := by
 obtain ⟨O,I,O1,I1,O2,I2,⟨O3,I3,O4,I4,k1,k2,k3,k4,k5⟩,h2,h3,h4,h5⟩ := h
 refine ⟨O,I,O3,I3,fun x => O4 x ∨ O2 x,fun x => I4 x ∨ I2 x,k1,⟨O4,I4,O2,I2,k2,h2,⟨fun x hx => h3.1 x ((k4 x).2 (.inr hx)),fun x hx => ⟨fun h => (h3.2 x hx).1 ((k4 x).2 (.inr h)),fun h => (h3.2 x hx).2 ((k5 x).2 (.inr h))⟩⟩,fun _ => Iff.rfl,fun _ => Iff.rfl⟩,⟨fun x hx => ?_,fun x hx => ?_⟩,fun x => ?_,fun x => ?_⟩
 ·have e := h3.1 x ((k4 x).2 (.inl hx))
  exact ⟨fun h => h.elim (k3.1 x hx).1 e.1,fun h => h.elim (k3.1 x hx).2 e.2⟩
 ·rcases hx with hx | hx
  ·exact k3.2 x hx
  ·exact ⟨fun h => (h3.2 x hx).1 ((k4 x).2 (.inl h)),fun h => (h3.2 x hx).2 ((k5 x).2 (.inl h))⟩
 ·rw [h4,k4]; exact or_assoc
 ·rw [h5,k5]; exact or_assoc
def Base (W:World) : Asrt where
 h w O I := Fr (fun _ => False) W w ∧ (∀ b,¬ O b) ∧ ∀ b,I b ↔ b < W.heap.size
 fr := fun ⟨h1,h2,h3⟩ hf hm => ⟨h1.trans hf fun b hb => .inr (by have := (hm b hb).2; rw [h3] at this; omega),h2,h3⟩
 lt := fun ⟨h1,h2,h3⟩ b hb => hb.elim (fun h => absurd h (h2 b)) fun h => Nat.lt_of_lt_of_le ((h3 b).1 h) h1.size
 ap := fun ⟨h1,h2,h3⟩ b hb => absurd hb (h2 b)
theorem Sep.base (W:World) : Sep [Base W] W :=
 ⟨fun _ => False,fun b => b < W.heap.size,fun _ => False,fun b => b < W.heap.size,fun _ => False,fun _ => False,⟨Fr.refl _ _,fun _ h => h,fun _ => Iff.rfl⟩,⟨fun _ h => h,fun _ h => h⟩,⟨fun b h => h.elim,fun b h => h.elim⟩,fun b => by simp,fun b => by simp⟩
theorem Sep.base_at {W w:World} {l:List Asrt} (h:Sep l w) (i:Nat) (hi:l[i]? = some (Base W)) : Fr (fun _ => False) W w := by
 obtain ⟨O,I,h⟩ := h.get i hi; exact h.1
def Cells (b:Nat) (cs:Array Value) (t:TypeId) : Asrt where
 h w O I := w.heap[b]? = some (.cells cs t (0,0)) ∧ (∀ x,O x ↔ x = b) ∧ ∀ x,¬ I x
 fr := fun ⟨h1,h2,h3⟩ hf hm => ⟨hf.get h1 fun h => (hm b h).1 ((h2 b).2 rfl),h2,h3⟩
 lt := fun ⟨h1,h2,h3⟩ x hx => hx.elim (fun h => (h2 x).1 h ▸ lt_of_get h1) fun h => absurd h (h3 x)
 ap := fun ⟨h1,h2,h3⟩ x _ => h3 x
theorem Sep.cells {w:World} {l:List Asrt} (h:Sep l w) (i:Nat) {b:Nat} {cs:Array Value} {t:TypeId} (hi:l[i]? = some (Cells b cs t)) : w.heap[b]? = some (.cells cs t (0,0)) := by
 obtain ⟨O,I,h,_⟩ := h.get i hi; exact h
theorem Sep.set {w:World} {l:List Asrt} (h:Sep l w) (i:Nat) {b:Nat} {cs:Array Value} {t:TypeId} (hi:l[i]? = some (Cells b cs t)) (j:Nat) (u:Value) : Sep (l.set i (Cells b (cs.setIfInBounds j u) t)) (w.setCell ⟨b,j,none⟩ u) := by
 obtain ⟨O,I,J,⟨h1,h2,h3⟩,-,-,hs⟩ := h.at_ i hi
 exact hs _ _ O I ⟨set_same h1 j u,h2,h3⟩ ⟨(Fr.setCell w ⟨b,j,none⟩ u).mono fun x hx => .inl ((h2 x).2 hx),fun x => .inl,fun x hx => absurd hx (h3 x)⟩
theorem Sep.cell {w:World} {l:List Asrt} (h:Sep l w) (cs:Array Value) (t:TypeId) : Sep (Cells w.heap.size cs t :: l) (w.alloc (.cells cs t)) :=
 h.new (Fr.alloc (fun _ => False) w _) (fun b hb => hb.elim) (O' := fun x => x = w.heap.size) (I' := fun _ => False) ⟨alloc_new _ _,fun _ => Iff.rfl,fun _ h => h⟩ (fun b hb => by omega) fun b hb => hb.elim
end Go.Proofs.XSep
