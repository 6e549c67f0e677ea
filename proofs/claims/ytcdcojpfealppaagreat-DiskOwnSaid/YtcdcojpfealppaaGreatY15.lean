/- Put together by a program (wip/tools/shake.py): Script,XEntry,XSep,XSep2,XSep3,XOwn,XBag. -/
import Derived.Test.YtcdcojpfealppaaGreatRows
import Derived.Test.YtcdcojpfealppaaGreatY14
import Derived.JoinedCond
import Derived.Deep.Slices
import Derived.Test.YtcdcojpfealppaaGreatY2
import Derived.Test.YtcdcojpfealppaaGreatY3
set_option linter.unusedVariables false
set_option linter.unusedSimpArgs false
set_option maxRecDepth 100000
open Go.Proofs.Tryz renaming prog → Z
open Go renaming World → Y, Value → V
namespace Go.Proofs.YtcdcojpfealppaaGreat
open Go Go.ChangeShapes Go.WideShapes Go.ChangeAt Go.RowKit Go.Proofs Go.Proofs.XRed Go.Proofs.XHeap Go.Proofs.XSlices Go.Proofs.XRow Go.Proofs.XDisk Tryz
section
variable {H:Type} {enc:TypeId × V → H}
variable {W:Y}
def Len (d:DataW H) (n:Nat):Prop:=n=0∨∃e s,d= .slice e s∧e.length=n
theorem DU {fuel:Nat} {cs:List V} {x:DataW H×List MemPlace} (h:DataW.trod enc Z W 0 (fun _=>true) true fuel 36 cs=some x):∃(dv:V) (d:Bytes),cs=[dv]∧Z5 W dv d∧Len x.1 d.length:=by
 rcases open_ints underlying36 underlying5 (by kernel_rfl) h with ⟨rfl,rfl⟩|⟨a,len,cap,zs,rfl,_,hl,hm,hz,rfl,hcell,hwf⟩
 ·exact⟨_,[],rfl,Z5.nil _,.inl rfl⟩
 ·simp only[if_true] at hz
  have hbyte:∀z∈zs,((UInt8.ofNat z.toNat).toNat:Int)=z:=by
   intro z hz
   have hb:=hwf z hz
   simp only[Lit.wf,IntKind.min,IntKind.max,IntKind.signed,IntKind.bits] at hb
   simp at hb
   have:(UInt8.ofNat z.toNat).toNat=z.toNat:=by simp;omega
   rw[this];omega
  have hlen:((zs.take len).map fun z=>UInt8.ofNat z.toNat).length=len:=by simp;omega
  refine⟨_,(zs.take len).map fun z=>UInt8.ofNat z.toNat,rfl,?_,?_⟩
  ·unfold Z5
   rw[hlen]
   obtain⟨b,off,spot⟩:=a
   refine⟨some ⟨b,off,spot⟩,cap,rfl,hl,by simp[u8s];omega,fun h0=> ?_⟩
   have hspot:spot=none:=by simpa[Addr.add] using World.cell?_spot (hcell 0 (by omega))
   subst hspot
   refine⟨b,off,rfl,fun j u hj=> ?_⟩
   unfold u8s at hj
   rw[List.map_map,List.getElem?_map] at hj
   obtain⟨z,hz',rfl⟩:=Option.map_eq_some_iff.1 hj
   have hjl:j<len:=by
    have:=(List.getElem?_eq_some_iff.1 hz').1
    simp at this;omega
   rw[List.getElem?_take_of_lt hjl] at hz'
   have:=hcell j (by omega)
   rw[Xv,List.getD,hz'] at this
   rw[this]
   show some (Value.int .u8 z)=some (Value.int .u8 ((UInt8.ofNat z.toNat).toNat:Int))
   rw[hbyte z (List.mem_of_getElem? hz')]
  ·rw[hlen]
   exact .inr ⟨lits .u8 (zs.take len),lits .u8 (zs.drop len),rfl,by simp[lits];omega⟩
theorem DV {fuel:Nat} {cs:List V} {x:DataW H×List MemPlace} (h:DataW.trod enc Z W 0 (fun _=>true) true fuel 39 cs=some x):∃(dv:V) (d:List Int),cs=[dv]∧Src W dv 1 d.length (d.map fun n=> .int .i64 n)∧Len x.1 d.length:=by
 rcases open_ints underlying39 underlying3 (by kernel_rfl) h with ⟨rfl,rfl⟩|⟨a,len,cap,zs,rfl,_,hl,hm,hz,rfl,hcell,hwf⟩
 ·exact⟨_,[],rfl,Src.nil _ _,.inl rfl⟩
 ·simp only[if_true] at hz
  have hlen:(zs.take len).length=len:=by simp;omega
  refine⟨_,zs.take len,rfl,?_,?_⟩
  ·rw[hlen]
   obtain⟨b,off,spot⟩:=a
   refine⟨some ⟨b,off,spot⟩,cap,rfl,hl,by simp;omega,fun h0=> ?_⟩
   have hspot:spot=none:=by simpa[Addr.add] using World.cell?_spot (hcell 0 (by omega))
   subst hspot
   refine⟨b,off,rfl,fun j u hj=> ?_⟩
   rw[List.getElem?_map] at hj
   obtain⟨z,hz',rfl⟩:=Option.map_eq_some_iff.1 hj
   have hjl:j<len:=by
    have:=(List.getElem?_eq_some_iff.1 hz').1
    simp at this;omega
   rw[List.getElem?_take_of_lt hjl] at hz'
   have:=hcell j (by omega)
   rw[Xv,List.getD,hz'] at this
   exact this
  ·rw[hlen]
   exact .inr ⟨lits .i64 (zs.take len),lits .i64 (zs.drop len),rfl,by simp[lits];omega⟩
theorem jc {n:Int} (h:(Lit.int .i64 n).wf=true): -9223372036854775808≤n∧n≤9223372036854775807:=by
 simp only[Lit.wf,IntKind.min,IntKind.max,IntKind.signed,IntKind.bits] at h
 simp at h
 omega
def U1 (d:DataW H):Prop:=∀parts,d= .agg parts→(∀q n,parts[5]? =some q→Len q n→n≤140737488355328)∧∀q n,parts[7]? =some q→Len q n→n≤17592186044416
theorem G5 {fuel:Nat} {cs:List V} {x:DataW H×List MemPlace} (hb:U1 x.1) (h:DataW.trod enc Z W 0 (fun _=>true) true fuel 41 cs=some x):∃(s:XT) (dv pv:V),cs=ZC s dv pv∧V5 W s dv pv:=by
 obtain⟨xs,k,rfl,rfl,hlen,hxl,hf⟩:=DataW.trod_struct underlying41 h
 have c10:prog.cellsOf 41=10:=by kernel_rfl
 rw[c10] at hlen
 match cs,hlen with
 | [c0,c1,c2,c3,c4,c5,c6,c7,c8,c9],_=>
 match xs,hxl with
 | [x0,x1,x2,x3,x4,x5,x6,x7],_=>
 have g0:DataW.trod enc Z W 0 (fun _=>true) true k 3 (([c0,c1,c2,c3,c4,c5,c6,c7,c8,c9].drop 0).take (prog.cellsOf 3))=some x0:=hf 0 _ rfl
 have g1:DataW.trod enc Z W 0 (fun _=>true) true k 9 (([c0,c1,c2,c3,c4,c5,c6,c7,c8,c9].drop 1).take (prog.cellsOf 9))=some x1:=hf 1 _ rfl
 have g2:DataW.trod enc Z W 0 (fun _=>true) true k 9 (([c0,c1,c2,c3,c4,c5,c6,c7,c8,c9].drop 2).take (prog.cellsOf 9))=some x2:=hf 2 _ rfl
 have g3:DataW.trod enc Z W 0 (fun _=>true) true k 3 (([c0,c1,c2,c3,c4,c5,c6,c7,c8,c9].drop 3).take (prog.cellsOf 3))=some x3:=hf 3 _ rfl
 have g4:DataW.trod enc Z W 0 (fun _=>true) true k 3 (([c0,c1,c2,c3,c4,c5,c6,c7,c8,c9].drop 4).take (prog.cellsOf 3))=some x4:=hf 4 _ rfl
 have g5:DataW.trod enc Z W 0 (fun _=>true) true k 36 (([c0,c1,c2,c3,c4,c5,c6,c7,c8,c9].drop 5).take (prog.cellsOf 36))=some x5:=hf 5 _ rfl
 have g6:DataW.trod enc Z W 0 (fun _=>true) true k 38 (([c0,c1,c2,c3,c4,c5,c6,c7,c8,c9].drop 6).take (prog.cellsOf 38))=some x6:=hf 6 _ rfl
 have g7:DataW.trod enc Z W 0 (fun _=>true) true k 39 (([c0,c1,c2,c3,c4,c5,c6,c7,c8,c9].drop 9).take (prog.cellsOf 39))=some x7:=hf 7 _ rfl
 have k3:prog.cellsOf 3=1:=by kernel_rfl
 have k9:prog.cellsOf 9=1:=by kernel_rfl
 have k30:prog.cellsOf 36=1:=by kernel_rfl
 have k46:prog.cellsOf 38=3:=by kernel_rfl
 have k57:prog.cellsOf 39=1:=by kernel_rfl
 simp only[k3,k9,k30,k46,k57,List.drop_zero,List.drop_succ_cons,List.take_succ_cons,List.take_zero,List.getElem?_cons_zero,List.getElem?_cons_succ] at g0 g1 g2 g3 g4 g5 g6 g7
 obtain⟨n0,e0,r0,w0⟩:=DataW.trod_int underlying3 g0
 obtain⟨s1,e1,r1,w1⟩:=DataW.trod_string underlying9 g1
 obtain⟨s2,e2,r2,w2⟩:=DataW.trod_string underlying9 g2
 obtain⟨n3,e3,r3,w3⟩:=DataW.trod_int underlying3 g3
 obtain⟨n4,e4,r4,w4⟩:=DataW.trod_int underlying3 g4
 obtain⟨dv,d5,e5,s5,l5⟩:=DU g5
 obtain⟨pv,d7,e7,s7,l7⟩:=DV g7
 obtain⟨ys,k',hk',hx6,hlen6,hyl,hf6⟩:=DataW.trod_struct underlying38 g6
 match ys,hyl with
 | [y0,y1,y2],_=>
 have p0:DataW.trod enc Z W 0 (fun _=>true) true k' 3 (([c6,c7,c8].drop 0).take (prog.cellsOf 3))=some y0:=hf6 0 _ rfl
 have p1:DataW.trod enc Z W 0 (fun _=>true) true k' 3 (([c6,c7,c8].drop 1).take (prog.cellsOf 3))=some y1:=hf6 1 _ rfl
 have p2:DataW.trod enc Z W 0 (fun _=>true) true k' 3 (([c6,c7,c8].drop 2).take (prog.cellsOf 3))=some y2:=hf6 2 _ rfl
 simp only[k3,List.drop_zero,List.drop_succ_cons,List.take_succ_cons,List.take_zero,List.getElem?_cons_zero,List.getElem?_cons_succ] at p0 p1 p2
 obtain⟨m0,q0,_,_⟩:=DataW.trod_int underlying3 p0
 obtain⟨m1,q1,_,_⟩:=DataW.trod_int underlying3 p1
 obtain⟨m2,q2,_,_⟩:=DataW.trod_int underlying3 p2
 simp only[List.cons.injEq,and_true] at e0 e1 e2 e3 e4 e5 e7 q0 q1 q2
 subst e0 e1 e2 e3 e4 e5 e7 q0 q1 q2
 obtain⟨hb5,hb7⟩:=hb _ rfl
 exact⟨⟨n0,s1,s2,n3,n4,d5,⟨m0,m1,m2⟩,d7⟩,c5,c9,rfl,⟨s5,s7,w1,w2,jc w3,hb5 _ _ rfl l5,hb7 _ _ rfl l7⟩⟩
theorem Cn {v:V} {d:DataW H} {ps:List MemPlace} (hb:∀elems spare,d= .slice elems spare→∀e∈elems,U1 e) (hv:Value.okWide Z W .any 0 22 v) (h:DataW.Trod enc Z W 0 (fun _=>true) true 22 v d ps):∃l:VJ,XP W v l:=by
 obtain⟨a0,len,cap,rfl⟩:=okWide_slice underlying22 hv
 obtain⟨fuel,hf⟩:=h
 have c10:prog.cellsOf 41=10:=by kernel_rfl
 rcases Go.Deep.open_slice underlying22 hf with ⟨hcs,hx⟩|⟨a,len',cap',m,n,Ds,Pl,hcs,_,hl,hm,hmm,hx,hcell⟩
 ·simp[Value.cells] at hcs
  obtain⟨rfl,rfl,rfl⟩:=hcs
  exact⟨[],Src.nil _ _,fun p hp=>by cases hp⟩
 ·simp[Value.cells] at hcs
  obtain⟨rfl,rfl,rfl⟩:=hcs
  simp only[if_true] at hmm
  rw[c10] at hcell
  injection hx with hx _
  have each:∀i,i<len→∃p:XT×V×V,V5 W p.1 p.2.1 p.2.2∧∀j u,(ZC p.1 p.2.1 p.2.2)[j]? =some u→W.cell? ((a.add (i*10)).add j)=some u:=by
   intro i hi
   obtain⟨cs',h1,h2⟩:=hcell i (by omega)
   obtain⟨_,hlen,hc⟩:=World.cells?_some h1
   have hD:U1 (Ds i):=hb _ _ hx _ (List.mem_map.2 ⟨i,List.mem_range.2 hi,rfl⟩)
   obtain⟨s,dv,pv,rfl,hs⟩:=G5 (x:=(Ds i,Pl i)) hD h2
   refine⟨(s,dv,pv),hs,fun j u hj=> ?_⟩
   rw[hc j (List.getElem?_eq_some_iff.1 hj).1];exact hj
  have hS:∃g:Nat→XT×V×V,∀i,i<len→V5 W (g i).1 (g i).2.1 (g i).2.2∧∀j u,(ZC (g i).1 (g i).2.1 (g i).2.2)[j]? =some u→W.cell? ((a.add (i*10)).add j)=some u:=by
   classical
   refine⟨fun i=>if h:i<len then Classical.choose (each i h) else (⟨0,.empty,.empty,0,0,[],⟨0,0,0⟩,[]⟩,undef,undef),fun i hi=> ?_⟩
   simp only[dif_pos hi]
   exact Classical.choose_spec (each i hi)
  obtain⟨g,hg⟩:=hS
  refine⟨(List.range len).map g,?_,?_⟩
  ·rw[List.length_map,List.length_range]
   have hfl:(Xz ((List.range len).map g)).length=len*10:=by
    have:∀l:VJ,(Xz l).length=l.length*10:=by
     intro l
     induction l with
     |nil=>rfl
     |cons p r ih=>unfold Xz at *;rw[List.flatMap_cons,List.length_append,ih];simp[ZC];omega
    rw[this];simp
   obtain⟨b,off,spot⟩:=a
   refine⟨some ⟨b,off,spot⟩,cap,rfl,hl,hfl,fun hpos=> ?_⟩
   have h00:=(hg 0 hpos).2 0 _ rfl
   have hspot:spot=none:=by simpa[Addr.add] using World.cell?_spot h00
   subst hspot
   refine⟨b,off,rfl,fun j u hj=> ?_⟩
   have hjl:j<len*10:=by have:=(List.getElem?_eq_some_iff.1 hj).1;rw[hfl] at this;exact this
   have hi:j/10<len:=by omega
   have hgi:((List.range len).map g)[j/10]? =some (g (j/10)):=by simp[hi]
   have hfa:=Vf (f:=fun p:XT×V×V=>ZC p.1 p.2.1 p.2.2) (n:=10) (fun _=>rfl) (l:=(List.range len).map g) (i:=j/10) (j:=j%10) hgi (Nat.mod_lt _ (by omega))
   have e:j/10*10+j%10=j:=by omega
   rw[e] at hfa
   unfold Xz at hj
   rw[hfa] at hj
   have:=(hg (j/10) hi).2 (j%10) u hj
   rw[Xv,Xv] at this
   have e2:off+j/10*10+j%10=off+j:=by omega
   rw[e2] at this
   exact this
  ·intro p hp
   obtain⟨i,hi,rfl⟩:=List.mem_map.1 hp
   exact(hg i (List.mem_range.1 hi)).1
theorem QA {P:Program} {t:TypeId} {d:DataW H}:∀ {l:List (DataW H)},d∈l→∀n∈d.weights P t,n∈DataW.weightsAll P t l
 |a::r,h,n,hn=>by
  simp only[DataW.weightsAll,List.mem_append]
  rcases List.mem_cons.1 h with rfl|h
  ·exact Or.inl hn
  ·exact Or.inr (QA h n hn)
theorem J0 {P:Program} {t e:TypeId} {d:DataW H} {n b:Nat} (ht:P.underlying t=some (.slice e)) (hb:P.bytesOf e=b) (hl:Len d n) (hw:∀m∈d.weights P t,m≤reachBytes):n*b≤reachBytes:=by
 rcases hl with rfl|⟨el,sp,rfl,rfl⟩
 ·rw[Nat.zero_mul];exact Nat.zero_le _
 ·have:=hw ((el.length+sp.length)*P.bytesOf e) (by simp[DataW.weights,ht])
  rw[hb] at this
  exact Nat.le_trans (Nat.mul_le_mul_right _ (by omega)) this
theorem Qo {d:DataW H} (hw:∀m∈d.weights Z 41,m≤reachBytes):U1 d:=by
 have hr:reachBytes≤140737488355328:=by decide
 rintro parts rfl
 have hu:=underlying41
 have hwe:DataW.weights Z 41 (.agg parts)=DataW.weightsEach Z [3,9,9,3,3,36,38,39] parts:=by
  simp only[DataW.weights,hu]
  rfl
 have sub:∀(j:Nat) (q:DataW H) (t:TypeId),parts[j]? =some q→[3,9,9,3,3,36,38,39][j]? =some t→∀m∈q.weights Z t,m≤reachBytes:=by
  intro j q t hq ht m hm
  refine hw m ?_
  rw[hwe]
  exact DataW.weights_mem_each ht hq m hm
 refine⟨fun q n hq hl=> ?_,fun q n hq hl=> ?_⟩
 ·have:=J0 (b:=1) underlying36 (by kernel_rfl) hl (sub 5 q 36 hq rfl)
  omega
 ·have:=J0 (b:=8) underlying39 (by kernel_rfl) hl (sub 7 q 39 hq rfl)
  omega
theorem Jl {d:DataW H} (hw:∀m∈d.weights Z 22,m≤reachBytes):∀elems spare,d= .slice elems spare→∀e∈elems,U1 e:=by
 rintro elems spare rfl e he
 refine Qo fun m hm=>hw m ?_
 simp only[DataW.weights,underlying22,List.mem_cons,List.mem_append]
 exact Or.inr (Or.inl (QA he m hm))
end
end Go.Proofs.YtcdcojpfealppaaGreat
namespace Go.Proofs.XMaps
open Go Go.RowKit Go.MapKept Go.Proofs.XHeap
section
variable {P:Program} {w:Y} {m:Nat} {l:List (ByteArray × V)} {t kt et:TypeId}
end
end Go.Proofs.XMaps
namespace Go.Proofs.XHeap
open Go Go.RowKit Go.Proofs.XRed
theorem jd {P:Program} {w:Y} {k:KV} {t:TypeId} {v:V} {cs:Array V} (h:v.cells=cs) (hk:k (.pointer (some ⟨w.heap.size,0,none⟩)) (w.alloc (.cells cs t))):px P (Instr.box t v) w k:=by
 subst h;exact Yw hk
end Go.Proofs.XHeap
namespace Go.Proofs.XSep
open Go Go.RowKit Go.Proofs.XRed Go.Proofs.XHeap
abbrev Ux:=Nat→Prop
structure Yf where
 h:Y→Ux→Ux→Prop
 fr:∀ {w w':Y} {O I M:Ux},h w O I→Fr M w w'→(∀b,M b→¬O b∧¬I b)→h w' O I
 lt:∀ {w:Y} {O I:Ux},h w O I→∀b,O b∨I b→b<w.heap.size
 ap:∀ {w:Y} {O I:Ux},h w O I→∀b,O b→¬I b
structure Nxt (w:Y) (O J:Ux) (w':Y) (O' I':Ux):Prop where
 fr:Fr O w w'
 on:∀b,O' b→O b∨w.heap.size≤b
 in_:∀b,I' b→J b∨w.heap.size≤b
def G6 (O1 I1 O2 I2:Ux):Prop:=(∀b,O1 b→¬O2 b∧¬I2 b)∧∀b,O2 b→¬O1 b∧¬I1 b
def XJ:List Yf→Y→Ux→Ux→Prop
 | [],_,O,I=>(∀b,¬O b)∧∀b,¬I b
 |a::l,w,O,I=>∃O1 I1 O2 I2,a.h w O1 I1∧XJ l w O2 I2∧G6 O1 I1 O2 I2∧(∀b,O b↔O1 b∨O2 b)∧∀b,I b↔I1 b∨I2 b
def Sep (l:List Yf) (w:Y):Prop:=∃O I,XJ l w O I
theorem XJ.fr {w w':Y} {M:Ux} (hf:Fr M w w'):∀ {l:List Yf} {O I:Ux},XJ l w O I→(∀b,M b→¬O b∧¬I b)→XJ l w' O I
 | [],_,_,h,_=>h
 | a :: l,O,I,⟨O1,I1,O2,I2,h1,h2,h3,h4,h5⟩,hm => ⟨O1,I1,O2,I2,a.fr h1 hf fun b hb => ⟨fun h => (hm b hb).1 ((h4 b).2 (.inl h)),fun h => (hm b hb).2 ((h5 b).2 (.inl h))⟩,
     XJ.fr hf h2 (fun b hb=>⟨fun h=>(hm b hb).1 ((h4 b).2 (.inr h)),fun h=>(hm b hb).2 ((h5 b).2 (.inr h))⟩),h3,h4,h5⟩
theorem XJ.lt {w:Y}:∀ {l:List Yf} {O I:Ux},XJ l w O I→∀b,O b∨I b→b<w.heap.size
 | [],_,_,h,b,hb=>hb.elim (fun h'=>absurd h' (h.1 b)) fun h'=>absurd h' (h.2 b)
 |a::l,O,I,⟨O1,I1,O2,I2,h1,h2,h3,h4,h5⟩,b,hb=>by
  rcases hb with hb|hb
  ·exact((h4 b).1 hb).elim (fun h=>a.lt h1 b (.inl h)) fun h=>XJ.lt h2 b (.inl h)
  ·exact((h5 b).1 hb).elim (fun h=>a.lt h1 b (.inr h)) fun h=>XJ.lt h2 b (.inr h)
theorem XJ.ap {w:Y}:∀ {l:List Yf} {O I:Ux},XJ l w O I→∀b,O b→¬I b
 | [],_,_,h,b,hb=>absurd hb (h.1 b)
 |a::l,O,I,⟨O1,I1,O2,I2,h1,h2,h3,h4,h5⟩,b,hb=>fun hi=>by
  rcases (h4 b).1 hb with h|h<;>rcases (h5 b).1 hi with k|k
  ·exact a.ap h1 b h k
  ·exact(h3.1 b h).2 k
  ·exact(h3.2 b h).2 k
  ·exact XJ.ap h2 b h k
theorem XJ.at_ {w:Y} {J:Ux} {a:Yf}:∀ {l:List Yf} {i:Nat} {O I:Ux},XJ l w O I→(∀b,O b→¬J b)→l[i]? =some a→
   ∃O1 I1,a.h w O1 I1∧(∀b,O1 b→O b)∧(∀b,I1 b→I b)∧∀c w' O' I',c.h w' O' I'→Nxt w O1 J w' O' I'→∃O2 I2,XJ (l.set i c) w' O2 I2∧Fr O w w'∧(∀b,O2 b→O b∨w.heap.size≤b)∧∀b,I2 b→I b∨J b∨w.heap.size≤b
 | [],_,_,_,_,_,h=>by simp at h
 | x :: l,0,O,I,⟨O1,I1,O2,I2,h1,h2,h3,h4,h5⟩,hJ,hi => by
   simp at hi;subst hi
   refine⟨O1,I1,h1,fun b hb=>(h4 b).2 (.inl hb),fun b hb=>(h5 b).2 (.inl hb),fun c w' O' I' hc hn=> ?_⟩
   refine⟨fun b=>O' b∨O2 b,fun b=>I' b∨I2 b,⟨O',I',O2,I2,hc,XJ.fr hn.fr h2 h3.1,⟨fun b hb=> ?_,fun b hb=> ?_⟩,fun _=>Iff.rfl,fun _=>Iff.rfl⟩,?_,?_,?_⟩
   · rcases hn.on b hb with h | h
     · exact h3.1 b h
     · exact⟨fun h'=>absurd (h2.lt b (.inl h')) (by omega),fun h'=>absurd (h2.lt b (.inr h')) (by omega)⟩
   · have hlt := h2.lt b (.inl hb)
     refine⟨fun h=> ?_,fun h=> ?_⟩
     · rcases hn.on b h with h | h
       · exact(h3.1 b h).1 hb
       · omega
     · rcases hn.in_ b h with h | h
       · exact hJ b ((h4 b).2 (.inr hb)) h
       · omega
   · exact hn.fr.mono fun b hb=> .inl ((h4 b).2 (.inl hb))
   · rintro b (hb | hb)
     · exact(hn.on b hb).imp (fun h=>(h4 b).2 (.inl h)) id
     · exact .inl ((h4 b).2 (.inr hb))
   · rintro b (hb | hb)
     · exact .inr (hn.in_ b hb)
     · exact .inl ((h5 b).2 (.inr hb))
 | x :: l,i + 1,O,I,⟨O1,I1,O2,I2,h1,h2,h3,h4,h5⟩,hJ,hi => by
   obtain⟨Oa,Ia,ha,ho,hi2,hs⟩:=XJ.at_ (J:=J) (i:=i) h2 (fun b hb=>hJ b ((h4 b).2 (.inr hb))) (by simpa using hi)
   refine⟨Oa,Ia,ha,fun b hb=>(h4 b).2 (.inr (ho b hb)),fun b hb=>(h5 b).2 (.inr (hi2 b hb)),fun c w' O' I' hc hn=> ?_⟩
   obtain⟨O3,I3,hs3,hf,hon,hin⟩:=hs c w' O' I' hc hn
   refine⟨fun b=>O1 b∨O3 b,fun b=>I1 b∨I3 b,⟨O1,I1,O3,I3,x.fr h1 hf h3.2,hs3,⟨fun b hb=> ?_,fun b hb=> ?_⟩,fun _=>Iff.rfl,fun _=>Iff.rfl⟩,?_,?_,?_⟩
   · have hlt := x.lt h1 b (.inl hb)
     refine⟨fun h=> ?_,fun h=> ?_⟩
     · rcases hon b h with h | h
       · exact(h3.1 b hb).1 h
       · omega
     · rcases hin b h with h | h | h
       · exact(h3.1 b hb).2 h
       · exact hJ b ((h4 b).2 (.inl hb)) h
       · omega
   · rcases hon b hb with h | h
     · exact h3.2 b h
     · exact⟨fun h'=>absurd (x.lt h1 b (.inl h')) (by omega),fun h'=>absurd (x.lt h1 b (.inr h')) (by omega)⟩
   · exact hf.mono fun b hb=> .inl ((h4 b).2 (.inr hb))
   · rintro b (hb | hb)
     · exact .inl ((h4 b).2 (.inl hb))
     · exact(hon b hb).imp (fun h=>(h4 b).2 (.inr h)) id
   · rintro b (hb | hb)
     · exact .inl ((h5 b).2 (.inl hb))
     · rcases hin b hb with h | h
       · exact .inl ((h5 b).2 (.inr h))
       · exact .inr h
theorem Sep.at_ {l:List Yf} {w:Y} (h:Sep l w) (i:Nat) {a:Yf} (hi:l[i]? =some a):
   ∃O I J,a.h w O I∧(∀b,I b→J b)∧(∀b,O b→¬J b)∧∀c w' O' I',c.h w' O' I'→Nxt w O J w' O' I'→Sep (l.set i c) w':=by
 obtain⟨O,I,hs⟩:=h
 obtain⟨O1,I1,h1,h2,h3,h4⟩:=hs.at_ (J:=I) hs.ap hi
 refine⟨O1,I1,I,h1,h3,fun b hb=>hs.ap b (h2 b hb),fun c w' O' I' hc hn=> ?_⟩
 obtain⟨O2,I2,h5,-⟩:=h4 c w' O' I' hc hn
 exact⟨O2,I2,h5⟩
theorem Sep.get {l:List Yf} {w:Y} (h:Sep l w) (i:Nat) {a:Yf} (hi:l[i]? =some a):∃O I,a.h w O I:=by
 obtain⟨O,I,J,h,-⟩:=h.at_ i hi;exact⟨O,I,h⟩
theorem Sep.quiet {l:List Yf} {w w':Y} {M:Ux} (h:Sep l w) (hf:Fr M w w') (hm:∀b,M b→w.heap.size≤b):Sep l w':=by
 obtain⟨O,I,hs⟩:=h
 exact⟨O,I,hs.fr hf fun b hb=>⟨fun h'=>absurd (hs.lt b (.inl h')) (by have:=hm b hb;omega),fun h'=>absurd (hs.lt b (.inr h')) (by have:=hm b hb;omega)⟩⟩
theorem Sep.q {l:List Yf} {w w':Y} (h:Sep l w) (hf:Fr (fun _=>False) w w'):Sep l w':=h.quiet hf fun b hb=>hb.elim
theorem Sep.new {l:List Yf} {w w':Y} {M:Ux} {a:Yf} {O' I':Ux} (h:Sep l w) (hf:Fr M w w') (hm:∀b,M b→w.heap.size≤b) (ha:a.h w' O' I') (ho:∀b,O' b→w.heap.size≤b) (hi:∀b,I' b→w.heap.size≤b):Sep (a::l) w':=by
 obtain⟨O,I,hs⟩:=h
 refine⟨_,_,O',I',O,I,ha,hs.fr hf fun b hb=>⟨fun h'=>absurd (hs.lt b (.inl h')) (by have:=hm b hb;omega),fun h'=>absurd (hs.lt b (.inr h')) (by have:=hm b hb;omega)⟩,⟨fun b hb=> ?_,fun b hb=> ?_⟩,fun _=>Iff.rfl,fun _=>Iff.rfl⟩
 ·have:=ho b hb
  exact⟨fun h'=>absurd (hs.lt b (.inl h')) (by omega),fun h'=>absurd (hs.lt b (.inr h')) (by omega)⟩
 ·have:=hs.lt b (.inl hb)
  exact⟨fun h'=>absurd (ho b h') (by omega),fun h'=>absurd (hi b h') (by omega)⟩
theorem XJ.perm {w:Y} {l l':List Yf} (hp:l.Perm l'):∀ {O I:Ux},XJ l w O I→XJ l' w O I:=by
 induction hp with
 |nil=>exact fun h=>h
 |cons a _ ih=>exact fun⟨O1,I1,O2,I2,h1,h2,h3⟩=>⟨O1,I1,O2,I2,h1,ih h2,h3⟩
 |trans _ _ ih1 ih2=>exact fun h=>ih2 (ih1 h)
 |swap a b l=>
  rintro O I ⟨O1,I1,O2,I2,h1,⟨O3,I3,O4,I4,k1,k2,k3,k4,k5⟩,h3,h4,h5⟩
  refine⟨O3,I3,fun b=>O1 b∨O4 b,fun b=>I1 b∨I4 b,k1,⟨O1,I1,O4,I4,h1,k2,⟨fun b hb=> ?_,fun b hb=> ?_⟩,fun _=>Iff.rfl,fun _=>Iff.rfl⟩,⟨fun b hb=> ?_,fun b hb=> ?_⟩,fun b=> ?_,fun b=> ?_⟩
  ·exact⟨fun h=>(h3.1 b hb).1 ((k4 b).2 (.inr h)),fun h=>(h3.1 b hb).2 ((k5 b).2 (.inr h))⟩
  ·exact h3.2 b ((k4 b).2 (.inr hb))
  ·have e:=h3.2 b ((k4 b).2 (.inl hb))
   exact⟨fun h=>h.elim e.1 (k3.1 b hb).1,fun h=>h.elim e.2 (k3.1 b hb).2⟩
  ·rcases hb with hb|hb
   ·exact⟨fun h=>(h3.1 b hb).1 ((k4 b).2 (.inl h)),fun h=>(h3.1 b hb).2 ((k5 b).2 (.inl h))⟩
   ·exact k3.2 b hb
  ·rw[h4,k4];exact⟨fun h=>h.elim (fun h=> .inr (.inl h)) fun h=>h.elim .inl fun h=> .inr (.inr h),fun h=>h.elim (fun h=> .inr (.inl h)) fun h=>h.elim .inl fun h=> .inr (.inr h)⟩
  ·rw[h5,k5];exact⟨fun h=>h.elim (fun h=> .inr (.inl h)) fun h=>h.elim .inl fun h=> .inr (.inr h),fun h=>h.elim (fun h=> .inr (.inl h)) fun h=>h.elim .inl fun h=> .inr (.inr h)⟩
theorem Sep.perm {w:Y} {l l':List Yf} (h:Sep l w) (hp:l.Perm l'):Sep l' w:=by obtain⟨O,I,h⟩:=h;exact⟨O,I,h.perm hp⟩
theorem Sep.drop {w:Y} {l:List Yf} {a:Yf} (h:Sep (a::l) w):Sep l w:=by obtain⟨O,I,O1,I1,O2,I2,h1,h2,_⟩:=h;exact⟨_,_,h2⟩
def star (a b:Yf):Yf where
 h w O I:=∃O1 I1 O2 I2,a.h w O1 I1∧b.h w O2 I2∧G6 O1 I1 O2 I2∧(∀b,O b↔O1 b∨O2 b)∧∀b,I b↔I1 b∨I2 b
 fr:=fun⟨O1,I1,O2,I2,h1,h2,h3,h4,h5⟩ hf hm=>⟨O1,I1,O2,I2,a.fr h1 hf fun b hb=>⟨fun h=>(hm b hb).1 ((h4 b).2 (.inl h)),fun h=>(hm b hb).2 ((h5 b).2 (.inl h))⟩,
  b.fr h2 hf (fun b hb=>⟨fun h=>(hm b hb).1 ((h4 b).2 (.inr h)),fun h=>(hm b hb).2 ((h5 b).2 (.inr h))⟩),h3,h4,h5⟩
 lt:=fun⟨O1,I1,O2,I2,h1,h2,h3,h4,h5⟩ x hx=>by
  rcases hx with hx|hx
  ·exact((h4 x).1 hx).elim (fun h=>a.lt h1 x (.inl h)) fun h=>b.lt h2 x (.inl h)
  ·exact((h5 x).1 hx).elim (fun h=>a.lt h1 x (.inr h)) fun h=>b.lt h2 x (.inr h)
 ap:=fun⟨O1,I1,O2,I2,h1,h2,h3,h4,h5⟩ x hx hi=>by
  rcases (h4 x).1 hx with h|h<;>rcases (h5 x).1 hi with k|k
  ·exact a.ap h1 x h k
  ·exact(h3.1 x h).2 k
  ·exact(h3.2 x h).2 k
  ·exact b.ap h2 x h k
theorem Sep.Mf {w:Y} {l:List Yf} {a b:Yf} (h:Sep (star a b::l) w):Sep (a::b::l) w:=by
 obtain⟨O,I,O1,I1,O2,I2,⟨O3,I3,O4,I4,k1,k2,k3,k4,k5⟩,h2,h3,h4,h5⟩:=h
 refine⟨O,I,O3,I3,fun x=>O4 x∨O2 x,fun x=>I4 x∨I2 x,k1,⟨O4,I4,O2,I2,k2,h2,⟨fun x hx=>h3.1 x ((k4 x).2 (.inr hx)),fun x hx=>⟨fun h=>(h3.2 x hx).1 ((k4 x).2 (.inr h)),fun h=>(h3.2 x hx).2 ((k5 x).2 (.inr h))⟩⟩,fun _=>Iff.rfl,fun _=>Iff.rfl⟩,⟨fun x hx=> ?_,fun x hx=> ?_⟩,fun x=> ?_,fun x=> ?_⟩
 ·have e:=h3.1 x ((k4 x).2 (.inl hx))
  exact⟨fun h=>h.elim (k3.1 x hx).1 e.1,fun h=>h.elim (k3.1 x hx).2 e.2⟩
 ·rcases hx with hx|hx
  ·exact k3.2 x hx
  ·exact⟨fun h=>(h3.2 x hx).1 ((k4 x).2 (.inl h)),fun h=>(h3.2 x hx).2 ((k5 x).2 (.inl h))⟩
 ·rw[h4,k4];exact or_assoc
 ·rw[h5,k5];exact or_assoc
def Xk (W:Y):Yf where
 h w O I:=Fr (fun _=>False) W w∧(∀b,¬O b)∧∀b,I b↔b<W.heap.size
 fr:=fun⟨h1,h2,h3⟩ hf hm=>⟨h1.trans hf fun b hb=> .inr (by have:=(hm b hb).2;rw[h3] at this;omega),h2,h3⟩
 lt:=fun⟨h1,h2,h3⟩ b hb=>hb.elim (fun h=>absurd h (h2 b)) fun h=>Nat.lt_of_lt_of_le ((h3 b).1 h) h1.size
 ap:=fun⟨h1,h2,h3⟩ b hb=>absurd hb (h2 b)
theorem Sep.base (W:Y):Sep [Xk W] W:=
 ⟨fun _=>False,fun b=>b<W.heap.size,fun _=>False,fun b=>b<W.heap.size,fun _=>False,fun _=>False,⟨Fr.refl _ _,fun _ h=>h,fun _=>Iff.rfl⟩,⟨fun _ h=>h,fun _ h=>h⟩,⟨fun b h=>h.elim,fun b h=>h.elim⟩,fun b=>by simp,fun b=>by simp⟩
theorem Sep.VX {W w:Y} {l:List Yf} (h:Sep l w) (i:Nat) (hi:l[i]? =some (Xk W)):Fr (fun _=>False) W w:=by
 obtain⟨O,I,h⟩:=h.get i hi;exact h.1
def Cells (b:Nat) (cs:Array V) (t:TypeId):Yf where
 h w O I:=w.heap[b]? =some (.cells cs t (0,0))∧(∀x,O x↔x=b)∧∀x,¬I x
 fr:=fun⟨h1,h2,h3⟩ hf hm=>⟨hf.get h1 fun h=>(hm b h).1 ((h2 b).2 rfl),h2,h3⟩
 lt:=fun⟨h1,h2,h3⟩ x hx=>hx.elim (fun h=>(h2 x).1 h▸ZS h1) fun h=>absurd h (h3 x)
 ap:=fun⟨h1,h2,h3⟩ x _=>h3 x
theorem Sep.cells {w:Y} {l:List Yf} (h:Sep l w) (i:Nat) {b:Nat} {cs:Array V} {t:TypeId} (hi:l[i]? =some (Cells b cs t)):w.heap[b]? =some (.cells cs t (0,0)):=by
 obtain⟨O,I,h,_⟩:=h.get i hi;exact h
theorem Sep.set {w:Y} {l:List Yf} (h:Sep l w) (i:Nat) {b:Nat} {cs:Array V} {t:TypeId} (hi:l[i]? =some (Cells b cs t)) (j:Nat) (u:V):Sep (l.set i (Cells b (cs.setIfInBounds j u) t)) (w.setCell ⟨b,j,none⟩ u):=by
 obtain⟨O,I,J,⟨h1,h2,h3⟩,-,-,hs⟩:=h.at_ i hi
 exact hs _ _ O I ⟨Z6 h1 j u,h2,h3⟩ ⟨(Fr.setCell w ⟨b,j,none⟩ u).mono fun x hx=> .inl ((h2 x).2 hx),fun x=> .inl,fun x hx=>absurd hx (h3 x)⟩
theorem Sep.cell {w:Y} {l:List Yf} (h:Sep l w) (cs:Array V) (t:TypeId):Sep (Cells w.heap.size cs t::l) (w.alloc (.cells cs t)):=
 h.new (Fr.alloc (fun _=>False) w _) (fun b hb=>hb.elim) (O':=fun x=>x=w.heap.size) (I':=fun _=>False) ⟨Z2 _ _,fun _=>Iff.rfl,fun _ h=>h⟩ (fun b hb=>by omega) fun b hb=>hb.elim
theorem XJ.apart {w:Y} {a b:Yf}:∀ {l:List Yf} {O I:Ux} {i j:Nat},XJ l w O I→i<j→l[i]? =some a→l[j]? =some b→∃O1 I1 O2 I2,a.h w O1 I1∧b.h w O2 I2∧(∀x,O1 x→¬O2 x∧¬I2 x)∧(∀x,O2 x→¬O1 x∧¬I1 x)
 | [],_,_,_,_,_,_,h,_=>by simp at h
 |x::r,O,I,_,0,_,h,_,_=>by omega
 |x::r,O,I,0,j+1,⟨Oa,Ia,Ob,Ib,h1,h2,h3,h4,h5⟩,_,hi,hj=>by
  simp at hi;subst hi
  obtain⟨O2,I2,g1,g2,g3,_⟩:=h2.at_ (J:=fun _=>False) (i:=j) (a:=b) (fun _ _ h=>h) (by simpa using hj)
  exact⟨Oa,Ia,O2,I2,h1,g1,fun x hx=>⟨fun h=>(h3.1 x hx).1 (g2 x h),fun h=>(h3.1 x hx).2 (g3 x h)⟩,fun x hx=>h3.2 x (g2 x hx)⟩
 |x::r,O,I,i+1,j+1,⟨Oa,Ia,Ob,Ib,h1,h2,h3,h4,h5⟩,hlt,hi,hj=>XJ.apart (i:=i) (j:=j) h2 (by omega) (by simpa using hi) (by simpa using hj)
theorem Sep.apart {w:Y} {l:List Yf} (h:Sep l w) (i j:Nat) {a b:Yf} (hij:i≠j) (hi:l[i]? =some a) (hj:l[j]? =some b):
   ∃O1 I1 O2 I2,a.h w O1 I1∧b.h w O2 I2∧(∀x,O1 x→¬O2 x∧¬I2 x)∧(∀x,O2 x→¬O1 x∧¬I1 x):=by
 obtain⟨O,I,h⟩:=h
 rcases Nat.lt_or_ge i j with hlt|hge
 · exact h.apart hlt hi hj
 · obtain ⟨O1,I1,O2,I2,g1,g2,g3,g4⟩ := h.apart (i := j) (j := i) (by omega) hj hi
   exact⟨O2,I2,O1,I1,g2,g1,g4,g3⟩
theorem XJ.at2 {w:Y} {J:Ux} {a b:Yf}:∀ {l:List Yf} {i j:Nat} {O I:Ux},XJ l w O I→(∀b,O b→¬J b)→i≠j→l[i]? =some a→l[j]? =some b→
   ∃O1 I1 O2 I2,a.h w O1 I1∧b.h w O2 I2∧(∀x,O1 x→¬O2 x∧¬I2 x)∧(∀x,O2 x→¬O1 x∧¬I1 x)∧(∀b,O1 b→O b)∧(∀b,I1 b→I b)∧∀c w' O' I',c.h w' O' I'→Nxt w O1 J w' O' I'→∃O3 I3,XJ (l.set i c) w' O3 I3∧Fr O w w'∧(∀b,O3 b→O b∨w.heap.size≤b)∧∀b,I3 b→I b∨J b∨w.heap.size≤b
 | [],_,_,_,_,_,_,_,h,_=>by simp at h
 |x::l,0,0,_,_,_,_,h,_,_=>absurd rfl h
 | x :: l,0,j + 1,O,I,hs,hJ,_,hi,hj => by
   have hs0:=hs
   obtain⟨Oa,Ia,Ob,Ib,h1,h2,h3,h4,h5⟩:=hs
   simp at hi;subst hi
   obtain⟨O2,I2,g1,g2,g3,_⟩:=h2.at_ (J:=fun _=>False) (i:=j) (a:=b) (fun _ _ h=>h) (by simpa using hj)
   refine⟨Oa,Ia,O2,I2,h1,g1,fun x hx=>⟨fun h=>(h3.1 x hx).1 (g2 x h),fun h=>(h3.1 x hx).2 (g3 x h)⟩,fun x hx=>h3.2 x (g2 x hx),fun b hb=>(h4 b).2 (.inl hb),fun b hb=>(h5 b).2 (.inl hb),fun c w' O' I' hc hn=> ?_⟩
   refine⟨fun b=>O' b∨Ob b,fun b=>I' b∨Ib b,⟨O',I',Ob,Ib,hc,XJ.fr hn.fr h2 h3.1,⟨fun b hb=> ?_,fun b hb=> ?_⟩,fun _=>Iff.rfl,fun _=>Iff.rfl⟩,?_,?_,?_⟩
   · rcases hn.on b hb with h | h
     · exact h3.1 b h
     · exact⟨fun h'=>absurd (h2.lt b (.inl h')) (by omega),fun h'=>absurd (h2.lt b (.inr h')) (by omega)⟩
   · have hlt := h2.lt b (.inl hb)
     refine⟨fun h=> ?_,fun h=> ?_⟩
     · rcases hn.on b h with h | h
       · exact(h3.1 b h).1 hb
       · omega
     · rcases hn.in_ b h with h | h
       · exact hJ b ((h4 b).2 (.inr hb)) h
       · omega
   · exact hn.fr.mono fun b hb=> .inl ((h4 b).2 (.inl hb))
   · rintro b (hb | hb)
     · exact(hn.on b hb).imp (fun h=>(h4 b).2 (.inl h)) id
     · exact .inl ((h4 b).2 (.inr hb))
   · rintro b (hb | hb)
     · exact .inr (hn.in_ b hb)
     · exact .inl ((h5 b).2 (.inr hb))
 | x :: l,i + 1,j,O,I,⟨O1,I1,O2,I2,h1,h2,h3,h4,h5⟩,hJ,hij,hi,hj => by
   have main:∀Oa Ia,a.h w Oa Ia→(∀b,Oa b→O2 b)→(∀b,Ia b→I2 b)→(∀c w' O' I',c.h w' O' I'→Nxt w Oa J w' O' I'→∃O3 I3,XJ (l.set i c) w' O3 I3∧Fr O2 w w'∧(∀b,O3 b→O2 b∨w.heap.size≤b)∧∀b,I3 b→I2 b∨J b∨w.heap.size≤b)→
       ∀c w' O' I',c.h w' O' I'→Nxt w Oa J w' O' I'→∃O3 I3,XJ ((x::l).set (i+1) c) w' O3 I3∧Fr O w w'∧(∀b,O3 b→O b∨w.heap.size≤b)∧∀b,I3 b→I b∨J b∨w.heap.size≤b:=by
     intro Oa Ia ha ho hi2 hs c w' O' I' hc hn
     obtain⟨O3,I3,hs3,hf,hon,hin⟩:=hs c w' O' I' hc hn
     refine⟨fun b=>O1 b∨O3 b,fun b=>I1 b∨I3 b,⟨O1,I1,O3,I3,x.fr h1 hf h3.2,hs3,⟨fun b hb=> ?_,fun b hb=> ?_⟩,fun _=>Iff.rfl,fun _=>Iff.rfl⟩,?_,?_,?_⟩
     · have hlt := x.lt h1 b (.inl hb)
       refine⟨fun h=> ?_,fun h=> ?_⟩
       · rcases hon b h with h | h
         · exact(h3.1 b hb).1 h
         · omega
       · rcases hin b h with h | h | h
         · exact(h3.1 b hb).2 h
         · exact hJ b ((h4 b).2 (.inl hb)) h
         · omega
     · rcases hon b hb with h | h
       · exact h3.2 b h
       · exact⟨fun h'=>absurd (x.lt h1 b (.inl h')) (by omega),fun h'=>absurd (x.lt h1 b (.inr h')) (by omega)⟩
     · exact hf.mono fun b hb=> .inl ((h4 b).2 (.inr hb))
     · rintro b (hb | hb)
       · exact .inl ((h4 b).2 (.inl hb))
       · exact(hon b hb).imp (fun h=>(h4 b).2 (.inr h)) id
     · rintro b (hb | hb)
       · exact .inl ((h5 b).2 (.inl hb))
       · rcases hin b hb with h | h
         · exact .inl ((h5 b).2 (.inr h))
         · exact .inr h
   cases j with
   | zero =>
     simp at hj;subst hj
     obtain⟨Oa,Ia,ha,ho,hi2,hs⟩:=h2.at_ (J:=J) (i:=i) (a:=a) (fun b hb=>hJ b ((h4 b).2 (.inr hb))) (by simpa using hi)
     exact⟨Oa,Ia,O1,I1,ha,h1,fun y hy=>h3.2 y (ho y hy),fun y hy=>⟨fun h=>(h3.1 y hy).1 (ho y h),fun h=>(h3.1 y hy).2 (hi2 y h)⟩,fun b hb=>(h4 b).2 (.inr (ho b hb)),fun b hb=>(h5 b).2 (.inr (hi2 b hb)),main Oa Ia ha ho hi2 hs⟩
   | succ j =>
     obtain⟨Oa,Ia,Oc,Ic,ha,hc,g1,g2,ho,hi2,hs⟩:=XJ.at2 (J:=J) (i:=i) (j:=j) h2 (fun b hb=>hJ b ((h4 b).2 (.inr hb))) (by omega) (by simpa using hi) (by simpa using hj)
     exact⟨Oa,Ia,Oc,Ic,ha,hc,g1,g2,fun b hb=>(h4 b).2 (.inr (ho b hb)),fun b hb=>(h5 b).2 (.inr (hi2 b hb)),main Oa Ia ha ho hi2 hs⟩
theorem Sep.at2 {l:List Yf} {w:Y} (h:Sep l w) (i j:Nat) {a b:Yf} (hij:i≠j) (hi:l[i]? =some a) (hj:l[j]? =some b):
   ∃O I O2 I2 J,a.h w O I∧b.h w O2 I2∧(∀x,O x→¬O2 x∧¬I2 x)∧(∀x,O2 x→¬O x∧¬I x)∧(∀b,I b→J b)∧(∀b,O b→¬J b)∧∀c w' O' I',c.h w' O' I'→Nxt w O J w' O' I'→Sep (l.set i c) w':=by
 obtain⟨O,I,hs⟩:=h
 obtain⟨O1,I1,O2,I2,h1,h2,g1,g2,h3,h4,h5⟩:=hs.at2 (J:=I) hs.ap hij hi hj
 refine⟨O1,I1,O2,I2,I,h1,h2,g1,g2,h4,fun b hb=>hs.ap b (h3 b hb),fun c w' O' I' hc hn=> ?_⟩
 obtain⟨O3,I3,h6,-⟩:=h5 c w' O' I' hc hn
 exact⟨O3,I3,h6⟩
theorem UL {α:Type}:∀ {l:List α} {i:Nat} {a:α},l[i]? =some a→l.Perm (a::l.eraseIdx i)
 | [],_,_,h=>by simp at h
 |x::l,0,a,h=>by simp at h;subst h;exact .refl _
 |x::l,i+1,a,h=>(List.Perm.cons x (UL (l:=l) (i:=i) (by simpa using h))).trans (List.Perm.swap _ _ _)
theorem Sep.front {w:Y} {l:List Yf} (h:Sep l w) (i:Nat) {a:Yf} (hi:l[i]? =some a):Sep (a::l.eraseIdx i) w:=h.perm (UL hi)
theorem Sep.erase {w:Y} {l:List Yf} (h:Sep l w) (i:Nat) {a:Yf} (hi:l[i]? =some a):Sep (l.eraseIdx i) w:=(h.front i hi).drop
theorem Sep.left {w:Y} {l:List Yf} (h:Sep l w) (i:Nat) {a b:Yf} (hi:l[i]? =some (star a b)):Sep (l.set i a) w:=by
 obtain⟨O,I,J,⟨O1,I1,O2,I2,h1,h2,h3,h4,h5⟩,g1,g2,g3⟩:=h.at_ i hi
 exact g3 a w O1 I1 h1 ⟨Fr.refl _ _,fun b hb=> .inl ((h4 b).2 (.inl hb)),fun b hb=> .inl (g1 b ((h5 b).2 (.inl hb)))⟩
theorem Sep.right {w:Y} {l:List Yf} (h:Sep l w) (i:Nat) {a b:Yf} (hi:l[i]? =some (star a b)):∃O I,b.h w O I:=by
 obtain⟨O,I,⟨O1,I1,O2,I2,h1,h2,_⟩⟩:=h.get i hi
 exact⟨O2,I2,h2⟩
end Go.Proofs.XSep
namespace Go.Proofs.XSlices
open Go Go.RowKit Go.Proofs.XRed Go.Proofs.XHeap
section
variable {w:Y} {base size n:Nat} {e:TypeId} {v:V} {xs:List V}
theorem Xh (h:w.ownsRow base e size v n xs) {i:Nat} (hi:i<n*size):
   ∃g cap cur,v= .slice (some ⟨g,0,none⟩) n cap∧n≤cap∧base≤g∧w.heap[g]? =some (.cells cur e (0,0))∧i<cur.size∧cur[i]? =xs[i]?∧∀u,(w.setCell ⟨g,i,none⟩ u).ownsRow base e size v n (xs.set i u):=by
 obtain⟨hl,h2⟩:=h
 rcases h2 with ⟨_,h0⟩|⟨g,cap,cur,hv,hb,hg,hnc,hcm,hcs,ht⟩
 · subst h0;omega
 · have hle : n * size ≤ cap * size := Nat.mul_le_mul_right _ hnc
   refine⟨g,cap,cur,hv,hnc,hb,hg,by omega,?_,fun u=>⟨by simp[hl],.inr ⟨g,cap,cur.setIfInBounds i u,hv,hb,Z6 hg i u,hnc,hcm,by simp[hcs],?_⟩⟩⟩
   · rw[←ht,List.getElem?_take_of_lt hi];simp
   · rw[Array.toList_setIfInBounds,List.take_set,ht]
theorem G7 {w:Y} {g:Nat} {cs:Array V} {e:TypeId} {n:Nat} (hg:w.heap[g]? =some (.cells cs e (0,0))) (hb:base≤g) (hn:n≤maxLen) (hs:cs.size=n*size):w.ownsRow base e size (.slice (some ⟨g,0,none⟩) n n) n cs.toList:=
 ⟨by simp[hs],.inr ⟨g,n,cs,rfl,hb,hg,Nat.le_refl _,hn,hs,by rw[List.take_of_length_le];simp[hs]⟩⟩
end
theorem zex {P:Program} {w:Y} {k:KV} {t:TypeId} {b o m:Nat} {vs:List V} (hag:(isAgg t).run P w= .ok true w) (hsz:(sizeOf t).run P w= .ok m w) (hm:vs.length=m) (h:∀(j:Nat) (u:V),vs[j]? =some u→w.cell? ⟨b,o+j,none⟩=some u)
   (hk:k (.agg vs.toArray) w):px P (Instr.loadAt t (.pointer (some ⟨b,o,none⟩))) w k:=by
 refine Z9 (w':=w) ?_ hk
 have:=run_loadCells_list (P:=P) w ⟨b,o,none⟩ vs (fun j v hj=>by rw[Xv];exact h j v hj)
 rw[hm] at this
 simp[Instr.loadAt,Instr.sureAddr,loadVar,hag,hsz,this,Result.andThen]
theorem Um {P:Program} {w:Y} {t te:TypeId} {x:V} {n m size:Nat} {cs vs:List V} {i:Nat} {kk:V→KV} (h:P.underlying t=some (.slice (P.elem t))) (hs:(sizeOf (P.elem t)).run P w= .ok size w) (hag:(isAgg te).run P w= .ok true w) (hsz:(sizeOf te).run P w= .ok size w)
   (hS:Src w x size n cs) (hi:i<n) (h0:0<size) (hvs:vs.length=size) (hc:∀j,j<size→cs[i*size+j]? =vs[j]?) (hk:∀p,kk p (.agg vs.toArray) w):
   px P (Instr.indexAt t x (.int .i64 i)) w fun p w=>px P (Instr.loadAt te p) w (kk p):=by
 obtain⟨b,o,c,e,hp⟩:=hS.place hi h0
 subst e
 refine Vu (i:=(i:Int)) h hs (by omega) (by omega) ?_
 refine zex hag hsz hvs (fun j u hj=> ?_) (hk _)
 have hj':j<size:=by rw[←hvs];exact(List.getElem?_eq_some_iff.1 hj).1
 have:=hp j u hj' ((hc j hj').trans hj)
 simpa using this
end Go.Proofs.XSlices
namespace Go.Proofs.XSep
open Go Go.RowKit Go.Proofs.XRed Go.Proofs.XHeap Go.Proofs.XSlices
def Bag (l:List Yf):Yf where
 h w O I:=XJ l w O I
 fr:=fun h hf hm=>h.fr hf hm
 lt:=fun h=>h.lt
 ap:=fun h=>h.ap
theorem XJ.app {w:Y} {r:List Yf}:∀ {l:List Yf} {O1 I1 O2 I2 O I:Ux},XJ l w O1 I1→XJ r w O2 I2→G6 O1 I1 O2 I2→(∀b,O b↔O1 b∨O2 b)→(∀b,I b↔I1 b∨I2 b)→XJ (l++r) w O I
 | [],O1,I1,O2,I2,O,I,h1,h2,h3,h4,h5=>by
  have e1:O=O2:=by funext b;exact propext ((h4 b).trans ⟨fun h=>h.elim (fun h=>absurd h (h1.1 b)) id,.inr⟩)
  have e2:I=I2:=by funext b;exact propext ((h5 b).trans ⟨fun h=>h.elim (fun h=>absurd h (h1.2 b)) id,.inr⟩)
  subst e1 e2;exact h2
 |a::l,O1,I1,O2,I2,O,I,⟨Oa,Ia,Ob,Ib,g1,g2,g3,g4,g5⟩,h2,h3,h4,h5=>by
  refine⟨Oa,Ia,fun b=>Ob b∨O2 b,fun b=>Ib b∨I2 b,g1,XJ.app (l:=l) g2 h2 ⟨fun b hb=>h3.1 b ((g4 b).2 (.inr hb)),fun b hb=>⟨fun h=>(h3.2 b hb).1 ((g4 b).2 (.inr h)),fun h=>(h3.2 b hb).2 ((g5 b).2 (.inr h))⟩⟩ (fun _=>Iff.rfl) fun _=>Iff.rfl,⟨fun b hb=>⟨fun h=> ?_,fun h=> ?_⟩,fun b hb=> ?_⟩,fun b=> ?_,fun b=> ?_⟩
  ·rcases h with h|h
   ·exact(g3.1 b hb).1 h
   ·exact(h3.1 b ((g4 b).2 (.inl hb))).1 h
  ·rcases h with h|h
   ·exact(g3.1 b hb).2 h
   ·exact(h3.1 b ((g4 b).2 (.inl hb))).2 h
  ·rcases hb with hb|hb
   ·exact g3.2 b hb
   ·exact⟨fun h=>(h3.2 b hb).1 ((g4 b).2 (.inl h)),fun h=>(h3.2 b hb).2 ((g5 b).2 (.inl h))⟩
  ·rw[h4,g4];exact or_assoc
  ·rw[h5,g5];exact or_assoc
theorem XJ.split {w:Y} {r:List Yf}:∀ {l:List Yf} {O I:Ux},XJ (l++r) w O I→∃O1 I1 O2 I2,XJ l w O1 I1∧XJ r w O2 I2∧G6 O1 I1 O2 I2∧(∀b,O b↔O1 b∨O2 b)∧∀b,I b↔I1 b∨I2 b
 | [],O,I,h=>⟨fun _=>False,fun _=>False,O,I,⟨fun _ h=>h,fun _ h=>h⟩,h,⟨fun b h=>h.elim,fun b hb=>⟨fun h=>h,fun h=>h⟩⟩,fun b=>by simp,fun b=>by simp⟩
 |a::l,O,I,⟨Oa,Ia,Ob,Ib,g1,g2,g3,g4,g5⟩=>by
  obtain⟨O1,I1,O2,I2,h1,h2,h3,h4,h5⟩:=XJ.split (l:=l) g2
  refine⟨fun b=>Oa b∨O1 b,fun b=>Ia b∨I1 b,O2,I2,⟨Oa,Ia,O1,I1,g1,h1,⟨fun b hb=>⟨fun h=>(g3.1 b hb).1 ((h4 b).2 (.inl h)),fun h=>(g3.1 b hb).2 ((h5 b).2 (.inl h))⟩,fun b hb=>g3.2 b ((h4 b).2 (.inl hb))⟩,fun _=>Iff.rfl,fun _=>Iff.rfl⟩,h2,⟨fun b hb=> ?_,fun b hb=>⟨fun h=> ?_,fun h=> ?_⟩⟩,fun b=> ?_,fun b=> ?_⟩
  ·rcases hb with hb|hb
   ·exact⟨fun h=>(g3.1 b hb).1 ((h4 b).2 (.inr h)),fun h=>(g3.1 b hb).2 ((h5 b).2 (.inr h))⟩
   ·exact h3.1 b hb
  ·rcases h with h|h
   ·exact(g3.2 b ((h4 b).2 (.inr hb))).1 h
   ·exact(h3.2 b hb).1 h
  ·rcases h with h|h
   ·exact(g3.2 b ((h4 b).2 (.inr hb))).2 h
   ·exact(h3.2 b hb).2 h
  ·rw[g4,h4];exact or_assoc.symm
  ·rw[g5,h5];exact or_assoc.symm
theorem Sep.vj {w:Y} {l r:List Yf} (h:Sep (Bag l::r) w):Sep (l++r) w:=by
 obtain⟨O,I,O1,I1,O2,I2,h1,h2,h3,h4,h5⟩:=h
 exact⟨O,I,XJ.app h1 h2 h3 h4 h5⟩
theorem Sep.bag {w:Y} {l r:List Yf} (h:Sep (l++r) w):Sep (Bag l::r) w:=by
 obtain⟨O,I,h⟩:=h
 obtain⟨O1,I1,O2,I2,h1,h2,h3,h4,h5⟩:=h.split
 exact⟨O,I,O1,I1,O2,I2,h1,h2,h3,h4,h5⟩
theorem set_perm {α:Type}:∀ {l:List α} {i:Nat} (a:α),i<l.length→(l.set i a).Perm (a::l.eraseIdx i)
 | [],_,_,h=>by simp at h
 |x::l,0,a,_=> .refl _
 |x::l,i+1,a,h=>(List.Perm.cons x (set_perm (l:=l) (i:=i) a (by simpa using h))).trans (List.Perm.swap _ _ _)
theorem Sep.pick {w:Y} {l r:List Yf} {i:Nat} {a:Yf} (h:Sep (Bag l::r) w) (hi:l[i]? =some a):Sep (a::Bag (l.eraseIdx i)::r) w:=by
 have h1:=h.vj
 have h2:Sep (l.eraseIdx i++(a::r)) w:=h1.perm (((UL hi).append_right r).trans List.perm_middle.symm)
 exact(h2.bag).perm (List.Perm.swap _ _ _)
theorem Sep.D8 {w:Y} {l r:List Yf} {i:Nat} {a:Yf} (hi:i<l.length) (h:Sep (a::Bag (l.eraseIdx i)::r) w):Sep (Bag (l.set i a)::r) w:=by
 have h1:Sep (Bag (l.eraseIdx i)::a::r) w:=h.perm (List.Perm.swap _ _ _)
 have h2:=h1.vj
 exact(h2.perm (List.perm_middle.trans ((set_perm a hi).symm.append_right r))).bag
theorem Sep.more {w:Y} {l r:List Yf} {a:Yf} (h:Sep (a::Bag l::r) w):Sep (Bag (l++[a])::r) w:=by
 have h1:Sep (Bag l::a::r) w:=h.perm (List.Perm.swap _ _ _)
 have h2:=h1.vj
 have:Sep ((l++[a])++r) w:=by simpa using h2
 exact this.bag
theorem Sep.E0 {w:Y} {r:List Yf} (h:Sep r w):Sep (Bag []::r) w:=Sep.bag (l:=[]) h
def Zz (te sz:Nat) (v:V) (n:Nat) (cs:List V):Yf where
 h w O I:=w.ownsRow 0 te sz v n cs∧(∀b,O b↔Zv v=some b)∧∀b,¬I b
 fr:=fun⟨h1,h2,h3⟩ hf hm=>⟨Z4 h1 hf fun b hb h=>(hm b h).1 ((h2 b).2 hb),h2,h3⟩
 lt:=fun⟨h1,h2,h3⟩ b hb=>hb.elim (fun h=>(Zu h1 ((h2 b).1 h)).2) fun h=>absurd h (h3 b)
 ap:=fun⟨_,_,h3⟩ b _=>h3 b
def zcj (v:V) (n:Nat):Prop:=(v= .slice none 0 0∧n=0)∨∃b c,v= .slice (some ⟨b,0,none⟩) n c∧n≤c
theorem zcj.Zt {w:Y} {base te sz n:Nat} {v:V} {cs:List V} (h:w.ownsRow base te sz v n cs):zcj v n:=by
 rcases h.2 with ⟨rfl,rfl⟩|⟨g,cap,cur,rfl,_,_,hn,_⟩
 ·exact .inl ⟨rfl,rfl⟩
 ·exact .inr ⟨g,cap,rfl,hn⟩
def Cg (te sz:Nat) (lv gv:V) (n m:Nat) (cl cg:List V):Yf where
 h w O I:=w.ownsRow 0 te sz gv (n+m) (cl++cg)∧Src w lv sz n cl∧zcj lv n∧(∀b,O b↔Zv gv=some b∨Zv lv=some b)∧(∀b,Zv lv=some b→b<w.heap.size)∧(0<sz)∧∀b,¬I b
 fr:=fun⟨h1,h2,h3,h4,h5,h6,h7⟩ hf hm=>⟨Z4 h1 hf fun b hb h=>(hm b h).1 ((h4 b).2 (.inl hb)),h2.fr h6 hf fun b hb h=>(hm b h).1 ((h4 b).2 (.inr hb)),h3,h4,fun b hb=>Nat.lt_of_lt_of_le (h5 b hb) hf.size,h6,h7⟩
 lt:=fun⟨h1,h2,h3,h4,h5,h6,h7⟩ b hb=>hb.elim (fun h=>((h4 b).1 h).elim (fun h=>(Zu h1 h).2) (h5 b)) fun h=>absurd h (h7 b)
 ap:=fun⟨_,_,_,_,_,_,h7⟩ b _=>h7 b
theorem Cg.Zt {te sz n:Nat} {v:V} {cs:List V} {w:Y} {O I:Ux} (h:(Zz te sz v n cs).h w O I) (hs:0<sz):(Cg te sz v v n 0 cs []).h w O I:=by
 obtain⟨h1,h2,h3⟩:=h
 exact⟨by rw[List.append_nil];exact h1,Src.Zt h1,zcj.Zt h1,fun b=>(h2 b).trans ⟨.inl,fun h=>h.elim id id⟩,fun b hb=>(Zu h1 hb).2,hs,h3⟩
theorem Sep.ent {te sz n:Nat} {v:V} {cs:List V} {w:Y} {l:List Yf} (h:Sep (Zz te sz v n cs::l) w) (hs:0<sz):Sep (Cg te sz v v n 0 cs []::l) w:=by
 obtain⟨O,I,O1,I1,O2,I2,h1,h2⟩:=h
 exact⟨O,I,O1,I1,O2,I2,Cg.Zt h1 hs,h2⟩
theorem Jm {P:Program} {w:Y} {t ty e:TypeId} {i:TypeInfo} {z:V} (ht:P.underlying t=some (.slice e)) (hi:P.info? e=some i) (hz:i.zero=some z)
   (hzs:z.cells.size=i.size) {v:V} {n m c:Nat} {xs news:List V} {a:Addr} (hown:w.ownsRow 0 e i.size v n xs)
   (hl:news.length=m*i.size) (hnews:∀j u,news[j]? =some u→w.cell? (a.add j)=some u) (h1:∀u∈news,u.oneCell'=true) (h0:0<m)
   (h63:n+m≤maxLen) (hbytes:(n+m)*i.bytes≤140737488355328):
   ∃ v' w',(Builtin.append_ #[t,t] ty #[v,.slice (some a) m c]).run P w = .ok v' w' ∧ w'.ownsRow 0 e i.size v' (n + m) (xs ++ news) ∧
     ((Zv v'=Zv v∧Fr (fun b=>some b=Zv v) w w')∨(Zv v'=some w.heap.size∧Fr (fun _=>False) w w')):=by
 have hlen:(xs++news).length=(n+m)*i.size:=by rw[List.length_append,hown.1,hl,Nat.add_mul]
 have hsm:n+m≤9223372036854775807:=by unfold maxLen at h63;omega
 have fresh:∀old:Nat,let cells:=xs.toArray++news.toArray++Builtin.zeroCells z.cells (grownCap w (n+m) old e-(n+m))
     (w.drew.alloc (.cells cells e)).ownsRow 0 e i.size (.slice (some ⟨w.heap.size,0,none⟩) (n+m) (grownCap w (n+m) old e)) (n+m) (xs++news)∧Fr (fun _=>False) w (w.drew.alloc (.cells cells e)):=by
   intro old
   have hge:=grownCap_ge w (n+m) old e
   refine⟨⟨hlen,.inr ⟨w.heap.size,_,_,rfl,Nat.zero_le _,heap_alloc_new w.drew _,hge,grownCap_le_maxLen w (n+m) old e h63,?_,?_⟩⟩,(Fr.drew _ w).trans (Fr.alloc _ w.drew _) fun b hb=> .inl hb⟩
   · simp only [Array.size_append,List.size_toArray,size_zeroCells,hzs,hown.1,hl,← Nat.add_mul]
     congr 1;omega
   · simp only [Array.toList_append,List.append_assoc]
     rw[←List.append_assoc,←hlen];exact List.take_left
 rcases hown.2 with ⟨rfl,rfl⟩|⟨g,cap,cur,rfl,hbg,hg,hnc,hcm,hcs,htake⟩
 · have hx : xs = [] := List.eq_nil_of_length_eq_zero (by simpa using hown.1)
   subst hx
   have hf:=fresh 0
   simp only[Nat.zero_add,List.nil_append,Array.empty_append] at hf hbytes hsm ⊢
   exact⟨_,_,run_append_nil (P:=P) w t ty e i z ht hi hz a m c news hl hnews h0 (by omega) (by omega),hf.1,.inr ⟨rfl,hf.2⟩⟩
 · by_cases hroom : n + m ≤ cap
   · have hfit : n * i.size + news.length ≤ cur.size := by rw [hl,hcs,← Nat.add_mul]; exact Nat.mul_le_mul_right _ hroom
     refine⟨_,_,run_append_room (P:=P) w t ty e i ht hi g n cap cur hg a m c news hl hnews h1 hroom hfit,⟨hlen,.inr ⟨g,cap,_,rfl,hbg,setRow_heap w g cur _ e _ hg,hroom,hcm,?_,?_⟩⟩,.inl ⟨rfl,?_⟩⟩
     · simp only[List.size_toArray,List.length_append,List.length_take,List.length_drop,Array.length_toList];omega
     · rw[htake,←hlen];exact List.take_left
     · exact(Go.Proofs.XCalls.Fr.setRow hg).mono fun b hb=> .inl (by show some b=some g;rw[show b=g from hb])
   · have holds : ∀ j u,xs[j]? = some u → w.cell? ((⟨g,0,none⟩ : Addr).add j) = some u := hown.cells (g := g) rfl
     exact⟨_,_,run_append_grow (P:=P) w t ty e i z ht hi hz ⟨g,0,none⟩ n cap xs hown.1 holds a m c news hl hnews (by omega) (by omega) (growslice_fits (by omega) hbytes),(fresh cap).1,.inr ⟨rfl,(fresh cap).2⟩⟩
theorem Sep.grow {P:Program} {w:Y} {t ty e:TypeId} {i:TypeInfo} {z:V} {sz:Nat} (ht:P.underlying t=some (.slice e)) (hi:P.info? e=some i) (hz:i.zero=some z) (hzs:z.cells.size=i.size) (hsz:i.size=sz)
   {l:List Yf} {ix:Nat} {lv gv x:V} {n m:Nat} {cl cg new:List V} (hS:Sep l w) (hix:l[ix]? =some (Cg e sz lv gv n m cl cg)) (hx:Src w x sz 1 new) (h1:∀u∈new,u.oneCell'=true)
   (h63:n+m+1≤maxLen) (hbytes:(n+m+1)*i.bytes≤140737488355328) {k:KV}
   (hk:∀gv' w',Sep (l.set ix (Cg e sz lv gv' n (m+1) cl (cg++new))) w'→(∀O I,(Cg e sz lv gv n m cl cg).h w O I→Fr O w w')→k gv' w'):px P (bSem .append #[t,t] ty #[gv,x]) w k:=by
 subst hsz
 obtain⟨O,I,J,hA,hI,hOJ,hs⟩:=hS.at_ ix hix
 obtain⟨g1,g2,g3,g4,g5,g6,g7⟩:=hA
 obtain⟨A,c,rfl,hc,hl,hr⟩:=hx
 obtain⟨b,o,rfl,hcell⟩:=hr (by omega)
 obtain⟨gv',w',hrun,ho,hcase⟩:=Jm (P:=P) (ty:=ty) (c:=c) (m:=1) ht hi hz hzs g1 (by simpa using hl) (fun j u hu=>by rw[Xv];exact hcell j u hu) h1 (by omega) (by omega) (by omega)
 have ho':w'.ownsRow 0 e i.size gv' (n+(m+1)) (cl++(cg++new)):=by rw[←List.append_assoc];exact ho
 have hz':w.heap.size≤w'.heap.size:=by rcases hcase with ⟨_,h⟩|⟨_,h⟩<;>exact h.size
 have hlen:cl.length=n*i.size:=by obtain⟨A,c,_,_,h,_⟩:=g2;exact h
 have hfr:Fr O w w':=by
   rcases hcase with ⟨_,h⟩|⟨_,h⟩
   · exact h.mono fun b hb=> .inl ((g4 b).2 (.inl hb.symm))
   · exact h.mono fun b hb=>hb.elim
 have hsrc:Src w' lv i.size n cl:=by
   rcases hcase with ⟨he,hf⟩|⟨_,hf⟩
   · by_cases hb : Zv   lv = Zv   gv ∧ 0 < n
     · rcases g3 with ⟨rfl,h0⟩ | ⟨b,c,rfl,hnc⟩
       · omega
       · refine ⟨_,c,rfl,hnc,hlen,fun _ => ⟨b,0,rfl,fun j u hj => ?_⟩⟩
         have hgb:Zv gv'=some b:=by rw[he,←hb.1];rfl
         rcases ho'.2 with ⟨rfl,_⟩|⟨g,cap,cur,rfl,_⟩
         · cases hgb
         · injection hgb with hgb
           have hgb:g=b:=hgb
           subst hgb
           have hjl:j<cl.length:=(List.getElem?_eq_some_iff.1 hj).1
           have:=ho'.cells (g:=g) rfl j u (by rw[List.getElem?_append_left hjl];exact hj)
           rwa [Xv] at this
     · by_cases hn : 0 < n
       · exact g2.fr g6 hf fun b hb' e=>hb ⟨hb'.trans e,hn⟩
       · obtain ⟨A,c,rfl,hc,hl,hr⟩ := g2
         exact⟨A,c,rfl,hc,hl,fun h=>absurd h hn⟩
   · exact g2.fr g6 hf fun b _ h=>h
 refine Z9 hrun (hk gv' w' (hs _ w' (fun b=>Zv gv'=some b∨Zv lv=some b) I ⟨ho',hsrc,g3,fun _=>Iff.rfl,fun b hb=>Nat.lt_of_lt_of_le (g5 b hb) hz',g6,g7⟩ ⟨hfr,?_,fun b hb=>absurd hb (g7 b)⟩) ?_)
 · rintro b (hb | hb)
   · rcases hcase with ⟨he,_⟩ | ⟨he,_⟩
     · exact .inl ((g4 b).2 (.inl (he▸hb)))
     · rw[he] at hb;injection hb with hb;exact .inr (by omega)
   · exact .inl ((g4 b).2 (.inr hb))
 · rintro O2 I2 ⟨_,_,_,q4,_⟩
   have:O2=O:=by funext b;exact propext ((q4 b).trans (g4 b).symm)
   subst this;exact hfr
end Go.Proofs.XSep
