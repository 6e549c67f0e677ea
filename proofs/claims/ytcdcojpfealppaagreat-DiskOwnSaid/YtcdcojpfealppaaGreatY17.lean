/- Put together by a program (wip/tools/shake.py): Twin. -/
import Derived.Test.YtcdcojpfealppaaGreatY16
import Derived.Test.YtcdcojpfealppaaGreatY14
set_option linter.unusedVariables false
set_option linter.unusedSimpArgs false
set_option maxRecDepth 100000
open Go renaming World → Y, Value → V
namespace Go.Proofs.YtcdcojpfealppaaGreat
open Go Go.Proofs Go.RowKit Go.Proofs.XRed Go.Proofs.XHeap Go.Proofs.XMaps Go.Proofs.XSlices Go.Proofs.XDisk Go.Proofs.XCalls Go.Proofs.XRange Go.Proofs.XKeys Go.Proofs.XPtr Tryz
section
variable {w w0:Y} {D:Nat} {S S':AD} {O I:Nat → Prop} {L:Lay} {k:KV}
theorem zg {w:Y} {I:Nat→Prop} {c:Chg} {v:V} (h:JL w I c v):v.oneCell'=true:=by
 cases c with
 |wr a d=>obtain⟨s,rfl,_⟩:=h;rfl
 |cut n=>unfold JL at h;subst h;rfl
theorem NM {n:Nat} {rb:V} {cs:List V} (h:w.ownsRow 0 130 1 rb n cs) (h1:∀u∈cs,u.oneCell'=true) (hn:n≤1099511627776)
   (hk:∀v w',Fr no w w'→w'.ownsRow 0 130 1 v n cs→(∀b,Zv v=some b→w.heap.size≤b∧b<w'.heap.size)→k v w'):pFn P 84 [rb] w k:=by
 refine zbx _ _ _ ?_
 unfold xU
 rcases h.2 with ⟨rfl,h0⟩|⟨g,cap,cur,rfl,hrest⟩
 · subst h0
   refine QP underlying122 (Zk (hk _ _ (Fr.refl _ _) ⟨by simpa using h.1,.inl ⟨rfl,rfl⟩⟩ (by intro b hb;cases hb)))
 · refine QP     underlying122 (Zf       (PA       ?_))
   have f1:=Fr.alloc no w (.cells #[] 130)
   have ho:=ZQ w 0 130 1 #[] 0 (Nat.zero_le _) (by unfold maxLen;omega) rfl
   have z1:(w.alloc (.cells #[] 130)).heap.size=w.heap.size+1:=by simp
   show px P _ (w.alloc (.cells #[] 130)) _
   generalize w.alloc (.cells #[] 130)=w1 at *
   refine gQ ho ((Src.Zt h).fr (by omega) f1 fun _ _ h=>h) h1 (by omega) (Nat.zero_le _) fun v' w2 h2 f2 hb2=> ?_
   rw[Nat.zero_add] at h2
   refine hk v' w2 ((f1.or f2).mono ?_) (by simpa using h2) ?_
   · rintro b (hb | hb)
     · exact hb.elim
     · injection hb with hb;have hb'':b=w.heap.size:=hb;exact .inr (by omega)
   · intro b hb
     have hlt:=(Zu h2 hb).2
     rcases hb2 with e|e
     · rw[e] at hb;injection hb with hb;have hb'':w.heap.size=b:=hb;omega
     · rw[e] at hb;injection hb with hb;omega
abbrev Twins:=List (Nat×Nat×V)
def Vj (L:Lay) (tl:Twins):List (Nat×Nat):=tl.map fun p=>(L.loc p.1,p.2.1)
structure Vp (w0 w:Y) (S:AD) (I:Nat→Prop) (L:Lay) (ov M:Nat) (tl:Twins):Prop where
 var:w.heap[ov]? =some (.cells #[.map (some M)] 127 (0,0))
 map:CY w M (Vj L tl)
 things:∀p∈tl,reach S p.1∧VM w (fun c=>w0.heap.size≤c) I p.2.1 p.2.2 (S.things p.1)
 apart:tl.Pairwise fun p q=>p.2.1≠q.2.1∧∀b,Zv p.2.2=some b→Zv q.2.2≠some b
 nd:(tl.map (·.1)).Nodup
 fr:Fr no w0 w
 lov:w0.heap.size≤ov
 lm:w0.heap.size≤M
theorem Vp.get {w0 w:Y} {ov M:Nat} {tl:Twins} (m:Vp w0 w S I L ov M tl) (h:Yi w0 D S O I L) {t:Nat} (ht:reach S t):(Qp (Vj L tl) (L.loc t)=none∧t∉tl.map (·.1))∨∃b rb,Qp (Vj L tl) (L.loc t)=some b∧(t,b,rb)∈tl:=by
 cases hg:Qp (Vj L tl) (L.loc t) with
 |none=>
  refine .inl ⟨rfl,fun hm=> ?_⟩
  obtain⟨p,hp,e⟩:=List.mem_map.1 hm
  exact Bx.1 hg (L.loc p.1,p.2.1) (List.mem_map_of_mem (f:=fun p:Nat×Nat×V=>(L.loc p.1,p.2.1)) hp) (by rw[e])
 |some b=>
  have:=NL hg
  obtain⟨p,hp,e⟩:=List.mem_map.1 this
  injection e with e1 e2
  have e3:p.1=t:=h.inj _ _ (m.things p hp).1 ht e1
  refine .inr ⟨b,p.2.2,rfl,?_⟩
  rw[←e3,←e2];exact hp
theorem Vp.blk {w0 w:Y} {ov M:Nat} {tl:Twins} (m:Vp w0 w S I L ov M tl) (h:Yi w0 D S O I L):∀p∈Vj L tl,Blk w p.1:=by
 intro p hp
 obtain⟨q,hq,rfl⟩:=List.mem_map.1 hp
 obtain⟨sv,hv,cs,hb,_⟩:=(h.things _ (m.things q hq).1).ex
 exact⟨_,_,m.fr.get hb id⟩
theorem Vp.by' {w0 w w':Y} {ov M:Nat} {tl:Twins} {X:Nat→Prop} (m:Vp w0 w S I L ov M tl) (hf:Fr X w w') (hI:∀b,I b→b<w0.heap.size) (hX:∀b,X b→w0.heap.size≤b∧b≠ov∧b≠M) (hT:∀p∈tl,∀b,X b→b≠p.2.1∧Zv p.2.2≠some b):Vp w0 w' S I L ov M tl where
 var:=hf.get m.var fun h=>(hX _ h).2.1 rfl
 map:=m.map.fr hf fun h=>(hX _ h).2.2 rfl
 things:=fun p hp=>⟨(m.things p hp).1,(m.things p hp).2.fr (O':=fun _=>True) hf (fun h=>(hT p hp _ h).1 rfl) (fun b hb h=>(hT p hp _ h).2 hb) fun b hi h=>absurd (hI b hi) (by have:=(hX b h).1;omega)⟩
 apart:=m.apart
 nd:=m.nd
 fr:=m.fr.trans hf fun b hb=> .inr (hX b hb).1
 lov:=m.lov
 lm:=m.lm
theorem Cq {w0 w:Y} {ov M:Nat} {tl:Twins} {t c:Nat} (h:Yi w0 D S O I L) (ok:S.Ok c) (m:Vp w0 w S I L ov M tl) (ht:reach S t)
   (hk:∀w' tl' b rb,Vp w0 w' S I L ov M (tl++tl')→(t,b,rb)∈tl++tl'→Fr (fun c=>c=M) w w'→k (ptr b) w'):pFn P 83 [ptr (L.loc t),ptr ov] w k:=by
 refine zbk _ _ _ _ ?_
 unfold xq
 have e94:=underlying117
 obtain⟨sv,hv,cs,hb0,hsv,hhv,hrow0,hcs⟩:=(h.things t ht).ex
 have hb:=m.fr.get hb0 id
 have hblk:Blk w (L.loc t):=⟨_,_,hb⟩
 have lk:∀ {w':Y} {tl'},Vp w0 w' S I L ov M tl'→(Instr.lookup 127 (.map (some M)) (ptr (L.loc t)) false).run P w'= .ok (match Qp (Vj L tl') (L.loc t) with|some v=>Uf v|none=> .pointer none) w':=
   fun m'=>m'.map.lookup underlying127 underlying117 (sizeOf124 _) (by decide) (zeroValue117 _) ⟨_,_,m'.fr.get hb0 id⟩ (m'.blk h)
 refine Zj (v:= .map (some M)) (isAgg127 _) m.var rfl (Z9 (lk m) ?_)
 rcases m.get h ht with ⟨hg,hnt⟩|⟨b,rb,hg,hmem⟩
 · rw [hg]
   refine YJ JJ (Zk ?_)
   have fd:Fr no w w.drew:=Fr.drew _ _
   refine⟨fun w'=>w'.heap[ov]? =some (.cells #[.map (some M)] 127 (0,0))∧w'.heap[L.loc t]? =some (.cells #[sv,hv,L.trow t] 124 (0,0)),⟨fd.get m.var id,fd.get hb id⟩,?_⟩
   refine Zi (.map (some M)) (fun w_ hS=>Zj (isAgg127 _) hS.1 rfl ⟨rfl,rfl⟩) ?_
   refine Zi _ (fun w_ hS=>Zn ⟨rfl,rfl⟩) (Zi _ (fun w_ hS=>QY ⟨rfl,rfl⟩) (Zi sv (fun w_ hS=>Zj (isAgg36 _) hS.2 rfl ⟨rfl,rfl⟩) ?_))
   refine Zi _ (fun w_ hS=>Zn ⟨rfl,rfl⟩) (Zi _ (fun w_ hS=>YG ⟨rfl,rfl⟩) (Zi hv (fun w_ hS=>Zj (isAgg36 _) hS.2 rfl ⟨rfl,rfl⟩) ?_))
   refine Zi _ (fun w_ hS=>Zn ⟨rfl,rfl⟩) (Zi _ (fun w_ hS=>UX ⟨rfl,rfl⟩) (Zi (L.trow t) (fun w_ hS=>Zj (isAgg122 _) hS.2 rfl ⟨rfl,rfl⟩) ?_))
   have f0d:Fr no w0 w.drew:=m.fr.trans fd fun b hb=> .inl hb
   have hrowd:=Z4 hrow0 f0d fun _ _ h=>h
   have hone:∀u∈cs,u.oneCell'=true:=by
     intro u hu
     obtain⟨i,hi⟩:=List.getElem?_of_mem hu
     have hil:=(List.getElem?_eq_some_iff.1 hi).1
     have hl2:=hcs.length
     obtain⟨u',hu',hc⟩:=hcs.at_ (i:=i) (a:=(S.things t).row[i]'(by omega)) (by simp)
     rw[hi] at hu';injection hu' with hu';subst hu'
     exact zg hc
   refine NM hrowd hone (by have:=(ok.Yk t ht).row;have:=ok.small;omega) fun v w1 f1 hrow1 hvb=> ?_
   have f01:Fr no w0 w1:=f0d.trans f1 fun b hb=> .inl hb
   have fw1:Fr no w w1:=fd.trans f1 fun b hb=> .inl hb
   refine⟨⟨f1.get (fd.get m.var id) id,f1.get (fd.get hb id) id⟩,?_⟩
   obtain⟨A1,c1,e1,_⟩:=hsv.1.form
   obtain⟨A2,c2,e2,_⟩:=hhv.1.form
   obtain⟨A3,c3,e3,_⟩:=Src.Zt hrow1
   subst e1 e2 e3
   refine Zi _ (fun w_ hS=>Z9 (w':=w_) (v:= .agg #[.slice A1 (S.things t).safe.length c1,.slice A2 (S.things t).shown.length c2,.slice A3 (S.things t).row.length c3]) (by kernel_rfl) ⟨rfl,rfl⟩) ?_
   generalize hsv':Value.slice A1 (S.things t).safe.length c1=sv at *
   generalize hhv':Value.slice A2 (S.things t).shown.length c2=hv at *
   generalize hv':Value.slice A3 (S.things t).row.length c3=v at *
   refine Yw ?_
   have f2:=Fr.alloc no w1 (.cells #[sv,hv,v] 124)
   have b2:=Z2 w1 (.cells #[sv,hv,v] 124)
   have z2:(w1.alloc (.cells #[sv,hv,v] 124)).heap.size=w1.heap.size+1:=by simp
   refine⟨⟨f2.get (fw1.get m.var id) id,f2.get (fw1.get hb id) id⟩,?_⟩
   show pu P _ (w1.alloc (.cells #[sv,hv,v] 124)) _
   generalize w1.alloc (.cells #[sv,hv,v] 124)=w2 at *
   have fw2:Fr no w w2:=fw1.trans f2 fun b hb=> .inl hb
   have map2:=m.map.fr fw2 id
   obtain⟨w3,hrun3,map3,f3,z3⟩:=map2.put (v:=w1.heap.size) underlying127 underlying117 (sizeOf124 w2) (by decide) (b:=L.loc t) ⟨_,_,fw2.get hb id⟩ (fun p hp=>(m.blk h p hp).fr fw2 id) hg
   refine Mj hrun3 ?_
   have hzw:w.heap.size≤w1.heap.size:=fw1.size
   have hM:∀ {b:Nat} {cs:Array V} {T:TypeId} {fr:Nat×Nat},w2.heap[b]? =some (.cells cs T fr)→b≠M:=by
     rintro b cs T fr hc rfl
     obtain⟨es,cl,hm,_⟩:=map2
     rw[hm] at hc;cases hc
   have f03:Fr no w0 w3:=(m.fr.trans fw2 fun b hb=> .inl hb).trans f3 fun b hb=> .inr (by have hb':b=M:=hb;have:=m.lm;omega)
   have m3:Vp w0 w3 S I L ov M (tl++[(t,w1.heap.size,v)]):= {
     var:=f3.get (fw2.get m.var id) (hM (fw2.get m.var id))
     map:=by unfold Vj at *;rw[List.map_append];exact map3
     things:=by
       intro p hp
       rcases List.mem_append.1 hp with hp|hp
       · obtain ⟨hr,hT⟩ := m.things p hp
         have hT2:=hT.fr (O':=O) fw2 (fun h=>h) (fun _ _ h=>h) (fun _ _ h=>h)
         obtain⟨sv',hv',cs',hb',_,_,hrow',_⟩:=hT2.ex
         refine⟨hr,hT2.fr (O':=O) f3 (hM hb') (fun b hb=> ?_) fun b hi he=> ?_⟩
         · obtain ⟨c1,h1⟩ := Z0      hrow' hb
           exact hM h1
         · have hb' : b = M := he
           have:=h.lt b (.inr hi);have:=m.lm;omega
       · rw [List.mem_singleton] at hp
         subst hp
         have hv3:=Z4 (Z4 hrow1 f2 fun _ _ h=>h) f3 (fun b hb=>by
           obtain⟨c1,h1⟩:=Z0 (Z4 hrow1 f2 fun _ _ h=>h) hb
           exact hM h1)
         refine⟨ht,⟨sv,hv,cs,f3.get b2 (hM b2),?_,?_,hv3,Xq hcs fun a b hab=>hab.fr f03 fun b hb hn=>hn⟩,?_,fun b hb=> ?_⟩
         · exact hsv.fr f03 fun b hb hn=>hn
         · exact hhv.fr f03 fun b hb hn=>hn
         · have:=m.fr.size;show w0.heap.size≤w1.heap.size;omega
         · have:=(hvb b hb).1;have:=m.fr.size;have e:w.drew.heap.size=w.heap.size:=rfl;show w0.heap.size≤b;omega
     apart:=by
       refine List.pairwise_append.2 ⟨m.apart,List.pairwise_singleton _ _,fun p hp q hq=> ?_⟩
       rw[List.mem_singleton] at hq
       subst hq
       obtain⟨sv',hv',cs',hb',_,_,hrow',_⟩:=(m.things p hp).2.ex
       have hlt:=ZS hb'
       refine⟨by show p.2.1≠w1.heap.size;omega,fun b hb hq=> ?_⟩
       have h1:=(Zu hrow' hb).2
       have h2:=(hvb b hq).1
       have e:w.drew.heap.size=w.heap.size:=rfl
       omega
     nd:=by
       rw[List.map_append]
       refine List.nodup_append.2 ⟨m.nd,by simp,fun a ha b hb=> ?_⟩
       simp at hb
       subst hb
       rintro rfl
       exact hnt ha
     fr:=f03
     lov:=m.lov
     lm:=m.lm}
   rw[D6]
   unfold xr
   refine Zj (v:= .map (some M)) (isAgg127 _) m3.var rfl (Z9 (lk m3) ?_)
   have hg3:Qp (Vj L (tl++[(t,w1.heap.size,v)])) (L.loc t)=some w1.heap.size:=by
     unfold Vj at *
     rw[List.map_append]
     show Qp (tl.map _++[(L.loc t,w1.heap.size)]) (L.loc t)=_
     rw[GC hg,if_pos rfl]
   rw[hg3]
   exact hk w3 [(t,w1.heap.size,v)] w1.heap.size v m3 (by simp) ((fw2.or f3).mono (by rintro b (hb|hb);exact hb.elim;exact .inl hb))
 · rw [hg]
   refine YJ JJ (Zf ?_)
   rw[D6]
   unfold xr
   refine Zj (v:= .map (some M)) (isAgg127 _) m.var rfl (Z9 (lk m) ?_)
   rw[hg]
   exact hk w [] b rb (by simpa using m) (by simpa using hmem) (Fr.refl _ _)
def ZT (tl:Twins) (t:Nat):Nat:=((tl.find? fun p=>decide (p.1=t)).map (·.2.1)).getD 0
def rowOf (tl:Twins) (t:Nat):V:=((tl.find? fun p=>decide (p.1=t)).map (·.2.2)).getD (.slice none 0 0)
theorem NN {tl:Twins} {p:Nat×Nat×V} (hn:(tl.map (·.1)).Nodup) (h:p∈tl):tl.find? (fun q=>decide (q.1=p.1))=some p:=by
 induction tl with
 |nil=>cases h
 |cons a r ih=>
  rw[List.map_cons,List.nodup_cons] at hn
  rcases List.mem_cons.1 h with rfl|h'
  ·simp
  ·have:a.1≠p.1:=fun e=>hn.1 (by rw[e];exact List.mem_map_of_mem (f:=fun x:Nat×Nat×V=>x.1) h')
   rw[List.find?_cons_of_neg (by simpa using this)]
   exact ih hn.2 h'
theorem XD {tl:Twins} {p:Nat×Nat×V} (hn:(tl.map (·.1)).Nodup) (h:p∈tl):ZT tl p.1=p.2.1∧rowOf tl p.1=p.2.2:=by
 unfold ZT rowOf
 rw[NN hn h];exact⟨rfl,rfl⟩
theorem By {tl tl':Twins} {t:Nat} (h:t∈tl.map (·.1)):ZT (tl++tl') t=ZT tl t:=by
 obtain⟨p,hp,rfl⟩:=List.mem_map.1 h
 have:∃q,tl.find? (fun q=>decide (q.1=p.1))=some q:=by
  cases hf:tl.find? (fun q=>decide (q.1=p.1)) with
  |some q=>exact⟨q,rfl⟩
  |none=>exact absurd (List.find?_eq_none.1 hf p hp) (by simp)
 obtain⟨q,hq⟩:=this
 unfold ZT
 rw[List.find?_append,hq];rfl
def Qq (m1 m2:Nat) (rv rdv:V) (tl:Twins) (d1 d2:Names):Lay:= { sh:=m1,sf:=m2,loc:=ZT tl,trow:=rowOf tl,rowv:=rv,readsv:=rdv,lsh:=d1,lsf:=d2}
structure Tw (w0 w:Y) (S:AD) (I:Nat→Prop) (L:Lay) (ov M dk m1 m2:Nat) (d1 d2:Names) (rv rdv:V) (rs:List Turn) (tl:Twins):Prop where
 mid:Vp w0 w S I L ov M tl
 disk:w.heap[dk]? =some (.cells (Yy S (Qq m1 m2 rv rdv tl d1 d2)) 58 (0,0))
 s1:SMap w m1 (ZD (Qq m1 m2 rv rdv tl d1 d2) d1)
 s2:SMap w m2 (ZD (Qq m1 m2 rv rdv tl d1 d2) d2)
 row:w.ownsRow 0 136 1 rv rs.length (rs.map (Yb (ZT tl)))
 reads:w.ownsRow 0 134 3 rdv S.reads.length (S.reads.flatMap Z3)
 in1:∀p∈d1,p.2∈tl.map (·.1)
 in2:∀p∈d2,p.2∈tl.map (·.1)
 in3:∀n t,Turn.mk n t∈rs→t∈tl.map (·.1)
 ldk:w0.heap.size≤dk
 l1:w0.heap.size≤m1
 l2:w0.heap.size≤m2
 n12:m1≠m2
 n1:m1≠M
 n2:m2≠M
 lrv:∀b,Zv rv=some b→w0.heap.size≤b
 lrd:∀b,Zv rdv=some b→w0.heap.size≤b
section
variable {ov M dk m1 m2:Nat} {d1 d2:Names} {rv rdv:V} {rs:List Turn} {tl tl':Twins} {w':Y}
theorem Qd {rv':V} {d d1' d2':Names} (h:∀p∈d,p.2∈tl.map (·.1)):ZD (Qq m1 m2 rv' rdv (tl++tl') d1' d2') d=ZD (Qq m1 m2 rv rdv tl d1 d2) d:=
 List.map_congr_left fun p hp=>by
  show (p.1,ptr (ZT (tl++tl') p.2))=(p.1,ptr (ZT tl p.2))
  rw[By (h p hp)]
theorem Yz {w:Y} {m b:Nat} {l:List (ByteArray×V)} {cs:Array V} {T:TypeId} {fr:Nat×Nat} (h:SMap w m l) (hb:w.heap[b]? =some (.cells cs T fr)):b≠m:=by
 rintro rfl
 obtain⟨es,c1,h1⟩:=SMap.obj h
 rw[h1] at hb;cases hb
theorem X9 {w:Y} {m b:Nat} {l:List (Nat×Nat)} {cs:Array V} {T:TypeId} {fr:Nat×Nat} (h:CY w m l) (hb:w.heap[b]? =some (.cells cs T fr)):b≠m:=by
 rintro rfl
 obtain⟨es,c1,h1,_⟩:=h
 rw[h1] at hb;cases hb
theorem Tw.grow (h:Tw w0 w S I L ov M dk m1 m2 d1 d2 rv rdv rs tl) (m:Vp w0 w' S I L ov M (tl++tl')) (hf:Fr (fun c=>c=M) w w'):Tw w0 w' S I L ov M dk m1 m2 d1 d2 rv rdv rs (tl++tl') where
 mid:=m
 disk:=hf.get h.disk (X9 h.mid.map h.disk)
 s1:=by rw[Qd h.in1 (rv:=rv) (d1:=d1) (d2:=d2)];exact h.s1.fr hf h.n1
 s2:=by rw[Qd h.in2 (rv:=rv) (d1:=d1) (d2:=d2)];exact h.s2.fr hf h.n2
 row:=by
  have e:rs.map (Yb (ZT (tl++tl')))=rs.map (Yb (ZT tl)):=List.map_congr_left fun c hc=>UJ fun n t e=>By (h.in3 n t (e▸hc))
  rw[e]
  exact Z4 h.row hf fun b hb=>by obtain⟨c1,h1⟩:=Z0 h.row hb;exact X9 h.mid.map h1
 reads:=Z4 h.reads hf fun b hb=>by obtain⟨c1,h1⟩:=Z0 h.reads hb;exact X9 h.mid.map h1
 in1:=fun p hp=>by rw[List.map_append];exact List.mem_append_left _ (h.in1 p hp)
 in2:=fun p hp=>by rw[List.map_append];exact List.mem_append_left _ (h.in2 p hp)
 in3:=fun n t hp=>by rw[List.map_append];exact List.mem_append_left _ (h.in3 n t hp)
 ldk:=h.ldk
 l1:=h.l1
 l2:=h.l2
 n12:=h.n12
 n1:=h.n1
 n2:=h.n2
 lrv:=h.lrv
 lrd:=h.lrd
theorem Vp.off {X:Nat→Prop} (m:Vp w0 w S I L ov M tl) (hI:∀b,I b→b<w0.heap.size) (hf:Fr X w w') (hX:∀b,X b→w0.heap.size≤b∧b≠M∧∀cs T fr,w.heap[b]?≠some (.cells cs T fr)):Vp w0 w' S I L ov M tl:=by
 refine m.by' hf hI (fun b hb=>⟨(hX b hb).1,?_,(hX b hb).2.1⟩) fun p hp b hb=> ?_
 ·rintro rfl;exact(hX _ hb).2.2 _ _ _ m.var
 ·obtain⟨sv',hv',cs',hb',_,_,hrow',_⟩:=(m.things p hp).2.ex
  refine⟨?_,fun he=> ?_⟩
  ·rintro rfl;exact(hX _ hb).2.2 _ _ _ hb'
  ·obtain⟨c1,h1⟩:=Z0 hrow' he
   exact(hX b hb).2.2 _ _ _ h1
theorem Tw.off {X:Nat→Prop} (h:Tw w0 w S I L ov M dk m1 m2 d1 d2 rv rdv rs tl) (hI:∀b,I b→b<w0.heap.size) (hf:Fr X w w') (hX:∀b,X b→w0.heap.size≤b∧b≠M∧b≠m1∧b≠m2∧∀cs T fr,w.heap[b]?≠some (.cells cs T fr)):Tw w0 w' S I L ov M dk m1 m2 d1 d2 rv rdv rs tl:=
 { h with
  mid:=h.mid.off hI hf fun b hb=>⟨(hX b hb).1,(hX b hb).2.1,(hX b hb).2.2.2.2⟩
  disk:=hf.get h.disk fun hb=>(hX _ hb).2.2.2.2 _ _ _ h.disk
  s1:=h.s1.fr hf fun hb=>(hX _ hb).2.2.1 rfl
  s2:=h.s2.fr hf fun hb=>(hX _ hb).2.2.2.1 rfl
  row:=Z4 h.row hf fun b hb hx=>by obtain⟨c1,h1⟩:=Z0 h.row hb;exact(hX b hx).2.2.2.2 _ _ _ h1
  reads:=Z4 h.reads hf fun b hb hx=>by obtain⟨c1,h1⟩:=Z0 h.reads hb;exact(hX b hx).2.2.2.2 _ _ _ h1}
theorem Tw.zno (h:Tw w0 w S I L ov M dk m1 m2 d1 d2 rv rdv rs tl) (hI:∀b,I b→b<w0.heap.size) {n:ByteArray} {t:Nat} (ht:t∈tl.map (·.1)) (hf:Fr (fun c=>c=m1) w w') (hs:SMap w' m1 (Xs (ZD (Qq m1 m2 rv rdv tl d1 d2) d1) n (ptr (ZT tl t)))):Tw w0 w' S I L ov M dk m1 m2 (Xs d1 n t) d2 rv rdv rs tl:=by
 have hc:∀cs T fr,w.heap[m1]?≠some (.cells cs T fr):=fun cs T fr hb=>Yz h.s1 hb rfl
 exact { h with
  mid:=h.mid.off hI hf fun b hb=>⟨hb▸h.l1,hb▸h.n1,hb▸hc⟩
  disk:=hf.get h.disk (Yz h.s1 h.disk)
  s1:=by
   have e:=XW (Qq m1 m2 rv rdv tl d1 d2) d1 n t
   rw[show ptr ((Qq m1 m2 rv rdv tl d1 d2).loc t)=ptr (ZT tl t) from rfl] at e
   rw[e] at hs;exact hs
  s2:=h.s2.fr hf fun e=>h.n12 e.symm
  row:=Z4 h.row hf fun b hb hx=>by obtain⟨c1,h1⟩:=Z0 h.row hb;rw[show b=m1 from hx] at h1;exact hc _ _ _ h1
  reads:=Z4 h.reads hf fun b hb hx=>by obtain⟨c1,h1⟩:=Z0 h.reads hb;rw[show b=m1 from hx] at h1;exact hc _ _ _ h1
  in1:=fun p hp=>by
   unfold Xs at hp
   split at hp
   ·obtain⟨q,hq,rfl⟩:=List.mem_map.1 hp
    split
    ·exact ht
    ·exact h.in1 q hq
   ·rcases List.mem_append.1 hp with hp|hp
    ·exact h.in1 p hp
    ·rw[List.mem_singleton] at hp;subst hp;exact ht}
theorem Tw.znp (h:Tw w0 w S I L ov M dk m1 m2 d1 d2 rv rdv rs tl) (hI:∀b,I b→b<w0.heap.size) {n:ByteArray} {t:Nat} (ht:t∈tl.map (·.1)) (hf:Fr (fun c=>c=m2) w w') (hs:SMap w' m2 (Xs (ZD (Qq m1 m2 rv rdv tl d1 d2) d2) n (ptr (ZT tl t)))):Tw w0 w' S I L ov M dk m1 m2 d1 (Xs d2 n t) rv rdv rs tl:=by
 have hc:∀cs T fr,w.heap[m2]?≠some (.cells cs T fr):=fun cs T fr hb=>Yz h.s2 hb rfl
 exact { h with
  mid:=h.mid.off hI hf fun b hb=>⟨hb▸h.l2,hb▸h.n2,hb▸hc⟩
  disk:=hf.get h.disk (Yz h.s2 h.disk)
  s2:=by
   have e:=XW (Qq m1 m2 rv rdv tl d1 d2) d2 n t
   rw[show ptr ((Qq m1 m2 rv rdv tl d1 d2).loc t)=ptr (ZT tl t) from rfl] at e
   rw[e] at hs;exact hs
  s1:=h.s1.fr hf h.n12
  row:=Z4 h.row hf fun b hb hx=>by obtain⟨c1,h1⟩:=Z0 h.row hb;rw[show b=m2 from hx] at h1;exact hc _ _ _ h1
  reads:=Z4 h.reads hf fun b hb hx=>by obtain⟨c1,h1⟩:=Z0 h.reads hb;rw[show b=m2 from hx] at h1;exact hc _ _ _ h1
  in2:=fun p hp=>by
   unfold Xs at hp
   split at hp
   ·obtain⟨q,hq,rfl⟩:=List.mem_map.1 hp
    split
    ·exact ht
    ·exact h.in2 q hq
   ·rcases List.mem_append.1 hp with hp|hp
    ·exact h.in2 p hp
    ·rw[List.mem_singleton] at hp;subst hp;exact ht}
theorem Bz {l:Names} {n:ByteArray} {t:Nat} (h:n∉ZH l):Xs l n t=l++[(n,t)]:=by
 unfold Xs
 rw[if_neg]
 intro ha
 obtain⟨p,hp,e⟩:=List.any_eq_true.1 ha
 exact h (List.mem_map.2 ⟨p,hp,by simpa using e⟩)
end
theorem zey {c ov M dk m1 m2 r:Nat} {rdv:V} {DD:Names} {tl0:Twins} (h:Yi w0 D S O I L) (ok:S.Ok c) (hr:w0.heap.size≤r)
   (hk:∀(ρ:Env) w d tl,ρ 0=ptr D→ρ 3=ptr ov→ρ 4= .func (.func 83) #[] #[ptr ov]→ρ 5=ptr dk→Tw w0 w S I L ov M dk m1 m2 d [] (.slice none 0 0) rdv [] tl→d.Perm L.lsh→(∀t∈tl0.map (·.1),t∈tl.map (·.1))→yK k ρ w)
   {ρ:Env} {w:Y} (e0:ρ 0=ptr D) (e3:ρ 3=ptr ov) (e4:ρ 4= .func (.func 83) #[] #[ptr ov]) (e5:ρ 5=ptr dk) (er:ρ 38= .pointer (some ⟨r,0,none⟩))
   (hT:Tw w0 w S I L ov M dk m1 m2 [] [] (.slice none 0 0) rdv [] tl0) (hit:Iter w r L.sh (ZD L L.lsh) (ZD L L.lsh)):yG k ρ w:=by
 have hI:∀b,I b→b<w0.heap.size:=fun b hb=>h.lt b (.inr hb)
 refine Kv (m:=L.lsh.length) k (fun m ρ w=>∃(rest d:Names) (tl:Twins),m=rest.length∧ρ 0=ptr D∧ρ 3=ptr ov∧ρ 4= .func (.func 83) #[] #[ptr ov]∧ρ 5=ptr dk∧ρ 38= .pointer (some ⟨r,0,none⟩)∧Iter w r L.sh (ZD L L.lsh) (ZD L rest)∧(d++rest).Perm L.lsh∧Tw w0 w S I L ov M dk m1 m2 d [] (.slice none 0 0) rdv [] tl∧(∀t∈tl0.map (·.1),t∈tl.map (·.1))) ?_
   ⟨L.lsh,[],tl0,rfl,e0,e3,e4,e5,er,hit,.refl _,hT,fun t h=>h⟩
 rintro m ρ w ⟨rest,d,tl,hm,e0,e3,e4,e5,er,hit,hperm,hT,hsub⟩
 rw[PH]
 unfold zae
 rw[er]
 have hro:∀cs T fr,w.heap[r]?≠some (.cells cs T fr):=by
   intro cs T fr hb
   obtain⟨a1,a2,a3,a4,h1⟩:=hit.obj
   rw[h1] at hb;cases hb
 have hrm:∀ {x:Nat} {es:Array MapEntry} {cl:Nat},w.heap[x]? =some (.map es cl)→r≠x:=by
   rintro x es cl hx rfl
   obtain⟨a1,a2,a3,a4,h1⟩:=hit.obj
   rw[h1] at hx;cases hx
 have hrM:r≠M:=by obtain⟨es,cl,hx,_⟩:=hT.mid.map;exact hrm hx
 have hr1:r≠m1:=by obtain⟨es,cl,hx⟩:=SMap.obj hT.s1;exact hrm hx
 have hr2:r≠m2:=by obtain⟨es,cl,hx⟩:=SMap.obj hT.s2;exact hrm hx
 refine Kk hit (fun he=> ?_) (fun p rest' w1 hp hit1 f1 z1 hent=> ?_)
 · refine ZG    rfl (Zf       ?_)
   rw[PI]
   have:rest=[]:=List.map_eq_nil_iff.1 he
   subst this
   rw[List.append_nil] at hperm
   exact hk _ w d tl e0 e3 e4 e5 hT hperm hsub
 · have T1 := hT.off hI f1 fun b hb => ⟨(show b = r from hb) ▸ hr,(show b = r from hb) ▸ hrM,(show b = r from hb) ▸ hr1,(show b = r from hb) ▸ hr2,(show b = r from hb) ▸ hro⟩
   refine ZG rfl (Zk (hent _ ?_))
   obtain⟨q,l',hq,rfl,rfl⟩:=X8 hp
   have hqm:q∈L.lsh:=hperm.mem_iff.1 (List.mem_append_right _ (hq.mem_iff.2 List.mem_cons_self))
   have hreach:reach S q.2:= .inl ⟨q.1,h.shp.mem_iff.1 hqm⟩
   refine ZG rfl (ZG rfl ?_)
   have fd:Fr no w1 w1.drew:=Fr.drew _ _
   have Td:=T1.off hI fd fun b hb=>hb.elim
   rw[e4,e5]
   refine⟨fun w'=>∃cs,w'.heap[dk]? =some (.cells cs 58 (0,0))∧cs[1]? =some (.map (some m1)),⟨_,Td.disk,rfl⟩,?_⟩
   refine Zi _ (fun w_ hS=>XF ⟨rfl,rfl⟩) ?_
   refine Zi (.map (some m1)) (fun w_ hS=>by obtain⟨cs,h1,h2⟩:=hS;exact Zj (isAgg54 _) h1 h2 ⟨rfl,rfl⟩) ?_
   show pFn P 83 [ptr (L.loc q.2),ptr ov] w1.drew _
   refine Cq h ok Td.mid hreach fun w2 tl' b rb m2' hmem f2=> ?_
   have T2:=Td.grow m2' f2
   refine⟨⟨_,T2.disk,rfl⟩,?_⟩
   have hloc:=(XD m2'.nd hmem).1
   have htm:q.2∈(tl++tl').map (·.1):=List.mem_map_of_mem (f:=fun p:Nat×Nat×V=>p.1) hmem
   refine gW T2.s1 q.1 (ptr b) fun w3 h3 f3 z3=> ?_
   rw[←show ZT (tl++tl') q.2=b from hloc] at h3
   have T3:=T2.zno hI htm f3 h3
   have hnd:=(h.vq)
   have hnew:q.1∉ZH d:=by
     intro hd
     have h5:(ZH (d++rest)).Nodup:=(X2 hperm).nodup_iff.2 hnd
     unfold ZH at h5 hd
     rw[List.map_append] at h5
     exact(List.nodup_append.1 h5).2.2 _ hd _ (List.mem_map_of_mem (f:=fun p:ByteArray×Nat=>p.1) (hq.mem_iff.2 List.mem_cons_self)) rfl
   rw[Bz hnew] at T3
   have hit3:Iter w3 r L.sh (ZD L L.lsh) (ZD L l'):=by
     have hlt:L.sh<w0.heap.size:=h.lt _ (.inl h.osh)
     have a:=hit1.fr fd id id
     have b':=a.fr f2 (fun e=>hrM e) (fun e=>by have e':L.sh=M:=e;have:=hT.mid.lm;omega)
     exact b'.fr f3 (fun e=>hr1 e) (fun e=>by have e':L.sh=m1:=e;have:=hT.l1;omega)
   refine⟨l'.length,?_,l',d++[(q.1,q.2)],tl++tl',rfl,e0,e3,e4,e5,er,hit3,?_,T3,fun t ht=>by rw[List.map_append];exact List.mem_append_left _ (hsub t ht)⟩
   · rw[hm,hq.length_eq];exact Nat.lt_succ_self _
   · rw [List.append_assoc]
     exact(List.Perm.append_left d hq.symm).trans hperm
theorem zez {c ov M dk m1 m2 r:Nat} {rdv:V} {DD:Names} {tl0:Twins} (h:Yi w0 D S O I L) (ok:S.Ok c) (hr:w0.heap.size≤r)
   (hk:∀(ρ:Env) w d tl,ρ 0=ptr D→ρ 3=ptr ov→ρ 4= .func (.func 83) #[] #[ptr ov]→ρ 5=ptr dk→Tw w0 w S I L ov M dk m1 m2 DD d (.slice none 0 0) rdv [] tl→d.Perm L.lsf→(∀t∈tl0.map (·.1),t∈tl.map (·.1))→yL k ρ w)
   {ρ:Env} {w:Y} (e0:ρ 0=ptr D) (e3:ρ 3=ptr ov) (e4:ρ 4= .func (.func 83) #[] #[ptr ov]) (e5:ρ 5=ptr dk) (er:ρ 54= .pointer (some ⟨r,0,none⟩))
   (hT:Tw w0 w S I L ov M dk m1 m2 DD [] (.slice none 0 0) rdv [] tl0) (hit:Iter w r L.sf (ZD L L.lsf) (ZD L L.lsf)):yH k ρ w:=by
 have hI:∀b,I b→b<w0.heap.size:=fun b hb=>h.lt b (.inr hb)
 refine Kw (m:=L.lsf.length) k (fun m ρ w=>∃(rest d:Names) (tl:Twins),m=rest.length∧ρ 0=ptr D∧ρ 3=ptr ov∧ρ 4= .func (.func 83) #[] #[ptr ov]∧ρ 5=ptr dk∧ρ 54= .pointer (some ⟨r,0,none⟩)∧Iter w r L.sf (ZD L L.lsf) (ZD L rest)∧(d++rest).Perm L.lsf∧Tw w0 w S I L ov M dk m1 m2 DD d (.slice none 0 0) rdv [] tl∧(∀t∈tl0.map (·.1),t∈tl.map (·.1))) ?_
   ⟨L.lsf,[],tl0,rfl,e0,e3,e4,e5,er,hit,.refl _,hT,fun t h=>h⟩
 rintro m ρ w ⟨rest,d,tl,hm,e0,e3,e4,e5,er,hit,hperm,hT,hsub⟩
 rw[PJ]
 unfold zaf
 rw[er]
 have hro:∀cs T fr,w.heap[r]?≠some (.cells cs T fr):=by
   intro cs T fr hb
   obtain⟨a1,a2,a3,a4,h1⟩:=hit.obj
   rw[h1] at hb;cases hb
 have hrm:∀ {x:Nat} {es:Array MapEntry} {cl:Nat},w.heap[x]? =some (.map es cl)→r≠x:=by
   rintro x es cl hx rfl
   obtain⟨a1,a2,a3,a4,h1⟩:=hit.obj
   rw[h1] at hx;cases hx
 have hrM:r≠M:=by obtain⟨es,cl,hx,_⟩:=hT.mid.map;exact hrm hx
 have hr1:r≠m1:=by obtain⟨es,cl,hx⟩:=SMap.obj hT.s1;exact hrm hx
 have hr2:r≠m2:=by obtain⟨es,cl,hx⟩:=SMap.obj hT.s2;exact hrm hx
 refine Kk hit (fun he=> ?_) (fun p rest' w1 hp hit1 f1 z1 hent=> ?_)
 · refine ZG    rfl (Zf       ?_)
   rw[PK]
   have:rest=[]:=List.map_eq_nil_iff.1 he
   subst this
   rw[List.append_nil] at hperm
   exact hk _ w d tl e0 e3 e4 e5 hT hperm hsub
 · have T1 := hT.off hI f1 fun b hb => ⟨(show b = r from hb) ▸ hr,(show b = r from hb) ▸ hrM,(show b = r from hb) ▸ hr1,(show b = r from hb) ▸ hr2,(show b = r from hb) ▸ hro⟩
   refine ZG rfl (Zk (hent _ ?_))
   obtain⟨q,l',hq,rfl,rfl⟩:=X8 hp
   have hqm:q∈L.lsf:=hperm.mem_iff.1 (List.mem_append_right _ (hq.mem_iff.2 List.mem_cons_self))
   have hreach:reach S q.2:= .inr (.inl ⟨q.1,h.sfp.mem_iff.1 hqm⟩)
   refine ZG rfl (ZG rfl ?_)
   have fd:Fr no w1 w1.drew:=Fr.drew _ _
   have Td:=T1.off hI fd fun b hb=>hb.elim
   rw[e4,e5]
   refine⟨fun w'=>∃cs,w'.heap[dk]? =some (.cells cs 58 (0,0))∧cs[2]? =some (.map (some m2)),⟨_,Td.disk,rfl⟩,?_⟩
   refine Zi _ (fun w_ hS=>Ui ⟨rfl,rfl⟩) ?_
   refine Zi (.map (some m2)) (fun w_ hS=>by obtain⟨cs,h1,h2⟩:=hS;exact Zj (isAgg54 _) h1 h2 ⟨rfl,rfl⟩) ?_
   show pFn P 83 [ptr (L.loc q.2),ptr ov] w1.drew _
   refine Cq h ok Td.mid hreach fun w2 tl' b rb m2' hmem f2=> ?_
   have T2:=Td.grow m2' f2
   refine⟨⟨_,T2.disk,rfl⟩,?_⟩
   have hloc:=(XD m2'.nd hmem).1
   have htm:q.2∈(tl++tl').map (·.1):=List.mem_map_of_mem (f:=fun p:Nat×Nat×V=>p.1) hmem
   refine gW T2.s2 q.1 (ptr b) fun w3 h3 f3 z3=> ?_
   rw[←show ZT (tl++tl') q.2=b from hloc] at h3
   have T3:=T2.znp hI htm f3 h3
   have hnd:=(h.zcr)
   have hnew:q.1∉ZH d:=by
     intro hd
     have h5:(ZH (d++rest)).Nodup:=(X2 hperm).nodup_iff.2 hnd
     unfold ZH at h5 hd
     rw[List.map_append] at h5
     exact(List.nodup_append.1 h5).2.2 _ hd _ (List.mem_map_of_mem (f:=fun p:ByteArray×Nat=>p.1) (hq.mem_iff.2 List.mem_cons_self)) rfl
   rw[Bz hnew] at T3
   have hit3:Iter w3 r L.sf (ZD L L.lsf) (ZD L l'):=by
     have hlt:L.sf<w0.heap.size:=h.lt _ (.inl h.osf)
     have a:=hit1.fr fd id id
     have b':=a.fr f2 (fun e=>hrM e) (fun e=>by have e':L.sf=M:=e;have:=hT.mid.lm;omega)
     exact b'.fr f3 (fun e=>hr2 e) (fun e=>by have e':L.sf=m2:=e;have:=hT.l2;omega)
   refine⟨l'.length,?_,l',d++[(q.1,q.2)],tl++tl',rfl,e0,e3,e4,e5,er,hit3,?_,T3,fun t ht=>by rw[List.map_append];exact List.mem_append_left _ (hsub t ht)⟩
   · rw[hm,hq.length_eq];exact Nat.lt_succ_self _
   · rw [List.append_assoc]
     exact(List.Perm.append_left d hq.symm).trans hperm
theorem GD {α:Type} {R:α→α→Prop}:∀ {l:List α},l.Pairwise R→∀ {p q:α},p∈l→q∈l→p≠q→R p q∨R q p
 | [],_,p,q,hp,_,_=>by cases hp
 |a::r,h,p,q,hp,hq,hne=>by
  obtain⟨h1,h2⟩:=List.pairwise_cons.1 h
  rcases List.mem_cons.1 hp with ep|hp'
  ·rcases List.mem_cons.1 hq with eq|hq'
   ·exact absurd (ep.trans eq.symm) hne
   ·exact .inl (ep▸h1 q hq')
  ·rcases List.mem_cons.1 hq with eq|hq'
   ·exact .inr (eq▸h1 p hp')
   ·exact GD h2 hp' hq' hne
theorem Tw.rep {ov M dk m1 m2:Nat} {d1 d2:Names} {rv rdv:V} {tl:Twins} (h:Yi w0 D S O I L) (T:Tw w0 w S I L ov M dk m1 m2 d1 d2 rv rdv S.row tl) (p1:d1.Perm L.lsh) (p2:d2.Perm L.lsf):
   Yi w dk S (fun b=>w0.heap.size≤b∧b<w.heap.size) I (Qq m1 m2 rv rdv tl d1 d2):=by
 have hin:∀t,reach S t→∃p∈tl,p.1=t∧ZT tl t=p.2.1∧rowOf tl t=p.2.2:=by
   intro t ht
   have:t∈tl.map (·.1):=by
     rcases ht with ⟨n,hn⟩|⟨n,hn⟩|⟨n,hn⟩
     · exact T.in1 (n,t) (p1.mem_iff.2 (h.shp.mem_iff.2 hn))
     · exact T.in2 (n,t) (p2.mem_iff.2 (h.sfp.mem_iff.2 hn))
     · exact T.in3 n t hn
   obtain⟨p,hp,e⟩:=List.mem_map.1 this
   have:=XD T.mid.nd hp
   rw[e] at this
   exact⟨p,hp,e,this⟩
 have hsz:=T.mid.fr.size
 exact {
   disk:=T.disk
   sh:=T.s1
   shp:=p1.trans h.shp
   sf:=T.s2
   sfp:=p2.trans h.sfp
   ne:=T.n12
   row:=T.row
   reads:=T.reads
   things:=fun t ht=>by
     obtain⟨p,hp,e,e1,e2⟩:=hin t ht
     show VM w _ I (ZT tl t) (rowOf tl t) (S.things t)
     rw[e1,e2,←e]
     obtain⟨⟨sv,hv,cs,hb,h1,h2,h3,h4⟩,h5,h6⟩:=(T.mid.things p hp).2
     exact⟨⟨sv,hv,cs,hb,h1,h2,h3,h4⟩,⟨h5,ZS hb⟩,fun b hb=>⟨h6 b hb,(Zu h3 hb).2⟩⟩
   inj:=fun t u ht hu e=>by
     obtain⟨p,hp,ep,e1,_⟩:=hin t ht
     obtain⟨q,hq,eq,e2,_⟩:=hin u hu
     have e':ZT tl t=ZT tl u:=e
     rw[e1,e2] at e'
     by_cases hpq:p=q
     · rw[←ep,←eq,hpq]
     · rcases GD     T.mid.apart hp hq hpq with h' | h'
       · exact absurd e' h'.1
       · exact absurd e'.symm h'.1
   rows:=fun t u ht hu hne b hb=>by
     obtain⟨p,hp,ep,_,e1⟩:=hin t ht
     obtain⟨q,hq,eq,_,e2⟩:=hin u hu
     have hb':Zv (rowOf tl t)=some b:=hb
     show Zv (rowOf tl u)≠some b
     rw[e1] at hb'
     rw[e2]
     have hpq:p≠q:=by rintro rfl;exact hne (ep.symm.trans eq)
     rcases GD T.mid.apart hp hq hpq with h'|h'
     · exact h'.2 b hb'
     · exact fun hc=>h'.2 b hc hb'
   oD:=⟨T.ldk,ZS T.disk⟩
   osh:=⟨T.l1,T.s1.lt⟩
   osf:=⟨T.l2,T.s2.lt⟩
   orow:=fun b hb=>⟨T.lrv b hb,(Zu T.row hb).2⟩
   oreads:=fun b hb=>⟨T.lrd b hb,(Zu T.reads hb).2⟩
   apart:=fun b hb hi=>by have:=h.lt b (.inr hi);have:=hb.1;omega
   lt:=by
     rintro b (hb|hb)
     · exact hb.2
     · have:=h.lt b (.inr hb);omega}
theorem Vp.ofType {ov M:Nat} {tl:Twins} {w':Y} {X:Nat→Prop} (m:Vp w0 w S I L ov M tl) (hI:∀b,I b→b<w0.heap.size) (hf:Fr X w w') (hX:∀b,X b→w0.heap.size≤b∧∃cs T fr,w.heap[b]? =some (.cells cs T fr)∧T≠127∧T≠124∧T≠130):Vp w0 w' S I L ov M tl:=by
 refine m.by' hf hI (fun b hb=> ?_) fun p hp b hb=> ?_
 ·obtain⟨h1,cs,T,fr,hc,n1,n2,n3⟩:=hX b hb
  refine⟨h1,?_,X9 m.map hc⟩
  rintro rfl
  rw[m.var] at hc;injection hc with hc;injection hc with _ e _;exact n1 e.symm
 ·obtain⟨h1,cs,T,fr,hc,n1,n2,n3⟩:=hX b hb
  obtain⟨sv',hv',cs',hb',_,_,hrow',_⟩:=(m.things p hp).2.ex
  refine⟨?_,fun he=> ?_⟩
  ·rintro rfl
   rw[hb'] at hc;injection hc with hc;injection hc with _ e _;exact n2 e.symm
  ·obtain⟨c1,h1'⟩:=Z0 hrow' he
   rw[h1'] at hc;injection hc with hc;injection hc with _ e _;exact n3 e.symm
theorem zh {v:V} (hk:k (.tuple #[v,.bool true]) w):px P (Instr.typeAssert (.iface 126 v) 136 126 true) w k:=by
 refine Z9 (w':=w) ?_ hk
 simp[Instr.typeAssert,run_underlying underlying126,Result.andThen]
theorem S7 {t:TypeId} {v:V} (ht:t≠126) (hk:k (.tuple #[.agg #[.string (ByteArray.mk #[]),.pointer none],.bool false]) w):px P (Instr.typeAssert (.iface t v) 136 126 true) w k:=by
 refine Z9 (w':=w) ?_ hk
 simp[Instr.typeAssert,run_underlying underlying126,Result.andThen,ht,zeroValue126]
theorem NO {ov M:Nat} {tl:Twins} {cn:Turn} (h:Yi w0 D S O I L) (m:Vp w0 w S I L ov M tl) (hr:∀n t,cn= .mk n t→reach S t∧t∈tl.map (·.1)) (hk:∀w',Fr no w w'→k (Yb (ZT tl) cn) w'):
   AS P (Yb L.loc cn) "freight/disk.twin" [.map (some M)] w k:=by
 cases cn with
 | mk n t =>
   refine Js (f:=180) (by kernel_rfl) underlying126 (fun e h=>by cases h) ?_
   refine xK _ _ _ _ ?_
   unfold Lp
   refine Yw ?_
   have f1:=Fr.alloc no w (.cells #[.string n,ptr (L.loc t)] 126)
   have b1:=Z2 w (.cells #[.string n,ptr (L.loc t)] 126)
   show px P _ (w.alloc (.cells #[.string n,ptr (L.loc t)] 126)) _
   generalize w.alloc (.cells #[.string n,ptr (L.loc t)] 126)=w1 at *
   obtain⟨hreach,htm⟩:=hr n t rfl
   have m1:=m.off (fun b hb=>h.lt b (.inr hb)) f1 fun b hb=>hb.elim
   obtain⟨sv,hv,cs,hb0,_⟩:=(h.things t hreach).ex
   refine Ko (Zj (v:= .string n) (isAgg9 _) b1 rfl (C9 (Zj (v:=ptr (L.loc t)) (isAgg117 _) b1 rfl ?_)))
   refine Z9 (m1.map.lookup underlying127 underlying117 (sizeOf124 _) (by decide) (zeroValue117 _) ⟨_,_,m1.fr.get hb0 id⟩ (m1.blk h)) ?_
   have hg:Qp (Vj L tl) (L.loc t)=some (ZT tl t):=by
     rcases m1.get h hreach with ⟨_,hn⟩|⟨b,rb,hg,hmem⟩
     · exact absurd htm hn
     · rw[hg,(XD m1.nd hmem).1]
   rw[hg]
   refine Z9 (w':=w1) (v:= .agg #[.string n,ptr (ZT tl t)]) (by kernel_rfl) ?_
   exact Ac gN (hk w1 f1)
 | give a b =>
   refine Js (f:=182) (by kernel_rfl) underlying172 (fun e h=>by cases h) ?_
   refine xM _ _ _ _ ?_
   unfold Lt
   refine Yw ?_
   have f1:=Fr.alloc no w (.cells #[.string a,.string b] 172)
   have b1:=Z2 w (.cells #[.string a,.string b] 172)
   show px P _ (w.alloc (.cells #[.string a,.string b] 172)) _
   generalize w.alloc (.cells #[.string a,.string b] 172)=w1 at *
   refine Xm (m:=2) (isAgg172 _) (sizeOf172 _) b1 (by show 0+2≤2;decide) ?_
   exact Ac gO (hk w1 f1)
 | take n =>
   refine Js (f:=184) (by kernel_rfl) underlying177 (fun e h=>by cases h) ?_
   refine xO _ _ _ _ ?_
   unfold Lx
   exact Ac gP (hk w (Fr.refl _ _))
theorem ze0 {c ov M dk m1 m2:Nat} {rdv:V} {d1 d2:Names} {tl0:Twins} (h:Yi w0 D S O I L) (ok:S.Ok c)
   (hk:∀(ρ:Env) w rv tl,ρ 5=ptr dk→Tw w0 w S I L ov M dk m1 m2 d1 d2 rv rdv S.row tl→yM k ρ w)
   {ρ:Env} {w:Y} (e3:ρ 3=ptr ov) (e4:ρ 4= .func (.func 83) #[] #[ptr ov]) (e5:ρ 5=ptr dk) (e69:ρ 69=L.rowv) (e70:ρ 70=i64 S.row.length) (e71:ρ 71=i64 0)
   (hT:Tw w0 w S I L ov M dk m1 m2 d1 d2 (.slice none 0 0) rdv [] tl0):yI k ρ w:=by
 have hI:∀b,I b→b<w0.heap.size:=fun b hb=>h.lt b (.inr hb)
 have hrl:=ok.row
 have hsm:=ok.small
 refine Kx (m:=S.row.length) k (fun m ρ w=>∃(i:Nat) (rv:V) (tl:Twins),i+m=S.row.length∧ρ 3=ptr ov∧ρ 4= .func (.func 83) #[] #[ptr ov]∧ρ 5=ptr dk∧ρ 69=L.rowv∧ρ 70=i64 S.row.length∧ρ 71=i64 i∧Tw w0 w S I L ov M dk m1 m2 d1 d2 rv rdv (S.row.take i) tl) ?_
   ⟨0,.slice none 0 0,tl0,by omega,e3,e4,e5,e69,e70,e71,hT⟩
 rintro m ρ w ⟨i,rv,tl,him,e3,e4,e5,e69,e70,e71,hT⟩
 rw[PL]
 unfold zag
 rw[e69,e70,e71]
 by_cases hi:i<S.row.length
 · refine ZA     (by omega) (Zk      ?_)
   have hS:=(Src.Zt h.row).fr (by omega) hT.mid.fr fun _ _ h=>h
   have hu:(S.row.map (Yb L.loc))[i]? =some (Yb L.loc S.row[i]):=by simp[hi]
   refine Qk Em (y8 _) (isAgg136 _) hS hi hu fun p1=> ?_
   have hmem:S.row[i]∈S.row:=List.getElem_mem hi
   have go:∀(ρ':Env) w' tl',ρ' 3=ptr ov→ρ' 4= .func (.func 83) #[] #[ptr ov]→ρ' 5=ptr dk→ρ' 69=L.rowv→ρ' 70=i64 S.row.length→ρ' 71=i64 i→ρ' 11=Yb L.loc S.row[i]→Tw w0 w' S I L ov M dk m1 m2 d1 d2 rv rdv (S.row.take i) tl'→(∀n t,S.row[i]= .mk n t→t∈tl'.map (·.1))→
       Er k (fun ρ' w'=>∃m',m'<m∧∃(i:Nat) (rv:V) (tl:Twins),i+m'=S.row.length∧ρ' 3=ptr ov∧ρ' 4= .func (.func 83) #[] #[ptr ov]∧ρ' 5=ptr dk∧ρ' 69=L.rowv∧ρ' 70=i64 S.row.length∧ρ' 71=i64 i∧Tw w0 w' S I L ov M dk m1 m2 d1 d2 rv rdv (S.row.take i) tl) [1,1,0,0,1,1] ρ' w':=by
     intro ρ' w' tl' e3 e4 e5 e69 e70 e71 e11 T hin
     rw[PM]
     unfold zah
     rw[e3,e5,e11,e71]
     have fd:Fr no w' w'.drew:=Fr.drew _ _
     have Td:=T.off hI fd fun b hb=>hb.elim
     refine⟨fun w'=>(∃cs,w'.heap[dk]? =some (.cells cs 58 (0,0))∧cs[3]? =some rv)∧w'.heap[ov]? =some (.cells #[.map (some M)] 127 (0,0)),⟨⟨_,Td.disk,rfl⟩,Td.mid.var⟩,?_⟩
     refine Zi _ (fun w_ hS=>Uj ⟨rfl,rfl⟩) ?_
     refine Zi rv (fun w_ hS=>by obtain⟨⟨cs,h1,h2⟩,_⟩:=hS;exact Zj (isAgg55 _) h1 h2 ⟨rfl,rfl⟩) ?_
     refine Zi (.map (some M)) (fun w_ hS=>Zj (isAgg127 _) hS.2 rfl ⟨rfl,rfl⟩) ?_
     refine NO h Td.mid (fun n t e=>⟨.inr (.inr ⟨n,e▸hmem⟩),hin n t e⟩) fun w1 f1=> ?_
     have T1:=Td.off hI f1 fun b hb=>hb.elim
     refine⟨⟨⟨_,T1.disk,rfl⟩,T1.mid.var⟩,?_⟩
     refine Ku (Q0 _ _).1 ?_
     have f2:=Fr.alloc no w1 (.cells #[Yb (ZT tl') S.row[i]] 136)
     have hl2:=ZQ w1 0 136 1 #[Yb (ZT tl') S.row[i]] 1 (Nat.zero_le _) (by unfold maxLen;omega) rfl
     have z2:(w1.alloc (.cells #[Yb (ZT tl') S.row[i]] 136)).heap.size=w1.heap.size+1:=by simp
     refine⟨⟨⟨_,f2.get T1.disk id,rfl⟩,f2.get T1.mid.var id⟩,?_⟩
     generalize w1.alloc (.cells #[Yb (ZT tl') S.row[i]] 136)=w2 at *
     have T2:=T1.off hI f2 fun b hb=>hb.elim
     have hti:(S.row.take i).length=i:=by simp;omega
     refine zkc T2.row (Src.Zt hl2) (by intro u hu;simp at hu;subst hu;exact(Q0 _ _).2) (by rw[hti];omega) (Nat.zero_le _) fun v' w3 hrow3 f3 hb3=> ?_
     have hrvT:∀b,some b=Zv rv→w0.heap.size≤b∧∃cs T fr,w2.heap[b]? =some (.cells cs T fr)∧T≠127∧T≠124∧T≠130:=by
       intro b hb
       obtain⟨c1,h1⟩:=Z0 T2.row hb.symm
       exact⟨T2.lrv b hb.symm,_,_,_,h1,by decide,by decide,by decide⟩
     have mid3:=T2.mid.ofType hI f3 hrvT
     have dkne:¬some dk=Zv rv:=by
       intro hb
       obtain⟨c1,h1⟩:=Z0 T2.row hb.symm
       exact absurd (Zy h1 T2.disk) (by decide)
     have disk3:=f3.get T2.disk dkne
     refine⟨⟨⟨_,disk3,rfl⟩,mid3.var⟩,?_⟩
     refine Zi _ (fun w_ hS=>Uj ⟨rfl,rfl⟩) ?_
     refine YA (sizeOf55 _) (ZW hrow3).1 (ZW hrow3).2 disk3 (by show 3<11;decide) ?_
     have hd4:=Z6 disk3 3 v'
     have f4:Fr (fun b=>b=dk) w3 (w3.setCell ⟨dk,3,none⟩ v'):=Fr.setCell w3 ⟨dk,3,none⟩ v'
     have z4:(w3.setCell ⟨dk,3,none⟩ v').heap.size=w3.heap.size:=by simp[World.setCell]
     show px P _ (w3.setCell ⟨dk,3,none⟩ v') _
     generalize w3.setCell ⟨dk,3,none⟩ v'=w4 at *
     have mid4:=mid3.ofType hI f4 fun b hb=>⟨(show b=dk from hb)▸T2.ldk,_,_,_,(show b=dk from hb)▸disk3,by decide,by decide,by decide⟩
     have s13:∀ {m:Nat} {l:List (ByteArray×V)},SMap w2 m l→SMap w4 m l:=by
       intro m l hs
       refine(hs.fr f3 fun hb=> ?_).fr f4 fun hb=>Yz (hs.fr f3 fun hb=> ?_) disk3 hb.symm
       · obtain ⟨c1,h1⟩ := Z0      T2.row hb.symm
         exact Yz hs h1 rfl
       · obtain ⟨c1,h1⟩ := Z0      T2.row hb.symm
         exact Yz hs h1 rfl
     have hv'dk:∀b,Zv v'=some b→¬b=dk:=by
       rintro b hb rfl
       obtain⟨c1,h1⟩:=Z0 hrow3 hb
       exact absurd (Zy h1 disk3) (by decide)
     have T4:Tw w0 w4 S I L ov M dk m1 m2 d1 d2 v' rdv (S.row.take (i+1)) tl':= {
       mid:=mid4
       disk:=hd4
       s1:=s13 T2.s1
       s2:=s13 T2.s2
       row:=by
         have e1:S.row.take (i+1)=S.row.take i++[S.row[i]]:=List.take_succ_eq_append_getElem hi
         rw[e1,List.map_append,List.length_append]
         exact Z4 hrow3 f4 hv'dk
       reads:=by
         have hne:∀b,Zv rdv=some b→¬some b=Zv rv:=by
           intro b hb hb'
           obtain⟨c1,h1⟩:=Z0 T2.reads hb
           obtain⟨c2,h2⟩:=Z0 T2.row hb'.symm
           exact absurd (Zy h1 h2) (by decide)
         refine Z4 (Z4 T2.reads f3 hne) f4 ?_
         rintro b hb rfl
         obtain⟨c1,h1⟩:=Z0 (Z4 T2.reads f3 hne) hb
         exact absurd (Zy h1 disk3) (by decide)
       in1:=T2.in1
       in2:=T2.in2
       in3:=by
         intro n t hm
         rw[List.take_succ_eq_append_getElem hi] at hm
         rcases List.mem_append.1 hm with hm|hm
         · exact T2.in3 n t hm
         · rw[List.mem_singleton] at hm;exact hin n t hm.symm
       ldk:=T2.ldk
       l1:=T2.l1
       l2:=T2.l2
       n12:=T2.n12
       n1:=T2.n1
       n2:=T2.n2
       lrv:=by
         intro b hb
         rcases hb3 with e|e
         · rw[e] at hb;exact T2.lrv b hb
         · rw[e] at hb;injection hb with hb;have:=T2.mid.fr.size;omega
       lrd:=T2.lrd}
     refine Zp (by omega) ?_
     refine⟨m-1,by omega,i+1,v',tl',by omega,e3,e4,e5,e69,e70,?_,T4⟩
     show i64 _=i64 _;simp
   cases hc:S.row[i] with
   | mk n t =>
     refine zh (ZG rfl (ZG rfl ?_))
     refine Y9 (zeroValue126 _) ?_
     have f1:=Fr.alloc no w (.cells #[.string (ByteArray.mk #[]),.pointer none] 126)
     have b1:=Z2 w (.cells #[.string (ByteArray.mk #[]),.pointer none] 126)
     have z1:(w.alloc (.cells #[.string (ByteArray.mk #[]),.pointer none] 126)).heap.size=w.heap.size+1:=by simp
     show pu P _ (w.alloc (.cells #[.string (ByteArray.mk #[]),.pointer none] 126)) _
     generalize w.alloc (.cells #[.string (ByteArray.mk #[]),.pointer none] 126)=w1 at *
     refine Va (vs:=[.string n,ptr (L.loc t)]) (sizeOf126 _) rfl (by intro u hu;simp at hu;rcases hu with rfl|rfl<;>rfl) b1 (by show 0+2≤2;decide) fun w2 hb2 f2 z2=> ?_
     have f02:Fr no w w2:=(f1.or f2).mono (by
       rintro b (hb|hb)
       · exact hb.elim
       · have hb':b=w.heap.size:=hb;right;omega)
     have T2:=hT.off hI f02 fun b hb=>hb.elim
     have hreach:reach S t:= .inr (.inr ⟨n,hc▸hmem⟩)
     refine Zk (C9 (Zj (v:=ptr (L.loc t)) (isAgg117 _) hb2 rfl ?_))
     rw[e4]
     show pFn P 83 [ptr (L.loc t),ptr ov] w2 _
     refine Cq h ok T2.mid hreach fun w3 tl' b rb m3 hmem3 f3=> ?_
     have htm:t∈(tl++tl').map (·.1):=List.mem_map_of_mem (f:=fun p:Nat×Nat×V=>p.1) hmem3
     exact go _ w3 (tl++tl') (by exact e3) (by exact e4) (by exact e5) (by exact e69) (by exact e70) (by exact e71) (by rw[hc];rfl) (T2.grow m3 f3) (fun n' t' e=>by rw[hc] at e;injection e with e1 e2;subst e2;exact htm)
   | give a b =>
     refine S7 (by decide) (ZG rfl (ZG rfl ?_))
     refine Y9 (zeroValue126 _) ?_
     have f1:=Fr.alloc no w (.cells #[.string (ByteArray.mk #[]),.pointer none] 126)
     have b1:=Z2 w (.cells #[.string (ByteArray.mk #[]),.pointer none] 126)
     show pu P _ (w.alloc (.cells #[.string (ByteArray.mk #[]),.pointer none] 126)) _
     have z1:(w.alloc (.cells #[.string (ByteArray.mk #[]),.pointer none] 126)).heap.size=w.heap.size+1:=by simp
     generalize w.alloc (.cells #[.string (ByteArray.mk #[]),.pointer none] 126)=w1 at *
     refine Va (vs:=[.string (ByteArray.mk #[]),.pointer none]) (sizeOf126 _) rfl (by intro u hu;simp at hu;rcases hu with rfl|rfl<;>rfl) b1 (by show 0+2≤2;decide) fun w2 hb2 f2 z2=> ?_
     have f02:Fr no w w2:=(f1.or f2).mono (by
       rintro b (hb|hb)
       · exact hb.elim
       · have hb':b=w.heap.size:=hb;right;omega)
     have T2:=hT.off hI f02 fun b hb=>hb.elim
     refine Zf (go _ w2 tl (by exact e3) (by exact e4) (by exact e5) (by exact e69) (by exact e70) (by exact e71) (by rw[hc];rfl) T2 (fun n' t' e=>by rw[hc] at e;cases e))
   | take n =>
     refine S7 (by decide) (ZG rfl (ZG rfl ?_))
     refine Y9 (zeroValue126 _) ?_
     have f1:=Fr.alloc no w (.cells #[.string (ByteArray.mk #[]),.pointer none] 126)
     have b1:=Z2 w (.cells #[.string (ByteArray.mk #[]),.pointer none] 126)
     show pu P _ (w.alloc (.cells #[.string (ByteArray.mk #[]),.pointer none] 126)) _
     have z1:(w.alloc (.cells #[.string (ByteArray.mk #[]),.pointer none] 126)).heap.size=w.heap.size+1:=by simp
     generalize w.alloc (.cells #[.string (ByteArray.mk #[]),.pointer none] 126)=w1 at *
     refine Va (vs:=[.string (ByteArray.mk #[]),.pointer none]) (sizeOf126 _) rfl (by intro u hu;simp at hu;rcases hu with rfl|rfl<;>rfl) b1 (by show 0+2≤2;decide) fun w2 hb2 f2 z2=> ?_
     have f02:Fr no w w2:=(f1.or f2).mono (by
       rintro b (hb|hb)
       · exact hb.elim
       · have hb':b=w.heap.size:=hb;right;omega)
     have T2:=hT.off hI f02 fun b hb=>hb.elim
     refine Zf (go _ w2 tl (by exact e3) (by exact e4) (by exact e5) (by exact e69) (by exact e70) (by exact e71) (by rw[hc];rfl) T2 (fun n' t' e=>by rw[hc] at e;cases e))
 · refine ZB     (by omega) (Zf       ?_)
   rw[PN]
   have e:S.row.take i=S.row:=List.take_of_length_le (by omega)
   rw[e] at hT
   exact hk _ w rv tl e5 hT
theorem Da {n:Nat} {rb:V} {cs:List V} (h:w.ownsRow 0 134 3 rb n cs) (h1:∀u∈cs,u.oneCell'=true) (hn:n≤1099511627776)
   (hk:∀v w',Fr no w w'→w'.ownsRow 0 134 3 v n cs→(∀b,Zv v=some b→w.heap.size≤b∧b<w'.heap.size)→k v w'):pFn P 85 [rb] w k:=by
 refine Tu _ _ _ ?_
 unfold RA
 rcases h.2 with ⟨rfl,h0⟩|⟨g,cap,cur,rfl,hrest⟩
 · subst h0
   refine QP underlying56 (Zk (hk _ _ (Fr.refl _ _) ⟨by simpa using h.1,.inl ⟨rfl,rfl⟩⟩ (by intro b hb;cases hb)))
 · refine QP     underlying56 (Zf       (AL      ?_))
   have f1:=Fr.alloc no w (.cells #[] 134)
   have ho:=ZQ w 0 134 3 #[] 0 (Nat.zero_le _) (by unfold maxLen;omega) rfl
   have z1:(w.alloc (.cells #[] 134)).heap.size=w.heap.size+1:=by simp
   show px P _ (w.alloc (.cells #[] 134)) _
   generalize w.alloc (.cells #[] 134)=w1 at *
   refine yA ho ((Src.Zt h).fr (by omega) f1 fun _ _ h=>h) h1 (by omega) (Nat.zero_le _) fun v' w2 h2 f2 hb2=> ?_
   rw[Nat.zero_add] at h2
   refine hk v' w2 ((f1.or f2).mono ?_) (by simpa using h2) ?_
   · rintro b (hb | hb)
     · exact hb.elim
     · injection hb with hb;have hb'':b=w.heap.size:=hb;exact .inr (by omega)
   · intro b hb
     have hlt:=(Zu h2 hb).2
     rcases hb2 with e|e
     · rw[e] at hb;injection hb with hb;have hb'':w.heap.size=b:=hb;omega
     · rw[e] at hb;injection hb with hb;omega
theorem DY {S:AD} {L:Lay} (h1:L.rowv.oneCell'=true) (h2:L.readsv.oneCell'=true):∀v∈(Yy S L).toList,v.oneCell'=true:=by
 intro v hv
 simp only[Yy,List.mem_cons,List.not_mem_nil,or_false] at hv
 rcases hv with rfl|rfl|rfl|rfl|rfl|rfl|rfl|rfl|rfl|rfl|rfl<;>first|rfl|assumption
theorem jg {c:Nat} (h:Yi w D S O I L) (ok:S.Ok c) (hk:∀w' D' L',Yi w' D' S (fun b=>w.heap.size≤b∧b<w'.heap.size) I L'→Fr no w w'→k (ptr D') w'):pFn P 24 [ptr D] w k:=by
 refine zai _ _ _ ?_
 unfold yJ
 refine Vz h.disk ok.room.1 (Zf ?_)
 have hrd:=ok.reads
 have hsm:=ok.small
 refine zhz ?_
 have f1:=Fr.alloc no w (.map #[] 0)
 have p1:=CY.made w
 have z1:(w.alloc (.map #[] 0)).heap.size=w.heap.size+1:=by simp
 show px P _ (w.alloc (.map #[] 0)) _
 generalize w.alloc (.map #[] 0)=w1 at *
 refine Y9 (zeroValue127 _) ?_
 have f2:=Fr.alloc no w1 (.cells #[.map none] 127)
 have b2:=Z2 w1 (.cells #[.map none] 127)
 have z2:(w1.alloc (.cells #[.map none] 127)).heap.size=w1.heap.size+1:=by simp
 show pu P _ (w1.alloc (.cells #[.map none] 127)) _
 generalize w1.alloc (.cells #[.map none] 127)=w2 at *
 refine YA (sizeOf127 _) rfl rfl b2 (by show 0<1;decide) ?_
 have b3:=Z6 b2 0 (.map (some w.heap.size))
 have f3:Fr (fun b=>b=w1.heap.size) w2 (w2.setCell ⟨w1.heap.size,0,none⟩ (.map (some w.heap.size))):=Fr.setCell w2 ⟨w1.heap.size,0,none⟩ _
 have z3:(w2.setCell ⟨w1.heap.size,0,none⟩ (.map (some w.heap.size))).heap.size=w2.heap.size:=by simp[World.setCell]
 show px P _ (w2.setCell ⟨w1.heap.size,0,none⟩ (.map (some w.heap.size))) _
 generalize w2.setCell ⟨w1.heap.size,0,none⟩ (.map (some w.heap.size))=w3 at *
 have f03:Fr no w w3:=((f1.or f2).or f3).mono (by
  rintro b ((hb|hb)|hb)
  ·exact hb.elim
  ·exact hb.elim
  ·have hb':b=w1.heap.size:=hb;right;omega)
 refine US (Zn (Xm (m:=11) (isAgg58 _) (sizeOf58 _) (f03.get h.disk id) (by show 0+11≤11;decide) ?_))
 refine Y9 (zeroValue58 _) ?_
 generalize hz:(Value.cells _:Array V)=zs
 have hzs:zs.size=11:=by rw[←hz];rfl
 have f4:=Fr.alloc no w3 (.cells zs 58)
 have b4:=Z2 w3 (.cells zs 58)
 have z4:(w3.alloc (.cells zs 58)).heap.size=w3.heap.size+1:=by simp
 show pu P _ (w3.alloc (.cells zs 58)) _
 generalize w3.alloc (.cells zs 58)=w4 at *
 refine Va (vs:=(Yy S L).toList) (sizeOf58 _) rfl (DY (ZW h.row).2 (ZW h.reads).2) b4 (by omega) fun w5 b5 f5 z5=> ?_
 have e5:(zs.toList.take 0++(Yy S L).toList++zs.toList.drop (0+11)).toArray=Yy S L:=by
  have:zs.toList.drop (0+11)=[]:=List.drop_eq_nil_of_le (by simp;omega)
  rw[this];simp
 rw[e5] at b5
 have f05:Fr no w w5:=((f03.or f4).or f5).mono (by
  rintro b ((hb|hb)|hb)
  ·exact hb.elim
  ·exact hb.elim
  ·have hb':b=w3.heap.size:=hb;right;omega)
 have p5:CY w5 w.heap.size []:=(((p1.fr f2 id).fr f3 (fun e=>by have e':w.heap.size=w1.heap.size:=e;omega)).fr f4 id).fr f5 (fun e=>by have e':w.heap.size=w3.heap.size:=e;omega)
 have v5:w5.heap[w1.heap.size]? =some (.cells #[.map (some w.heap.size)] 127 (0,0)):=f5.get (f4.get b3 id) (fun e=>by have e':w1.heap.size=w3.heap.size:=e;omega)
 clear p1 b2 b3 b4 f1 f2 f3 f4 f5 hz
 refine zcp ?_
 have f6:=Fr.alloc no w5 (.map #[] 0)
 have s6:=SMap.made w5
 have z6:(w5.alloc (.map #[] 0)).heap.size=w5.heap.size+1:=by simp
 show px P _ (w5.alloc (.map #[] 0)) _
 generalize w5.alloc (.map #[] 0)=w6 at *
 refine zcp ?_
 have f7:=Fr.alloc no w6 (.map #[] 0)
 have s7:=SMap.made w6
 have z7:(w6.alloc (.map #[] 0)).heap.size=w6.heap.size+1:=by simp
 show px P _ (w6.alloc (.map #[] 0)) _
 generalize w6.alloc (.map #[] 0)=w7 at *
 have s67:=s6.fr f7 id
 have f07:Fr no w w7:=((f05.or f6).or f7).mono (by rintro b ((hb|hb)|hb)<;>exact hb.elim)
 have f57:Fr no w5 w7:=(f6.or f7).mono (by rintro b (hb|hb)<;>exact hb.elim)
 refine Zn (UC (Zj (v:=L.readsv) (isAgg56 _) (f07.get h.disk id) rfl ?_))
 refine Da (Z4 h.reads f07 fun _ _ h=>h) (by
  intro u hu
  obtain⟨q,_,hq⟩:=List.mem_flatMap.1 hu
  simp[Z3] at hq
  rcases hq with rfl|rfl|rfl<;>rfl) (by omega) fun rdv w8 f8 hrd8 hrdb=> ?_
 have b8:=f8.get (f57.get b5 id) id
 have e8:w3.heap.size=w.heap.size+2:=by omega
 refine XF (YA (sizeOf54 _) rfl rfl b8 (by show 1<11;decide) ?_)
 have b9:=Z6 b8 1 (.map (some w5.heap.size))
 have f9:Fr (fun b=>b=w3.heap.size) w8 (w8.setCell ⟨w3.heap.size,1,none⟩ (.map (some w5.heap.size))):=Fr.setCell w8 ⟨w3.heap.size,1,none⟩ _
 have z9:(w8.setCell ⟨w3.heap.size,1,none⟩ (.map (some w5.heap.size))).heap.size=w8.heap.size:=by simp[World.setCell]
 show px P _ (w8.setCell ⟨w3.heap.size,1,none⟩ (.map (some w5.heap.size))) _
 generalize w8.setCell ⟨w3.heap.size,1,none⟩ (.map (some w5.heap.size))=w9 at *
 refine Ui (YA (sizeOf54 _) rfl rfl b9 (by show 2<11;decide) ?_)
 have b10:=Z6 b9 2 (.map (some w6.heap.size))
 have f10:Fr (fun b=>b=w3.heap.size) w9 (w9.setCell ⟨w3.heap.size,2,none⟩ (.map (some w6.heap.size))):=Fr.setCell w9 ⟨w3.heap.size,2,none⟩ _
 have z10:(w9.setCell ⟨w3.heap.size,2,none⟩ (.map (some w6.heap.size))).heap.size=w9.heap.size:=by simp[World.setCell]
 show px P _ (w9.setCell ⟨w3.heap.size,2,none⟩ (.map (some w6.heap.size))) _
 generalize w9.setCell ⟨w3.heap.size,2,none⟩ (.map (some w6.heap.size))=w10 at *
 refine Uj (YA (sizeOf55 _) rfl rfl b10 (by show 3<11;decide) ?_)
 have b11:=Z6 b10 3 (.slice none 0 0)
 have f11:Fr (fun b=>b=w3.heap.size) w10 (w10.setCell ⟨w3.heap.size,3,none⟩ (.slice none 0 0)):=Fr.setCell w10 ⟨w3.heap.size,3,none⟩ _
 have z11:(w10.setCell ⟨w3.heap.size,3,none⟩ (.slice none 0 0)).heap.size=w10.heap.size:=by simp[World.setCell]
 show px P _ (w10.setCell ⟨w3.heap.size,3,none⟩ (.slice none 0 0)) _
 generalize w10.setCell ⟨w3.heap.size,3,none⟩ (.slice none 0 0)=w11 at *
 refine UC (YA (sizeOf56 _) (ZW hrd8).1 (ZW hrd8).2 b11 (by show 10<11;decide) ?_)
 have b12:=Z6 b11 10 rdv
 have f12:Fr (fun b=>b=w3.heap.size) w11 (w11.setCell ⟨w3.heap.size,10,none⟩ rdv):=Fr.setCell w11 ⟨w3.heap.size,10,none⟩ _
 have z12:(w11.setCell ⟨w3.heap.size,10,none⟩ rdv).heap.size=w11.heap.size:=by simp[World.setCell]
 show px P _ (w11.setCell ⟨w3.heap.size,10,none⟩ rdv) _
 generalize w11.setCell ⟨w3.heap.size,10,none⟩ rdv=w12 at *
 have z8:=f8.size
 have f812:Fr (fun b=>b=w3.heap.size) w8 w12:=(((f9.or f10).or f11).or f12).mono (by rintro b (((hb|hb)|hb)|hb)<;>exact .inl hb)
 have f512:Fr (fun b=>b=w3.heap.size) w5 w12:=((f57.or f8).or f812).mono (by
  rintro b ((hb|hb)|hb)
  ·exact hb.elim
  ·exact hb.elim
  ·exact .inl hb)
 have f012:Fr no w w12:=(f05.or f512).mono (by
  rintro b (hb|hb)
  ·exact hb.elim
  ·have hb':b=w3.heap.size:=hb;right;omega)
 have T12:Tw w w12 S I L w1.heap.size w.heap.size w3.heap.size w5.heap.size w6.heap.size [] [] (.slice none 0 0) rdv [] []:= {
  mid:= {
   var:=f512.get v5 (fun e=>by have e':w1.heap.size=w3.heap.size:=e;omega)
   map:=p5.fr f512 (fun e=>by have e':w.heap.size=w3.heap.size:=e;omega)
   things:=fun p hp=>by cases hp
   apart:=List.Pairwise.nil
   nd:=List.nodup_nil
   fr:=f012
   lov:=by omega
   lm:=Nat.le_refl _}
  disk:=b12
  s1:=(s67.fr f8 id).fr f812 (fun e=>by have e':w5.heap.size=w3.heap.size:=e;omega)
  s2:=(s7.fr f8 id).fr f812 (fun e=>by have e':w6.heap.size=w3.heap.size:=e;omega)
  row:=⟨rfl,.inl ⟨rfl,rfl⟩⟩
  reads:=Z4 hrd8 f812 (fun b hb e=>by have e':b=w3.heap.size:=e;have:=(hrdb b hb).1;omega)
  in1:=fun p hp=>by cases hp
  in2:=fun p hp=>by cases hp
  in3:=fun n t hp=>by cases hp
  ldk:=by omega
  l1:=by omega
  l2:=by omega
  n12:=by omega
  n1:=by omega
  n2:=by omega
  lrv:=fun b hb=>by cases hb
  lrd:=fun b hb=>by have:=(hrdb b hb).1;omega}
 refine Zn (XF (Zj (v:= .map (some L.sh)) (isAgg54 _) (f012.get h.disk id) rfl ?_))
 refine C8 (h.sh.fr f012 id) underlying54 fun w13 hi13 f13 z13=> ?_
 have hI:∀b,I b→b<w.heap.size:=fun b hb=>h.lt b (.inr hb)
 have T13:=T12.off hI f13 fun b hb=>hb.elim
 refine zey (DD:=[]) h ok (by omega) ?_ rfl rfl rfl rfl rfl T13 hi13
 intro ρ w14 d1 tl1 e0 e3 e4 e5 T14 hp1 hs1
 unfold yK
 rw[e0]
 refine Zn (Ui (Zj (v:= .map (some L.sf)) (isAgg54 _) (T14.mid.fr.get h.disk id) rfl ?_))
 refine C8 (h.sf.fr T14.mid.fr id) underlying54 fun w15 hi15 f15 z15=> ?_
 have T15:=T14.off hI f15 fun b hb=>hb.elim
 refine zez h ok (by have:=T14.mid.fr.size;omega) ?_ (by exact e0) (by exact e3) (by exact e4) (by exact e5) rfl T15 hi15
 intro ρ w16 d2 tl2 e0 e3 e4 e5 T16 hp2 hs2
 unfold yL
 rw[e0]
 refine Zn (Uj (Zj (v:=L.rowv) (isAgg55 _) (T16.mid.fr.get h.disk id) rfl ?_))
 refine ZF Em ((Src.Zt h.row).fr (by omega) T16.mid.fr fun _ _ h=>h) ?_
 refine ze0 h ok ?_ (by exact e3) (by exact e4) (by exact e5) rfl rfl rfl T16
 intro ρ w17 rv tl3 e5 T17
 unfold yM
 rw[e5]
 exact hk w17 _ _ (T17.rep h hp1 hp2) T17.mid.fr
end
end Go.Proofs.YtcdcojpfealppaaGreat
