/- Put together by a program (wip/tools/shake.py): RTwin4,RTwin5,Desk. -/
import Derived.Test.YtcdcojpfealppaaGreatY28
import Derived.Test.YtcdcojpfealppaaGreatY14
set_option linter.unusedVariables false
set_option linter.unusedSimpArgs false
set_option maxRecDepth 100000
open Go renaming World → Y, Value → V
namespace Go.Proofs.YtcdcojpfealppaaGreat
open Go Go.Proofs Go.RowKit Go.Proofs.XRed Go.Proofs.XHeap Go.Proofs.XMaps Go.Proofs.XSlices Go.Proofs.XDisk Go.Proofs.XCalls Go.Proofs.XPtr Go.Proofs.XSep Tryz
section
variable {w w0:Y} {D:Nat} {S S':AD} {O I:Nat → Prop} {L L':Uy} {k:KV}
def XS (loc:Nat→Nat):Turn→V
 | .mk _ t=>ptr (loc t)
 |_=> .pointer none
theorem HP (loc:Nat→Nat) (c:Turn):(Yp loc c)[3]? =some (XS loc c):=by cases c<;>rfl
theorem HQ (loc loc':Nat→Nat) (c:Turn):(Yp loc c).toArray.setIfInBounds 3 (XS loc' c)=(Yp loc' c).toArray:=by cases c<;>rfl
theorem Pn {ov mv dv:V} {tl:Y4} {X:Nat} {cs:Array V} {c:Turn} (h:YC w0 D S O I L) (m:RTw w0 w S L ov mv tl X cs dv) (hl:tl.length≤4611686018427387904) (hc:∀n t,c= .mk n t→L.has t∧t∈tl.map (·.1)) (hk:k (XS (ZT tl) c) w):pFn P 87 [ov,mv,XS L.loc c] w k:=by
 cases c with
 |mk n t=>
  obtain⟨hhas,hin⟩:=hc n t rfl
  have h':=h.fr m.fr fun b hb=>hb.elim
  have hblk:∀t,L.has t→Blk w (L.loc t):=fun t ht=>by obtain⟨c,h⟩:=(h'.things t ht).obj;exact⟨c,_,h⟩
  refine QM (Src.Zt m.old) (Src.Zt m.made) hl (hblk _ hhas) (fun p hp=>hblk _ (m.has p hp)) (fun p hp e=> ?_) fun hno=> ?_
  ·have ep:p.1=t:=h.inj _ _ (m.has p hp) hhas e
   have:ZT tl t=p.2.1:=by rw[←ep];exact(XD m.nd hp).1
   rw[←this];exact hk
  ·obtain⟨p,hp,e⟩:=List.mem_map.1 hin
   exact absurd (by rw[e]) (hno p hp)
 |give a b=>exact J5 (Src.Zt m.old) hl hk
 |take n=>exact J5 (Src.Zt m.old) hl hk
set_option maxHeartbeats 1000000 in
theorem zga {ov mv dv nv bv tv:V} {tl:Y4} {X i:Nat} {kN:KE} (h:YC w0 D S O I L) (m:RTw w0 w S L ov mv tl X #[.bool (!S.off),i64 S.room,nv,bv,tv,i64 S.strokes,i64 S.since,i64 S.plan.off,i64 S.plan.from_,i64 S.plan.to_,dv] dv)
   (hin:∀n t,Turn.mk n t∈S.row→t∈tl.map (·.1)) (hl:tl.length≤1099511627776) (hlen:S.row.length≤1099511627776) (hn:w.ownsRow w0.heap.size 146 4 tv i ((S.row.take i).flatMap (Yp (ZT tl)))) {ρ:Env} (e0:ρ 0=ptr D) (e3:ρ 3=ptr X) (e4:ρ 4=ov) (e5:ρ 5=mv) (eI:ρ 11=i64 i)
   (hout:¬i<S.row.length→k (ptr X) w)
   (hnext:i<S.row.length→∀ρ' w' tv',RTw w0 w' S L ov mv tl X #[.bool (!S.off),i64 S.room,nv,bv,tv',i64 S.strokes,i64 S.since,i64 S.plan.off,i64 S.plan.from_,i64 S.plan.to_,dv] dv→w'.ownsRow w0.heap.size 146 4 tv' (i+1) ((S.row.take (i+1)).flatMap (Yp (ZT tl)))→
     Fr (fun b=>b=X∨Zv tv=some b) w w'→ρ' 0=ptr D→ρ' 3=ptr X→ρ' 4=ov→ρ' 5=mv→ρ' 11=i64 (i+1)→kN ρ' w'):Fq k kN ρ w:=by
 unfold Fq
 rw[e0,eI,e4,e5,e3]
 have h':=h.fr m.fr fun b hb=>hb.elim
 refine Zn (Vx (Zj (v:=L.turnv) (isAgg60 _) h'.disk rfl (ZF Eo (Src.Zt h'.turns) ?_)))
 by_cases hi:i<S.row.length
 · refine ZA     (by omega) (Zk      (Zn    (Vx     (Zj    (v := L.turnv) (isAgg60 _) h'.disk rfl ?_))))
   refine Um (m:=0) (vs:=Yp L.loc S.row[i]) Eo (y9 _) (isAgg146 _) (sizeOf146 _) (Src.Zt h'.turns) hi (by omega) (YO _ _) (fun j hj=>Vf (f:=Yp L.loc) (YO L.loc) (List.getElem?_eq_getElem hi) hj) fun q3=> ?_
   refine U5 (loc:=L.loc) (t:=S.row[i]) fun w1 ha f1 z1=> ?_
   have zf:=m.fr.size
   have hmk:∀n t,S.row[i]= .mk n t→L.has t∧t∈tl.map (·.1):=fun n t e=>by
     have hm:Turn.mk n t∈S.row:=by rw[←e];exact List.getElem_mem hi
     exact⟨h.sub t (.inr (.inr ⟨n,hm⟩)),hin n t hm⟩
   have hta:S.row.take (i+1)=S.row.take i++[S.row[i]]:=List.take_succ_eq_append_getElem hi
   generalize S.row[i]=c at *
   have m1:=m.quiet f1
   unfold ptr
   refine AE (Zj (v:=XS L.loc c) (isAgg142 _) ha (by simpa using HP L.loc c) ?_)
   refine Pn h m1 (by omega) hmk ?_
   have hone:(XS (ZT tl) c).cells= #[XS (ZT tl) c]∧(XS (ZT tl) c).oneCell'=true:=by cases c<;>exact⟨rfl,rfl⟩
   refine AE (YA (sizeOf142 _) hone.1 hone.2 ha (by simp[YO]) ?_)
   have a2:=Z6 ha 3 (XS (ZT tl) c)
   rw[HQ] at a2
   have f2:Fr (fun b=>b=w.heap.size) w1 (w1.setCell ⟨w.heap.size,0+3,none⟩ (XS (ZT tl) c)):=Fr.setCell w1 ⟨w.heap.size,3,none⟩ _
   have z2:(w1.setCell ⟨w.heap.size,0+3,none⟩ (XS (ZT tl) c)).heap.size=w1.heap.size:=by simp[World.setCell]
   replace a2:(w1.setCell ⟨w.heap.size,0+3,none⟩ (XS (ZT tl) c)).heap[w.heap.size]? =some (.cells (Yp (ZT tl) c).toArray 146 (0,0)):=a2
   generalize w1.setCell ⟨w.heap.size,0+3,none⟩ (XS (ZT tl) c)=w2 at *
   have f02:Fr no w w2:=f1.trans f2 fun b hb=> .inr (by omega)
   have m2:=m.quiet f02
   refine Vx (Zj (v:=tv) (isAgg60 _) m2.xd rfl ?_)
   refine JZ (a:=w.heap.size) a2 ?_
   refine Z9 (w':=w2.alloc (.cells (Yp (ZT tl) c).toArray 146)) (v:= .slice (some ⟨w2.heap.size,0,none⟩) 1 1) (by unfold X0;cases c<;>kernel_rfl) ?_
   have f3:=Fr.alloc no w2 (.cells (Yp (ZT tl) c).toArray 146)
   have ho3:=ZQ w2 0 146 4 (Yp (ZT tl) c).toArray 1 (Nat.zero_le _) (by unfold maxLen;omega) (by simp[YO])
   have z3:(w2.alloc (.cells (Yp (ZT tl) c).toArray 146)).heap.size=w2.heap.size+1:=by simp
   generalize w2.alloc (.cells (Yp (ZT tl) c).toArray 146)=w3 at *
   have f03:Fr no w w3:=f02.trans f3 fun b=> .inl
   refine zkd (Z4 hn f03 fun _ _ h=>h) (Src.Zt ho3) (by simpa using QH (ZT tl) c) (by omega) (by omega) fun v4 w4 h4 f4 hb4=> ?_
   have hnw:∀x,Zv tv=some x→w0.heap.size≤x∧x<w.heap.size∧x≠X:=fun x hx=>⟨(Zu hn hx).1,(Zu hn hx).2,by
     rintro rfl
     obtain⟨c2,hc2⟩:=Z0 hn hx
     exact absurd (Zy hc2 m.xd) (by decide)⟩
   have hXw:=ZS m.xd
   have f04:Fr (fun x=>Zv tv=some x) w w4:=(f03.mono fun b hb=>hb.elim).trans f4 fun x hx=> .inl hx.symm
   have x4:=f04.get m.xd fun hx=>(hnw X hx).2.2 rfl
   have v4o:=ZW h4
   refine Vx (YA (sizeOf60 _) v4o.1 v4o.2 x4 (by show 4<11;decide) ?_)
   have x5:=Z6 x4 4 v4
   have f5:Fr (fun x=>x=X) w4 (w4.setCell ⟨X,4,none⟩ v4):=Fr.setCell w4 ⟨X,4,none⟩ _
   have hv4X:∀x,Zv v4=some x→x≠X:=by
     intro x hx
     rcases hb4 with e|e
     · exact(hnw x (e▸hx)).2.2
     · rw[e] at hx;injection hx with hx;omega
   have f05:Fr (fun x=>x=X∨Zv tv=some x) w (w4.setCell ⟨X,4,none⟩ v4):=(f04.mono fun x hx=> .inl (.inr hx)).trans f5 fun x hx=> .inl (.inl hx)
   refine Zp (by omega) (hnext hi _ _ v4 (m.step f05 (fun x hx=> ?_) (fun x hx=>hx.imp id fun e=> .inr (Z0 hn e)) (by rw[show (w4.setCell ⟨X,0+4,none⟩ v4)=w4.setCell ⟨X,4,none⟩ v4 from rfl,x5];rfl)) ?_ f05 e0 e3 e4 e5 rfl)
   · rcases hx with rfl | hx
     · exact m.lx
     · exact(hnw x hx).1
   · rw [hta,List.flatMap_append]
     exact Z4 (by simpa using h4) f5 hv4X
 · refine ZB     (by omega) (Zf       ?_)
   rw[Fv]
   suffices hs:∀ρ2:Env,ρ2 3=ptr X→Fu k ρ2 w from hs _ e3
   intro ρ2 a3
   unfold Fu
   rw[a3];exact hout hi
theorem zgb {ov mv dv:V} {tl:Y4} {X i c:Nat} {cs:Array V} {kN:KE} (h:YC w0 D S O I L) (ok:S.Ok c) (m:RTw w0 w S L ov mv tl X cs dv) (hl:tl.length≤1099511627775) {ρ:Env} (e0:ρ 0=ptr D) (e3:ρ 3=ptr X) (e4:ρ 4=ov) (e5:ρ 5=mv) (eI:ρ 6=i64 i)
   (hout:¬i<S.shown.length→∀ρ',ρ' 0=ptr D→ρ' 3=ptr X→ρ' 4=ov→ρ' 5=mv→Wm k ρ' w)
   (hnext:∀(hi:i<S.shown.length),∀ρ' w' ov' mv' ext,RTw w0 w' S L ov' mv' (tl++ext) X cs dv→S.shown[i].2∈(tl++ext).map (·.1)→ext.length≤1→ρ' 0=ptr D→ρ' 3=ptr X→ρ' 4=ov'→ρ' 5=mv'→ρ' 6=i64 (i+1)→kN ρ' w'):Wl k kN ρ w:=by
 have hsm:=ok.small
 have hlen:=ok.turns.len
 unfold Wl
 rw[e0,eI,e4,e5]
 have h':=h.fr m.fr fun b hb=>hb.elim
 refine Zn (Yx (Zj (v:=L.nowv) (isAgg59 _) h'.disk rfl (ZF X6 h'.now.1 ?_)))
 by_cases hi:i<S.shown.length
 · have hre : reach S S.shown[i].2 := .inl ⟨S.shown[i].1,List.getElem_mem hi⟩
   refine ZA (by omega) (Zk (Zn (Yx (Zj (v:=L.nowv) (isAgg59 _) h'.disk rfl (XA h'.now.1 hi fun p q=> ?_)))))
   refine zf7 h m (h.sub _ hre) (ok.Yk _ hre) hsm (by omega) fun w' ov' mv' ext m' hin he=> ?_
   refine ZG rfl (ZG rfl (Zp (by omega) (hnext hi _ w' ov' mv' ext m' hin he e0 e3 rfl rfl rfl)))
 · refine ZB     (by omega) (Zf       ?_)
   rw[MN]
   exact hout hi _ e0 e3 e4 e5
theorem zgc {ov mv dv:V} {tl:Y4} {X i c:Nat} {cs:Array V} {kN:KE} (h:YC w0 D S O I L) (ok:S.Ok c) (m:RTw w0 w S L ov mv tl X cs dv) (hl:tl.length≤1099511627775) {ρ:Env} (e0:ρ 0=ptr D) (e3:ρ 3=ptr X) (e4:ρ 4=ov) (e5:ρ 5=mv) (eI:ρ 7=i64 i)
   (hout:¬i<S.safe.length→∀ρ',ρ' 0=ptr D→ρ' 3=ptr X→ρ' 4=ov→ρ' 5=mv→Wo k ρ' w)
   (hnext:∀(hi:i<S.safe.length),∀ρ' w' ov' mv' ext,RTw w0 w' S L ov' mv' (tl++ext) X cs dv→S.safe[i].2∈(tl++ext).map (·.1)→ext.length≤1→ρ' 0=ptr D→ρ' 3=ptr X→ρ' 4=ov'→ρ' 5=mv'→ρ' 7=i64 (i+1)→kN ρ' w'):Wn k kN ρ w:=by
 have hsm:=ok.small
 have hlen:=ok.turns.len
 unfold Wn
 rw[e0,eI,e4,e5]
 have h':=h.fr m.fr fun b hb=>hb.elim
 refine Zn (Vg (Zj (v:=L.befv) (isAgg59 _) h'.disk rfl (ZF X6 h'.bef.1 ?_)))
 by_cases hi:i<S.safe.length
 · have hre : reach S S.safe[i].2 := .inr <| .inl ⟨S.safe[i].1,List.getElem_mem hi⟩
   refine ZA (by omega) (Zk (Zn (Vg (Zj (v:=L.befv) (isAgg59 _) h'.disk rfl (XA h'.bef.1 hi fun p q=> ?_)))))
   refine zf7 h m (h.sub _ hre) (ok.Yk _ hre) hsm (by omega) fun w' ov' mv' ext m' hin he=> ?_
   refine ZG rfl (ZG rfl (Zp (by omega) (hnext hi _ w' ov' mv' ext m' hin he e0 e3 rfl rfl rfl)))
 · refine ZB     (by omega) (Zf       ?_)
   rw[MP]
   exact hout hi _ e0 e3 e4 e5
theorem zgd {ov mv dv:V} {tl:Y4} {X i c:Nat} {cs:Array V} {kN:KE} (h:YC w0 D S O I L) (ok:S.Ok c) (m:RTw w0 w S L ov mv tl X cs dv) (hl:tl.length≤1099511627775) {ρ:Env} (e0:ρ 0=ptr D) (e3:ρ 3=ptr X) (e4:ρ 4=ov) (e5:ρ 5=mv) (eI:ρ 8=i64 i)
   (hout:¬i<S.row.length→∀ρ',ρ' 0=ptr D→ρ' 3=ptr X→ρ' 4=ov→ρ' 5=mv→Wq k ρ' w)
   (hnext:∀(hi:i<S.row.length),∀ρ' w' ov' mv' ext,RTw w0 w' S L ov' mv' (tl++ext) X cs dv→(∀n t,S.row[i]= .mk n t→t∈(tl++ext).map (·.1))→ext.length≤1→ρ' 0=ptr D→ρ' 3=ptr X→ρ' 4=ov'→ρ' 5=mv'→ρ' 8=i64 (i+1)→kN ρ' w'):Wp k kN ρ w:=by
 have hsm:=ok.small
 have hrow:=ok.row
 unfold Wp
 rw[e0,eI,e4,e5]
 have h':=h.fr m.fr fun b hb=>hb.elim
 refine Zn (Vx (Zj (v:=L.turnv) (isAgg60 _) h'.disk rfl (ZF Eo (Src.Zt h'.turns) ?_)))
 by_cases hi:i<S.row.length
 · refine ZA     (by omega) (Zk      (Zn    (Vx     (Zj    (v := L.turnv) (isAgg60 _) h'.disk rfl ?_))))
   obtain⟨b,o,cc,ev,hp⟩:=Src.place (size:=4) (Src.Zt h'.turns) hi (by omega)
   have hc3:w.cell? ⟨b,o+i*4+3,none⟩=some (XS L.loc S.row[i]):=hp 3 _ (by omega) (by rw[Vf (f:=Yp L.loc) (YO L.loc) (List.getElem?_eq_getElem hi) (by omega)];exact HP _ _)
   rw[ev]
   refine Vu (i:=(i:Int)) Eo (y9 _) (by omega) (by omega) (AE (Xl (v:=XS L.loc S.row[i]) (isAgg142 _) (by simpa using hc3) ?_))
   have next:=hnext hi
   have hmem:=List.getElem_mem hi
   generalize S.row[i]=cn at *
   cases cn with
   | mk n t =>
     have hre:reach S t:= .inr (.inr ⟨n,hmem⟩)
     refine zf7 h m (h.sub _ hre) (ok.Yk _ hre) hsm (by omega) fun w' ov' mv' ext m' hin he=> ?_
     exact ZG rfl (ZG rfl (Zp (by omega) (next _ w' ov' mv' ext m' (fun n' t' e=>by injection e with e1 e2;subst e2;exact hin) he e0 e3 rfl rfl rfl)))
   |give a' b'=>exact BF (ZG rfl (ZG rfl (Zp (by omega) (next _ w ov mv [] (by rw[List.append_nil];exact m) (fun n' t' e=>by cases e) (Nat.zero_le _) e0 e3 rfl rfl rfl))))
   |take n'=>exact BF (ZG rfl (ZG rfl (Zp (by omega) (next _ w ov mv [] (by rw[List.append_nil];exact m) (fun n' t' e=>by cases e) (Nat.zero_le _) e0 e3 rfl rfl rfl))))
 · refine ZB     (by omega) (Zf       ?_)
   rw[MR]
   exact hout hi _ e0 e3 e4 e5
theorem RTw.disk {ov mv dv nv bv tv:V} {tl:Y4} {X:Nat} (h:YC w0 D S O I L) (m:RTw w0 w S L ov mv tl X #[.bool (!S.off),i64 S.room,nv,bv,tv,i64 S.strokes,i64 S.since,i64 S.plan.off,i64 S.plan.from_,i64 S.plan.to_,dv] dv)
   (hin:∀t,reach S t→t∈tl.map (·.1)) (h1:w.ownsRow w0.heap.size 144 2 nv S.shown.length (ZO (ZT tl) S.shown)) (h2:w.ownsRow w0.heap.size 144 2 bv S.safe.length (ZO (ZT tl) S.safe)) (h3:w.ownsRow w0.heap.size 146 4 tv S.row.length (S.row.flatMap (Yp (ZT tl)))):
   YC w X S (fun b=>w0.heap.size≤b∧b<w.heap.size∧∃c T,w.heap[b]? =some (.cells c T (0,0))∧(T=62∨T=156∨T=186∨T=146∨T=134)) (fun b=>w0.heap.size≤b∧b<w.heap.size∧∃c T,w.heap[b]? =some (.cells c T (0,0))∧(T=144∨T=5))
     ⟨fun t=>t∈tl.map (·.1),ZT tl,rowOf tl,nv,bv,tv,dv⟩:=by
 have rowO:∀ {e:TypeId} {size n:Nat} {v:V} {xs:List V},w.ownsRow w0.heap.size e size v n xs→∀b,Zv v=some b→w0.heap.size≤b∧b<w.heap.size∧∃c,w.heap[b]? =some (.cells c e (0,0)):=fun hr b hb=>
   ⟨(Zu hr hb).1,(Zu hr hb).2,Z0 hr hb⟩
 have sb:∀ {v:V} {bs:Bytes},V1 w0 w v bs→SB w (fun b=>w0.heap.size≤b∧b<w.heap.size∧∃c T,w.heap[b]? =some (.cells c T (0,0))∧(T=144∨T=5)) v bs:=fun hn=>⟨hn.sb,fun b hb=>by
   obtain⟨a1,a2,c,hc⟩:=rowO hn b hb
   exact⟨a1,a2,c,_,hc,.inr rfl⟩⟩
 have mem:∀t,t∈tl.map (·.1)→∃p∈tl,p.1=t∧ZT tl t=p.2.1∧rowOf tl t=p.2.2:=by
   intro t ht
   obtain⟨p,hp,rfl⟩:=List.mem_map.1 ht
   exact⟨p,hp,rfl,XD m.nd hp⟩
 have pw:∀p∈tl,∀q∈tl,p.1≠q.1→p.2.1≠q.2.1∧∀b,Zv p.2.2=some b→Zv q.2.2≠some b:=by
   intro p hp q hq hne
   obtain⟨i,hi,rfl⟩:=List.getElem_of_mem hp
   obtain⟨j,hj,rfl⟩:=List.getElem_of_mem hq
   rcases Nat.lt_trichotomy i j with hlt|heq|hgt
   · exact List.pairwise_iff_getElem.1 m.apart i j hi hj hlt
   · subst heq;exact absurd rfl hne
   · have := List.pairwise_iff_getElem.1 m.apart j i hj hi hgt
     exact⟨fun e=>this.1 e.symm,fun b hb hb'=>this.2 b hb' hb⟩
 refine⟨m.xd,⟨Src.Zt h1,fun b hb=> ?_⟩,⟨Src.Zt h2,fun b hb=> ?_⟩,Xo h3 (Nat.zero_le _),Xo m.told (Nat.zero_le _),hin,fun t ht=> ?_,fun t ht=> ?_,fun t u ht hu e=> ?_,fun t u ht hu hne=> ?_,⟨m.lx,ZS m.xd,_,_,m.xd,.inl rfl⟩,fun b hb=> ?_,fun b hb=> ?_,fun b hb hb'=> ?_,fun b hb=>hb.elim (fun h=>h.2.1) fun h=>h.2.1⟩
 · obtain⟨a1,a2,c,hc⟩:=rowO h1 b hb;exact⟨a1,a2,c,_,hc,.inl rfl⟩
 · obtain⟨a1,a2,c,hc⟩:=rowO h2 b hb;exact⟨a1,a2,c,_,hc,.inl rfl⟩
 · obtain ⟨p,hp,rfl,_⟩ := mem t ht
   exact h.below _ (m.has p hp)
 · obtain ⟨p,hp,rfl,e1,e2⟩ := mem t ht
   show VK w _ _ (ZT tl p.1) (rowOf tl p.1) _
   rw[e1,e2]
   obtain⟨⟨sv,hv,ps,g1,g2,g3,g4,g5,g6⟩,g7⟩:=m.things p hp
   refine⟨⟨sv,hv,ps,g1,sb g2,sb g3,Xo g4 (Nat.zero_le _),g5,fun q hq=> ?_⟩,⟨g7,ZS g1,_,_,g1,.inr (.inl rfl)⟩,fun b hb=> ?_⟩
   · have := g6 q hq
     obtain⟨cq,sq⟩:=q
     cases cq with
     |wr a d=>exact sb (v:=sq) this
     |cut n=>exact sb (v:=sq) this
   · obtain⟨a1,a2,c,hc⟩:=rowO g4 b hb;exact⟨a1,a2,c,_,hc,.inr (.inr (.inl rfl))⟩
 · obtain ⟨p,hp,rfl,e1,e2⟩ := mem t ht
   obtain⟨q,hq,rfl,e3,e4⟩:=mem u hu
   by_cases hne:p.1=q.1
   · exact hne
   · have e' : ZT    tl p.1 = ZT    tl q.1 := e
     rw[e1,e3] at e'
     exact absurd e' (pw p hp q hq hne).1
 · obtain ⟨p,hp,rfl,e1,e2⟩ := mem t ht
   obtain⟨q,hq,rfl,e3,e4⟩:=mem u hu
   show∀b,Zv (rowOf tl p.1)=some b→Zv (rowOf tl q.1)≠some b
   rw[e2,e4]
   exact(pw p hp q hq hne).2
 · obtain⟨a1,a2,c,hc⟩:=rowO h3 b hb;exact⟨a1,a2,c,_,hc,.inr (.inr (.inr (.inl rfl)))⟩
 · obtain⟨a1,a2,c,hc⟩:=rowO m.told b hb;exact⟨a1,a2,c,_,hc,.inr (.inr (.inr (.inr rfl)))⟩
 · obtain ⟨_,_,c1,T1,q1,q2⟩ := hb
   obtain⟨_,_,c2,T2,q3,q4⟩:=hb'
   have:=Zy q1 q3
   subst this
   revert q2 q4
   rintro (rfl|rfl|rfl|rfl|rfl)<;>decide
end
section
variable {w w0:Y} {D:Nat} {S S':AD} {O I:Nat → Prop} {L L':Uy} {k:KV}
abbrev xcs (S:AD) (nv bv tv dv:V):Array V:= #[.bool (!S.off),i64 S.room,nv,bv,tv,i64 S.strokes,i64 S.since,i64 S.plan.off,i64 S.plan.from_,i64 S.plan.to_,dv]
abbrev Cz (w0:Y) (S:AD) (k:KV):Prop:=∀w' X O' I' L',YC w' X S O' I' L'→(∀b,O' b∨I' b→w0.heap.size≤b)→Fr no w0 w'→k (ptr X) w'
theorem zge {ov mv dv nv bv:V} {tl:Y4} {X c:Nat} (hk:Cz w0 S k) (h:YC w0 D S O I L) (ok:S.Ok c) (m:RTw w0 w S L ov mv tl X (xcs S nv bv (.slice none 0 0) dv) dv) (hin:∀t,reach S t→t∈tl.map (·.1)) (hl:tl.length≤1099511627776)
   (h1:w.ownsRow w0.heap.size 144 2 nv S.shown.length (ZO (ZT tl) S.shown)) (h2:w.ownsRow w0.heap.size 144 2 bv S.safe.length (ZO (ZT tl) S.safe)) {ρ:Env} (e0:ρ 0=ptr D) (e3:ρ 3=ptr X) (e4:ρ 4=ov) (e5:ρ 5=mv) (e:ρ 11=i64 0):Wj k ρ w:=by
 have hrow:=ok.row
 have hsm:=ok.small
 refine Fm (m:=S.row.length) k (fun m' ρ w=>∃(i:Nat) (tv:V),i+m'=S.row.length∧RTw w0 w S L ov mv tl X (xcs S nv bv tv dv) dv∧w.ownsRow w0.heap.size 144 2 nv S.shown.length (ZO (ZT tl) S.shown)∧w.ownsRow w0.heap.size 144 2 bv S.safe.length (ZO (ZT tl) S.safe)∧
     w.ownsRow w0.heap.size 146 4 tv i ((S.row.take i).flatMap (Yp (ZT tl)))∧ρ 0=ptr D∧ρ 3=ptr X∧ρ 4=ov∧ρ 5=mv∧ρ 11=i64 i) ?_ ⟨0,_,by omega,m,h1,h2,⟨rfl,.inl ⟨rfl,rfl⟩⟩,e0,e3,e4,e5,e⟩
 rintro m' ρ w ⟨i,tv,him,m,h1,h2,h3,e0,e3,e4,e5,e⟩
 rw[Fs]
 refine zga h m (fun n t ht=>hin t (.inr (.inr ⟨n,ht⟩))) hl (by omega) h3 e0 e3 e4 e5 e (fun hi=> ?_) fun hi ρ' w' tv' m2 h3' f2 a0 a3 a4 a5 aI=> ?_
 · rw [List.take_of_length_le (by omega)] at h3
   have hi':i=S.row.length:=by omega
   rw[hi'] at h3
   exact hk w X _ _ _ (m.disk h hin h1 h2 h3) (fun b hb=>hb.elim (fun h=>h.1) fun h=>h.1) m.fr
 · have ne:∀ {v:V} {n:Nat} {xs:List V},w.ownsRow w0.heap.size 144 2 v n xs→∀b,Zv v=some b→¬(b=X∨Zv tv=some b):=by
     rintro v n xs hr b hb (rfl|e)
     · obtain⟨c1,q1⟩:=Z0 hr hb;exact absurd (Zy q1 m.xd) (by decide)
     · obtain ⟨c1,q1⟩ := Z0      hr hb
       obtain⟨c2,q2⟩:=Z0 h3 e
       exact absurd (Zy q1 q2) (by decide)
   exact⟨m'-1,by omega,i+1,tv',by omega,m2,Z4 h1 f2 (ne h1),Z4 h2 f2 (ne h2),h3',a0,a3,a4,a5,by simpa using aI⟩
theorem zgf {ov mv dv nv:V} {tl:Y4} {X c:Nat} (hk:Cz w0 S k) (h:YC w0 D S O I L) (ok:S.Ok c) (m:RTw w0 w S L ov mv tl X (xcs S nv (.slice none 0 0) (.slice none 0 0) dv) dv) (hin:∀t,reach S t→t∈tl.map (·.1)) (hl:tl.length≤1099511627776)
   (h1:w.ownsRow w0.heap.size 144 2 nv S.shown.length (ZO (ZT tl) S.shown)) {ρ:Env} (e0:ρ 0=ptr D) (e3:ρ 3=ptr X) (e4:ρ 4=ov) (e5:ρ 5=mv) (e:ρ 10=i64 0):Wi k ρ w:=by
 have hlen:=ok.turns.len
 refine Fl (m:=S.safe.length) k (fun m' ρ w=>∃(i:Nat) (bv:V),i+m'=S.safe.length∧RTw w0 w S L ov mv tl X (xcs S nv bv (.slice none 0 0) dv) dv∧w.ownsRow w0.heap.size 144 2 nv S.shown.length (ZO (ZT tl) S.shown)∧(∀b,Zv nv=some b→Zv bv≠some b)∧
     w.ownsRow w0.heap.size 144 2 bv i (ZO (ZT tl) (S.safe.take i))∧ρ 0=ptr D∧ρ 3=ptr X∧ρ 4=ov∧ρ 5=mv∧ρ 10=i64 i) ?_ ⟨0,_,by omega,m,h1,(by rintro b _ hb;cases hb),⟨rfl,.inl ⟨rfl,rfl⟩⟩,e0,e3,e4,e5,e⟩
 rintro m' ρ w ⟨i,bv,him,m,h1,hne,h2,e0,e3,e4,e5,e⟩
 rw[MU]
 refine zf9 (nv:=bv) (bv:=nv) h m (fun p hp=>hin p.2 (.inr (.inl ⟨p.1,hp⟩))) hl (by omega) h2 e0 e3 e4 e5 e (fun hi ρ' a0 a3 a4 a5=> ?_) fun hi ρ' w' bv' m2 h2' f2 hb2 a0 a3 a4 a5 aI=> ?_
 · unfold Fo
   rw[List.take_of_length_le (by omega)] at h2
   have hi':i=S.safe.length:=by omega
   rw[hi'] at h2
   exact zge hk h ok m hin hl h1 h2 a0 a3 a4 a5 rfl
 · have hnv : ∀ b,Zv   nv = some b → b < w.heap.size := fun b hb => (Zu         h1 hb).2
   refine⟨m'-1,by omega,i+1,bv',by omega,m2,Z4 h1 f2 ?_,fun b hb e'=> ?_,h2',a0,a3,a4,a5,by simpa using aI⟩
   · rintro b hb (rfl | e)
     · obtain⟨c1,q1⟩:=Z0 h1 hb;exact absurd (Zy q1 m.xd) (by decide)
     · exact hne b hb e
   · rcases hb2 b e' with h | h
     · exact hne b hb h
     · have:=hnv b hb;omega
theorem zgg {ov mv dv:V} {tl:Y4} {X c:Nat} (hk:Cz w0 S k) (h:YC w0 D S O I L) (ok:S.Ok c) (m:RTw w0 w S L ov mv tl X (xcs S (.slice none 0 0) (.slice none 0 0) (.slice none 0 0) dv) dv) (hin:∀t,reach S t→t∈tl.map (·.1)) (hl:tl.length≤1099511627776)
   {ρ:Env} (e0:ρ 0=ptr D) (e3:ρ 3=ptr X) (e4:ρ 4=ov) (e5:ρ 5=mv) (e:ρ 9=i64 0):Wh k ρ w:=by
 have hlen:=ok.turns.len
 refine Fk (m:=S.shown.length) k (fun m' ρ w=>∃(i:Nat) (nv:V),i+m'=S.shown.length∧RTw w0 w S L ov mv tl X (xcs S nv (.slice none 0 0) (.slice none 0 0) dv) dv∧
     w.ownsRow w0.heap.size 144 2 nv i (ZO (ZT tl) (S.shown.take i))∧ρ 0=ptr D∧ρ 3=ptr X∧ρ 4=ov∧ρ 5=mv∧ρ 9=i64 i) ?_ ⟨0,_,by omega,m,⟨rfl,.inl ⟨rfl,rfl⟩⟩,e0,e3,e4,e5,e⟩
 rintro m' ρ w ⟨i,nv,him,m,h1,e0,e3,e4,e5,e⟩
 rw[MS]
 refine zf8 h m (fun p hp=>hin p.2 (.inl ⟨p.1,hp⟩)) hl (by omega) h1 e0 e3 e4 e5 e (fun hi ρ' a0 a3 a4 a5=> ?_) fun hi ρ' w' nv' m2 h1' f2 hb2 a0 a3 a4 a5 aI=> ?_
 · unfold Ws
   rw[List.take_of_length_le (by omega)] at h1
   have hi':i=S.shown.length:=by omega
   rw[hi'] at h1
   exact zgf hk h ok m hin hl h1 a0 a3 a4 a5 rfl
 · exact⟨m'-1,by omega,i+1,nv',by omega,m2,h1',a0,a3,a4,a5,by simpa using aI⟩
theorem UQ {tl ext:Y4} {t:Nat} (h:t∈tl.map (·.1)):t∈(tl++ext).map (·.1):=by rw[List.map_append];exact List.mem_append_left _ h
theorem zgh {ov mv dv:V} {tl:Y4} {X c:Nat} (hk:Cz w0 S k) (h:YC w0 D S O I L) (ok:S.Ok c) (hc:c≤1073741824) (m:RTw w0 w S L ov mv tl X (xcs S (.slice none 0 0) (.slice none 0 0) (.slice none 0 0) dv) dv) (hin1:∀p∈S.shown,p.2∈tl.map (·.1)) (hin2:∀p∈S.safe,p.2∈tl.map (·.1)) (hl:tl.length≤1000)
   {ρ:Env} (e0:ρ 0=ptr D) (e3:ρ 3=ptr X) (e4:ρ 4=ov) (e5:ρ 5=mv) (e:ρ 8=i64 0):Wg k ρ w:=by
 have hrow:=ok.row
 refine Fj (m:=S.row.length) k (fun m' ρ w=>∃(i:Nat) (tl:Y4) (ov mv:V),i+m'=S.row.length∧RTw w0 w S L ov mv tl X (xcs S (.slice none 0 0) (.slice none 0 0) (.slice none 0 0) dv) dv∧(∀p∈S.shown,p.2∈tl.map (·.1))∧(∀p∈S.safe,p.2∈tl.map (·.1))∧(∀n t,Turn.mk n t∈S.row.take i→t∈tl.map (·.1))∧tl.length≤1000+i∧
     ρ 0=ptr D∧ρ 3=ptr X∧ρ 4=ov∧ρ 5=mv∧ρ 8=i64 i) ?_ ⟨0,tl,ov,mv,by omega,m,hin1,hin2,(fun n t ht=>by simp at ht),by omega,e0,e3,e4,e5,e⟩
 rintro m' ρ w ⟨i,tl,ov,mv,him,m,hin1,hin2,hin3,hl,e0,e3,e4,e5,e⟩
 rw[MQ]
 refine zgd h ok m (by omega) e0 e3 e4 e5 e (fun hi ρ' a0 a3 a4 a5=> ?_) fun hi ρ' w' ov' mv' ext m2 hin he a0 a3 a4 a5 aI=> ?_
 · unfold Wq
   rw[List.take_of_length_le (by omega)] at hin3
   refine zgg hk h ok m (fun t ht=> ?_) (by omega) a0 a3 a4 a5 rfl
   rcases ht with ⟨n,ht⟩|⟨n,ht⟩|⟨n,ht⟩
   · exact hin1 _ ht
   · exact hin2 _ ht
   · exact hin3 n t ht
 · refine ⟨m' - 1,by omega,i + 1,tl ++ ext,ov',mv',by omega,m2,fun p hp => UQ      (hin1 p hp),fun p hp => UQ      (hin2 p hp),fun n t ht => ?_,by rw [List.length_append]; omega,a0,a3,a4,a5,by simpa using aI⟩
   rw[List.take_succ_eq_append_getElem hi] at ht
   rcases List.mem_append.1 ht with ht|ht
   · exact UQ (hin3 n t ht)
   · rw[List.mem_singleton] at ht;exact hin n t ht.symm
theorem zgi {ov mv dv:V} {tl:Y4} {X c:Nat} (hk:Cz w0 S k) (h:YC w0 D S O I L) (ok:S.Ok c) (hc:c≤1073741824) (m:RTw w0 w S L ov mv tl X (xcs S (.slice none 0 0) (.slice none 0 0) (.slice none 0 0) dv) dv) (hin1:∀p∈S.shown,p.2∈tl.map (·.1)) (hl:tl.length≤500)
   {ρ:Env} (e0:ρ 0=ptr D) (e3:ρ 3=ptr X) (e4:ρ 4=ov) (e5:ρ 5=mv) (e:ρ 7=i64 0):Wf k ρ w:=by
 have hlen:=ok.turns.len
 refine Fi (m:=S.safe.length) k (fun m' ρ w=>∃(i:Nat) (tl:Y4) (ov mv:V),i+m'=S.safe.length∧RTw w0 w S L ov mv tl X (xcs S (.slice none 0 0) (.slice none 0 0) (.slice none 0 0) dv) dv∧(∀p∈S.shown,p.2∈tl.map (·.1))∧(∀p∈S.safe.take i,p.2∈tl.map (·.1))∧tl.length≤500+i∧
     ρ 0=ptr D∧ρ 3=ptr X∧ρ 4=ov∧ρ 5=mv∧ρ 7=i64 i) ?_ ⟨0,tl,ov,mv,by omega,m,hin1,(fun p hp=>by simp at hp),by omega,e0,e3,e4,e5,e⟩
 rintro m' ρ w ⟨i,tl,ov,mv,him,m,hin1,hin2,hl,e0,e3,e4,e5,e⟩
 rw[MO]
 refine zgc h ok m (by omega) e0 e3 e4 e5 e (fun hi ρ' a0 a3 a4 a5=> ?_) fun hi ρ' w' ov' mv' ext m2 hin he a0 a3 a4 a5 aI=> ?_
 · unfold Wo
   rw[List.take_of_length_le (by omega)] at hin2
   exact zgh hk h ok hc m hin1 hin2 (by omega) a0 a3 a4 a5 rfl
 · refine ⟨m' - 1,by omega,i + 1,tl ++ ext,ov',mv',by omega,m2,fun p hp => UQ      (hin1 p hp),fun p hp => ?_,by rw [List.length_append]; omega,a0,a3,a4,a5,by simpa using aI⟩
   rw[List.take_succ_eq_append_getElem hi] at hp
   rcases List.mem_append.1 hp with hp|hp
   · exact UQ (hin2 p hp)
   · rw[List.mem_singleton] at hp;subst hp;exact hin
theorem zgj {ov mv dv:V} {X c:Nat} (hk:Cz w0 S k) (h:YC w0 D S O I L) (ok:S.Ok c) (hc:c≤1073741824) (m:RTw w0 w S L ov mv [] X (xcs S (.slice none 0 0) (.slice none 0 0) (.slice none 0 0) dv) dv)
   {ρ:Env} (e0:ρ 0=ptr D) (e3:ρ 3=ptr X) (e4:ρ 4=ov) (e5:ρ 5=mv) (e:ρ 6=i64 0):We k ρ w:=by
 have hlen:=ok.turns.len
 refine Fh (m:=S.shown.length) k (fun m' ρ w=>∃(i:Nat) (tl:Y4) (ov mv:V),i+m'=S.shown.length∧RTw w0 w S L ov mv tl X (xcs S (.slice none 0 0) (.slice none 0 0) (.slice none 0 0) dv) dv∧(∀p∈S.shown.take i,p.2∈tl.map (·.1))∧tl.length≤i∧
     ρ 0=ptr D∧ρ 3=ptr X∧ρ 4=ov∧ρ 5=mv∧ρ 6=i64 i) ?_ ⟨0,[],ov,mv,by omega,m,(fun p hp=>by simp at hp),Nat.le_refl _,e0,e3,e4,e5,e⟩
 rintro m' ρ w ⟨i,tl,ov,mv,him,m,hin1,hl,e0,e3,e4,e5,e⟩
 rw[MM]
 refine zgb h ok m (by omega) e0 e3 e4 e5 e (fun hi ρ' a0 a3 a4 a5=> ?_) fun hi ρ' w' ov' mv' ext m2 hin he a0 a3 a4 a5 aI=> ?_
 · unfold Wm
   rw[List.take_of_length_le (by omega)] at hin1
   exact zgi hk h ok hc m hin1 (by omega) a0 a3 a4 a5 rfl
 · refine ⟨m' - 1,by omega,i + 1,tl ++ ext,ov',mv',by omega,m2,fun p hp => ?_,by rw [List.length_append]; omega,a0,a3,a4,a5,by simpa using aI⟩
   rw[List.take_succ_eq_append_getElem hi] at hp
   rcases List.mem_append.1 hp with hp|hp
   · exact UQ (hin1 p hp)
   · rw[List.mem_singleton] at hp;subst hp;exact hin
set_option maxHeartbeats 1000000 in
theorem gk {c:Nat} (h:YC w D S O I L) (ok:S.Ok c) (hc:c≤1073741824) (hk:Cz w S k):pFn P 25 [ptr D] w k:=by
 have hroom:=ok.room
 have hreads:=ok.reads
 refine uI _ _ _ ?_
 unfold Wk
 show px P (Zd BinOp.eql 30 _ _ (ptr D) (.pointer none)) w _
 refine YJ Ju (Zl rfl (Zl rfl (Zn (Zl rfl (Dy (Zl rfl (Zj (v:=i64 S.room) (isAgg3 _) h.disk rfl (Zl rfl (Yd (by omega) (Zr (Zf ?_)))))))))))
 refine Zn (Xm (m:=11) (isAgg62 _) (sizeOf62 _) h.disk (by show 0+11≤11;decide) ?_)
 refine Y9 (zeroValue62 _) ?_
 have b1:=Z2 w (.cells #[.bool false,i64 0,.slice none 0 0,.slice none 0 0,.slice none 0 0,i64 0,i64 0,i64 0,i64 0,i64 0,.slice none 0 0] 62)
 have f1:=Fr.alloc no w (.cells #[.bool false,i64 0,.slice none 0 0,.slice none 0 0,.slice none 0 0,i64 0,i64 0,i64 0,i64 0,i64 0,.slice none 0 0] 62)
 have z1:(w.alloc (.cells #[.bool false,i64 0,.slice none 0 0,.slice none 0 0,.slice none 0 0,i64 0,i64 0,i64 0,i64 0,i64 0,.slice none 0 0] 62)).heap.size=w.heap.size+1:=by simp
 show pu P _ (w.alloc (.cells #[.bool false,i64 0,.slice none 0 0,.slice none 0 0,.slice none 0 0,i64 0,i64 0,i64 0,i64 0,i64 0,.slice none 0 0] 62)) _
 generalize w.alloc (.cells #[.bool false,i64 0,.slice none 0 0,.slice none 0 0,.slice none 0 0,i64 0,i64 0,i64 0,i64 0,i64 0,.slice none 0 0] 62)=w1 at *
 have hnv:∃A c',L.nowv= .slice A S.shown.length c':=by obtain⟨A,c',e,_⟩:=h.now.1;exact⟨A,c',e⟩
 have hbv:∃A c',L.befv= .slice A S.safe.length c':=by obtain⟨A,c',e,_⟩:=h.bef.1;exact⟨A,c',e⟩
 have ht1:=(ZW h.turns).2
 have ht2:=(ZW h.told).2
 obtain⟨A1,c1,ev1⟩:=hnv
 obtain⟨A2,c2,ev2⟩:=hbv
 refine Va (n:=11) (vs:=(Y6 S L).toList) (sizeOf62 _) rfl (by
   intro v hv
   simp[Y6,ev1,ev2] at hv
   rcases hv with rfl|rfl|rfl|rfl|rfl|rfl|rfl|rfl|rfl|rfl|rfl<;>first|rfl|exact ht1|exact ht2) b1 (by show 0+11≤11;decide) fun w2 b2 f2 z2=> ?_
 replace b2:w2.heap[w.heap.size]? =some (.cells (Y6 S L) 62 (0,0)):=by rw[b2];rfl
 have f02:Fr no w w2:=f1.trans f2 fun b hb=> .inr (by omega)
 refine Yx (YA (sizeOf59 _) rfl rfl b2 (by show 2<11;decide) ?_)
 have b3:=Z6 b2 2 (.slice none 0 0)
 have f3:Fr no w (w2.setCell ⟨w.heap.size,2,none⟩ (.slice none 0 0)):=f02.trans (Fr.setCell w2 ⟨w.heap.size,2,none⟩ _) fun b hb=> .inr (by have hb':b=w.heap.size:=hb;omega)
 have z3:(w2.setCell ⟨w.heap.size,2,none⟩ (.slice none 0 0)).heap.size=w1.heap.size:=by rw[←z2];simp[World.setCell]
 show px P _ (w2.setCell ⟨w.heap.size,2,none⟩ (.slice none 0 0)) _
 generalize w2.setCell ⟨w.heap.size,2,none⟩ (.slice none 0 0)=w3 at *
 refine Vg (YA (sizeOf59 _) rfl rfl b3 (by show 3<11;decide) ?_)
 have b4:=Z6 b3 3 (.slice none 0 0)
 have f4:Fr no w (w3.setCell ⟨w.heap.size,3,none⟩ (.slice none 0 0)):=f3.trans (Fr.setCell w3 ⟨w.heap.size,3,none⟩ _) fun b hb=> .inr (by have hb':b=w.heap.size:=hb;omega)
 have z4:(w3.setCell ⟨w.heap.size,3,none⟩ (.slice none 0 0)).heap.size=w1.heap.size:=by rw[←z3];simp[World.setCell]
 show px P _ (w3.setCell ⟨w.heap.size,3,none⟩ (.slice none 0 0)) _
 generalize w3.setCell ⟨w.heap.size,3,none⟩ (.slice none 0 0)=w4 at *
 refine Vx (YA (sizeOf60 _) rfl rfl b4 (by show 4<11;decide) ?_)
 have b5:=Z6 b4 4 (.slice none 0 0)
 have f5:Fr no w (w4.setCell ⟨w.heap.size,4,none⟩ (.slice none 0 0)):=f4.trans (Fr.setCell w4 ⟨w.heap.size,4,none⟩ _) fun b hb=> .inr (by have hb':b=w.heap.size:=hb;omega)
 have z5:(w4.setCell ⟨w.heap.size,4,none⟩ (.slice none 0 0)).heap.size=w1.heap.size:=by rw[←z4];simp[World.setCell]
 show px P _ (w4.setCell ⟨w.heap.size,4,none⟩ (.slice none 0 0)) _
 generalize w4.setCell ⟨w.heap.size,4,none⟩ (.slice none 0 0)=w5 at *
 refine AL ?_
 have f6:=Fr.alloc no w5 (.cells #[] 134)
 have ho:=ZQ w5 w.heap.size 134 3 #[] 0 (by omega) (by unfold maxLen;omega) rfl
 have z6:(w5.alloc (.cells #[] 134)).heap.size=w5.heap.size+1:=by simp
 show px P _ (w5.alloc (.cells #[] 134)) _
 generalize w5.alloc (.cells #[] 134)=w6 at *
 have f06:Fr no w w6:=f5.trans f6 fun b=> .inl
 have h6:=h.fr f06 fun b hb=>hb.elim
 have hDX:D≠w.heap.size:=fun e=>by have:=h.lt D (.inl h.oD);omega
 refine Zn (JH (Zj (v:=L.toldv) (isAgg56 _) h6.disk rfl ?_))
 refine yA ho (Src.Zt h6.told) (by intro u hu;obtain⟨s,_,hs⟩:=List.mem_flatMap.1 hu;simp[Z3] at hs;rcases hs with rfl|rfl|rfl<;>rfl) (by omega) (by omega) fun v7 w7 h7 f7 hb7=> ?_
 rw[Nat.zero_add] at h7
 replace h7:w7.ownsRow w.heap.size 134 3 v7 S.reads.length (S.reads.flatMap Z3):=h7
 have b7:=f7.get (f6.get b5 id) (fun hb=>by injection hb with hb;have hb':w.heap.size=w5.heap.size:=hb;omega)
 have f07:Fr no w w7:=f06.trans f7 fun b hb=> .inr (by injection hb with hb;have hb':b=w5.heap.size:=hb;omega)
 refine JH (YA (sizeOf56 _) (ZW h7).1 (ZW h7).2 b7 (by show 10<11;decide) ?_)
 have b8:=Z6 b7 10 v7
 have f8:Fr (fun b=>b=w.heap.size) w7 (w7.setCell ⟨w.heap.size,10,none⟩ v7):=Fr.setCell w7 ⟨w.heap.size,10,none⟩ v7
 have hv7:∀b,Zv v7=some b→¬(b=w.heap.size):=by
   rintro b hb rfl
   obtain⟨c3,h3⟩:=Z0 h7 hb
   exact absurd (Zy h3 b7) (by decide)
 refine zgj (X:=w.heap.size) (ov:= .slice none 0 0) (mv:= .slice none 0 0) (dv:=v7) hk h ok hc ⟨f07.trans f8 fun b hb=> .inr (by have hb':b=w.heap.size:=hb;omega),by
     show (w7.setCell ⟨w.heap.size,10,none⟩ v7).heap[w.heap.size]? =_
     rw[b8];rfl,Nat.le_refl _,Z4 h7 f8 hv7,⟨rfl,.inl ⟨rfl,rfl⟩⟩,⟨rfl,.inl ⟨rfl,rfl⟩⟩,(by rintro b hb;cases hb),by simp,by simp,List.Pairwise.nil,List.nodup_nil⟩ rfl rfl rfl rfl rfl
end
end Go.Proofs.YtcdcojpfealppaaGreat
namespace Go.Proofs.YtcdcojpfealppaaGreat
open Go Go.Proofs Go.RowKit Go.Proofs.XRed Go.Proofs.XHeap Go.Proofs.XMaps Go.Proofs.XSlices Go.Proofs.XDisk Go.Proofs.XCalls Go.Proofs.XSep Tryz
section
variable {w w0:Y} {k:KV}
theorem Ef {t:TypeId} {g n c i:Nat} (h:P.underlying t=some (.slice (P.elem t))) (hs:(sizeOf (P.elem t)).run P w= .ok 1 w) (hi:i<n) (hk:k (.pointer (some ⟨g,i,none⟩)) w):px P (Instr.indexAt t (.slice (some ⟨g,0,none⟩) n c) (i64 i)) w k:=
 Vu (i:=(i:Int)) h hs (by omega) (by omega) (by simpa using hk)
theorem Dl {base n:Nat} {e:TypeId} {v:V} {xs cs:List V} (h:w.ownsRow base e 1 v n xs) (h0:0<n) (hc:cs.length≤n):∃g cap cur,v= .slice (some ⟨g,0,none⟩) n cap∧n≤cap∧base≤g∧w.heap[g]? =some (.cells cur e (0,0))∧n≤cur.size∧
   ∀w':Y,w'.heap[g]? =some (.cells (cur.toList.take 0++cs.take n++cur.toList.drop (0+min cs.length n)).toArray e (0,0))→w'.ownsRow base e 1 v n (cs++xs.drop cs.length):=by
 obtain⟨hl,h2⟩:=h
 rcases h2 with ⟨_,h0'⟩|⟨g,cap,cur,hv,hb,hg,hnc,hcm,hcs,ht⟩
 · omega
 · refine ⟨g,cap,cur,hv,hnc,hb,hg,by omega,fun w' hw' => ⟨by simp; omega,.inr ⟨g,cap,_,hv,hb,hw',hnc,hcm,?_,?_⟩⟩⟩
   · simp;omega
   · rw [List.take_zero,List.nil_append,List.take_of_length_le hc,Nat.min_eq_left hc,Nat.zero_add,Nat.mul_one]
     rw[Nat.mul_one] at ht
     rw[List.toList_toArray,List.take_append,List.take_of_length_le hc,←ht,List.drop_take]
theorem BG (bb:List UInt8) (i:Nat) (hi:i<bb.length):(List.replicate i (171:UInt8)++bb.drop i).set i 171=List.replicate (i+1) 171++bb.drop (i+1):=by
 rw[List.set_append_right _ _ (by simp),List.length_replicate,Nat.sub_self,List.drop_eq_getElem_cons hi,List.set_cons_zero,List.replicate_succ']
 simp
set_option maxHeartbeats 1000000 in
theorem SO {K:Nat} {pv bv:V} {bb d:List UInt8} {dv:V} (hK:w.heap[K]? =some (.cells #[bv,pv] 51 (0,0))) (hb:w.ownsRow 0 5 1 bv bb.length (u8s bb)) (hd:Z5 w dv d) (hdn:0<d.length→∀b,Zv dv=some b→Zv bv≠some b) (hl:bb.length≤1099511627776) (h5:d.length+5≤bb.length) {ρ:Env} (e0:ρ 0=ptr K) (e1:ρ 1=dv) (e5:ρ 5=i64 0)
   (hk:∀w' v,w'.heap[K]? =some (.cells #[bv,pv] 51 (0,0))→w'.ownsRow 0 5 1 bv bb.length (u8s (d++List.replicate (bb.length-d.length) 171))→Z5 w' v d→(∀b,Zv v=some b→Zv bv=some b)→Fr (fun b=>Zv bv=some b) w w'→k v w'):MF k ρ w:=by
 have hbK:∀ {w':Y} {n:Nat} {xs:List V},w'.heap[K]? =some (.cells #[bv,pv] 51 (0,0))→w'.ownsRow 0 5 1 bv n xs→∀b,Zv bv=some b→b≠K:=by
   rintro w' n xs hK' ho b hb rfl
   obtain⟨c1,h1⟩:=Z0 ho hb
   exact absurd (Zy h1 hK') (by decide)
 refine EN (m:=bb.length) k (fun m ρ w'=>∃i:Nat,i+m=bb.length∧w'.heap[K]? =some (.cells #[bv,pv] 51 (0,0))∧w'.ownsRow 0 5 1 bv bb.length (u8s (List.replicate i 171++bb.drop i))∧Fr (fun b=>Zv bv=some b) w w'∧ρ 0=ptr K∧ρ 1=dv∧ρ 5=i64 i) ?_
   ⟨0,by omega,hK,by simpa using hb,Fr.refl _ _,e0,e1,e5⟩
 rintro m ρ w' ⟨i,him,hK',ho,hf,e0,e1,e5⟩
 rw[MH]
 unfold um
 rw[e0,e5]
 refine Zn (UB (Zj (v:=bv) (isAgg36 _) hK' rfl (ZF Ya (Src.Zt ho) ?_)))
 by_cases hi:i<bb.length
 · refine ZA     (by omega) (Zk      (Zn    (UB     (Zj    (v := bv) (isAgg36 _) hK' rfl ?_))))
   obtain⟨g,cap,cur,ev,hcap,hbase,hg,hic,hce,hset⟩:=Xh (i:=i) ho (by omega)
   have hgb:Zv bv=some g:=by rw[ev];rfl
   have hgK:=hbK hK' ho g hgb
   have hn':=hset (.int .u8 (171:UInt8).toNat)
   rw[GH,BG bb i hi] at hn'
   have f2:Fr (fun b=>Zv bv=some b) w' (w'.setCell ⟨g,i,none⟩ (.int .u8 (171:UInt8).toNat)):=(Fr.setCell w' ⟨g,i,none⟩ _).mono fun b hb'=> .inl (by rw[show b=g from hb'];exact hgb)
   rw[ev] at hK' ⊢
   refine Ef Ya (Vm _) hi (YA (sizeOf5 _) rfl rfl hg hic (Zp (by omega) ⟨m-1,by omega,i+1,by omega,VR i (.int .u8 (171:UInt8).toNat) (fun e=>hgK e.symm) hK',by rw[←ev];exact hn',by rw[←ev];exact hf.trans f2 fun b=> .inl,e0,e1,?_⟩))
   show i64 _=i64 _;simp
 · refine ZB     (by omega) (Zf       ?_)
   rw[MI]
   suffices hs:∀ρ2:Env,ρ2 0=ptr K→ρ2 1=dv→TV k ρ2 w' from hs _ e0 e1
   intro ρ2 a0 a1
   unfold TV
   rw[a0,a1]
   have hi':i=bb.length:=by omega
   rw[hi',List.drop_eq_nil_of_le (Nat.le_refl _),List.append_nil] at ho
   obtain⟨g,cap,cur,ev,hcap,hbase,hg,hcs,hcopy⟩:=Dl (cs:=u8s d) ho (by omega) (by simp[u8s];omega)
   have hgb:Zv bv=some g:=by rw[ev];rfl
   have hgK:=hbK hK' ho g hgb
   have hd':Z5 w' dv d:=Z5.fr0 hd hf fun h0 b hb' e=>hdn h0 b hb' e
   refine Zn (UB (Zj (v:=bv) (isAgg36 _) hK' rfl ?_))
   have hK2:=hK'
   rw[ev] at hK' ⊢
   refine Dm Ya (by kernel_rfl) hg hd' Vl (by rw[Nat.zero_add];omega) fun w2 hg2 f2 z2=> ?_
   have hlen:(u8s d).length=d.length:=by simp[u8s]
   rw[hlen] at hcopy
   have ho2:=hcopy w2 hg2
   have henc:u8s d++(u8s (List.replicate bb.length 171)).drop d.length=u8s (d++List.replicate (bb.length-d.length) 171):=by
     simp[u8s]
   rw[henc] at ho2
   have hK3:w2.heap[K]? =some (.cells #[bv,pv] 51 (0,0)):=f2.get hK2 fun e=>hgK e.symm
   rw[ev] at hK3 ho2
   have hd2:Z5 w2 dv d:=Z5.fr0 hd' f2 fun h0 b hb' e=>hdn h0 b hb' (by rw[ev,show b=g from e];rfl)
   refine Zn (UB (Zj (v:= .slice (some ⟨g,0,none⟩) bb.length cap) (isAgg36 _) hK3 rfl (ZF Ya hd2 ?_)))
   refine QO (i:=(d.length:Int)) Ya (Vm _) (by omega) (by omega) ?_
   have hfront:=Src.front (m:=d.length) (Src.Zt ho2) (by omega)
   have htk:(u8s (d++List.replicate (bb.length-d.length) 171)).take (d.length*1)=u8s d:=by
     rw[Nat.mul_one]
     have:(d++List.replicate (bb.length-d.length) (171:UInt8)).take d.length=d:=by simp
     conv=>rhs;rw[←this]
     simp[u8s]
   rw[htk] at hfront
   refine hk w2 _ (by rw[ev];exact hK3) (by rw[ev];exact ho2) hfront (fun b hb'=> ?_) ?_
   · rw[ev];exact hb'
   · exact hf.trans f2 fun b hb'=> .inl (by rw[show b=g from hb'];exact hgb)
def Qi (l:List Int):List V:=l.map i64
def Vt (w:Y) (v:V) (l:List Int):Prop:=Src w v 1 l.length (Qi l)
theorem Po (l:List Int) (i:Nat) (x:Int):(Qi l).set i (.int .i64 x)=Qi (l.set i x):=by unfold Qi;rw[List.map_set]
theorem Pp {l:List Int}:∀u∈Qi l,u.oneCell'=true:=by intro u hu;obtain⟨x,_,rfl⟩:=List.mem_map.1 hu;rfl
theorem Vt.fr0 {O:Nat→Prop} {w w':Y} {v:V} {l:List Int} (h:Vt w v l) (hf:Fr O w w') (hn:0<l.length→∀b,Zv v=some b→¬O b):Vt w' v l:=Src.fr0 h (by omega) hf hn
theorem Vt.fr {O:Nat→Prop} {w w':Y} {v:V} {l:List Int} (h:Vt w v l) (hf:Fr O w w') (hn:∀b,Zv v=some b→¬O b):Vt w' v l:=Src.fr h (by omega) hf hn
theorem Jq (bb:List Int) (i:Nat) (hi:i<bb.length):(List.replicate i (77:Int)++bb.drop i).set i 77=List.replicate (i+1) 77++bb.drop (i+1):=by
 rw[List.set_append_right _ _ (by simp),List.length_replicate,Nat.sub_self,List.drop_eq_getElem_cons hi,List.set_cons_zero,List.replicate_succ']
 simp
set_option maxHeartbeats 1000000 in
theorem Pq {K:Nat} {bv pv:V} {bb d:List Int} {dv:V} (hK:w.heap[K]? =some (.cells #[bv,pv] 51 (0,0))) (hb:w.ownsRow 0 3 1 pv bb.length (Qi bb)) (hd:Vt w dv d) (hdn:0<d.length→∀b,Zv dv=some b→Zv pv≠some b) (hl:bb.length≤1099511627776) (h5:d.length+3≤bb.length) {ρ:Env} (e0:ρ 0=ptr K) (e1:ρ 1=dv) (e5:ρ 5=i64 0)
   (hk:∀w' v,w'.heap[K]? =some (.cells #[bv,pv] 51 (0,0))→w'.ownsRow 0 3 1 pv bb.length (Qi (d++List.replicate (bb.length-d.length) 77))→Vt w' v d→(∀b,Zv v=some b→Zv pv=some b)→Fr (fun b=>Zv pv=some b) w w'→k v w'):CQ k ρ w:=by
 have hbK:∀ {w':Y} {n:Nat} {xs:List V},w'.heap[K]? =some (.cells #[bv,pv] 51 (0,0))→w'.ownsRow 0 3 1 pv n xs→∀b,Zv pv=some b→b≠K:=by
   rintro w' n xs hK' ho b hb rfl
   obtain⟨c1,h1⟩:=Z0 ho hb
   exact absurd (Zy h1 hK') (by decide)
 refine DE (m:=bb.length) k (fun m ρ w'=>∃i:Nat,i+m=bb.length∧w'.heap[K]? =some (.cells #[bv,pv] 51 (0,0))∧w'.ownsRow 0 3 1 pv bb.length (Qi (List.replicate i 77++bb.drop i))∧Fr (fun b=>Zv pv=some b) w w'∧ρ 0=ptr K∧ρ 1=dv∧ρ 5=i64 i) ?_
   ⟨0,by omega,hK,by simpa using hb,Fr.refl _ _,e0,e1,e5⟩
 rintro m ρ w' ⟨i,him,hK',ho,hf,e0,e1,e5⟩
 rw[EX]
 unfold RT
 rw[e0,e5]
 refine Zn (Ql (Zj (v:=pv) (isAgg39 _) hK' rfl (ZF Vy (Src.Zt ho) ?_)))
 by_cases hi:i<bb.length
 · refine ZA     (by omega) (Zk      (Zn    (Ql     (Zj    (v := pv) (isAgg39 _) hK' rfl ?_))))
   obtain⟨g,cap,cur,ev,hcap,hbase,hg,hic,hce,hset⟩:=Xh (i:=i) ho (by omega)
   have hgb:Zv pv=some g:=by rw[ev];rfl
   have hgK:=hbK hK' ho g hgb
   have hn':=hset (.int .i64 77)
   rw[Po,Jq bb i hi] at hn'
   have f2:Fr (fun b=>Zv pv=some b) w' (w'.setCell ⟨g,i,none⟩ (.int .i64 77)):=(Fr.setCell w' ⟨g,i,none⟩ _).mono fun b hb'=> .inl (by rw[show b=g from hb'];exact hgb)
   rw[ev] at hK' ⊢
   refine Ef Vy (BR _) hi (YA (sizeOf3 _) rfl rfl hg hic (Zp (by omega) ⟨m-1,by omega,i+1,by omega,VR i (.int .i64 77) (fun e=>hgK e.symm) hK',by rw[←ev];exact hn',by rw[←ev];exact hf.trans f2 fun b=> .inl,e0,e1,?_⟩))
   show i64 _=i64 _;simp
 · refine ZB     (by omega) (Zf       ?_)
   rw[EZ]
   suffices hs:∀ρ2:Env,ρ2 0=ptr K→ρ2 1=dv→EY k ρ2 w' from hs _ e0 e1
   intro ρ2 a0 a1
   unfold EY
   rw[a0,a1]
   have hi':i=bb.length:=by omega
   rw[hi',List.drop_eq_nil_of_le (Nat.le_refl _),List.append_nil] at ho
   obtain⟨g,cap,cur,ev,hcap,hbase,hg,hcs,hcopy⟩:=Dl (cs:=Qi d) ho (by omega) (by simp[Qi];omega)
   have hgb:Zv pv=some g:=by rw[ev];rfl
   have hgK:=hbK hK' ho g hgb
   have hd':Vt w' dv d:=Vt.fr0 hd hf fun h0 b hb' e=>hdn h0 b hb' e
   refine Zn (Ql (Zj (v:=pv) (isAgg39 _) hK' rfl ?_))
   have hK2:=hK'
   rw[ev] at hK' ⊢
   refine Dm Vy (by kernel_rfl) hg hd' Pp (by rw[Nat.zero_add];omega) fun w2 hg2 f2 z2=> ?_
   have hlen:(Qi d).length=d.length:=by simp[Qi]
   rw[hlen] at hcopy
   have ho2:=hcopy w2 hg2
   have henc:Qi d++(Qi (List.replicate bb.length 77)).drop d.length=Qi (d++List.replicate (bb.length-d.length) 77):=by
     simp[Qi]
   rw[henc] at ho2
   have hK3:w2.heap[K]? =some (.cells #[bv,pv] 51 (0,0)):=f2.get hK2 fun e=>hgK e.symm
   rw[ev] at hK3 ho2
   have hd2:Vt w2 dv d:=Vt.fr0 hd' f2 fun h0 b hb' e=>hdn h0 b hb' (by rw[ev,show b=g from e];rfl)
   refine Zn (Ql (Zj (v:= .slice (some ⟨g,0,none⟩) bb.length cap) (isAgg39 _) hK3 rfl (ZF Vy hd2 ?_)))
   refine QO (i:=(d.length:Int)) Vy (BR _) (by omega) (by omega) ?_
   have hfront:=Src.front (m:=d.length) (Src.Zt ho2) (by omega)
   have htk:(Qi (d++List.replicate (bb.length-d.length) 77)).take (d.length*1)=Qi d:=by
     rw[Nat.mul_one]
     have:(d++List.replicate (bb.length-d.length) (77:Int)).take d.length=d:=by simp
     conv=>rhs;rw[←this]
     simp[Qi]
   rw[htk] at hfront
   refine hk w2 _ (by rw[ev];exact hK3) (by rw[ev];exact ho2) hfront (fun b hb'=> ?_) ?_
   · rw[ev];exact hb'
   · exact hf.trans f2 fun b hb'=> .inl (by rw[show b=g from hb'];exact hgb)
theorem zgk {K:Nat} {bv pv dv:V} {bb d:Bytes} (hK:w.heap[K]? =some (.cells #[bv,pv] 51 (0,0))) (hb:w.ownsRow 0 5 1 bv bb.length (u8s bb)) (hd:Z5 w dv d) (hdn:0<d.length→∀b,Zv dv=some b→Zv bv≠some b∧b≠K) (hl:bb.length≤1099511627776) (hdl:d.length≤274877906944)
   (hk:∀w' bv' v bb' n,w'.heap[K]? =some (.cells #[bv',pv] 51 (0,0))→bb'=d++List.replicate n 171→bb'.length≤max bb.length (2*d.length+40)→w'.ownsRow 0 5 1 bv' bb'.length (u8s bb')→Z5 w' v d→(∀b,Zv v=some b→Zv bv'=some b)→Fr (fun b=>b=K∨Zv bv=some b) w w'→(∀b,Zv bv'=some b→Zv bv=some b∨w.heap.size≤b)→k v w'):
   pFn P 63 [ptr K,dv] w k:=by
 refine uo _ _ _ _ ?_
 unfold TT
 refine Zn (UB (Zj (v:=bv) (isAgg36 _) hK rfl (ZF Ya (Src.Zt hb) (ZF Ya hd (Zp (by omega) ?_)))))
 by_cases hs:bb.length<d.length+5
 · refine ZA     (by omega) (Zk      (ZF     Ya    hd (Ea    ?_)))
   rw[Af (by omega)]
   refine Zp (by omega) ?_
   refine yq (t:=36) (e:=5) (i:=t5) (z:= .int .u8 0) (by kernel_rfl) (by kernel_rfl) (by kernel_rfl) (by omega) (by show (1:Int)*(2*(d.length:Int)+40)≤_;omega) (by omega) ?_
   have hN:(2*(d.length:Int)+40).toNat=2*d.length+40:=by omega
   have hmc:madeCells (Value.int IntKind.u8 0).cells ((2*(d.length:Int)+40).toNat*t5.size)=(List.replicate (2*d.length+40) (.int .u8 0)).toArray:=by
     rw[VC _ rfl,hN,show t5.size=1 by kernel_rfl,Nat.mul_one]
   rw[hmc,hN]
   have b1:=Z2 w (.cells (List.replicate (2*d.length+40) (.int .u8 0)).toArray 5)
   have f1:=Fr.alloc no w (.cells (List.replicate (2*d.length+40) (.int .u8 0)).toArray 5)
   have z1:(w.alloc (.cells (List.replicate (2*d.length+40) (.int .u8 0)).toArray 5)).heap.size=w.heap.size+1:=by simp
   generalize w.alloc (.cells (List.replicate (2*d.length+40) (.int .u8 0)).toArray 5)=w1 at *
   have ho1:=G7 (base:=0) (size:=1) (n:=2*d.length+40) b1 (Nat.zero_le _) (by unfold maxLen;omega) (by simp)
   have hKw:=ZS hK
   refine Zn (UB (YA (sizeOf36 _) rfl rfl (f1.get hK id) (by show 0<2;decide) ?_))
   have b2:=Z6 (f1.get hK id) 0 (.slice (some ⟨w.heap.size,0,none⟩) (2*d.length+40) (2*d.length+40))
   have f2:Fr (fun b=>b=K) w1 (w1.setCell ⟨K,0,none⟩ (.slice (some ⟨w.heap.size,0,none⟩) (2*d.length+40) (2*d.length+40))):=Fr.setCell w1 ⟨K,0,none⟩ _
   rw[CP]
   unfold TU
   have ho2:=Z4 ho1 f2 fun b hb' (e:b=K)=>by injection hb' with hb';have:w.heap.size=b:=hb';omega
   have f02:Fr (fun b=>b=K) w (w1.setCell ⟨K,0,none⟩ (.slice (some ⟨w.heap.size,0,none⟩) (2*d.length+40) (2*d.length+40))):=(f1.mono fun b hb'=>hb'.elim).trans f2 fun b=> .inl
   show MF k _ (w1.setCell ⟨K,0,none⟩ (.slice (some ⟨w.heap.size,0,none⟩) (2*d.length+40) (2*d.length+40)))
   generalize w1.setCell ⟨K,0,none⟩ (.slice (some ⟨w.heap.size,0,none⟩) (2*d.length+40) (2*d.length+40))=w2 at *
   have hbl:∀b,Zv (.slice (some ⟨w.heap.size,0,none⟩) (2*d.length+40) (2*d.length+40))=some b→b=w.heap.size:=fun b hb'=>by injection hb' with hb';exact hb'.symm
   refine SO (bb:=List.replicate (2*d.length+40) 0) (bv:= .slice (some ⟨w.heap.size,0,none⟩) (2*d.length+40) (2*d.length+40)) (d:=d) (pv:=pv) b2 ?_ (Z5.fr0 hd f02 fun h0 b hb'=>(hdn h0 b hb').2) (fun h0 b hb' e=> ?_) (by simp;omega) (by simp;omega) rfl rfl rfl fun w' v g1 g2 g3 g4 g5=> ?_
   · simpa[u8s] using ho2
   · have hbw := hbl b e
     have:=Src.lt (size:=1) hd (by omega) h0 hb'
     omega
   · rw [List.length_replicate] at g2
     refine hk w' _ v _ (2*d.length+40-d.length) g1 rfl (by simp;omega) ?_ g3 g4 (f02.mono (fun b hb'=> .inl (.inl hb')) |>.trans g5 fun b hb'=> .inr (Nat.le_of_eq (hbl b hb').symm)) fun b hb'=> .inr (Nat.le_of_eq (hbl b hb').symm)
     have:(d++List.replicate (2*d.length+40-d.length) (171:UInt8)).length=2*d.length+40:=by simp;omega
     rw[this];simpa using g2
 · refine ZB     (by omega) (Zf       ?_)
   rw[CP]
   unfold TU
   refine SO (bb:=bb) (d:=d) (bv:=bv) (pv:=pv) hK hb hd (fun h0 b hb'=>(hdn h0 b hb').1) hl (by omega) rfl rfl rfl fun w' v g1 g2 g3 g4 g5=> ?_
   refine hk w' bv v _ (bb.length-d.length) g1 rfl (by simp;omega) ?_ g3 g4 (g5.mono fun b hb'=> .inl (.inr hb')) fun b=> .inl
   have:(d++List.replicate (bb.length-d.length) (171:UInt8)).length=bb.length:=by simp;omega
   rw[this];exact g2
end
end Go.Proofs.YtcdcojpfealppaaGreat
