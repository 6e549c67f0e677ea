/- Put together by a program (wip/tools/shake.py): ROps7,ROps8. -/
import Derived.Test.YtcdcojpfealppaaGreatY19
set_option linter.unusedVariables false
set_option linter.unusedSimpArgs false
set_option maxRecDepth 100000
open Go renaming World → Y, Value → V
namespace Go.Proofs.YtcdcojpfealppaaGreat
open Go Go.Proofs Go.RowKit Go.Proofs.XRed Go.Proofs.XHeap Go.Proofs.XMaps Go.Proofs.XSlices Go.Proofs.XDisk Go.Proofs.XCalls Go.Proofs.XSep Tryz
section
variable {w w0:Y} {D:Nat} {S S':AD} {O I:Nat → Prop} {L L':Uy} {k:KV}
theorem RNx.ZL {w':Y} {M O' I':Nat→Prop} {t:Nat} {x':Thg} {rb':V} (h:YC w D S O I L) (ht:L.has t) (hf:Fr M w w') (hM:∀b,M b→b=L.loc t∨Zv (L.trow t)=some b∨w.heap.size≤b)
   (hO:∀b,O b→O' b) (hI:∀b,I b→I' b) (hO2:∀b,O' b→O b∨w.heap.size≤b) (hI2:∀b,I' b→I b∨w.heap.size≤b) (hT:VK w' O' I' (L.loc t) rb' x') (hrb:∀b,Zv rb'=some b→Zv (L.trow t)=some b∨w.heap.size≤b) (hap:∀b,O' b→¬I' b) (hlt:∀b,O' b∨I' b→b<w'.heap.size):
   RNx w D O I w' (S.ZL t x') O' I' { L with trow:=fun i=>if i=t then rb' else L.trow i}:=
 ⟨h.Yk ht hf hM hO hI hT hrb hap hlt,hf.mono fun b hb=>(hM b hb).elim (fun e=> .inl (e▸(h.things t ht).own)) fun e=>e.elim (fun e=> .inl ((h.things t ht).rown b e)) .inr,hO,hI,hO2,hI2⟩
theorem jq {c:Nat} (h:YC w D S O I L) (ok:S.Ok c) (name:ByteArray) (hk:∀w' O' I' L',RNx w D O I w' (S.sync name).2 O' I' L'→k (i64 (S.sync name).1) w'):pFn P 71 [ptr D,.string name] w k:=by
 have hlen:=YY ok
 refine qj _ _ _ _ ?_
 unfold W8
 refine Uo h (by omega) (Xa ok) name (fun hl i=> ?_) fun hl i hi he=> ?_
 ·have hr:S.sync name=(S.look name,S):=by unfold AD.sync;rw[if_pos hl]
  rw[hr] at hk
  exact ZG rfl (ZG rfl (Y0 hl (Zk (hk w O I L (RNx.refl h)))))
 ·have hr:S.sync name=S.Yc 2 0 (fun T=>T.ZL (S.of name) (T.things (S.of name)).settle):=by unfold AD.sync;rw[if_neg (by simp[hl])]
  rw[hr,U3] at hk
  have ho:=Vc S name (.inr hl)
  refine ZG rfl (ZG rfl (ZY rfl (Zf ?_)))
  refine X1 h ok fun w1 hx1=>ZG rfl (ZG rfl (YP ?_))
  have h1:=hx1.rep
  cases hout:S.out with
  |true=>
   rw[hout] at hk
   refine Zf ?_
   rw[CT]
   unfold W9
   exact UM h1 ho true 0 fun w5 hx5=>hk w5 _ _ _ (hx1.trans hx5)
  |false=>
   rw[hout] at hk
   refine Zk (Zn (Yx (Zj (v:=L.nowv) (isAgg59 _) h1.disk rfl (XA h1.now.1 hi fun p q=> ?_))))
   have e2:S.ZI.shown[i].2=S.of name:=by show S.shown[i].2=_;rw[he]
   rw[e2]
   have hreach:reach S (S.of name):= .inl ⟨name,by rw[←he];exact List.getElem_mem hi⟩
   have hr:L.has (S.of name):=h.sub _ hreach
   have hT0:=h1.things _ hr
   obtain⟨sv,hv,ps,hb,g1,g2,g3,g4,g5⟩:=hT0.ex
   have hTok:=(ok.Yk _ hreach).ok.len.1
   refine Zn (Xp (Zj (v:=hv) (isAgg36 _) hb rfl (YZ g2.1 (by show (S.things (S.of name)).shown.length≤_;omega) fun v2 w2 n2 f2=> ?_)))
   obtain⟨A,c',ev,_⟩:=n2.sb.form
   subst ev
   refine Zn (AF (YA (sizeOf36 _) rfl rfl (f2.get hb id) (by show 0<3;decide) ?_))
   have b3:=Z6 (f2.get hb id) 0 (.slice A (S.ZI.things (S.of name)).shown.length c')
   have f3:Fr (fun b=>b=L.loc (S.of name)) w2 (w2.setCell ⟨L.loc (S.of name),0,none⟩ (.slice A (S.ZI.things (S.of name)).shown.length c')):=Fr.setCell w2 ⟨L.loc (S.of name),0,none⟩ _
   have z3:(w2.setCell ⟨L.loc (S.of name),0,none⟩ (.slice A (S.ZI.things (S.of name)).shown.length c')).heap.size=w2.heap.size:=by simp[World.setCell]
   show px P _ (w2.setCell ⟨L.loc (S.of name),0,none⟩ (.slice A (S.ZI.things (S.of name)).shown.length c')) _
   generalize w2.setCell ⟨L.loc (S.of name),0,none⟩ (.slice A (S.ZI.things (S.of name)).shown.length c')=w3 at *
   refine Zn (Ut (YA (sizeOf154 _) rfl rfl b3 (by show 2<3;decide) ?_))
   have b4:=Z6 b3 2 (.slice none 0 0)
   have f4:Fr (fun b=>b=L.loc (S.of name)) w2 (w3.setCell ⟨L.loc (S.of name),2,none⟩ (.slice none 0 0)):=f3.trans (Fr.setCell w3 ⟨L.loc (S.of name),2,none⟩ _) fun b=> .inl
   have z4:(w3.setCell ⟨L.loc (S.of name),2,none⟩ (.slice none 0 0)).heap.size=w2.heap.size:=by rw[←z3];simp[World.setCell]
   rw[CT]
   unfold W9
   generalize w3.setCell ⟨L.loc (S.of name),2,none⟩ (.slice none 0 0)=w4 at *
   have f14:Fr (fun b=>b=L.loc (S.of name)) w1 w4:=(f2.mono fun b hb=>hb.elim).trans f4 fun b=> .inl
   have hnI:∀b,I b→¬(b=L.loc (S.of name)):=fun b hb e=>h1.apart b (e▸hT0.own) hb
   have hnew:=n2.blk
   have hx4:=RNx.ZL (x':=(S.ZI.things (S.of name)).settle) (rb':= .slice none 0 0) (O':=O) (I':=fun b=>I b∨Zv (.slice A (S.ZI.things (S.of name)).shown.length c')=some b) h1 hr f14 (fun b=> .inl) (fun b=>id) (fun b=> .inl) (fun b=> .inl) (fun b hb=>hb.imp id fun hb=>(hnew b hb).1)
    ⟨⟨.slice A (S.ZI.things (S.of name)).shown.length c',hv,[],b4,⟨n2.sb.fr f4 fun b hb e=> ?_,fun b hb=> .inr hb⟩,(g2.fr f14 hnI).mono fun b=> .inl,⟨rfl,.inl ⟨rfl,rfl⟩⟩,rfl,by simp⟩,hT0.own,by rintro b hb;cases hb⟩ (by rintro b hb;cases hb) ?_ ?_
   ·exact UM hx4.rep ho false 0 fun w5 hx5=>hk w5 _ _ _ (hx1.trans (hx4.trans hx5))
   ·have:=(hnew b hb).1
    have:=h1.lt b (.inl (e▸hT0.own));omega
   ·rintro b hb (hi'|hi')
    ·exact h1.apart b hb hi'
    ·have:=(hnew b hi').1
     have:=h1.lt b (.inl hb);omega
   ·rintro b (hb|hb|hb)
    ·have:=h1.lt b (.inl hb)
     have:=f2.size;omega
    ·have:=h1.lt b (.inr hb)
     have:=f2.size;omega
    ·have:=(hnew b hb).2;omega
theorem YR (p:Chg×V):(ZK p).length=3:=by obtain⟨c,s⟩:=p;cases c<;>rfl
theorem VQ.cells {p:Chg×V} (h:VQ w I p):∀u∈ZK p,u.oneCell'=true:=by
 obtain⟨c,s⟩:=p
 cases c with
 |wr a d=>
  obtain⟨A,cp,rfl,_⟩:=Z5.form (SB.fr h (Fr.refl no w) fun _ _ h=>h).1
  intro u hu;simp[ZK] at hu;rcases hu with rfl|rfl|rfl<;>rfl
 |cut n=>
  obtain⟨A,cp,rfl,_⟩:=Z5.form (SB.fr h (Fr.refl no w) fun _ _ h=>h).1
  intro u hu;simp[ZK] at hu;rcases hu with rfl|rfl|rfl<;>rfl
theorem Ak {p:Chg×V} {a:Nat} {w:Y} {k:KV} (ha:w.heap[a]? =some (.cells (ZK p).toArray 186 (0,0))) (hk:k (.agg (ZK p).toArray) w):px P (Instr.loadAt 186 (ptr a)) w k:=by
 refine Xm (m:=3) (isAgg186 _) (sizeOf186 _) ha (by simp[YR]) ?_
 have:(((ZK p).toArray.toList.drop 0).take 3).toArray=(ZK p).toArray:=by rw[List.drop_zero,List.take_of_length_le (by simp[YR])]
 rw[this];exact hk
theorem Am {p:Chg×V} {kk:KV} (hp:∀u∈ZK p,u.oneCell'=true) (hk:∀w',w'.heap[w.heap.size]? =some (.cells (ZK p).toArray 186 (0,0))→Fr no w w'→w'.heap.size=w.heap.size+1→kk (ptr w.heap.size) w'):
   px P (Instr.alloc 186 true (.tuple #[])) w fun v w=>pu P (Instr.storeAt 186 v (.agg (ZK p).toArray)) w (kk v):=by
 refine Y9 (zeroValue186 _) ?_
 have b1:=Z2 w (.cells #[.bool false,i64 0,.slice none 0 0] 186)
 have f1:=Fr.alloc no w (.cells #[.bool false,i64 0,.slice none 0 0] 186)
 have z1:(w.alloc (.cells #[.bool false,i64 0,.slice none 0 0] 186)).heap.size=w.heap.size+1:=by simp
 show pu P _ (w.alloc (.cells #[.bool false,i64 0,.slice none 0 0] 186)) _
 generalize w.alloc (.cells #[.bool false,i64 0,.slice none 0 0] 186)=w1 at *
 refine Va (n:=3) (sizeOf186 _) (YR p) hp b1 (by show 0+3≤3;decide) fun w' h1 h2 h3=> ?_
 refine hk w' ?_ (f1.trans h2 fun b hb=> .inr (by omega)) (by omega)
 rw[h1]
 simp
set_option maxHeartbeats 1000000 in
theorem GP {w2:Y} {t a:Nat} {sv hv2:V} {p:Chg×V} {kk:V→V→V→V→V→V→V→KV} (h:YC w D S O I L) (ht:L.has t) (hf:Fr (fun b=>b=L.loc t) w w2)
   (hrow:(S.things t).row.length≤1099511627776) (hsv:SB w I sv (S.things t).safe) (hb:w2.heap[L.loc t]? =some (.cells #[sv,hv2,L.trow t] 156 (0,0))) (hhv:Z5 w2 hv2 (p.1.made (S.things t).shown p.1.units)) (hhb:∀b,Zv hv2=some b→I b∨(w.heap.size≤b∧b<w2.heap.size))
   (ha:w2.heap[a]? =some (.cells (ZK p).toArray 186 (0,0))) (haw:w.heap.size≤a) (hp:VQ w2 (fun b=>w.heap.size≤b∧b<w2.heap.size∧b≠a) p)
   (hhva:Zv hv2≠some a)
   (hk:∀w' O' I' L',RNx w D O I w' (S.ZL t ((S.things t).add p.1)) O' I' L'→∀x1 x2 x3 x4 x5 x6 x7 x8,kk x1 x2 x3 x4 x5 x6 x7 x8 w'):
   ∃ S_ : World → Prop,S_ w2.drew ∧ (fun w =>
     pq P S_ (Zh (ptr (L.loc t))) fun v95=>
     pq P S_ (Instr.fieldAt 156 v95 2) fun v96=>
     pq P S_ (Instr.loadAt 154 v96) fun v97=>
     pq P S_ (Instr.loadAt 186 (ptr a)) fun v98=>
     px P (Instr.buildSlice 154 1 #[(0,v98)]) w fun v99 w=>S_ w∧(
     px P (bSem .append #[154,154] 154 #[v97,v99]) w fun v100 w=>S_ w∧(
     pq P S_ (Zh (ptr (L.loc t))) fun v101=>
     pq P S_ (Instr.fieldAt 156 v101 2) fun v102=>
     pu P (Instr.storeAt 154 v102 v100) w fun w=>(
     kk v95 v96 v97 v98 v99 v100 v101 v102 w)))) w2.drew:=by
 have hT0:=h.things t ht
 obtain⟨sv0,hv0,ps,hb0,g1,g2,g3,g4,g5⟩:=hT0.ex
 have hTw:L.loc t<w.heap.size:=h.lt _ (.inl hT0.own)
 have hTa:L.loc t≠a:=by omega
 have hrT:∀b,Zv (L.trow t)=some b→b≠L.loc t∧b<w.heap.size:=fun b hb'=>by
   refine⟨?_,h.lt b (.inl (hT0.rown b hb'))⟩
   rintro rfl
   obtain⟨c1,h1⟩:=hT0.Mg hb'
   exact absurd (Zy h1 hb0) (by decide)
 have fd:Fr no w2 w2.drew:=Fr.drew _ _
 refine⟨fun u=>u.heap[L.loc t]? =some (.cells #[sv,hv2,L.trow t] 156 (0,0))∧u.heap[a]? =some (.cells (ZK p).toArray 186 (0,0)),⟨hb,ha⟩,?_⟩
 refine Zi _ (fun w_ hS=>Zn ⟨rfl,rfl⟩) (Zi _ (fun w_ hS=>Ut ⟨rfl,rfl⟩) (Zi (L.trow t) (fun w_ hS=>Zj (isAgg154 _) hS.1 rfl ⟨rfl,rfl⟩) (Zi (.agg (ZK p).toArray) (fun w_ hS=>Ak hS.2 ⟨rfl,rfl⟩) ?_)))
 refine Z9 (w':=w2.drew.alloc (.cells (ZK p).toArray 186)) (v:= .slice (some ⟨w2.drew.heap.size,0,none⟩) 1 1) (by obtain⟨c,s⟩:=p;cases c<;>kernel_rfl) ?_
 have f3:=Fr.alloc no w2.drew (.cells (ZK p).toArray 186)
 have ho3:=ZQ w2.drew 0 186 3 (ZK p).toArray 1 (Nat.zero_le _) (by unfold maxLen;omega) (by simp[YR])
 have z3:(w2.drew.alloc (.cells (ZK p).toArray 186)).heap.size=w2.heap.size+1:=by simp
 generalize w2.drew.alloc (.cells (ZK p).toArray 186)=w3 at *
 have f23:Fr no w2 w3:=fd.trans f3 fun b=> .inl
 refine⟨⟨f23.get hb id,f23.get ha id⟩,?_⟩
 have own2:w2.ownsRow 0 186 3 (L.trow t) (S.things t).row.length (ps.flatMap ZK):=Z4 g3 hf fun b hb'=>(hrT b hb').1
 refine gU (Z4 own2 f23 fun _ _ h=>h) (Src.Zt ho3) (by simpa using hp.cells) (by omega) (Nat.zero_le _) fun v4 w4 h4 f4 hb4=> ?_
 have b4:=f4.get (f23.get hb id) fun hb'=>(hrT _ hb'.symm).1 rfl
 have a4:=f4.get (f23.get ha id) fun hb'=>by have:=(hrT _ hb'.symm).2;omega
 refine⟨⟨b4,a4⟩,?_⟩
 refine Zi _ (fun w_ hS=>Zn ⟨rfl,rfl⟩) (Zi _ (fun w_ hS=>Ut ⟨rfl,rfl⟩) ?_)
 have v4o:=ZW h4
 refine YA (sizeOf154 _) v4o.1 v4o.2 b4 (by show 2<3;decide) ?_
 have b5:=Z6 b4 2 v4
 have f5:Fr (fun b=>b=L.loc t) w4 (w4.setCell ⟨L.loc t,2,none⟩ v4):=Fr.setCell w4 ⟨L.loc t,2,none⟩ _
 have z5:(w4.setCell ⟨L.loc t,2,none⟩ v4).heap.size=w4.heap.size:=by simp[World.setCell]
 have z34:=f4.size
 have zw:=hf.size
 have hblk4:∀b,Zv v4=some b→Zv (L.trow t)=some b∨w2.heap.size≤b:=by
   intro b hb'
   rcases hb4 with e|e
   · exact .inl (e▸hb')
   · rw[e] at hb';injection hb' with hb';exact .inr (by omega)
 have hv4T:∀b,Zv v4=some b→b≠L.loc t:=by
   intro b hb'
   rcases hblk4 b hb' with e|e
   · exact(hrT b e).1
   · omega
 have v4lt:∀b,Zv v4=some b→b<w4.heap.size:=fun b hb'=>(Zu h4 hb').2
 have hrow5:w4.ownsRow 0 186 3 v4 ((S.things t).row.length+1) ((ps++[p]).flatMap ZK):=by
   rw[List.flatMap_append]
   simpa using h4
 have hrow6:(w4.setCell ⟨L.loc t,2,none⟩ v4).ownsRow 0 186 3 v4 ((S.things t).row.length+1) ((ps++[p]).flatMap ZK):=Z4 hrow5 f5 hv4T
 show kk _ _ _ _ _ _ _ _ (w4.setCell ⟨L.loc t,2,none⟩ v4)
 generalize w4.setCell ⟨L.loc t,2,none⟩ v4=w5 at *
 have g25:Fr (fun b=>b=L.loc t∨Zv (L.trow t)=some b) w2 w5:=((f23.mono fun b hb'=>hb'.elim).trans f4 (fun b hb'=> .inl (.inr hb'.symm))).trans f5 fun b hb'=> .inl (.inl hb')
 have g05:Fr (fun b=>b=L.loc t∨Zv (L.trow t)=some b) w w5:=(hf.mono fun b hb'=> .inl (.inl hb')).trans g25 fun b=> .inl
 have hnI:∀b,I b→¬(b=L.loc t∨Zv (L.trow t)=some b):=by
   rintro b hb' (rfl|e)
   · exact h.apart _ hT0.own hb'
   · exact h.apart b (hT0.rown b e) hb'
 have hnN:∀b,w.heap.size≤b→¬(b=L.loc t∨Zv (L.trow t)=some b):=by
   rintro b hb' (rfl|e)
   · omega
   · have:=(hrT b e).2;omega
 refine hk w5 (fun b=>O b∨Zv v4=some b) (fun b=>I b∨(w.heap.size≤b∧b<w2.heap.size∧b≠a)) _ (RNx.ZL h ht g05 (fun b hb'=>hb'.imp id .inl) (fun b=> .inl) (fun b=> .inl) (fun b hb'=>hb'.elim .inl fun e=>(hblk4 b e).elim (fun e'=> .inl (hT0.rown b e')) fun e'=> .inr (Nat.le_trans zw e')) (fun b hb'=>hb'.imp id fun e=>e.1)
   ⟨⟨sv,hv2,ps++[p],b5,(hsv.fr g05 hnI).mono fun b=> .inl,⟨hhv.fr g25 fun b hb'=>(hhb b hb').elim (hnI b) fun e=>hnN b e.1,fun b hb'=>(hhb b hb').imp id fun e=>⟨e.1,e.2,fun e'=>hhva (e'▸hb')⟩⟩,by simpa[Thg.add] using hrow6,by simp[Thg.add,g4],fun q hq=> ?_⟩,.inl hT0.own,fun b hb'=> .inr hb'⟩ (fun b hb'=>(hblk4 b hb').imp id (Nat.le_trans zw)) ?_ ?_) _ _ _ _ _ _ _ _
 · rcases List.mem_append.1 hq with hq | hq
   · exact((g5 q hq).fr g05 hnI).mono fun b=> .inl
   · rw [List.mem_singleton] at hq; subst hq
     exact(hp.fr g25 fun b hb'=>hnN b hb'.1).mono fun b=> .inr
 · rintro b (hb' | hb') (hi | hi)
   · exact h.apart b hb' hi
   · have:=h.lt b (.inl hb');omega
   · rcases hblk4 b hb' with e | e
     · exact h.apart b (hT0.rown b e) hi
     · have:=h.lt b (.inr hi);omega
   · rcases hblk4 b hb' with e | e
     · have:=(hrT b e).2;omega
     · omega
 · have z23 := f23.size
   rintro b ((hb'|hb')|(hb'|hb'))
   · have:=h.lt b (.inl hb');omega
   · have:=v4lt b hb';omega
   · have:=h.lt b (.inr hb');omega
   · omega
end
section
variable {w w0:Y} {D:Nat} {S S':AD} {O I:Nat → Prop} {L L':Uy} {k:KV}
theorem Src.fr0 {O:Nat→Prop} {w w':Y} {x:V} {size m:Nat} {cs:List V} (h:Src w x size m cs) (hs:0<size) (hf:Fr O w w') (hn:0<m→∀b,Zv x=some b→¬O b):Src w' x size m cs:=by
 by_cases h0:0<m
 ·exact h.fr hs hf (hn h0)
 ·obtain⟨A,c,e,hc,hl,_⟩:=h
  exact⟨A,c,e,hc,hl,fun h1=>absurd h1 h0⟩
theorem Z5.fr0 {O:Nat→Prop} {w w':Y} {x:V} {bs:Bytes} (h:Z5 w x bs) (hf:Fr O w w') (hn:0<bs.length→∀b,Zv x=some b→¬O b):Z5 w' x bs:=Src.fr0 h (by omega) hf hn
set_option maxHeartbeats 1000000 in
theorem Ee {c:Nat} (h:YC w D S O I L) (ok:S.Ok c) (name:ByteArray) (n:Int) (hk:∀w' O' I' L',RNx w D O I w' (S.truncate name n).2 O' I' L'→k (i64 (S.truncate name n).1) w'):pFn P 68 [ptr D,.string name,i64 n] w k:=by
 have hlen:=YY ok
 have hsm:=ok.small
 refine qg _ _ _ _ _ ?_
 unfold W4
 refine Uo h (by omega) (Xa ok) name (fun hl i=> ?_) fun hl i hi he=> ?_
 ·have hr:S.truncate name n=(S.look name,S):=by unfold AD.truncate;rw[if_pos hl]
  rw[hr] at hk
  exact ZG rfl (ZG rfl (Y0 hl (Zk (hk w O I L (RNx.refl h)))))
 ·have ho:=Vc S name (.inr hl)
  refine ZG rfl (ZG rfl (ZY rfl (Zf ?_)))
  refine Zn (Yx (Zj (v:=L.nowv) (isAgg59 _) h.disk rfl (XA h.now.1 hi fun p q=> ?_)))
  have e2:S.shown[i].2=S.of name:=by rw[he]
  rw[e2]
  have hreach:reach S (S.of name):= .inl ⟨name,by rw[←he];exact List.getElem_mem hi⟩
  have hr:L.has (S.of name):=h.sub _ hreach
  have hTok:=(ok.Yk _ hreach).ok.len.1
  have hTrow:=(ok.Yk _ hreach).row
  have bad:n<0∨n>(S.bytes name).length→k (i64 54) w:=by
   intro hb
   have hr:S.truncate name n=(54,S):=by unfold AD.truncate;rw[if_neg (by simp[hl]),if_pos hb]
   rw[hr] at hk
   exact hk w O I L (RNx.refl h)
  have eb:S.bytes name=(S.things (S.of name)).shown:=rfl
  by_cases n0:n<0
  ·refine ZA n0 ?_
   repeat (first|refine Yh ?_|refine YF ?_)
   exact Zx (Zk (bad (.inl n0)))
  obtain⟨sv,hv,ps,hb,g1,g2,g3,g4,g5⟩:=(h.things _ hr).ex
  obtain⟨A,c',ev,hc'⟩:=g2.1.form
  subst ev
  refine ZB n0 (Zl rfl (Zl rfl (Zl rfl (Zn (Zl rfl (Xp (Zl rfl (Zj (v:= .slice A (S.things (S.of name)).shown.length c') (isAgg36 _) hb rfl (Zl rfl (Yn Ya (Zl rfl ?_)))))))))))
  by_cases n1:n>(S.things (S.of name)).shown.length
  ·exact YQ n1 (Zr (Zk (bad (.inr n1))))
  refine YI n1 (Zr (Zf ?_))
  have hr2:S.truncate name n=S.Yc 0 0 (fun T=>T.ZL (S.of name) ((T.things (S.of name)).add (.cut n.toNat))):=by unfold AD.truncate;rw[if_neg (by simp[hl]),if_neg (by rw[eb];omega)]
  rw[hr2,VP] at hk
  refine X1 h ok fun w1 hx1=>ZG rfl (ZG rfl ?_)
  have h1:=hx1.rep
  have hT0:=h1.things _ hr
  obtain⟨sv,hv,ps,hb,g1,g2,g3,g4,g5⟩:=hT0.ex
  obtain⟨m,rfl⟩:∃m:Nat,n=(m:Int):=⟨n.toNat,by omega⟩
  refine Z9 (w':=w1) (v:= .agg (ZK (.cut m,.slice none 0 0)).toArray) (by unfold ZK;kernel_rfl) ?_
  have hp0:∀(u:Y) (J:Nat→Prop),VQ u J (.cut m,.slice none 0 0):=fun u J=>⟨Z5.nil u,by rintro b hb;cases hb⟩
  refine Am (hp0 w1 no).cells fun w2 ha f2 z2=> ?_
  have hb2:=f2.get hb id
  have hg2:Z5 w2 hv (S.things (S.of name)).shown:=g2.1.fr f2 fun _ _ h=>h
  have fd:Fr no w2 w2.drew:=Fr.drew _ _
  refine⟨fun u=>u.heap[L.loc (S.of name)]? =some (.cells #[sv,hv,L.trow (S.of name)] 156 (0,0))∧u.heap[w1.heap.size]? =some (.cells (ZK (.cut m,.slice none 0 0)).toArray 186 (0,0)),⟨hb2,ha⟩,?_⟩
  refine Zi _ (fun w_ hS=>Zn ⟨rfl,rfl⟩) (Zi _ (fun w_ hS=>Xp ⟨rfl,rfl⟩) (Zi hv (fun w_ hS=>Zj (isAgg36 _) hS.1 rfl ⟨rfl,rfl⟩) (Zi _ (fun w_ hS=>Ak hS.2 ⟨rfl,rfl⟩) ?_)))
  refine JY (p:=(.cut m,.slice none 0 0)) (u:=1) (hp0 w2.drew no) (hg2.fr fd fun _ _ h=>h) (Nat.le_refl _) (by omega) (fun n e _=>by injection e with e;subst e;omega) (fun a d e=>by cases e) fun v3 w3 h3 hb3 f3=> ?_
  have f23:Fr no w2 w3:=fd.trans f3 fun b=> .inl
  refine⟨⟨f23.get hb2 id,f23.get ha id⟩,?_⟩
  refine Zi _ (fun w_ hS=>Zn ⟨rfl,rfl⟩) (Zi _ (fun w_ hS=>Xp ⟨rfl,rfl⟩) ?_)
  obtain⟨A3,c3,ev3,_⟩:=h3.form
  subst ev3
  refine YA (sizeOf36 _) rfl rfl (f23.get hb2 id) (by show 1<3;decide) ?_
  have b4:=Z6 (f23.get hb2 id) 1 (.slice A3 (Chg.made (S.things (S.of name)).shown 1 (.cut m)).length c3)
  have f4:=Fr.setCell w3 ⟨L.loc (S.of name),1,none⟩ (.slice A3 (Chg.made (S.things (S.of name)).shown 1 (.cut m)).length c3)
  have z4:(w3.setCell ⟨L.loc (S.of name),1,none⟩ (.slice A3 (Chg.made (S.things (S.of name)).shown 1 (.cut m)).length c3)).heap.size=w3.heap.size:=by simp[World.setCell]
  have a4:=VR 1 (.slice A3 (Chg.made (S.things (S.of name)).shown 1 (.cut m)).length c3) (show w1.heap.size≠L.loc (S.of name) from fun e=>absurd (h1.lt _ (.inl hT0.own)) (by omega)) (f23.get ha id)
  have hTw:=h1.lt _ (.inl hT0.own)
  have hIb:∀b,Zv (.slice A3 (Chg.made (S.things (S.of name)).shown 1 (.cut m)).length c3)=some b→I b∨(w2.heap.size≤b∧b<w3.heap.size):=fun b hb'=>(hb3 b hb').imp (g2.2 b) id
  have h4:Z5 (w3.setCell ⟨L.loc (S.of name),1,none⟩ (.slice A3 (Chg.made (S.things (S.of name)).shown 1 (.cut m)).length c3)) (.slice A3 (Chg.made (S.things (S.of name)).shown 1 (.cut m)).length c3) (Chg.made (S.things (S.of name)).shown 1 (.cut m)):=
   h3.fr f4 fun b hb' e=>(hIb b hb').elim (fun hi=>h1.apart b (by rw[show b=L.loc (S.of name) from e];exact hT0.own) hi) fun hi=>by have:b=L.loc (S.of name):=e;omega
  show∃S_:Y→Prop,S_ (w3.setCell ⟨L.loc (S.of name),1,none⟩ (.slice A3 (Chg.made (S.things (S.of name)).shown 1 (.cut m)).length c3)).drew∧_
  generalize w3.setCell ⟨L.loc (S.of name),1,none⟩ (.slice A3 (Chg.made (S.things (S.of name)).shown 1 (.cut m)).length c3)=w4 at *
  have f14:Fr (fun b=>b=L.loc (S.of name)) w1 w4:=((f2.trans f23 fun b=> .inl).mono fun b hb'=>hb'.elim).trans f4 fun b=> .inl
  refine GP (p:=(.cut m,.slice none 0 0)) h1 hr f14 (by show (S.things (S.of name)).row.length≤_;omega) g1 b4 h4 (fun b hb'=>(hIb b hb').imp id fun e=>by omega) a4 (Nat.le_refl _) (hp0 _ _) (fun e=>(hIb _ e).elim (fun hi=>absurd (h1.lt _ (.inr hi)) (Nat.lt_irrefl _)) fun hi=>by omega) fun w5 O5 I5 L5 hx5=> ?_
  intros
  exact UM hx5.rep ho S.out 0 fun w6 hx6=>hk w6 _ _ _ (hx1.trans (hx5.trans hx6))
set_option maxHeartbeats 1000000 in
theorem jr {lacks:Bool} {more:Int} {o1 o2 o3 o4 o5 o6:Operand} {kk:V→V→V→V→V→V→V→V→V→V→V→V→V→KV} (h:YC w D S O I L) (hl:S.shown.length≤1152921504606846976) (hu:S.used≤268435456) (hm:-4611686018427387904≤more∧more≤4611686018427387904)
   (hk:∀x1 x2 x3 x4 x5 x6 x7 x8 x9 x10 x11 x12 x13,kk x1 x2 x3 x4 x5 x6 x7 x8 x9 x10 x11 x12 x13 (.bool (lacks||(decide (more>0)&&decide ((S.used:Int)+more>S.room)))) w.drew):
   ∃ S_ : World → Prop,S_ w.drew ∧ (fun w =>
     pGq (.bool lacks) false (fun k=>k (i64 more)) (next:=fun v61=>
     pGq (.bool lacks) false (fun k=>pq P S_ (Zd BinOp.gtr 3 o1 o2 v61 (i64 0)) k) (next:=fun v62=>
     pGq (.bool lacks) false (fun k=>k v62) (next:=fun v63=>
     pGq v63 true (fun k=>k (ptr D)) (next:=fun v64=>
     pGq v63 true (fun k=>k (i64 more)) (next:=fun v66=>
     pGq v63 true (fun k=>k (ptr D)) (next:=fun v68=>
     pGq v63 true (fun k=>pq P S_ (Zh v68) k) (next:=fun v69=>
     pGq v63 true (fun k=>pq P S_ (Instr.fieldAt 62 v69 1) k) (next:=fun v70=>
     pGq v63 true (fun k=>pq P S_ (Instr.loadAt 3 v70) k) (next:=fun v71=>
     pG v63 true (fun k=>pFn P 76 [v64] w k) (w:=w) (next:=fun v65 w=>S_ w∧(
     pGq v63 true (fun k=>pq P S_ (Zd BinOp.add 3 o3 o4 v65 v66) k) (next:=fun v67=>
     pGq v63 true (fun k=>pq P S_ (Zd BinOp.gtr 3 o5 o6 v67 v71) k) (next:=fun v72=>
     pGq (.bool lacks) false (fun k=>pq P S_ (Zs v63 v72 (.bool false)) k) (next:=fun v73=>
     pq P S_ (Zs (.bool lacks) (.bool true) v73) fun v74=>
     kk v61 v62 v63 v64 v66 v68 v69 v70 v71 v65 v67 v72 v73 v74 w))))))))))))))) w.drew:=by
 have hd:YC w.drew D S O I L:=h.fr (Fr.drew no _) fun b hb=>hb.elim
 refine⟨fun u=>u.heap[D]? =some (.cells (Y6 S L) 62 (0,0)),hd.disk,?_⟩
 cases lacks with
 | true =>
   repeat (first|refine UO ?_|refine YD ?_)
   refine YF ⟨hd.disk,?_⟩
   repeat (first|refine UO ?_|refine YD ?_)
   exact Zi (.bool true) (fun w_ hS=>Zx ⟨rfl,rfl⟩) (hk _ _ _ _ _ _ _ _ _ _ _ _ _)
 | false =>
   simp only[Bool.false_or] at hk
   refine Ze rfl (Ze rfl ?_)
   by_cases m0:more>0
   · rw [decide_eq_true m0,Bool.true_and] at hk
     refine Zi (.bool true) (fun w_ hS=>YQ m0 ⟨rfl,rfl⟩) (Ze rfl (Ze rfl (Ze rfl (Ze rfl (Ze rfl ?_)))))
     refine Zi _ (fun w_ hS=>Zn ⟨rfl,rfl⟩) (Ze rfl (Zi _ (fun w_ hS=>Dy ⟨rfl,rfl⟩) (Ze rfl (Zi (i64 S.room) (fun w_ hS=>Zj (isAgg3 _) hS rfl ⟨rfl,rfl⟩) ?_))))
     refine Zl rfl (SA hd hl (by omega) ⟨hd.disk,?_⟩)
     refine Ze rfl (Zi (i64 ((S.used:Int)+more)) (fun w_ hS=>Zp (by omega) ⟨rfl,rfl⟩) (Ze rfl (Zi _ (fun w_ hS=>ze3 ⟨rfl,rfl⟩) (Ze rfl ?_))))
     exact Zi _ (fun w_ hS=>Zx ⟨rfl,rfl⟩) (Zi _ (fun w_ hS=>Zr ⟨rfl,rfl⟩) (hk _ _ _ _ _ _ _ _ _ _ _ _ _))
   · rw [decide_eq_false m0,Bool.false_and] at hk
     refine Zi (.bool false) (fun w_ hS=>YI m0 ⟨rfl,rfl⟩) (Ze rfl ?_)
     repeat (first|refine Y3 ?_|refine YD ?_)
     refine V9 ⟨hd.disk,?_⟩
     repeat (first|refine Y3 ?_|refine YD ?_)
     exact Ze rfl (Zi _ (fun w_ hS=>Zr ⟨rfl,rfl⟩) (Zi _ (fun w_ hS=>Zr ⟨rfl,rfl⟩) (hk _ _ _ _ _ _ _ _ _ _ _ _ _)))
set_option maxHeartbeats 2000000 in
theorem B7 {c:Nat} (h:YC w D S O I L) (ok:S.Ok c) (name:ByteArray) (at_:Int) (hat:-9223372036854775808≤at_∧at_≤9223372036854775807) {dv:V} {d:Bytes} (hd:Z5 w dv d) (hdO:0<d.length→∀b,Zv dv=some b→¬O b) (hdl:d.length≤549755813888) (hk:∀w' O' I' L',RNx w D O I w' (S.Ye name at_ d).2 O' I' L'→k (i64 (S.Ye name at_ d).1) w'):pFn P 64 [ptr D,.string name,i64 at_,dv] w k:=by
 have hlen:=YY ok
 have hsm:=ok.small
 refine qe _ _ _ _ _ _ ?_
 unfold W2
 refine Uo h (by omega) (Xa ok) name (fun hl i=> ?_) fun hl i hi he=> ?_
 · have hr : S.Ye      name at_ d = (S.look name,S) := by unfold AD.Ye     ; rw [if_pos hl]
   rw[hr] at hk
   exact ZG rfl (ZG rfl (Y0 hl (Zk (hk w O I L (RNx.refl h)))))
 · have ho := Vc           S name (.inr hl)
   refine ZG rfl (ZG rfl (ZY rfl (Zf ?_)))
   refine Zn (Yx (Zj (v:=L.nowv) (isAgg59 _) h.disk rfl (XA h.now.1 hi fun p q=> ?_)))
   have e2:S.shown[i].2=S.of name:=by rw[he]
   rw[e2]
   have hreach:reach S (S.of name):= .inl ⟨name,by rw[←he];exact List.getElem_mem hi⟩
   have hr:L.has (S.of name):=h.sub _ hreach
   have hTok:=(ok.Yk _ hreach).ok.len.1
   have hTrow:=(ok.Yk _ hreach).row
   have hused:=Me ok
   have hroom:=ok.room
   have bad:at_<0∨at_>(S.bytes name).length→k (i64 54) w:=by
     intro hb
     have hr:S.Ye name at_ d=(54,S):=by unfold AD.Ye;rw[if_neg (by simp[hl]),if_pos hb]
     rw[hr] at hk
     exact hk w O I L (RNx.refl h)
   have eb:S.bytes name=(S.things (S.of name)).shown:=rfl
   by_cases n0:at_<0
   · refine ZA     n0 ?_
     repeat (first|refine Yh ?_|refine YF ?_)
     exact Zx (Zk (bad (.inl n0)))
   obtain⟨sv0,hv0,ps0,hb0,q1,q2,q3,q4,q5⟩:=(h.things _ hr).ex
   obtain⟨A,c',ev,hc'⟩:=q2.1.form
   subst ev
   refine ZB n0 (Zl rfl (Zl rfl (Zl rfl (Zn (Zl rfl (Xp (Zl rfl (Zj (v:= .slice A (S.things (S.of name)).shown.length c') (isAgg36 _) hb0 rfl (Zl rfl (Yn Ya (Zl rfl ?_)))))))))))
   by_cases n1:at_>(S.things (S.of name)).shown.length
   · exact YQ n1 (Zr (Zk (bad (.inr n1))))
   refine YI n1 (Zr (Zf ?_))
   clear q1 q2 q3 q4 q5 hb0
   obtain⟨a0,rfl⟩:∃m:Nat,at_=(m:Int):=⟨at_.toNat,by omega⟩
   have hr2:S.Ye name a0 d=S.Yc 1 (if (a0:Int)+d.length-(S.things (S.of name)).shown.length>0∧S.used+((a0:Int)+d.length-(S.things (S.of name)).shown.length)>S.room then 55 else 0)
       (fun T=>T.ZL (S.of name) ((T.things (S.of name)).add (.wr a0 d))):=by
     unfold AD.Ye;rw[if_neg (by simp[hl]),if_neg (by rw[eb];omega)];rfl
   rw[hr2] at hk
   clear bad
   refine X1 h ok fun w1 hx1=>ZG rfl (ZG rfl ?_)
   have h1:=hx1.rep
   have hT0:=h1.things _ hr
   obtain⟨sv,hv,ps,hb,g1,g2,g3,g4,g5⟩:=hT0.ex
   have hd1:Z5 w1 dv d:=Z5.fr0 hd hx1.fr hdO
   refine ZF Ya hd1 (Zp (by omega) (Zn (Xp (Zj (v:=hv) (isAgg36 _) hb rfl (ZF Ya g2.1 (V8 (by show _≤_-((S.things (S.of name)).shown.length:Int)∧_-((S.things (S.of name)).shown.length:Int)≤_;omega) ?_))))))
   refine jr (lacks:=S.lacks) (more:=(a0:Int)+d.length-(S.things (S.of name)).shown.length) h1 (by show S.shown.length≤_;omega) hused (by omega) ?_
   intros
   have hfull:(S.lacks||(decide ((a0:Int)+d.length-(S.things (S.of name)).shown.length>0)&&decide ((S.used:Int)+((a0:Int)+d.length-(S.things (S.of name)).shown.length)>S.room)))=true→
       ∀w',RNx w D O I w' { S.ZI with off:=S.out} O I L→k (i64 (if S.out then 50 else 55)) w':=by
     intro hf w' hx
     rw[Bool.or_eq_true,Bool.and_eq_true,decide_eq_true_eq,decide_eq_true_eq] at hf
     by_cases hc:(a0:Int)+d.length-(S.things (S.of name)).shown.length>0∧(S.used:Int)+((a0:Int)+d.length-(S.things (S.of name)).shown.length)>S.room
     · rw [if_pos hc,J1         _ _ _ _ (by omega)] at hk
       exact hk w' _ _ _ hx
     · rw [if_neg hc,QD          _ _ (hf.resolve_right hc)] at hk
       exact hk w' _ _ _ hx
   have hfree:(S.lacks||(decide ((a0:Int)+d.length-(S.things (S.of name)).shown.length>0)&&decide ((S.used:Int)+((a0:Int)+d.length-(S.things (S.of name)).shown.length)>S.room)))=false→
       ∀w' O' I' L',RNx w D O I w' { (S.ZI.ZL (S.of name) ((S.ZI.things (S.of name)).add (.wr a0 d))) with off:=S.out} O' I' L'→k (i64 (if S.out then 50 else 0)) w':=by
     intro hf w' O' I' L' hx
     rw[Bool.or_eq_false_iff,Bool.and_eq_false_iff,decide_eq_false_iff_not,decide_eq_false_iff_not] at hf
     rw[if_neg (fun hc=>hf.2.elim (fun h=>h hc.1) fun h=>h hc.2),Bv _ _ hf.1] at hk
     exact hk w' _ _ _ hx
   clear hk hr2
   show pC (.bool (S.lacks||(decide ((a0:Int)+d.length-(S.things (S.of name)).shown.length>0)&&decide ((S.used:Int)+((a0:Int)+d.length-(S.things (S.of name)).shown.length)>S.room)))) _ _
   have fdr:Fr no w1 w1.drew:=Fr.drew _ _
   cases hfl:(S.lacks||(decide ((a0:Int)+d.length-(S.things (S.of name)).shown.length>0)&&decide ((S.used:Int)+((a0:Int)+d.length-(S.things (S.of name)).shown.length)>S.room))) with
   | true =>
     refine Zk (UM (h1.fr fdr fun b hb=>hb.elim) ho S.out 55 fun w5 hx5=>hfull hfl w5 (hx1.trans (RNx.of0 fdr hx5)))
   | false =>
     have hfree':=hfree hfl
     clear hfull hfree hfl
     refine Zf (YZ (hd1.fr fdr fun _ _ h=>h) (by omega) fun v80 w80 n80 f80=> ?_)
     have f1:Fr no w1 w80:=fdr.trans f80 fun b=> .inl
     obtain⟨A80,c80,ev80,_⟩:=n80.sb.form
     subst ev80
     refine Z9 (w':=w80) (v:= .agg (ZK (.wr a0 d,.slice A80 d.length c80)).toArray) (by unfold ZK;kernel_rfl) ?_
     have hn80:=n80.blk
     have z1d:w1.drew.heap.size=w1.heap.size:=rfl
     have hp0:∀(u:Y),Fr no w80 u→VQ u (fun b=>w1.heap.size≤b∧b<w80.heap.size) (.wr a0 d,.slice A80 d.length c80):=fun u fu=>⟨n80.sb.fr fu fun _ _ h=>h,fun b hb'=>by have:=hn80 b hb';omega⟩
     refine Am (hp0 w80 (Fr.refl _ _)).cells fun w2 ha f2 z2=> ?_
     have f12:Fr no w1 w2:=f1.trans f2 fun b=> .inl
     have hb2:=f12.get hb id
     have hg2:Z5 w2 hv (S.things (S.of name)).shown:=g2.1.fr f12 fun _ _ h=>h
     have fd:Fr no w2 w2.drew:=Fr.drew _ _
     refine⟨fun u=>u.heap[L.loc (S.of name)]? =some (.cells #[sv,hv,L.trow (S.of name)] 156 (0,0))∧u.heap[w80.heap.size]? =some (.cells (ZK (.wr a0 d,.slice A80 d.length c80)).toArray 186 (0,0)),⟨hb2,ha⟩,?_⟩
     refine Zi _ (fun w_ hS=>Zn ⟨rfl,rfl⟩) (Zi _ (fun w_ hS=>Xp ⟨rfl,rfl⟩) (Zi hv (fun w_ hS=>Zj (isAgg36 _) hS.1 rfl ⟨rfl,rfl⟩) (Zi _ (fun w_ hS=>Ak hS.2 ⟨rfl,rfl⟩) ?_)))
     obtain⟨Ad,cd,evd,_⟩:=hd.form
     refine Zi (i64 d.length) (fun w_ hS=>by rw[evd];exact Yn Ya ⟨rfl,rfl⟩) ?_
     refine JY (p:=(.wr a0 d,.slice A80 d.length c80)) (u:=d.length) (hp0 w2.drew (f2.trans fd fun b=> .inl)) (hg2.fr fd fun _ _ h=>h) (Nat.le_refl _) (by omega) (fun n e _=>by cases e) (fun a d' e=>by injection e with e1 e2;subst e1;subst e2;omega) fun v3 w3 h3 hb3 f3=> ?_
     have f23:Fr no w2 w3:=fd.trans f3 fun b=> .inl
     refine⟨⟨f23.get hb2 id,f23.get ha id⟩,?_⟩
     refine Zi _ (fun w_ hS=>Zn ⟨rfl,rfl⟩) (Zi _ (fun w_ hS=>Xp ⟨rfl,rfl⟩) ?_)
     obtain⟨A3,c3,ev3,_⟩:=h3.form
     subst ev3
     refine YA (sizeOf36 _) rfl rfl (f23.get hb2 id) (by show 1<3;decide) ?_
     have b4:=Z6 (f23.get hb2 id) 1 (.slice A3 (Chg.made (S.things (S.of name)).shown d.length (.wr a0 d)).length c3)
     have f4:=Fr.setCell w3 ⟨L.loc (S.of name),1,none⟩ (.slice A3 (Chg.made (S.things (S.of name)).shown d.length (.wr a0 d)).length c3)
     have z4:(w3.setCell ⟨L.loc (S.of name),1,none⟩ (.slice A3 (Chg.made (S.things (S.of name)).shown d.length (.wr a0 d)).length c3)).heap.size=w3.heap.size:=by simp[World.setCell]
     have hTw:=h1.lt _ (.inl hT0.own)
     have z80:=f1.size
     have a4:=VR 1 (.slice A3 (Chg.made (S.things (S.of name)).shown d.length (.wr a0 d)).length c3) (show w80.heap.size≠L.loc (S.of name) by omega) (f23.get ha id)
     have hIb:∀b,Zv (.slice A3 (Chg.made (S.things (S.of name)).shown d.length (.wr a0 d)).length c3)=some b→I b∨(w2.heap.size≤b∧b<w3.heap.size):=fun b hb'=>(hb3 b hb').imp (g2.2 b) id
     have z2d:w2.drew.heap.size=w2.heap.size:=rfl
     have hloc:∀b,I b∨w1.heap.size≤b→¬(b=L.loc (S.of name)):=by
       rintro b (hi|hi) rfl
       · exact h1.apart _ hT0.own hi
       · omega
     have h4:Z5 (w3.setCell ⟨L.loc (S.of name),1,none⟩ (.slice A3 (Chg.made (S.things (S.of name)).shown d.length (.wr a0 d)).length c3)) (.slice A3 (Chg.made (S.things (S.of name)).shown d.length (.wr a0 d)).length c3) (Chg.made (S.things (S.of name)).shown d.length (.wr a0 d)):=
       h3.fr f4 fun b hb' e=>hloc b ((hIb b hb').imp id fun h=>by omega) e
     have hp4:VQ (w3.setCell ⟨L.loc (S.of name),1,none⟩ (.slice A3 (Chg.made (S.things (S.of name)).shown d.length (.wr a0 d)).length c3)) (fun b=>w1.heap.size≤b∧b<w80.heap.size) (.wr a0 d,.slice A80 d.length c80):=
       (hp0 w3 (f2.trans f23 fun b=> .inl)).fr f4 fun b hb' e=>hloc b (.inr hb'.1) e
     show∃S_:Y→Prop,S_ (w3.setCell ⟨L.loc (S.of name),1,none⟩ (.slice A3 (Chg.made (S.things (S.of name)).shown d.length (.wr a0 d)).length c3)).drew∧_
     generalize w3.setCell ⟨L.loc (S.of name),1,none⟩ (.slice A3 (Chg.made (S.things (S.of name)).shown d.length (.wr a0 d)).length c3)=w4 at *
     have f14:Fr (fun b=>b=L.loc (S.of name)) w1 w4:=((f12.trans f23 fun b=> .inl).mono fun b hb'=>hb'.elim).trans f4 fun b=> .inl
     have z23:=f23.size
     refine GP (p:=(.wr a0 d,.slice A80 d.length c80)) h1 hr f14 (by show (S.things (S.of name)).row.length≤_;omega) g1 b4 h4 (fun b hb'=>(hIb b hb').imp id fun e=>by omega) a4 z80 (hp4.mono fun b hb'=>⟨hb'.1,by omega,by omega⟩) (fun e=>(hIb _ e).elim (fun hi=>absurd (h1.lt _ (.inr hi)) (by omega)) fun hi=>by omega) fun w5 O5 I5 L5 hx5=> ?_
     intros
     exact UM hx5.rep ho S.out 0 fun w6 hx6=>hfree' w6 _ _ _ (hx1.trans (hx5.trans hx6))
theorem NW {c:Nat} (h:YC w D S O I L) (ok:S.Ok c) (name:ByteArray) {dv:V} {d:Bytes} (hd:Z5 w dv d) (hdO:0<d.length→∀b,Zv dv=some b→¬O b) (hdl:d.length≤549755813888) (hk:∀w' O' I' L',RNx w D O I w' (S.append name d).2 O' I' L'→k (i64 (S.append name d).1) w'):pFn P 66 [ptr D,.string name,dv] w k:=by
 have hlen:=YY ok
 refine qf _ _ _ _ _ ?_
 unfold W3
 refine Uo h (by omega) (Xa ok) name (fun hl i=> ?_) fun hl i hi he=> ?_
 ·have hr:S.append name d=(S.look name,S):=by unfold AD.append;rw[if_pos hl]
  rw[hr] at hk
  exact ZG rfl (ZG rfl (Y0 hl (Zk (hk w O I L (RNx.refl h)))))
 ·have hr:S.append name d=S.Ye name (S.bytes name).length d:=by unfold AD.append;rw[if_neg (by simp[hl])]
  rw[hr] at hk
  refine ZG rfl (ZG rfl (ZY rfl (Zf ?_)))
  refine Zn (Yx (Zj (v:=L.nowv) (isAgg59 _) h.disk rfl (XA h.now.1 hi fun p q=> ?_)))
  have e2:S.shown[i].2=S.of name:=by rw[he]
  rw[e2]
  have hreach:reach S (S.of name):= .inl ⟨name,by rw[←he];exact List.getElem_mem hi⟩
  have hr:L.has (S.of name):=h.sub _ hreach
  have hTok:=(ok.Yk _ hreach).ok.len.1
  obtain⟨sv,hv,ps,hb,g1,g2,g3,g4,g5⟩:=(h.things _ hr).ex
  refine Zn (Xp (Zj (v:=hv) (isAgg36 _) hb rfl (ZF Ya g2.1 ?_)))
  exact B7 h ok name (S.bytes name).length (by show _≤((S.things (S.of name)).shown.length:Int)∧((S.things (S.of name)).shown.length:Int)≤_;omega) hd hdO hdl hk
end
end Go.Proofs.YtcdcojpfealppaaGreat
