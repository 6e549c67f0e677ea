/- Put together by a program (wip/tools/shake.py): RTwin2,RTwin3. -/
import Derived.Test.YtcdcojpfealppaaGreatY27
set_option linter.unusedVariables false
set_option linter.unusedSimpArgs false
set_option maxRecDepth 100000
open Go renaming World → Y, Value → V
namespace Go.Proofs.YtcdcojpfealppaaGreat
open Go Go.Proofs Go.RowKit Go.Proofs.XRed Go.Proofs.XHeap Go.Proofs.XMaps Go.Proofs.XSlices Go.Proofs.XDisk Go.Proofs.XCalls Go.Proofs.XPtr Go.Proofs.XSep Tryz
section
variable {w w0:Y} {D:Nat} {S S':AD} {O I:Nat → Prop} {L L':Uy} {k:KV}
theorem gi {X a B n:Nat} {sv hv rb:V} {p:Chg×V} {cs:List V} {kk:V→V→V→V→V→V→V→KV} (hb:w.heap[X]? =some (.cells #[sv,hv,rb] 156 (0,0))) (ha:w.heap[a]? =some (.cells (ZK p).toArray 186 (0,0)))
   (hrow:w.ownsRow B 186 3 rb n cs) (hB:B≤w.heap.size) (hn:n≤1099511627776) (hp:∀u∈ZK p,u.oneCell'=true) (haR:Zv rb≠some a)
   (hk:∀w' rb',w'.heap[X]? =some (.cells #[sv,hv,rb'] 156 (0,0))→w'.ownsRow B 186 3 rb' (n+1) (cs++ZK p)→Fr (fun b=>b=X∨Zv rb=some b) w w'→(∀b,Zv rb'=some b→Zv rb=some b∨w.heap.size≤b)→∀x1 x2 x3 x4 x5 x6 x7 x8,kk x1 x2 x3 x4 x5 x6 x7 x8 w'):
   ∃ S_ : World → Prop,S_ w.drew ∧ (fun w =>
     pq P S_ (Zh (ptr X)) fun v95=>
     pq P S_ (Instr.fieldAt 156 v95 2) fun v96=>
     pq P S_ (Instr.loadAt 154 v96) fun v97=>
     pq P S_ (Instr.loadAt 186 (ptr a)) fun v98=>
     px P (Instr.buildSlice 154 1 #[(0,v98)]) w fun v99 w=>S_ w∧(
     px P (bSem .append #[154,154] 154 #[v97,v99]) w fun v100 w=>S_ w∧(
     pq P S_ (Zh (ptr X)) fun v101=>
     pq P S_ (Instr.fieldAt 156 v101 2) fun v102=>
     pu P (Instr.storeAt 154 v102 v100) w fun w=>(
     kk v95 v96 v97 v98 v99 v100 v101 v102 w)))) w.drew:=by
 have hrX:∀b,Zv rb=some b→b≠X:=by
   rintro b hb' rfl
   obtain⟨c1,h1⟩:=Z0 hrow hb'
   exact absurd (Zy h1 hb) (by decide)
 have fd:Fr no w w.drew:=Fr.drew _ _
 refine⟨fun u=>u.heap[X]? =some (.cells #[sv,hv,rb] 156 (0,0))∧u.heap[a]? =some (.cells (ZK p).toArray 186 (0,0)),⟨hb,ha⟩,?_⟩
 refine Zi _ (fun w_ hS=>Zn ⟨rfl,rfl⟩) (Zi _ (fun w_ hS=>Ut ⟨rfl,rfl⟩) (Zi rb (fun w_ hS=>Zj (isAgg154 _) hS.1 rfl ⟨rfl,rfl⟩) (Zi (.agg (ZK p).toArray) (fun w_ hS=>Ak hS.2 ⟨rfl,rfl⟩) ?_)))
 refine Z9 (w':=w.drew.alloc (.cells (ZK p).toArray 186)) (v:= .slice (some ⟨w.drew.heap.size,0,none⟩) 1 1) (by obtain⟨c,s⟩:=p;cases c<;>kernel_rfl) ?_
 have f3:=Fr.alloc no w.drew (.cells (ZK p).toArray 186)
 have ho3:=ZQ w.drew 0 186 3 (ZK p).toArray 1 (Nat.zero_le _) (by unfold maxLen;omega) (by simp[YR])
 have z3:(w.drew.alloc (.cells (ZK p).toArray 186)).heap.size=w.heap.size+1:=by simp
 generalize w.drew.alloc (.cells (ZK p).toArray 186)=w3 at *
 have f23:Fr no w w3:=fd.trans f3 fun b=> .inl
 refine⟨⟨f23.get hb id,f23.get ha id⟩,?_⟩
 refine gU (Z4 hrow f23 fun _ _ h=>h) (Src.Zt ho3) (by simpa using hp) (by omega) (by omega) fun v4 w4 h4 f4 hb4=> ?_
 have b4:=f4.get (f23.get hb id) fun hb'=>hrX _ hb'.symm rfl
 have a4:=f4.get (f23.get ha id) fun hb'=>haR hb'.symm
 refine⟨⟨b4,a4⟩,?_⟩
 refine Zi _ (fun w_ hS=>Zn ⟨rfl,rfl⟩) (Zi _ (fun w_ hS=>Ut ⟨rfl,rfl⟩) ?_)
 have v4o:=ZW h4
 refine YA (sizeOf154 _) v4o.1 v4o.2 b4 (by show 2<3;decide) ?_
 have b5:=Z6 b4 2 v4
 have f5:Fr (fun b=>b=X) w4 (w4.setCell ⟨X,2,none⟩ v4):=Fr.setCell w4 ⟨X,2,none⟩ _
 have hblk4:∀b,Zv v4=some b→Zv rb=some b∨w.heap.size≤b:=by
   intro b hb'
   rcases hb4 with e|e
   · exact .inl (e▸hb')
   · rw[e] at hb';injection hb' with hb';exact .inr (by omega)
 have hv4X:∀b,Zv v4=some b→b≠X:=by
   rintro b hb' rfl
   obtain⟨c1,h1⟩:=Z0 h4 hb'
   exact absurd (Zy h1 b4) (by decide)
 refine hk _ v4 b5 (Z4 (by simpa using h4) f5 hv4X) (((f23.mono fun b hb'=>hb'.elim).trans f4 fun b hb'=> .inl (.inr hb'.symm)).trans f5 fun b hb'=> .inl (.inl hb')) hblk4 _ _ _ _ _ _ _ _
theorem gj {p:Chg×V} (h:VQ w I p):∃d,SB w I p.2 d∧d.length≤p.1.units∧(ZK p)[2]? =some p.2∧∀(w0 w1:Y) s,V1 w0 w1 s d→Ur w0 w1 (p.1,s):=by
 obtain⟨c,s⟩:=p
 cases c with
 |wr a d=>exact⟨d,h,Nat.le_refl _,rfl,fun _ _ _ h=>h⟩
 |cut n=>exact⟨[],h,Nat.zero_le _,rfl,fun _ _ _ h=>h⟩
theorem zf6 (p:Chg×V) (u:V):(ZK p).toArray.setIfInBounds 2 u=(ZK (p.1,u)).toArray:=by
 obtain⟨c,s⟩:=p
 cases c<;>rfl
theorem Ur.cells {w0 w:Y} {p:Chg×V} (h:Ur w0 w p):∀u∈ZK p,u.oneCell'=true:=by
 obtain⟨c,s⟩:=p
 cases c with
 |wr a d=>
  obtain⟨A,cp,rfl,_⟩:=(V1.sb (v:=s) h).form
  intro u hu;simp[ZK] at hu;rcases hu with rfl|rfl|rfl<;>rfl
 |cut n=>
  obtain⟨A,cp,rfl,_⟩:=(V1.sb (v:=s) h).form
  intro u hu;simp[ZK] at hu;rcases hu with rfl|rfl|rfl<;>rfl
theorem Ur.less {wa wb:Y} {p:Chg×V} (h:Ur wb w p) (hz:wa.heap.size≤wb.heap.size):Ur wa w p:=by
 obtain⟨c,s⟩:=p
 cases c with
 |wr a d=>exact V1.less (v:=s) h hz
 |cut n=>exact V1.less (v:=s) h hz
def Dj (w:Y) (M:Nat→Prop):Prop:=∀b,M b→∀c T,w.heap[b]? =some (.cells c T (0,0))→T≠5
theorem Dj.byte {M:Nat→Prop} (hM:Dj w M) {v:V} {bs:Bytes} {wb:Y} (h:V1 wb w v bs):∀b,Zv v=some b→¬M b:=fun b hb hm=>by
 obtain⟨c,hc⟩:=Z0 h hb
 exact hM b hm c _ hc rfl
theorem Ur.frB {w' wb:Y} {p:Chg×V} {M:Nat→Prop} (h:Ur wb w p) (hf:Fr M w w') (hM:Dj w M):Ur wb w' p:=by
 obtain⟨c,s⟩:=p
 cases c with
 |wr a d=>exact V1.fr (v:=s) h hf (hM.byte (v:=s) h)
 |cut n=>exact V1.fr (v:=s) h hf (hM.byte (v:=s) h)
set_option maxHeartbeats 1000000 in
theorem HM {ov mv:V} {t c:Nat} {wb:Y} {tl:Y4} (h:YC w D S O I L) (ht:L.has t) (hT:(S.things t).Ok c) (hc:c≤1099511627776) (hwb:wb.heap.size≤w.heap.size) (hl:tl.length≤1099511627776)
   (ho:w.ownsRow wb.heap.size 142 1 ov tl.length (XL L tl)) (hm:w.ownsRow wb.heap.size 142 1 mv tl.length (X4 tl)) (hne:∀b,Zv ov=some b→Zv mv≠some b) (hhas:∀p∈tl,L.has p.1) (hnew:∀p∈tl,p.1≠t)
   (hk:∀w' ov' mv' T rb,w'.ownsRow wb.heap.size 142 1 ov' (tl.length+1) (XL L (tl++[(t,T,rb)]))→w'.ownsRow wb.heap.size 142 1 mv' (tl.length+1) (X4 (tl++[(t,T,rb)]))→(∀b,Zv ov'=some b→Zv mv'≠some b)→QN w w' T rb (S.things t)→
     Fr (fun b=>Zv ov=some b∨Zv mv=some b) w w'→k (.tuple #[ov',mv']) w'):pFn P 86 [ov,mv,ptr (L.loc t)] w k:=by
 have hblk:∀t,L.has t→Blk w (L.loc t):=fun t ht=>by obtain⟨c,h⟩:=(h.things t ht).obj;exact⟨c,_,h⟩
 refine F3 _ _ _ _ _ ?_
 unfold F2
 show px P (Zd BinOp.eql 142 _ _ (ptr (L.loc t)) (.pointer none)) w _
 refine YJ JK (Zl rfl (Zl rfl (Zl rfl (Zl rfl ?_))))
 refine QM (Src.Zt ho) (Src.Zt hm) (by omega) (hblk t ht) (fun p hp=>hblk _ (hhas p hp)) (fun p hp e=>absurd (h.inj _ _ (hhas p hp) ht e) (hnew p hp)) fun _=> ?_
 refine Zl rfl (GL JK (Zr (Zf ?_)))
 have hT0:=h.things t ht
 obtain⟨sv,hv,ps,hb,g1,g2,g3,g4,g5⟩:=hT0.ex
 have hlen:=hT.ok.len
 have fd:Fr no w w.drew:=Fr.drew _ _
 refine⟨fun u=>u.heap[L.loc t]? =some (.cells #[sv,hv,L.trow t] 156 (0,0)),hb,?_⟩
 refine Zi _ (fun w_ hS=>Zn ⟨rfl,rfl⟩) (Zi _ (fun w_ hS=>AF ⟨rfl,rfl⟩) (Zi sv (fun w_ hS=>Zj (isAgg36 _) hS rfl ⟨rfl,rfl⟩) ?_))
 refine Zi _ (fun w_ hS=>Zn ⟨rfl,rfl⟩) (Zi _ (fun w_ hS=>Xp ⟨rfl,rfl⟩) (Zi hv (fun w_ hS=>Zj (isAgg36 _) hS rfl ⟨rfl,rfl⟩) ?_))
 refine YZ (g1.1.fr fd fun _ _ h=>h) (by omega) fun v1 w1 n1 f1=> ?_
 have f01:Fr no w w1:=fd.trans f1 fun b=> .inl
 refine⟨f01.get hb id,?_⟩
 refine YZ (g2.1.fr f01 fun _ _ h=>h) (by omega) fun v2 w2 n2 f2=> ?_
 have f02:Fr no w w2:=f01.trans f2 fun b=> .inl
 obtain⟨A1,c1,ev1,_⟩:=n1.sb.form
 obtain⟨A2,c2,ev2,_⟩:=n2.sb.form
 subst ev1;subst ev2
 refine⟨f02.get hb id,Zi (.agg #[.slice A1 (S.things t).safe.length c1,.slice A2 (S.things t).shown.length c2,.slice none 0 0]) (fun w_ hS=>Z9 (w':=w_) (by kernel_rfl) ⟨rfl,rfl⟩) (Yw ?_)⟩
 have bX:=Z2 w2 (.cells #[.slice A1 (S.things t).safe.length c1,.slice A2 (S.things t).shown.length c2,.slice none 0 0] 156)
 have fX:=Fr.alloc no w2 (.cells #[.slice A1 (S.things t).safe.length c1,.slice A2 (S.things t).shown.length c2,.slice none 0 0] 156)
 have zX:(w2.alloc (.cells #[.slice A1 (S.things t).safe.length c1,.slice A2 (S.things t).shown.length c2,.slice none 0 0] 156)).heap.size=w2.heap.size+1:=by simp
 show (_∧_)
 have hwT:w2.alloc (.cells (Value.agg #[.slice A1 (S.things t).safe.length c1,.slice A2 (S.things t).shown.length c2,.slice none 0 0]).cells 156)=w2.alloc (.cells #[.slice A1 (S.things t).safe.length c1,.slice A2 (S.things t).shown.length c2,.slice none 0 0] 156):=rfl
 rw[hwT]
 generalize w2.alloc (.cells #[.slice A1 (S.things t).safe.length c1,.slice A2 (S.things t).shown.length c2,.slice none 0 0] 156)=w3 at *
 have f03:Fr no w w3:=f02.trans fX fun b=> .inl
 refine⟨f03.get hb id,?_⟩
 have z02:=f02.size
 have hX:w.heap.size≤w2.heap.size:=z02
 have hrl:=hT.row
 have N1:V1 w w3 (.slice A1 (S.things t).safe.length c1) (S.things t).safe:=V1.less (Z4 (Z4 n1 f2 fun _ _ h=>h) fX fun _ _ h=>h) fd.size
 have N2:V1 w w3 (.slice A2 (S.things t).shown.length c2) (S.things t).shown:=V1.less (Z4 n2 fX fun _ _ h=>h) f01.size
 generalize w2.heap.size=X at *
 refine F1 (m:=(S.things t).row.length) k (fun m ρ w'=>∃(j:Nat) (rb:V) (qs:List (Chg×V)),j+m=(S.things t).row.length∧Fr no w w'∧ρ 0=ov∧ρ 1=mv∧ρ 2=ptr (L.loc t)∧ρ 8=ptr X∧ρ 9=i64 j∧
     w'.heap[X]? =some (.cells #[.slice A1 (S.things t).safe.length c1,.slice A2 (S.things t).shown.length c2,rb] 156 (0,0))∧V1 w w' (.slice A1 (S.things t).safe.length c1) (S.things t).safe∧V1 w w' (.slice A2 (S.things t).shown.length c2) (S.things t).shown∧
     w'.ownsRow w.heap.size 186 3 rb j (qs.flatMap ZK)∧qs.map (·.1)=(S.things t).row.take j∧∀p∈qs,Ur w w' p) ?_
   ⟨0,.slice none 0 0,[],by omega,f03,rfl,rfl,rfl,rfl,rfl,bX,N1,N2,⟨rfl,.inl ⟨rfl,rfl⟩⟩,rfl,by simp⟩
 rintro m ρ w' ⟨j,rb,qs,hjm,hf,e0,e1,e2,e8,e9,bx,m1,m2,m3,m4,m5⟩
 have h':=h.fr hf fun b hb=>hb.elim
 have hT':=h'.things t ht
 rw[Ny]
 unfold qz
 rw[e2,e8,e9]
 refine Au hT' fun q1 q2=> ?_
 by_cases hj:j<(S.things t).row.length
 · refine ZA     (by omega) (Zk      (As      hT' hj fun q1 q2 q3 p hp hpe => ?_))
   refine Am hp.cells fun w4 ha f4 z4=> ?_
   obtain⟨d,hd,hdu,hd2,hd3⟩:=gj hp
   refine UZ (Zj (v:=p.2) (isAgg36 _) ha (by simpa using hd2) ?_)
   have hdl:d.length≤1099511627776:=by
     have hu:=hT.ok.Ud p.1 (by rw[hpe];exact List.getElem_mem hj)
     omega
   refine YZ (hd.1.fr f4 fun _ _ h=>h) (by omega) fun v5 w5 n5 f5=> ?_
   obtain⟨A5,c5,ev5,_⟩:=n5.sb.form
   subst ev5
   refine UZ (YA (sizeOf36 _) rfl rfl (f5.get ha id) (by simp[YR]) ?_)
   have a6:=Z6 (f5.get ha id) 2 (.slice A5 d.length c5)
   rw[zf6] at a6
   have f6:Fr (fun b=>b=w'.heap.size) w5 (w5.setCell ⟨w'.heap.size,2,none⟩ (.slice A5 d.length c5)):=Fr.setCell w5 ⟨w'.heap.size,2,none⟩ _
   have z6:(w5.setCell ⟨w'.heap.size,2,none⟩ (.slice A5 d.length c5)).heap.size=w5.heap.size:=by simp[World.setCell]
   show∃S_:Y→Prop,S_ (w5.setCell ⟨w'.heap.size,2,none⟩ (.slice A5 d.length c5)).drew∧_
   generalize w5.setCell ⟨w'.heap.size,2,none⟩ (.slice A5 d.length c5)=w6 at *
   have f45:Fr no w' w5:=f4.trans f5 fun b=> .inl
   have hXw:X<w'.heap.size:=ZS bx
   have hrbw:∀b,Zv rb=some b→b<w'.heap.size:=fun b hb'=>(Zu m3 hb').2
   have z5:=f5.size
   have zw':=hf.size
   have bx6:=f6.get (f45.get bx id) (show¬(X=w'.heap.size) by omega)
   have row6:=Z4 (Z4 m3 f45 fun _ _ h=>h) f6 fun b hb' (e:b=w'.heap.size)=>by have:=hrbw b hb';omega
   have c5n:Ur w w5 (p.1,.slice A5 d.length c5):=(hd3 w4 w5 _ n5).less (by omega)
   refine gi (p:=(p.1,.slice A5 d.length c5)) bx6 a6 row6 (by omega) (by omega) c5n.cells (fun e=>by have:=hrbw _ e;omega) fun w7 rb7 bx7 row7 f7 hb7=> ?_
   intros
   refine Zp (by omega) ⟨m-1,by omega,j+1,rb7,qs++[(p.1,.slice A5 d.length c5)],by omega,?_,e0,e1,e2,e8,?_,bx7,?_,?_,by rw[List.flatMap_append];simpa using row7,?_,fun q hq=> ?_⟩
   · have f56 : Fr no w w6 := (hf.trans f45 fun b => .inl).trans f6 fun b hb' => .inr (by omega)
     refine f56.trans f7 fun b hb'=> .inr ?_
     rcases hb' with e|e
     · rw[e];exact hX
     · exact(Zu m3 e).1
   · show i64 _=i64 _;simp
   all_goals
     have g17:Fr (fun b=>b=X∨Zv rb=some b) w' w7:=((f45.mono fun b hb'=>hb'.elim).trans f6 (fun b (hb':b=w'.heap.size)=> .inr (by omega))).trans f7 fun b=> .inl
     have oB:Dj w' (fun b=>b=X∨Zv rb=some b):=by
       rintro b (rfl|e) c T hcT
       · have:=Zy hcT bx;rw[this];decide
       · obtain ⟨c2,h2⟩ := Z0      m3 e
         have:=Zy hcT h2;rw[this];decide
   · exact V1.fr m1 g17 (oB.byte m1)
   · exact V1.fr m2 g17 (oB.byte m2)
   · rw[List.map_append,m4,List.take_succ_eq_append_getElem hj,←hpe];rfl
   · rcases List.mem_append.1 hq with hq | hq
     · exact(m5 q hq).frB g17 oB
     · rw [List.mem_singleton] at hq; subst hq
       have g57:Fr (fun b=>b=w'.heap.size∨b=X∨Zv rb=some b) w5 w7:=(f6.mono fun b hb'=> .inl (.inl hb')).trans f7 fun b hb'=> .inl (.inr hb')
       refine c5n.frB g57 ?_
       rintro b (rfl|rfl|e) c T hcT
       · have:=Zy hcT (f5.get ha id);rw[this];decide
       · have:=Zy hcT (f45.get bx id);rw[this];decide
       · obtain ⟨c2,h2⟩ := Z0      m3 e
         have:=Zy hcT (f45.get h2 id);rw[this];decide
 · refine ZB     (by omega) (Zf       ?_)
   rw[Nz]
   suffices hs:∀ρ2:Env,ρ2 0=ov→ρ2 1=mv→ρ2 2=ptr (L.loc t)→ρ2 8=ptr X→WH k ρ2 w' from hs _ e0 e1 e2 e8
   intro ρ2 a0 a1 a2 a8
   unfold WH
   rw[a0,a1,a2,a8]
   rw[List.take_of_length_le (by omega)] at m4
   have hjl:j=(S.things t).row.length:=by omega
   subst hjl
   have ow:=Z4 ho hf fun _ _ h=>h
   have mw:=Z4 hm hf fun _ _ h=>h
   have zw':=hf.size
   refine gV ow rfl (by intro u hu;simp at hu;subst hu;rfl) (by omega) (by omega) fun u8 v8 w8 h8 f8 hb8=> ?_
   have mw8:=Z4 mw f8 fun b hb' e=>hne b e.symm hb'
   have z8:=f8.size
   refine gV mw8 rfl (by intro u hu;simp at hu;subst hu;rfl) (by omega) (by omega) fun u9 v9 w9 h9 f9 hb9=> ?_
   have hovw:∀b,Zv ov=some b→b<w.heap.size:=fun b hb'=>(Zu ho hb').2
   have hmvw:∀b,Zv mv=some b→b<w.heap.size:=fun b hb'=>(Zu hm hb').2
   have hne89:∀b,Zv v8=some b→¬(some b=Zv mv):=fun b hb' e=>by
     rcases hb8 b hb' with h|h
     · exact hne b h e.symm
     · have:=hmvw b e.symm;omega
   have g19:Fr (fun b=>Zv ov=some b∨Zv mv=some b) w' w9:=(f8.mono fun b hb'=> .inl (.inl hb'.symm)).trans f9 fun b hb'=> .inl (.inr hb'.symm)
   have oth:BE w' (fun b=>Zv ov=some b∨Zv mv=some b):=by
     rintro b (e|e) c T hcT
     · obtain ⟨c2,h2⟩ := Z0      ow e
       have:=Zy hcT h2;rw[this];decide
     · obtain ⟨c2,h2⟩ := Z0      mw e
       have:=Zy hcT h2;rw[this];decide
   have hn:QN w w' X rb (S.things t):=⟨⟨_,_,qs,bx,m1,m2,m3,m4,m5⟩,hX⟩
   refine hk w9 v8 v9 X rb ?_ ?_ (fun b hb' e=> ?_) (hn.fr g19 oth) ((hf.mono fun b hb'=>hb'.elim).trans g19 fun b=> .inl)
   · have := Z4     h8 f9 hne89
     simpa[XL] using this
   · simpa[X4] using h9
   · rcases hb9 b e with h | h
     · exact hne89 b hb' h.symm
     · rcases hb8 b hb' with h2 | h2
       · have:=hovw b h2;omega
       · omega
theorem HN {ov mv:V} {t:Nat} {tl:Y4} (h:YC w D S O I L) (ht:L.has t) (ho:Src w ov 1 tl.length (XL L tl)) (hm:Src w mv 1 tl.length (X4 tl)) (hl:tl.length≤4611686018427387904) (hhas:∀p∈tl,L.has p.1) (hin:t∈tl.map (·.1)) (hk:k (.tuple #[ov,mv]) w):pFn P 86 [ov,mv,ptr (L.loc t)] w k:=by
 have hblk:∀t,L.has t→Blk w (L.loc t):=fun t ht=>by obtain⟨c,h⟩:=(h.things t ht).obj;exact⟨c,_,h⟩
 refine F3 _ _ _ _ _ ?_
 unfold F2
 show px P (Zd BinOp.eql 142 _ _ (ptr (L.loc t)) (.pointer none)) w _
 refine YJ JK (Zl rfl (Zl rfl (Zl rfl (Zl rfl ?_))))
 refine QM ho hm (by omega) (hblk t ht) (fun p hp=>hblk _ (hhas p hp)) (fun p hp e=> ?_) fun hno=> ?_
 ·unfold ptr
  exact Zl rfl (GL JK (Zr (Zk hk)))
 ·obtain⟨p,hp,e⟩:=List.mem_map.1 hin
  exact absurd (by rw[e]) (hno p hp)
theorem BF {ov mv:V} (hk:k (.tuple #[ov,mv]) w):pFn P 86 [ov,mv,.pointer none] w k:=by
 refine F3 _ _ _ _ _ ?_
 unfold F2
 refine YJ JK ?_
 simp only[Option.isNone_none]
 repeat (first|refine Yh ?_|refine YF ?_)
 exact Zx (Zk hk)
end
section
variable {w w0:Y} {D:Nat} {S S':AD} {O I:Nat → Prop} {L L':Uy} {k:KV}
structure RTw (w0 w:Y) (S:AD) (L:Uy) (ov mv:V) (tl:Y4) (X:Nat) (cs:Array V) (dv:V):Prop where
 fr:Fr no w0 w
 xd:w.heap[X]? =some (.cells cs 62 (0,0))
 lx:w0.heap.size≤X
 told:w.ownsRow w0.heap.size 134 3 dv S.reads.length (S.reads.flatMap Z3)
 old:w.ownsRow w0.heap.size 142 1 ov tl.length (XL L tl)
 made:w.ownsRow w0.heap.size 142 1 mv tl.length (X4 tl)
 ne:∀b,Zv ov=some b→Zv mv≠some b
 has:∀p∈tl,L.has p.1
 things:∀p∈tl,QN w0 w p.2.1 p.2.2 (S.things p.1)
 apart:tl.Pairwise fun p q=>p.2.1≠q.2.1∧∀b,Zv p.2.2=some b→Zv q.2.2≠some b
 nd:(tl.map (·.1)).Nodup
theorem QN.less {wa wb:Y} {T:Nat} {rb:V} {x:Thg} (h:QN wb w T rb x) (hz:wa.heap.size≤wb.heap.size):QN wa w T rb x:=by
 obtain⟨⟨sv,hv,ps,h1,h2,h3,h4,h5,h6⟩,h7⟩:=h
 exact⟨⟨sv,hv,ps,h1,h2.less hz,h3.less hz,Xo h4 hz,h5,fun p hp=>(h6 p hp).less hz⟩,Nat.le_trans hz h7⟩
theorem QN.lt {wb:Y} {T:Nat} {rb:V} {x:Thg} (h:QN wb w T rb x):wb.heap.size≤T∧T<w.heap.size∧∀b,Zv rb=some b→wb.heap.size≤b∧b<w.heap.size:=by
 obtain⟨⟨sv,hv,ps,h1,h2,h3,h4,h5,h6⟩,h7⟩:=h
 exact⟨h7,ZS h1,fun b hb=>Zu h4 hb⟩
theorem RTw.step {ov mv dv:V} {tl:Y4} {X:Nat} {cs cs':Array V} {w':Y} {M:Nat→Prop} (m:RTw w0 w S L ov mv tl X cs dv) (hf:Fr M w w') (low:∀b,M b→w0.heap.size≤b) (hM:∀b,M b→b=X∨(∃c,w.heap[b]? =some (.cells c 144 (0,0)))∨∃c,w.heap[b]? =some (.cells c 146 (0,0)))
   (xd:w'.heap[X]? =some (.cells cs' 62 (0,0))):RTw w0 w' S L ov mv tl X cs' dv:=by
 have ty:∀b,M b→∀c T,w.heap[b]? =some (.cells c T (0,0))→T=62∨T=144∨T=146:=by
   intro b hb c T hc
   rcases hM b hb with rfl|⟨c2,h2⟩|⟨c2,h2⟩
   · exact .inl (Zy hc m.xd)
   · exact .inr (.inl (Zy hc h2))
   · exact .inr (.inr (Zy hc h2))
 have oth:BE w M:=fun b hb c T hc=>by
   rcases ty b hb c T hc with h|h|h<;>rw[h]<;>decide
 have row:∀ {e:TypeId} {size n:Nat} {v:V} {xs:List V},w.ownsRow w0.heap.size e size v n xs→(e≠62∧e≠144∧e≠146)→w'.ownsRow w0.heap.size e size v n xs:=by
   intro e size n v xs h he
   refine Z4 h hf fun b hb hm=> ?_
   obtain⟨c,hc⟩:=Z0 h hb
   rcases ty b hm c _ hc with h|h|h
   · exact he.1 h
   · exact he.2.1 h
   · exact he.2.2 h
 exact⟨m.fr.trans hf fun b hb=> .inr (low b hb),xd,m.lx,row m.told (by decide),row m.old (by decide),row m.made (by decide),m.ne,m.has,fun p hp=>(m.things p hp).fr hf oth,m.apart,m.nd⟩
theorem RTw.quiet {ov mv dv:V} {tl:Y4} {X:Nat} {cs:Array V} {w':Y} (m:RTw w0 w S L ov mv tl X cs dv) (hf:Fr no w w'):RTw w0 w' S L ov mv tl X cs dv:=
 m.step hf (fun b hb=>hb.elim) (fun b hb=>hb.elim) (hf.get m.xd id)
theorem zf7 {ov mv dv:V} {t c:Nat} {tl:Y4} {X:Nat} {cs:Array V} (h:YC w0 D S O I L) (m:RTw w0 w S L ov mv tl X cs dv) (ht:L.has t) (hT:(S.things t).Ok c) (hc:c≤1099511627776) (hl:tl.length≤1099511627776)
   (hk:∀w' ov' mv' ext,RTw w0 w' S L ov' mv' (tl++ext) X cs dv→t∈(tl++ext).map (·.1)→ext.length≤1→k (.tuple #[ov',mv']) w'):pFn P 86 [ov,mv,ptr (L.loc t)] w k:=by
 have h':=h.fr m.fr fun b hb=>hb.elim
 by_cases hin:t∈tl.map (·.1)
 · refine HN        h' ht (Src.Zt     m.old) (Src.Zt     m.made) (by omega) m.has hin ?_
   exact hk w ov mv [] (by rw[List.append_nil];exact m) (by rw[List.append_nil];exact hin) (Nat.zero_le _)
 · refine HM        (wb := w0) h' ht hT hc m.fr.size hl m.old m.made m.ne m.has (fun p hp e => hin (List.mem_map.2 ⟨p,hp,e⟩)) fun w' ov' mv' T rb h1 h2 h3 h4 h5 => ?_
   have hov:∀b,(Zv ov=some b∨Zv mv=some b)→w0.heap.size≤b∧∃c,w.heap[b]? =some (.cells c 142 (0,0)):=by
     rintro b (e|e)
     · obtain⟨c2,hc2⟩:=Z0 m.old e;exact⟨(Zu m.old e).1,c2,hc2⟩
     · obtain⟨c2,hc2⟩:=Z0 m.made e;exact⟨(Zu m.made e).1,c2,hc2⟩
   have oth:BE w (fun b=>Zv ov=some b∨Zv mv=some b):=fun b hb c T hcT=>by
     obtain⟨_,c2,hc2⟩:=hov b hb
     have:=Zy hcT hc2;rw[this];decide
   have zf:=m.fr.size
   refine hk w' ov' mv' [(t,T,rb)] ⟨m.fr.trans h5 fun b hb=> .inr (hov b hb).1,h5.get m.xd fun e=> ?_,m.lx,Z4 m.told h5 fun b hb e=> ?_,by rw[List.length_append];exact h1,by rw[List.length_append];exact h2,h3,?_,?_,?_,?_⟩ (by simp) (Nat.le_refl _)
   · obtain ⟨_,c2,hc2⟩ := hov X e
     exact absurd (Zy m.xd hc2) (by decide)
   · obtain ⟨_,c2,hc2⟩ := hov b e
     obtain⟨c3,hc3⟩:=Z0 m.told hb
     exact absurd (Zy hc3 hc2) (by decide)
   · intro p hp
     rcases List.mem_append.1 hp with hp|hp
     · exact m.has p hp
     · rw[List.mem_singleton] at hp;subst hp;exact ht
   · intro p hp
     rcases List.mem_append.1 hp with hp|hp
     · exact(m.things p hp).fr h5 oth
     · rw[List.mem_singleton] at hp;subst hp;exact h4.less zf
   · rw [List.pairwise_append]
     refine⟨m.apart,by simp,fun p hp q hq=> ?_⟩
     rw[List.mem_singleton] at hq;subst hq
     have l1:=(m.things p hp).lt
     have l2:=h4.lt
     exact⟨by show p.2.1≠T;omega,fun b hb e=>by have:=l1.2.2 b hb;have:=l2.2.2 b e;omega⟩
   · rw [List.map_append,List.nodup_append]
     refine⟨m.nd,by simp,fun a ha b hb=> ?_⟩
     simp at hb;subst hb
     rintro rfl;exact hin ha
set_option maxHeartbeats 1000000 in
theorem zf8 {ov mv dv nv bv tv:V} {tl:Y4} {X i:Nat} {kN:KE} (h:YC w0 D S O I L) (m:RTw w0 w S L ov mv tl X #[.bool (!S.off),i64 S.room,nv,bv,tv,i64 S.strokes,i64 S.since,i64 S.plan.off,i64 S.plan.from_,i64 S.plan.to_,dv] dv)
   (hin:∀p∈S.shown,p.2∈tl.map (·.1)) (hl:tl.length≤1099511627776) (hlen:S.shown.length≤256) (hn:w.ownsRow w0.heap.size 144 2 nv i (ZO (ZT tl) (S.shown.take i))) {ρ:Env} (e0:ρ 0=ptr D) (e3:ρ 3=ptr X) (e4:ρ 4=ov) (e5:ρ 5=mv) (eI:ρ 9=i64 i)
   (hout:¬i<S.shown.length→∀ρ',ρ' 0=ptr D→ρ' 3=ptr X→ρ' 4=ov→ρ' 5=mv→Ws k ρ' w)
   (hnext:i<S.shown.length→∀ρ' w' nv',RTw w0 w' S L ov mv tl X #[.bool (!S.off),i64 S.room,nv',bv,tv,i64 S.strokes,i64 S.since,i64 S.plan.off,i64 S.plan.from_,i64 S.plan.to_,dv] dv→w'.ownsRow w0.heap.size 144 2 nv' (i+1) (ZO (ZT tl) (S.shown.take (i+1)))→
     Fr (fun b=>b=X∨Zv nv=some b) w w'→(∀b,Zv nv'=some b→Zv nv=some b∨w.heap.size≤b)→ρ' 0=ptr D→ρ' 3=ptr X→ρ' 4=ov→ρ' 5=mv→ρ' 9=i64 (i+1)→kN ρ' w'):Wr k kN ρ w:=by
 unfold Wr
 rw[e0,eI,e3,e4,e5]
 have h':=h.fr m.fr fun b hb=>hb.elim
 have hDX:D≠X:=fun e=>by have:=h.lt D (.inl h.oD);have:=m.lx;omega
 refine Zn (Yx (Zj (v:=L.nowv) (isAgg59 _) h'.disk rfl (ZF X6 h'.now.1 ?_)))
 by_cases hi:i<S.shown.length
 · refine ZA     (by omega) (Zk      ?_)
   have hmem:=List.getElem_mem hi
   have hhas:L.has S.shown[i].2:=h.sub _ (.inl ⟨S.shown[i].1,hmem⟩)
   obtain⟨b,o,cc,ev,q0,q1⟩:=Jn h'.now.1 hi
   have hbI:I b:=h.now.2 b (by rw[ev];rfl)
   have hbw:b<w.heap.size:=World.block_lt_of_cell? _ ⟨b,o+i*2,none⟩ q0
   have hDw:=h'.lt D (.inl h'.oD)
   have zf:=m.fr.size
   have hbw0:=h.lt b (.inr hbI)
   have hDw0:=h.lt D (.inl h.oD)
   have Uk:∀w2:Y,w2.heap[D]? =w.heap[D]?→w2.heap[b]? =w.heap[b]?→∀cs2:Array V,w2.heap[X]? =some (.cells cs2 62 (0,0))→cs2= #[.bool (!S.off),i64 S.room,nv,bv,tv,i64 S.strokes,i64 S.since,i64 S.plan.off,i64 S.plan.from_,i64 S.plan.to_,dv]→
       w2.heap[X]? =some (.cells #[.bool (!S.off),i64 S.room,nv,bv,tv,i64 S.strokes,i64 S.since,i64 S.plan.off,i64 S.plan.from_,i64 S.plan.to_,dv] 62 (0,0))∧w2.heap[D]? =some (.cells (Y6 S L) 62 (0,0))∧w2.cell? ⟨b,o+i*2,none⟩=some (.string S.shown[i].1)∧w2.cell? ⟨b,o+i*2+1,none⟩=some (ptr (L.loc S.shown[i].2)):=
     fun w2 eD eb cs2 ex e=>⟨by rw[←e];exact ex,by rw[eD];exact h'.disk,by rw[World.cell?_of_block (w:=w) eb];exact q0,by rw[World.cell?_of_block (w:=w) eb];exact q1⟩
   have fd:Fr no w w.drew:=Fr.drew _ _
   refine⟨fun w2:Y=>w2.heap[X]? =some (.cells #[.bool (!S.off),i64 S.room,nv,bv,tv,i64 S.strokes,i64 S.since,i64 S.plan.off,i64 S.plan.from_,i64 S.plan.to_,dv] 62 (0,0))∧w2.heap[D]? =some (.cells (Y6 S L) 62 (0,0))∧w2.cell? ⟨b,o+i*2,none⟩=some (.string S.shown[i].1)∧w2.cell? ⟨b,o+i*2+1,none⟩=some (ptr (L.loc S.shown[i].2)),Uk _ rfl rfl _ m.xd rfl,?_⟩
   refine Zi _ (fun w_ hS=>Yx ⟨rfl,rfl⟩) (Zi nv (fun w_ hS=>Zj (isAgg59 _) hS.1 rfl ⟨rfl,rfl⟩) ?_)
   refine Zi _ (fun w_ hS=>Zn ⟨rfl,rfl⟩) (Zi _ (fun w_ hS=>Yx ⟨rfl,rfl⟩) (Zi L.nowv (fun w_ hS=>Zj (isAgg59 _) hS.2.1 rfl ⟨rfl,rfl⟩) ?_))
   refine Zi (.pointer (some ⟨b,o+i*2,none⟩)) (fun w_ hS=>by rw[ev];exact Vu (i:=(i:Int)) X6 (UH _) (by omega) (by omega) ⟨by simp,rfl⟩) ?_
   refine Zi _ (fun w_ hS=>Us ⟨rfl,rfl⟩) (Zi _ (fun w_ hS=>Xl (isAgg9 _) hS.2.2.1 ⟨rfl,rfl⟩) ?_)
   refine Zi _ (fun w_ hS=>Zn ⟨rfl,rfl⟩) (Zi _ (fun w_ hS=>Yx ⟨rfl,rfl⟩) (Zi L.nowv (fun w_ hS=>Zj (isAgg59 _) hS.2.1 rfl ⟨rfl,rfl⟩) ?_))
   refine Zi (.pointer (some ⟨b,o+i*2,none⟩)) (fun w_ hS=>by rw[ev];exact Vu (i:=(i:Int)) X6 (UH _) (by omega) (by omega) ⟨by simp,rfl⟩) ?_
   refine Zi _ (fun w_ hS=>UY ⟨rfl,rfl⟩) (Zi _ (fun w_ hS=>Xl (isAgg142 _) hS.2.2.2 ⟨rfl,rfl⟩) ?_)
   have md:=m.quiet fd
   have hd:=h'.fr fd fun b hb=>hb.elim
   have hblk:∀t,L.has t→Blk w.drew (L.loc t):=fun t ht=>by obtain⟨c,h⟩:=(hd.things t ht).obj;exact⟨c,_,h⟩
   refine QM (Src.Zt md.old) (Src.Zt md.made) (by omega) (hblk _ hhas) (fun p hp=>hblk _ (m.has p hp)) (fun p hp e=> ?_) fun hno=> ?_
   · have ep : p.1 = S.shown[i].2 := h.inj _ _ (m.has p hp) hhas e
     have hloc:ZT tl S.shown[i].2=p.2.1:=by rw[←ep];exact(XD m.nd hp).1
     rw[←hloc]
     refine⟨Uk w.drew rfl rfl _ m.xd rfl,Zi (.agg #[.string S.shown[i].1,ptr (ZT tl S.shown[i].2)]) (fun w_ hS=>Z9 (w':=w_) (by unfold ptr;kernel_rfl) ⟨rfl,rfl⟩) ?_⟩
     refine Z9 (w':=w.drew.alloc (.cells #[.string S.shown[i].1,ptr (ZT tl S.shown[i].2)] 144)) (v:= .slice (some ⟨w.drew.heap.size,0,none⟩) 1 1) (by unfold ptr;kernel_rfl) ?_
     have f3:=Fr.alloc no w.drew (.cells #[.string S.shown[i].1,ptr (ZT tl S.shown[i].2)] 144)
     have ho3:=ZQ w.drew 0 144 2 #[.string S.shown[i].1,ptr (ZT tl S.shown[i].2)] 1 (Nat.zero_le _) (by unfold maxLen;omega) rfl
     have z3:(w.drew.alloc (.cells #[.string S.shown[i].1,ptr (ZT tl S.shown[i].2)] 144)).heap.size=w.heap.size+1:=by simp
     generalize w.drew.alloc (.cells #[.string S.shown[i].1,ptr (ZT tl S.shown[i].2)] 144)=w3 at *
     have f03:Fr no w w3:=fd.trans f3 fun b=> .inl
     refine⟨Uk w3 (f03.block D hDw id) (f03.block b hbw id) _ (f03.get m.xd id) rfl,?_⟩
     refine zco (Z4 hn f03 fun _ _ h=>h) (Src.Zt ho3) (by intro u hu;simp at hu;rcases hu with rfl|rfl<;>rfl) (by omega) (by omega) fun v4 w4 h4 f4 hb4=> ?_
     have hnw:∀x,Zv nv=some x→w0.heap.size≤x∧x<w.heap.size∧x≠X:=fun x hx=>⟨(Zu hn hx).1,(Zu hn hx).2,by
       rintro rfl
       obtain⟨c2,hc2⟩:=Z0 hn hx
       exact absurd (Zy hc2 m.xd) (by decide)⟩
     have hXw:=ZS m.xd
     have f04:Fr (fun x=>Zv nv=some x) w w4:=(f03.mono fun b hb=>hb.elim).trans f4 fun x hx=> .inl hx.symm
     have x4:w4.heap[X]? =some (.cells #[.bool (!S.off),i64 S.room,nv,bv,tv,i64 S.strokes,i64 S.since,i64 S.plan.off,i64 S.plan.from_,i64 S.plan.to_,dv] 62 (0,0)):=f04.get m.xd fun hx=>(hnw X hx).2.2 rfl
     refine⟨Uk w4 (f04.block D hDw fun hx=>by have:=(hnw D hx).1;omega) (f04.block b hbw fun hx=>by have:=(hnw b hx).1;omega) _ x4 rfl,?_⟩
     refine Zi _ (fun w_ hS=>Yx ⟨rfl,rfl⟩) ?_
     have v4o:=ZW h4
     refine YA (sizeOf59 _) v4o.1 v4o.2 x4 (by show 2<11;decide) ?_
     have x5:=Z6 x4 2 v4
     have f5:Fr (fun x=>x=X) w4 (w4.setCell ⟨X,2,none⟩ v4):=Fr.setCell w4 ⟨X,2,none⟩ _
     have hb4':∀x,Zv v4=some x→Zv nv=some x∨w.heap.size≤x:=by
       intro x hx
       rcases hb4 with e|e
       · exact .inl (e▸hx)
       · rw[e] at hx;injection hx with hx;exact .inr (by omega)
     have hv4X:∀x,Zv v4=some x→x≠X:=by
       intro x hx
       rcases hb4' x hx with e|e
       · exact(hnw x e).2.2
       · omega
     have f05:Fr (fun x=>x=X∨Zv nv=some x) w (w4.setCell ⟨X,2,none⟩ v4):=(f04.mono fun x hx=> .inl (.inr hx)).trans f5 fun x hx=> .inl (.inl hx)
     refine Zp (by omega) (hnext hi _ _ v4 (m.step f05 (fun x hx=> ?_) (fun x hx=>hx.imp id fun e=> .inl (Z0 hn e)) (by rw[x5];rfl)) ?_ f05 hb4' e0 e3 e4 e5 rfl)
     · rcases hx with rfl | hx
       · exact m.lx
       · exact(hnw x hx).1
     · rw [List.take_succ_eq_append_getElem hi,Un         ]
       exact Z4 (by simpa[ZO] using h4) f5 hv4X
   · obtain ⟨p,hp,e⟩ := List.mem_map.1 (hin _ hmem)
     exact absurd (by rw[e]) (hno p hp)
 · refine ZB     (by omega) (Zf       ?_)
   rw[MT]
   exact hout hi _ e0 e3 e4 e5
set_option maxHeartbeats 1000000 in
theorem zf9 {ov mv dv nv bv tv:V} {tl:Y4} {X i:Nat} {kN:KE} (h:YC w0 D S O I L) (m:RTw w0 w S L ov mv tl X #[.bool (!S.off),i64 S.room,bv,nv,tv,i64 S.strokes,i64 S.since,i64 S.plan.off,i64 S.plan.from_,i64 S.plan.to_,dv] dv)
   (hin:∀p∈S.safe,p.2∈tl.map (·.1)) (hl:tl.length≤1099511627776) (hlen:S.safe.length≤256) (hn:w.ownsRow w0.heap.size 144 2 nv i (ZO (ZT tl) (S.safe.take i))) {ρ:Env} (e0:ρ 0=ptr D) (e3:ρ 3=ptr X) (e4:ρ 4=ov) (e5:ρ 5=mv) (eI:ρ 10=i64 i)
   (hout:¬i<S.safe.length→∀ρ',ρ' 0=ptr D→ρ' 3=ptr X→ρ' 4=ov→ρ' 5=mv→Fo k ρ' w)
   (hnext:i<S.safe.length→∀ρ' w' nv',RTw w0 w' S L ov mv tl X #[.bool (!S.off),i64 S.room,bv,nv',tv,i64 S.strokes,i64 S.since,i64 S.plan.off,i64 S.plan.from_,i64 S.plan.to_,dv] dv→w'.ownsRow w0.heap.size 144 2 nv' (i+1) (ZO (ZT tl) (S.safe.take (i+1)))→
     Fr (fun b=>b=X∨Zv nv=some b) w w'→(∀b,Zv nv'=some b→Zv nv=some b∨w.heap.size≤b)→ρ' 0=ptr D→ρ' 3=ptr X→ρ' 4=ov→ρ' 5=mv→ρ' 10=i64 (i+1)→kN ρ' w'):Wt k kN ρ w:=by
 unfold Wt
 rw[e0,eI,e3,e4,e5]
 have h':=h.fr m.fr fun b hb=>hb.elim
 have hDX:D≠X:=fun e=>by have:=h.lt D (.inl h.oD);have:=m.lx;omega
 refine Zn (Vg (Zj (v:=L.befv) (isAgg59 _) h'.disk rfl (ZF X6 h'.bef.1 ?_)))
 by_cases hi:i<S.safe.length
 · refine ZA     (by omega) (Zk      ?_)
   have hmem:=List.getElem_mem hi
   have hhas:L.has S.safe[i].2:=h.sub _ (.inr <| .inl ⟨S.safe[i].1,hmem⟩)
   obtain⟨b,o,cc,ev,q0,q1⟩:=Jn h'.bef.1 hi
   have hbI:I b:=h.bef.2 b (by rw[ev];rfl)
   have hbw:b<w.heap.size:=World.block_lt_of_cell? _ ⟨b,o+i*2,none⟩ q0
   have hDw:=h'.lt D (.inl h'.oD)
   have zf:=m.fr.size
   have hbw0:=h.lt b (.inr hbI)
   have hDw0:=h.lt D (.inl h.oD)
   have Uk:∀w2:Y,w2.heap[D]? =w.heap[D]?→w2.heap[b]? =w.heap[b]?→∀cs2:Array V,w2.heap[X]? =some (.cells cs2 62 (0,0))→cs2= #[.bool (!S.off),i64 S.room,bv,nv,tv,i64 S.strokes,i64 S.since,i64 S.plan.off,i64 S.plan.from_,i64 S.plan.to_,dv]→
       w2.heap[X]? =some (.cells #[.bool (!S.off),i64 S.room,bv,nv,tv,i64 S.strokes,i64 S.since,i64 S.plan.off,i64 S.plan.from_,i64 S.plan.to_,dv] 62 (0,0))∧w2.heap[D]? =some (.cells (Y6 S L) 62 (0,0))∧w2.cell? ⟨b,o+i*2,none⟩=some (.string S.safe[i].1)∧w2.cell? ⟨b,o+i*2+1,none⟩=some (ptr (L.loc S.safe[i].2)):=
     fun w2 eD eb cs2 ex e=>⟨by rw[←e];exact ex,by rw[eD];exact h'.disk,by rw[World.cell?_of_block (w:=w) eb];exact q0,by rw[World.cell?_of_block (w:=w) eb];exact q1⟩
   have fd:Fr no w w.drew:=Fr.drew _ _
   refine⟨fun w2:Y=>w2.heap[X]? =some (.cells #[.bool (!S.off),i64 S.room,bv,nv,tv,i64 S.strokes,i64 S.since,i64 S.plan.off,i64 S.plan.from_,i64 S.plan.to_,dv] 62 (0,0))∧w2.heap[D]? =some (.cells (Y6 S L) 62 (0,0))∧w2.cell? ⟨b,o+i*2,none⟩=some (.string S.safe[i].1)∧w2.cell? ⟨b,o+i*2+1,none⟩=some (ptr (L.loc S.safe[i].2)),Uk _ rfl rfl _ m.xd rfl,?_⟩
   refine Zi _ (fun w_ hS=>Vg ⟨rfl,rfl⟩) (Zi nv (fun w_ hS=>Zj (isAgg59 _) hS.1 rfl ⟨rfl,rfl⟩) ?_)
   refine Zi _ (fun w_ hS=>Zn ⟨rfl,rfl⟩) (Zi _ (fun w_ hS=>Vg ⟨rfl,rfl⟩) (Zi L.befv (fun w_ hS=>Zj (isAgg59 _) hS.2.1 rfl ⟨rfl,rfl⟩) ?_))
   refine Zi (.pointer (some ⟨b,o+i*2,none⟩)) (fun w_ hS=>by rw[ev];exact Vu (i:=(i:Int)) X6 (UH _) (by omega) (by omega) ⟨by simp,rfl⟩) ?_
   refine Zi _ (fun w_ hS=>Us ⟨rfl,rfl⟩) (Zi _ (fun w_ hS=>Xl (isAgg9 _) hS.2.2.1 ⟨rfl,rfl⟩) ?_)
   refine Zi _ (fun w_ hS=>Zn ⟨rfl,rfl⟩) (Zi _ (fun w_ hS=>Vg ⟨rfl,rfl⟩) (Zi L.befv (fun w_ hS=>Zj (isAgg59 _) hS.2.1 rfl ⟨rfl,rfl⟩) ?_))
   refine Zi (.pointer (some ⟨b,o+i*2,none⟩)) (fun w_ hS=>by rw[ev];exact Vu (i:=(i:Int)) X6 (UH _) (by omega) (by omega) ⟨by simp,rfl⟩) ?_
   refine Zi _ (fun w_ hS=>UY ⟨rfl,rfl⟩) (Zi _ (fun w_ hS=>Xl (isAgg142 _) hS.2.2.2 ⟨rfl,rfl⟩) ?_)
   have md:=m.quiet fd
   have hd:=h'.fr fd fun b hb=>hb.elim
   have hblk:∀t,L.has t→Blk w.drew (L.loc t):=fun t ht=>by obtain⟨c,h⟩:=(hd.things t ht).obj;exact⟨c,_,h⟩
   refine QM (Src.Zt md.old) (Src.Zt md.made) (by omega) (hblk _ hhas) (fun p hp=>hblk _ (m.has p hp)) (fun p hp e=> ?_) fun hno=> ?_
   · have ep : p.1 = S.safe[i].2 := h.inj _ _ (m.has p hp) hhas e
     have hloc:ZT tl S.safe[i].2=p.2.1:=by rw[←ep];exact(XD m.nd hp).1
     rw[←hloc]
     refine⟨Uk w.drew rfl rfl _ m.xd rfl,Zi (.agg #[.string S.safe[i].1,ptr (ZT tl S.safe[i].2)]) (fun w_ hS=>Z9 (w':=w_) (by unfold ptr;kernel_rfl) ⟨rfl,rfl⟩) ?_⟩
     refine Z9 (w':=w.drew.alloc (.cells #[.string S.safe[i].1,ptr (ZT tl S.safe[i].2)] 144)) (v:= .slice (some ⟨w.drew.heap.size,0,none⟩) 1 1) (by unfold ptr;kernel_rfl) ?_
     have f3:=Fr.alloc no w.drew (.cells #[.string S.safe[i].1,ptr (ZT tl S.safe[i].2)] 144)
     have ho3:=ZQ w.drew 0 144 2 #[.string S.safe[i].1,ptr (ZT tl S.safe[i].2)] 1 (Nat.zero_le _) (by unfold maxLen;omega) rfl
     have z3:(w.drew.alloc (.cells #[.string S.safe[i].1,ptr (ZT tl S.safe[i].2)] 144)).heap.size=w.heap.size+1:=by simp
     generalize w.drew.alloc (.cells #[.string S.safe[i].1,ptr (ZT tl S.safe[i].2)] 144)=w3 at *
     have f03:Fr no w w3:=fd.trans f3 fun b=> .inl
     refine⟨Uk w3 (f03.block D hDw id) (f03.block b hbw id) _ (f03.get m.xd id) rfl,?_⟩
     refine zco (Z4 hn f03 fun _ _ h=>h) (Src.Zt ho3) (by intro u hu;simp at hu;rcases hu with rfl|rfl<;>rfl) (by omega) (by omega) fun v4 w4 h4 f4 hb4=> ?_
     have hnw:∀x,Zv nv=some x→w0.heap.size≤x∧x<w.heap.size∧x≠X:=fun x hx=>⟨(Zu hn hx).1,(Zu hn hx).2,by
       rintro rfl
       obtain⟨c2,hc2⟩:=Z0 hn hx
       exact absurd (Zy hc2 m.xd) (by decide)⟩
     have hXw:=ZS m.xd
     have f04:Fr (fun x=>Zv nv=some x) w w4:=(f03.mono fun b hb=>hb.elim).trans f4 fun x hx=> .inl hx.symm
     have x4:w4.heap[X]? =some (.cells #[.bool (!S.off),i64 S.room,bv,nv,tv,i64 S.strokes,i64 S.since,i64 S.plan.off,i64 S.plan.from_,i64 S.plan.to_,dv] 62 (0,0)):=f04.get m.xd fun hx=>(hnw X hx).2.2 rfl
     refine⟨Uk w4 (f04.block D hDw fun hx=>by have:=(hnw D hx).1;omega) (f04.block b hbw fun hx=>by have:=(hnw b hx).1;omega) _ x4 rfl,?_⟩
     refine Zi _ (fun w_ hS=>Vg ⟨rfl,rfl⟩) ?_
     have v4o:=ZW h4
     refine YA (sizeOf59 _) v4o.1 v4o.2 x4 (by show 3<11;decide) ?_
     have x5:=Z6 x4 3 v4
     have f5:Fr (fun x=>x=X) w4 (w4.setCell ⟨X,3,none⟩ v4):=Fr.setCell w4 ⟨X,3,none⟩ _
     have hb4':∀x,Zv v4=some x→Zv nv=some x∨w.heap.size≤x:=by
       intro x hx
       rcases hb4 with e|e
       · exact .inl (e▸hx)
       · rw[e] at hx;injection hx with hx;exact .inr (by omega)
     have hv4X:∀x,Zv v4=some x→x≠X:=by
       intro x hx
       rcases hb4' x hx with e|e
       · exact(hnw x e).2.2
       · omega
     have f05:Fr (fun x=>x=X∨Zv nv=some x) w (w4.setCell ⟨X,3,none⟩ v4):=(f04.mono fun x hx=> .inl (.inr hx)).trans f5 fun x hx=> .inl (.inl hx)
     refine Zp (by omega) (hnext hi _ _ v4 (m.step f05 (fun x hx=> ?_) (fun x hx=>hx.imp id fun e=> .inl (Z0 hn e)) (by rw[x5];rfl)) ?_ f05 hb4' e0 e3 e4 e5 rfl)
     · rcases hx with rfl | hx
       · exact m.lx
       · exact(hnw x hx).1
     · rw [List.take_succ_eq_append_getElem hi,Un         ]
       exact Z4 (by simpa[ZO] using h4) f5 hv4X
   · obtain ⟨p,hp,e⟩ := List.mem_map.1 (hin _ hmem)
     exact absurd (by rw[e]) (hno p hp)
 · refine ZB     (by omega) (Zf       ?_)
   rw[Fp]
   exact hout hi _ e0 e3 e4 e5
end
end Go.Proofs.YtcdcojpfealppaaGreat
