/- Put together by a program (wip/tools/shake.py): Files,Crash,Crash2,Crash3. -/
import Derived.Test.YtcdcojpfealppaaGreatY9
set_option linter.unusedVariables false
set_option linter.unusedSimpArgs false
set_option maxRecDepth 100000
open Go renaming World → Y, Value → V
namespace Go.Proofs.YtcdcojpfealppaaGreat
open Go Go.Proofs Go.RowKit Go.Proofs.XRed Go.Proofs.XHeap Go.Proofs.XMaps Go.Proofs.XSlices Go.Proofs.XDisk Go.Proofs.XCalls Go.Proofs.XRange Go.Proofs.XKeys Tryz
def Yu (w:Y) (B:Nat) (v:V) (fs:List (ByteArray×Bytes)):Prop:=
 ∃ps:List (ByteArray×V),All2 (fun f p=>f.1=p.1∧Z5 w p.2 f.2∧∀b,Zv p.2=some b→B≤b∧b<w.heap.size∧Zv v≠some b) fs ps∧w.ownsRow 0 83 2 v fs.length (ps.flatMap fun p=>[.string p.1,p.2])∧∀b,Zv v=some b→B≤b
theorem Yu.mono {w:Y} {B B':Nat} {v:V} {fs:List (ByteArray×Bytes)} (h:Yu w B v fs) (hb:B'≤B):Yu w B' v fs:=by
 obtain⟨ps,h1,h2,h3⟩:=h
 exact⟨ps,Xq h1 fun f p ⟨a,b,c⟩=>⟨a,b,fun i hi=>⟨Nat.le_trans hb (c i hi).1,(c i hi).2⟩⟩,h2,fun b hb'=>Nat.le_trans hb (h3 b hb')⟩
section
variable {w:Y} {D:Nat} {S S':AD} {O I:Nat → Prop} {L:Lay} {k:KV}
theorem EB (sk:Xr) {c:Nat} (h:Yi w D S O I L) (ok:S.Ok c) (hs:∀p∈S.shown,p.1.size≤maxLen)
   (hk:∀w' v,Yu w' w.heap.size v (S.files)→Fr no w w'→k v w'):pFn P 28 [ptr D] w k:=by
 refine Tf _ _ _ ?_
 unfold PR
 refine Vz h.disk ok.room.1 (Zf ?_)
 refine Zn (XF (Zj (v:= .map (some L.sh)) (isAgg54 _) h.disk rfl ?_))
 have hlen:S.shown.length≤256:=ok.turns.len.1
 refine VH sk h.sh h.shp ok.shown hs (by omega) fun w1 nv hnv hnb f1=> ?_
 obtain⟨A,cap,hne,hcap⟩:∃A cap,nv= .slice A S.shown.length cap∧S.shown.length≤cap:=by
   obtain⟨A,cap,e,hc,_⟩:=Src.Zt hnv;exact⟨A,cap,e,hc⟩
 subst hne
 have hsrc:=Src.Zt hnv
 refine Yn Xf ?_
 refine BT (m:=S.shown.length) k (fun m ρ w'=>∃(i:Nat),i+m=S.shown.length∧Fr no w1 w'∧ρ 0=ptr D∧ρ 12= .slice A S.shown.length cap∧ρ 13=i64 S.shown.length∧ρ 14=i64 i∧Yu w' w1.heap.size (ρ 3) ((S.files).take i)) ?_
   ⟨0,by omega,Fr.refl _ _,rfl,rfl,rfl,rfl,⟨[],.nil,⟨rfl,.inl ⟨rfl,rfl⟩⟩,by rintro b hb;cases hb⟩⟩
 rintro m ρ w' ⟨i,him,hf,h0,h12,h13,h14,hfv⟩
 rw[D2]
 unfold yP
 rw[h0,h12,h13,h14]
 have f0':Fr no w w':=(f1.or hf).mono fun b hb=>hb.elim (fun h=>h.elim) fun h=>h.elim
 have hR:Yi w' D S O I L:=h.fr f0' fun b hb=>hb.elim
 have hspl:(S.files).length=S.shown.length:=by simp[AD.files,AD.Yq]
 by_cases hi:i<S.shown.length
 · refine ZA     (by omega) (Zk      ?_)
   refine Xn Xf (Ue _) (hsrc.fr (by omega) hf fun _ _ h=>h) (by omega) (by omega) fun bb o hcell=> ?_
   generalize hp:S.shown[i]=p
   have hpm:p∈S.shown:=hp▸List.getElem_mem hi
   refine Xl (v:= .string p.1) (isAgg9 _) (by have:=hcell 0 (.string p.1) (by omega) (by simp[Xe,hi,hp]);simpa using this) ?_
   refine Zn (XF (Zj (v:= .map (some L.sh)) (isAgg54 _) hR.disk rfl ?_))
   refine Mi hR.sh p.1 (zeroValue117 _) ?_
   have hg:ZV (ZD L L.lsh) p.1=some (ptr (L.loc p.2)):=by
     rw[Xg,YU h.shp h.vq,Vq ok.shown.nodup hpm];rfl
   rw[hg]
   have hr:reach S p.2:= .inl ⟨p.1,hpm⟩
   obtain⟨sv,hv,cs,hbT,h1,h2,_⟩:=(hR.things _ hr).ex
   refine Zn (YG (Zj (v:=hv) (isAgg36 _) hbT rfl ?_))
   have hTok:=(ok.Yk _ hr).ok.len
   refine Q1 (h2).1 (by omega) fun w2 v2 hv2 hb2 f2=> ?_
   obtain⟨A2,c2,e2,hc2⟩:=hv2.form
   refine Z9 (w':=w2) (v:= .agg #[.string p.1,v2]) (by subst e2;kernel_rfl) ?_
   refine Z9 (w':=w2.alloc (.cells #[.string p.1,v2] 83)) (v:= .slice (some ⟨w2.heap.size,0,none⟩) 1 1) (by subst e2;kernel_rfl) ?_
   have f3:=Fr.alloc no w2 (.cells #[.string p.1,v2] 83)
   have hl:=ZQ w2 0 83 2 #[.string p.1,v2] 1 (Nat.zero_le _) (by unfold maxLen;omega) rfl
   have z3:(w2.alloc (.cells #[.string p.1,v2] 83)).heap.size=w2.heap.size+1:=by simp
   show px P _ (w2.alloc (.cells #[.string p.1,v2] 83)) _
   generalize w2.alloc (.cells #[.string p.1,v2] 83)=w3 at *
   obtain⟨ps,hps,hrow,hvb⟩:=hfv
   have f23:Fr no w' w3:=(f2.or f3).mono fun b hb=>hb.elim (fun h=>h.elim) fun h=>h.elim
   have hfl:((S.files).take i).length=i:=by rw[List.length_take];omega
   refine yB (Z4 hrow f23 fun _ _ h=>h) (Src.Zt hl) (by intro u hu;simp at hu;rcases hu with rfl|rfl;rfl;rw[e2];rfl) (by rw[hfl];omega) (Nat.zero_le _) fun v4 w4 h4 f4 hb4=> ?_
   refine Zp (by omega) ?_
   have hz2:=f2.size
   have hz3:=f0'.size
   have hz4:=f4.size
   have hzf:=hf.size
   have hvb':∀b,Zv (ρ 3)=some b→w1.heap.size≤b:=hvb
   have f04:Fr no w1 w4:=((hf.or f23).or f4).mono (by
     rintro b ((hb|hb)|hb)
     · exact hb.elim
     · exact hb.elim
     · exact .inr (hvb' b hb.symm))
   have hvlt:∀b,Zv (ρ 3)=some b→b<w'.heap.size:=fun b hb=>(Zu hrow hb).2
   have hv4:∀b,Zv v4=some b→Zv (ρ 3)=some b∨b=w3.heap.size:=by
     intro b hb
     rcases hb4 with e|e
     · left;rw[←e];exact hb
     · right;rw[e] at hb;injection hb with hb;exact hb.symm
   have espec:(S.files).take (i+1)=(S.files).take i++[(p.1,(S.things p.2).shown)]:=by
     rw[List.take_succ_eq_append_getElem (by omega)]
     congr 2
     subst hp
     simp[AD.files,AD.Yq]
   refine⟨m-1,by omega,i+1,by omega,f04,h0,h12,h13,?_,?_⟩
   · show i64 _=i64 _;simp
   show Yu w4 w1.heap.size v4 _
   rw[espec]
   refine⟨ps++[(p.1,v2)],?_,?_,?_⟩
   · refine All2.snoc (Xq       hps fun f q hfq => ?_) ?_
     · obtain ⟨e,hS,hq⟩ := hfq
       refine⟨e,(hS.fr f23 fun _ _ h=>h).fr f4 fun b hb e'=>(hq b hb).2.2 e'.symm,fun b hb=> ?_⟩
       obtain⟨q1,q2,q3⟩:=hq b hb
       refine⟨q1,by omega,fun e'=> ?_⟩
       rcases hv4 b e' with h'|h'
       · exact q3 h'
       · omega
     · refine ⟨rfl,(hv2.fr f3 fun _ _ h => h).fr f4 fun b hb e' => ?_,fun b hb => ?_⟩
       · have:=hb2 b hb;have:=hvlt b e'.symm;omega
       · have h5 := hb2 b hb
         refine⟨by omega,by omega,fun e'=> ?_⟩
         rcases hv4 b e' with h'|h'
         · have:=hvlt b h';omega
         · omega
   · have e1 : ((S.files).take i ++ [(p.1,(S.things p.2).shown)]).length = ((S.files).take i).length + 1 := by simp
     have e2:(ps++[(p.1,v2)]).flatMap (fun p=>[Value.string p.1,p.2])=(ps.flatMap fun p=>[Value.string p.1,p.2])++ #[Value.string p.1,v2].toList:=by simp
     rw[e1,e2];exact h4
   · intro b hb
     rcases hv4 b hb with h'|h'
     · exact hvb' b h'
     · omega
 · refine ZB     (by omega) (Zf       ?_)
   rw[D3]
   unfold yQ
   have e:(S.files).take i=S.files:=List.take_of_length_le (by omega)
   rw[e] at hfv
   exact hk w' (ρ 3) (hfv.mono f1.size) f0'
theorem vu (sk:Xr) {c:Nat} (h:Yi w D S O I L) (ok:S.Ok c) (hs:∀p∈S.safe,p.1.size≤maxLen)
   (hk:∀w' v,Yu w' w.heap.size v (S.Yq)→Fr no w w'→k v w'):pFn P 29 [ptr D] w k:=by
 refine Tg _ _ _ ?_
 unfold PT
 refine Vz h.disk ok.room.1 (Zf ?_)
 refine Zn (Ui (Zj (v:= .map (some L.sf)) (isAgg54 _) h.disk rfl ?_))
 have hlen:S.safe.length≤256:=ok.turns.len.2
 refine VH sk h.sf h.sfp ok.safe hs (by omega) fun w1 nv hnv hnb f1=> ?_
 obtain⟨A,cap,hne,hcap⟩:∃A cap,nv= .slice A S.safe.length cap∧S.safe.length≤cap:=by
   obtain⟨A,cap,e,hc,_⟩:=Src.Zt hnv;exact⟨A,cap,e,hc⟩
 subst hne
 have hsrc:=Src.Zt hnv
 refine Yn Xf ?_
 refine BU (m:=S.safe.length) k (fun m ρ w'=>∃(i:Nat),i+m=S.safe.length∧Fr no w1 w'∧ρ 0=ptr D∧ρ 12= .slice A S.safe.length cap∧ρ 13=i64 S.safe.length∧ρ 14=i64 i∧Yu w' w1.heap.size (ρ 3) ((S.Yq).take i)) ?_
   ⟨0,by omega,Fr.refl _ _,rfl,rfl,rfl,rfl,⟨[],.nil,⟨rfl,.inl ⟨rfl,rfl⟩⟩,by rintro b hb;cases hb⟩⟩
 rintro m ρ w' ⟨i,him,hf,h0,h12,h13,h14,hfv⟩
 rw[D4]
 unfold yR
 rw[h0,h12,h13,h14]
 have f0':Fr no w w':=(f1.or hf).mono fun b hb=>hb.elim (fun h=>h.elim) fun h=>h.elim
 have hR:Yi w' D S O I L:=h.fr f0' fun b hb=>hb.elim
 have hspl:(S.Yq).length=S.safe.length:=by simp[AD.files,AD.Yq]
 by_cases hi:i<S.safe.length
 · refine ZA     (by omega) (Zk      ?_)
   refine Xn Xf (Ue _) (hsrc.fr (by omega) hf fun _ _ h=>h) (by omega) (by omega) fun bb o hcell=> ?_
   generalize hp:S.safe[i]=p
   have hpm:p∈S.safe:=hp▸List.getElem_mem hi
   refine Xl (v:= .string p.1) (isAgg9 _) (by have:=hcell 0 (.string p.1) (by omega) (by simp[Xe,hi,hp]);simpa using this) ?_
   refine Zn (Ui (Zj (v:= .map (some L.sf)) (isAgg54 _) hR.disk rfl ?_))
   refine Mi hR.sf p.1 (zeroValue117 _) ?_
   have hg:ZV (ZD L L.lsf) p.1=some (ptr (L.loc p.2)):=by
     rw[Xg,YU h.sfp h.zcr,Vq ok.safe.nodup hpm];rfl
   rw[hg]
   have hr:reach S p.2:= .inr (.inl ⟨p.1,hpm⟩)
   obtain⟨sv,hv,cs,hbT,h1,h2,_⟩:=(hR.things _ hr).ex
   refine Zn (QY (Zj (v:=sv) (isAgg36 _) hbT rfl ?_))
   have hTok:=(ok.Yk _ hr).ok.len
   refine Q1 (h1).1 (by omega) fun w2 v2 hv2 hb2 f2=> ?_
   obtain⟨A2,c2,e2,hc2⟩:=hv2.form
   refine Z9 (w':=w2) (v:= .agg #[.string p.1,v2]) (by subst e2;kernel_rfl) ?_
   refine Z9 (w':=w2.alloc (.cells #[.string p.1,v2] 83)) (v:= .slice (some ⟨w2.heap.size,0,none⟩) 1 1) (by subst e2;kernel_rfl) ?_
   have f3:=Fr.alloc no w2 (.cells #[.string p.1,v2] 83)
   have hl:=ZQ w2 0 83 2 #[.string p.1,v2] 1 (Nat.zero_le _) (by unfold maxLen;omega) rfl
   have z3:(w2.alloc (.cells #[.string p.1,v2] 83)).heap.size=w2.heap.size+1:=by simp
   show px P _ (w2.alloc (.cells #[.string p.1,v2] 83)) _
   generalize w2.alloc (.cells #[.string p.1,v2] 83)=w3 at *
   obtain⟨ps,hps,hrow,hvb⟩:=hfv
   have f23:Fr no w' w3:=(f2.or f3).mono fun b hb=>hb.elim (fun h=>h.elim) fun h=>h.elim
   have hfl:((S.Yq).take i).length=i:=by rw[List.length_take];omega
   refine yB (Z4 hrow f23 fun _ _ h=>h) (Src.Zt hl) (by intro u hu;simp at hu;rcases hu with rfl|rfl;rfl;rw[e2];rfl) (by rw[hfl];omega) (Nat.zero_le _) fun v4 w4 h4 f4 hb4=> ?_
   refine Zp (by omega) ?_
   have hz2:=f2.size
   have hz3:=f0'.size
   have hz4:=f4.size
   have hzf:=hf.size
   have hvb':∀b,Zv (ρ 3)=some b→w1.heap.size≤b:=hvb
   have f04:Fr no w1 w4:=((hf.or f23).or f4).mono (by
     rintro b ((hb|hb)|hb)
     · exact hb.elim
     · exact hb.elim
     · exact .inr (hvb' b hb.symm))
   have hvlt:∀b,Zv (ρ 3)=some b→b<w'.heap.size:=fun b hb=>(Zu hrow hb).2
   have hv4:∀b,Zv v4=some b→Zv (ρ 3)=some b∨b=w3.heap.size:=by
     intro b hb
     rcases hb4 with e|e
     · left;rw[←e];exact hb
     · right;rw[e] at hb;injection hb with hb;exact hb.symm
   have espec:(S.Yq).take (i+1)=(S.Yq).take i++[(p.1,(S.things p.2).safe)]:=by
     rw[List.take_succ_eq_append_getElem (by omega)]
     congr 2
     subst hp
     simp[AD.files,AD.Yq]
   refine⟨m-1,by omega,i+1,by omega,f04,h0,h12,h13,?_,?_⟩
   · show i64 _=i64 _;simp
   show Yu w4 w1.heap.size v4 _
   rw[espec]
   refine⟨ps++[(p.1,v2)],?_,?_,?_⟩
   · refine All2.snoc (Xq       hps fun f q hfq => ?_) ?_
     · obtain ⟨e,hS,hq⟩ := hfq
       refine⟨e,(hS.fr f23 fun _ _ h=>h).fr f4 fun b hb e'=>(hq b hb).2.2 e'.symm,fun b hb=> ?_⟩
       obtain⟨q1,q2,q3⟩:=hq b hb
       refine⟨q1,by omega,fun e'=> ?_⟩
       rcases hv4 b e' with h'|h'
       · exact q3 h'
       · omega
     · refine ⟨rfl,(hv2.fr f3 fun _ _ h => h).fr f4 fun b hb e' => ?_,fun b hb => ?_⟩
       · have:=hb2 b hb;have:=hvlt b e'.symm;omega
       · have h5 := hb2 b hb
         refine⟨by omega,by omega,fun e'=> ?_⟩
         rcases hv4 b e' with h'|h'
         · have:=hvlt b h';omega
         · omega
   · have e1 : ((S.Yq   ).take i ++ [(p.1,(S.things p.2).safe)]).length = ((S.Yq   ).take i).length + 1 := by simp
     have e2:(ps++[(p.1,v2)]).flatMap (fun p=>[Value.string p.1,p.2])=(ps.flatMap fun p=>[Value.string p.1,p.2])++ #[Value.string p.1,v2].toList:=by simp
     rw[e1,e2];exact h4
   · intro b hb
     rcases hv4 b hb with h'|h'
     · exact hvb' b h'
     · omega
 · refine ZB     (by omega) (Zf       ?_)
   rw[D5]
   unfold yS
   have e:(S.Yq).take i=S.Yq:=List.take_of_length_le (by omega)
   rw[e] at hfv
   exact hk w' (ρ 3) (hfv.mono f1.size) f0'
end
theorem Yo.at_ {s:Names}:∀ {r:List Turn} {l:Names},Yo l r s→∀ {i:Nat} {a b:ByteArray},r[i]? =some (.give a b)→ZV ((r.take i).foldl (fun l c=>c.on l) l) a≠none
 | [],l,_,i,a,b,h=>by simp at h
 |c::r,l,ho,i,a,b,h=>by
  cases i with
  |zero=>simp only[List.getElem?_cons_zero,Option.some.injEq] at h;exact ho.2.1 a b h
  |succ i=>exact Yo.at_ (r:=r) (l:=c.on l) ho.2.2 (by simpa using h)
theorem JO {r:List Turn}:∀ {l l':Names},l.Perm l'→(ZH l).Nodup→(r.foldl (fun l c=>c.onL l) l).Perm (r.foldl (fun l c=>c.on l) l')∧(ZH (r.foldl (fun l c=>c.onL l) l)).Nodup:=by
 induction r with
 |nil=>intro l l' h hn;exact⟨h,hn⟩
 |cons c r ih=>
  intro l l' h hn
  have h1:=c.D9 h hn
  have h2:(ZH (c.on l')).Nodup:=c.RN ((X2 h).nodup_iff.1 hn)
  exact ih h1 ((X2 h1).nodup_iff.2 h2)
def Bc (w:Y) (n0 b:Nat) (ps:List Int):Prop:=n0≤b∧∃v,w.heap[b]? =some (.cells #[v] 39 (0,0))∧Src w v 1 ps.length (ps.map i64)∧(0<ps.length→∀c,Zv v=some c→c<n0)
theorem TA {O:Nat→Prop} {w w':Y} {x:V} {size m:Nat} {cs:List V} (h:Src w x size m cs) (hs:0<size) (hf:Fr O w w') (hn:0<m→∀b,Zv x=some b→¬O b):Src w' x size m cs:=by
 rcases Nat.eq_zero_or_pos m with h0|h0
 ·obtain⟨A,c,e,hc,hl,_⟩:=h
  exact⟨A,c,e,hc,hl,fun h=>absurd h (by omega)⟩
 ·exact h.fr hs hf (hn h0)
theorem Bc.fr {O:Nat→Prop} {w w':Y} {n0 b:Nat} {ps:List Int} (h:Bc w n0 b ps) (hf:Fr O w w') (hb:¬O b) (hv:∀c,c<n0→¬O c):Bc w' n0 b ps:=by
 obtain⟨h0,v,h1,h2,h3⟩:=h
 exact⟨h0,v,hf.get h1 hb,TA h2 (by omega) hf fun hp c hc=>hv c (h3 hp c hc),h3⟩
def Jx (ps:List Int) (most:Nat):Nat:=match ps with
 | []=>0
 |p::_=>Qe p most
theorem Q5 (p:Int) (most:Nat):((Qe p most:Nat):Int)=p.emod (most+1):=by
 unfold Qe
 exact Int.toNat_of_nonneg (Int.emod_nonneg p (by omega))
theorem EC (p:Int) (most:Nat):Qe p most≤most:=by
 have h1:=Q5 p most
 have h2:p.emod (most+1)<most+1:=Int.emod_lt_of_pos p (by omega)
 omega
theorem Bd (ps:List Int) (most:Nat):Jx ps most≤most:=by
 cases ps with
 |nil=>exact Nat.zero_le _
 |cons p r=>exact EC p most
section
variable {w:Y} {D:Nat} {S S':AD} {O I:Nat → Prop} {L:Lay} {k:KV}
theorem RO {n0 b most:Nat} {ps:List Int} (h:Bc w n0 b ps) (hm:most≤4611686018427387904) (hp:ps.length≤4611686018427387904)
   (hk:∀w',Bc w' n0 b ps.tail→Fr (fun c=>c=b) w w'→w'.heap.size=w.heap.size→k (i64 (Jx ps most)) w'):pFn P 106 [i64 most,ptr b] w k:=by
 refine xw _ _ _ _ ?_
 unfold KJ
 obtain⟨hn0,v,h1,h2,h3⟩:=h
 obtain⟨A,c,hv,hc⟩:∃A c,v= .slice A ps.length c∧ps.length≤c:=by obtain⟨A,c,e,hc,_⟩:=h2;exact⟨A,c,e,hc⟩
 subst hv
 refine Zj (v:= .slice A ps.length c) (isAgg39 _) h1 rfl (Yn Vy ?_)
 cases ps with
 |nil=>exact ZP rfl (Zk (hk w ⟨hn0,_,h1,h2,h3⟩ (Fr.refl _ _) rfl))
 | cons p r =>
   refine Yd (by have hpr:(p::r).length=r.length+1:=rfl;omega) (Zf ?_)
   refine Zj (v:= .slice A (p::r).length c) (isAgg39 _) h1 rfl ?_
   refine Xn Vy (BR _) h2 (by omega) (by have hpr:(p::r).length=r.length+1:=rfl;omega) fun bb o hcell=> ?_
   refine Xl (v:=i64 p) (isAgg3 _) (by have:=hcell 0 (i64 p) (by omega) (by simp);simpa using this) ?_
   refine Zj (v:= .slice A (p::r).length c) (isAgg39 _) h1 rfl ?_
   refine HU Vy (BR _) (by omega) (by have hpr:(p::r).length=r.length+1:=rfl;omega) ?_
   have hcut:=Src.cut h2 (l:=1) (h':=(p::r).length) (by simp) (Nat.le_refl _)
   have e1:((i64 p::r.map i64).drop (1*1)).take (((p::r).length-1)*1)=r.map i64:=by
     simp only[Nat.mul_one,List.drop_succ_cons,List.drop_zero,List.length_cons,Nat.add_sub_cancel]
     exact List.take_of_length_le (by simp)
   have e2:(p::r).length-1=r.length:=by simp
   simp only[List.map_cons] at hcut
   rw[e1,e2] at hcut
   have e3:(1:Int).toNat=1:=rfl
   rw[e3]
   have hbl:∀x,Zv (sliced A 1 (p::r).length c 1)=some x→Zv (.slice A (p::r).length c)=some x:=by
     intro x hx
     unfold sliced at hx
     cases A with
     |none=>simp at hx;cases hx
     | some a =>
       split at hx
       · exact hx
       · simp only [Option.map_some,Zv  ,Option.some.injEq] at hx ⊢
         rw[←hx];unfold Addr.add;split<;>rfl
   have h1c:(sliced A 1 (p::r).length c 1).cells= #[sliced A 1 (p::r).length c 1]∧(sliced A 1 (p::r).length c 1).oneCell'=true:=⟨rfl,rfl⟩
   refine YA (sizeOf39 _) h1c.1 h1c.2 h1 (by show 0<1;decide) ?_
   have hb':=Z6 h1 0 (sliced A 1 (p::r).length c 1)
   have f1:Fr (fun x=>x=b) w (w.setCell ⟨b,0,none⟩ (sliced A 1 (p::r).length c 1)):=Fr.setCell w ⟨b,0,none⟩ _
   refine vh (by omega) (by omega) ?_
   have e4:p.emod ((most:Int)+1)=((Jx (p::r) most:Nat):Int):=(Q5 p most).symm
   rw[e4]
   refine hk _ ⟨hn0,_,hb',hcut.fr (by omega) f1 fun x hx=>by have:=h3 (by simp) x (hbl x hx);omega,fun _ x hx=>h3 (by simp) x (hbl x hx)⟩ f1 (by simp[World.setCell])
def AD.after (S:AD) (th:Nat→Thg) (next:Nat) (N:Names):AD:= { S with things:=th,next:=next,shown:=N,safe:=N,row:=[],off:=false,plan:= .zero,since:=0,strokes:=0}
theorem ED {ρ:Env} {m:Nat} {lst N:Names} {L1:Lay} {Ob Ib:Nat→Prop} {th:Nat→Thg} {next:Nat} (h:Yi w D S O I L) (h0:ρ 0=ptr D) (h5:ρ 5= .map (some m)) (hm:SMap w m (ZD L1 lst)) (hp:lst.Perm N)
   (hT:∀p∈N,VM w Ob Ib (L1.loc p.2) (.slice none 0 0) (th p.2)) (hinj:∀p∈N,∀q∈N,L1.loc p.2=L1.loc q.2→p.2=q.2) (hmO:Ob m) (hdis:∀b,Ob b→¬O b∧¬I b∧¬Ib b) (hdisI:∀b,Ib b→¬O b) (hlt:∀b,Ob b∨Ib b→b<w.heap.size)
   (hk:∀w' O' I' L',Yi w' D (AD.after S th next N) O' I' L'→Fr (fun b=>b=D) w w'→(∀b,O b→O' b)→(∀b,I b→I' b)→(∀b,O' b→O b∨Ob b∨w.heap.size≤b)→(∀b,I' b→I b∨Ib b)→k (.tuple #[]) w'):yZ k ρ w:=by
 unfold yZ
 rw[h0,h5]
 refine Qa hm fun w1 hm1 f1 z1=> ?_
 have hd1:=f1.get h.disk id
 refine Zn (Ui (YA (sizeOf54 _) rfl rfl hd1 (by show 2<11;decide) ?_))
 have hd2:=Z6 hd1 2 (.map (some m))
 have f2:Fr (fun b=>b=D) w1 _:=Fr.setCell w1 ⟨D,2,none⟩ (.map (some m))
 refine Zn (XF (YA (sizeOf54 _) rfl rfl hd2 (by show 1<11;decide) ?_))
 have hd3:=Z6 hd2 1 (.map (some w.heap.size))
 have f3:Fr (fun b=>b=D) _ _:=Fr.setCell (w1.setCell ⟨D,2,none⟩ (.map (some m))) ⟨D,1,none⟩ (.map (some w.heap.size))
 refine Zn (Uj (YA (sizeOf55 _) rfl rfl hd3 (by show 3<11;decide) ?_))
 have hd4:=Z6 hd3 3 (.slice none 0 0)
 have f4:Fr (fun b=>b=D) _ _:=Fr.setCell ((w1.setCell ⟨D,2,none⟩ (.map (some m))).setCell ⟨D,1,none⟩ (.map (some w.heap.size))) ⟨D,3,none⟩ (.slice none 0 0)
 have f24:=(f2.or f3).or f4
 generalize hw4:(((w1.setCell ⟨D,2,none⟩ (.map (some m))).setCell ⟨D,1,none⟩ (.map (some w.heap.size))).setCell ⟨D,3,none⟩ (.slice none 0 0))=w4 at *
 have hd4':w4.heap[D]? =some (.cells #[i64 S.room,.map (some w.heap.size),.map (some m),.slice none 0 0,i64 S.strokes,i64 S.plan.off,i64 S.plan.from_,i64 S.plan.to_,i64 S.since,.bool S.off,L.readsv] 58 (0,0)):=hd4.trans (by kernel_rfl)
 clear hd4
 refine Z9 (w':=w4) (v:= .agg #[i64 0,i64 0,i64 0]) (by kernel_rfl) ?_
 refine Zn (BQ (YA (sizeOf4 _) rfl rfl hd4' (by show 9<11;decide) ?_))
 have hd5:=Z6 hd4' 9 (.bool false)
 have f5:Fr (fun b=>b=D) w4 (w4.setCell ⟨D,9,none⟩ (.bool false)):=Fr.setCell w4 ⟨D,9,none⟩ (.bool false)
 refine Zn (BP ?_)
 refine Va (vs:=[i64 0,i64 0,i64 0]) (sizeOf38 _) rfl (by intro v hv;simp at hv;subst hv;rfl) hd5 (by show 5+3≤11;decide) fun w6 hd6 f6 z6=> ?_
 have hd6':w6.heap[D]? =some (.cells #[i64 S.room,.map (some w.heap.size),.map (some m),.slice none 0 0,i64 S.strokes,i64 0,i64 0,i64 0,i64 S.since,.bool false,L.readsv] 58 (0,0)):=hd6.trans (by kernel_rfl)
 clear hd6 hd5
 refine Zn (QW (YA (sizeOf3 _) rfl rfl hd6' (by show 8<11;decide) ?_))
 have hd7:=Z6 hd6' 8 (i64 0)
 have f7:Fr (fun b=>b=D) w6 (w6.setCell ⟨D,8,none⟩ (i64 0)):=Fr.setCell w6 ⟨D,8,none⟩ (i64 0)
 refine Zn (Dx (YA (sizeOf3 _) rfl rfl hd7 (by show 4<11;decide) ?_))
 have hd8:=Z6 hd7 4 (i64 0)
 have f8:Fr (fun b=>b=D) _ ((w6.setCell ⟨D,8,none⟩ (i64 0)).setCell ⟨D,4,none⟩ (i64 0)):=Fr.setCell (w6.setCell ⟨D,8,none⟩ (i64 0)) ⟨D,4,none⟩ (i64 0)
 show k _ ((w6.setCell ⟨D,8,none⟩ (i64 0)).setCell ⟨D,4,none⟩ (i64 0))
 generalize (w6.setCell ⟨D,8,none⟩ (i64 0)).setCell ⟨D,4,none⟩ (i64 0)=w8 at *
 have f18:Fr (fun b=>b=D) w1 w8:=((((f24.or f5).or f6).or f7).or f8).mono (by
   rintro b ((((((hb|hb)|hb)|hb)|hb)|hb)|hb)<;>exact .inl hb)
 have f08:Fr (fun b=>b=D) w w8:=(f1.or f18).mono fun b hb=>hb.elim (fun h=>h.elim) .inl
 have hDO:=h.oD
 have hDlt:=h.lt D (.inl hDO)
 have hmD:m≠D:=fun e=>(hdis m hmO).1 (e▸hDO)
 have hz8:=f08.size
 have hz18:=f18.size
 have hTD:∀b,Ob b→b≠D:=fun b hb e=>(hdis b hb).1 (e▸hDO)
 have hmlt:=hlt m (.inl hmO)
 have hr:∀t,reach (AD.after S th next N) t→∃p∈N,p.2=t:=by
   rintro t (⟨n,h'⟩|⟨n,h'⟩|⟨n,h'⟩)
   · exact⟨_,h',rfl⟩
   · exact⟨_,h',rfl⟩
   · cases h'
 refine hk w8 (fun b=>O b∨Ob b∨b=w.heap.size) (fun b=>I b∨Ib b) { L with sh:=w.heap.size,sf:=m,lsh:=lst,lsf:=lst,loc:=L1.loc,trow:=fun _=> .slice none 0 0,rowv:= .slice none 0 0} ?_ f08 (fun b=> .inl) (fun b=> .inl) ?_ fun b=>id
 · exact {
     disk:=hd8
     sh:=hm1.fr f18 (by omega)
     shp:=hp
     sf:=(hm.fr f1 id).fr f18 hmD
     sfp:=hp
     ne:=by show w.heap.size≠m;omega
     row:=⟨rfl,.inl ⟨rfl,rfl⟩⟩
     reads:=Z4 h.reads f08 (by rintro b hb e;obtain⟨c1,h1⟩:=Z0 h.reads hb;rw[e] at h1;exact absurd (Zy h1 h.disk) (by decide))
     things:=fun t ht=>by
       obtain⟨p,hpN,rfl⟩:=hr t ht
       have h1:=hT p hpN
       have h2:=h1.fr (O':=O) f08 (fun e=>hTD _ h1.own e) (by rintro b hb;cases hb) (fun b hb e=>hdisI b hb (e▸hDO))
       exact h2.mono (O:=Ob) (fun b hb=> .inr (.inl hb)) fun b hb=> .inr hb
     inj:=fun t u ht hu e=>by
       obtain⟨p,hpN,rfl⟩:=hr t ht
       obtain⟨q,hqN,rfl⟩:=hr u hu
       exact hinj p hpN q hqN e
     rows:=by intro t u _ _ _ b hb;cases hb
     oD:= .inl hDO
     osh:= .inr (.inr rfl)
     osf:= .inr (.inl hmO)
     orow:=by rintro b hb;cases hb
     oreads:=fun b hb=> .inl (h.oreads b hb)
     apart:=by
       rintro b (hb|hb|hb) (hi|hi)
       · exact h.apart b hb hi
       · exact hdisI b hi hb
       · exact(hdis b hb).2.1 hi
       · exact(hdis b hb).2.2 hi
       · have:=h.lt b (.inr hi);omega
       · have:=hlt b (.inr hi);omega
     lt:=by
       rintro b ((hb|hb|hb)|(hb|hb))
       · have:=h.lt b (.inl hb);omega
       · have:=hlt b (.inl hb);omega
       · omega
       · have:=h.lt b (.inr hb);omega
       · have:=hlt b (.inr hb);omega}
 · rintro b (hb | hb | hb)
   · exact .inl hb
   · exact .inr (.inl hb)
   · exact .inr (.inr (by omega))
theorem Ul (picks:List Int) (k most:Nat):Jx (picks.drop k) most=XE picks k most:=by
 unfold XE
 rw[←List.head?_drop]
 cases picks.drop k<;>rfl
theorem tail_drop (picks:List Int) (k:Nat):(picks.drop k).tail=picks.drop (k+1):=by rw[List.tail_drop]
def Yl (N:Names) (next j:Nat):Names:=N.zipIdx.map fun q=>(q.1.1,if q.2<j then next+q.2 else q.1.2)
theorem JP (N:Names) (next j:Nat):ZH (Yl N next j)=ZH N:=by
 unfold Yl ZH
 rw[List.map_map]
 have:((fun p:ByteArray×Nat=>p.1)∘fun q:(ByteArray×Nat)×Nat=>(q.1.1,if q.2<j then next+q.2 else q.1.2))=(fun p:ByteArray×Nat=>p.1)∘Prod.fst:=rfl
 rw[this,←List.map_map,List.zipIdx_map_fst]
theorem Vb (N:Names) (next j:Nat):(Yl N next j).length=N.length:=by simp[Yl]
theorem Xy (N:Names) (next j i:Nat) (h:i<N.length):(Yl N next j)[i]? =some (N[i].1,if i<j then next+i else N[i].2):=by
 simp[Yl,List.getElem?_zipIdx,h]
theorem JQ (N:Names) (next:Nat):Yl N next 0=N:=by
 apply List.ext_getElem?
 intro i
 by_cases h:i<N.length
 ·rw[Xy N next 0 i h];simp[h]
 ·rw[List.getElem?_eq_none (by rw[Vb];omega),List.getElem?_eq_none (by omega)]
theorem JR (N:Names) (next j:Nat) (hn:(ZH N).Nodup) (h:j<N.length):Xs (Yl N next j) N[j].1 (next+j)=Yl N next (j+1):=by
 have hmem:(N[j].1,N[j].2)∈Yl N next j:=List.mem_of_getElem? (by rw[Xy N next j j h];simp)
 unfold Xs
 rw[if_pos (List.any_eq_true.2 ⟨_,hmem,by simp⟩)]
 apply List.ext_getElem?
 intro i
 by_cases hi:i<N.length
 ·rw[List.getElem?_map,Xy N next j i hi,Xy N next (j+1) i hi]
  simp only[Option.map_some]
  by_cases e:i=j
  ·subst e;simp
  ·have hne:N[i].1≠N[j].1:=by
    intro he
    have hli:i<(ZH N).length:=by simpa[ZH] using hi
    have hlj:j<(ZH N).length:=by simpa[ZH] using h
    have h1:(ZH N)[i]=(ZH N)[j]:=by simpa[ZH] using he
    rcases Nat.lt_or_gt_of_ne e with hlt|hlt
    ·exact(List.pairwise_iff_getElem.1 hn) i j hli hlj hlt h1
    ·exact(List.pairwise_iff_getElem.1 hn) j i hlj hli hlt h1.symm
   rw[if_neg hne]
   have:(i<j+1)↔(i<j):=by omega
   simp[this]
 ·rw[List.getElem?_map,List.getElem?_eq_none (by rw[Vb];omega),List.getElem?_eq_none (by rw[Vb];omega)];rfl
end
def Jy (S:AD) (picks:List Int) (i t:Nat):Thg:=⟨S.Yt picks i t,S.Yt picks i t,[]⟩
structure Mid (w0 w:Y) (S:AD) (L:Lay) (N:Names) (m b3:Nat) (picks:List Int) (j:Nat) (lst:Names) (L1:Lay) (Ob Ib:Nat→Prop):Prop where
 map:SMap w m (ZD L1 lst)
 perm:lst.Perm (Yl N S.next j)
 loc:∀t,t<S.next→L1.loc t=L.loc t
 pk:Bc w w0.heap.size b3 (picks.drop (j+1))
 things:∀i p,i<j→N[i]? =some p→VM w Ob Ib (L1.loc (S.next+i)) (.slice none 0 0) (Jy S picks i p.2)
 inj:∀i i',i<j→i'<j→L1.loc (S.next+i)=L1.loc (S.next+i')→i=i'
 om:Ob m
 new:∀b,Ob b∨Ib b→w0.heap.size≤b∧b<w.heap.size
 dis:∀b,Ob b→¬Ib b
 ob3:¬Ob b3
 ib3:¬Ib b3
 fr:Fr no w0 w
section
variable {w w0:Y} {D:Nat} {S S':AD} {O I:Nat → Prop} {L:Lay} {k:KV}
theorem Mid.step {N lst:Names} {m b3:Nat} {picks:List Int} {j:Nat} {L1:Lay} {Ob Ib:Nat→Prop} (h:Yi w0 D S O I L) {c:Nat} (ok:S.Ok c) (M:Mid w0 w S L N m b3 picks j lst L1 Ob Ib) (hN:∀p∈N,reach S p.2) (hNn:(ZH N).Nodup) (hj:j<N.length) (hpl:picks.length≤4611686018427387904) {kk:V→V→V→V→V→V→KV}
   (hk:∀w' lst' L1' Ob' Ib',Mid w0 w' S L N m b3 picks (j+1) lst' L1' Ob' Ib'→Fr (fun b=>b=m∨b=b3) w w'→∀v1 v2 v3 v4 v5 v6 v7,kk v1 v2 v3 v4 v5 v6 v7 w'):
   ∃ Sx : World → Prop,Sx w.drew ∧ pq P Sx (Instr.lookup 54 (.map (some m)) (.string N[j].1) false) fun v49 => pq P Sx (Instr.lookup 54 (.map (some m)) (.string N[j].1) false) fun v53 =>
     pFn P 109 [v53] w.drew fun v54 w=>Sx w∧(pFn P 106 [v54,ptr b3] w fun v55 w=>Sx w∧(pFn P 108 [v49,v55] w fun v56 w=>Sx w∧(
       px P (Instr.build 124 #[(0,v56),(1,v56)]) w fun v61 w=>px P (Instr.box 124 v61) w fun v62 w=>pu P (Instr.mapUpdate 54 (.map (some m)) (.string N[j].1) v62) w fun w=>kk v49 v53 v54 v55 v56 v61 v62 w))):=by
 have hlstn:(ZH lst).Nodup:=by have:=M.map.nodup;rwa [VW] at this
 have hmid:(ZH (Yl N S.next j)).Nodup:=by rw[JP];exact hNn
 have hr:reach S N[j].2:=hN _ (List.getElem_mem hj)
 have hlt:=ok.next _ hr
 have hget:ZV (ZD L1 lst) N[j].1=some (ptr (L.loc N[j].2)):=by
   rw[Xg,YU M.perm hlstn]
   have:(N[j].1,N[j].2)∈Yl N S.next j:=List.mem_of_getElem? (by rw[Xy N S.next j j hj];simp)
   rw[Vq hmid this]
   simp[M.loc _ hlt]
 have hb3:=M.pk.1
 have hmb3:m≠b3:=fun e=>M.ob3 (e▸M.om)
 have f0:Fr no w w.drew:=Fr.drew _ _
 refine⟨fun w'=>SMap w' m (ZD L1 lst),M.map.fr f0 id,?_⟩
 refine Zi (ptr (L.loc N[j].2)) (fun w_ hS=>Mi hS N[j].1 (zeroValue117 _) ⟨by rw[hget];rfl,rfl⟩) ?_
 refine Zi (ptr (L.loc N[j].2)) (fun w_ hS=>Mi hS N[j].1 (zeroValue117 _) ⟨by rw[hget];rfl,rfl⟩) ?_
 have tok:=ok.Yk _ hr
 have fd:Fr no w0 w.drew:=(M.fr.or f0).mono fun b hb=>hb.elim (fun h=>h.elim) fun h=>h.elim
 have hT1:=(h.things _ hr).fr (O':=O) fd (fun h=>h) (fun _ _ h=>h) (fun _ _ h=>h)
 have hu:Ym (S.things N[j].2).row≤4611686018427387904:=by
   have h1:=UP tok.ok.Ud
   have h2:=tok.row
   have h3:=ok.small
   have h4:(S.things N[j].2).row.length*1048576≤1099511627776*1048576:=Nat.mul_le_mul_right _ (by omega)
   omega
 refine RK hT1 tok ok.small fun w1 f1=> ?_
 have m1:=(M.map.fr f0 id).fr f1 id
 refine⟨m1,?_⟩
 have p1:=((M.pk.fr f0 id fun _ _ h=>h).fr f1 id fun _ _ h=>h)
 refine RO     p1 hu (by have:(picks.drop (j + 1)).length ≤ picks.length := by rw [List.length_drop]; omega
                         omega) fun w2 p2 f2 z2=> ?_
 have m2:=m1.fr f2 hmb3
 refine⟨m2,?_⟩
 rw[Ul,tail_drop] at *
 have hsz1:=fd.size
 have f02:Fr no w0 w2:=((fd.or f1).or f2).mono (by
   rintro b ((hb|hb)|hb)
   · exact hb.elim
   · exact hb.elim
   · exact .inr (by omega))
 have hT2:=(h.things _ hr).fr (O':=O) f02 (fun h=>h) (fun _ _ h=>h) (fun _ _ h=>h)
 have hpk:XE picks (j+1) (Ym (S.things N[j].2).row)≤Ym (S.things N[j].2).row:=by rw[←Ul];exact Bd _ _
 refine zca hT2 tok ok.small (by omega) fun w3 v3 h3 hb3' f3=> ?_
 refine⟨m2.fr f3 id,?_⟩
 obtain⟨A3,c3,e3,hc3⟩:=h3.form
 refine Z9 (w':=w3) (v:= .agg #[v3,v3,.slice none 0 0]) (by subst e3;kernel_rfl) ?_
 refine Yw ?_
 have hT:=Z2 w3 (.cells #[v3,v3,.slice none 0 0] 124)
 have f4:=Fr.alloc no w3 (.cells #[v3,v3,.slice none 0 0] 124)
 have z4:(w3.alloc (.cells #[v3,v3,.slice none 0 0] 124)).heap.size=w3.heap.size+1:=by simp
 show pu P _ (w3.alloc (.cells #[v3,v3,.slice none 0 0] 124)) _
 generalize w3.alloc (.cells #[v3,v3,.slice none 0 0] 124)=w4 at *
 have m4:=(m2.fr f3 id).fr f4 id
 refine gW m4 N[j].1 (ptr w3.heap.size) fun w5 m5 f5 z5=> ?_
 have hz0:w.drew.heap.size=w.heap.size:=rfl
 have hz1:=f1.size
 have hz3:=f3.size
 have hm0:=M.new m (.inl M.om)
 have fw5:Fr (fun b=>b=m∨b=b3) w w5:=(((((f0.or f1).or f2).or f3).or f4).or f5).mono (by
   rintro b (((((hb|hb)|hb)|hb)|hb)|hb)
   · exact hb.elim
   · exact hb.elim
   · exact .inl (.inr hb)
   · exact hb.elim
   · exact hb.elim
   · exact .inl (.inl hb))
 have f05:Fr no w0 w5:=(M.fr.or fw5).mono (by
   rintro b (hb|hb|hb)
   · exact hb.elim
   · exact .inr (by omega)
   · exact .inr (by omega))
 have hbd:∀x,Ob x∨Ib x→x<w.heap.size:=fun x hx=>(M.new x hx).2
 let L2:Lay:= { L1 with loc:=fun t=>if t=S.next+j then w3.heap.size else L1.loc t}
 let Ob':Nat→Prop:=fun x=>Ob x∨x=w3.heap.size
 let Ib':Nat→Prop:=fun x=>Ib x∨Zv v3=some x
 have hv3:∀x,Zv v3=some x→w2.heap.size≤x∧x<w3.heap.size:=hb3'
 have hL2:ZD L2 lst=ZD L1 lst:=VG fun p hp=>by
   have h1:=M.perm.mem_iff.1 hp
   unfold Yl at h1
   obtain⟨q,hq,rfl⟩:=List.mem_map.1 h1
   have hq2:=List.mem_zipIdx hq
   show (if (if q.2<j then S.next+q.2 else q.1.2)=S.next+j then w3.heap.size else _)=_
   refine if_neg ?_
   split
   · omega
   · have : q.1 ∈ N := by rw [hq2.2.2]; exact List.getElem_mem _
     have:=ok.next _ (hN _ this);omega
 rw[←hL2] at m5
 have m5':SMap w5 m (ZD L2 (Xs lst N[j].1 (S.next+j))):=by
   have:ptr w3.heap.size=ptr (L2.loc (S.next+j)):=by show ptr w3.heap.size=ptr (if S.next+j=S.next+j then _ else _);rw[if_pos rfl]
   rw[this,XW] at m5;exact m5
 have hperm:(Xs lst N[j].1 (S.next+j)).Perm (Yl N S.next (j+1)):=by
   rw[←JR N S.next j hNn hj]
   exact(VZ hlstn _ _).trans ((List.Perm.cons _ (Vr M.perm _)).trans (VZ hmid _ _).symm)
 have hIbm:∀x,Ib x→x≠m∧x≠b3:=fun x hx=>⟨fun e=>M.dis m M.om (e▸hx),fun e=>M.ib3 (e▸hx)⟩
 refine hk w5 (Xs lst N[j].1 (S.next+j)) L2 Ob' Ib' ?_ fw5 _ _ _ _ _ _ _
 have hT5:=f5.get hT (by omega)
 have h35:Z5 w5 v3 (S.Yt picks j N[j].2):=(h3.fr f4 fun _ _ h=>h).fr f5 fun x hx e=>by have:=hv3 x hx;omega
 exact {
   map:=m5'
   perm:=hperm
   loc:=fun t ht=>by
     show (if t=S.next+j then _ else L1.loc t)=_
     rw[if_neg (by omega)];exact M.loc t ht
   pk:=((p2.fr f3 id fun _ _ h=>h).fr f4 id fun _ _ h=>h).fr f5 (fun e=>hmb3 e.symm) (fun x hx e=>by omega)
   things:=fun i p hi hp=>by
     by_cases e:i=j
     · subst e
       have:p=N[i]:=by rw[List.getElem?_eq_getElem hj] at hp;injection hp with hp;exact hp.symm
       subst this
       show VM w5 Ob' Ib' (if S.next+i=S.next+i then w3.heap.size else _) _ _
       rw[if_pos rfl]
       exact⟨⟨_,_,[],hT5,⟨h35,fun x hx=> .inr hx⟩,⟨h35,fun x hx=> .inr hx⟩,⟨rfl,.inl ⟨rfl,rfl⟩⟩,.nil⟩,.inr rfl,by rintro x hx;cases hx⟩
     · show VM   w5 Ob' Ib' (if S.next + i = S.next + j then w3.heap.size else L1.loc (S.next + i)) _ _
       rw[if_neg (by omega)]
       have h1:=M.things i p (by omega) hp
       have h2:=h1.fr (O':=Ob) fw5 (by
         rintro (e'|e')
         · obtain ⟨cc,hcc⟩ := h1.obj
           obtain⟨es,cl,hmm⟩:=SMap.obj M.map
           rw[e',hmm] at hcc;cases hcc
         · exact M.ob3 (e'▸h1.own)) (by rintro x hx;cases hx) (by
         rintro x hx (e'|e')
         · exact(hIbm x hx).1 e'
         · exact(hIbm x hx).2 e')
       exact h2.mono (O:=Ob) (fun x=> .inl) fun x=> .inl
   inj:=fun i i' hi hi' e=>by
     have e':(if S.next+i=S.next+j then w3.heap.size else L1.loc (S.next+i))=(if S.next+i'=S.next+j then w3.heap.size else L1.loc (S.next+i')):=e
     have hown:∀a,a<j→L1.loc (S.next+a)<w.heap.size:=by
       intro a ha
       have hal:a<N.length:=by omega
       exact hbd _ (.inl (M.things a N[a] ha (by simp[hal])).own)
     by_cases c1:i=j<;>by_cases c2:i'=j
     · omega
     · rw [if_pos (by omega),if_neg (by omega)] at e'
       have:=hown i' (by omega);omega
     · rw [if_neg (by omega),if_pos (by omega)] at e'
       have:=hown i (by omega);omega
     · rw [if_neg (by omega),if_neg (by omega)] at e'
       exact M.inj i i' (by omega) (by omega) e'
   om:= .inl M.om
   new:=by
     rintro x ((hx|hx)|(hx|hx))
     · have:=M.new x (.inl hx);exact⟨this.1,by omega⟩
     · have:=M.fr.size;exact⟨by omega,by omega⟩
     · have:=M.new x (.inr hx);exact⟨this.1,by omega⟩
     · have h1:=hv3 x hx;have:=M.fr.size;exact⟨by omega,by omega⟩
   dis:=by
     rintro x (hx|hx) (hi|hi)
     · exact M.dis x hx hi
     · have:=hbd x (.inl hx);have:=hv3 x hi;omega
     · have:=hbd x (.inr hi);omega
     · have:=hv3 x hi;omega
   ob3:=by
     rintro (hx|hx)
     · exact M.ob3 hx
     · obtain⟨_,pv,hp,_⟩:=M.pk;have:=ZS hp;omega
   ib3:=by
     rintro (hx|hx)
     · exact M.ib3 hx
     · obtain⟨_,pv,hp,_⟩:=M.pk;have:=ZS hp;have:=hv3 _ hx;omega
   fr:=f05}
end
theorem TB {c:Turn} {l:Names} (hc:∀a b,c= .give a b→ZV l a≠none) {n:ByteArray} {t:Nat} (h:(n,t)∈c.on l):(∃n',(n',t)∈l)∨∃n',c= .mk n' t:=by
 cases c with
 |mk m u=>
  rcases Xc.1 h with h|h
  ·injection h with h1 h2;subst h2;exact .inr ⟨m,rfl⟩
  ·exact .inl ⟨n,h.1⟩
 |give a b=>
  rcases Xc.1 h with h|h
  ·injection h with h1 h2
   cases hg:ZV l a with
   |none=>exact absurd hg (hc a b rfl)
   |some u=>rw[hg] at h2;subst h2;exact .inl ⟨a,ZU hg⟩
  ·exact .inl ⟨n,(Yv.1 h.1).1⟩
 |take m=>exact .inl ⟨n,(Yv.1 h).1⟩
theorem Be {s:Names}:∀ {r:List Turn} {l:Names},Yo l r s→∀ {n:ByteArray} {t:Nat},(n,t)∈s→(∃n',(n',t)∈l)∨∃n',Turn.mk n' t∈r
 | [],l,h,n,t,hm=>by rw[h.1] at hm;exact .inl ⟨n,hm⟩
 |c::r,l,h,n,t,hm=>by
  rcases Be (r:=r) (l:=c.on l) h.2.2 hm with ⟨n',h1⟩|⟨n',h1⟩
  ·rcases TB h.2.1 h1 with ⟨m,h2⟩|⟨m,h2⟩
   ·exact .inl ⟨m,h2⟩
   ·exact .inr ⟨m,h2▸List.mem_cons_self⟩
  ·exact .inr ⟨n',List.mem_cons_of_mem _ h1⟩
theorem V3 {S:AD} {c:Nat} (ok:S.Ok c) (picks:List Int):∀p∈S.Z7 picks,reach S p.2:=by
 intro p hp
 have h1:=ok.turns.take (XE picks 0 S.row.length)
 rcases Be h1 (n:=p.1) (t:=p.2) hp with ⟨n,h⟩|⟨n,h⟩
 ·exact .inr (.inl ⟨n,h⟩)
 ·exact .inr (.inr ⟨n,List.mem_of_mem_take h⟩)
def V4 (S:AD) (picks:List Int):Nat→Thg:=fun j=>if j<S.next then S.things j else match (S.Z7 picks)[j-S.next]? with
 |some p=>Jy S picks (j-S.next) p.2
 |none=>S.things j
theorem Cj (S:AD) (picks:List Int):S.Xu picks=AD.after S (V4 S picks) (S.next+(S.Z7 picks).length) (Yl (S.Z7 picks) S.next (S.Z7 picks).length):=by
 have e:Yl (S.Z7 picks) S.next (S.Z7 picks).length=(S.Z7 picks).zipIdx.map fun q=>(q.1.1,S.next+q.2):=by
  unfold Yl
  refine List.map_congr_left fun q hq=> ?_
  have:=(List.mem_zipIdx hq).2.1
  rw[if_pos (by omega)]
 rw[e];rfl
section
variable {w w0:Y} {D:Nat} {S S':AD} {O I:Nat → Prop} {L:Lay} {k:KV}
theorem Ck {c:Nat} {picks:List Int} {m b3 cap:Nat} {A:Option Addr} (h:Yi w0 D S O I L) (ok:S.Ok c) (hpl:picks.length≤4611686018427387904)
   (hk:∀w' O' I' L',Nx w0 D O I w' (S.Xu picks) O' I' L'→k (.tuple #[]) w') (hnb:∀b,A=some b→b.block≠m∧b.block≠b3)
   (j:Nat) (hj:j≤(S.Z7 picks).length) (lst:Names) (L1:Lay) (Ob Ib:Nat→Prop) (M:Mid w0 w S L (S.Z7 picks) m b3 picks j lst L1 Ob Ib) (hsrc:Src w (.slice A (S.Z7 picks).length cap) 1 (S.Z7 picks).length (Xe (S.Z7 picks)))
   (ρ:Env) (h0:ρ 0=ptr D) (h4:ρ 4= .func (.func 106) #[] #[ptr b3]) (h5:ρ 5= .map (some m)) (h41:ρ 41= .slice A (S.Z7 picks).length cap) (h42:ρ 42=i64 (S.Z7 picks).length) (h43:ρ 43=i64 j):yX k ρ w:=by
 generalize hN:S.Z7 picks=N at *
 have hNo:Ordered N:=by rw[←hN];exact ok.safe.fold
 have hNr:∀p∈N,reach S p.2:=by rw[←hN];exact V3 ok picks
 have hNl:N.length≤256:=by rw[←hN];exact(ok.turns.take (XE picks 0 S.row.length)).len.1
 refine Kz (m:=N.length-j) k (fun n ρ w'=>∃(j:Nat) (lst:Names) (L1:Lay) (Ob Ib:Nat→Prop),j+n=N.length∧Mid w0 w' S L N m b3 picks j lst L1 Ob Ib∧Src w' (.slice A N.length cap) 1 N.length (Xe N)∧ρ 0=ptr D∧ρ 4= .func (.func 106) #[] #[ptr b3]∧ρ 5= .map (some m)∧ρ 41= .slice A N.length cap∧ρ 42=i64 N.length∧ρ 43=i64 j) ?_
   ⟨j,lst,L1,Ob,Ib,by omega,M,hsrc,h0,h4,h5,h41,h42,h43⟩
 clear M hsrc h0 h4 h5 h41 h42 h43
 rintro n ρ w' ⟨j,lst,L1,Ob,Ib,hjn,M,hsrc,h0,h4,h5,h41,h42,h43⟩
 rw[Rl]
 unfold za1
 rw[h4,h5,h41,h42,h43]
 by_cases hj:j<N.length
 · refine ZA     (by omega) (Zk      ?_)
   refine Xn Xf (Ue _) hsrc (by omega) (by omega) fun bb o hcell=> ?_
   refine Xl (v:= .string N[j].1) (isAgg9 _) (by have:=hcell 0 (.string N[j].1) (by omega) (by simp[Xe,hj]);simpa using this) ?_
   refine M.step (kk:=fun v1 v2 v3 v4 v5 v6 v7 w=>px P (Zd .add 3 (.tmp 43) (.const (.int .i64 1)) (i64 j) (.int .i64 1)) w _) h ok hNr hNo.nodup hj hpl fun w5 lst' L1' Ob' Ib' M' f5 v1 v2 v3 v4 v5 v6 v7=> ?_
   refine Zp (by omega) ?_
   refine⟨n-1,by omega,j+1,lst',L1',Ob',Ib',by omega,M',hsrc.fr (by omega) f5 ?_,h0,h4,h5,h41,h42,?_⟩
   · intro b hb hb'
     cases A with
     |none=>cases hb
     | some a =>
       injection hb with hb
       have:=hnb a rfl
       rcases hb' with e|e
       · exact this.1 (hb.trans e)
       · exact this.2 (hb.trans e)
   · show i64 _=i64 _;simp
 · refine ZB     (by omega) (Zf       ?_)
   have hjN:j=N.length:=by omega
   subst hjN
   rw[Rm]
   have hR:Yi w' D S O I L:=h.fr M.fr fun b hb=>hb.elim
   have hat:∀p∈Yl N S.next N.length,∃i,∃hi:i<N.length,p.2=S.next+i∧N[i]? =some N[i]:=by
     intro p hp
     obtain⟨i,hi⟩:=List.getElem?_of_mem hp
     have hil:i<N.length:=by
       rcases Nat.lt_or_ge i N.length with h'|h'
       · exact h'
       · rw[List.getElem?_eq_none (by rw[Vb];omega)] at hi;cases hi
     rw[Xy N S.next N.length i hil,if_pos hil] at hi
     injection hi with hi
     exact⟨i,hil,by rw[←hi],by simp[hil]⟩
   refine ED (ρ:=put ρ 44 (.bool false)) (m:=m) (lst:=lst) (N:=Yl N S.next N.length) (L1:=L1) (Ob:=Ob) (Ib:=Ib) (th:=V4 S picks) (next:=S.next+N.length) hR h0 h5 M.map M.perm ?_ ?_ M.om ?_ ?_ (fun b hb=>(M.new b hb).2) ?_
   · intro p hp
     obtain⟨i,hi,e,e2⟩:=hat p hp
     rw[e]
     have:=M.things i N[i] hi e2
     unfold V4
     rw[if_neg (by omega),hN]
     have e3:S.next+i-S.next=i:=by omega
     rw[e3,e2];exact this
   · intro p hp q hq e
     obtain⟨i,hi,e1,_⟩:=hat p hp
     obtain⟨i',hi',e2,_⟩:=hat q hq
     rw[e1,e2] at e ⊢
     rw[M.inj i i' hi hi' e]
   · intro b hb
     have:=(M.new b (.inl hb)).1
     exact⟨fun ho=>by have:=h.lt b (.inl ho);omega,fun hi=>by have:=h.lt b (.inr hi);omega,M.dis b hb⟩
   · intro b hb ho
     have:=(M.new b (.inr hb)).1
     have:=h.lt b (.inl ho);omega
   · intro w6 O' I' L6 hR6 f6 ho hi ho' hi'
     have ec:S.Xu picks=AD.after S (V4 S picks) (S.next+N.length) (Yl N S.next N.length):=by rw[Cj,hN]
     refine hk w6 O' I' L6 ⟨by rw[ec];exact hR6,(M.fr.or f6).mono ?_,ho,hi,?_,?_⟩
     · rintro b (hb | hb)
       · exact hb.elim
       · exact .inl (hb▸h.oD)
     · intro b hb
       rcases ho' b hb with hb|hb|hb
       · exact .inl hb
       · exact .inr (M.new b (.inl hb)).1
       · have:=M.fr.size;exact .inr (by omega)
     · intro b hb
       rcases hi' b hb with hb|hb
       · exact .inl hb
       · exact .inr (M.new b (.inr hb)).1
theorem CN (sk:Xr) {c:Nat} {picks:List Int} {pv:V} (h:Yi w D S O I L) (ok:S.Ok c) (hpl:picks.length≤4611686018427387904) (hpv:Src w pv 1 picks.length (picks.map i64))
   (hnm:∀p∈S.Z7 picks,p.1.size≤maxLen) (hk:∀w' O' I' L',Nx w D O I w' (S.Xu picks) O' I' L'→k (.tuple #[]) w'):pFn P 58 [ptr D,pv] w k:=by
 refine za2 _ _ _ _ ?_
 unfold yY
 obtain⟨Ap,cp,hpe,hcp⟩:∃A c,pv= .slice A picks.length c∧picks.length≤c:=by obtain⟨A,c,e,hc,_⟩:=hpv;exact⟨A,c,e,hc⟩
 subst hpe
 refine Yw ?_
 have f1:=Fr.alloc no w (.cells #[.slice Ap picks.length cp] 39)
 have b1:=Z2 w (.cells #[.slice Ap picks.length cp] 39)
 have z1:(w.alloc (.cells #[.slice Ap picks.length cp] 39)).heap.size=w.heap.size+1:=by simp
 show pFn P _ _ (w.alloc (.cells #[.slice Ap picks.length cp] 39)) _
 generalize w.alloc (.cells #[.slice Ap picks.length cp] 39)=w1 at *
 have h1:=h.fr f1 fun b hb=>hb.elim
 have pk1:Bc w1 w.heap.size w.heap.size picks:=⟨Nat.le_refl _,_,b1,hpv.fr (by omega) f1 fun _ _ h=>h,fun hp b hb=>hpv.lt (by omega) hp hb⟩
 refine Vz h1.disk ok.room.1 (Zf (US ?_))
 refine Zn (Ui (Zj (v:= .map (some L.sf)) (isAgg54 _) h1.disk rfl ?_))
 refine Qa h1.sf fun w2 m2 f2 z2=> ?_
 have f2d:Fr no w1 w2.drew:=(f2.or (Fr.drew no w2)).mono fun b hb=>hb.elim (fun h=>h.elim) fun h=>h.elim
 have h2:=h1.fr f2d fun b hb=>hb.elim
 have pk2:=pk1.fr f2d id fun _ _ h=>h
 have m2d:SMap w2.drew w1.heap.size (ZD L L.lsf):=m2.fr (Fr.drew no w2) id
 have zd:w2.drew.heap.size=w2.heap.size:=rfl
 have hrowl:=ok.row
 have hsm:=ok.small
 obtain⟨Ar,cr,hre,hcr⟩:∃A c,L.rowv= .slice A S.row.length c∧S.row.length≤c:=by obtain⟨A,c,e,hc,_⟩:=Src.Zt h.row;exact⟨A,c,e,hc⟩
 refine⟨fun w'=>w'.heap[D]? =some (.cells (Yy S L) 58 (0,0)),h2.disk,?_⟩
 refine Zi _ (fun w_ hS=>Zn ⟨rfl,rfl⟩) ?_
 refine Zi _ (fun w_ hS=>Uj ⟨rfl,rfl⟩) ?_
 refine Zi L.rowv (fun w_ hS=>Zj (isAgg55 _) hS rfl ⟨rfl,rfl⟩) ?_
 refine Zi _ (fun w_ hS=>Zn ⟨rfl,rfl⟩) ?_
 refine Zi _ (fun w_ hS=>Uj ⟨rfl,rfl⟩) ?_
 refine Zi L.rowv (fun w_ hS=>Zj (isAgg55 _) hS rfl ⟨rfl,rfl⟩) ?_
 rw[hre]
 refine Zi _ (fun w_ hS=>Yn Em ⟨rfl,rfl⟩) ?_
 refine RO pk2 (by omega) hpl fun w3 pk3 f3 z3=> ?_
 have hDlt:=h.lt D (.inl h.oD)
 have hd3:=f3.get h2.disk (by omega)
 refine⟨hd3,?_⟩
 have e0:Jx picks S.row.length=XE picks 0 S.row.length:=by rw[←Ul];rfl
 have hq:Jx picks S.row.length≤S.row.length:=Bd _ _
 rw[e0] at hq ⊢
 refine Zi (.slice Ar (XE picks 0 S.row.length) cr) (fun w_ hS=>QO Em (y8 _) (by omega) (by omega) ⟨by rw[Int.toNat_natCast],rfl⟩) ?_
 refine Zi _ (fun w_ hS=>Yn Em ⟨rfl,rfl⟩) ?_
 generalize hqe:XE picks 0 S.row.length=q at *
 have f03:Fr no w w3:=((f1.or f2d).or f3).mono (by
   rintro b ((hb|hb)|hb)
   · exact hb.elim
   · exact hb.elim
   · exact .inr (by omega))
 have m3:SMap w3 w1.heap.size (ZD L L.lsf):=m2d.fr f3 (by omega)
 have hsrc3:Src w3 (.slice Ar q cr) 1 q ((S.row.map (Yb L.loc)).take q):=by
   have h5:=Src.Zt (Z4 h.row f03 fun _ _ h=>h)
   rw[hre] at h5
   have h6:=Src.front h5 hq
   rwa [Nat.mul_one] at h6
 have etl:picks.tail=picks.drop 1:=by rw[List.drop_one]
 rw[etl] at pk3
 refine Ky (m:=q) k (fun n ρ w'=>∃i:Nat,i+n=q∧Fr no w w'∧Fr (fun b=>b=w1.heap.size) w3 w'∧SMap w' w1.heap.size (ZD L ((S.row.take i).foldl (fun l c=>c.onL l) L.lsf))∧ρ 0=ptr D∧ρ 4= .func (.func 106) #[] #[ptr w.heap.size]∧ρ 5= .map (some w1.heap.size)∧ρ 30= .slice Ar q cr∧ρ 31=i64 q∧ρ 32=i64 i) ?_
   ⟨0,by omega,f03,Fr.refl _ _,m3,rfl,rfl,rfl,rfl,rfl,rfl⟩
 rintro n ρ w' ⟨i,hin,hf,hf3,hm,r0,r4,r5,r30,r31,r32⟩
 rw[Ri]
 unfold zaz
 rw[r5,r30,r31,r32]
 have hfold:=JO (r:=S.row.take i) h.sfp h.zcr
 by_cases hi:i<q
 · refine ZA     (by omega) (Zk      ?_)
   have hs':Src w' (.slice Ar q cr) 1 q ((S.row.map (Yb L.loc)).take q):=hsrc3.fr (by omega) hf3 fun b hb e=>by
     have h7:Zv L.rowv=some b:=by rw[hre];cases Ar<;>exact hb
     have:=h.lt b (.inl (h.orow b h7));omega
   refine Xn Em (y8 _) hs' (by omega) (by omega) fun bb o hcell=> ?_
   have hir:i<S.row.length:=by omega
   refine Xl (v:=Yb L.loc S.row[i]) (isAgg136 _) (by have:=hcell 0 (Yb L.loc S.row[i]) (by omega) (by simp[List.getElem?_take,hi,hir]);simpa using this) ?_
   refine zkf S.row[i] (fun a b e=> ?_) hm fun w5 hm5 f5=> ?_
   · rw [YU         hfold.1 hfold.2]
     exact Yo.at_ ok.turns (i:=i) (a:=a) (b:=b) (by rw[List.getElem?_eq_getElem hir,e])
   refine Zp (by omega) ?_
   refine⟨n-1,by omega,i+1,by omega,(hf.or f5).mono (by rintro b (hb|hb);exact hb.elim;exact .inr (by omega)),(hf3.or f5).mono (fun b hb=>hb.elim .inl .inl),?_,r0,r4,r5,r30,r31,?_⟩
   · rw[List.take_succ_eq_append_getElem hir,List.foldl_append];exact hm5
   · show i64 _=i64 _;simp
 · refine ZB     (by omega) (Zf       ?_)
   have hiq:i=q:=by omega
   subst hiq
   rw[Rj]
   unfold za0
   have r5':put ρ 33 (.bool false) 5= .map (some w1.heap.size):=r5
   rw[r5']
   have eN:(S.row.take i).foldl (fun l c=>c.on l) S.safe=S.Z7 picks:=by unfold AD.Z7;rw[hqe]
   rw[eN] at hfold
   have hNo:Ordered (S.Z7 picks):=ok.safe.fold
   have hNl:(S.Z7 picks).length≤256:=(ok.turns.take (XE picks 0 S.row.length)).len.1
   refine VH sk hm hfold.1 hNo hnm (by omega) fun w5 nv hnv hnb f5=> ?_
   obtain⟨An,cn,hne,hcn⟩:∃A c,nv= .slice A (S.Z7 picks).length c∧(S.Z7 picks).length≤c:=by obtain⟨A,c,e,hc,_⟩:=Src.Zt hnv;exact⟨A,c,e,hc⟩
   subst hne
   refine Yn Xf ?_
   have zf3:=hf3.size
   have f05:Fr no w w5:=(hf.or f5).mono fun b hb=>hb.elim (fun h=>h.elim) fun h=>h.elim
   have pk5:Bc w5 w.heap.size w.heap.size (picks.drop 1):=(pk3.fr hf3 (by omega) fun c hc=>by omega).fr f5 id fun _ _ h=>h
   refine Ck (m:=w1.heap.size) (b3:=w.heap.size) h ok hpl hk ?_ 0 (Nat.zero_le _) _ L (fun b=>b=w1.heap.size) no ⟨hm.fr f5 id,by rw[JQ];exact hfold.1,fun _ _=>rfl,pk5,fun i p hi=>absurd hi (Nat.not_lt_zero _),fun i i' hi=>absurd hi (Nat.not_lt_zero _),rfl,?_,fun b _ h=>h,by show¬w.heap.size=w1.heap.size;omega,id,f05⟩ (Src.Zt hnv) _ r0 r4 r5 rfl rfl rfl
   · intro b hb
     have:=hnb b.block (by rw[hb];rfl)
     exact⟨by omega,by omega⟩
   · rintro b (hb | hb)
     · have:=f5.size;exact⟨by omega,by omega⟩
     · exact hb.elim
theorem TC (sk:Xr) {c:Nat} {picks:List Int} {pv:V} (h:Yi w D S O I L) (ok:S.Ok c) (hpl:picks.length≤4611686018427387904) (hpv:Src w pv 1 picks.length (picks.map i64)) (hpb:∀b,Zv pv=some b→b<w.heap.size)
 (hnm:∀p∈S.Z7 picks,p.1.size≤maxLen) (hk:∀w' O' I' L',Nx w D O I w' (S.Xu picks) O' I' L'→k (.tuple #[]) w'):pFn P 58 [ptr D,pv] w k:=CN sk h ok hpl hpv hnm hk
end
end Go.Proofs.YtcdcojpfealppaaGreat
