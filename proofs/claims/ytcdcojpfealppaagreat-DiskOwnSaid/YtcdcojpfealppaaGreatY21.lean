/- Put together by a program (wip/tools/shake.py): ROps9,ROps10,RLoad,FilesO. -/
import Derived.Test.YtcdcojpfealppaaGreatY20
import Derived.Test.YtcdcojpfealppaaGreatY16
import Derived.Test.YtcdcojpfealppaaGreatY10
import Derived.Test.YtcdcojpfealppaaGreatY15
set_option linter.unusedVariables false
set_option linter.unusedSimpArgs false
set_option maxRecDepth 100000
open Go renaming World → Y, Value → V
namespace Go.Proofs.YtcdcojpfealppaaGreat
open Go Go.Proofs Go.RowKit Go.Proofs.XRed Go.Proofs.XHeap Go.Proofs.XMaps Go.Proofs.XSlices Go.Proofs.XDisk Go.Proofs.XCalls Go.Proofs.XSep Tryz
section
variable {w w0:Y} {D:Nat} {S S':AD} {O I:Nat → Prop} {L L':Uy} {k:KV}
set_option maxHeartbeats 1000000 in
theorem js {c:Nat} (h:YC w D S O I L) (ok:S.Ok c) (name:ByteArray) (a n:Int) (hn:-9223372036854775808≤a∧a≤9223372036854775807)
   (hk:∀w' O' I' L' v,RNx w D O I w' (S.read name a n).2.2 O' I' L'→Z5 w' v (S.read name a n).2.1→(∀b,Zv v=some b→w.heap.size≤b∧b<w'.heap.size∧¬O' b)→k (.tuple #[v,i64 (S.read name a n).1]) w'):pFn P 34 [ptr D,.string name,i64 a,i64 n] w k:=by
 have hlen:=YY ok
 refine uK _ _ _ _ _ _ ?_
 unfold Wv
 have fail:∀r,S.read name a n=(r,[],S)→k (.tuple #[.slice none 0 0,i64 r]) w:=by
   intro r ec
   have:=hk w O I L (.slice none 0 0) (by rw[ec];exact RNx.refl h) (by rw[ec];exact Z5.nil _) (by rintro b hb;cases hb)
   rw[ec] at this;exact this
 refine Uo h (by omega) (Xa ok) name (fun hl i=> ?_) fun hl i hi he=> ?_
 · exact ZG rfl (ZG rfl (Y0 hl (Zk (fail _ (by unfold AD.read;rw[if_pos hl])))))
 · refine ZG    rfl (ZG    rfl (ZY      rfl (Zf       ?_)))
   refine Zn (Yx (Zj (v:=L.nowv) (isAgg59 _) h.disk rfl (XA h.now.1 hi fun p q=> ?_)))
   have e2:S.shown[i].2=S.of name:=by rw[he]
   rw[e2]
   have hreach:reach S (S.of name):= .inl ⟨name,by rw[←he];exact List.getElem_mem hi⟩
   have hr:L.has (S.of name):=h.sub _ hreach
   have hTok:=(ok.Yk _ hreach).ok.len.1
   have el:S.bytes name=(S.things (S.of name)).shown:=rfl
   obtain⟨sv,hv,ps,hbT,_,hsh,_⟩:=(h.things _ hr).ex
   obtain⟨A,c',ev,hc'⟩:=hsh.1.form
   subst ev
   have beyond:(a<0∨n<0∨a>(S.bytes name).length∨n>(S.bytes name).length-a)→k (.tuple #[.slice none 0 0,i64 54]) w:=fun hbad=>
     fail 54 (by unfold AD.read;rw[if_neg (by simp[hl]),if_pos hbad])
   refine Zn (Xp (Zj (v:= .slice A (S.things (S.of name)).shown.length c') (isAgg36 _) hbT rfl ?_))
   by_cases a0:a<0
   · refine ZA     a0 ?_
     repeat (first|refine Yh ?_|refine YF ?_)
     refine Zx ?_
     repeat (first|refine Yh ?_|refine YF ?_)
     refine Zx ?_
     repeat (first|refine Yh ?_|refine YF ?_)
     exact Zx (Zk (beyond (.inl a0)))
   refine ZB a0 (Zl rfl (Zl rfl ?_))
   by_cases n0:n<0
   · refine ZA     n0 (Zr       ?_)
     repeat (first|refine Yh ?_|refine YF ?_)
     refine Zx ?_
     repeat (first|refine Yh ?_|refine YF ?_)
     exact Zx (Zk (beyond (.inr (.inl n0))))
   refine ZB n0 (Zr ?_)
   refine Zl rfl (Zl rfl (Zl rfl (Yn Ya (Zl rfl ?_))))
   by_cases a1:a>(S.things (S.of name)).shown.length
   · refine YQ     a1 (Zr       ?_)
     repeat (first|refine Yh ?_|refine YF ?_)
     exact Zx (Zk (beyond (.inr (.inr (.inl a1)))))
   refine YI a1 (Zr ?_)
   refine Zl rfl (Zl rfl (Zl rfl (Yn Ya (Zl rfl (Zl rfl (V8 (by omega) (Zl rfl ?_)))))))
   by_cases n1:n>(S.things (S.of name)).shown.length-a
   · exact YQ n1 (Zr (Zk (beyond (.inr (.inr (.inr n1))))))
   refine YI n1 (Zr (Zf ?_))
   have hreads:=ok.reads
   have hsm:=ok.small
   refine Zn (JH (Zj (v:=L.toldv) (isAgg56 _) h.disk rfl ?_))
   refine Z9 (w':=w) (v:= .agg #[.string name,i64 a,i64 n]) (by kernel_rfl) ?_
   refine zl3 h.told (by intro u hu;simp at hu;rcases hu with rfl|rfl|rfl<;>rfl) (by omega) (Nat.zero_le _) fun u2 v' w2 h2 f2 hb2=> ?_
   have hRD:∀ {b},Zv L.toldv=some b→b≠D:=by
     rintro b hb rfl
     obtain⟨c1,h1⟩:=Z0 h.told hb
     exact absurd (Zy h1 h.disk) (by decide)
   have hd2:=f2.get h.disk (fun hb=>hRD hb.symm rfl)
   refine Zn (JH (YA (sizeOf56 _) (ZW h2).1 (ZW h2).2 hd2 (by show 10<11;decide) ?_))
   have hd3:=Z6 hd2 10 v'
   have f3:Fr (fun b=>b=D) w2 (w2.setCell ⟨D,10,none⟩ v'):=Fr.setCell w2 ⟨D,10,none⟩ v'
   have z3:(w2.setCell ⟨D,10,none⟩ v').heap.size=w2.heap.size:=by simp[World.setCell]
   show px P _ (w2.setCell ⟨D,10,none⟩ v') _
   generalize w2.setCell ⟨D,10,none⟩ v'=w3 at *
   have f13:Fr (fun b=>b=D∨Zv L.toldv=some b) w w3:=(f2.mono fun b hb=> .inl (.inr hb.symm)).trans f3 fun b hb=> .inl (.inl hb)
   have hOwn:∀b,(b=D∨Zv L.toldv=some b)→jh L D b:=fun b hb=>hb.imp id .inr
   have hv'D:∀b,Zv v'=some b→b≠D:=by
     rintro b hb rfl
     obtain⟨c1,h1⟩:=Z0 h2 hb
     exact absurd (Zy h1 hd2) (by decide)
   have hv'lt:∀b,Zv v'=some b→b<w3.heap.size:=fun b hb=>by have:=(Zu h2 hb).2;omega
   have hz:=f13.size
   have hnI:∀b,I b→¬(b=D∨Zv L.toldv=some b):=fun b hb e=>h.apart b (h.own (hOwn b e)) hb
   have hx3:RNx w D O I w3 { S with reads:=S.reads++[⟨name,a,n⟩]} (fun b=>O b∨Zv v'=some b) I { L with toldv:=v'}:=by
     refine⟨h.plain (L':= { L with toldv:=v'}) f13 (fun b hb=> .inl (hOwn b hb)) hd3 rfl h.sub rfl rfl rfl (Nat.le_refl _) (h.now.fr f13 hnI) (h.bef.fr f13 hnI) (Z4 h.turns f13 ?_) ?_ (fun b=> .inl) (fun b=>id) (fun b hb=> .inl (h.oturn b hb)) (fun b hb=> .inr hb) ?_ ?_,f13.mono fun b hb=> .inl (h.own (hOwn b hb)),fun b=> .inl,fun b=>id,fun b hb=>hb.elim .inl fun hb=>(hb2 b hb).elim (fun e=> .inl (h.otold b e)) fun e=> .inr e.1,fun b=> .inl⟩
     · rintro b hb (rfl | e)
       · obtain⟨c1,h1⟩:=Z0 h.turns hb;exact absurd (Zy h1 h.disk) (by decide)
       · obtain ⟨c1,h1⟩ := Z0      h.turns hb
         obtain⟨c2,h3⟩:=Z0 h.told e
         exact absurd (Zy h1 h3) (by decide)
     · have h5 := Z4     h2 f3 hv'D
       simpa[Z3,List.flatMap_append] using h5
     · rintro b (hb | hb) hi
       · exact h.apart b hb hi
       · rcases hb2 b hb with e | e
         · exact h.apart b (h.otold b e) hi
         · have:=h.lt b (.inr hi);omega
     · rintro b ((hb | hb) | hb)
       · have:=h.lt b (.inl hb);omega
       · exact hv'lt b hb
       · have:=h.lt b (.inr hb);omega
   have hsh3:Z5 w3 (.slice A (S.things (S.of name)).shown.length c') (S.things (S.of name)).shown:=hsh.1.fr f13 fun b hb=>hnI b (hsh.2 b hb)
   refine Zp (by omega) (C0 Ya (Vm _) (by omega) (by omega) (by omega) ?_)
   have hcut:=Src.cut (show Src w3 (.slice A (S.things (S.of name)).shown.length c') 1 _ _ from hsh3) (l:=a.toNat) (h':=(a+n).toNat) (by omega) (by omega)
   have hN:(a+n).toNat-a.toNat=n.toNat:=by omega
   rw[hN,Nat.mul_one,Nat.mul_one] at hcut
   have hbs:(((u8s (S.things (S.of name)).shown).drop a.toNat).take n.toNat)=u8s (((S.bytes name).drop a.toNat).take n.toNat):=by
     unfold u8s;rw[el,List.map_take,List.map_drop]
   rw[hbs] at hcut
   have hll:(((S.bytes name).drop a.toNat).take n.toNat).length=n.toNat:=by rw[List.length_take,List.length_drop,el];omega
   have hsb:Z5 w3 (sliced A a.toNat (a+n).toNat c' 1) (((S.bytes name).drop a.toNat).take n.toNat):=by unfold Z5;rw[hll];exact hcut
   have hrd:S.read name a n=(0,((S.bytes name).drop a.toNat).take n.toNat,{ S with reads:=S.reads++[⟨name,a,n⟩]}):=by
     unfold AD.read;rw[if_neg (by simp[hl]),if_neg (by rw[el];omega)]
   refine YZ hsb (by rw[hll];omega) fun v4 w4 n4 f4=> ?_
   have hx4:RNx w D O I w4 { S with reads:=S.reads++[⟨name,a,n⟩]} (fun b=>O b∨Zv v'=some b) I { L with toldv:=v'}:=hx3.trans (RNx.quiet hx3.rep f4)
   have:=hk w4 _ _ _ v4 (by rw[hrd];exact hx4) (by rw[hrd];exact n4.sb) (fun b hb=>by
     have h5:=n4.blk b hb
     refine⟨by omega,h5.2,?_⟩
     rintro (ho|ho)
     · have:=h.lt b (.inl ho);omega
     · have:=hv'lt b ho;omega)
   rw[hrd] at this
   exact this
theorem Yu.app {B:Nat} {v lit:V} {fs:List (ByteArray×Bytes)} {n:ByteArray} {dv:V} {d:Bytes} {k:KV} {w w1:Y} (h:Yu w B v fs) (hf:Fr no w w1) (hB:B≤w.heap.size) (hl:fs.length≤1099511627776)
   (ho:w1.ownsRow 0 83 2 lit 1 [.string n,dv]) (hd:Z5 w1 dv d) (hdb:∀b,Zv dv=some b→B≤b∧b<w1.heap.size∧Zv v≠some b)
   (hk:∀v' w2,Yu w2 B v' (fs++[(n,d)])→Fr (fun b=>some b=Zv v) w1 w2→k v' w2):px P (bSem .append #[71,71] 71 #[v,lit]) w1 k:=by
 obtain⟨ps,h1,h2,h3⟩:=h
 have z:=hf.size
 obtain⟨A,cd,ed,_⟩:=hd.form
 refine yB (Z4 h2 hf fun _ _ h=>h) (Src.Zt ho) (by intro u hu;simp at hu;rcases hu with rfl|rfl;rfl;rw[ed];rfl) (by omega) (Nat.zero_le _) fun v' w2 h4 f4 hb4=>hk v' w2 ⟨ps++[(n,dv)],?_,?_,?_⟩ f4
 · have z4 := f4.size
   have hnew:∀b,Zv v'=some b→Zv v=some b∨w1.heap.size≤b:=by
     intro b hb
     rcases hb4 with e|e
     · exact .inl (e▸hb)
     · rw[e] at hb;injection hb with hb;exact .inr (by omega)
   refine All2.snoc (Xq h1 fun f p ⟨a,b,c⟩=>⟨a,(b.fr hf fun _ _ h=>h).fr f4 fun x hx e=>(c x hx).2.2 e.symm,fun x hx=>⟨(c x hx).1,by have:=(c x hx).2.1;omega,fun e=> ?_⟩⟩) ⟨rfl,hd.fr f4 fun x hx e=>(hdb x hx).2.2 e.symm,fun x hx=>⟨(hdb x hx).1,by have:=(hdb x hx).2.1;omega,fun e=> ?_⟩⟩
   · rcases hnew x e with e' | e'
     · exact(c x hx).2.2 e'
     · have:=(c x hx).2.1;omega
   · rcases hnew x e with e' | e'
     · exact(hdb x hx).2.2 e'
     · have:=(hdb x hx).2.1;omega
 · rw[List.length_append,List.flatMap_append];exact h4
 · intro b hb
   rcases hb4 with e|e
   · exact h3 b (e▸hb)
   · rw[e] at hb;injection hb with hb;omega
theorem Yu.none {B:Nat} {w:Y}:Yu w B (.slice Option.none 0 0) []:=⟨[],.nil,⟨rfl,.inl ⟨rfl,rfl⟩⟩,by rintro b hb;cases hb⟩
set_option maxHeartbeats 1000000 in
theorem GQ {c:Nat} (h:YC w D S O I L) (ok:S.Ok c) (hk:∀w' v,Yu w' w.heap.size v S.files→Fr no w w'→k v w'):pFn P 41 [ptr D] w k:=by
 have hlen:=ok.turns.len
 refine uQ _ _ _ ?_
 unfold Ww ptr
 refine YJ Ju (Zf ?_)
 have hfl:S.files.length=S.shown.length:=by unfold AD.files;simp
 refine Fw (m:=S.shown.length) k (fun m ρ w'=>∃(i:Nat),i+m=S.shown.length∧Fr no w w'∧ρ 0=ptr D∧ρ 4=i64 i∧Yu w' w.heap.size (ρ 3) (S.files.take i)) ?_ ⟨0,by omega,Fr.refl _ _,rfl,rfl,Yu.none⟩
 rintro m ρ w' ⟨i,him,hf,e0,e4,hv⟩
 rw[MY]
 unfold uO
 rw[e0,e4]
 have h':=h.fr hf fun b hb=>hb.elim
 refine Zn (Yx (Zj (v:=L.nowv) (isAgg59 _) h'.disk rfl (ZF X6 h'.now.1 ?_)))
 by_cases hi:i<S.shown.length
 ·refine ZA (by omega) (Zk ?_)
  have fd:Fr no w' w'.drew:=Fr.drew _ _
  have hreach:reach S S.shown[i].2:= .inl ⟨S.shown[i].1,List.getElem_mem hi⟩
  have hr:L.has S.shown[i].2:=h.sub _ hreach
  have hTok:=(ok.Yk _ hreach).ok.len
  obtain⟨sv,hv',ps,hbT,g1,g2,_⟩:=(h'.things _ hr).ex
  obtain⟨b,o,cc,ev,q0,q1⟩:=Jn h'.now.1 hi
  have hbl:b<w'.heap.size:=World.block_lt_of_cell? _ ⟨b,o+i*2,none⟩ q0
  have Uk:∀w2,Fr no w' w2→w2.heap[D]? =some (.cells (Y6 S L) 62 (0,0))∧w2.cell? ⟨b,o+i*2,none⟩=some (.string S.shown[i].1)∧w2.cell? ⟨b,o+i*2+1,none⟩=some (ptr (L.loc S.shown[i].2))∧w2.heap[L.loc S.shown[i].2]? =some (.cells #[sv,hv',L.trow S.shown[i].2] 156 (0,0)):=fun w2 f=>
   ⟨f.get h'.disk id,by rw[World.cell?_of_block (w:=w') (f.block b hbl id)];exact q0,by rw[World.cell?_of_block (w:=w') (f.block b hbl id)];exact q1,f.get hbT id⟩
  refine⟨fun w2=>w2.heap[D]? =some (.cells (Y6 S L) 62 (0,0))∧w2.cell? ⟨b,o+i*2,none⟩=some (.string S.shown[i].1)∧w2.cell? ⟨b,o+i*2+1,none⟩=some (ptr (L.loc S.shown[i].2))∧w2.heap[L.loc S.shown[i].2]? =some (.cells #[sv,hv',L.trow S.shown[i].2] 156 (0,0)),Uk _ fd,?_⟩
  refine Zi _ (fun w_ hS=>Zn ⟨rfl,rfl⟩) (Zi _ (fun w_ hS=>Yx ⟨rfl,rfl⟩) (Zi L.nowv (fun w_ hS=>Zj (isAgg59 _) hS.1 rfl ⟨rfl,rfl⟩) ?_))
  refine Zi (.pointer (some ⟨b,o+i*2,none⟩)) (fun w_ hS=>by rw[ev];exact Vu (i:=(i:Int)) X6 (UH _) (by omega) (by omega) ⟨by simp,rfl⟩) ?_
  refine Zi _ (fun w_ hS=>Us ⟨rfl,rfl⟩) (Zi _ (fun w_ hS=>Xl (isAgg9 _) hS.2.1 ⟨rfl,rfl⟩) ?_)
  refine Zi _ (fun w_ hS=>Zn ⟨rfl,rfl⟩) (Zi _ (fun w_ hS=>Yx ⟨rfl,rfl⟩) (Zi L.nowv (fun w_ hS=>Zj (isAgg59 _) hS.1 rfl ⟨rfl,rfl⟩) ?_))
  refine Zi (.pointer (some ⟨b,o+i*2,none⟩)) (fun w_ hS=>by rw[ev];exact Vu (i:=(i:Int)) X6 (UH _) (by omega) (by omega) ⟨by simp,rfl⟩) ?_
  refine Zi _ (fun w_ hS=>UY ⟨rfl,rfl⟩) (Zi _ (fun w_ hS=>Xl (isAgg142 _) hS.2.2.1 ⟨rfl,rfl⟩) ?_)
  refine Zi _ (fun w_ hS=>Zn ⟨rfl,rfl⟩) (Zi _ (fun w_ hS=>Xp ⟨rfl,rfl⟩) (Zi hv' (fun w_ hS=>Zj (isAgg36 _) hS.2.2.2 rfl ⟨rfl,rfl⟩) ?_))
  refine YZ (g2.1.fr fd fun _ _ h=>h) (by omega) fun v2 w2 n2 f2=> ?_
  have f02:Fr no w' w2:=fd.trans f2 fun b=> .inl
  have hn2:=n2.blk
  have zd:w'.drew.heap.size=w'.heap.size:=rfl
  have zf:=hf.size
  obtain⟨A2,c2,ev2,_⟩:=n2.sb.form
  subst ev2
  refine⟨Uk w2 f02,Zi (.agg #[.string S.shown[i].1,.slice A2 (S.things S.shown[i].2).shown.length c2]) (fun w_ hS=>Z9 (w':=w_) (by kernel_rfl) ⟨rfl,rfl⟩) ?_⟩
  refine Z9 (w':=w2.alloc (.cells #[.string S.shown[i].1,.slice A2 (S.things S.shown[i].2).shown.length c2] 83)) (v:= .slice (some ⟨w2.heap.size,0,none⟩) 1 1) (by kernel_rfl) ?_
  have f3:=Fr.alloc no w2 (.cells #[.string S.shown[i].1,.slice A2 (S.things S.shown[i].2).shown.length c2] 83)
  have ho3:=ZQ w2 0 83 2 #[.string S.shown[i].1,.slice A2 (S.things S.shown[i].2).shown.length c2] 1 (Nat.zero_le _) (by unfold maxLen;omega) rfl
  have z3:(w2.alloc (.cells #[.string S.shown[i].1,.slice A2 (S.things S.shown[i].2).shown.length c2] 83)).heap.size=w2.heap.size+1:=by simp
  generalize w2.alloc (.cells #[.string S.shown[i].1,.slice A2 (S.things S.shown[i].2).shown.length c2] 83)=w3 at *
  have f13:Fr no w' w3:=f02.trans f3 fun b=> .inl
  have hvb:∀b,Zv (ρ 3)=some b→w.heap.size≤b∧b<w'.heap.size:=by
   obtain⟨ps',a1,a2,a3⟩:=hv
   exact fun b hb=>⟨a3 b hb,(Zu a2 hb).2⟩
  refine⟨Uk w3 f13,?_⟩
  show px P (bSem .append _ _ #[ρ 3,_]) w3 _
  refine Yu.app (d:=(S.things S.shown[i].2).shown) hv f13 zf (by rw[List.length_take];omega) ho3 (n2.sb.fr f3 fun _ _ h=>h) (fun b hb=>⟨by have:=hn2 b hb;omega,by have:=hn2 b hb;omega,fun e=>by have:=hvb b e;have:=hn2 b hb;omega⟩) fun v4 w4 h4 f4=> ?_
  have f04:Fr no w w4:=(hf.trans f13 fun b=> .inl).trans f4 fun b hb=> .inr (hvb b hb.symm).1
  have f14:Fr (fun b=>some b=Zv (ρ 3)) w' w4:=(f13.mono fun b hb=>hb.elim).trans f4 fun b=> .inl
  have hkeep4:w4.heap[D]? =some (.cells (Y6 S L) 62 (0,0))∧w4.cell? ⟨b,o+i*2,none⟩=some (.string S.shown[i].1)∧w4.cell? ⟨b,o+i*2+1,none⟩=some (ptr (L.loc S.shown[i].2))∧w4.heap[L.loc S.shown[i].2]? =some (.cells #[sv,hv',L.trow S.shown[i].2] 156 (0,0)):=by
   have hold:∀x,x<w.heap.size→w4.heap[x]? =w'.heap[x]? :=fun x hx=>f14.block x (by omega) fun e=>by have:=(hvb x e.symm).1;omega
   have hDw:=h.lt D (.inl h.oD)
   have hTw:=h.lt _ (.inl (h.things _ hr).own)
   have hbw:b<w.heap.size:=by
    refine h.lt b (.inr (h.now.2 b ?_))
    rw[ev];rfl
   exact⟨by rw[hold D hDw];exact h'.disk,by rw[World.cell?_of_block (w:=w') (hold b hbw)];exact q0,by rw[World.cell?_of_block (w:=w') (hold b hbw)];exact q1,by rw[hold _ hTw];exact hbT⟩
  refine⟨hkeep4,Zp (by omega) ⟨m-1,by omega,i+1,by omega,f04,e0,?_,?_⟩⟩
  ·show i64 _=i64 _;simp
  ·have:S.files.take (i+1)=S.files.take i++[(S.shown[i].1,(S.things S.shown[i].2).shown)]:=by
    rw[List.take_succ_eq_append_getElem (by omega)]
    congr 1
    simp[AD.files]
   rw[this];exact h4
 ·refine ZB (by omega) (Zf ?_)
  rw[MZ]
  unfold uP
  rw[List.take_of_length_le (by omega)] at hv
  exact hk w' _ hv hf
set_option maxHeartbeats 1000000 in
theorem SE {c:Nat} (h:YC w D S O I L) (ok:S.Ok c) (hk:∀w' v,Yu w' w.heap.size v S.Yq→Fr no w w'→k v w'):pFn P 42 [ptr D] w k:=by
 have hlen:=ok.turns.len
 refine uW _ _ _ ?_
 unfold Wx ptr
 refine YJ Ju (Zf ?_)
 have hfl:S.Yq.length=S.safe.length:=by unfold AD.Yq;simp
 refine Fx (m:=S.safe.length) k (fun m ρ w'=>∃(i:Nat),i+m=S.safe.length∧Fr no w w'∧ρ 0=ptr D∧ρ 4=i64 i∧Yu w' w.heap.size (ρ 3) (S.Yq.take i)) ?_ ⟨0,by omega,Fr.refl _ _,rfl,rfl,Yu.none⟩
 rintro m ρ w' ⟨i,him,hf,e0,e4,hv⟩
 rw[Nb]
 unfold uU
 rw[e0,e4]
 have h':=h.fr hf fun b hb=>hb.elim
 refine Zn (Vg (Zj (v:=L.befv) (isAgg59 _) h'.disk rfl (ZF X6 h'.bef.1 ?_)))
 by_cases hi:i<S.safe.length
 ·refine ZA (by omega) (Zk ?_)
  have fd:Fr no w' w'.drew:=Fr.drew _ _
  have hreach:reach S S.safe[i].2:= .inr <| .inl ⟨S.safe[i].1,List.getElem_mem hi⟩
  have hr:L.has S.safe[i].2:=h.sub _ hreach
  have hTok:=(ok.Yk _ hreach).ok.len
  obtain⟨sv,hv',ps,hbT,g1,g2,_⟩:=(h'.things _ hr).ex
  obtain⟨b,o,cc,ev,q0,q1⟩:=Jn h'.bef.1 hi
  have hbl:b<w'.heap.size:=World.block_lt_of_cell? _ ⟨b,o+i*2,none⟩ q0
  have Uk:∀w2,Fr no w' w2→w2.heap[D]? =some (.cells (Y6 S L) 62 (0,0))∧w2.cell? ⟨b,o+i*2,none⟩=some (.string S.safe[i].1)∧w2.cell? ⟨b,o+i*2+1,none⟩=some (ptr (L.loc S.safe[i].2))∧w2.heap[L.loc S.safe[i].2]? =some (.cells #[sv,hv',L.trow S.safe[i].2] 156 (0,0)):=fun w2 f=>
   ⟨f.get h'.disk id,by rw[World.cell?_of_block (w:=w') (f.block b hbl id)];exact q0,by rw[World.cell?_of_block (w:=w') (f.block b hbl id)];exact q1,f.get hbT id⟩
  refine⟨fun w2=>w2.heap[D]? =some (.cells (Y6 S L) 62 (0,0))∧w2.cell? ⟨b,o+i*2,none⟩=some (.string S.safe[i].1)∧w2.cell? ⟨b,o+i*2+1,none⟩=some (ptr (L.loc S.safe[i].2))∧w2.heap[L.loc S.safe[i].2]? =some (.cells #[sv,hv',L.trow S.safe[i].2] 156 (0,0)),Uk _ fd,?_⟩
  refine Zi _ (fun w_ hS=>Zn ⟨rfl,rfl⟩) (Zi _ (fun w_ hS=>Vg ⟨rfl,rfl⟩) (Zi L.befv (fun w_ hS=>Zj (isAgg59 _) hS.1 rfl ⟨rfl,rfl⟩) ?_))
  refine Zi (.pointer (some ⟨b,o+i*2,none⟩)) (fun w_ hS=>by rw[ev];exact Vu (i:=(i:Int)) X6 (UH _) (by omega) (by omega) ⟨by simp,rfl⟩) ?_
  refine Zi _ (fun w_ hS=>Us ⟨rfl,rfl⟩) (Zi _ (fun w_ hS=>Xl (isAgg9 _) hS.2.1 ⟨rfl,rfl⟩) ?_)
  refine Zi _ (fun w_ hS=>Zn ⟨rfl,rfl⟩) (Zi _ (fun w_ hS=>Vg ⟨rfl,rfl⟩) (Zi L.befv (fun w_ hS=>Zj (isAgg59 _) hS.1 rfl ⟨rfl,rfl⟩) ?_))
  refine Zi (.pointer (some ⟨b,o+i*2,none⟩)) (fun w_ hS=>by rw[ev];exact Vu (i:=(i:Int)) X6 (UH _) (by omega) (by omega) ⟨by simp,rfl⟩) ?_
  refine Zi _ (fun w_ hS=>UY ⟨rfl,rfl⟩) (Zi _ (fun w_ hS=>Xl (isAgg142 _) hS.2.2.1 ⟨rfl,rfl⟩) ?_)
  refine Zi _ (fun w_ hS=>Zn ⟨rfl,rfl⟩) (Zi _ (fun w_ hS=>AF ⟨rfl,rfl⟩) (Zi sv (fun w_ hS=>Zj (isAgg36 _) hS.2.2.2 rfl ⟨rfl,rfl⟩) ?_))
  refine YZ (g1.1.fr fd fun _ _ h=>h) (by omega) fun v2 w2 n2 f2=> ?_
  have f02:Fr no w' w2:=fd.trans f2 fun b=> .inl
  have hn2:=n2.blk
  have zd:w'.drew.heap.size=w'.heap.size:=rfl
  have zf:=hf.size
  obtain⟨A2,c2,ev2,_⟩:=n2.sb.form
  subst ev2
  refine⟨Uk w2 f02,Zi (.agg #[.string S.safe[i].1,.slice A2 (S.things S.safe[i].2).safe.length c2]) (fun w_ hS=>Z9 (w':=w_) (by kernel_rfl) ⟨rfl,rfl⟩) ?_⟩
  refine Z9 (w':=w2.alloc (.cells #[.string S.safe[i].1,.slice A2 (S.things S.safe[i].2).safe.length c2] 83)) (v:= .slice (some ⟨w2.heap.size,0,none⟩) 1 1) (by kernel_rfl) ?_
  have f3:=Fr.alloc no w2 (.cells #[.string S.safe[i].1,.slice A2 (S.things S.safe[i].2).safe.length c2] 83)
  have ho3:=ZQ w2 0 83 2 #[.string S.safe[i].1,.slice A2 (S.things S.safe[i].2).safe.length c2] 1 (Nat.zero_le _) (by unfold maxLen;omega) rfl
  have z3:(w2.alloc (.cells #[.string S.safe[i].1,.slice A2 (S.things S.safe[i].2).safe.length c2] 83)).heap.size=w2.heap.size+1:=by simp
  generalize w2.alloc (.cells #[.string S.safe[i].1,.slice A2 (S.things S.safe[i].2).safe.length c2] 83)=w3 at *
  have f13:Fr no w' w3:=f02.trans f3 fun b=> .inl
  have hvb:∀b,Zv (ρ 3)=some b→w.heap.size≤b∧b<w'.heap.size:=by
   obtain⟨ps',a1,a2,a3⟩:=hv
   exact fun b hb=>⟨a3 b hb,(Zu a2 hb).2⟩
  refine⟨Uk w3 f13,?_⟩
  show px P (bSem .append _ _ #[ρ 3,_]) w3 _
  refine Yu.app (d:=(S.things S.safe[i].2).safe) hv f13 zf (by rw[List.length_take];omega) ho3 (n2.sb.fr f3 fun _ _ h=>h) (fun b hb=>⟨by have:=hn2 b hb;omega,by have:=hn2 b hb;omega,fun e=>by have:=hvb b e;have:=hn2 b hb;omega⟩) fun v4 w4 h4 f4=> ?_
  have f04:Fr no w w4:=(hf.trans f13 fun b=> .inl).trans f4 fun b hb=> .inr (hvb b hb.symm).1
  have f14:Fr (fun b=>some b=Zv (ρ 3)) w' w4:=(f13.mono fun b hb=>hb.elim).trans f4 fun b=> .inl
  have hkeep4:w4.heap[D]? =some (.cells (Y6 S L) 62 (0,0))∧w4.cell? ⟨b,o+i*2,none⟩=some (.string S.safe[i].1)∧w4.cell? ⟨b,o+i*2+1,none⟩=some (ptr (L.loc S.safe[i].2))∧w4.heap[L.loc S.safe[i].2]? =some (.cells #[sv,hv',L.trow S.safe[i].2] 156 (0,0)):=by
   have hold:∀x,x<w.heap.size→w4.heap[x]? =w'.heap[x]? :=fun x hx=>f14.block x (by omega) fun e=>by have:=(hvb x e.symm).1;omega
   have hDw:=h.lt D (.inl h.oD)
   have hTw:=h.lt _ (.inl (h.things _ hr).own)
   have hbw:b<w.heap.size:=by
    refine h.lt b (.inr (h.bef.2 b ?_))
    rw[ev];rfl
   exact⟨by rw[hold D hDw];exact h'.disk,by rw[World.cell?_of_block (w:=w') (hold b hbw)];exact q0,by rw[World.cell?_of_block (w:=w') (hold b hbw)];exact q1,by rw[hold _ hTw];exact hbT⟩
  refine⟨hkeep4,Zp (by omega) ⟨m-1,by omega,i+1,by omega,f04,e0,?_,?_⟩⟩
  ·show i64 _=i64 _;simp
  ·have:S.Yq.take (i+1)=S.Yq.take i++[(S.safe[i].1,(S.things S.safe[i].2).safe)]:=by
    rw[List.take_succ_eq_append_getElem (by omega)]
    congr 1
    simp[AD.Yq]
   rw[this];exact h4
 ·refine ZB (by omega) (Zf ?_)
  rw[Nc]
  unfold uV
  rw[List.take_of_length_le (by omega)] at hv
  exact hk w' _ hv hf
end
section
variable {w w0:Y} {D:Nat} {S S':AD} {O I:Nat → Prop} {L L':Uy} {k:KV}
theorem GR {c:Nat} (h:YC w D S O I L) (ok:S.Ok c) (p:ByteArray) (hk:∀w' v,Src w' v 1 (AD.Y2 S p).length ((AD.Y2 S p).map .string)→(∀b,Zv v=some b→w.heap.size≤b∧b<w'.heap.size)→Fr no w w'→k v w'):pFn P 44 [ptr D,.string p] w k:=by
 have hlen:=YY ok
 refine qb _ _ _ _ ?_
 unfold Wy
 refine Ct h ?_
 unfold AD.Y2 at hk
 cases ho:S.off with
 | true =>
   rw[ho] at hk
   exact Zk (hk w _ (Src.nil _ _) (by rintro b hb;cases hb) (Fr.refl _ _))
 | false =>
   rw[ho] at hk
   simp only[Bool.false_eq_true,if_false] at hk
   refine Zf ?_
   refine Fz (m:=S.shown.length) k (fun m ρ w'=>∃i:Nat,i+m=S.shown.length∧Fr no w w'∧ρ 0=ptr D∧ρ 1= .string p∧ρ 6=i64 i∧w'.ownsRow w.heap.size 9 1 (ρ 5) (((S.shown.take i).map (·.1)).filter (Vo p)).length ((((S.shown.take i).map (·.1)).filter (Vo p)).map .string)) ?_ ⟨0,by omega,Fr.refl _ _,rfl,rfl,rfl,⟨rfl,.inl ⟨rfl,rfl⟩⟩⟩
   rintro m ρ w' ⟨i,him,hf,e0,e1,e6,hn⟩
   rw[Nf]
   unfold uZ
   rw[e0,e1,e6]
   have h':=h.fr hf fun b hb=>hb.elim
   refine Zn (Yx (Zj (v:=L.nowv) (isAgg59 _) h'.disk rfl (ZF X6 h'.now.1 ?_)))
   by_cases hi:i<S.shown.length
   · have next:∀(ρ':Env) (w2:Y),Fr no w w2→ρ' 0=ptr D→ρ' 1= .string p→ρ' 6=i64 i→w2.ownsRow w.heap.size 9 1 (ρ' 5) (((S.shown.take (i+1)).map (·.1)).filter (Vo p)).length ((((S.shown.take (i+1)).map (·.1)).filter (Vo p)).map .string)→
         Wz k (fun ρ' w'=>∃m',m'<m∧∃i:Nat,i+m'=S.shown.length∧Fr no w w'∧ρ' 0=ptr D∧ρ' 1= .string p∧ρ' 6=i64 i∧w'.ownsRow w.heap.size 9 1 (ρ' 5) (((S.shown.take i).map (·.1)).filter (Vo p)).length ((((S.shown.take i).map (·.1)).filter (Vo p)).map .string)) ρ' w2:=by
       intro ρ' w2 g a0 a1 a6 hn2
       unfold Wz
       rw[a6]
       refine Zp (by omega) ⟨m-1,by omega,i+1,by omega,g,a0,a1,?_,hn2⟩
       show i64 _=i64 _;simp
     rw[List.take_succ_eq_append_getElem hi,List.map_append,List.filter_append] at next
     refine ZA (by omega) (Zk (Zn (Yx (Zj (v:=L.nowv) (isAgg59 _) h'.disk rfl (Cs h'.now.1 hi fun q1 q2=> ?_)))))
     refine VV underlying9 (VV underlying9 ?_)
     have hfl:(((S.shown.take i).map (·.1)).filter (Vo p)).length≤i:=Nat.le_trans (List.length_filter_le _ _) (by rw[List.length_map,List.length_take];omega)
     by_cases hsz:p.size≤S.shown[i].1.size
     · refine XQ     (by omega) (Zl     rfl (Zl     rfl (Zl     rfl (VV     underlying9 (Zl     rfl (Sz     (by omega) (by omega) (Zl     rfl (Zl     rfl (GK    (Zx       ?_)))))))))) 
       by_cases he:S.shown[i].1.extract 0 p.size=p
       · have hh : Vo   p S.shown[i].1 = true := by unfold Vo  ; rw [decide_eq_true hsz,decide_eq_true he]; rfl
         rw[show ((p.size:Int)).toNat=p.size from rfl,decide_eq_true he]
         refine Zk (zl6 hn rfl (by intro u hu;simp at hu;subst hu;rfl) (by omega) hf.size fun u3 v3 w3 h3 f3 hb3=> ?_)
         rw[JU]
         refine next _ _ (hf.trans f3 fun x hx=> .inr (Zu hn hx.symm).1) e0 e1 e6 ?_
         have e:([S.shown[i]].map (·.1)).filter (Vo p)=[S.shown[i].1]:=by simp[hh]
         rw[e,List.length_append,List.map_append];exact h3
       · have hh : Vo   p S.shown[i].1 = false := by unfold Vo  ; rw [decide_eq_true hsz,decide_eq_false he]; rfl
         rw[show ((p.size:Int)).toNat=p.size from rfl,decide_eq_false he]
         refine Zf ?_
         rw[JU]
         refine next _ _ hf e0 e1 e6 ?_
         have e:([S.shown[i]].map (·.1)).filter (Vo p)=[]:=by simp[hh]
         rw[e,List.append_nil];exact hn
     · have hh : Vo   p S.shown[i].1 = false := by unfold Vo  ; rw [decide_eq_false hsz]; rfl
       refine XR (by omega) ?_
       repeat (first|refine V9 ?_|refine YF ?_)
       refine Zr (Zf ?_)
       rw[JU]
       refine next _ _ hf e0 e1 e6 ?_
       have e:([S.shown[i]].map (·.1)).filter (Vo p)=[]:=by simp[hh]
       rw[e,List.append_nil];exact hn
   · refine ZB     (by omega) (Zf       ?_)
     rw[Ng]
     unfold qa
     rw[List.take_of_length_le (by omega)] at hn
     exact hk w' _ (Src.Zt hn) (fun b hb=>Zu hn hb) hf
theorem GS {c:Nat} (h:YC w D S O I L) (ok:S.Ok c) (hk:∀w' v,Src w' v 3 S.reads.length (S.reads.flatMap Z3)→(∀b,Zv v=some b→w.heap.size≤b∧b<w'.heap.size)→Fr no w w'→k v w'):pFn P 33 [ptr D] w k:=by
 have hr:=ok.reads
 have hs:=ok.small
 refine uJ _ _ _ ?_
 unfold Wu ptr
 refine YJ Ju (Zf (AL ?_))
 have f1:=Fr.alloc no w (.cells #[] 134)
 have ho:=ZQ w w.heap.size 134 3 #[] 0 (Nat.le_refl _) (by unfold maxLen;omega) rfl
 have z1:(w.alloc (.cells #[] 134)).heap.size=w.heap.size+1:=by simp
 show px P _ (w.alloc (.cells #[] 134)) _
 generalize w.alloc (.cells #[] 134)=w1 at *
 have h1:=h.fr f1 fun b hb=>hb.elim
 refine Zn (JH (Zj (v:=L.toldv) (isAgg56 _) h1.disk rfl ?_))
 refine yA ho (Src.Zt h1.told) (by intro u hu;obtain⟨s,_,hs⟩:=List.mem_flatMap.1 hu;simp[Z3] at hs;rcases hs with rfl|rfl|rfl<;>rfl) (by omega) (by omega) fun v' w2 h2 f2 hb2=> ?_
 rw[Nat.zero_add] at h2
 have h2':w2.ownsRow w.heap.size 134 3 v' S.reads.length (S.reads.flatMap Z3):=h2
 exact hk w2 v' (Src.Zt h2') (fun b hb=>Zu h2' hb) (f1.trans f2 fun b hb=> .inr (by injection hb with hb;have hb':b=w.heap.size:=hb;omega))
theorem GU {picks:List Int} {pv:V} (hp:Src w pv 1 picks.length (picks.map i64)) (j n:Nat) (hn:n≤4611686018427387904) (hj:j≤4611686018427387904) (hk:k (i64 (XE picks j n)) w):pFn P 135 [pv,i64 j,i64 n] w k:=by
 refine za _ _ _ _ _ ?_
 unfold Gu
 refine ZF Vy hp ?_
 by_cases h:j<picks.length
 ·refine XR (by omega) (Zf ?_)
  refine Qk (u:=i64 picks[j]) Vy (BR _) (isAgg3 _) hp h (by simp[h]) fun _=> ?_
  obtain⟨e1,e2,e3⟩:=LX picks[j] (n+1) (by omega)
  have hpk:XE picks j n=((picks[j]).emod (n+1)).toNat:=by unfold XE Qe;rw[List.getElem?_eq_getElem h]
  have he:=Int.emod_nonneg picks[j] (show (n+1:Int)≠0 by omega)
  have hlt:=Int.emod_lt_of_pos picks[j] (show (0:Int)<n+1 by omega)
  refine Zp (by omega) (Eb (by omega) ?_)
  by_cases hneg:(picks[j]).tmod (n+1)<0
  ·rw[if_pos hneg] at e1
   refine ZA hneg (Zk (Zp (by omega) (Zp (by omega) ?_)))
   rw[Bs]
   unfold Gw
   rw[hpk] at hk
   have:(picks[j]).tmod (n+1)+n+1=(((picks[j]).emod (n+1)).toNat:Int):=by
    rw[show (((picks[j]).emod (n+1)).toNat:Int)=picks[j].emod (n+1) from Int.toNat_of_nonneg he];omega
   show k (i64 ((picks[j]).tmod (n+1)+n+1)) w
   rw[this];exact hk
  ·rw[if_neg hneg] at e1
   refine ZB hneg (Zf ?_)
   rw[Bs]
   unfold Gw
   rw[hpk] at hk
   have:(picks[j]).tmod (n+1)=(((picks[j]).emod (n+1)).toNat:Int):=by
    rw[show (((picks[j]).emod (n+1)).toNat:Int)=picks[j].emod (n+1) from Int.toNat_of_nonneg he];exact e1
   show k (i64 ((picks[j]).tmod (n+1))) w
   rw[this];exact hk
 ·have hpk:XE picks j n=0:=by unfold XE;rw[List.getElem?_eq_none (by omega)]
  rw[hpk] at hk
  exact XQ (by omega) (Zk hk)
theorem jt {room:Int} (hb:¬(1≤room∧room≤1048576)→k (.tuple #[.pointer none,i64 1]) w)
   (hk:1≤room∧room≤1048576→∀w' L',YC w' w.heap.size (AD.new room) (fun b=>b=w.heap.size) no L'→Fr no w w'→w'.heap.size=w.heap.size+1→k (.tuple #[ptr w.heap.size,i64 0]) w'):pFn P 53 [i64 room] w k:=by
 refine qc _ _ _ ?_
 unfold W0
 by_cases h1:room<1
 · refine ZA     h1 ?_
   repeat (first|refine Yh ?_|refine YF ?_)
   exact Zx (Zk (hb (by omega)))
 refine ZB h1 (Zl rfl (Zl rfl ?_))
 by_cases h2:room>1048576
 · exact YQ h2 (Zr (Zk (hb (by omega))))
 refine YI h2 (Zr (Zf ?_))
 refine Z9 (w':=w) (v:= .agg #[.bool true,i64 room,.slice none 0 0,.slice none 0 0,.slice none 0 0,i64 0,i64 0,i64 0,i64 0,i64 0,.slice none 0 0]) (by kernel_rfl) (Yw ?_)
 have b1:=Z2 w (.cells #[.bool true,i64 room,.slice none 0 0,.slice none 0 0,.slice none 0 0,i64 0,i64 0,i64 0,i64 0,i64 0,.slice none 0 0] 62)
 have f1:=Fr.alloc no w (.cells #[.bool true,i64 room,.slice none 0 0,.slice none 0 0,.slice none 0 0,i64 0,i64 0,i64 0,i64 0,i64 0,.slice none 0 0] 62)
 have z1:(w.alloc (.cells #[.bool true,i64 room,.slice none 0 0,.slice none 0 0,.slice none 0 0,i64 0,i64 0,i64 0,i64 0,i64 0,.slice none 0 0] 62)).heap.size=w.heap.size+1:=by simp
 show k _ (w.alloc (.cells #[.bool true,i64 room,.slice none 0 0,.slice none 0 0,.slice none 0 0,i64 0,i64 0,i64 0,i64 0,i64 0,.slice none 0 0] 62))
 generalize w.alloc (.cells #[.bool true,i64 room,.slice none 0 0,.slice none 0 0,.slice none 0 0,i64 0,i64 0,i64 0,i64 0,i64 0,.slice none 0 0] 62)=w1 at *
 refine hk (by omega) w1 ⟨no,fun _=>0,fun _=> .slice none 0 0,.slice none 0 0,.slice none 0 0,.slice none 0 0,.slice none 0 0⟩ ⟨b1,⟨Src.nil _ _,(by rintro b hb;cases hb)⟩,⟨Src.nil _ _,(by rintro b hb;cases hb)⟩,⟨rfl,.inl ⟨rfl,rfl⟩⟩,⟨rfl,.inl ⟨rfl,rfl⟩⟩,?_,fun t h=>h.elim,fun t h=>h.elim,fun t u h=>h.elim,fun t u h=>h.elim,rfl,(by rintro b hb;cases hb),(by rintro b hb;cases hb),fun b _ h=>h,?_⟩ f1 z1
 · rintro t (⟨n,ht⟩|⟨n,ht⟩|⟨n,ht⟩)<;>cases ht
 · rintro b (rfl | hb)
   · omega
   · exact hb.elim
end
section
variable {w w0:Y} {D:Nat} {S S':AD} {O I:Nat → Prop} {L L':Uy} {k:KV}
abbrev ZZ:=List (Co×V)
def ZZ.plain (l:ZZ):List Co:=l.map (·.1)
end
open Go.Proofs.XRange Go.Proofs.XKeys
def Ug (w:Y) (B:Nat) (v:V) (fs:List (ByteArray×Bytes)):Prop:=
 ∃zs:ZZ,zs.plain=fs∧(∀p∈zs,w.ownsRow 0 5 1 p.2 p.1.2.length (u8s p.1.2)∧∀b,Zv p.2=some b→B≤b∧Zv v≠some b)∧w.ownsRow 0 83 2 v fs.length (zs.flatMap fun p=>[.string p.1.1,p.2])∧(∀b,Zv v=some b→B≤b)∧
  zs.Pairwise fun p q=>∀b,Zv p.2=some b→Zv q.2≠some b
theorem Ug.mono {w:Y} {B B':Nat} {v:V} {fs:List (ByteArray×Bytes)} (h:Ug w B v fs) (hb:B'≤B):Ug w B' v fs:=by
 obtain⟨zs,h1,h2,h3,h4,h5⟩:=h
 exact⟨zs,h1,fun p hp=>⟨(h2 p hp).1,fun b hb'=>⟨Nat.le_trans hb ((h2 p hp).2 b hb').1,((h2 p hp).2 b hb').2⟩⟩,h3,fun b hb'=>Nat.le_trans hb (h4 b hb'),h5⟩
section
variable {w:Y} {D:Nat} {S S':AD} {O I:Nat → Prop} {L:Lay} {k:KV}
theorem B8 {v:V} {bs:Bytes} (h:Z5 w v bs) (hb:bs.length≤1099511627776) (hk:∀w' v',w'.ownsRow w.heap.size 5 1 v' bs.length (u8s bs)→Fr no w w'→k v' w'):pFn P 89 [v] w k:=by
 refine Tv _ _ _ ?_
 unfold RC
 obtain⟨A,c,rfl,hc⟩:=h.form
 refine QP underlying36 ?_
 cases A with
 |none=>
  have:=Z5.none h rfl
  subst this
  exact Zk (hk w _ ⟨rfl,.inl ⟨rfl,rfl⟩⟩ (Fr.refl _ _))
 |some a=>
  refine Zf (Jh ?_)
  have f1:=Fr.alloc no w (.cells #[] 5)
  have ho:=ZQ w w.heap.size 5 1 #[] 0 (Nat.le_refl _) (by unfold maxLen;omega) rfl
  have z1:(w.alloc (.cells #[] 5)).heap.size=w.heap.size+1:=by simp
  show px P _ (w.alloc (.cells #[] 5)) _
  generalize w.alloc (.cells #[] 5)=w1 at *
  refine Te ho (h.fr f1 fun _ _=>id) Vl (by omega) (by omega) fun v' w2 h2 f2 hb2=> ?_
  rw[Nat.zero_add] at h2
  exact hk w2 v' h2 ((f1.or f2).mono (by
   rintro b (hb'|hb')
   ·exact .inl hb'
   ·injection hb' with hb';have hb'':b=w.heap.size:=hb';exact .inr (by omega)))
theorem NX (sk:Xr) {c:Nat} (h:Yi w D S O I L) (ok:S.Ok c) (hs:∀p∈S.shown,p.1.size≤maxLen)
   (hk:∀w' v,Ug w' w.heap.size v (S.files)→Fr no w w'→k v w'):pFn P 28 [ptr D] w k:=by
 refine Tf _ _ _ ?_
 unfold PR
 refine Vz h.disk ok.room.1 (Zf ?_)
 refine Zn (XF (Zj (v:= .map (some L.sh)) (isAgg54 _) h.disk rfl ?_))
 have hlen:S.shown.length≤256:=ok.turns.len.1
 refine VH sk h.sh h.shp ok.shown hs (by omega) fun w1 nv hnv hnb f1=> ?_
 obtain⟨A,cap,hne,hcap⟩:∃A cap,nv= .slice A S.shown.length cap∧S.shown.length≤cap:=by
   obtain⟨A,cap,e,hc,_⟩:=Src.Zt hnv;exact⟨A,cap,e,hc⟩
 subst hne
 have hsrc:=Src.Zt hnv
 refine Yn Xf ?_
 refine BT (m:=S.shown.length) k (fun m ρ w'=>∃(i:Nat),i+m=S.shown.length∧Fr no w1 w'∧ρ 0=ptr D∧ρ 12= .slice A S.shown.length cap∧ρ 13=i64 S.shown.length∧ρ 14=i64 i∧Ug w' w1.heap.size (ρ 3) ((S.files).take i)) ?_
   ⟨0,by omega,Fr.refl _ _,rfl,rfl,rfl,rfl,⟨[],rfl,(by simp),⟨rfl,.inl ⟨rfl,rfl⟩⟩,(by rintro b hb;cases hb),.nil⟩⟩
 rintro m ρ w' ⟨i,him,hf,h0,h12,h13,h14,hfv⟩
 rw[D2]
 unfold yP
 rw[h0,h12,h13,h14]
 have f0':Fr no w w':=(f1.or hf).mono fun b hb=>hb.elim (fun h=>h.elim) fun h=>h.elim
 have hR:Yi w' D S O I L:=h.fr f0' fun b hb=>hb.elim
 have hspl:(S.files).length=S.shown.length:=by simp[AD.files,AD.Yq]
 by_cases hi:i<S.shown.length
 · refine ZA     (by omega) (Zk      ?_)
   refine Xn Xf (Ue _) (hsrc.fr (by omega) hf fun _ _ h=>h) (by omega) (by omega) fun bb o hcell=> ?_
   generalize hp:S.shown[i]=p
   have hpm:p∈S.shown:=hp▸List.getElem_mem hi
   refine Xl (v:= .string p.1) (isAgg9 _) (by have:=hcell 0 (.string p.1) (by omega) (by simp[Xe,hi,hp]);simpa using this) ?_
   refine Zn (XF (Zj (v:= .map (some L.sh)) (isAgg54 _) hR.disk rfl ?_))
   refine Mi hR.sh p.1 (zeroValue117 _) ?_
   have hg:ZV (ZD L L.lsh) p.1=some (ptr (L.loc p.2)):=by
     rw[Xg,YU h.shp h.vq,Vq ok.shown.nodup hpm];rfl
   rw[hg]
   have hr:reach S p.2:= .inl ⟨p.1,hpm⟩
   obtain⟨sv,hv,cs,hbT,h1,h2,_⟩:=(hR.things _ hr).ex
   refine Zn (YG (Zj (v:=hv) (isAgg36 _) hbT rfl ?_))
   have hTok:=(ok.Yk _ hr).ok.len
   refine B8 (h2).1 (by omega) fun w2 v2 ho2 f2=> ?_
   have hv2:Z5 w2 v2 _:=Src.Zt ho2
   have hb2:=fun b (hb:Zv v2=some b)=>Zu ho2 hb
   obtain⟨A2,c2,e2,hc2⟩:=hv2.form
   refine Z9 (w':=w2) (v:= .agg #[.string p.1,v2]) (by subst e2;kernel_rfl) ?_
   refine Z9 (w':=w2.alloc (.cells #[.string p.1,v2] 83)) (v:= .slice (some ⟨w2.heap.size,0,none⟩) 1 1) (by subst e2;kernel_rfl) ?_
   have f3:=Fr.alloc no w2 (.cells #[.string p.1,v2] 83)
   have hl:=ZQ w2 0 83 2 #[.string p.1,v2] 1 (Nat.zero_le _) (by unfold maxLen;omega) rfl
   have z3:(w2.alloc (.cells #[.string p.1,v2] 83)).heap.size=w2.heap.size+1:=by simp
   show px P _ (w2.alloc (.cells #[.string p.1,v2] 83)) _
   generalize w2.alloc (.cells #[.string p.1,v2] 83)=w3 at *
   obtain⟨ps,hpl,hps,hrow,hvb,hpw⟩:=hfv
   have f23:Fr no w' w3:=(f2.or f3).mono fun b hb=>hb.elim (fun h=>h.elim) fun h=>h.elim
   have hfl:((S.files).take i).length=i:=by rw[List.length_take];omega
   refine yB (Z4 hrow f23 fun _ _ h=>h) (Src.Zt hl) (by intro u hu;simp at hu;rcases hu with rfl|rfl;rfl;rw[e2];rfl) (by rw[hfl];omega) (Nat.zero_le _) fun v4 w4 h4 f4 hb4=> ?_
   refine Zp (by omega) ?_
   have hz2:=f2.size
   have hz3:=f0'.size
   have hz4:=f4.size
   have hzf:=hf.size
   have hvb':∀b,Zv (ρ 3)=some b→w1.heap.size≤b:=hvb
   have f04:Fr no w1 w4:=((hf.or f23).or f4).mono (by
     rintro b ((hb|hb)|hb)
     · exact hb.elim
     · exact hb.elim
     · exact .inr (hvb' b hb.symm))
   have hvlt:∀b,Zv (ρ 3)=some b→b<w'.heap.size:=fun b hb=>(Zu hrow hb).2
   have hv4:∀b,Zv v4=some b→Zv (ρ 3)=some b∨b=w3.heap.size:=by
     intro b hb
     rcases hb4 with e|e
     · left;rw[←e];exact hb
     · right;rw[e] at hb;injection hb with hb;exact hb.symm
   have espec:(S.files).take (i+1)=(S.files).take i++[(p.1,(S.things p.2).shown)]:=by
     rw[List.take_succ_eq_append_getElem (by omega)]
     congr 2
     subst hp
     simp[AD.files,AD.Yq]
   refine⟨m-1,by omega,i+1,by omega,f04,h0,h12,h13,?_,?_⟩
   · show i64 _=i64 _;simp
   show Ug w4 w1.heap.size v4 _
   rw[espec]
   refine⟨ps++[((p.1,(S.things p.2).shown),v2)],?_,?_,?_,?_,?_⟩
   · unfold ZZ.plain at *;rw[List.map_append,hpl];rfl
   · intro q hq
     rcases List.mem_append.1 hq with hq|hq
     · obtain ⟨q1,q2⟩ := hps q hq
       have hlt:∀b,Zv q.2=some b→b<w'.heap.size:=fun b hb=>(Zu q1 hb).2
       refine⟨Z4 (Z4 q1 f23 fun _ _ h=>h) f4 fun b hb e'=>(q2 b hb).2 e'.symm,fun b hb=>⟨(q2 b hb).1,fun e'=> ?_⟩⟩
       rcases hv4 b e' with h'|h'
       · exact(q2 b hb).2 h'
       · have:=hlt b hb;omega
     · rw [List.mem_singleton.1 hq]
       refine⟨Z4 (Z4 (Xo ho2 (Nat.zero_le _)) f3 fun _ _ h=>h) f4 fun b hb e'=> ?_,fun b hb=> ?_⟩
       · have:=hb2 b hb;have:=hvlt b e'.symm;omega
       · have h5 := hb2 b hb
         refine⟨by omega,fun e'=> ?_⟩
         rcases hv4 b e' with h'|h'
         · have:=hvlt b h';omega
         · omega
   · have e1 : ((S.files).take i ++ [(p.1,(S.things p.2).shown)]).length = ((S.files).take i).length + 1 := by simp
     have e2:(ps++[((p.1,(S.things p.2).shown),v2)]).flatMap (fun p=>[Value.string p.1.1,p.2])=(ps.flatMap fun p=>[Value.string p.1.1,p.2])++ #[Value.string p.1,v2].toList:=by simp
     rw[e1,e2];exact h4
   · intro b hb
     rcases hv4 b hb with h'|h'
     · exact hvb' b h'
     · omega
   · rw [List.pairwise_append]
     refine⟨hpw,List.pairwise_singleton _ _,fun q hq r hr b hb hb'=> ?_⟩
     rw[List.mem_singleton.1 hr] at hb'
     have h1:=(Zu (hps q hq).1 hb).2
     have h2:=(hb2 b hb').1
     omega
 · refine ZB     (by omega) (Zf       ?_)
   rw[D3]
   unfold yQ
   have e:(S.files).take i=S.files:=List.take_of_length_le (by omega)
   rw[e] at hfv
   exact hk w' (ρ 3) (hfv.mono f1.size) f0'
theorem zi (sk:Xr) {c:Nat} (h:Yi w D S O I L) (ok:S.Ok c) (hs:∀p∈S.safe,p.1.size≤maxLen)
   (hk:∀w' v,Ug w' w.heap.size v (S.Yq)→Fr no w w'→k v w'):pFn P 29 [ptr D] w k:=by
 refine Tg _ _ _ ?_
 unfold PT
 refine Vz h.disk ok.room.1 (Zf ?_)
 refine Zn (Ui (Zj (v:= .map (some L.sf)) (isAgg54 _) h.disk rfl ?_))
 have hlen:S.safe.length≤256:=ok.turns.len.2
 refine VH sk h.sf h.sfp ok.safe hs (by omega) fun w1 nv hnv hnb f1=> ?_
 obtain⟨A,cap,hne,hcap⟩:∃A cap,nv= .slice A S.safe.length cap∧S.safe.length≤cap:=by
   obtain⟨A,cap,e,hc,_⟩:=Src.Zt hnv;exact⟨A,cap,e,hc⟩
 subst hne
 have hsrc:=Src.Zt hnv
 refine Yn Xf ?_
 refine BU (m:=S.safe.length) k (fun m ρ w'=>∃(i:Nat),i+m=S.safe.length∧Fr no w1 w'∧ρ 0=ptr D∧ρ 12= .slice A S.safe.length cap∧ρ 13=i64 S.safe.length∧ρ 14=i64 i∧Ug w' w1.heap.size (ρ 3) ((S.Yq).take i)) ?_
   ⟨0,by omega,Fr.refl _ _,rfl,rfl,rfl,rfl,⟨[],rfl,(by simp),⟨rfl,.inl ⟨rfl,rfl⟩⟩,(by rintro b hb;cases hb),.nil⟩⟩
 rintro m ρ w' ⟨i,him,hf,h0,h12,h13,h14,hfv⟩
 rw[D4]
 unfold yR
 rw[h0,h12,h13,h14]
 have f0':Fr no w w':=(f1.or hf).mono fun b hb=>hb.elim (fun h=>h.elim) fun h=>h.elim
 have hR:Yi w' D S O I L:=h.fr f0' fun b hb=>hb.elim
 have hspl:(S.Yq).length=S.safe.length:=by simp[AD.files,AD.Yq]
 by_cases hi:i<S.safe.length
 · refine ZA     (by omega) (Zk      ?_)
   refine Xn Xf (Ue _) (hsrc.fr (by omega) hf fun _ _ h=>h) (by omega) (by omega) fun bb o hcell=> ?_
   generalize hp:S.safe[i]=p
   have hpm:p∈S.safe:=hp▸List.getElem_mem hi
   refine Xl (v:= .string p.1) (isAgg9 _) (by have:=hcell 0 (.string p.1) (by omega) (by simp[Xe,hi,hp]);simpa using this) ?_
   refine Zn (Ui (Zj (v:= .map (some L.sf)) (isAgg54 _) hR.disk rfl ?_))
   refine Mi hR.sf p.1 (zeroValue117 _) ?_
   have hg:ZV (ZD L L.lsf) p.1=some (ptr (L.loc p.2)):=by
     rw[Xg,YU h.sfp h.zcr,Vq ok.safe.nodup hpm];rfl
   rw[hg]
   have hr:reach S p.2:= .inr (.inl ⟨p.1,hpm⟩)
   obtain⟨sv,hv,cs,hbT,h1,h2,_⟩:=(hR.things _ hr).ex
   refine Zn (QY (Zj (v:=sv) (isAgg36 _) hbT rfl ?_))
   have hTok:=(ok.Yk _ hr).ok.len
   refine B8 (h1).1 (by omega) fun w2 v2 ho2 f2=> ?_
   have hv2:Z5 w2 v2 _:=Src.Zt ho2
   have hb2:=fun b (hb:Zv v2=some b)=>Zu ho2 hb
   obtain⟨A2,c2,e2,hc2⟩:=hv2.form
   refine Z9 (w':=w2) (v:= .agg #[.string p.1,v2]) (by subst e2;kernel_rfl) ?_
   refine Z9 (w':=w2.alloc (.cells #[.string p.1,v2] 83)) (v:= .slice (some ⟨w2.heap.size,0,none⟩) 1 1) (by subst e2;kernel_rfl) ?_
   have f3:=Fr.alloc no w2 (.cells #[.string p.1,v2] 83)
   have hl:=ZQ w2 0 83 2 #[.string p.1,v2] 1 (Nat.zero_le _) (by unfold maxLen;omega) rfl
   have z3:(w2.alloc (.cells #[.string p.1,v2] 83)).heap.size=w2.heap.size+1:=by simp
   show px P _ (w2.alloc (.cells #[.string p.1,v2] 83)) _
   generalize w2.alloc (.cells #[.string p.1,v2] 83)=w3 at *
   obtain⟨ps,hpl,hps,hrow,hvb,hpw⟩:=hfv
   have f23:Fr no w' w3:=(f2.or f3).mono fun b hb=>hb.elim (fun h=>h.elim) fun h=>h.elim
   have hfl:((S.Yq).take i).length=i:=by rw[List.length_take];omega
   refine yB (Z4 hrow f23 fun _ _ h=>h) (Src.Zt hl) (by intro u hu;simp at hu;rcases hu with rfl|rfl;rfl;rw[e2];rfl) (by rw[hfl];omega) (Nat.zero_le _) fun v4 w4 h4 f4 hb4=> ?_
   refine Zp (by omega) ?_
   have hz2:=f2.size
   have hz3:=f0'.size
   have hz4:=f4.size
   have hzf:=hf.size
   have hvb':∀b,Zv (ρ 3)=some b→w1.heap.size≤b:=hvb
   have f04:Fr no w1 w4:=((hf.or f23).or f4).mono (by
     rintro b ((hb|hb)|hb)
     · exact hb.elim
     · exact hb.elim
     · exact .inr (hvb' b hb.symm))
   have hvlt:∀b,Zv (ρ 3)=some b→b<w'.heap.size:=fun b hb=>(Zu hrow hb).2
   have hv4:∀b,Zv v4=some b→Zv (ρ 3)=some b∨b=w3.heap.size:=by
     intro b hb
     rcases hb4 with e|e
     · left;rw[←e];exact hb
     · right;rw[e] at hb;injection hb with hb;exact hb.symm
   have espec:(S.Yq).take (i+1)=(S.Yq).take i++[(p.1,(S.things p.2).safe)]:=by
     rw[List.take_succ_eq_append_getElem (by omega)]
     congr 2
     subst hp
     simp[AD.files,AD.Yq]
   refine⟨m-1,by omega,i+1,by omega,f04,h0,h12,h13,?_,?_⟩
   · show i64 _=i64 _;simp
   show Ug w4 w1.heap.size v4 _
   rw[espec]
   refine⟨ps++[((p.1,(S.things p.2).safe),v2)],?_,?_,?_,?_,?_⟩
   · unfold ZZ.plain at *;rw[List.map_append,hpl];rfl
   · intro q hq
     rcases List.mem_append.1 hq with hq|hq
     · obtain ⟨q1,q2⟩ := hps q hq
       have hlt:∀b,Zv q.2=some b→b<w'.heap.size:=fun b hb=>(Zu q1 hb).2
       refine⟨Z4 (Z4 q1 f23 fun _ _ h=>h) f4 fun b hb e'=>(q2 b hb).2 e'.symm,fun b hb=>⟨(q2 b hb).1,fun e'=> ?_⟩⟩
       rcases hv4 b e' with h'|h'
       · exact(q2 b hb).2 h'
       · have:=hlt b hb;omega
     · rw [List.mem_singleton.1 hq]
       refine⟨Z4 (Z4 (Xo ho2 (Nat.zero_le _)) f3 fun _ _ h=>h) f4 fun b hb e'=> ?_,fun b hb=> ?_⟩
       · have:=hb2 b hb;have:=hvlt b e'.symm;omega
       · have h5 := hb2 b hb
         refine⟨by omega,fun e'=> ?_⟩
         rcases hv4 b e' with h'|h'
         · have:=hvlt b h';omega
         · omega
   · have e1 : ((S.Yq   ).take i ++ [(p.1,(S.things p.2).safe)]).length = ((S.Yq   ).take i).length + 1 := by simp
     have e2:(ps++[((p.1,(S.things p.2).safe),v2)]).flatMap (fun p=>[Value.string p.1.1,p.2])=(ps.flatMap fun p=>[Value.string p.1.1,p.2])++ #[Value.string p.1,v2].toList:=by simp
     rw[e1,e2];exact h4
   · intro b hb
     rcases hv4 b hb with h'|h'
     · exact hvb' b h'
     · omega
   · rw [List.pairwise_append]
     refine⟨hpw,List.pairwise_singleton _ _,fun q hq r hr b hb hb'=> ?_⟩
     rw[List.mem_singleton.1 hr] at hb'
     have h1:=(Zu (hps q hq).1 hb).2
     have h2:=(hb2 b hb').1
     omega
 · refine ZB     (by omega) (Zf       ?_)
   rw[D5]
   unfold yS
   have e:(S.Yq).take i=S.Yq:=List.take_of_length_le (by omega)
   rw[e] at hfv
   exact hk w' (ρ 3) (hfv.mono f1.size) f0'
end
end Go.Proofs.YtcdcojpfealppaaGreat
