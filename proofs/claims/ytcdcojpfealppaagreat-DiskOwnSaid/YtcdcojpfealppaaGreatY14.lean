/- Put together by a program (wip/tools/shake.py): Read,Known,Shelf,Two,Do,Long,XRow. -/
import Derived.Test.YtcdcojpfealppaaGreatY10
import Derived.Test.YtcdcojpfealppaaGreatY11
import Derived.Test.YtcdcojpfealppaaGreatY13
import Derived.Laws.IdiomStrings
import Derived.Lib.SlBytesConst
import Derived.Test.YtcdcojpfealppaaGreatY12
import Derived.Shelf.SlIter.Nil
import Derived.Shelf.SortM.Plain
import Derived.Shelf.SortM.SortNone
import Derived.Ground.GgzProg
import Derived.Ground.SlgmProg
import Derived.Test.YtcdcojpfealppaaGreatProg
import Derived.Test.YtcdcojpfealppaaGreatY9
import Derived.Test.YtcdcojpfealppaaGreatY3
import Derived.Laws.StructEq
import Derived.ProofKit
import Derived.SliceStrings
import Derived.Deep.SlicePairs
set_option linter.unusedVariables false
set_option linter.unusedSimpArgs false
set_option maxRecDepth 100000
open Go.Proofs.Tryz renaming prog → Z
open Go renaming World → Y, Value → V
namespace Go.Proofs.YtcdcojpfealppaaGreat
open Go Go.Proofs Go.RowKit Go.Proofs.XRed Go.Proofs.XHeap Go.Proofs.XMaps Go.Proofs.XSlices Go.Proofs.XDisk Go.Proofs.XCalls Go.Proofs.XRange Go.Proofs.XKeys Tryz
section
variable {w w0:Y} {D:Nat} {S S':AD} {O I:Nat → Prop} {L:Lay} {k:KV}
theorem Sy {c:Nat} (h:Yi w D S O I L) (ok:S.Ok c) (name:ByteArray) (hs:name.size≤9223372036854775807) (a n:Int) (hn:-9223372036854775808≤a∧a≤9223372036854775807)
   (hk:∀w' O' I' L' v,Nx w D O I w' (S.read name a n).2.2 O' I' L'→Z5 w' v (S.read name a n).2.1→(∀b,Zv v=some b→w.heap.size≤b∧¬O' b)→k (.tuple #[v,i64 (S.read name a n).1]) w'):pFn P 32 [ptr D,.string name,i64 a,i64 n] w k:=by
 refine Tj _ _ _ _ _ _ ?_
 unfold PZ
 refine UI h ok.room.1 name hs (ZG rfl (ZG rfl ?_))
 have fail:∀r,S.read name a n=(r,[],S)→k (.tuple #[.slice none 0 0,i64 r]) w:=by
   intro r ec
   have:=hk w O I L (.slice none 0 0) (by rw[ec];exact Nx.refl h) (by rw[ec];exact Z5.nil _) (by rintro b hb;cases hb)
   rw[ec] at this;exact this
 by_cases hl:S.look name=0
 · have hg:ZV S.shown name=some (S.of name):=by
     rcases XY S name with h|h|h|h
     · rw[h] at hl;cases hl
     · rw[h] at hl;cases hl
     · rw[h] at hl;cases hl
     · exact h.2
   have hr:reach S (S.of name):= .inl ⟨name,ZU hg⟩
   rw[if_pos hl,hl]
   have hlen:=(ok.Yk _ hr).ok.len.1
   obtain⟨sv,hv,cs,hbT,_,hsh,_⟩:=(h.things _ hr).ex
   obtain⟨A,c',rfl,hc'⟩:=hsh.1.form
   have el:S.bytes name=(S.things (S.of name)).shown:=rfl
   have beyond:(a<0∨n<0∨a>(S.bytes name).length∨n>(S.bytes name).length-a)→k (.tuple #[.slice none 0 0,i64 54]) w:=fun hbad=>
     fail 54 (by unfold AD.read;rw[if_neg (by simp[hl]),if_pos hbad])
   refine ZY rfl (Zf ?_)
   by_cases a0:a<0
   · refine ZA     a0 ?_
     repeat (first|refine Yh ?_|refine YF ?_)
     refine Zx ?_
     repeat (first|refine Yh ?_|refine YF ?_)
     refine Zx ?_
     repeat (first|refine Yh ?_|refine YF ?_)
     exact Zx (Zk (beyond (.inl a0)))
   refine ZB a0 (Zl rfl (Zl rfl ?_))
   by_cases n0:n<0
   · refine ZA     n0 (Zr       ?_)
     repeat (first|refine Yh ?_|refine YF ?_)
     refine Zx ?_
     repeat (first|refine Yh ?_|refine YF ?_)
     exact Zx (Zk (beyond (.inr (.inl n0))))
   refine ZB n0 (Zr ?_)
   refine Zl rfl (Zl rfl (Zl rfl (Zn (Zl rfl (YG (Zl rfl (Zj (v:= .slice A (S.things (S.of name)).shown.length c') (isAgg36 _) hbT rfl (Zl rfl (Yn Ya (Zl rfl ?_))))))))))
   by_cases a1:a>(S.things (S.of name)).shown.length
   · refine YQ     a1 (Zr       ?_)
     repeat (first|refine Yh ?_|refine YF ?_)
     exact Zx (Zk (beyond (.inr (.inr (.inl a1)))))
   refine YI a1 (Zr ?_)
   refine Zl rfl (Zl rfl (Zl rfl (Zn (Zl rfl (YG (Zl rfl (Zj (v:= .slice A (S.things (S.of name)).shown.length c') (isAgg36 _) hbT rfl (Zl rfl (Yn Ya (Zl rfl (Zl rfl (V8 (by omega) (Zl rfl ?_)))))))))))))
   by_cases n1:n>(S.things (S.of name)).shown.length-a
   · exact YQ n1 (Zr (Zk (beyond (.inr (.inr (.inr n1))))))
   refine YI n1 (Zr (Zf ?_))
   have hreads:=ok.reads
   have hsm:=ok.small
   refine Zn (UC (Zj (v:=L.readsv) (isAgg56 _) h.disk rfl ?_))
   refine Z9 (w':=w) (v:= .agg #[.string name,i64 a,i64 n]) (by kernel_rfl) ?_
   refine Z9 (w':=w.alloc (.cells #[.string name,i64 a,i64 n] 134)) (v:= .slice (some ⟨w.heap.size,0,none⟩) 1 1) (by kernel_rfl) ?_
   have f1:=Fr.alloc no w (.cells #[.string name,i64 a,i64 n] 134)
   have hlit:=ZQ w 0 134 3 #[.string name,i64 a,i64 n] 1 (Nat.zero_le _) (by unfold maxLen;omega) rfl
   have z1:(w.alloc (.cells #[.string name,i64 a,i64 n] 134)).heap.size=w.heap.size+1:=by simp
   show px P _ (w.alloc (.cells #[.string name,i64 a,i64 n] 134)) _
   generalize w.alloc (.cells #[.string name,i64 a,i64 n] 134)=w1 at *
   refine yA (Z4 h.reads f1 fun _ _ h=>h) (Src.Zt hlit) (by intro u hu;simp at hu;rcases hu with rfl|rfl|rfl<;>rfl) (by omega) (Nat.zero_le _) fun v' w2 h2 f2 hb2=> ?_
   have hRD:∀ {b},Zv L.readsv=some b→b≠D:=by
     rintro b hb rfl
     obtain⟨c1,h1⟩:=Z0 h.reads hb
     exact absurd (Zy h1 h.disk) (by decide)
   have hd2:=f2.get (f1.get h.disk id) (fun hb=>hRD hb.symm rfl)
   refine Zn (UC (YA (sizeOf56 _) (ZW h2).1 (ZW h2).2 hd2 (by show 10<11;decide) ?_))
   have hd3:=Z6 hd2 10 v'
   have f3:Fr (fun b=>b=D) w2 (w2.setCell ⟨D,10,none⟩ v'):=Fr.setCell w2 ⟨D,10,none⟩ v'
   have z3:(w2.setCell ⟨D,10,none⟩ v').heap.size=w2.heap.size:=by simp[World.setCell]
   show px P _ (w2.setCell ⟨D,10,none⟩ v') _
   generalize w2.setCell ⟨D,10,none⟩ v'=w3 at *
   have f13:Fr (fun b=>b=D∨Zv L.readsv=some b) w w3:=((f1.or f2).or f3).mono (by
     rintro b ((hb|hb)|hb)
     · exact hb.elim
     · exact .inl (.inr hb.symm)
     · exact .inl (.inl hb))
   have hOwn:∀b,(b=D∨Zv L.readsv=some b)→Own L D b:=by
     rintro b (hb|hb)
     · exact .inl hb
     · exact .inr (.inr (.inr (.inr hb)))
   have hTf:∀ {T rb x},VM w O I T rb x→VM w3 O I T rb x:=fun ht=>ht.stay h f13 fun b hb=> .inl (hOwn b hb)
   have hnew:∀b,Zv v'=some b→Zv L.readsv=some b∨w.heap.size<b:=by
     intro b hb
     rcases hb2 with e|e
     · left;rw[←e];exact hb
     · right;rw[e] at hb;injection hb with hb;omega
   have hv'D:∀b,Zv v'=some b→b≠D:=by
     rintro b hb rfl
     obtain⟨c1,h1⟩:=Z0 h2 hb
     exact absurd (Zy h1 hd2) (by decide)
   have hv'lt:∀b,Zv v'=some b→b<w3.heap.size:=fun b hb=>by have:=(Zu h2 hb).2;omega
   have hz:=f13.size
   have hR3:Yi w3 D { S with reads:=S.reads++[⟨name,a,n⟩]} (fun b=>O b∨Zv v'=some b) I { L with readsv:=v'}:= {
     disk:=hd3
     sh:=h.sh.fr f13 (by
       rintro (e|e)
       · obtain⟨es,c1,h1⟩:=SMap.obj h.sh;rw[e,h.disk] at h1;cases h1
       · obtain ⟨c1,h1⟩ := Z0      h.reads e
         obtain⟨es,c2,h3⟩:=SMap.obj h.sh
         rw[h1] at h3;cases h3)
     shp:=h.shp
     sf:=h.sf.fr f13 (by
       rintro (e|e)
       · obtain⟨es,c1,h1⟩:=SMap.obj h.sf;rw[e,h.disk] at h1;cases h1
       · obtain ⟨c1,h1⟩ := Z0      h.reads e
         obtain⟨es,c2,h3⟩:=SMap.obj h.sf
         rw[h1] at h3;cases h3)
     sfp:=h.sfp
     ne:=h.ne
     row:=Z4 h.row f13 (by
       rintro b hb (e|e)
       · obtain ⟨c1,h1⟩ := Z0      h.row hb
         rw[e] at h1;exact absurd (Zy h1 h.disk) (by decide)
       · obtain ⟨c1,h1⟩ := Z0      h.row hb
         obtain⟨c2,h3⟩:=Z0 h.reads e
         exact absurd (Zy h1 h3) (by decide))
     reads:=by
       have h5:=Z4 h2 f3 hv'D
       simpa[Z3,List.flatMap_append] using h5
     things:=fun t ht=>(hTf (h.things t ht)).mono (O:=O) (fun b=> .inl) fun b=>id
     inj:=h.inj
     rows:=h.rows
     oD:= .inl h.oD
     osh:= .inl h.osh
     osf:= .inl h.osf
     orow:=fun b hb=> .inl (h.orow b hb)
     oreads:=fun b hb=> .inr hb
     apart:=by
       rintro b (hb|hb) hi
       · exact h.apart b hb hi
       · rcases hnew b hb with h1 | h1
         · exact h.apart b (h.oreads b h1) hi
         · have:=h.lt b (.inr hi);omega
     lt:=by
       rintro b ((hb|hb)|hb)
       · have:=h.lt b (.inl hb);omega
       · exact hv'lt b hb
       · have:=h.lt b (.inr hb);omega}
   obtain⟨sv3,hv3,cs3,hbT3,_,hsh3,_⟩:=(hTf (h.things _ hr)).ex
   obtain⟨A3,c3,rfl,hc3⟩:=hsh3.1.form
   refine Zn (YG (Zj (v:= .slice A3 (S.things (S.of name)).shown.length c3) (isAgg36 _) hbT3 rfl (Zp (by omega) ?_)))
   refine C0 Ya (Vm _) (by omega) (by omega) (by omega) ?_
   have hcut:=Src.cut (show Src w3 (.slice A3 (S.things (S.of name)).shown.length c3) 1 _ _ from hsh3.1) (l:=a.toNat) (h':=(a+n).toNat) (by omega) (by omega)
   have e1:((u8s (S.things (S.of name)).shown).drop (a.toNat*1)).take (((a+n).toNat-a.toNat)*1)=u8s (((S.things (S.of name)).shown.drop a.toNat).take n.toNat):=by
     have:(a+n).toNat-a.toNat=n.toNat:=by omega
     rw[this,Nat.mul_one,Nat.mul_one]
     simp[u8s,List.map_take,List.map_drop]
   have e2:(a+n).toNat-a.toNat=(((S.things (S.of name)).shown.drop a.toNat).take n.toNat).length:=by simp;omega
   rw[e1,e2] at hcut
   refine Te (v:= .slice none 0 0) (xs:=[]) (n:=0) ⟨rfl,.inl ⟨rfl,rfl⟩⟩ hcut Vl (by rw[←e2];omega) (Nat.zero_le _) fun v4 w4 h4 f4 hb4=> ?_
   have ec:S.read name a n=(0,((S.things (S.of name)).shown.drop a.toNat).take n.toNat,{ S with reads:=S.reads++[⟨name,a,n⟩]}):=by
     unfold AD.read;rw[if_neg (by simp[hl]),if_neg (by rw[el];omega)];rfl
   have f4':Fr no w3 w4:=f4.mono (by rintro b hb;cases hb)
   have hS4:=Src.Zt h4
   rw[Nat.zero_add] at hS4
   have:=hk w4 _ _ _ v4 (by
     rw[ec]
     refine⟨hR3.fr f4' fun b hb=>hb.elim,(f13.or f4').mono ?_,fun b=> .inl,fun b=>id,?_,fun b=> .inl⟩
     · rintro b (hb | hb)
       · exact .inl (h.own (hOwn b hb))
       · exact hb.elim
     · rintro b (hb | hb)
       · exact .inl hb
       · rcases hnew b hb with h1 | h1
         · exact .inl (h.oreads b h1)
         · exact .inr (by omega)) (by rw[ec];exact hS4) (by
     intro b hb
     rcases hb4 with e|e
     · rw[e] at hb;cases hb
     · rw [e] at hb; injection hb with hb
       refine⟨by omega,?_⟩
       rintro (ho|ho)
       · have:=h.lt b (.inl ho);omega
       · have:=hv'lt b ho;omega)
   rw[ec] at this;exact this
 · refine Y0 hl (Zk (fail _ (by unfold AD.read;rw[if_pos hl])))
theorem Vi (v:V) (hk:k v w):pFn P 20 [v] w k:=by
 refine vK _ _ _ ?_
 exact hk
theorem Gz {c:Nat} (h:Yi w D S O I L) (ok:S.Ok c) (hk:∀w' A cp,Src w' (.slice A S.reads.length cp) 3 S.reads.length (S.reads.flatMap Z3)→(∀b,Zv (.slice A S.reads.length cp)=some b→w.heap.size≤b∧b<w'.heap.size)→Fr no w w'→k (.slice A S.reads.length cp) w'):pFn P 31 [ptr D] w k:=by
 refine Ti _ _ _ ?_
 unfold PX
 have hreads:=ok.reads
 have hsm:=ok.small
 refine Vz h.disk ok.room.1 (Zf ?_)
 refine Zn (UC (Zj (v:=L.readsv) (isAgg56 _) h.disk rfl ?_))
 refine Tu _ _ _ ?_
 unfold RA
 have hS:=Src.Zt h.reads
 obtain⟨A,cp,e,_⟩:∃A c,L.readsv= .slice A S.reads.length c∧S.reads.length≤c:=by obtain⟨A,c,e,hc,_⟩:=hS;exact⟨A,c,e,hc⟩
 rw[e] at hS ⊢
 refine QP underlying56 ?_
 cases A with
 |none=>
  have h0:S.reads.length=0:=by
   obtain⟨A',c',he,hc,hl,hr⟩:=hS
   injection he with e1 e2 e3
   rcases Nat.eq_zero_or_pos S.reads.length with h0|h0
   ·exact h0
   ·obtain⟨b,o,e',_⟩:=hr h0
    rw[←e1] at e';cases e'
  have h1:S.reads=[]:=List.eq_nil_of_length_eq_zero h0
  refine Zk ?_
  have:=hk w none 0 (by rw[h1];exact Src.nil w 3) (by intro b hb;cases hb) (Fr.refl _ _)
  rw[h0] at this;exact this
 |some x=>
  refine Zf (AL ?_)
  have f1:=Fr.alloc no w (.cells #[] 134)
  have ho:=ZQ w 0 134 3 #[] 0 (Nat.zero_le _) (by unfold maxLen;omega) rfl
  have z1:(w.alloc (.cells #[] 134)).heap.size=w.heap.size+1:=by simp
  show px P _ (w.alloc (.cells #[] 134)) _
  generalize w.alloc (.cells #[] 134)=w1 at *
  refine yA ho (hS.fr (by omega) f1 fun _ _ h=>h) (by
   intro u hu
   obtain⟨q,_,hq⟩:=List.mem_flatMap.1 hu
   simp[Z3] at hq
   rcases hq with rfl|rfl|rfl<;>rfl) (by omega) (Nat.zero_le _) fun v' w2 h2 f2 hb2=> ?_
  have hS2:=Src.Zt h2
  rw[Nat.zero_add] at hS2
  obtain⟨A2,c2,e2,_⟩:∃A c,v'= .slice A S.reads.length c∧S.reads.length≤c:=by obtain⟨A,c,e,hc,_⟩:=hS2;exact⟨A,c,e,hc⟩
  subst e2
  refine hk w2 A2 c2 hS2 (fun b hb=> ?_) ((f1.or f2).mono ?_)
  ·have hlt:=(Zu h2 hb).2
   rcases hb2 with e|e
   ·rw[e] at hb;injection hb with hb;have hb'':w.heap.size=b:=hb;omega
   ·rw[e] at hb;injection hb with hb;omega
  rintro b (hb|hb)
  ·exact hb.elim
  ·injection hb with hb;have hb'':b=w.heap.size:=hb;exact .inr (by omega)
end
def nA:ByteArray:=ByteArray.mk #[97]
def nB:ByteArray:=ByteArray.mk #[98]
def K0:AD:=AD.new 20
def K1:AD:=(K0.create nA).2
def K2:AD:=(K1.append nA [120,121,122]).2
def K3:AD:=(K2.sync nA).2
def K4:AD:=K3.ZR.2
def K5:AD:=(K4.append nA [49,50]).2
def K6:AD:=(K5.rename nA nB).2
def K7:AD:=(K6.read nB 2 2).2.2
def K8:AD:=K7.Xu [1,1]
theorem zev:(K0.create nA).1=0∧(K1.append nA [120,121,122]).1=0∧(K2.sync nA).1=0∧K3.ZR.1=0∧(K4.append nA [49,50]).1=0∧(K5.rename nA nB).1=0∧(K6.read nB 2 2).1=0∧(K6.read nB 2 2).2.1=[122,49]:=by
 refine⟨?_,?_,?_,?_,?_,?_,?_,?_⟩<;>kernel_rfl
theorem zew:K7.strokes=6∧K7.reads.length=1∧K8.files=[(nB,[120,121,122,49])]∧(K8.remove nA).1=53∧(K8.remove nA).2.used=4:=by
 refine⟨?_,?_,?_,?_,?_⟩<;>kernel_rfl
section
variable {w:Y} {D:Nat} {S S':AD} {O I:Nat → Prop} {L:Lay} {k:KV}
theorem Q8 {w:Y} {D:Nat} {S:AD} {O I:Nat→Prop} {L:Lay} (h:Yi w D S O I L) (bs:Bytes) {k:V→KV} {parts:Array (Nat×V)}
   (hlit:(Instr.buildSlice 36 bs.length parts).run P w= .ok (.slice (some ⟨w.heap.size,0,none⟩) bs.length bs.length) (w.alloc (.cells (u8s bs).toArray 5)))
   (hk:∀w' v,Fr no w w'→Z5 w' v bs→(∀b,Zv v=some b→¬O b)→Yi w' D S O I L→k v v w'):
   px P (Instr.buildSlice 36 bs.length parts) w fun v w=>px P (convert 36 36 v) w (k v):=by
 refine Z9 hlit ?_
 refine Z9 (Lib.run_convert_bytes_const w 36 5 (u8s bs).toArray _ _ (by kernel_rfl) (by kernel_rfl)) ?_
 have f:Fr no w (w.alloc (.cells (u8s bs).toArray 5 ((u8s bs).toArray.size,(u8s bs).toArray.size+1))):=Fr.alloc ..
 refine hk _ _ f (Z5.blk (Z2 _ _) (Nat.le_refl _)) ?_ (h.fr f fun b hb=>hb.elim)
 intro b hb ho
 injection hb with hb
 have:=h.lt b (.inl ho)
 have hb'':w.heap.size=b:=hb
 omega
theorem UK {v:V} {bs:Bytes} (h:Z5 w v bs) (h0:bs≠ []) (hk:k (.string ⟨bs.toArray⟩) w):px P (convert 36 9 v) w k:=by
 obtain⟨A,c,rfl,hc,hl,hr⟩:=h
 have h1:0<bs.length:=List.length_pos_iff.2 h0
 obtain⟨b,o,rfl,hcell⟩:=hr h1
 refine Z9 (run_convert_bytes_back w 36 9 5 ⟨b,o,none⟩ c bs (by kernel_rfl) (by kernel_rfl) (by kernel_rfl) ?_) hk
 intro j hj
 rw[Xv]
 exact hcell j _ (by simp[u8s,hj])
theorem Nx.up {w':Y} {O' I':Nat→Prop} {L':Lay} {n:Nat} (hx:Nx w D O I w' S' O' I' L') (hO:∀b,O b→n≤b) (hn:n≤w.heap.size):(∀b,O' b→n≤b)∧Fr (fun b=>n≤b) w w'∧n≤w'.heap.size:=
 ⟨fun b hb=>(hx.on b hb).elim (hO b) (Nat.le_trans hn),hx.fr.mono fun b hb=> .inl (hO b hb),Nat.le_trans hn hx.fr.size⟩
theorem Cl {w':Y} {n:Nat} (hf:Fr no w w') (hn:n≤w.heap.size):Fr (fun b=>n≤b) w w'∧n≤w'.heap.size:=⟨hf.mono fun b hb=>hb.elim,Nat.le_trans hn hf.size⟩
theorem Y8 {w1 w2:Y} {n:Nat} (h:Fr (fun b=>n≤b) w w1) (k:Fr (fun b=>n≤b) w1 w2):Fr (fun b=>n≤b) w w2:=h.trans k fun b hb=> .inl hb
theorem G0 (sk:Xr) (hk:∀w',Fr no w w'→k (.bool true) w'):pFn P 17 [] w k:=by
 refine vI _ _ ?_
 unfold TM
 obtain⟨r1,r2,r3,r4,r5,r6,r7,r8⟩:=zev
 obtain⟨e1,e2,e3,e4,e5⟩:=zew
 have ok0:K0.Ok 0:=AD.Ok.new (by decide)
 have ok1:K1.Ok 1:=ok0.create (by decide) nA
 have ok2:K2.Ok 2:=ok1.append (by decide) nA _
 have ok3:K3.Ok 3:=ok2.sync (by decide) nA
 have ok4:K4.Ok 4:=ok3.ZR (by decide)
 have ok5:K5.Ok 5:=ok4.append (by decide) nA _
 have ok6:K6.Ok 6:=ok5.rename (by decide) nA nB
 refine zb8 (fun h=>absurd (show (1:Int)≤20∧(20:Int)≤1048576 by decide) h) fun _ w1 L0 h0 f1=> ?_
 refine ZG rfl (ZG rfl ?_)
 refine Vi _ (ZY rfl (Zl rfl (Zl rfl ?_)))
 refine YJ Kt (Zr (Zf ?_))
 have small:nA.size≤9223372036854775807:=by decide
 have smallB:nB.size≤9223372036854775807:=by decide
 have g0:Yi w1 (w.heap.size+2) K0 (fun b=>w.heap.size≤b∧b<w1.heap.size) no L0:=h0
 refine AO g0 ok0 nA small fun w2 O2 I2 L2 h2=> ?_
 rw[r1]
 have g1:Yi w2 (w.heap.size+2) K1 O2 I2 L2:=h2.rep
 refine Q8 g1 [120,121,122] (by kernel_rfl) fun w3 dv3 f3 hd3 hO3 hR3=> ?_
 refine Q2 hR3 ok1 nA small hd3 hO3 (by decide) fun w4 O4 I4 L4 h4=> ?_
 rw[r2]
 have g2:Yi w4 (w.heap.size+2) K2 O4 I4 L4:=h4.rep
 refine T6 g2 ok2 nA small fun w5 O5 I5 L5 h5=> ?_
 rw[r3]
 have g3:Yi w5 (w.heap.size+2) K3 O5 I5 L5:=h5.rep
 refine Uw g3 ok3 fun w6 O6 I6 L6 h6=> ?_
 rw[r4]
 have g4:Yi w6 (w.heap.size+2) K4 O6 I6 L6:=h6.rep
 refine Q8 g4 [49,50] (by kernel_rfl) fun w7 dv7 f7 hd7 hO7 hR7=> ?_
 refine Q2 hR7 ok4 nA small hd7 hO7 (by decide) fun w8 O8 I8 L8 h8=> ?_
 rw[r5]
 have g5:Yi w8 (w.heap.size+2) K5 O8 I8 L8:=h8.rep
 refine Ca g5 ok5 nA nB small smallB fun w9 O9 I9 L9 h9=> ?_
 rw[r6]
 have g6:Yi w9 (w.heap.size+2) K6 O9 I9 L9:=h9.rep
 refine Sy g6 ok6 nB smallB 2 2 (by decide) fun wa Oa Ia La va ha hva hvb=> ?_
 rw[r7]
 rw[r8] at hva
 have g7:Yi wa (w.heap.size+2) K7 Oa Ia La:=ha.rep
 refine ZG rfl (ZG rfl ?_)
 refine Vi _ (Vi _ (Zp (by decide) (Vi _ (Zp (by decide) (Vi _ (Zp (by decide) (Vi _ (Zp (by decide) (Vi _ (Zp (by decide) (Vi _ (Zp (by decide) ?_))))))))))))
 refine ZY (by decide) (Zl rfl (Zl rfl ?_))
 refine UK hva (by decide) (Zl rfl (UN ?_))
 rw[show (!decide ((⟨([122,49]:List UInt8).toArray⟩:ByteArray)=ByteArray.mk #[122,49]))=false from by decide]
 have okr:K7.room=20:=by kernel_rfl
 have ok7:K7.Ok 7:=ok6.read (by decide) nB 2 2
 refine Zr (Zl rfl (Zl rfl (BW g7.disk (by rw[okr];decide) ?_)))
 rw[e1]
 refine Zl rfl (ZY rfl (Zr (Zl rfl (Zl rfl ?_))))
 refine Gz g7 ok7 fun wb Ab cb hsb _ fb=> ?_
 rw[e2]
 refine Zl rfl (Yn Uu (Zl rfl (ZY rfl (Zr (Zf ?_)))))
 have gb:Yi wb (w.heap.size+2) K7 Oa Ia La:=g7.fr fb fun b hb=>hb.elim
 refine Z9 (w':=wb.alloc (.cells #[i64 1,i64 1] 3)) (v:= .slice (some ⟨wb.heap.size,0,none⟩) 2 2) (by kernel_rfl) ?_
 have fc:=Fr.alloc no wb (.cells #[i64 1,i64 1] 3)
 have hl:=ZQ wb 0 3 1 #[i64 1,i64 1] 2 (Nat.zero_le _) (by unfold maxLen;omega) rfl
 have zc:(wb.alloc (.cells #[i64 1,i64 1] 3)).heap.size=wb.heap.size+1:=by simp
 show pFn P _ _ (wb.alloc (.cells #[i64 1,i64 1] 3)) _
 generalize wb.alloc (.cells #[i64 1,i64 1] 3)=wc at *
 have gc:Yi wc (w.heap.size+2) K7 Oa Ia La:=gb.fr fc fun b hb=>hb.elim
 have ok8:K8.Ok 7:=ok7.Xu [1,1]
 refine TC (picks:=[1,1]) sk gc ok7 (by decide) (Src.Zt hl) (by intro b hb;injection hb with hb;have hb'':wb.heap.size=b:=hb;omega) (fun p hp=>by have:=ok7.XI [1,1] p hp;unfold maxLen;omega) fun wd Od Id Ld hd=> ?_
 have gd:Yi wd (w.heap.size+2) K8 Od Id Ld:=hd.rep
 refine EB sk gd ok8 (fun p hp=>by have:=ok8.V0 p hp;unfold maxLen;omega) fun we ve hve fe=> ?_
 rw[e3] at hve
 obtain⟨bf,of,cf,df,rfl,hc0,hc1,hdf⟩:=JT hve (i:=0) (by decide)
 refine Yn X7 (ZP rfl (Zl rfl (Zl rfl ?_)))
 refine Vu (i:=0) X7 (Uv _) (by decide) (by decide) (Zl rfl (QX (Zl rfl ?_)))
 refine Xl (v:= .string nB) (isAgg9 _) (by simpa using hc0) (Zl rfl (GK ?_))
 rw[show decide (nB=ByteArray.mk #[98])=true from by decide]
 refine Zx (Zl rfl (Zl rfl ?_))
 refine Vu (i:=0) X7 (Uv _) (by decide) (by decide) (Zl rfl (JI (Zl rfl ?_)))
 refine Xl (v:=df) (isAgg36 _) (by simpa using hc1) (Zl rfl (UK hdf (by decide) (Zl rfl (GK ?_))))
 rw[show decide ((⟨([(nB,[120,121,122,49])]:List (ByteArray×Bytes))[0].2.toArray⟩:ByteArray)=ByteArray.mk #[120,121,122,49])=true from by decide]
 have ge:Yi we (w.heap.size+2) K8 Od Id Ld:=gd.fr fe fun b hb=>hb.elim
 refine Zx (Zl rfl (Zl rfl ?_))
 refine AP ge ok8 nA small fun wf Of If Lf hf=> ?_
 rw[e4]
 refine Zl rfl (Vi _ (Zl rfl (ZP rfl (Zx (Zl rfl (Zl rfl ?_))))))
 have ok9:(K8.remove nA).2.Ok 8:=ok8.remove (by decide) nA
 refine Ma hf.rep ok9.room.1 (by rw[e5];decide) fun wg fg=> ?_
 rw[e5]
 refine Zl rfl (ZP rfl (Zx ?_))
 refine hk wg ?_
 have n1:=Cl f1 (Nat.le_refl _)
 have n2:=h2.up (n:=w.heap.size) (fun b hb=>hb.1) n1.2
 have n3:=Cl f3 n2.2.2
 have n4:=h4.up n2.1 n3.2
 have n5:=h5.up n4.1 n4.2.2
 have n6:=h6.up n5.1 n5.2.2
 have n7:=Cl f7 n6.2.2
 have n8:=h8.up n6.1 n7.2
 have n9:=h9.up n8.1 n8.2.2
 have na:=ha.up n9.1 n9.2.2
 have nb:=Cl fb na.2.2
 have nc:=Cl fc nb.2
 have nd:=hd.up na.1 nc.2
 have ne:=Cl fe nd.2.2
 have nf:=hf.up nd.1 ne.2
 have ng:=Cl fg nf.2.2
 have all:=Y8 (Y8 (Y8 (Y8 (Y8 (Y8 (Y8 (Y8 (Y8 (Y8 (Y8 (Y8 (Y8 (Y8 (Y8 n1.1 n2.2.1) n3.1) n4.2.1) n5.2.1) n6.2.1) n7.1) n8.2.1) n9.2.1) na.2.1) nb.1) nc.1) nd.2.1) ne.1) nf.2.1) ng.1
 exact all.mono fun b hb=> .inr hb
end
end Go.Proofs.YtcdcojpfealppaaGreat
namespace Go.Proofs.YtcdcojpfealppaaGreat
open Go Go.Proofs Go.RowKit Go.Maps Go.Sort Go.Shelf Tryz
def Q9:Go.Shelf.Ren:=⟨fun|7=>128|10=>139|n=>n,fun|23=>54|26=>9|3=>117|28=>199|0=>0|27=>198|33=>151|4=>4|n=>n,fun|n=>n⟩
theorem G1:Go.Proofs.SlLaysZ.n7 Z Q9:= {
 mixed:=by kernel_rfl
 f7:=⟨f128.name,by decide,func128.trans (congrArg some (by kernel_rfl))⟩
 f10:=⟨f139.name,by decide,func139.trans (congrArg some (by kernel_rfl))⟩
 t0:=underlying0
 a0:=isAgg0
 z0:=sizeOf0
 v0:=zeroValue0
 t4:=underlying4
 a4:=isAgg4
 z4:=sizeOf4
 v4:=zeroValue4
 t23:=underlying54
 a23:=isAgg54
 z23:=sizeOf54
 v23:=zeroValue54
 t26:=underlying9
 a26:=isAgg9
 z26:=sizeOf9
 v26:=zeroValue9
 t27:=underlying198
 a27:=isAgg198
 z27:=sizeOf198
 v27:=zeroValue198
 t28:=underlying199
 a28:=isAgg199
 z28:=sizeOf199
 v28:=zeroValue199
 t33:=underlying151
 a33:=isAgg151
 z33:=sizeOf151
 v33:=zeroValue151}
def U0:Go.Shelf.Ren:=⟨fun|6=>127|8=>137|9=>138|11=>141|13=>143|12=>142|23=>154|24=>155|14=>145|15=>146|16=>147|17=>148|18=>149|19=>150|20=>151|21=>152|22=>153|25=>156|26=>157|27=>158|28=>159|29=>160|30=>161|31=>162|n=>n,fun|26=>9|28=>199|24=>73|0=>0|3=>3|37=>212|48=>222|50=>224|4=>4|40=>215|39=>214|45=>219|5=>5|9=>9|51=>225|55=>229|57=>231|58=>152|33=>151|n=>n,fun|n=>n⟩
theorem G2:Go.Proofs.SlLaysZ.n6 Z U0:= {
 mixed:=by kernel_rfl
 f6:=⟨f127.name,by decide,func127.trans (congrArg some (by kernel_rfl))⟩
 f8:=⟨f137.name,by decide,func137.trans (congrArg some (by kernel_rfl))⟩
 f11:=⟨f141.name,by decide,func141.trans (congrArg some (by kernel_rfl))⟩
 t0:=underlying0
 a0:=isAgg0
 z0:=sizeOf0
 v0:=zeroValue0
 t24:=underlying73
 a24:=isAgg73
 z24:=sizeOf73
 v24:=zeroValue73
 t26:=underlying9
 a26:=isAgg9
 z26:=sizeOf9
 v26:=zeroValue9
 t28:=underlying199
 a28:=isAgg199
 z28:=sizeOf199
 v28:=zeroValue199
 i26:=by kernel_rfl}
def Cm:Go.Shelf.Ren:=⟨fun|6=>138|8=>143|9=>142|19=>154|20=>155|21=>145|22=>146|23=>147|24=>148|25=>149|26=>150|27=>151|28=>152|29=>153|36=>156|31=>157|32=>158|37=>159|38=>160|39=>161|41=>162|n=>n,fun|27=>73|29=>9|3=>3|32=>212|26=>73|0=>0|44=>222|46=>224|4=>4|36=>215|35=>214|41=>219|5=>5|9=>9|53=>225|57=>229|63=>231|64=>152|n=>n,fun|n=>n⟩
theorem G3:Go.Proofs.SlLaysM.n6 Z Cm:= {
 mixed:=by kernel_rfl
 f6:=⟨f138.name,by decide,func138.trans (congrArg some (by kernel_rfl))⟩
 f8:=func143.trans (congrArg some (by kernel_rfl))
 f9:=⟨f142.name,by decide,func142.trans (congrArg some (by kernel_rfl))⟩
 f19:=func154.trans (congrArg some (by kernel_rfl))
 f20:=func155.trans (congrArg some (by kernel_rfl))
 f21:=⟨f145.name,by decide,func145.trans (congrArg some (by kernel_rfl))⟩
 f22:=⟨f146.name,by decide,func146.trans (congrArg some (by kernel_rfl))⟩
 f23:=⟨f147.name,by decide,func147.trans (congrArg some (by kernel_rfl))⟩
 f24:=⟨f148.name,by decide,func148.trans (congrArg some (by kernel_rfl))⟩
 f25:=⟨f149.name,by decide,func149.trans (congrArg some (by kernel_rfl))⟩
 f26:=⟨f150.name,by decide,func150.trans (congrArg some (by kernel_rfl))⟩
 f27:=⟨f151.name,by decide,func151.trans (congrArg some (by kernel_rfl))⟩
 f28:=⟨f152.name,by decide,func152.trans (congrArg some (by kernel_rfl))⟩
 f29:=⟨f153.name,by decide,func153.trans (congrArg some (by kernel_rfl))⟩
 f31:=func157.trans (congrArg some (by kernel_rfl))
 f32:=func158.trans (congrArg some (by kernel_rfl))
 f36:=⟨f156.name,by decide,func156.trans (congrArg some (by kernel_rfl))⟩
 f37:=⟨f159.name,by decide,func159.trans (congrArg some (by kernel_rfl))⟩
 f38:=⟨f160.name,by decide,func160.trans (congrArg some (by kernel_rfl))⟩
 f39:=⟨f161.name,by decide,func161.trans (congrArg some (by kernel_rfl))⟩
 f41:=⟨f162.name,by decide,func162.trans (congrArg some (by kernel_rfl))⟩
 t0:=underlying0
 a0:=isAgg0
 z0:=sizeOf0
 v0:=zeroValue0
 t3:=underlying3
 a3:=isAgg3
 z3:=sizeOf3
 v3:=zeroValue3
 t4:=underlying4
 a4:=isAgg4
 z4:=sizeOf4
 v4:=zeroValue4
 t5:=underlying5
 a5:=isAgg5
 z5:=sizeOf5
 v5:=zeroValue5
 t9:=underlying9
 a9:=isAgg9
 z9:=sizeOf9
 v9:=zeroValue9
 t26:=underlying73
 a26:=isAgg73
 z26:=sizeOf73
 v26:=zeroValue73
 t27:=underlying73
 a27:=isAgg73
 z27:=sizeOf73
 v27:=zeroValue73
 t29:=underlying9
 a29:=isAgg9
 z29:=sizeOf9
 v29:=zeroValue9
 t32:=underlying212
 a32:=isAgg212
 z32:=sizeOf212
 v32:=zeroValue212
 t35:=underlying214
 a35:=isAgg214
 z35:=sizeOf214
 v35:=zeroValue214
 t36:=underlying215
 a36:=isAgg215
 z36:=sizeOf215
 v36:=zeroValue215
 t41:=underlying219
 a41:=isAgg219
 z41:=sizeOf219
 v41:=zeroValue219
 t44:=underlying222
 a44:=isAgg222
 z44:=sizeOf222
 v44:=zeroValue222
 t46:=underlying224
 a46:=isAgg224
 z46:=sizeOf224
 v46:=zeroValue224
 t53:=underlying225
 a53:=isAgg225
 z53:=sizeOf225
 v53:=zeroValue225
 t57:=underlying229
 a57:=isAgg229
 z57:=sizeOf229
 v57:=zeroValue229
 t63:=underlying231
 a63:=isAgg231
 z63:=sizeOf231
 v63:=zeroValue231
 t64:=underlying152
 a64:=isAgg152
 z64:=sizeOf152
 v64:=zeroValue152}
theorem NH (m:Nat):AnyZ.SortsIn Z U0 Fence.wide m:=
 ⟨fun blk off cap ss W hH hblk hsz=>callsIn_wide.2 (AnyM.slices_Sort_string G3 blk off cap ss W hH hblk hsz),
  fun p cap W=>callsIn_wide.2 (AnyM.slices_Sort_string_none G3 p cap W)⟩
theorem JW (mb:Option Nat) (W:Y):CallsIn Fence.wide 5 Z 128 #[.map mb] W fun e w'=>e= .returned (.func (.func 139) #[] #[.pointer (some ⟨W.heap.size,0,none⟩)])∧w'=W.alloc (.cells #[.map mb] 54):=
 AnyZ.keys_in G1 Fence.wide 5 trivial rfl mb W
set_option maxHeartbeats 1000000 in
theorem XZ {H:Type} (b nn:Nat) (D0:DataW H) (R:V→Option (DataW H×List MemPlace)) (w:Y) (hown:w.ownsMap Z 9 R b nn D0) (hmax:Maps.size D0≤maxLen) (hbytes:Maps.size D0*16≤140737488355328):
   CallsIn Fence.wide 5 Z 127 #[.func (.func 139) #[] #[.pointer (some ⟨w.heap.size,0,none⟩)]] (w.alloc (.cells #[.map (some b)] 54)) fun e w'=>∃(v:V) (ss:List (List UInt8)),e= .returned v∧ss.Perm (strKeys D0)∧
     w'.ownsRow (w.alloc (.cells #[.map (some b)] 54)).heap.size 9 1 v ss.length ((ss.mergeSort (fun x y=>decide (x≤y))).map encStr)∧(v= .slice none 0 0↔ss=[])∧Below (w.alloc (.cells #[.map (some b)] 54)).heap.size (w.alloc (.cells #[.map (some b)] 54)) w':=by
 have hbl:=hown.lt
 have hseq:SeqGives Fence.wide 2 Z 139 #[.pointer (some ⟨w.heap.size,0,none⟩)] encStr (fun ss=>ss.Perm (strKeys D0)) (Maps.size D0) (w.alloc (.cells #[.map (some b)] 54)):=
   AnyZ.keys_gives (ρ:=Q9) { G1 with} Fence.wide _ trivial rfl (by omega) w.heap.size b nn D0 _ (by simp) (by simp) (by
     obtain⟨es,clock,hb,Ft,hs,hD⟩:=hown
     exact⟨es,clock,(Below.heap_alloc _ _ b hbl).trans hb,Ft,hs,hD⟩)
 exact AnyZ.sorted_in G2 Fence.wide 5 trivial trivial trivial trivial rfl (by omega) (NH _) (enters_of func138 (by kernel_rfl) rfl) 139 #[.pointer (some ⟨w.heap.size,0,none⟩)] trivial (enters_of func139 (by kernel_rfl) rfl) _ _ hmax hbytes _ hseq
theorem Xj:Xr:=⟨fun m W=>callsIn_wide.1 (JW (some m) W),fun b nn D0 w h1 h2 h3=>callsIn_wide.1 (XZ b nn D0 XKeys.R0 w h1 h2 h3)⟩
end Go.Proofs.YtcdcojpfealppaaGreat
namespace Go.Proofs.YtcdcojpfealppaaGreat
open Go Go.Proofs Go.RowKit Go.Proofs.XRed Go.Proofs.XHeap Go.Proofs.XMaps Go.Proofs.XSlices Go.Proofs.XDisk Go.Proofs.XCalls Go.Proofs.XRange Go.Proofs.XKeys Tryz
section
variable {W w w':Y} {D Dt:Nat} {A B A' B':AD} {K K' O I O2 I2 O' I':Nat → Prop} {L L2 L':Lay}
end
theorem DR {n:ByteArray} (h:n.size≤maxLen):n.size≤9223372036854775807:=by unfold maxLen at h;omega
section
variable {w:Y} {D:Nat} {S S':AD} {O I:Nat → Prop} {L:Lay} {k:KV}
def AD.sizeOf (S:AD) (name:ByteArray):Int:=if S.look name=0 then (S.bytes name).length else 0
theorem ja {c:Nat} (h:Yi w D S O I L) (ok:S.Ok c) (name:ByteArray) (hs:name.size≤9223372036854775807) (hk:k (.tuple #[i64 (AD.sizeOf S name),i64 (S.look name)]) w):pFn P 119 [ptr D,.string name] w k:=by
 refine xm _ _ _ _ ?_
 unfold KA
 refine UI h ok.room.1 name hs (ZG rfl (ZG rfl ?_))
 unfold AD.sizeOf at hk
 by_cases hl:S.look name=0
 ·have hg:=(HT hl).2
  have hr:reach S (S.of name):= .inl ⟨name,ZU hg⟩
  rw[if_pos hl] at hk
  rw[if_pos hl]
  obtain⟨sv,hv,cs,hbT,_,hsh,_⟩:=(h.things _ hr).ex
  obtain⟨A,c',rfl,hc'⟩:=hsh.1.form
  refine ZY hl (Zf (Zn (YG (Zj (v:= .slice A (S.things (S.of name)).shown.length c') (isAgg36 _) hbT rfl (Yn Ya ?_)))))
  rw[hl] at hk;exact hk
 ·rw[if_neg hl] at hk
  rw[if_neg hl]
  exact Y0 hl (Zk hk)
theorem G4 (h:Yi w D S O I L) (hr:1≤S.room) (hk:∀w' O' I' L',Nx w D O I w' S.YW O' I' L'→k (.tuple #[]) w'):pFn P 125 [ptr D] w k:=by
 refine xn _ _ _ ?_
 unfold KC
 refine Vz h.disk hr (YP (Zk ?_))
 refine Zn (UC (YA (sizeOf56 _) rfl rfl h.disk (by show 10<11;decide) ?_))
 have hd3:=Z6 h.disk 10 (.slice none 0 0)
 have f3:Fr (fun b=>b=D) w (w.setCell ⟨D,10,none⟩ (.slice none 0 0)):=Fr.setCell w ⟨D,10,none⟩ _
 have z3:(w.setCell ⟨D,10,none⟩ (.slice none 0 0)).heap.size=w.heap.size:=by simp[World.setCell]
 show k _ (w.setCell ⟨D,10,none⟩ (.slice none 0 0))
 generalize w.setCell ⟨D,10,none⟩ (.slice none 0 0)=w3 at *
 have hp:=h.plain (S':=S) (L:=L) f3
 refine hk w3 O I { L with readsv:= .slice none 0 0} ⟨?_,f3.mono fun b hb=> .inl (hb▸h.oD),fun b=>id,fun b=>id,fun b=> .inl,fun b=> .inl⟩
 exact {
  disk:=hd3
  sh:=h.sh.fr f3 (by rintro e;obtain⟨es,c1,h1⟩:=SMap.obj h.sh;rw[e,h.disk] at h1;cases h1)
  shp:=h.shp
  sf:=h.sf.fr f3 (by rintro e;obtain⟨es,c1,h1⟩:=SMap.obj h.sf;rw[e,h.disk] at h1;cases h1)
  sfp:=h.sfp
  ne:=h.ne
  row:=Z4 h.row f3 (by rintro b hb e;obtain⟨c1,h1⟩:=Z0 h.row hb;rw[e] at h1;exact absurd (Zy h1 h.disk) (by decide))
  reads:=⟨rfl,.inl ⟨rfl,rfl⟩⟩
  things:=fun t ht=>(h.things t ht).stay h f3 fun b hb=> .inl (.inl hb)
  inj:=h.inj
  rows:=h.rows
  oD:=h.oD
  osh:=h.osh
  osf:=h.osf
  orow:=h.orow
  oreads:=by rintro b hb;cases hb
  apart:=h.apart
  lt:=fun b hb=>by rw[z3];exact h.lt b hb}
end
def ZC (x:XT) (dv pv:V):List V:=[i64 x.kind,.string x.name,.string x.to_,i64 x.at_,i64 x.n,dv,i64 x.plan.off,i64 x.plan.from_,i64 x.plan.to_,pv]
structure V5 (W:Y) (x:XT) (dv pv:V):Prop where
 data:Z5 W dv x.data
 picks:Src W pv 1 x.picks.length (x.picks.map i64)
 name:x.name.size≤maxLen
 to_:x.to_.size≤maxLen
 at_: -9223372036854775808≤x.at_∧x.at_≤9223372036854775807
 dlen:x.data.length≤140737488355328
 plen:x.picks.length≤17592186044416
theorem V5.fr {W w:Y} {x:XT} {dv pv:V} (h:V5 W x dv pv) (hf:Fr no W w):V5 w x dv pv:=
 ⟨h.data.fr hf fun _ _ h=>h,h.picks.fr (by omega) hf fun _ _ h=>h,h.name,h.to_,h.at_,h.dlen,h.plen⟩
section
variable {W w:Y} {D:Nat} {S S':AD} {O I:Nat → Prop} {L:Lay} {k:KV}
def XH (x:XT) (dv pv:V):V:= .agg #[i64 x.kind,.string x.name,.string x.to_,i64 x.at_,i64 x.n,dv,i64 x.plan.off,i64 x.plan.from_,i64 x.plan.to_,pv]
end
abbrev VJ:=List (XT×V×V)
def Xz (l:VJ):List V:=l.flatMap fun p=>ZC p.1 p.2.1 p.2.2
structure XP (W:Y) (v:V) (l:VJ):Prop where
 src:Src W v 10 l.length (Xz l)
 all:∀p∈l,V5 W p.1 p.2.1 p.2.2
theorem XP.fr {W w:Y} {v:V} {l:VJ} (h:XP W v l) (hf:Fr no W w):XP w v l:=⟨h.src.fr (by omega) hf fun _ _ h=>h,fun p hp=>(h.all p hp).fr hf⟩
theorem XP.at_ {W:Y} {v:V} {l:VJ} (h:XP W v l) {i:Nat} (hi:i<l.length):∃b o c,v= .slice (some ⟨b,o,none⟩) l.length c∧∀j u,(ZC l[i].1 l[i].2.1 l[i].2.2)[j]? =some u→W.cell? ⟨b,o+i*10+j,none⟩=some u:=by
 obtain⟨b,o,c,e,hc⟩:=h.src.place hi (by omega)
 refine⟨b,o,c,e,fun j u hj=> ?_⟩
 have hlt:j<10:=(List.getElem?_eq_some_iff.1 hj).1
 refine hc j u hlt ?_
 have:=Vf (f:=fun p:XT×V×V=>ZC p.1 p.2.1 p.2.2) (n:=10) (fun _=>rfl) (l:=l) (i:=i) (j:=j) (a:=l[i]) (by simp[hi]) hlt
 unfold Xz
 rw[this];exact hj
section
variable {W w:Y} {D:Nat} {S S':AD} {O I:Nat → Prop} {L:Lay} {k:KV}
theorem jb {v:V} {l:VJ} (h:XP W v l) (hk:∀(b:Bool) w',Fr no W w'→(b=false→l.length≤300∧∀p∈l,p.1.data.length≤100000∧p.1.picks.length≤12500)→k (.bool b) w'):pFn P 15 [v] W k:=by
 refine vG _ _ _ ?_
 unfold TK
 refine ZF El h.src ?_
 by_cases hl:l.length>300
 ·exact YQ (by omega) (Zk (hk true W (Fr.refl _ _) (fun h=>by cases h)))
 refine YI (by omega) (Zf ?_)
 refine EI (m:=l.length) k (fun m ρ w=>∃(i:Nat) (n:Int),i+m=l.length∧Fr no W w∧ρ 0=v∧ρ 3=i64 n∧ρ 4=i64 i∧0≤n∧n≤100000∧∀p∈l.take i,p.1.data.length≤100000∧p.1.picks.length≤12500) ?_
  ⟨0,0,by omega,Fr.refl _ _,rfl,rfl,rfl,by omega,by omega,fun p hp=>by simp at hp⟩
 rintro m ρ w ⟨i,n,him,hf,e0,e3,e4,hn0,hn1,hall⟩
 rw[Mv]
 unfold vF
 rw[e0,e3,e4]
 refine ZF El (h.fr hf).src ?_
 by_cases hi:i<l.length
 ·refine ZA (by omega) (Zk ?_)
  have fd:Fr no w w.drew:=Fr.drew _ _
  have ff:Fr no W w.drew:=hf.trans fd fun b hb=> .inl hb
  have hv:=h.fr ff
  obtain⟨b,o,c,ev,hc⟩:=hv.at_ hi
  have hs:=hv.all _ (List.getElem_mem hi)
  have h5:=hc 5 _ rfl
  have h9:=hc 9 _ rfl
  have hdl:=hs.dlen
  have hpl:=hs.plen
  refine⟨fun w'=>w'.cell? ⟨b,o+i*10+5,none⟩=some l[i].2.1∧w'.cell? ⟨b,o+i*10+9,none⟩=some l[i].2.2,⟨h5,h9⟩,?_⟩
  obtain⟨A5,c5,ed,_⟩:=hs.data.form
  obtain⟨A9,c9,ep,_⟩:∃A c,l[i].2.2= .slice A l[i].1.picks.length c∧l[i].1.picks.length≤c:=by obtain⟨A,c,e,hc,_⟩:=hs.picks;exact⟨A,c,e,hc⟩
  rw[ev]
  refine Zi (.pointer (some ⟨b,o+i*10,none⟩)) (fun w_ hS=>Vu (i:=(i:Int)) El (y7 _) (by omega) (by omega) ⟨by simp,rfl⟩) ?_
  refine Zi _ (fun w_ hS=>JF ⟨rfl,rfl⟩) (Zi l[i].2.1 (fun w_ hS=>Xl (isAgg36 _) hS.1 ⟨rfl,rfl⟩) ?_)
  rw[ed]
  refine Zi _ (fun w_ hS=>Yn Ya ⟨rfl,rfl⟩) ?_
  refine Zi _ (fun w_ hS=>Zp (by omega) ⟨rfl,rfl⟩) ?_
  refine Zi (.pointer (some ⟨b,o+i*10,none⟩)) (fun w_ hS=>Vu (i:=(i:Int)) El (y7 _) (by omega) (by omega) ⟨by simp,rfl⟩) ?_
  refine Zi _ (fun w_ hS=>Dw ⟨rfl,rfl⟩) (Zi l[i].2.2 (fun w_ hS=>Xl (isAgg39 _) hS.2 ⟨rfl,rfl⟩) ?_)
  rw[ep]
  refine Zi _ (fun w_ hS=>Yn Vy ⟨rfl,rfl⟩) ?_
  refine Zi (i64 (8*(l[i].1.picks.length:Int))) (fun w_ hS=>Ea (by rw[Af (by omega)];exact⟨rfl,rfl⟩)) ?_
  refine Zi _ (fun w_ hS=>Zp (by omega) ⟨rfl,rfl⟩) ?_
  by_cases hbig:n+l[i].1.data.length+8*(l[i].1.picks.length:Int)>100000
  ·exact YQ hbig (Zk (hk true _ ff (fun h=>by cases h)))
  refine YI hbig (Zf (Zp (by omega) ?_))
  refine⟨m-1,by omega,i+1,_,by omega,ff,e0.trans ev,rfl,?_,by omega,by omega,fun p hp=> ?_⟩
  ·show i64 _=i64 _;simp
  ·rw[List.take_succ_eq_append_getElem hi] at hp
   rcases List.mem_append.1 hp with hp|hp
   ·exact hall p hp
   ·rw[List.mem_singleton] at hp;subst hp;omega
 ·refine ZB (by omega) (Zf ?_)
  rw[Mw]
  refine hk false w hf (fun _=>⟨by omega,fun p hp=>hall p ?_⟩)
  rw[List.take_of_length_le (by omega)];exact hp
theorem DS (x y:QI) (w:Y):(Op.equalIn 10000 134 (.agg (Z3 x).toArray) (.agg (Z3 y).toArray)).run P w= .ok (decide (x.name=y.name∧x.at_=y.at_∧x.n=y.n)) w:=by
 have u3:=underlying3
 have a3:=isAgg3
 have z3:=sizeOf3
 have u9:=underlying9
 have a9:=isAgg9
 have z9:=sizeOf9
 have hS:prog.underlying 134=some (.struct (prog.fieldsOf 134)):=by kernel_rfl
 rw[show (10000:Nat)=9999+1 from rfl,run_equalIn_agg w 9999 134 _ _ hS (by kernel_rfl)]
 simp only[Program.fieldsOf,underlying134]
 unfold Z3
 go_simp
 have e:x.name.toList=y.name.toList↔x.name=y.name:=by
  have h:=Cx x.name y.name
  rw[Bool.eq_iff_iff] at h
  simpa using h
 simp only[e]
 by_cases h1:x.name=y.name<;>by_cases h2:x.at_=y.at_<;>by_cases h3:x.n=y.n<;>simp[h1,h2,h3]
theorem NI {x y:QI} {p q:Operand} (hk:k (.bool (!decide (x.name=y.name∧x.at_=y.at_∧x.n=y.n))) w):px P (Zd .neq 134 p q (.agg (Z3 x).toArray) (.agg (Z3 y).toArray)) w k:=by
 refine Z9 (w':=w) ?_ hk
 have hg:(eqGuard .neq 134 p q (.agg (Z3 x).toArray) (.agg (Z3 y).toArray)).run P w= .ok () w:=by kernel_rfl
 simp[Zd,hg,run_neq_struct,DS,Result.andThen]
theorem QI.ext' {x y:QI} (h1:x.name=y.name) (h2:x.at_=y.at_) (h3:x.n=y.n):x=y:=by
 cases x;cases y;simp only at h1 h2 h3;subst h1;subst h2;subst h3;rfl
theorem Bt {v1 v2:V} {x y:List QI} (hx:Src W v1 3 x.length (x.flatMap Z3)) (hy:Src W v2 3 y.length (y.flatMap Z3)) (hl:x.length≤4611686018427387904) (hk:∀(b:Bool) w',Fr no W w'→(b=true↔x=y)→k (.bool b) w'):pFn P 45 [v1,v2] W k:=by
 refine ug _ _ _ _ ?_
 unfold TQ
 refine ZF Uu hx (ZF Uu hy ?_)
 by_cases hlen:x.length=y.length
 ·refine ZY (by omega) (Zf ?_)
  refine EM (m:=x.length) k (fun m ρ w'=>∃i:Nat,i+m=x.length∧Fr no W w'∧ρ 0=v1∧ρ 1=v2∧ρ 5=i64 i∧x.take i=y.take i) ?_
   ⟨0,by omega,Fr.refl _ _,rfl,rfl,rfl,rfl⟩
  rintro m ρ w' ⟨i,him,hf,e0,e1,e5,heq⟩
  rw[MB]
  unfold uf
  rw[e0,e1,e5]
  have hx':=hx.fr (by omega) hf fun _ _ h=>h
  have hy':=hy.fr (by omega) hf fun _ _ h=>h
  refine ZF Uu hx' ?_
  by_cases hi:i<x.length
  ·refine ZA (by omega) (Zk ?_)
   have fd:Fr no w' w'.drew:=Fr.drew _ _
   have ff:Fr no W w'.drew:=hf.trans fd fun b hb=> .inl hb
   have hiy:i<y.length:=by omega
   obtain⟨b1,o1,c1,f1,g1⟩:=(hx'.fr (by omega) fd fun _ _ h=>h).place hi (by omega)
   obtain⟨b2,o2,c2,f2,g2⟩:=(hy'.fr (by omega) fd fun _ _ h=>h).place hiy (by omega)
   have at1:∀j u,j<3→(Z3 x[i])[j]? =some u→w'.drew.cell? ⟨b1,o1+i*3+j,none⟩=some u:=fun j u hj hu=>g1 j u hj (by rw[Vf (n:=3) (fun _=>rfl) (a:=x[i]) (by simp[hi]) hj];exact hu)
   have at2:∀j u,j<3→(Z3 y[i])[j]? =some u→w'.drew.cell? ⟨b2,o2+i*3+j,none⟩=some u:=fun j u hj hu=>g2 j u hj (by rw[Vf (n:=3) (fun _=>rfl) (a:=y[i]) (by simp[hiy]) hj];exact hu)
   refine⟨fun w'=>(∀j u,j<3→(Z3 x[i])[j]? =some u→w'.cell? ⟨b1,o1+i*3+j,none⟩=some u)∧∀j u,j<3→(Z3 y[i])[j]? =some u→w'.cell? ⟨b2,o2+i*3+j,none⟩=some u,⟨at1,at2⟩,?_⟩
   rw[f1,f2]
   have ld:∀(w_:Y) (b o:Nat) (s:QI),(∀j u,j<3→(Z3 s)[j]? =some u→w_.cell? ⟨b,o+j,none⟩=some u)→(Instr.loadAt 134 (.pointer (some ⟨b,o,none⟩))).run P w_= .ok (.agg (Z3 s).toArray) w_:=by
    intro w_ b o s h
    have:=run_loadCells_list (P:=P) w_ ⟨b,o,none⟩ (Z3 s) (fun j v hj=>by
     rw[Xv]
     exact h j v (List.getElem?_eq_some_iff.1 hj).1 hj)
    have e:(Z3 s).length=3:=rfl
    rw[e] at this
    simp[Instr.loadAt,Instr.sureAddr,loadVar,isAgg134,sizeOf134,this,Result.andThen]
   refine Zi (.pointer (some ⟨b1,o1+i*3,none⟩)) (fun w_ hS=>Vu (i:=(i:Int)) Uu (En _) (by omega) (by omega) ⟨by simp,rfl⟩) ?_
   refine Zi (.agg (Z3 x[i]).toArray) (fun w_ hS=>Z9 (ld w_ _ _ _ hS.1) ⟨rfl,rfl⟩) ?_
   refine Zi (.pointer (some ⟨b2,o2+i*3,none⟩)) (fun w_ hS=>Vu (i:=(i:Int)) Uu (En _) (by omega) (by omega) ⟨by simp,rfl⟩) ?_
   refine Zi (.agg (Z3 y[i]).toArray) (fun w_ hS=>Z9 (ld w_ _ _ _ hS.2) ⟨rfl,rfl⟩) ?_
   refine Zi _ (fun w_ hS=>NI ⟨rfl,rfl⟩) ?_
   by_cases he:x[i].name=y[i].name∧x[i].at_=y[i].at_∧x[i].n=y[i].n
   ·rw[decide_eq_true he]
    refine Zf (Zp (by omega) ?_)
    refine⟨m-1,by omega,i+1,by omega,ff,e0.trans f1,e1.trans f2,?_,?_⟩
    ·show i64 _=i64 _;simp
    ·rw[List.take_succ_eq_append_getElem hi,List.take_succ_eq_append_getElem hiy,heq,QI.ext' he.1 he.2.1 he.2.2]
   ·rw[decide_eq_false he]
    refine Zk (hk false _ ff ⟨(fun h=>by cases h),fun h=>absurd ?_ he⟩)
    subst h;exact⟨rfl,rfl,rfl⟩
  ·refine ZB (by omega) (Zf ?_)
   rw[MC]
   refine hk true w' hf ⟨fun _=> ?_,fun _=>rfl⟩
   have a1:=List.take_of_length_le (l:=x) (i:=i) (by omega)
   have a2:=List.take_of_length_le (l:=y) (i:=i) (by omega)
   rw[←a1,heq,a2]
 ·exact Y0 (by omega) (Zk (hk false W (Fr.refl _ _) ⟨(fun h=>by cases h),fun h=>absurd (by rw[h]) hlen⟩))
end
end Go.Proofs.YtcdcojpfealppaaGreat
namespace Go.Proofs.XRow
open Go Go.ChangeShapes Go.WideShapes Go.ChangeAt Go.RowKit Go.Proofs.XRed Go.Proofs.XHeap Go.Proofs.XSlices
section
variable {H:Type} {enc:TypeId × V → H} {P:Program}
theorem JX {f:Func} {s:ChangeSpec} {apart fresh handsOn again:Bool} {W W':Y} {args:Array V} {v:V} {ds gs:List (DataW H)} {before pa pv:List MemPlace}
   (hW:DataW.Whole enc P f.params.toList s.vars apart W args.toList ds gs before) (hb:Below W.heap.size W W')
   (hres:∀(b:Nat) (sp:Nat→Bool) (hd:Bool),DataW.TrodAll enc P W' b sp hd f.resultTypes.toList (v.resultList f.resultTypes.size) (s.fn H (ds++gs)).results [])
   (hargs:∀sp:Nat→Bool,(∀p∈before,sp p.block=true)→DataW.TrodAll enc P W' 0 sp true f.params.toList args.toList (s.fn H (ds++gs)).args pa)
   (hvars:∀sp:Nat→Bool,(∀p∈before,sp p.block=true)→DataW.TrodVars enc P W' sp s.vars (s.fn H (ds++gs)).vars pv)
   (hps:before=pa++pv)
   (hok:∀(j:Nat) (t:TypeId) (r:V),f.resultTypes[j]? =some t→(v.resultList f.resultTypes.size)[j]? =some r→Value.okWide P W' .any 0 t r):
   s.post enc P f apart fresh handsOn again W args v W':=by
 have hold:∀p∈before,(fun b=>decide (b<W.heap.size)) p.block=true:=fun p hp=>by simpa using hW.lt p hp
 refine⟨ds,gs,before,[],pa,pv,hW,hres _ _ _,hargs _ hold,hvars _ hold,hb.frame _,fun _=> ?_⟩
 have hlt:=hW.lt
 obtain⟨_,_,_,_,_,hz,hn⟩:=hW
 refine⟨hok,_,_,([]++pa)++pv,⟨[]++pa,pv,trodAll_append (hargs _ (fun _ _=>rfl)) (hres _ _ _),hvars _ (fun _ _=>rfl),rfl,?_,?_⟩,?_⟩
 · intro b off hp
   have hp':MemPlace.cell b off∈before:=by rw[hps];simpa using hp
   have h1:=hz b off hp'
   have h2:b<W.heap.size:=hlt _ hp'
   unfold World.frozen? at *
   rw[hb.block _ h2]
   exact h1
 · intro ha
   have:=hn ha
   rw[hps] at this
   simpa using this
 · intro p hp _
   rw[hps]
   simpa using hp
theorem stays {t:TypeId} (hl:laidOutB P=true) (hr:P.readableRec t=true) (hrow:t<P.types.size) {W W':Y} {v:V} {d:DataW H} {ps:List MemPlace} {sp:Nat→Bool}
   (h:DataW.Trod enc P W 0 (fun _=>true) true t v d ps) (hb:Below W.heap.size W W') (hlt:∀x∈ps,x.block<W.heap.size) (hs:∀x∈ps,sp x.block=true):DataW.Trod enc P W' 0 sp true t v d ps:=
 WideElems.Trod_stays hl hr hrow h (fun x hx=>hb.same (hlt x hx)) hs
def zj8 (W:Y) (v:V) (w':Y):Prop:=v= .bool true∧Below W.heap.size W w'
theorem zlm {O:Nat→Prop} {W:Y} (hO:∀b,O b→W.heap.size≤b):∀w',Fr O W w'→zj8 W (.bool true) w':=fun w' hf=>⟨rfl,hf.RM hO (Nat.le_refl _)⟩
theorem DT {f:FuncId} {fn:Func} (hf:P.funcs[f]? =some fn) (hname:(fn.name== "runtime.NumGoroutine")=false) (hbody:fn.body.isNone=false) {args:List V} {W:Y} (h:pFn P f args W (zj8 W)):
   Calls P f args.toArray W fun e w'=>e= .returned (.bool true)∧Below W.heap.size W w':=by
 refine(Bb hf hname hbody h).mono ?_
 rintro e w' ⟨v,rfl,rfl,hb⟩
 exact⟨rfl,hb⟩
end
end Go.Proofs.XRow
