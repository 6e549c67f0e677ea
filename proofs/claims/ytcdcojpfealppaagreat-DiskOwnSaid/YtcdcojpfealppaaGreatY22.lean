/- Put together by a program (wip/tools/shake.py): OwnL. -/
import Derived.Test.YtcdcojpfealppaaGreatY21
import Derived.Test.YtcdcojpfealppaaGreatY16
import Derived.Test.YtcdcojpfealppaaGreatY17
set_option linter.unusedVariables false
set_option linter.unusedSimpArgs false
set_option maxRecDepth 100000
open Go renaming World → Y
namespace Go.Proofs.YtcdcojpfealppaaGreat
open Go Go.Proofs Go.RowKit Go.Proofs.XRed Go.Proofs.XHeap Go.Proofs.XMaps Go.Proofs.XSlices Go.Proofs.XDisk Go.Proofs.XCalls Go.Proofs.XRange Go.Proofs.XKeys Go.Proofs.XSep Tryz
section
variable {w:Y} {D:Nat} {S S':AD} {O I:Nat → Prop} {L:Lay} {k:KV}
theorem zj {c:Nat} (h:Yi w D S O I L) (ok:S.Ok c) (name:ByteArray) (hs:name.size≤9223372036854775807) (a n:Int) (hn:-9223372036854775808≤a∧a≤9223372036854775807)
   (hk:∀w' O' I' L' v,Nx w D O I w' (S.read name a n).2.2 O' I' L'→w'.ownsRow 0 5 1 v (S.read name a n).2.1.length (u8s (S.read name a n).2.1)→(∀b,Zv v=some b→w.heap.size≤b∧¬O' b∧¬I' b)→k (.tuple #[v,i64 (S.read name a n).1]) w'):pFn P 32 [ptr D,.string name,i64 a,i64 n] w k:=by
 refine Tj _ _ _ _ _ _ ?_
 unfold PZ
 refine UI h ok.room.1 name hs (ZG rfl (ZG rfl ?_))
 have fail:∀r,S.read name a n=(r,[],S)→k (.tuple #[.slice none 0 0,i64 r]) w:=by
   intro r ec
   have:=hk w O I L (.slice none 0 0) (by rw[ec];exact Nx.refl h) (by rw[ec];exact⟨rfl,.inl ⟨rfl,rfl⟩⟩) (by rintro b hb;cases hb)
   rw[ec] at this;exact this
 by_cases hl:S.look name=0
 · have hg:ZV S.shown name=some (S.of name):=by
     rcases XY S name with h|h|h|h
     · rw[h] at hl;cases hl
     · rw[h] at hl;cases hl
     · rw[h] at hl;cases hl
     · exact h.2
   have hr:reach S (S.of name):= .inl ⟨name,ZU hg⟩
   rw[if_pos hl,hl]
   have hlen:=(ok.Yk _ hr).ok.len.1
   obtain⟨sv,hv,cs,hbT,_,hsh,_⟩:=(h.things _ hr).ex
   obtain⟨A,c',rfl,hc'⟩:=hsh.1.form
   have el:S.bytes name=(S.things (S.of name)).shown:=rfl
   have beyond:(a<0∨n<0∨a>(S.bytes name).length∨n>(S.bytes name).length-a)→k (.tuple #[.slice none 0 0,i64 54]) w:=fun hbad=>
     fail 54 (by unfold AD.read;rw[if_neg (by simp[hl]),if_pos hbad])
   refine ZY rfl (Zf ?_)
   by_cases a0:a<0
   · refine ZA     a0 ?_
     repeat (first|refine Yh ?_|refine YF ?_)
     refine Zx ?_
     repeat (first|refine Yh ?_|refine YF ?_)
     refine Zx ?_
     repeat (first|refine Yh ?_|refine YF ?_)
     exact Zx (Zk (beyond (.inl a0)))
   refine ZB a0 (Zl rfl (Zl rfl ?_))
   by_cases n0:n<0
   · refine ZA     n0 (Zr       ?_)
     repeat (first|refine Yh ?_|refine YF ?_)
     refine Zx ?_
     repeat (first|refine Yh ?_|refine YF ?_)
     exact Zx (Zk (beyond (.inr (.inl n0))))
   refine ZB n0 (Zr ?_)
   refine Zl rfl (Zl rfl (Zl rfl (Zn (Zl rfl (YG (Zl rfl (Zj (v:= .slice A (S.things (S.of name)).shown.length c') (isAgg36 _) hbT rfl (Zl rfl (Yn Ya (Zl rfl ?_))))))))))
   by_cases a1:a>(S.things (S.of name)).shown.length
   · refine YQ     a1 (Zr       ?_)
     repeat (first|refine Yh ?_|refine YF ?_)
     exact Zx (Zk (beyond (.inr (.inr (.inl a1)))))
   refine YI a1 (Zr ?_)
   refine Zl rfl (Zl rfl (Zl rfl (Zn (Zl rfl (YG (Zl rfl (Zj (v:= .slice A (S.things (S.of name)).shown.length c') (isAgg36 _) hbT rfl (Zl rfl (Yn Ya (Zl rfl (Zl rfl (V8 (by omega) (Zl rfl ?_)))))))))))))
   by_cases n1:n>(S.things (S.of name)).shown.length-a
   · exact YQ n1 (Zr (Zk (beyond (.inr (.inr (.inr n1))))))
   refine YI n1 (Zr (Zf ?_))
   have hreads:=ok.reads
   have hsm:=ok.small
   refine Zn (UC (Zj (v:=L.readsv) (isAgg56 _) h.disk rfl ?_))
   refine Z9 (w':=w) (v:= .agg #[.string name,i64 a,i64 n]) (by kernel_rfl) ?_
   refine Z9 (w':=w.alloc (.cells #[.string name,i64 a,i64 n] 134)) (v:= .slice (some ⟨w.heap.size,0,none⟩) 1 1) (by kernel_rfl) ?_
   have f1:=Fr.alloc no w (.cells #[.string name,i64 a,i64 n] 134)
   have hlit:=ZQ w 0 134 3 #[.string name,i64 a,i64 n] 1 (Nat.zero_le _) (by unfold maxLen;omega) rfl
   have z1:(w.alloc (.cells #[.string name,i64 a,i64 n] 134)).heap.size=w.heap.size+1:=by simp
   show px P _ (w.alloc (.cells #[.string name,i64 a,i64 n] 134)) _
   generalize w.alloc (.cells #[.string name,i64 a,i64 n] 134)=w1 at *
   refine yA (Z4 h.reads f1 fun _ _ h=>h) (Src.Zt hlit) (by intro u hu;simp at hu;rcases hu with rfl|rfl|rfl<;>rfl) (by omega) (Nat.zero_le _) fun v' w2 h2 f2 hb2=> ?_
   have hRD:∀ {b},Zv L.readsv=some b→b≠D:=by
     rintro b hb rfl
     obtain⟨c1,h1⟩:=Z0 h.reads hb
     exact absurd (Zy h1 h.disk) (by decide)
   have hd2:=f2.get (f1.get h.disk id) (fun hb=>hRD hb.symm rfl)
   refine Zn (UC (YA (sizeOf56 _) (ZW h2).1 (ZW h2).2 hd2 (by show 10<11;decide) ?_))
   have hd3:=Z6 hd2 10 v'
   have f3:Fr (fun b=>b=D) w2 (w2.setCell ⟨D,10,none⟩ v'):=Fr.setCell w2 ⟨D,10,none⟩ v'
   have z3:(w2.setCell ⟨D,10,none⟩ v').heap.size=w2.heap.size:=by simp[World.setCell]
   show px P _ (w2.setCell ⟨D,10,none⟩ v') _
   generalize w2.setCell ⟨D,10,none⟩ v'=w3 at *
   have f13:Fr (fun b=>b=D∨Zv L.readsv=some b) w w3:=((f1.or f2).or f3).mono (by
     rintro b ((hb|hb)|hb)
     · exact hb.elim
     · exact .inl (.inr hb.symm)
     · exact .inl (.inl hb))
   have hOwn:∀b,(b=D∨Zv L.readsv=some b)→Own L D b:=by
     rintro b (hb|hb)
     · exact .inl hb
     · exact .inr (.inr (.inr (.inr hb)))
   have hTf:∀ {T rb x},VM w O I T rb x→VM w3 O I T rb x:=fun ht=>ht.stay h f13 fun b hb=> .inl (hOwn b hb)
   have hnew:∀b,Zv v'=some b→Zv L.readsv=some b∨w.heap.size<b:=by
     intro b hb
     rcases hb2 with e|e
     · left;rw[←e];exact hb
     · right;rw[e] at hb;injection hb with hb;omega
   have hv'D:∀b,Zv v'=some b→b≠D:=by
     rintro b hb rfl
     obtain⟨c1,h1⟩:=Z0 h2 hb
     exact absurd (Zy h1 hd2) (by decide)
   have hv'lt:∀b,Zv v'=some b→b<w3.heap.size:=fun b hb=>by have:=(Zu h2 hb).2;omega
   have hz:=f13.size
   have hR3:Yi w3 D { S with reads:=S.reads++[⟨name,a,n⟩]} (fun b=>O b∨Zv v'=some b) I { L with readsv:=v'}:= {
     disk:=hd3
     sh:=h.sh.fr f13 (by
       rintro (e|e)
       · obtain⟨es,c1,h1⟩:=SMap.obj h.sh;rw[e,h.disk] at h1;cases h1
       · obtain ⟨c1,h1⟩ := Z0      h.reads e
         obtain⟨es,c2,h3⟩:=SMap.obj h.sh
         rw[h1] at h3;cases h3)
     shp:=h.shp
     sf:=h.sf.fr f13 (by
       rintro (e|e)
       · obtain⟨es,c1,h1⟩:=SMap.obj h.sf;rw[e,h.disk] at h1;cases h1
       · obtain ⟨c1,h1⟩ := Z0      h.reads e
         obtain⟨es,c2,h3⟩:=SMap.obj h.sf
         rw[h1] at h3;cases h3)
     sfp:=h.sfp
     ne:=h.ne
     row:=Z4 h.row f13 (by
       rintro b hb (e|e)
       · obtain ⟨c1,h1⟩ := Z0      h.row hb
         rw[e] at h1;exact absurd (Zy h1 h.disk) (by decide)
       · obtain ⟨c1,h1⟩ := Z0      h.row hb
         obtain⟨c2,h3⟩:=Z0 h.reads e
         exact absurd (Zy h1 h3) (by decide))
     reads:=by
       have h5:=Z4 h2 f3 hv'D
       simpa[Z3,List.flatMap_append] using h5
     things:=fun t ht=>(hTf (h.things t ht)).mono (O:=O) (fun b=> .inl) fun b=>id
     inj:=h.inj
     rows:=h.rows
     oD:= .inl h.oD
     osh:= .inl h.osh
     osf:= .inl h.osf
     orow:=fun b hb=> .inl (h.orow b hb)
     oreads:=fun b hb=> .inr hb
     apart:=by
       rintro b (hb|hb) hi
       · exact h.apart b hb hi
       · rcases hnew b hb with h1 | h1
         · exact h.apart b (h.oreads b h1) hi
         · have:=h.lt b (.inr hi);omega
     lt:=by
       rintro b ((hb|hb)|hb)
       · have:=h.lt b (.inl hb);omega
       · exact hv'lt b hb
       · have:=h.lt b (.inr hb);omega}
   obtain⟨sv3,hv3,cs3,hbT3,_,hsh3,_⟩:=(hTf (h.things _ hr)).ex
   obtain⟨A3,c3,rfl,hc3⟩:=hsh3.1.form
   refine Zn (YG (Zj (v:= .slice A3 (S.things (S.of name)).shown.length c3) (isAgg36 _) hbT3 rfl (Zp (by omega) ?_)))
   refine C0 Ya (Vm _) (by omega) (by omega) (by omega) ?_
   have hcut:=Src.cut (show Src w3 (.slice A3 (S.things (S.of name)).shown.length c3) 1 _ _ from hsh3.1) (l:=a.toNat) (h':=(a+n).toNat) (by omega) (by omega)
   have e1:((u8s (S.things (S.of name)).shown).drop (a.toNat*1)).take (((a+n).toNat-a.toNat)*1)=u8s (((S.things (S.of name)).shown.drop a.toNat).take n.toNat):=by
     have:(a+n).toNat-a.toNat=n.toNat:=by omega
     rw[this,Nat.mul_one,Nat.mul_one]
     simp[u8s,List.map_take,List.map_drop]
   have e2:(a+n).toNat-a.toNat=(((S.things (S.of name)).shown.drop a.toNat).take n.toNat).length:=by simp;omega
   rw[e1,e2] at hcut
   refine Te (v:= .slice none 0 0) (xs:=[]) (n:=0) ⟨rfl,.inl ⟨rfl,rfl⟩⟩ hcut Vl (by rw[←e2];omega) (Nat.zero_le _) fun v4 w4 h4 f4 hb4=> ?_
   have ec:S.read name a n=(0,((S.things (S.of name)).shown.drop a.toNat).take n.toNat,{ S with reads:=S.reads++[⟨name,a,n⟩]}):=by
     unfold AD.read;rw[if_neg (by simp[hl]),if_neg (by rw[el];omega)];rfl
   have f4':Fr no w3 w4:=f4.mono (by rintro b hb;cases hb)
   have hS4:=h4
   rw[Nat.zero_add,List.nil_append] at hS4
   have:=hk w4 _ _ _ v4 (by
     rw[ec]
     refine⟨hR3.fr f4' fun b hb=>hb.elim,(f13.or f4').mono ?_,fun b=> .inl,fun b=>id,?_,fun b=> .inl⟩
     · rintro b (hb | hb)
       · exact .inl (h.own (hOwn b hb))
       · exact hb.elim
     · rintro b (hb | hb)
       · exact .inl hb
       · rcases hnew b hb with h1 | h1
         · exact .inl (h.oreads b h1)
         · exact .inr (by omega)) (by rw[ec];exact hS4) (by
     intro b hb
     rcases hb4 with e|e
     · rw[e] at hb;cases hb
     · rw [e] at hb; injection hb with hb
       refine⟨by omega,?_,fun hi=>by have:=h.lt b (.inr hi);omega⟩
       rintro (ho|ho)
       · have:=h.lt b (.inl ho);omega
       · have:=hv'lt b ho;omega)
   rw[ec] at this;exact this
 · refine Y0 hl (Zk (fail _ (by unfold AD.read;rw[if_pos hl])))
theorem zl {c:Nat} (h:Yi w D S O I L) (ok:S.Ok c) (p:ByteArray) (hp:∀s,Vo p s=true) (hk:∀w' v,w'.ownsRow 0 9 1 v (AD.Y2 S p).length ((AD.Y2 S p).map .string)→(∀b,Zv v=some b→w.heap.size≤b)→Fr no w w'→k v w'):pFn P 30 [ptr D,.string p] w k:=by
 refine Th _ _ _ _ ?_
 unfold PV
 refine Yw ?_
 have f1:=Fr.alloc no w (.cells #[.string p] 9)
 have b1:=Z2 w (.cells #[.string p] 9)
 have z1:(w.alloc (.cells #[.string p] 9)).heap.size=w.heap.size+1:=by simp
 show pFn P _ _ (w.alloc (.cells #[.string p] 9)) _
 generalize w.alloc (.cells #[.string p] 9)=w1 at *
 have h1:=h.fr f1 fun b hb=>hb.elim
 refine CH h1.disk ok.room.1 ?_
 unfold AD.Y2 at hk
 cases ho:S.off with
 |true=>
  rw[ho] at hk
  exact Zk (hk w1 _ ⟨rfl,.inl ⟨rfl,rfl⟩⟩ (fun b hb=>by cases hb) f1)
 |false=>
  rw[ho] at hk
  simp only[Bool.false_eq_true,if_false] at hk
  refine Zf (Zn (XF (Zj (v:= .map (some L.sh)) (isAgg54 _) h1.disk rfl ?_)))
  have hlen:=ok.turns.len.1
  refine VH Xj h1.sh h1.shp ok.shown (fun q hq=>by have:=ok.V0 q hq;unfold maxLen;omega) (by omega) fun w2 v hv hvb f2=> ?_
  refine US ?_
  have e1:Xe S.shown=(S.shown.map (·.1)).map .string:=by unfold Xe;rw[List.map_map];rfl
  have e2:S.shown.length=(S.shown.map (·.1)).length:=by simp
  rw[e1,e2] at hv
  refine Tx _ _ _ _ ?_
  unfold RE
  have hb1:=f2.get b1 id
  refine QE (Src.Zt hv) hb1 (by omega) (fun hall=> ?_) fun i0 hi0 _ hno=>absurd (hp _) (by rw[hno];simp)
  refine ZP rfl (Zk (hk w2 v ?_ (fun b hb=> ?_) ((f1.or f2).mono fun b hb=>hb.elim (fun h=>h.elim) fun h=>h.elim)))
  ·rw[List.filter_eq_self.2 hall];exact hv
  ·have:=hvb b hb;omega
theorem GV (s:ByteArray):Vo (ByteArray.mk #[]) s=true:=by
 unfold Vo
 have h0:(ByteArray.mk #[]).size=0:=rfl
 rw[decide_eq_true (by rw[h0];omega:(ByteArray.mk #[]).size≤s.size),h0]
 have:s.extract 0 0=ByteArray.mk #[]:=by
  apply ByteArray.ext;simp
 rw[decide_eq_true this];rfl
theorem NY {c:Nat} (h:Yi w D S O I L) (ok:S.Ok c) (hk:∀w' v,w'.ownsRow 0 134 3 v S.reads.length (S.reads.flatMap Z3)→(∀b,Zv v=some b→w.heap.size≤b)→Fr no w w'→k v w'):pFn P 31 [ptr D] w k:=by
 refine Ti _ _ _ ?_
 unfold PX
 have hreads:=ok.reads
 have hsm:=ok.small
 refine Vz h.disk ok.room.1 (Zf ?_)
 refine Zn (UC (Zj (v:=L.readsv) (isAgg56 _) h.disk rfl ?_))
 refine Da h.reads (by intro u hu;obtain⟨s,_,hs⟩:=List.mem_flatMap.1 hu;simp[Z3] at hs;rcases hs with rfl|rfl|rfl<;>rfl) (by omega) fun v w' f ho hb=>hk w' v ho (fun b hb'=>(hb b hb').1) f
end
end Go.Proofs.YtcdcojpfealppaaGreat
