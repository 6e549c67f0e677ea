/- Put together by a program (wip/tools/shake.py): Book,BookPut,BookF. -/
import Derived.Test.YtcdcojpfealppaaGreatY16
import Derived.Test.YtcdcojpfealppaaGreatY22
import Derived.Test.YtcdcojpfealppaaGreatY14
import Derived.Test.YtcdcojpfealppaaGreatY23
set_option linter.unusedVariables false
set_option linter.unusedSimpArgs false
set_option maxRecDepth 100000
open Go renaming World → Y, Value → V
namespace Go.Proofs.YtcdcojpfealppaaGreat
open Go Go.Proofs Go.RowKit Go.Proofs.XRed Go.Proofs.XHeap Go.Proofs.XMaps Go.Proofs.XSlices Go.Proofs.XDisk Go.Proofs.XCalls Go.Proofs.XSep Tryz
structure Ent where
 lv:V
 gv:V
 mv:V
 n:Nat
 m:Nat
def rep (n:Nat) (cs:List V):List V:=(List.replicate n cs).flatten
def upI:V→V| .int q x=> .int q (q.wrap (x+1))|v=>v
def upS:V→V| .string s=> .string (s++ByteArray.mk #[120])|v=>v
def eR (m:V):List V:=[m]
def gR (m:V):List V:=[upI m]
def eT (m:V):List V:=[m]
def gT (m:V):List V:=[upS m]
def eF (m:V):List V:=[m,.slice none 0 0]
def gF (m:V):List V:=[upS m,.slice none 0 0]
def eS (m:V):List V:=[.string noB,m,i64 0]
def gS (m:V):List V:=[.string noB,upI m,i64 0]
def Up (v:V):Prop:=∃x,v= .int .u8 x
def Xi (v:V):Prop:=∃s,v= .string s∧s.size≤16
def Uq (v:V):Prop:=∃x,v=i64 x
def ZE (te sz:Nat) (e g:V→List V) (x:Ent):Yf:=Cg te sz x.lv x.gv x.n x.m (rep x.n (e x.mv)) (rep x.m (g x.mv))
def Zg (es:List Ent):List V:=es.flatMap fun x=>[x.lv,x.gv,x.mv]
def KOk (mark:V→Prop) (N G:Nat) (es:List Ent):Prop:=es.length≤N∧∀x∈es,mark x.mv∧x.n≤2097152∧x.m≤64*G
abbrev BL (Bk:Nat) (rv tv fv sv:V) (er et ef es:List Ent):List Yf:=
 [Cells Bk #[rv,tv,fv,sv] 70,Zz 158 3 rv er.length (Zg er),Bag (er.map (ZE 5 1 eR gR)),Zz 163 3 tv et.length (Zg et),Bag (et.map (ZE 9 1 eT gT)),
  Zz 161 3 fv ef.length (Zg ef),Bag (ef.map (ZE 83 2 eF gF)),Zz 165 3 sv es.length (Zg es),Bag (es.map (ZE 134 3 eS gS))]
def Yj (Bk N G:Nat):Yf where
 h w O I:=∃rv tv fv sv er et ef es,XJ (BL Bk rv tv fv sv er et ef es) w O I∧KOk Up N G er∧KOk Xi N G et∧KOk Xi N G ef∧KOk Uq N G es
 fr:=fun⟨rv,tv,fv,sv,er,et,ef,es,h,k⟩ hf hm=>⟨rv,tv,fv,sv,er,et,ef,es,h.fr hf hm,k⟩
 lt:=fun⟨rv,tv,fv,sv,er,et,ef,es,h,k⟩=>h.lt
 ap:=fun⟨rv,tv,fv,sv,er,et,ef,es,h,k⟩=>h.ap
theorem VA {w:Y} {Bk N G:Nat} {r:List Yf} (h:Sep (Yj Bk N G::r) w):∃rv tv fv sv er et ef es,Sep (BL Bk rv tv fv sv er et ef es++r) w∧KOk Up N G er∧KOk Xi N G et∧KOk Xi N G ef∧KOk Uq N G es:=by
 obtain⟨O,I,O1,I1,O2,I2,⟨rv,tv,fv,sv,er,et,ef,es,hs,k⟩,h2,h3,h4,h5⟩:=h
 exact⟨rv,tv,fv,sv,er,et,ef,es,⟨O,I,XJ.app hs h2 h3 h4 h5⟩,k⟩
theorem XM {w:Y} {Bk N G:Nat} {r:List Yf} {rv tv fv sv:V} {er et ef es:List Ent} (h:Sep (BL Bk rv tv fv sv er et ef es++r) w) (k:KOk Up N G er∧KOk Xi N G et∧KOk Xi N G ef∧KOk Uq N G es):Sep (Yj Bk N G::r) w:=by
 obtain⟨O,I,h⟩:=h
 obtain⟨O1,I1,O2,I2,h1,h2,h3,h4,h5⟩:=h.split
 exact⟨O,I,O1,I1,O2,I2,⟨rv,tv,fv,sv,er,et,ef,es,h1,k⟩,h2,h3,h4,h5⟩
theorem KOk.mono {mark:V→Prop} {N N' G G':Nat} {es:List Ent} (h:KOk mark N G es) (hN:N≤N') (hG:G≤G'):KOk mark N' G' es:=⟨Nat.le_trans h.1 hN,fun x hx=>⟨(h.2 x hx).1,(h.2 x hx).2.1,by have:=(h.2 x hx).2.2;omega⟩⟩
theorem KOk.more {mark:V→Prop} {N G:Nat} {es:List Ent} {x:Ent} (h:KOk mark N G es) (h1:mark x.mv) (h2:x.n≤2097152) (h3:x.m=0):KOk mark (N+1) G (es++[x]):=
 ⟨by have:=h.1;simp;omega,fun y hy=>by
  rcases List.mem_append.1 hy with hy|hy
  ·exact h.2 y hy
  ·rw[List.mem_singleton.1 hy];exact⟨h1,h2,by omega⟩⟩
theorem XK (es:List Ent) (x:Ent):Zg (es++[x])=Zg es++[x.lv,x.gv,x.mv]:=by unfold Zg;rw[List.flatMap_append];rfl
theorem VT (es:List Ent):(Zg es).length=es.length*3:=by
 unfold Zg
 induction es with
 |nil=>rfl
 |cons p r ih=>rw[List.flatMap_cons,List.length_append,ih];simp;omega
theorem YS {es:List Ent} {i:Nat} (hi:i<es.length):(Zg es)[i*3]? =some es[i].lv∧(Zg es)[i*3+1]? =some es[i].gv∧(Zg es)[i*3+2]? =some es[i].mv:=by
 have key:=fun j (hj:j<3)=>Vf (f:=fun x:Ent=>[x.lv,x.gv,x.mv]) (n:=3) (fun _=>rfl) (l:=es) (i:=i) (j:=j) (a:=es[i]) (by simp[hi]) hj
 exact⟨by have:=key 0 (by omega);simpa[Zg] using this,by have:=key 1 (by omega);simpa[Zg] using this,by have:=key 2 (by omega);simpa[Zg] using this⟩
theorem VB (n:Nat) (cs:List V):(rep n cs).length=n*cs.length:=by unfold rep;simp
theorem HJ (n:Nat) (m:V):rep n [m]=List.replicate n m:=by
 unfold rep
 induction n with
 |zero=>rfl
 |succ n ih=>rw[List.replicate_succ,List.flatten_cons,ih,List.replicate_succ];rfl
theorem Ua (n:Nat) (cs:List V):rep (n+1) cs=rep n cs++cs:=by unfold rep;rw[List.replicate_succ',List.flatten_append];simp
theorem Qv (cs:List V):rep 0 cs=[]:=rfl
theorem SL {n i j:Nat} {cs:List V} (hi:i<n) (hj:j<cs.length):(rep n cs)[i*cs.length+j]? =cs[j]? :=by
 induction n with
 |zero=>omega
 |succ n ih=>
  rw[Ua]
  rcases Nat.lt_or_ge i n with h|h
  ·have:i*cs.length+j<n*cs.length:=by
    have:(i+1)*cs.length≤n*cs.length:=Nat.mul_le_mul_right _ h
    rw[Nat.succ_mul] at this;omega
   rw[List.getElem?_append_left (by rw[VB];exact this),ih h]
  ·have:i=n:=by omega
   subst this
   rw[List.getElem?_append_right (by rw[VB];omega),VB]
   congr 1;omega
theorem Df {n i sz:Nat} {cs e:List V} (hc:cs.length=n*sz) (he:e.length=sz) (hi:i<n):(rep i e++cs.drop (i*sz)).take (i*sz)++e++(rep i e++cs.drop (i*sz)).drop (i*sz+sz)=rep (i+1) e++cs.drop ((i+1)*sz):=by
 have hr:(rep i e).length=i*sz:=by rw[VB,he]
 rw[List.take_append_of_le_length (by omega),List.take_of_length_le (by omega),Ua]
 congr 1
 rw[List.drop_append,List.drop_eq_nil_of_le (by omega),List.nil_append,hr,List.drop_drop,Nat.succ_mul]
 congr 1;omega
theorem Dg {n i:Nat} {cs:List V} {m:V} (hc:cs.length=n) (hi:i<n):(rep i [m]++cs.drop i).set i m=rep (i+1) [m]++cs.drop (i+1):=by
 rw[HJ,HJ,List.set_append_right _ _ (by simp),List.length_replicate,Nat.sub_self,List.drop_eq_getElem_cons (by omega),List.set_cons_zero,List.replicate_succ']
 simp
section
variable {w:Y} {k:KV}
theorem Ao {x:Int} (hk:k (.int .u8 (IntKind.u8.wrap x)) w):px P (convert 3 5 (i64 x)) w k:=Z9 (w':=w) (v:= .int .u8 (IntKind.u8.wrap x)) (by kernel_rfl) hk
theorem wrap_u8 (z:Int):∃x:UInt8,IntKind.u8.wrap z=(x.toNat:Int):=by
 have h:IntKind.u8.wrap z=z%256:=by simp[IntKind.wrap,IntKind.signed,IntKind.bits]
 refine⟨UInt8.ofNat (z%256).toNat,?_⟩
 have h1:=Int.emod_nonneg z (show (256:Int)≠0 by omega)
 have h2:=Int.emod_lt_of_pos z (show (0:Int)<256 by omega)
 rw[h]
 have:(UInt8.ofNat (z%256).toNat).toNat=(z%256).toNat:=by simp;omega
 rw[this];omega
theorem SM {x:Int} (hk:∀w' s,Fr no w w'→s.size≤16→k (.string s) w'):pFn P 95 [i64 x] w k:=by
 refine uh _ _ _ ?_
 unfold TR
 refine Eb (by omega) (Jp (Ao (jn (by omega) (Eb (by omega) (Jp (Ao (jn (by omega) (Eb (by omega) (Jp (Ao ?_))))))))))
 obtain⟨a,ha⟩:=wrap_u8 (IntKind.i64.wrap (97+x.tmod 26))
 obtain⟨b,hb⟩:=wrap_u8 (IntKind.i64.wrap (97+(IntKind.i64.wrap (x.tdiv 26)).tmod 26))
 obtain⟨c,hc⟩:=wrap_u8 (IntKind.i64.wrap (97+(IntKind.i64.wrap (x.tdiv 676)).tmod 26))
 rw[ha,hb,hc]
 refine Z9 (w':=w.alloc (.cells #[.int .u8 a.toNat,.int .u8 b.toNat,.int .u8 c.toNat] 5)) (v:= .slice (some ⟨w.heap.size,0,none⟩) 3 3) (by kernel_rfl) ?_
 have f1:=Fr.alloc no w (.cells #[.int .u8 a.toNat,.int .u8 b.toNat,.int .u8 c.toNat] 5)
 have b1:=Z2 w (.cells #[.int .u8 a.toNat,.int .u8 b.toNat,.int .u8 c.toNat] 5)
 show px P _ (w.alloc (.cells #[.int .u8 a.toNat,.int .u8 b.toNat,.int .u8 c.toNat] 5)) _
 generalize w.alloc (.cells #[.int .u8 a.toNat,.int .u8 b.toNat,.int .u8 c.toNat] 5)=w1 at *
 have hS:Z5 w1 (.slice (some ⟨w.heap.size,0,none⟩) 3 3) [a,b,c]:=Z5.blk (c:=3) (bs:=[a,b,c]) b1 (by simp)
 exact UK hS (by simp) (hk w1 _ f1 (by show (3:Nat)≤16;decide))
end
section
variable {w:Y} {k:KV} {Bk N G n:Nat} {v:V} {cs:List V} {r:List Yf}
theorem jY {t:TypeId} {v:V} {g n c i:Nat} (ev:v= .slice (some ⟨g,0,none⟩) n c) (h:P.underlying t=some (.slice (P.elem t))) (hs:(sizeOf (P.elem t)).run P w= .ok 1 w) (hi:i<n) (hk:k (.pointer (some ⟨g,i,none⟩)) w):px P (Instr.indexAt t v (i64 i)) w k:=by
 subst ev;exact Vu (i:=(i:Int)) h hs (by omega) (by omega) (by simpa using hk)
theorem yc {t:TypeId} {v:V} {g n c i sz:Nat} (ev:v= .slice (some ⟨g,0,none⟩) n c) (h:P.underlying t=some (.slice (P.elem t))) (hs:(sizeOf (P.elem t)).run P w= .ok sz w) (hi:i<n) (hk:k (.pointer (some ⟨g,i*sz,none⟩)) w):px P (Instr.indexAt t v (i64 i)) w k:=by
 subst ev;exact Vu (i:=(i:Int)) h hs (by omega) (by omega) (by simpa using hk)
theorem zln {rv tv fv sv:V} {er et ef es:List Ent} {x:Ent}:BL Bk rv tv fv sv (er++[x]) et ef es=[Cells Bk #[rv,tv,fv,sv] 70,Zz 158 3 rv (er.length+1) (Zg er++[x.lv,x.gv,x.mv]),Bag (er.map (ZE 5 1 eR gR)++[ZE 5 1 eR gR x]),Zz 163 3 tv et.length (Zg et),Bag (et.map (ZE 9 1 eT gT)),Zz 161 3 fv ef.length (Zg ef),Bag (ef.map (ZE 83 2 eF gF)),Zz 165 3 sv es.length (Zg es),Bag (es.map (ZE 134 3 eS gS))]:=by simp[BL,XK]
theorem zlo {rv tv fv sv:V} {er et ef es:List Ent} {x:Ent}:BL Bk rv tv fv sv er (et++[x]) ef es=[Cells Bk #[rv,tv,fv,sv] 70,Zz 158 3 rv er.length (Zg er),Bag (er.map (ZE 5 1 eR gR)),Zz 163 3 tv (et.length+1) (Zg et++[x.lv,x.gv,x.mv]),Bag (et.map (ZE 9 1 eT gT)++[ZE 9 1 eT gT x]),Zz 161 3 fv ef.length (Zg ef),Bag (ef.map (ZE 83 2 eF gF)),Zz 165 3 sv es.length (Zg es),Bag (es.map (ZE 134 3 eS gS))]:=by simp[BL,XK]
theorem zlp {rv tv fv sv:V} {er et ef es:List Ent} {x:Ent}:BL Bk rv tv fv sv er et (ef++[x]) es=[Cells Bk #[rv,tv,fv,sv] 70,Zz 158 3 rv er.length (Zg er),Bag (er.map (ZE 5 1 eR gR)),Zz 163 3 tv et.length (Zg et),Bag (et.map (ZE 9 1 eT gT)),Zz 161 3 fv (ef.length+1) (Zg ef++[x.lv,x.gv,x.mv]),Bag (ef.map (ZE 83 2 eF gF)++[ZE 83 2 eF gF x]),Zz 165 3 sv es.length (Zg es),Bag (es.map (ZE 134 3 eS gS))]:=by simp[BL,XK]
theorem zlq {rv tv fv sv:V} {er et ef es:List Ent} {x:Ent}:BL Bk rv tv fv sv er et ef (es++[x])=[Cells Bk #[rv,tv,fv,sv] 70,Zz 158 3 rv er.length (Zg er),Bag (er.map (ZE 5 1 eR gR)),Zz 163 3 tv et.length (Zg et),Bag (et.map (ZE 9 1 eT gT)),Zz 161 3 fv ef.length (Zg ef),Bag (ef.map (ZE 83 2 eF gF)),Zz 165 3 sv (es.length+1) (Zg es++[x.lv,x.gv,x.mv]),Bag (es.map (ZE 134 3 eS gS)++[ZE 134 3 eS gS x])]:=by simp[BL,XK]
theorem zfw {tv fv sv v' mk:V} {er et ef es:List Ent} (hS:Sep (Cells Bk #[v',tv,fv,sv] 70::Zz 158 3 v' (er.length+1) (Zg er++[v,v,mk])::Bag (er.map (ZE 5 1 eR gR))::Zz 163 3 tv et.length (Zg et)::Bag (et.map (ZE 9 1 eT gT))::Zz 161 3 fv ef.length (Zg ef)::Bag (ef.map (ZE 83 2 eF gF))::Zz 165 3 sv es.length (Zg es)::Bag (es.map (ZE 134 3 eS gS))::Zz 5 1 v n (rep n (eR mk))::r) w) (hm:Up mk) (hn:n≤2097152) (k1:KOk Up N G er) (k2:KOk Xi N G et) (k3:KOk Xi N G ef) (k4:KOk Uq N G es):Sep (Yj Bk (N+1) G::r) w:=by
 have h9:Sep (Zz 5 1 v n (rep n (eR mk))::(Cells Bk #[v',tv,fv,sv] 70::Zz 158 3 v' (er.length+1) (Zg er++[v,v,mk])::Bag (er.map (ZE 5 1 eR gR))::Zz 163 3 tv et.length (Zg et)::Bag (et.map (ZE 9 1 eT gT))::Zz 161 3 fv ef.length (Zg ef)::Bag (ef.map (ZE 83 2 eF gF))::Zz 165 3 sv es.length (Zg es)::Bag (es.map (ZE 134 3 eS gS))::r)) w:=hS.front 9 rfl
 have h10:Sep (ZE 5 1 eR gR ⟨v,v,mk,n,0⟩::(Cells Bk #[v',tv,fv,sv] 70::Zz 158 3 v' (er.length+1) (Zg er++[v,v,mk])::Bag (er.map (ZE 5 1 eR gR))::Zz 163 3 tv et.length (Zg et)::Bag (et.map (ZE 9 1 eT gT))::Zz 161 3 fv ef.length (Zg ef)::Bag (ef.map (ZE 83 2 eF gF))::Zz 165 3 sv es.length (Zg es)::Bag (es.map (ZE 134 3 eS gS))::r)) w:=h9.ent (by decide)
 have h11:Sep (Bag (er.map (ZE 5 1 eR gR))::ZE 5 1 eR gR ⟨v,v,mk,n,0⟩::(Cells Bk #[v',tv,fv,sv] 70::Zz 158 3 v' (er.length+1) (Zg er++[v,v,mk])::Zz 163 3 tv et.length (Zg et)::Bag (et.map (ZE 9 1 eT gT))::Zz 161 3 fv ef.length (Zg ef)::Bag (ef.map (ZE 83 2 eF gF))::Zz 165 3 sv es.length (Zg es)::Bag (es.map (ZE 134 3 eS gS))::r)) w:=h10.front 3 rfl
 have h12:Sep (Bag (er.map (ZE 5 1 eR gR)++[ZE 5 1 eR gR ⟨v,v,mk,n,0⟩])::(Cells Bk #[v',tv,fv,sv] 70::Zz 158 3 v' (er.length+1) (Zg er++[v,v,mk])::Zz 163 3 tv et.length (Zg et)::Bag (et.map (ZE 9 1 eT gT))::Zz 161 3 fv ef.length (Zg ef)::Bag (ef.map (ZE 83 2 eF gF))::Zz 165 3 sv es.length (Zg es)::Bag (es.map (ZE 134 3 eS gS))::r)) w:=(h11.perm (List.Perm.swap _ _ _)).more
 have h13:Sep (Cells Bk #[v',tv,fv,sv] 70::Zz 158 3 v' (er.length+1) (Zg er++[v,v,mk])::Bag (er.map (ZE 5 1 eR gR)++[ZE 5 1 eR gR ⟨v,v,mk,n,0⟩])::Zz 163 3 tv et.length (Zg et)::Bag (et.map (ZE 9 1 eT gT))::Zz 161 3 fv ef.length (Zg ef)::Bag (ef.map (ZE 83 2 eF gF))::Zz 165 3 sv es.length (Zg es)::Bag (es.map (ZE 134 3 eS gS))::r) w:=h12.E5 2
 have h14:Sep (BL Bk v' tv fv sv (er++[⟨v,v,mk,n,0⟩]) et ef es++r) w:=by rw[zln];exact h13
 refine XM h14 ⟨k1.more hm hn rfl,k2.mono (Nat.le_succ _) (Nat.le_refl _),k3.mono (Nat.le_succ _) (Nat.le_refl _),k4.mono (Nat.le_succ _) (Nat.le_refl _)⟩
theorem zfx {rv fv sv v' mk:V} {er et ef es:List Ent} (hS:Sep (Cells Bk #[rv,v',fv,sv] 70::Zz 158 3 rv er.length (Zg er)::Bag (er.map (ZE 5 1 eR gR))::Zz 163 3 v' (et.length+1) (Zg et++[v,v,mk])::Bag (et.map (ZE 9 1 eT gT))::Zz 161 3 fv ef.length (Zg ef)::Bag (ef.map (ZE 83 2 eF gF))::Zz 165 3 sv es.length (Zg es)::Bag (es.map (ZE 134 3 eS gS))::Zz 9 1 v n (rep n (eT mk))::r) w) (hm:Xi mk) (hn:n≤2097152) (k1:KOk Up N G er) (k2:KOk Xi N G et) (k3:KOk Xi N G ef) (k4:KOk Uq N G es):Sep (Yj Bk (N+1) G::r) w:=by
 have h9:Sep (Zz 9 1 v n (rep n (eT mk))::(Cells Bk #[rv,v',fv,sv] 70::Zz 158 3 rv er.length (Zg er)::Bag (er.map (ZE 5 1 eR gR))::Zz 163 3 v' (et.length+1) (Zg et++[v,v,mk])::Bag (et.map (ZE 9 1 eT gT))::Zz 161 3 fv ef.length (Zg ef)::Bag (ef.map (ZE 83 2 eF gF))::Zz 165 3 sv es.length (Zg es)::Bag (es.map (ZE 134 3 eS gS))::r)) w:=hS.front 9 rfl
 have h10:Sep (ZE 9 1 eT gT ⟨v,v,mk,n,0⟩::(Cells Bk #[rv,v',fv,sv] 70::Zz 158 3 rv er.length (Zg er)::Bag (er.map (ZE 5 1 eR gR))::Zz 163 3 v' (et.length+1) (Zg et++[v,v,mk])::Bag (et.map (ZE 9 1 eT gT))::Zz 161 3 fv ef.length (Zg ef)::Bag (ef.map (ZE 83 2 eF gF))::Zz 165 3 sv es.length (Zg es)::Bag (es.map (ZE 134 3 eS gS))::r)) w:=h9.ent (by decide)
 have h11:Sep (Bag (et.map (ZE 9 1 eT gT))::ZE 9 1 eT gT ⟨v,v,mk,n,0⟩::(Cells Bk #[rv,v',fv,sv] 70::Zz 158 3 rv er.length (Zg er)::Bag (er.map (ZE 5 1 eR gR))::Zz 163 3 v' (et.length+1) (Zg et++[v,v,mk])::Zz 161 3 fv ef.length (Zg ef)::Bag (ef.map (ZE 83 2 eF gF))::Zz 165 3 sv es.length (Zg es)::Bag (es.map (ZE 134 3 eS gS))::r)) w:=h10.front 5 rfl
 have h12:Sep (Bag (et.map (ZE 9 1 eT gT)++[ZE 9 1 eT gT ⟨v,v,mk,n,0⟩])::(Cells Bk #[rv,v',fv,sv] 70::Zz 158 3 rv er.length (Zg er)::Bag (er.map (ZE 5 1 eR gR))::Zz 163 3 v' (et.length+1) (Zg et++[v,v,mk])::Zz 161 3 fv ef.length (Zg ef)::Bag (ef.map (ZE 83 2 eF gF))::Zz 165 3 sv es.length (Zg es)::Bag (es.map (ZE 134 3 eS gS))::r)) w:=(h11.perm (List.Perm.swap _ _ _)).more
 have h13:Sep (Cells Bk #[rv,v',fv,sv] 70::Zz 158 3 rv er.length (Zg er)::Bag (er.map (ZE 5 1 eR gR))::Zz 163 3 v' (et.length+1) (Zg et++[v,v,mk])::Bag (et.map (ZE 9 1 eT gT)++[ZE 9 1 eT gT ⟨v,v,mk,n,0⟩])::Zz 161 3 fv ef.length (Zg ef)::Bag (ef.map (ZE 83 2 eF gF))::Zz 165 3 sv es.length (Zg es)::Bag (es.map (ZE 134 3 eS gS))::r) w:=h12.E5 4
 have h14:Sep (BL Bk rv v' fv sv er (et++[⟨v,v,mk,n,0⟩]) ef es++r) w:=by rw[zlo];exact h13
 refine XM h14 ⟨k1.mono (Nat.le_succ _) (Nat.le_refl _),k2.more hm hn rfl,k3.mono (Nat.le_succ _) (Nat.le_refl _),k4.mono (Nat.le_succ _) (Nat.le_refl _)⟩
theorem zfy {rv tv sv v' mk:V} {er et ef es:List Ent} (hS:Sep (Cells Bk #[rv,tv,v',sv] 70::Zz 158 3 rv er.length (Zg er)::Bag (er.map (ZE 5 1 eR gR))::Zz 163 3 tv et.length (Zg et)::Bag (et.map (ZE 9 1 eT gT))::Zz 161 3 v' (ef.length+1) (Zg ef++[v,v,mk])::Bag (ef.map (ZE 83 2 eF gF))::Zz 165 3 sv es.length (Zg es)::Bag (es.map (ZE 134 3 eS gS))::Zz 83 2 v n (rep n (eF mk))::r) w) (hm:Xi mk) (hn:n≤2097152) (k1:KOk Up N G er) (k2:KOk Xi N G et) (k3:KOk Xi N G ef) (k4:KOk Uq N G es):Sep (Yj Bk (N+1) G::r) w:=by
 have h9:Sep (Zz 83 2 v n (rep n (eF mk))::(Cells Bk #[rv,tv,v',sv] 70::Zz 158 3 rv er.length (Zg er)::Bag (er.map (ZE 5 1 eR gR))::Zz 163 3 tv et.length (Zg et)::Bag (et.map (ZE 9 1 eT gT))::Zz 161 3 v' (ef.length+1) (Zg ef++[v,v,mk])::Bag (ef.map (ZE 83 2 eF gF))::Zz 165 3 sv es.length (Zg es)::Bag (es.map (ZE 134 3 eS gS))::r)) w:=hS.front 9 rfl
 have h10:Sep (ZE 83 2 eF gF ⟨v,v,mk,n,0⟩::(Cells Bk #[rv,tv,v',sv] 70::Zz 158 3 rv er.length (Zg er)::Bag (er.map (ZE 5 1 eR gR))::Zz 163 3 tv et.length (Zg et)::Bag (et.map (ZE 9 1 eT gT))::Zz 161 3 v' (ef.length+1) (Zg ef++[v,v,mk])::Bag (ef.map (ZE 83 2 eF gF))::Zz 165 3 sv es.length (Zg es)::Bag (es.map (ZE 134 3 eS gS))::r)) w:=h9.ent (by decide)
 have h11:Sep (Bag (ef.map (ZE 83 2 eF gF))::ZE 83 2 eF gF ⟨v,v,mk,n,0⟩::(Cells Bk #[rv,tv,v',sv] 70::Zz 158 3 rv er.length (Zg er)::Bag (er.map (ZE 5 1 eR gR))::Zz 163 3 tv et.length (Zg et)::Bag (et.map (ZE 9 1 eT gT))::Zz 161 3 v' (ef.length+1) (Zg ef++[v,v,mk])::Zz 165 3 sv es.length (Zg es)::Bag (es.map (ZE 134 3 eS gS))::r)) w:=h10.front 7 rfl
 have h12:Sep (Bag (ef.map (ZE 83 2 eF gF)++[ZE 83 2 eF gF ⟨v,v,mk,n,0⟩])::(Cells Bk #[rv,tv,v',sv] 70::Zz 158 3 rv er.length (Zg er)::Bag (er.map (ZE 5 1 eR gR))::Zz 163 3 tv et.length (Zg et)::Bag (et.map (ZE 9 1 eT gT))::Zz 161 3 v' (ef.length+1) (Zg ef++[v,v,mk])::Zz 165 3 sv es.length (Zg es)::Bag (es.map (ZE 134 3 eS gS))::r)) w:=(h11.perm (List.Perm.swap _ _ _)).more
 have h13:Sep (Cells Bk #[rv,tv,v',sv] 70::Zz 158 3 rv er.length (Zg er)::Bag (er.map (ZE 5 1 eR gR))::Zz 163 3 tv et.length (Zg et)::Bag (et.map (ZE 9 1 eT gT))::Zz 161 3 v' (ef.length+1) (Zg ef++[v,v,mk])::Bag (ef.map (ZE 83 2 eF gF)++[ZE 83 2 eF gF ⟨v,v,mk,n,0⟩])::Zz 165 3 sv es.length (Zg es)::Bag (es.map (ZE 134 3 eS gS))::r) w:=h12.E5 6
 have h14:Sep (BL Bk rv tv v' sv er et (ef++[⟨v,v,mk,n,0⟩]) es++r) w:=by rw[zlp];exact h13
 refine XM h14 ⟨k1.mono (Nat.le_succ _) (Nat.le_refl _),k2.mono (Nat.le_succ _) (Nat.le_refl _),k3.more hm hn rfl,k4.mono (Nat.le_succ _) (Nat.le_refl _)⟩
theorem zfz {rv tv fv v' mk:V} {er et ef es:List Ent} (hS:Sep (Cells Bk #[rv,tv,fv,v'] 70::Zz 158 3 rv er.length (Zg er)::Bag (er.map (ZE 5 1 eR gR))::Zz 163 3 tv et.length (Zg et)::Bag (et.map (ZE 9 1 eT gT))::Zz 161 3 fv ef.length (Zg ef)::Bag (ef.map (ZE 83 2 eF gF))::Zz 165 3 v' (es.length+1) (Zg es++[v,v,mk])::Bag (es.map (ZE 134 3 eS gS))::Zz 134 3 v n (rep n (eS mk))::r) w) (hm:Uq mk) (hn:n≤2097152) (k1:KOk Up N G er) (k2:KOk Xi N G et) (k3:KOk Xi N G ef) (k4:KOk Uq N G es):Sep (Yj Bk (N+1) G::r) w:=by
 have h9:Sep (Zz 134 3 v n (rep n (eS mk))::(Cells Bk #[rv,tv,fv,v'] 70::Zz 158 3 rv er.length (Zg er)::Bag (er.map (ZE 5 1 eR gR))::Zz 163 3 tv et.length (Zg et)::Bag (et.map (ZE 9 1 eT gT))::Zz 161 3 fv ef.length (Zg ef)::Bag (ef.map (ZE 83 2 eF gF))::Zz 165 3 v' (es.length+1) (Zg es++[v,v,mk])::Bag (es.map (ZE 134 3 eS gS))::r)) w:=hS.front 9 rfl
 have h10:Sep (ZE 134 3 eS gS ⟨v,v,mk,n,0⟩::(Cells Bk #[rv,tv,fv,v'] 70::Zz 158 3 rv er.length (Zg er)::Bag (er.map (ZE 5 1 eR gR))::Zz 163 3 tv et.length (Zg et)::Bag (et.map (ZE 9 1 eT gT))::Zz 161 3 fv ef.length (Zg ef)::Bag (ef.map (ZE 83 2 eF gF))::Zz 165 3 v' (es.length+1) (Zg es++[v,v,mk])::Bag (es.map (ZE 134 3 eS gS))::r)) w:=h9.ent (by decide)
 have h11:Sep (Bag (es.map (ZE 134 3 eS gS))::ZE 134 3 eS gS ⟨v,v,mk,n,0⟩::(Cells Bk #[rv,tv,fv,v'] 70::Zz 158 3 rv er.length (Zg er)::Bag (er.map (ZE 5 1 eR gR))::Zz 163 3 tv et.length (Zg et)::Bag (et.map (ZE 9 1 eT gT))::Zz 161 3 fv ef.length (Zg ef)::Bag (ef.map (ZE 83 2 eF gF))::Zz 165 3 v' (es.length+1) (Zg es++[v,v,mk])::r)) w:=h10.front 9 rfl
 have h12:Sep (Bag (es.map (ZE 134 3 eS gS)++[ZE 134 3 eS gS ⟨v,v,mk,n,0⟩])::(Cells Bk #[rv,tv,fv,v'] 70::Zz 158 3 rv er.length (Zg er)::Bag (er.map (ZE 5 1 eR gR))::Zz 163 3 tv et.length (Zg et)::Bag (et.map (ZE 9 1 eT gT))::Zz 161 3 fv ef.length (Zg ef)::Bag (ef.map (ZE 83 2 eF gF))::Zz 165 3 v' (es.length+1) (Zg es++[v,v,mk])::r)) w:=(h11.perm (List.Perm.swap _ _ _)).more
 have h13:Sep (Cells Bk #[rv,tv,fv,v'] 70::Zz 158 3 rv er.length (Zg er)::Bag (er.map (ZE 5 1 eR gR))::Zz 163 3 tv et.length (Zg et)::Bag (et.map (ZE 9 1 eT gT))::Zz 161 3 fv ef.length (Zg ef)::Bag (ef.map (ZE 83 2 eF gF))::Zz 165 3 v' (es.length+1) (Zg es++[v,v,mk])::Bag (es.map (ZE 134 3 eS gS)++[ZE 134 3 eS gS ⟨v,v,mk,n,0⟩])::r) w:=h12.E5 8
 have h14:Sep (BL Bk rv tv fv v' er et ef (es++[⟨v,v,mk,n,0⟩])++r) w:=by rw[zlq];exact h13
 refine XM h14 ⟨k1.mono (Nat.le_succ _) (Nat.le_refl _),k2.mono (Nat.le_succ _) (Nat.le_refl _),k3.mono (Nat.le_succ _) (Nat.le_refl _),k4.more hm hn rfl⟩
theorem b_R (hS:Sep (Yj Bk N G::Zz 5 1 v n cs::r) w) (hn:n≤2097152) (hN:N≤1099511627) (hk:∀w',Sep (Yj Bk (N+1) G::r) w'→k (.tuple #[]) w'):pFn P 36 [ptr Bk,v] w k:=by
 obtain⟨rv,tv,fv,sv,er,et,ef,es,hS,k1,k2,k3,k4⟩:=VA hS
 have hcl:cs.length=n*1:=(hS.own 9 rfl).1
 have hlen:er.length≤N:=k1.1
 refine jy _ _ _ _ ?_
 unfold zm
 refine Zn (UD (Zj (v:=rv) (isAgg65 _) (hS.cells 0 rfl) rfl (ZF CD (Src.Zt (hS.own 1 rfl)) ?_)))
 refine Eb (by omega) (Ea (Jp (Ao ?_)))
 generalize IntKind.u8.wrap _=x
 have hm:Up (.int .u8 x):=⟨x,rfl⟩
 obtain⟨A,c,evv,-⟩:∃A c,v= .slice A n c∧n≤c:=by obtain⟨A,c,e,h,_⟩:=Src.Zt (hS.own 9 rfl);exact⟨A,c,e,h⟩
 refine Z9 (w':=w) (v:= .agg #[v,v,(.int .u8 x)]) (by rw[evv];kernel_rfl) (Y9 (zeroValue158 _) ?_)
 have f1:=Fr.alloc no w (.cells #[.slice none 0 0,.slice none 0 0,.int .u8 0] 158)
 have b1:=Z2 w (.cells #[.slice none 0 0,.slice none 0 0,.int .u8 0] 158)
 have z1:(w.alloc (.cells #[.slice none 0 0,.slice none 0 0,.int .u8 0] 158)).heap.size=w.heap.size+1:=by simp
 show pu P _ (w.alloc (.cells #[.slice none 0 0,.slice none 0 0,.int .u8 0] 158)) _
 generalize w.alloc (.cells #[.slice none 0 0,.slice none 0 0,.int .u8 0] 158)=w2 at *
 have hv1:v.oneCell'=true:=by rw[evv];rfl
 refine Va (n:=3) (vs:=[v,v,(.int .u8 x)]) (sizeOf158 _) rfl (by intro u hu;simp at hu;rcases hu with rfl|rfl;exact hv1;rfl) b1 (by show 0+3≤3;decide) fun w3 h3 f3 z3=> ?_
 have h3:w3.heap[w.heap.size]? =some (.cells #[v,v,(.int .u8 x)] 158 (0,0)):=by rw[h3];simp
 have hS3:Sep (Cells w.heap.size #[v,v,(.int .u8 x)] 158::(BL Bk rv tv fv sv er et ef es++Zz 5 1 v n (cs)::r)) w3:=
  hS.new (M:=fun b=>b=w.heap.size) (O':=fun b=>b=w.heap.size) (I':=fun _=>False) ((f1.or f3).mono fun b hb=> .inl (hb.elim (fun h=>h.elim) id)) (fun b hb=>by omega) ⟨h3,fun _=>Iff.rfl,fun _ h=>h⟩ (fun b hb=>by omega) fun b hb=>hb.elim
 generalize w.heap.size=X at *
 clear f1 b1 z1 f3 z3 h3 hS
 refine GW (m:=n) k (fun m ρ w'=>∃i:Nat,i+m=n∧Sep (Cells X #[v,v,(.int .u8 x)] 158::(BL Bk rv tv fv sv er et ef es++Zz 5 1 v n (rep i (eR (.int .u8 x))++cs.drop (i*1))::r)) w'∧ρ 0=ptr Bk∧ρ 1=v∧ρ 4=ptr X∧ρ 5=i64 i) ?_
  ⟨0,by omega,by rw[Nat.zero_mul,List.drop_zero];exact hS3,rfl,rfl,rfl,rfl⟩
 rintro m ρ w' ⟨i,him,hS,e0,e1,e4,e5⟩
 rw[Oe]
 unfold jx
 rw[e1,e4,e5]
 refine ZF Ya (Src.Zt (hS.own 10 rfl)) ?_
 by_cases hi:i<n
 ·refine ZA (by omega) (Zk (Ja (Zj (v:=(.int .u8 x)) (isAgg5 _) (hS.cells 0 rfl) rfl ?_)))
  obtain⟨g,cap,cur,ev,hg,hic,hset⟩:=hS.T8 10 rfl hi
  refine jY ev Ya (Vm _) hi (YA (sizeOf5 _) rfl rfl hg hic (Zp (by omega) ⟨m-1,by omega,i+1,by omega,?_,e0,e1,e4,?_⟩))
  ·have h5:=hset (.int .u8 x)
   rw[Nat.mul_one,show eR (.int .u8 x)=[(.int .u8 x)] from rfl,Dg (by simpa using hcl) hi] at h5
   rw[Nat.mul_one]
   exact h5
  ·show i64 _=i64 _;simp
 ·refine ZB (by omega) (Zf ?_)
  rw[Og]
  suffices hs:∀ρ2:Env,ρ2 0=ptr Bk→ρ2 4=ptr X→zn k ρ2 w' from hs _ e0 e4
  intro ρ2 a0 a4
  unfold zn
  rw[a0,a4]
  have hin:i=n:=by omega
  subst hin
  rw[List.drop_eq_nil_of_le (by omega),List.append_nil] at hS
  have hSd:=hS.q (Fr.drew _ w')
  generalize w'.drew=w1 at *
  refine⟨fun u=>u.heap[Bk]? =some (.cells #[rv,tv,fv,sv] 70 (0,0))∧u.heap[X]? =some (.cells #[v,v,(.int .u8 x)] 158 (0,0)),⟨hSd.cells 1 rfl,hSd.cells 0 rfl⟩,?_⟩
  refine Zi _ (fun w_ hS=>Zn ⟨rfl,rfl⟩) (Zi _ (fun w_ hS=>UD ⟨rfl,rfl⟩) (Zi rv (fun w_ hS=>Zj (isAgg65 _) hS.1 rfl ⟨rfl,rfl⟩) ?_))
  refine Zi (.agg #[v,v,(.int .u8 x)]) (fun w_ hS=>Xm (isAgg158 _) (sizeOf158 _) hS.2 (by show 0+3≤3;decide) ⟨rfl,rfl⟩) ?_
  refine Z9 (w':=w1.alloc (.cells #[v,v,(.int .u8 x)] 158)) (v:= .slice (some ⟨w1.heap.size,0,none⟩) 1 1) (by rw[evv];kernel_rfl) ?_
  have f2:=Fr.alloc no w1 (.cells #[v,v,(.int .u8 x)] 158)
  have ho:=ZQ w1 0 158 3 #[v,v,(.int .u8 x)] 1 (Nat.zero_le _) (by unfold maxLen;omega) rfl
  generalize w1.alloc (.cells #[v,v,(.int .u8 x)] 158)=w2 at *
  have hS2:=hSd.q f2
  refine⟨⟨hS2.cells 1 rfl,hS2.cells 0 rfl⟩,?_⟩
  refine zlx (hS2.own 2 rfl) (Src.Zt ho) (by intro u hu;simp at hu;rcases hu with rfl|rfl;exact hv1;rfl) (by omega) (Nat.zero_le _) fun v' w4 h4 f4 hb4=> ?_
  have hS4:=hS2.Cd 2 rfl h4 f4 hb4
  refine⟨⟨hS4.cells 1 rfl,hS4.cells 0 rfl⟩,Zi _ (fun w_ hS=>Zn ⟨rfl,rfl⟩) (Zi _ (fun w_ hS=>UD ⟨rfl,rfl⟩) ?_)⟩
  have hb4c:=hS4.cells 1 rfl
  refine YA (sizeOf65 _) (ZW h4).1 (ZW h4).2 hb4c (by show 0<4;decide) ?_
  have hS5:Sep (Cells X #[v,v,(.int .u8 x)] 158::(Cells Bk #[v',tv,fv,sv] 70::Zz 158 3 v' (er.length+1) (Zg er++[v,v,(.int .u8 x)])::Bag (er.map (ZE 5 1 eR gR))::Zz 163 3 tv et.length (Zg et)::Bag (et.map (ZE 9 1 eT gT))::Zz 161 3 fv ef.length (Zg ef)::Bag (ef.map (ZE 83 2 eF gF))::Zz 165 3 sv es.length (Zg es)::Bag (es.map (ZE 134 3 eS gS))::Zz 5 1 v i (rep i (eR (.int .u8 x)))::r)) (w4.setCell ⟨Bk,0,none⟩ v'):=hS4.set 1 rfl 0 v'
  exact hk _ (zfw hS5.drop hm hn k1 k2 k3 k4)
theorem b_T (hS:Sep (Yj Bk N G::Zz 9 1 v n cs::r) w) (hn:n≤2097152) (hN:N≤1099511627) (hk:∀w',Sep (Yj Bk (N+1) G::r) w'→k (.tuple #[]) w'):pFn P 38 [ptr Bk,v] w k:=by
 obtain⟨rv,tv,fv,sv,er,et,ef,es,hS,k1,k2,k3,k4⟩:=VA hS
 have hcl:cs.length=n*1:=(hS.own 9 rfl).1
 have hlen:et.length≤N:=k2.1
 refine j8 _ _ _ _ ?_
 unfold zq
 refine Zn (UE (Zj (v:=tv) (isAgg66 _) (hS.cells 0 rfl) rfl (ZF CE (Src.Zt (hS.own 3 rfl)) ?_)))
 refine Ea (SM fun w0 x f0 hxs=> ?_)
 replace hS:=hS.q f0
 have hm:Xi (.string x):=⟨x,rfl,hxs⟩
 clear f0
 obtain⟨A,c,evv,-⟩:∃A c,v= .slice A n c∧n≤c:=by obtain⟨A,c,e,h,_⟩:=Src.Zt (hS.own 9 rfl);exact⟨A,c,e,h⟩
 refine Z9 (w':=w0) (v:= .agg #[v,v,(.string x)]) (by rw[evv];kernel_rfl) (Y9 (zeroValue163 _) ?_)
 have f1:=Fr.alloc no w0 (.cells #[.slice none 0 0,.slice none 0 0,.string .empty] 163)
 have b1:=Z2 w0 (.cells #[.slice none 0 0,.slice none 0 0,.string .empty] 163)
 have z1:(w0.alloc (.cells #[.slice none 0 0,.slice none 0 0,.string .empty] 163)).heap.size=w0.heap.size+1:=by simp
 show pu P _ (w0.alloc (.cells #[.slice none 0 0,.slice none 0 0,.string .empty] 163)) _
 generalize w0.alloc (.cells #[.slice none 0 0,.slice none 0 0,.string .empty] 163)=w2 at *
 have hv1:v.oneCell'=true:=by rw[evv];rfl
 refine Va (n:=3) (vs:=[v,v,(.string x)]) (sizeOf163 _) rfl (by intro u hu;simp at hu;rcases hu with rfl|rfl;exact hv1;rfl) b1 (by show 0+3≤3;decide) fun w3 h3 f3 z3=> ?_
 have h3:w3.heap[w0.heap.size]? =some (.cells #[v,v,(.string x)] 163 (0,0)):=by rw[h3];simp
 have hS3:Sep (Cells w0.heap.size #[v,v,(.string x)] 163::(BL Bk rv tv fv sv er et ef es++Zz 9 1 v n (cs)::r)) w3:=
  hS.new (M:=fun b=>b=w0.heap.size) (O':=fun b=>b=w0.heap.size) (I':=fun _=>False) ((f1.or f3).mono fun b hb=> .inl (hb.elim (fun h=>h.elim) id)) (fun b hb=>by omega) ⟨h3,fun _=>Iff.rfl,fun _ h=>h⟩ (fun b hb=>by omega) fun b hb=>hb.elim
 generalize w0.heap.size=X at *
 clear f1 b1 z1 f3 z3 h3 hS
 refine GY (m:=n) k (fun m ρ w'=>∃i:Nat,i+m=n∧Sep (Cells X #[v,v,(.string x)] 163::(BL Bk rv tv fv sv er et ef es++Zz 9 1 v n (rep i (eT (.string x))++cs.drop (i*1))::r)) w'∧ρ 0=ptr Bk∧ρ 1=v∧ρ 4=ptr X∧ρ 5=i64 i) ?_
  ⟨0,by omega,by rw[Nat.zero_mul,List.drop_zero];exact hS3,rfl,rfl,rfl,rfl⟩
 rintro m ρ w' ⟨i,him,hS,e0,e1,e4,e5⟩
 rw[Om]
 unfold j7
 rw[e1,e4,e5]
 refine ZF Xf (Src.Zt (hS.own 10 rfl)) ?_
 by_cases hi:i<n
 ·refine ZA (by omega) (Zk (Je (Zj (v:=(.string x)) (isAgg9 _) (hS.cells 0 rfl) rfl ?_)))
  obtain⟨g,cap,cur,ev,hg,hic,hset⟩:=hS.T8 10 rfl hi
  refine jY ev Xf (Ue _) hi (YA (sizeOf9 _) rfl rfl hg hic (Zp (by omega) ⟨m-1,by omega,i+1,by omega,?_,e0,e1,e4,?_⟩))
  ·have h5:=hset (.string x)
   rw[Nat.mul_one,show eT (.string x)=[(.string x)] from rfl,Dg (by simpa using hcl) hi] at h5
   rw[Nat.mul_one]
   exact h5
  ·show i64 _=i64 _;simp
 ·refine ZB (by omega) (Zf ?_)
  rw[On]
  suffices hs:∀ρ2:Env,ρ2 0=ptr Bk→ρ2 4=ptr X→zr k ρ2 w' from hs _ e0 e4
  intro ρ2 a0 a4
  unfold zr
  rw[a0,a4]
  have hin:i=n:=by omega
  subst hin
  rw[List.drop_eq_nil_of_le (by omega),List.append_nil] at hS
  have hSd:=hS.q (Fr.drew _ w')
  generalize w'.drew=w1 at *
  refine⟨fun u=>u.heap[Bk]? =some (.cells #[rv,tv,fv,sv] 70 (0,0))∧u.heap[X]? =some (.cells #[v,v,(.string x)] 163 (0,0)),⟨hSd.cells 1 rfl,hSd.cells 0 rfl⟩,?_⟩
  refine Zi _ (fun w_ hS=>Zn ⟨rfl,rfl⟩) (Zi _ (fun w_ hS=>UE ⟨rfl,rfl⟩) (Zi tv (fun w_ hS=>Zj (isAgg66 _) hS.1 rfl ⟨rfl,rfl⟩) ?_))
  refine Zi (.agg #[v,v,(.string x)]) (fun w_ hS=>Xm (isAgg163 _) (sizeOf163 _) hS.2 (by show 0+3≤3;decide) ⟨rfl,rfl⟩) ?_
  refine Z9 (w':=w1.alloc (.cells #[v,v,(.string x)] 163)) (v:= .slice (some ⟨w1.heap.size,0,none⟩) 1 1) (by rw[evv];kernel_rfl) ?_
  have f2:=Fr.alloc no w1 (.cells #[v,v,(.string x)] 163)
  have ho:=ZQ w1 0 163 3 #[v,v,(.string x)] 1 (Nat.zero_le _) (by unfold maxLen;omega) rfl
  generalize w1.alloc (.cells #[v,v,(.string x)] 163)=w2 at *
  have hS2:=hSd.q f2
  refine⟨⟨hS2.cells 1 rfl,hS2.cells 0 rfl⟩,?_⟩
  refine zly (hS2.own 4 rfl) (Src.Zt ho) (by intro u hu;simp at hu;rcases hu with rfl|rfl;exact hv1;rfl) (by omega) (Nat.zero_le _) fun v' w4 h4 f4 hb4=> ?_
  have hS4:=hS2.Cd 4 rfl h4 f4 hb4
  refine⟨⟨hS4.cells 1 rfl,hS4.cells 0 rfl⟩,Zi _ (fun w_ hS=>Zn ⟨rfl,rfl⟩) (Zi _ (fun w_ hS=>UE ⟨rfl,rfl⟩) ?_)⟩
  have hb4c:=hS4.cells 1 rfl
  refine YA (sizeOf66 _) (ZW h4).1 (ZW h4).2 hb4c (by show 1<4;decide) ?_
  have hS5:Sep (Cells X #[v,v,(.string x)] 163::(Cells Bk #[rv,v',fv,sv] 70::Zz 158 3 rv er.length (Zg er)::Bag (er.map (ZE 5 1 eR gR))::Zz 163 3 v' (et.length+1) (Zg et++[v,v,(.string x)])::Bag (et.map (ZE 9 1 eT gT))::Zz 161 3 fv ef.length (Zg ef)::Bag (ef.map (ZE 83 2 eF gF))::Zz 165 3 sv es.length (Zg es)::Bag (es.map (ZE 134 3 eS gS))::Zz 9 1 v i (rep i (eT (.string x)))::r)) (w4.setCell ⟨Bk,1,none⟩ v'):=hS4.set 1 rfl 1 v'
  exact hk _ (zfx hS5.drop hm hn k1 k2 k3 k4)
theorem b_S (hS:Sep (Yj Bk N G::Zz 134 3 v n cs::r) w) (hn:n≤2097152) (hN:N≤1099511627) (hk:∀w',Sep (Yj Bk (N+1) G::r) w'→k (.tuple #[]) w'):pFn P 39 [ptr Bk,v] w k:=by
 obtain⟨rv,tv,fv,sv,er,et,ef,es,hS,k1,k2,k3,k4⟩:=VA hS
 have hcl:cs.length=n*3:=(hS.own 9 rfl).1
 have hlen:es.length≤N:=k4.1
 refine jD _ _ _ _ ?_
 unfold zt
 refine Zn (UG (Zj (v:=sv) (isAgg68 _) (hS.cells 0 rfl) rfl (ZF CG (Src.Zt (hS.own 7 rfl)) ?_)))
 refine Ea (Jp ?_)
 generalize IntKind.i64.wrap _=x
 have hm:Uq (i64 x):=⟨x,rfl⟩
 obtain⟨A,c,evv,-⟩:∃A c,v= .slice A n c∧n≤c:=by obtain⟨A,c,e,h,_⟩:=Src.Zt (hS.own 9 rfl);exact⟨A,c,e,h⟩
 refine Z9 (w':=w) (v:= .agg #[v,v,(i64 x)]) (by rw[evv];kernel_rfl) (Y9 (zeroValue165 _) ?_)
 have f1:=Fr.alloc no w (.cells #[.slice none 0 0,.slice none 0 0,i64 0] 165)
 have b1:=Z2 w (.cells #[.slice none 0 0,.slice none 0 0,i64 0] 165)
 have z1:(w.alloc (.cells #[.slice none 0 0,.slice none 0 0,i64 0] 165)).heap.size=w.heap.size+1:=by simp
 show pu P _ (w.alloc (.cells #[.slice none 0 0,.slice none 0 0,i64 0] 165)) _
 generalize w.alloc (.cells #[.slice none 0 0,.slice none 0 0,i64 0] 165)=w2 at *
 have hv1:v.oneCell'=true:=by rw[evv];rfl
 refine Va (n:=3) (vs:=[v,v,(i64 x)]) (sizeOf165 _) rfl (by intro u hu;simp at hu;rcases hu with rfl|rfl;exact hv1;rfl) b1 (by show 0+3≤3;decide) fun w3 h3 f3 z3=> ?_
 have h3:w3.heap[w.heap.size]? =some (.cells #[v,v,(i64 x)] 165 (0,0)):=by rw[h3];simp
 have hS3:Sep (Cells w.heap.size #[v,v,(i64 x)] 165::(BL Bk rv tv fv sv er et ef es++Zz 134 3 v n (cs)::r)) w3:=
  hS.new (M:=fun b=>b=w.heap.size) (O':=fun b=>b=w.heap.size) (I':=fun _=>False) ((f1.or f3).mono fun b hb=> .inl (hb.elim (fun h=>h.elim) id)) (fun b hb=>by omega) ⟨h3,fun _=>Iff.rfl,fun _ h=>h⟩ (fun b hb=>by omega) fun b hb=>hb.elim
 generalize w.heap.size=X at *
 clear f1 b1 z1 f3 z3 h3 hS
 refine GZ (m:=n) k (fun m ρ w'=>∃i:Nat,i+m=n∧Sep (Cells X #[v,v,(i64 x)] 165::(BL Bk rv tv fv sv er et ef es++Zz 134 3 v n (rep i (eS (i64 x))++cs.drop (i*3))::r)) w'∧ρ 0=ptr Bk∧ρ 1=v∧ρ 4=ptr X∧ρ 5=i64 i) ?_
  ⟨0,by omega,by rw[Nat.zero_mul,List.drop_zero];exact hS3,rfl,rfl,rfl,rfl⟩
 rintro m ρ w' ⟨i,him,hS,e0,e1,e4,e5⟩
 rw[Oq]
 unfold jC
 rw[e1,e4,e5]
 refine ZF Uu (Src.Zt (hS.own 10 rfl)) ?_
 by_cases hi:i<n
 ·refine ZA (by omega) (Zk (Jg (Zj (v:=(i64 x)) (isAgg3 _) (hS.cells 0 rfl) rfl ?_)))
  refine Z9 (w':=w') (v:= .agg (eS (i64 x)).toArray) (by kernel_rfl) ?_
  obtain⟨g,cap,cur,ev,hg,hic,hset⟩:=hS.T9 10 rfl hi
  refine yc ev Uu (En _) hi (Va (n:=3) (sizeOf134 _) rfl (by intro u hu;simp[eS] at hu;rcases hu with rfl|rfl|rfl<;>rfl) hg hic fun w4 h4 f4 z4=>Zp (by omega) ⟨m-1,by omega,i+1,by omega,?_,e0,e1,e4,?_⟩)
  ·have h5:=hset w4 (eS (i64 x)) rfl h4 f4
   rw[Df hcl rfl hi] at h5
   exact h5
  ·show i64 _=i64 _;simp
 ·refine ZB (by omega) (Zf ?_)
  rw[Ou]
  suffices hs:∀ρ2:Env,ρ2 0=ptr Bk→ρ2 4=ptr X→zu k ρ2 w' from hs _ e0 e4
  intro ρ2 a0 a4
  unfold zu
  rw[a0,a4]
  have hin:i=n:=by omega
  subst hin
  rw[List.drop_eq_nil_of_le (by omega),List.append_nil] at hS
  have hSd:=hS.q (Fr.drew _ w')
  generalize w'.drew=w1 at *
  refine⟨fun u=>u.heap[Bk]? =some (.cells #[rv,tv,fv,sv] 70 (0,0))∧u.heap[X]? =some (.cells #[v,v,(i64 x)] 165 (0,0)),⟨hSd.cells 1 rfl,hSd.cells 0 rfl⟩,?_⟩
  refine Zi _ (fun w_ hS=>Zn ⟨rfl,rfl⟩) (Zi _ (fun w_ hS=>UG ⟨rfl,rfl⟩) (Zi sv (fun w_ hS=>Zj (isAgg68 _) hS.1 rfl ⟨rfl,rfl⟩) ?_))
  refine Zi (.agg #[v,v,(i64 x)]) (fun w_ hS=>Xm (isAgg165 _) (sizeOf165 _) hS.2 (by show 0+3≤3;decide) ⟨rfl,rfl⟩) ?_
  refine Z9 (w':=w1.alloc (.cells #[v,v,(i64 x)] 165)) (v:= .slice (some ⟨w1.heap.size,0,none⟩) 1 1) (by rw[evv];kernel_rfl) ?_
  have f2:=Fr.alloc no w1 (.cells #[v,v,(i64 x)] 165)
  have ho:=ZQ w1 0 165 3 #[v,v,(i64 x)] 1 (Nat.zero_le _) (by unfold maxLen;omega) rfl
  generalize w1.alloc (.cells #[v,v,(i64 x)] 165)=w2 at *
  have hS2:=hSd.q f2
  refine⟨⟨hS2.cells 1 rfl,hS2.cells 0 rfl⟩,?_⟩
  refine zl0 (hS2.own 8 rfl) (Src.Zt ho) (by intro u hu;simp at hu;rcases hu with rfl|rfl;exact hv1;rfl) (by omega) (Nat.zero_le _) fun v' w4 h4 f4 hb4=> ?_
  have hS4:=hS2.Cd 8 rfl h4 f4 hb4
  refine⟨⟨hS4.cells 1 rfl,hS4.cells 0 rfl⟩,Zi _ (fun w_ hS=>Zn ⟨rfl,rfl⟩) (Zi _ (fun w_ hS=>UG ⟨rfl,rfl⟩) ?_)⟩
  have hb4c:=hS4.cells 1 rfl
  refine YA (sizeOf68 _) (ZW h4).1 (ZW h4).2 hb4c (by show 3<4;decide) ?_
  have hS5:Sep (Cells X #[v,v,(i64 x)] 165::(Cells Bk #[rv,tv,fv,v'] 70::Zz 158 3 rv er.length (Zg er)::Bag (er.map (ZE 5 1 eR gR))::Zz 163 3 tv et.length (Zg et)::Bag (et.map (ZE 9 1 eT gT))::Zz 161 3 fv ef.length (Zg ef)::Bag (ef.map (ZE 83 2 eF gF))::Zz 165 3 v' (es.length+1) (Zg es++[v,v,(i64 x)])::Bag (es.map (ZE 134 3 eS gS))::Zz 134 3 v i (rep i (eS (i64 x)))::r)) (w4.setCell ⟨Bk,3,none⟩ v'):=hS4.set 1 rfl 3 v'
  exact hk _ (zfz hS5.drop hm hn k1 k2 k3 k4)
end
section
variable {w:Y} {k:KV} {Bk N G n:Nat} {v:V} {cs:List V} {r:List Yf}
theorem Yj.mono {N':Nat} {O I:Ux} (h:(Yj Bk N G).h w O I) (hN:N≤N'):(Yj Bk N' G).h w O I:=by
 obtain⟨rv,tv,fv,sv,er,et,ef,es,hS,k1,k2,k3,k4⟩:=h
 exact⟨rv,tv,fv,sv,er,et,ef,es,hS,k1.mono hN (Nat.le_refl _),k2.mono hN (Nat.le_refl _),k3.mono hN (Nat.le_refl _),k4.mono hN (Nat.le_refl _)⟩
theorem Qg {N':Nat} (h:Sep (Yj Bk N G::r) w) (hN:N≤N'):Sep (Yj Bk N' G::r) w:=by
 obtain⟨O,I,O1,I1,O2,I2,h1,h2⟩:=h
 exact⟨O,I,O1,I1,O2,I2,Yj.mono h1 hN,h2⟩
def Zo (zs:ZZ):List V:=zs.flatMap fun p=>[.string p.1.1,p.2]
abbrev ZM (zs:ZZ):List Yf:=zs.map fun p=>Zz 5 1 p.2 p.1.2.length (u8s p.1.2)
theorem Aq (zs:ZZ):(Zo zs).length=zs.length*2:=by
 unfold Zo
 induction zs with
 |nil=>rfl
 |cons p r ih=>rw[List.flatMap_cons,List.length_append,ih];simp;omega
theorem Qh {zs:ZZ} {i:Nat} (hi:i<zs.length):(Zo zs)[i*2+1]? =some zs[i].2:=by
 have:=Vf (f:=fun p:Co×V=>[Value.string p.1.1,p.2]) (n:=2) (fun _=>rfl) (l:=zs) (i:=i) (j:=1) (a:=zs[i]) (by simp[hi]) (by omega)
 unfold Zo;rw[this];rfl
set_option maxHeartbeats 1000000 in
theorem b_F {zs:ZZ} (hS:Sep (Yj Bk N G::Zz 83 2 v zs.length (Zo zs)::Bag (ZM zs)::r) w) (hz:zs.length≤256) (hd:∀p∈zs,p.1.2.length≤2097152) (hN:N≤1099511000) (hk:∀w',Sep (Yj Bk (N+257) G::r) w'→k (.tuple #[]) w'):pFn P 37 [ptr Bk,v] w k:=by
 obtain⟨rv,tv,fv,sv,er,et,ef,es,hB,-,-,k3,-⟩:=VA hS
 have hcl:=Aq zs
 refine j3 _ _ _ _ ?_
 unfold zo
 refine Zn (UF (Zj (v:=fv) (isAgg67 _) (hB.cells 0 rfl) rfl (ZF CF (Src.Zt (hB.own 5 rfl)) ?_)))
 clear hB
 refine Ea (SM fun w0 x f0 hxs=> ?_)
 replace hS:=hS.q f0
 have hm:Xi (.string x):=⟨x,rfl,hxs⟩
 clear f0
 obtain⟨A,c,evv,-⟩:∃A c,v= .slice A zs.length c∧zs.length≤c:=by obtain⟨A,c,e,h,_⟩:=Src.Zt (hS.own 1 rfl);exact⟨A,c,e,h⟩
 refine Z9 (w':=w0) (v:= .agg #[v,v,.string x]) (by rw[evv];kernel_rfl) (Y9 (zeroValue161 _) ?_)
 have f1:=Fr.alloc no w0 (.cells #[.slice none 0 0,.slice none 0 0,.string .empty] 161)
 have b1:=Z2 w0 (.cells #[.slice none 0 0,.slice none 0 0,.string .empty] 161)
 have z1:(w0.alloc (.cells #[.slice none 0 0,.slice none 0 0,.string .empty] 161)).heap.size=w0.heap.size+1:=by simp
 show pu P _ (w0.alloc (.cells #[.slice none 0 0,.slice none 0 0,.string .empty] 161)) _
 generalize w0.alloc (.cells #[.slice none 0 0,.slice none 0 0,.string .empty] 161)=w2 at *
 have hv1:v.oneCell'=true:=by rw[evv];rfl
 refine Va (n:=3) (vs:=[v,v,.string x]) (sizeOf161 _) rfl (by intro u hu;simp at hu;rcases hu with rfl|rfl;exact hv1;rfl) b1 (by show 0+3≤3;decide) fun w3 h3 f3 z3=> ?_
 have h3:w3.heap[w0.heap.size]? =some (.cells #[v,v,.string x] 161 (0,0)):=by rw[h3];simp
 have hS3:Sep (Cells w0.heap.size #[v,v,.string x] 161::Yj Bk N G::Zz 83 2 v zs.length (Zo zs)::Bag (ZM zs)::r) w3:=
  hS.new (M:=fun b=>b=w0.heap.size) (O':=fun b=>b=w0.heap.size) (I':=fun _=>False) ((f1.or f3).mono fun b hb=> .inl (hb.elim (fun h=>h.elim) id)) (fun b hb=>by omega) ⟨h3,fun _=>Iff.rfl,fun _ h=>h⟩ (fun b hb=>by omega) fun b hb=>hb.elim
 generalize w0.heap.size=X at *
 clear f1 b1 z1 f3 z3 h3 hS k3
 refine GX (m:=zs.length) k (fun m ρ w'=>∃i:Nat,i+m=zs.length∧Sep (Cells X #[v,v,.string x] 161::Yj Bk (N+i) G::Zz 83 2 v zs.length (rep i (eF (.string x))++(Zo zs).drop (i*2))::Bag (ZM (zs.drop i))::r) w'∧ρ 0=ptr Bk∧ρ 1=v∧ρ 4=ptr X∧ρ 5=i64 i) ?_
  ⟨0,by omega,by rw[Nat.zero_mul,List.drop_zero,List.drop_zero];exact hS3,rfl,rfl,rfl,rfl⟩
 rintro m ρ w' ⟨i,him,hS,e0,e1,e4,e5⟩
 rw[Oi]
 unfold j2
 rw[e0,e1,e4,e5]
 have ho:=hS.own 2 rfl
 refine ZF X7 (Src.Zt ho) ?_
 by_cases hi:i<zs.length
 ·refine ZA (by omega) (Zk ?_)
  obtain⟨g,cap,cur,ev,hcap,-,hg,hic,hcu,-⟩:=Xh (i:=i*2+1) ho (by omega)
  have hcell:cur[i*2+1]? =some zs[i].2:=by
   rw[hcu,List.getElem?_append_right (by rw[VB];simp[eF]),VB,List.getElem?_drop]
   have:i*2+(i*2+1-i*(eF (Value.string x)).length)=i*2+1:=by simp[eF]
   rw[this];exact Qh hi
  refine yc ev X7 (Uv _) hi (JI (Zj (v:=zs[i].2) (isAgg36 _) hg (by simpa using hcell) ?_))
  have hmem:=List.getElem_mem hi
  have edrop:ZM (zs.drop i)=Zz 5 1 zs[i].2 zs[i].1.2.length (u8s zs[i].1.2)::ZM (zs.drop (i+1)):=by
   unfold ZM;rw[List.drop_eq_getElem_cons hi,List.map_cons]
  rw[edrop] at hS
  have h1:Sep (Bag (Zz 5 1 zs[i].2 zs[i].1.2.length (u8s zs[i].1.2)::ZM (zs.drop (i+1)))::Cells X #[v,v,.string x] 161::Yj Bk (N+i) G::Zz 83 2 v zs.length (rep i (eF (.string x))++(Zo zs).drop (i*2))::r) w':=hS.front 3 rfl
  have h2:Sep (Zz 5 1 zs[i].2 zs[i].1.2.length (u8s zs[i].1.2)::Bag (ZM (zs.drop (i+1)))::Cells X #[v,v,.string x] 161::Yj Bk (N+i) G::Zz 83 2 v zs.length (rep i (eF (.string x))++(Zo zs).drop (i*2))::r) w':=h1.pick (i:=0) rfl
  have h3:Sep (Yj Bk (N+i) G::Zz 5 1 zs[i].2 zs[i].1.2.length (u8s zs[i].1.2)::Bag (ZM (zs.drop (i+1)))::Cells X #[v,v,.string x] 161::Zz 83 2 v zs.length (rep i (eF (.string x))++(Zo zs).drop (i*2))::r) w':=h2.front 3 rfl
  refine b_R h3 (hd _ hmem) (by omega) fun w4 h4=> ?_
  have h5:Sep (Cells X #[v,v,.string x] 161::Yj Bk (N+(i+1)) G::Bag (ZM (zs.drop (i+1)))::Zz 83 2 v zs.length (rep i (eF (.string x))++(Zo zs).drop (i*2))::r) w4:=h4.front 2 rfl
  have h6:Sep (Cells X #[v,v,.string x] 161::Yj Bk (N+(i+1)) G::Zz 83 2 v zs.length (rep i (eF (.string x))++(Zo zs).drop (i*2))::Bag (ZM (zs.drop (i+1)))::r) w4:=h5.perm (((List.Perm.swap _ _ _).cons _).cons _)
  refine Jc (Zj (v:= .string x) (isAgg9 _) (h6.cells 0 rfl) rfl ?_)
  refine Z9 (w':=w4) (v:= .agg (eF (.string x)).toArray) (by kernel_rfl) ?_
  obtain⟨g,cap,cur,ev,hg,hic,hset⟩:=h6.T9 2 rfl hi
  refine yc ev X7 (Uv _) hi (Va (n:=2) (sizeOf83 _) rfl (by intro u hu;simp[eF] at hu;rcases hu with rfl|rfl<;>rfl) hg hic fun w5 h7 f7 z7=>Zp (by omega) ⟨m-1,by omega,i+1,by omega,?_,e0,e1,e4,?_⟩)
  ·have h8:=hset w5 (eF (.string x)) rfl h7 f7
   rw[Df hcl rfl hi] at h8
   exact h8
  ·show i64 _=i64 _;simp
 ·refine ZB (by omega) (Zf ?_)
  rw[Oj]
  suffices hs:∀ρ2:Env,ρ2 0=ptr Bk→ρ2 4=ptr X→zp k ρ2 w' from hs _ e0 e4
  intro ρ2 a0 a4
  unfold zp
  rw[a0,a4]
  have hin:i=zs.length:=by omega
  subst hin
  rw[List.drop_eq_nil_of_le (by omega),List.append_nil,List.drop_eq_nil_of_le (Nat.le_refl _)] at hS
  have hS0:=hS.q (Fr.drew _ w')
  generalize w'.drew=w1 at *
  have hS1:Sep (Yj Bk (N+zs.length) G::Zz 83 2 v zs.length (rep zs.length (eF (.string x)))::Cells X #[v,v,.string x] 161::Bag (ZM [])::r) w1:=hS0.perm ((List.Perm.swap _ _ _).trans ((List.Perm.swap _ _ _).cons _))
  obtain⟨rv,tv,fv,sv,er,et,ef,es,hSd,k1,k2,k3,k4⟩:=VA hS1
  have hlen:=k3.1
  refine⟨fun u=>u.heap[Bk]? =some (.cells #[rv,tv,fv,sv] 70 (0,0))∧u.heap[X]? =some (.cells #[v,v,.string x] 161 (0,0)),⟨hSd.cells 0 rfl,hSd.cells 10 rfl⟩,?_⟩
  refine Zi _ (fun w_ hS=>Zn ⟨rfl,rfl⟩) (Zi _ (fun w_ hS=>UF ⟨rfl,rfl⟩) (Zi fv (fun w_ hS=>Zj (isAgg67 _) hS.1 rfl ⟨rfl,rfl⟩) ?_))
  refine Zi (.agg #[v,v,.string x]) (fun w_ hS=>Xm (isAgg161 _) (sizeOf161 _) hS.2 (by show 0+3≤3;decide) ⟨rfl,rfl⟩) ?_
  refine Z9 (w':=w1.alloc (.cells #[v,v,.string x] 161)) (v:= .slice (some ⟨w1.heap.size,0,none⟩) 1 1) (by rw[evv];kernel_rfl) ?_
  have f2:=Fr.alloc no w1 (.cells #[v,v,.string x] 161)
  have ho:=ZQ w1 0 161 3 #[v,v,.string x] 1 (Nat.zero_le _) (by unfold maxLen;omega) rfl
  generalize w1.alloc (.cells #[v,v,.string x] 161)=w2 at *
  have hS2:=hSd.q f2
  refine⟨⟨hS2.cells 0 rfl,hS2.cells 10 rfl⟩,?_⟩
  refine zlz (hS2.own 5 rfl) (Src.Zt ho) (by intro u hu;simp at hu;rcases hu with rfl|rfl;exact hv1;rfl) (by omega) (Nat.zero_le _) fun v' w4 h4 f4 hb4=> ?_
  have hS4:=hS2.Cd 5 rfl h4 f4 hb4
  refine⟨⟨hS4.cells 0 rfl,hS4.cells 10 rfl⟩,Zi _ (fun w_ hS=>Zn ⟨rfl,rfl⟩) (Zi _ (fun w_ hS=>UF ⟨rfl,rfl⟩) ?_)⟩
  have hb4c:=hS4.cells 0 rfl
  refine YA (sizeOf67 _) (ZW h4).1 (ZW h4).2 hb4c (by show 2<4;decide) ?_
  have hS5:Sep (Cells Bk #[rv,tv,v',sv] 70::Zz 158 3 rv er.length (Zg er)::Bag (er.map (ZE 5 1 eR gR))::Zz 163 3 tv et.length (Zg et)::Bag (et.map (ZE 9 1 eT gT))::Zz 161 3 v' (ef.length+1) (Zg ef++[v,v,.string x])::Bag (ef.map (ZE 83 2 eF gF))::
   Zz 165 3 sv es.length (Zg es)::Bag (es.map (ZE 134 3 eS gS))::Zz 83 2 v zs.length (rep zs.length (eF (.string x)))::(Cells X #[v,v,.string x] 161::Bag (ZM [])::r)) (w4.setCell ⟨Bk,2,none⟩ v'):=hS4.set 0 rfl 2 v'
  have hS6:=zfy hS5 hm (by omega) k1 k2 k3 k4
  have hS7:Sep (Yj Bk (N+zs.length+1) G::Bag (ZM [])::r) (w4.setCell ⟨Bk,2,none⟩ v'):=hS6.erase 1 rfl
  have hS8:Sep (Yj Bk (N+zs.length+1) G::r) (w4.setCell ⟨Bk,2,none⟩ v'):=hS7.erase 1 rfl
  exact hk _ (Qg hS8 (by omega))
end
end Go.Proofs.YtcdcojpfealppaaGreat
