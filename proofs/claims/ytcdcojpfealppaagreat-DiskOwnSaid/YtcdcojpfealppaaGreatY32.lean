/- Put together by a program (wip/tools/shake.py): Pair7,Only,OwnD,OwnT,OwnK. -/
import Derived.Test.YtcdcojpfealppaaGreatY31
import Derived.Test.YtcdcojpfealppaaGreatY26
set_option linter.unusedVariables false
set_option linter.unusedSimpArgs false
set_option maxRecDepth 100000
open Go renaming World → Y, Value → V
namespace Go.Proofs.YtcdcojpfealppaaGreat
open Go Go.Proofs Go.RowKit Go.Proofs.XRed Go.Proofs.XHeap Go.Proofs.XMaps Go.Proofs.XSlices Go.Proofs.XDisk Go.Proofs.XCalls Go.Proofs.XSep Tryz
section
variable {w w0:Y} {k:KV}
variable {W:Y} {xb Pb D E K c:Nat} {x:XT} {dv pv' bv pv:V} {S T:AD} {bb:Bytes} {pp:List Int} {l:List Yf}
abbrev U9 (Pb D E K:Nat) (w:Y):Prop:=w.heap[Pb]? =some (.cells #[ptr D,ptr E,ptr K] 33 (0,0))
theorem QT {rest:V→Prop} (h:rest (ptr D)):pGq (.bool true) true (fun k=>k (ptr Pb)) fun a=>pGq (.bool true) true (fun k=>pq P (U9 Pb D E K) (Zh a) k) fun b=>pGq (.bool true) true (fun k=>pq P (U9 Pb D E K) (Instr.fieldAt 33 b 0) k) fun c=>pGq (.bool true) true (fun k=>pq P (U9 Pb D E K) (Instr.loadAt 29 c) k) rest:=
 Ze rfl (Ze rfl (Zi _ (fun w_ hS=>Zn ⟨rfl,rfl⟩) (Ze rfl (Zi _ (fun w_ hS=>Yr ⟨rfl,rfl⟩) (Ze rfl (Zi (ptr D) (fun w_ hS=>Zj (isAgg29 _) hS rfl ⟨rfl,rfl⟩) h))))))
theorem C6 {rest:V→Prop} (h:rest (ptr E)):pGq (.bool true) true (fun k=>k (ptr Pb)) fun a=>pGq (.bool true) true (fun k=>pq P (U9 Pb D E K) (Zh a) k) fun b=>pGq (.bool true) true (fun k=>pq P (U9 Pb D E K) (Instr.fieldAt 33 b 1) k) fun c=>pGq (.bool true) true (fun k=>pq P (U9 Pb D E K) (Instr.loadAt 30 c) k) rest:=
 Ze rfl (Ze rfl (Zi _ (fun w_ hS=>Zn ⟨rfl,rfl⟩) (Ze rfl (Zi _ (fun w_ hS=>YL ⟨rfl,rfl⟩) (Ze rfl (Zi (ptr E) (fun w_ hS=>Zj (isAgg30 _) hS rfl ⟨rfl,rfl⟩) h))))))
theorem Yu.fr0 {w w':Y} {B:Nat} {v:V} {fs:List (ByteArray×Bytes)} (h:Yu w B v fs) (hf:Fr no w w'):Yu w' B v fs:=by
 obtain⟨ps,h1,h2,h3⟩:=h
 have z:=hf.size
 exact⟨ps,Xq h1 fun f p ⟨a,b,c⟩=>⟨a,b.fr hf fun _ _ h=>h,fun x hx=>⟨(c x hx).1,by have:=(c x hx).2.1;omega,(c x hx).2.2⟩⟩,Z4 h2 hf fun _ _ h=>h,h3⟩
theorem zhh {a b:Bool} {w:Y} {x y:Operand} {k:KV} (h:a=b) (hk:k (.bool true) w):px P (Zd .eql 4 x y (.bool a) (.bool b)) w k:=by
 subst h
 exact Vk (by simp) (by simp) (run_eql_bool w 4 a a underlying4) (by simpa using hk)
theorem U9.of {l:List Yf} (h:Sep (Cells Pb #[ptr D,ptr E,ptr K] 33::l) w):U9 Pb D E K w:=h.cells 0 rfl
set_option maxHeartbeats 1000000 in
theorem Kg (hS:Sep (VL Pb D E K S bv pv bb pp l) w) (ok:S.Ok c) (hk:∀w',Sep (VL Pb D E K S bv pv bb pp l) w'→k (.bool true) w'):pFn P 19 [ptr Pb] w k:=by
 refine gA _ _ _ ?_
 unfold yz
 replace hS:=hS.q (Fr.drew _ _)
 refine⟨U9 Pb D E K,.of hS,?_⟩
 refine Zi _ (fun w_ hS=>Zn ⟨rfl,rfl⟩) (Zi _ (fun w_ hS=>Yr ⟨rfl,rfl⟩) (Zi (ptr D) (fun w_ hS=>Zj (isAgg29 _) hS rfl ⟨rfl,rfl⟩) ?_))
 refine Zi _ (fun w_ hS=>Zn ⟨rfl,rfl⟩) (Zi _ (fun w_ hS=>YL ⟨rfl,rfl⟩) (Zi (ptr E) (fun w_ hS=>Zj (isAgg30 _) hS rfl ⟨rfl,rfl⟩) ?_))
 have hus:=Ej ok
 have hsl:=ok.turns.len.1
 obtain⟨O,I,L,d,-⟩:=Sep.disk hS 1 rfl
 refine CH d.disk ok.room.1 ⟨.of hS,?_⟩
 obtain⟨O,I,L,r,-⟩:=Sep.ref hS 2 rfl
 refine Ct r ⟨.of hS,Zi (.bool true) (fun w_ hS=>zhh rfl ⟨rfl,rfl⟩) ?_⟩
 refine QT (C6 ?_)
 obtain⟨O,I,L,d,-⟩:=Sep.disk hS 1 rfl
 refine Zl rfl (BW d.disk ok.room.1 ⟨.of hS,?_⟩)
 obtain⟨O,I,L,r,-⟩:=Sep.ref hS 2 rfl
 refine Zl rfl (GI r ⟨.of hS,Ze rfl (Zi (.bool true) (fun w_ hS=>ZP rfl ⟨rfl,rfl⟩) (Zi (.bool true) (fun w_ hS=>Zx ⟨rfl,rfl⟩) ?_))⟩)
 refine QT (C6 ?_)
 obtain⟨O,I,L,d,-⟩:=Sep.disk hS 1 rfl
 refine Zl rfl (Ma d ok.room.1 (by omega) fun w1 f1=> ?_)
 replace hS:=hS.q f1
 refine⟨.of hS,?_⟩
 obtain⟨O,I,L,r,-⟩:=Sep.ref hS 2 rfl
 refine Zl rfl (SA r (by omega) (by omega) ⟨.of hS,Ze rfl (Zi (.bool true) (fun w_ hS=>ZP rfl ⟨rfl,rfl⟩) (Zi (.bool true) (fun w_ hS=>Zx ⟨rfl,rfl⟩) ?_))⟩)
 refine QT (C6 ?_)
 obtain⟨O,I,L,d,-⟩:=Sep.disk hS 1 rfl
 refine Zl rfl (zb6 d.disk ok.room.1 ⟨.of hS,?_⟩)
 obtain⟨O,I,L,r,-⟩:=Sep.ref hS 2 rfl
 refine Zl rfl (ji r ⟨.of hS,Ze rfl (Zi (.bool true) (fun w_ hS=>ZP rfl ⟨rfl,rfl⟩) (Zi (.bool true) (fun w_ hS=>Zx ⟨rfl,rfl⟩) ?_))⟩)
 refine QT (C6 ?_)
 obtain⟨O,I,L,d,-⟩:=Sep.disk hS 1 rfl
 refine Zl rfl (EB Xj d ok (Dn ok) fun w2 v2 g2 f2=> ?_)
 replace hS:=hS.q f2
 refine⟨.of hS,?_⟩
 obtain⟨O,I,L,r,-⟩:=Sep.ref hS 2 rfl
 refine Zl rfl (GQ r ok fun w3 v3 g3 f3=> ?_)
 replace hS:=hS.q f3
 refine⟨.of hS,Zl rfl (VO (g2.fr0 f3) g3 (VE ok).1 (VE ok).2 fun w4 f4=> ?_)⟩
 rw[decide_eq_true rfl]
 replace hS:=hS.q f4
 refine⟨.of hS,Zi (.bool true) (fun w_ hS=>Zx ⟨rfl,rfl⟩) ?_⟩
 refine QT (C6 ?_)
 obtain⟨O,I,L,d,-⟩:=Sep.disk hS 1 rfl
 refine Zl rfl (vu Xj d ok (Ke ok) fun w5 v5 g5 f5=> ?_)
 replace hS:=hS.q f5
 refine⟨.of hS,?_⟩
 obtain⟨O,I,L,r,-⟩:=Sep.ref hS 2 rfl
 refine Zl rfl (SE r ok fun w6 v6 g6 f6=> ?_)
 replace hS:=hS.q f6
 refine⟨.of hS,Zl rfl (VO (g5.fr0 f6) g6 (VD ok).1 (VD ok).2 fun w7 f7=> ?_)⟩
 rw[decide_eq_true rfl]
 replace hS:=hS.q f7
 refine⟨.of hS,Zi (.bool true) (fun w_ hS=>Zx ⟨rfl,rfl⟩) ?_⟩
 refine QT (C6 ?_)
 obtain⟨O,I,L,d,-⟩:=Sep.disk hS 1 rfl
 refine Zl rfl (Gz d ok fun w8 A8 c8 g8 b8 f8=> ?_)
 replace hS:=hS.q f8
 refine⟨.of hS,?_⟩
 obtain⟨O,I,L,r,-⟩:=Sep.ref hS 2 rfl
 refine Zl rfl (GS r ok fun w9 v9 g9 b9 f9=> ?_)
 replace hS:=hS.q f9
 refine⟨.of hS,Zl rfl (Bt (g8.fr (by omega) f9 fun _ _ h=>h) g9 (by have:=ok.reads;have:=ok.small;omega) fun bo8 w10 f10 hb8=> ?_)⟩
 rw[hb8.2 rfl]
 replace hS:=hS.q f10
 refine⟨.of hS,Zi (.bool true) (fun w_ hS=>Zx ⟨rfl,rfl⟩) ?_⟩
 refine QT (C6 ?_)
 obtain⟨O,I,L,d,-⟩:=Sep.disk hS 1 rfl
 refine Zl rfl (S0 d ok _ fun w11 v11 g11 b11 f11=> ?_)
 replace hS:=hS.q f11
 refine⟨.of hS,?_⟩
 obtain⟨O,I,L,r,-⟩:=Sep.ref hS 2 rfl
 refine Zl rfl (GR r ok _ fun w12 v12 g12 b12 f12=> ?_)
 replace hS:=hS.q f12
 refine⟨.of hS,Zl rfl (QS (g11.fr (by omega) f12 fun _ _ h=>h) g12 (by have:=QR S ok (ByteArray.mk #[]);omega) fun bo11 w13 f13 hb11=> ?_)⟩
 rw[hb11.2 rfl]
 replace hS:=hS.q f13
 refine⟨.of hS,Zi (.bool true) (fun w_ hS=>Zx ⟨rfl,rfl⟩) ?_⟩
 exact hk _ hS
end
section
variable {w w0:Y} {k:KV}
variable {W:Y} {Pb D E K c:Nat} {S T:AD} {l:List Yf}
structure E6 (W:Y) (l:List Yf) (Pb K:Nat) (S:AD) (c:Nat) (w:Y):Prop where
 ex:∃D E bv pv bb pp,Sep (VL Pb D E K S bv pv bb pp (Xk W::l)) w∧bb.length≤1000000
 ok:S.Ok c
theorem E6.fr (h:E6 W l Pb K S c w):Fr no W w:=by
 obtain⟨⟨D,E,bv,pv,bb,pp,hS,_⟩,_⟩:=h
 exact hS.VX 4 rfl
theorem gB {v:V} {s:VJ} {i:Nat} (h:E6 W l Pb K S c w) (hc:c≤100000) (hv:XP W v s) (hi:i<s.length) (hbd:∀p∈s,p.1.data.length≤100000∧p.1.picks.length≤12500) (hk:∀w',E6 W l Pb K (S.Y7 s[i].1).2 (c+1) w'→k (.bool true) w'):pFn P 18 [ptr Pb,XH s[i].1 s[i].2.1 s[i].2.2] w k:=by
 obtain⟨⟨D,E,bv,pv,bb,pp,hS,hbb⟩,ok⟩:=h
 have hm:s[i]∈s:=List.getElem_mem hi
 refine yw hS ok hc (hv.all _ hm) (hbd _ hm).1 (by have:=(hbd _ hm).2;omega) hbb fun w' D' E' bv' pv'' bb' pp' hS' hb'=> ?_
 exact hk w' ⟨⟨D',E',bv',pv'',bb',pp',hS',hb'⟩,ok.Y7 (by omega) _⟩
theorem A6 (h:E6 W l Pb K S c w) (hk:∀w',E6 W l Pb K S c w'→k (.bool true) w'):pFn P 19 [ptr Pb] w k:=by
 obtain⟨⟨D,E,bv,pv,bb,pp,hS,hbb⟩,ok⟩:=h
 exact Kg hS ok fun w' hS'=>hk w' ⟨⟨D,E,bv,pv,bb,pp,hS',hbb⟩,ok⟩
end
section
variable {w:Y} {k:KV} {l:List Yf} {i D E c:Nat} {S:AD}
theorem JB {w':Y} {v:V} {fs:List (ByteArray×Bytes)} (hS:Sep l w) (hf:Fr no w w') (h:Ug w' w.heap.size v fs):∃zs:ZZ,zs.plain=fs∧Sep (Zz 83 2 v zs.length (Zo zs)::Bag (ZM zs)::l) w':=by
 obtain⟨zs,h1,h2,h3,h4,h5⟩:=h
 have hlen:zs.length=fs.length:=by rw[←h1];unfold ZZ.plain;simp
 refine⟨zs,h1,?_⟩
 obtain⟨O,hb,hO⟩:=XJ.rows (w:=w') (te:=5) (sz:=1) (zs.map fun p=>(p.2,p.1.2.length,u8s p.1.2)) (by
  intro z hz
  obtain⟨p,hp,rfl⟩:=List.mem_map.1 hz
  exact(h2 p hp).1) (by
  rw[List.pairwise_map]
  exact h5)
 have hb':(Bag (ZM zs)).h w' O fun _=>False:=by
  have e:(zs.map fun p=>(p.2,p.1.2.length,u8s p.1.2)).map (fun z=>Zz 5 1 z.1 z.2.1 z.2.2)=ZM zs:=by rw[List.map_map];rfl
  rw[e] at hb;exact hb
 have hOx:∀b,O b→∃p∈zs,Zv p.2=some b:=fun b hb=>by
  obtain⟨z,hz,e⟩:=(hO b).1 hb
  obtain⟨p,hp,rfl⟩:=List.mem_map.1 hz
  exact⟨p,hp,e⟩
 refine hS.zcb (a:=Zz 83 2 v zs.length (Zo zs)) (b:=Bag (ZM zs)) (O1:=fun b=>Zv v=some b) (I1:=fun _=>False) (O2:=O) (I2:=fun _=>False) hf (fun b hb=>hb.elim) ⟨by rw[hlen];exact h3,fun _=>Iff.rfl,fun _ h=>h⟩ hb' ⟨fun b hb=>⟨fun ho=> ?_,fun h=>h⟩,fun b ho=>⟨fun hb=> ?_,fun h=>h⟩⟩ ?_
 ·obtain⟨p,hp,e⟩:=hOx b ho;exact((h2 p hp).2 b e).2 hb
 ·obtain⟨p,hp,e⟩:=hOx b ho;exact((h2 p hp).2 b e).2 hb
 ·rintro b (hb|hb|hb|hb)
  ·exact h4 b hb
  ·exact hb.elim
  ·obtain⟨p,hp,e⟩:=hOx b hb;exact((h2 p hp).2 b e).1
  ·exact hb.elim
theorem C7 (hS:Sep l w) (i:Nat) (hi:l[i]? =some (Dk D S)) (ok:S.Ok c) (hk:∀w' v (zs:ZZ),zs.plain=S.files→Sep (Zz 83 2 v zs.length (Zo zs)::Bag (ZM zs)::l) w'→k v w'):pFn P 28 [ptr D] w k:=by
 obtain⟨O,I,L,d,-⟩:=Sep.disk hS i hi
 refine NX Xj d ok (Dn ok) fun w' v g f=> ?_
 obtain⟨zs,h1,h2⟩:=JB hS f g
 exact hk w' v zs h1 h2
theorem SP (hS:Sep l w) (i:Nat) (hi:l[i]? =some (Dk D S)) (ok:S.Ok c) (hk:∀w' v (zs:ZZ),zs.plain=S.Yq→Sep (Zz 83 2 v zs.length (Zo zs)::Bag (ZM zs)::l) w'→k v w'):pFn P 29 [ptr D] w k:=by
 obtain⟨O,I,L,d,-⟩:=Sep.disk hS i hi
 refine zi Xj d ok (Ke ok) fun w' v g f=> ?_
 obtain⟨zs,h1,h2⟩:=JB hS f g
 exact hk w' v zs h1 h2
theorem SQ (hS:Sep l w) (i:Nat) (hi:l[i]? =some (Dk D S)) (ok:S.Ok c) (hk:∀w' v,Sep (Zz 9 1 v (AD.Y2 S (ByteArray.mk #[])).length ((AD.Y2 S (ByteArray.mk #[])).map .string)::l) w'→k v w'):pFn P 30 [ptr D,.string (ByteArray.mk #[])] w k:=by
 obtain⟨O,I,L,d,-⟩:=Sep.disk hS i hi
 exact zl d ok _ GV fun w' v ho hb f=>hk w' v (hS.Ce f (fun b hb=>hb.elim) ho hb)
theorem Kh (hS:Sep l w) (i:Nat) (hi:l[i]? =some (Dk D S)) (ok:S.Ok c) (hk:∀w' v,Sep (Zz 134 3 v S.reads.length (S.reads.flatMap Z3)::l) w'→k v w'):pFn P 31 [ptr D] w k:=by
 obtain⟨O,I,L,d,-⟩:=Sep.disk hS i hi
 exact NY d ok fun w' v ho hb f=>hk w' v (hS.Ce f (fun b hb=>hb.elim) ho hb)
theorem Sep.Mh {a b x:Yf} (h:Sep (l.set i (star a b)) w) (hi:l[i]? =some x):Sep (b::l.set i a) w:=by
 have hlt:i<l.length:=(List.getElem?_eq_some_iff.1 hi).1
 have h1:=(h.front i (by rw[List.getElem?_set_self hlt])).Mf
 refine h1.perm ?_
 have e:(l.set i (star a b)).eraseIdx i=l.eraseIdx i:=by rw[List.eraseIdx_set_eq]
 rw[e]
 exact(List.Perm.swap _ _ _).trans (List.Perm.cons _ (set_perm a hlt).symm)
theorem SR (hS:Sep l w) (i:Nat) (hi:l[i]? =some (Dk D S)) (ok:S.Ok c) (name:ByteArray) (hs:name.size≤9223372036854775807) (hk:∀w' v,Sep (Zz 5 1 v (S.read name 0 2).2.1.length (u8s (S.read name 0 2).2.1)::l.set i (Dk D (S.read name 0 2).2.2)) w'→k (.tuple #[v,i64 (S.read name 0 2).1]) w'):pFn P 32 [ptr D,.string name,i64 0,i64 2] w k:=by
 obtain⟨O,I,J,⟨L,h1⟩,h2,h3,nx⟩:=hS.at_ i hi
 refine zj h1 ok name hs 0 2 (by omega) fun w' O' I' L' v hx hv hb=>hk w' v (Sep.Mh (nx (star (Dk D (S.read name 0 2).2.2) (Zz 5 1 v (S.read name 0 2).2.1.length (u8s (S.read name 0 2).2.1))) w' (fun b=>O' b∨Zv v=some b) I' ⟨O',I',fun b=>Zv v=some b,fun _=>False,⟨L',hx.rep⟩,⟨hv,fun _=>Iff.rfl,fun _ h=>h⟩,⟨fun b hb'=>⟨fun e=>(hb b e).2.1 hb',fun h=>h⟩,fun b e=>⟨(hb b e).2.1,(hb b e).2.2⟩⟩,fun b=>Iff.rfl,fun b=>by simp⟩ ⟨hx.fr,fun b hb'=>hb'.elim (hx.on b) fun e=> .inr (hb b e).1,fun b hb'=>(hx.in_ b hb').imp (h2 b) id⟩) hi)
theorem Ki (hS:Sep l w) (i:Nat) (hi:l[i]? =some (Rk E S)) (ok:S.Ok c) (name:ByteArray) (hk:∀w' v,Sep (Xw v (S.read name 0 2).2.1::l.set i (Rk E (S.read name 0 2).2.2)) w'→k (.tuple #[v,i64 (S.read name 0 2).1]) w'):pFn P 34 [ptr E,.string name,i64 0,i64 2] w k:=
 Kd hS hi ok name 0 2 (by omega) fun w' v h=>hk w' v (Sep.Mh h hi)
def SU (sz:Nat) (v:V) (n:Nat) (cs:List V):Yf where
 h w O I:=Src w v sz n cs∧0<sz∧(∀b,I b↔Zv v=some b)∧(∀b,Zv v=some b→b<w.heap.size)∧∀b,¬O b
 fr:=fun⟨h1,h2,h3,h4,h5⟩ hf hm=>⟨h1.fr h2 hf fun b hb h=>(hm b h).2 ((h3 b).2 hb),h2,h3,fun b hb=>Nat.lt_of_lt_of_le (h4 b hb) hf.size,h5⟩
 lt:=fun⟨h1,h2,h3,h4,h5⟩ b hb=>hb.elim (fun h=>absurd h (h5 b)) fun h=>h4 b ((h3 b).1 h)
 ap:=fun⟨h1,h2,h3,h4,h5⟩ b hb=>absurd hb (h5 b)
theorem P4 (hS:Sep l w) (i:Nat) (hi:l[i]? =some (Rk E S)) (ok:S.Ok c) (hk:∀w' v,Sep (SU 3 v S.reads.length (S.reads.flatMap Z3)::l) w'→k v w'):pFn P 33 [ptr E] w k:=by
 obtain⟨O,I,L,d,-⟩:=Sep.ref hS i hi
 exact GS d ok fun w' v hv hb f=>hk w' v (hS.new (O':=fun _=>False) (I':=fun b=>Zv v=some b) f (fun b hb=>hb.elim) ⟨hv,by omega,fun _=>Iff.rfl,fun b hb'=>(hb b hb').2,fun _ h=>h⟩ (fun b hb=>hb.elim) fun b hb'=>(hb b hb').1)
theorem Qy {zs:ZZ} {v:V} (hS:Sep l w) (i j:Nat) (hi:l[i]? =some (Zz 83 2 v zs.length (Zo zs))) (hj:l[j]? =some (Bag (ZM zs))):Yu w 0 v zs.plain:=by
 have ho:=hS.own i hi
 have hd:∀p∈zs,w.ownsRow 0 5 1 p.2 p.1.2.length (u8s p.1.2):=fun p hp=>by
  obtain⟨q,hq,rfl⟩:=List.mem_iff_getElem.1 hp
  have h1:=(hS.front j hj).pick (i:=q) (a:=Zz 5 1 zs[q].2 zs[q].1.2.length (u8s zs[q].1.2)) (by unfold ZM;rw[List.getElem?_map,List.getElem?_eq_getElem hq];rfl)
  exact h1.own 0 rfl
 refine⟨zs.map fun p=>(p.1.1,p.2),?_,?_,fun b _=>Nat.zero_le b⟩
 ·unfold ZZ.plain
  have key:∀ys:ZZ,(∀p∈ys,w.ownsRow 0 5 1 p.2 p.1.2.length (u8s p.1.2))→All2 (fun(f:ByteArray×Bytes) (p:ByteArray×V)=>f.1=p.1∧Z5 w p.2 f.2∧∀b,Zv p.2=some b→0≤b∧b<w.heap.size∧Zv v≠some b) (ys.map (·.1)) (ys.map fun p=>(p.1.1,p.2)):=by
   intro ys
   induction ys with
   |nil=>intro _;exact .nil
   |cons p r ih=>
    intro h
    refine .cons ⟨rfl,Src.Zt (h p List.mem_cons_self),fun b hb=>⟨Nat.zero_le _,(Zu (h p List.mem_cons_self) hb).2,fun e=> ?_⟩⟩ (ih fun q hq=>h q (List.mem_cons_of_mem _ hq))
    obtain⟨c1,h1⟩:=Z0 (h p List.mem_cons_self) hb
    obtain⟨c2,h2⟩:=Z0 ho e
    exact absurd (Zy h1 h2) (by decide)
  exact key zs hd
 ·have e1:zs.plain.length=zs.length:=by unfold ZZ.plain;simp
  have e2:(zs.map fun p=>(p.1.1,p.2)).flatMap (fun p=>[Value.string p.1,p.2])=Zo zs:=by unfold Zo;rw[List.flatMap_map]
  rw[e1,e2];exact ho
theorem Sep.vl {w':Y} {te sz n m:Nat} {v v':V} {cs new:List V} (h:Sep l w) (ix:Nat) (hix:l[ix]? =some (Zz te sz v n cs)) (ho:w'.ownsRow 0 te sz v' (n+m) (cs++new)) (hf:Fr (fun b=>some b=Zv v) w w') (hb:∀b,Zv v'=some b→Zv v=some b∨w.heap.size≤b):
   Sep (l.set ix (Zz te sz v' (n+m) (cs++new))) w':=by
 obtain⟨O,I,J,⟨h1,h2,h3⟩,-,-,hs⟩:=h.at_ ix hix
 refine hs _ w' (fun b=>Zv v'=some b) I ⟨ho,fun _=>Iff.rfl,h3⟩ ⟨hf.mono fun b hb=> .inl ((h2 b).2 hb.symm),fun b hb'=> ?_,fun b hb=>absurd hb (h3 b)⟩
 exact(hb b hb').imp (h2 b).2 id
theorem Jt (zs:ZZ) (p:Co×V):Zo (zs++[p])=Zo zs++[.string p.1.1,p.2]:=by unfold Zo;rw[List.flatMap_append];rfl
theorem Uh {zs:ZZ} {i:Nat} (hi:i<zs.length):(Zo zs)[i*2]? =some (.string zs[i].1.1)∧(Zo zs)[i*2+1]? =some zs[i].2:=by
 refine⟨?_,Qh hi⟩
 have:=Vf (f:=fun p:Co×V=>[Value.string p.1.1,p.2]) (n:=2) (fun _=>rfl) (l:=zs) (i:=i) (j:=0) (a:=zs[i]) (by simp[hi]) (by omega)
 rw[Nat.add_zero] at this
 unfold Zo;rw[this];rfl
theorem y3 {kk:V→KV} {d:V} {bs:Bytes} {St:Y→Prop} (hd:Z5 w d bs) (hb:bs.length≤1099511627776) (hSt:∀u,Fr no w u→St u) (hk:∀a v w',w'.ownsRow 0 5 1 v bs.length (u8s bs)→(∀b,Zv v=some b→w.heap.size≤b)→Fr no w w'→kk a v w'):
   px P (Instr.buildSlice 36 0 #[]) w fun a w=>St w∧px P (bSem .append #[36,36] 36 #[a,d]) w fun v w=>St w∧kk a v w:=by
 refine Jh ?_
 have f1:=Fr.alloc no w (.cells #[] 5)
 have ho:=ZQ w w.heap.size 5 1 #[] 0 (Nat.le_refl _) (by unfold maxLen;omega) rfl
 have z1:(w.alloc (.cells #[] 5)).heap.size=w.heap.size+1:=by simp
 show St (w.alloc (.cells #[] 5))∧px P _ (w.alloc (.cells #[] 5)) _
 generalize w.alloc (.cells #[] 5)=w1 at *
 refine⟨hSt w1 f1,Te ho (hd.fr f1 fun _ _=>id) Vl (by omega) (by omega) fun v' w2 h2 f2 hb2=> ?_⟩
 rw[Nat.zero_add] at h2
 have f02:Fr no w w2:=(f1.or f2).mono (by
   rintro b (hb'|hb')
   · exact .inl hb'
   · injection hb' with hb';have hb'':b=w.heap.size:=hb';exact .inr (by omega))
 exact⟨hSt w2 f02,hk _ v' w2 (Xo h2 (Nat.zero_le _)) (fun b hb=>(Zu h2 hb).1) f02⟩
end
section
variable {W w:Y} {k:KV} {l:List Yf} {D E c:Nat} {S:AD}
abbrev Vw (lv wv:V) (zs ws:ZZ):List Yf:=[Zz 83 2 lv zs.length (Zo zs),Bag (ZM zs),Zz 83 2 wv ws.length (Zo ws),Bag (ZM ws)]
theorem QU (ok:S.Ok c):S.files.length≤256:=by
 have:=ok.turns.len.1
 unfold AD.files;rw[List.length_map];omega
theorem BN (ok:S.Ok c):S.Yq.length≤256:=by
 have:=ok.turns.len.2
 unfold AD.Yq;rw[List.length_map];omega
theorem UU (ok:S.Ok c):∀f∈S.files,f.2.length≤1048576:=by
 intro f hf
 obtain⟨p,hp,rfl⟩:=List.mem_map.1 hf
 have:=(ok.Yk p.2 (.inl ⟨p.1,hp⟩)).ok.len.1
 show (S.things p.2).shown.length≤_
 omega
theorem JC (ok:S.Ok c):∀f∈S.Yq,f.2.length≤1048576:=by
 intro f hf
 obtain⟨p,hp,rfl⟩:=List.mem_map.1 hf
 have:=(ok.Yk p.2 (.inr (.inl ⟨p.1,hp⟩))).ok.len.2
 show (S.things p.2).safe.length≤_
 omega
set_option maxHeartbeats 1000000 in
theorem Dq {Pb K Bk N i:Nat} {o1 o2:Operand} {bv pv:V} {bb:Bytes} {pp:List Int} {one f1 f2 s1 s2 t1 t2 r1 r2 told lv wv:V} {bs:Bytes} {zs ws zf1 zf2 zs1 zs2:ZZ} {kk:V→V→V→V→V→V→V→V→V→V→V→V→V→V→V→V→V→V→V→V→V→V→V→V→V→V→V→V→V→V→V→V→V→V→V→V→V→V→V→V→V→V→V→V→V→Y→Prop}
   (ok:S.Ok c) (e1:zf1.plain=S.files) (e2:zf2.plain=S.files) (e3:zs1.plain=S.Yq) (e4:zs2.plain=S.Yq) (hb:bs.length≤2097152) (hN:N≤1000000000) (hi:i≤1000) {ts:List ByteArray} {rs:List QI} (e5:ts=AD.Y2 S (ByteArray.mk #[])) (hrl:rs.length≤2097152)
   (hbb:bb.length≤1000000)
   (hS:Sep (Yj Bk N 0::Zz 5 1 one bs.length (u8s bs)::Zz 83 2 f1 zf1.length (Zo zf1)::Bag (ZM zf1)::Zz 83 2 s1 zs1.length (Zo zs1)::Bag (ZM zs1)::Zz 9 1 t1 ts.length (ts.map .string)::Zz 134 3 r1 rs.length (rs.flatMap Z3)::
     Zz 83 2 f2 zf2.length (Zo zf2)::Bag (ZM zf2)::Zz 83 2 s2 zs2.length (Zo zs2)::Bag (ZM zs2)::Zz 9 1 t2 ts.length (ts.map .string)::Zz 134 3 r2 rs.length (rs.flatMap Z3)::SU 3 told rs.length (rs.flatMap Z3)::(VL Pb D E K S bv pv bb pp (Xk W::Vw lv wv zs ws))) w)
   (hk:∀w',E6 W (Yj Bk (N+1100) 0::Vw lv wv zs ws) Pb K S c w'→∀v213 v216 v219 v222 v225 v228 v229 v230 v231 v232 v233 v235 v236 v237 v238 v239 v240 v241 v242 v243 v245 v246 v247 v248 v249 v250 v251 v252 v253 v255 v256 v257 v258 v259 v262 v265 v268 v271 v273 v274 v276 v277 v278 v279,kk v213 v216 v219 v222 v225 v228 v229 v230 v231 v232 v233 v235 v236 v237 v238 v239 v240 v241 v242 v243 v245 v246 v247 v248 v249 v250 v251 v252 v253 v255 v256 v257 v258 v259 v262 v265 v268 v271 v273 v274 v276 v277 v278 v279 (i64 (i+1:Nat)) w'):
   pFn P 36 [(ptr Bk),one] w fun v213 w=>
 pFn P 37 [(ptr Bk),f1] w fun v216 w=>
 pFn P 37 [(ptr Bk),s1] w fun v219 w=>
 pFn P 38 [(ptr Bk),t1] w fun v222 w=>
 pFn P 39 [(ptr Bk),r1] w fun v225 w=>
 px P (Zh (ptr Pb)) w fun v228 w=>
 px P (Instr.fieldAt 33 v228 1) w fun v229 w=>
 px P (Instr.loadAt 30 v229) w fun v230 w=>
 pFn P 41 [v230] w fun v231 w=>
 pFn P 40 [f2,v231] w fun v232 w=>
 px P (Op.unary UnOp.not v232) w fun v233 w=>
 pG v233 false (fun k=>k s2 w) (w:=w) (next:=fun v235 w=>
 pG v233 false (fun k=>k (ptr Pb) w) (w:=w) (next:=fun v236 w=>
 pG v233 false (fun k=>px P (Zh v236) w k) (w:=w) (next:=fun v237 w=>
 pG v233 false (fun k=>px P (Instr.fieldAt 33 v237 1) w k) (w:=w) (next:=fun v238 w=>
 pG v233 false (fun k=>px P (Instr.loadAt 30 v238) w k) (w:=w) (next:=fun v239 w=>
 pG v233 false (fun k=>pFn P 42 [v239] w k) (w:=w) (next:=fun v240 w=>
 pG v233 false (fun k=>pFn P 40 [v235,v240] w k) (w:=w) (next:=fun v241 w=>
 pG v233 false (fun k=>px P (Op.unary UnOp.not v241) w k) (w:=w) (next:=fun v242 w=>
 px P (Zs v233 (Value.bool true) v242) w fun v243 w=>
 pG v243 false (fun k=>k t2 w) (w:=w) (next:=fun v245 w=>
 pG v243 false (fun k=>k (ptr Pb) w) (w:=w) (next:=fun v246 w=>
 pG v243 false (fun k=>px P (Zh v246) w k) (w:=w) (next:=fun v247 w=>
 pG v243 false (fun k=>px P (Instr.fieldAt 33 v247 1) w k) (w:=w) (next:=fun v248 w=>
 pG v243 false (fun k=>px P (Instr.loadAt 30 v248) w k) (w:=w) (next:=fun v249 w=>
 pG v243 false (fun k=>pFn P 44 [v249,(Value.string (ByteArray.mk #[]))] w k) (w:=w) (next:=fun v250 w=>
 pG v243 false (fun k=>pFn P 43 [v245,v250] w k) (w:=w) (next:=fun v251 w=>
 pG v243 false (fun k=>px P (Op.unary UnOp.not v251) w k) (w:=w) (next:=fun v252 w=>
 px P (Zs v243 (Value.bool true) v252) w fun v253 w=>
 pG v253 false (fun k=>k r2 w) (w:=w) (next:=fun v255 w=>
 pG v253 false (fun k=>k told w) (w:=w) (next:=fun v256 w=>
 pG v253 false (fun k=>pFn P 45 [v255,v256] w k) (w:=w) (next:=fun v257 w=>
 pG v253 false (fun k=>px P (Op.unary UnOp.not v257) w k) (w:=w) (next:=fun v258 w=>
 px P (Zs v253 (Value.bool true) v258) w fun v259 w=>
 pC v259 (
   k (Value.bool false) w)
  (
   pFn P 37 [(ptr Bk),f2] w fun v262 w=>
   pFn P 37 [(ptr Bk),s2] w fun v265 w=>
   pFn P 38 [(ptr Bk),t2] w fun v268 w=>
   pFn P 39 [(ptr Bk),r2] w fun v271 w=>
   pFn P 19 [(ptr Pb)] w fun v273 w=>
   px P (Op.unary UnOp.not v273) w fun v274 w=>
   pG v274 false (fun k=>k (ptr Bk) w) (w:=w) (next:=fun v276 w=>
   pG v274 false (fun k=>pFn P 46 [v276] w k) (w:=w) (next:=fun v277 w=>
   pG v274 false (fun k=>px P (Op.unary UnOp.not v277) w k) (w:=w) (next:=fun v278 w=>
   px P (Zs v274 (Value.bool true) v278) w fun v279 w=>
   pC v279 (
     k (Value.bool false) w)
    (
     px P (Zd BinOp.add 3 o1 o2 (i64 i) (Value.int IntKind.i64 1)) w fun v61 w=>
     kk v213 v216 v219 v222 v225 v228 v229 v230 v231 v232 v233 v235 v236 v237 v238 v239 v240 v241 v242 v243 v245 v246 v247 v248 v249 v250 v251 v252 v253 v255 v256 v257 v258 v259 v262 v265 v268 v271 v273 v274 v276 v277 v278 v279 v61 w))))))))))))))))))))))))):=by
 have hfl1:zf1.length≤256:=by rw[show zf1.length=S.files.length from by rw[←e1];unfold ZZ.plain;simp];exact QU ok
 have hfl2:zf2.length≤256:=by rw[show zf2.length=S.files.length from by rw[←e2];unfold ZZ.plain;simp];exact QU ok
 have hsl1:zs1.length≤256:=by rw[show zs1.length=S.Yq.length from by rw[←e3];unfold ZZ.plain;simp];exact BN ok
 have hsl2:zs2.length≤256:=by rw[show zs2.length=S.Yq.length from by rw[←e4];unfold ZZ.plain;simp];exact BN ok
 have hd:∀(z:ZZ) (L:List (ByteArray×Bytes)),z.plain=L→(∀f∈L,f.2.length≤1048576)→∀p∈z,p.1.2.length≤2097152:=fun z L e h p hp=>by
   have hm:p.1∈z.plain:=List.mem_map.2 ⟨p,hp,rfl⟩
   rw[e] at hm
   have:=h _ hm;omega
 have hts:ts.length≤256:=by rw[e5];exact QR S ok _
 refine b_R hS hb (by omega) fun w1 hS=> ?_
 refine b_F hS hfl1 (hd _ _ e1 (UU ok)) (by omega) fun w2 hS=> ?_
 refine b_F hS hsl1 (hd _ _ e3 (JC ok)) (by omega) fun w3 hS=> ?_
 refine b_T hS (by omega) (by omega) fun w4 hS=> ?_
 refine b_S hS hrl (by omega) fun w5 hS=> ?_
 have rE:∀ {w:Y} {l:List Yf} {kk:V→V→KV} (h:w.heap[Pb]? =some (.cells #[ptr D,ptr E,ptr K] 33 (0,0))),(∀a b,kk a b (ptr E) w)→px P (Zh (ptr Pb)) w fun a w=>px P (Instr.fieldAt 33 a 1) w fun b w=>px P (Instr.loadAt 30 b) w fun c w=>kk a b c w:=fun h hk=>Zn (YL (Zj (v:=ptr E) (isAgg30 _) h rfl (hk _ _)))
 refine rE (l:=[]) (hS.cells 8 rfl) fun _ _=> ?_
 obtain⟨O,I,L,r,-⟩:=Sep.ref hS 10 rfl
 refine GQ r ok fun w6 v6 g6 q6=> ?_
 replace hS:=hS.q q6
 refine VO (Qy hS 1 2 rfl rfl) g6 (by rw[e2];exact(VE ok).1) (by rw[e2];exact(VE ok).2) fun w7 q7=> ?_
 rw[decide_eq_true e2]
 replace hS:=hS.q q7
 refine YP (Zl rfl (Zl rfl (Zl rfl (Zn (Zl rfl (YL (Zl rfl (Zj (v:=ptr E) (isAgg30 _) (hS.cells 8 rfl) rfl (Zl rfl ?_)))))))))
 obtain⟨O,I,L,r,-⟩:=Sep.ref hS 10 rfl
 refine SE r ok fun w8 v8 g8 q8=>Zl rfl ?_
 replace hS:=hS.q q8
 refine VO (Qy hS 3 4 rfl rfl) g8 (by rw[e4];exact(VD ok).1) (by rw[e4];exact(VD ok).2) fun w9 q9=> ?_
 rw[decide_eq_true e4]
 replace hS:=hS.q q9
 refine Zl rfl (YP (Zr ?_))
 refine Zl rfl (Zl rfl (Zl rfl (Zn (Zl rfl (YL (Zl rfl (Zj (v:=ptr E) (isAgg30 _) (hS.cells 8 rfl) rfl (Zl rfl ?_))))))))
 obtain⟨O,I,L,r,-⟩:=Sep.ref hS 10 rfl
 refine GR r ok _ fun w10 v10 g10 b10 q10=>Zl rfl ?_
 replace hS:=hS.q q10
 refine QS (Src.Zt (hS.own 5 rfl)) g10 (by omega) fun bo w11 q11 hbo=> ?_
 rw[hbo.2 e5]
 replace hS:=hS.q q11
 refine Zl rfl (YP (Zr ?_))
 obtain⟨Ot,It,ht,-⟩:=hS.get 7 rfl
 refine Zl rfl (Zl rfl (Zl rfl (Bt (Src.Zt (hS.own 6 rfl)) ht (by omega) fun bo2 w12 q12 hbo2=> ?_)))
 rw[hbo2.2 rfl]
 replace hS:=hS.q q12
 refine Zl rfl (YP (Zr (Zf ?_)))
 refine b_F hS hfl2 (hd _ _ e2 (UU ok)) (by omega) fun w13 hS=> ?_
 refine b_F hS hsl2 (hd _ _ e4 (JC ok)) (by omega) fun w14 hS=> ?_
 refine b_T hS (by omega) (by omega) fun w15 hS=> ?_
 refine b_S hS hrl (by omega) fun w16 hS=> ?_
 have hS1:Sep (Yj Bk (N+1100) 0::(VL Pb D E K S bv pv bb pp (Xk W::Vw lv wv zs ws))) w16:=Qg (hS.erase 1 rfl) (by omega)
 have hS2:Sep (VL Pb D E K S bv pv bb pp (Xk W::Yj Bk (N+1100) 0::Vw lv wv zs ws)) w16:=hS1.E5 5
 refine A6 ⟨⟨D,E,bv,pv,bb,pp,hS2,hbb⟩,ok⟩ fun w17 hB=> ?_
 refine YP (Zl rfl (Zl rfl ?_))
 obtain⟨⟨D',E',bv',pv',bb',pp',hS3,hbb'⟩,ok'⟩:=hB
 refine HK (hS3.front 5 rfl) (by omega) (by omega) fun w18 q18=> ?_
 refine Zl rfl (YP (Zr (Zf (Zp (by omega) ?_))))
 have:=hk w18 ⟨⟨D',E',bv',pv',bb',pp',hS3.q q18,hbb'⟩,ok'⟩
 simpa using this _ _ _ _ _ _ _ _ _ _ _ _ _ _ _ _ _ _ _ _ _ _ _ _ _ _ _ _ _ _ _ _ _ _ _ _ _ _ _ _ _ _ _ _
end
section
variable {W w:Y} {k:KV} {r:List Yf}
theorem AA {l:List Yf} {ix:Nat} {lv nm d:V} {n:Nat} {cs:List V} {kk:V→KV} (hS:Sep l w) (hix:l[ix]? =some (Zz 83 2 lv n cs)) (hn:n≤1000000) (h1:nm.oneCell'=true) (h2:d.oneCell'=true)
   (hk:∀u lv' w',Sep (l.set ix (Zz 83 2 lv' (n+1) (cs++[nm,d]))) w'→kk u lv' w'):px P (Instr.buildSlice 71 1 #[(0,.agg #[nm,d])]) w fun u w=>px P (bSem .append #[71,71] 71 #[lv,u]) w (kk u):=
 zl5 (hS.own ix hix) (by intro u hu;simp at hu;rcases hu with rfl|rfl;exact h1;exact h2) (by omega) (Nat.zero_le _) fun u lv' w' ho hf hb=>hk u lv' w' (Sep.vl hS ix hix ho hf fun b hb'=>(hb b hb').imp id (fun h=>h.1))
theorem Uc (zs:ZZ) (p:Co×V):ZZ.plain (zs++[p])=zs.plain++[p.1]:=by unfold ZZ.plain;rw[List.map_append];rfl
theorem JD (zs:ZZ) (p:Co×V):ZM (zs++[p])=ZM zs++[Zz 5 1 p.2 p.1.2.length (u8s p.1.2)]:=by unfold ZM;rw[List.map_append];rfl
theorem UA {lv wv:V} {zs ws:ZZ} {w':Y} {nm:ByteArray} {v wv':V} {bs:Bytes} (hS:Sep (Zz 83 2 wv' (ws.length+1) (Zo ws++[.string nm,v])::Bag (ZM ws)::Zz 5 1 v bs.length (u8s bs)::r) w):
   Sep (Zz 83 2 wv' (ws++[((nm,bs),v)]).length (Zo (ws++[((nm,bs),v)]))::Bag (ZM (ws++[((nm,bs),v)]))::r) w:=by
 have h1:Sep (Zz 5 1 v bs.length (u8s bs)::Zz 83 2 wv' (ws.length+1) (Zo ws++[.string nm,v])::Bag (ZM ws)::r) w:=hS.front 2 rfl
 have h2:Sep (Bag (ZM ws)::Zz 5 1 v bs.length (u8s bs)::Zz 83 2 wv' (ws.length+1) (Zo ws++[.string nm,v])::r) w:=h1.front 2 rfl
 have h3:=(h2.perm (List.Perm.swap _ _ _)).more
 have h4:Sep (Zz 83 2 wv' (ws.length+1) (Zo ws++[.string nm,v])::Bag (ZM ws++[Zz 5 1 v bs.length (u8s bs)])::r) w:=h3.perm (List.Perm.swap _ _ _)
 rw[Jt,JD,List.length_append]
 exact h4
set_option maxHeartbeats 1000000 in
theorem gC {ρ0:Env} {w1:Y} {N1:KE} {lv wv fv:V} {zs ws fs:ZZ} (hS:Sep (Vw lv wv zs ws++(Zz 83 2 fv fs.length (Zo fs)::Bag (ZM fs)::r)) w1) (hz:zs.length≤500000) (hw:ws.length≤500000) (hf:fs.length≤256) (hd:∀p∈fs,p.1.2.length≤1048576)
   (e8:ρ0 8=lv) (e9:ρ0 9=wv) (e27:ρ0 27=fv) (e28:ρ0 28=i64 0)
   (hk:∀(ρ:Env) w' lv' wv' (ws':ZZ),Sep (Vw lv' wv' (zs++fs) ws'++r) w'→ws'.plain=ws.plain++fs.plain→ρ 8=lv'→ρ 9=wv'→(∀t,t<28→t≠8→t≠9→ρ t=ρ0 t)→TI k N1 ρ w'):TE k N1 ρ0 w1:=by
 refine EG (m:=fs.length) k N1 (fun m ρ w'=>∃(i:Nat) (lv' wv':V) (ws':ZZ),i+m=fs.length∧Sep (Vw lv' wv' (zs++fs.take i) ws'++(Zz 83 2 fv fs.length (Zo fs)::Bag (ZM (fs.drop i))::r)) w'∧ws'.plain=ws.plain++ZZ.plain (fs.take i)∧ρ 8=lv'∧ρ 9=wv'∧ρ 28=i64 i∧(∀t,t<28→t≠8→t≠9→ρ t=ρ0 t)) ?_
   ⟨0,lv,wv,ws,by omega,by rw[List.take_zero,List.drop_zero,List.append_nil];exact hS,by rw[List.take_zero];exact(List.append_nil _).symm,e8,e9,e28,fun t _ _ _=>rfl⟩
 rintro m ρ w' ⟨i,lv',wv',ws',him,hS,hpl,e8,e9,e28,hρ⟩
 rw[Mq]
 unfold vz
 have a27:ρ 27=fv:=(hρ 27 (by omega) (by omega) (by omega)).trans e27
 have hws:ws'.length=ws.length+i:=by
   have:=congrArg List.length hpl
   unfold ZZ.plain at this
   simp only[List.length_append,List.length_map,List.length_take] at this
   omega
 have nt:∀t u,t<28→28≤u→t≠u:=fun t u h h'=>by omega
 rw[a27,e8,e9,e28]
 refine ZF X7 (Src.Zt (hS.own 4 rfl)) ?_
 by_cases hi:i<fs.length
 · refine ZA     (by omega) (Zk      ?_)
   obtain⟨c0,c1⟩:=Uh hi
   have hmem:=List.getElem_mem hi
   have hdi:=hd _ hmem
   refine yo X7 (Uv _) (isAgg83 _) (sizeOf83 _) (Src.Zt (hS.own 4 rfl)) hi c0 c1 fun q=> ?_
   have hrow:w'.ownsRow 0 5 1 fs[i].2 fs[i].1.2.length (u8s fs[i].1.2):=by
     have h1:=(hS.front 5 rfl).pick (i:=0) (a:=Zz 5 1 fs[i].2 fs[i].1.2.length (u8s fs[i].1.2)) (by unfold ZM;rw[List.drop_eq_getElem_cons hi];rfl)
     exact h1.own 0 rfl
   obtain⟨Ad,cd,ed,-⟩:∃A c,fs[i].2= .slice A fs[i].1.2.length c∧fs[i].1.2.length≤c:=by obtain⟨A,c,e,h,_⟩:=Src.Zt hrow;exact⟨A,c,e,h⟩
   have hzl:(zs++fs.take i).length≤600000:=by simp;omega
   refine AA hS (ix:=0) rfl (by omega) rfl (by rw[ed];rfl) fun u1 lv2 w2 hS2=> ?_
   have h3:Sep (Zz 83 2 lv2 ((zs++fs.take i).length+1) (Zo (zs++fs.take i)++[.string fs[i].1.1,fs[i].2])::Bag (ZM (zs++fs.take i))::Zz 83 2 wv' ws'.length (Zo ws')::Bag (ZM ws')::Zz 83 2 fv fs.length (Zo fs)::Bag (Zz 5 1 fs[i].2 fs[i].1.2.length (u8s fs[i].1.2)::ZM (fs.drop (i+1)))::r) w2:=by
     have e:ZM (fs.drop i)=Zz 5 1 fs[i].2 fs[i].1.2.length (u8s fs[i].1.2)::ZM (fs.drop (i+1)):=by unfold ZM;rw[List.drop_eq_getElem_cons hi,List.map_cons]
     rw[←e];exact hS2
   have h4:Sep (Zz 5 1 fs[i].2 fs[i].1.2.length (u8s fs[i].1.2)::Bag (ZM (fs.drop (i+1)))::Zz 83 2 lv2 ((zs++fs.take i).length+1) (Zo (zs++fs.take i)++[.string fs[i].1.1,fs[i].2])::Bag (ZM (zs++fs.take i))::Zz 83 2 wv' ws'.length (Zo ws')::Bag (ZM ws')::Zz 83 2 fv fs.length (Zo fs)::r) w2:=(h3.front 5 rfl).pick (i:=0) rfl
   have h5:Sep (Zz 83 2 lv2 ((zs++fs.take i).length+1) (Zo (zs++fs.take i)++[.string fs[i].1.1,fs[i].2])::Bag (ZM (zs++fs.take i))::Zz 5 1 fs[i].2 fs[i].1.2.length (u8s fs[i].1.2)::Bag (ZM (fs.drop (i+1)))::Zz 83 2 wv' ws'.length (Zo ws')::Bag (ZM ws')::Zz 83 2 fv fs.length (Zo fs)::r) w2:=(h4.front 3 rfl).front 3 rfl
   have h6:=UA (lv:=lv2) (wv:=wv') (zs:=zs) (w':=w2) h5
   have etake:zs++fs.take (i+1)=(zs++fs.take i)++[fs[i]]:=by rw[List.take_succ_eq_append_getElem hi,List.append_assoc]
   have h7:Sep (Vw lv2 wv' (zs++fs.take (i+1)) ws'++(Zz 83 2 fv fs.length (Zo fs)::Bag (ZM (fs.drop (i+1)))::r)) w2:=by
     rw[etake]
     exact h6.perm (((List.perm_append_comm (l₁:=[Bag (ZM (fs.drop (i+1)))]) (l₂:=[Zz 83 2 wv' ws'.length (Zo ws'),Bag (ZM ws'),Zz 83 2 fv fs.length (Zo fs)])).append_right r).cons _ |>.cons _)
   have h8:=h7.q (Fr.drew _ w2)
   generalize w2.drew=w3 at *
   have hF:∀ {u:Y} {q:List Yf},Sep (Vw lv2 wv' (zs++fs.take (i+1)) ws'++(Zz 83 2 fv fs.length (Zo fs)::q)) u→Src u fv 2 fs.length (Zo fs):=fun h=>Src.Zt (h.own 4 rfl)
   obtain⟨b,o,c,ev,hcell⟩:=(hF h8).place hi (by decide)
   have hCell:∀ {u:Y},Src u fv 2 fs.length (Zo fs)→u.cell? ⟨b,o+i*2,none⟩=some (.string fs[i].1.1)∧u.cell? ⟨b,o+i*2+1,none⟩=some fs[i].2:=fun h=>by
     obtain⟨b',o',c',ev',hc'⟩:=h.place hi (by decide)
     rw[ev] at ev';injection ev' with q1;injection q1 with q1;injection q1 with q1 q2;subst q1 q2
     exact⟨hc' 0 _ (by decide) (by simpa using c0),hc' 1 _ (by decide) c1⟩
   refine⟨fun u=>u.cell? ⟨b,o+i*2,none⟩=some (.string fs[i].1.1)∧u.cell? ⟨b,o+i*2+1,none⟩=some fs[i].2,hCell (hF h8),?_⟩
   refine Zi _ (fun w_ hS=>X3 ev X7 (Uv _) hi ⟨rfl,rfl⟩) (Zi _ (fun w_ hS=>QX ⟨rfl,rfl⟩) (Zi (.string fs[i].1.1) (fun w_ hS=>Xl (isAgg9 _) (by simpa using hS.1) ⟨rfl,rfl⟩) ?_))
   refine Zi _ (fun w_ hS=>X3 ev X7 (Uv _) hi ⟨rfl,rfl⟩) (Zi _ (fun w_ hS=>JI ⟨rfl,rfl⟩) (Zi fs[i].2 (fun w_ hS=>Xl (isAgg36 _) (by simpa using hS.2) ⟨rfl,rfl⟩) ?_))
   have hrow3:Z5 w3 fs[i].2 fs[i].1.2:=by
     have e:ZM (zs++fs.take (i+1))=ZM (zs++fs.take i)++[Zz 5 1 fs[i].2 fs[i].1.2.length (u8s fs[i].1.2)]:=by rw[etake,JD]
     have h9:=h8.front 1 rfl
     rw[e] at h9
     exact Src.Zt ((h9.pick (i:=(ZM (zs++fs.take i)).length) (a:=Zz 5 1 fs[i].2 fs[i].1.2.length (u8s fs[i].1.2)) (by simp)).own 0 rfl)
   refine y3 hrow3 (by omega) (fun u hu=>hCell ((hF h8).fr (by decide) hu fun _ _ h=>h)) fun a v w4 ho4 hb4 f4=> ?_
   obtain⟨Av,cv,evv,-⟩:∃A c,v= .slice A fs[i].1.2.length c∧fs[i].1.2.length≤c:=by obtain⟨A,c,e,h,_⟩:=Src.Zt ho4;exact⟨A,c,e,h⟩
   have h10:Sep (Zz 5 1 v fs[i].1.2.length (u8s fs[i].1.2)::(Vw lv2 wv' (zs++fs.take (i+1)) ws'++(Zz 83 2 fv fs.length (Zo fs)::Bag (ZM (fs.drop (i+1)))::r))) w4:=h8.Ce f4 (fun b hb=>hb.elim) ho4 hb4
   refine Zi (.agg #[.string fs[i].1.1,v]) (fun w_ hS=>Z9 (w':=w_) (v:= .agg #[.string fs[i].1.1,v]) (by rw[evv];kernel_rfl) ⟨rfl,rfl⟩) ?_
   refine Z9 (w':=w4.alloc (.cells #[.string fs[i].1.1,v] 83)) (v:= .slice (some ⟨w4.heap.size,0,none⟩) 1 1) (by rw[evv];kernel_rfl) ?_
   have f5:=Fr.alloc no w4 (.cells #[.string fs[i].1.1,v] 83)
   have ho5:=ZQ w4 0 83 2 #[.string fs[i].1.1,v] 1 (Nat.zero_le _) (by unfold maxLen;omega) rfl
   generalize w4.alloc (.cells #[.string fs[i].1.1,v] 83)=w5 at *
   have h11:=h10.q f5
   refine⟨hCell (Src.Zt (h11.own 5 rfl)),?_⟩
   refine yB (h11.own 3 rfl) (Src.Zt ho5) (by intro u hu;simp at hu;rcases hu with rfl|rfl;rfl;rw[evv];rfl) (by omega) (Nat.zero_le _) fun wv2 w6 h6' f6 hb6=> ?_
   have h12:=h11.Cd 3 rfl h6' f6 hb6
   refine⟨hCell (Src.Zt (h12.own 5 rfl)),Zp (by omega) ?_⟩
   have h13:Sep (Zz 83 2 wv2 (ws'.length+1) (Zo ws'++[.string fs[i].1.1,v])::Bag (ZM ws')::Zz 5 1 v fs[i].1.2.length (u8s fs[i].1.2)::Zz 83 2 lv2 (zs++fs.take (i+1)).length (Zo (zs++fs.take (i+1)))::Bag (ZM (zs++fs.take (i+1)))::Zz 83 2 fv fs.length (Zo fs)::Bag (ZM (fs.drop (i+1)))::r) w6:=(h12.front 4 rfl).front 4 rfl
   have h14:=UA (lv:=lv2) (wv:=wv') (zs:=zs) (w':=w2) h13
   have h15:Sep (Vw lv2 wv2 (zs++fs.take (i+1)) (ws'++[((fs[i].1.1,fs[i].1.2),v)])++(Zz 83 2 fv fs.length (Zo fs)::Bag (ZM (fs.drop (i+1)))::r)) w6:=(h14.front 3 rfl).front 3 rfl
   refine⟨m-1,by omega,i+1,lv2,wv2,_,by omega,h15,?_,rfl,rfl,?_,fun t h1 h2 h3=> ?_⟩
   · rw[Uc,hpl,List.take_succ_eq_append_getElem hi,Uc,List.append_assoc]
   · show i64 _=i64 _;simp
   · rw [Y5     _ _ _ _ (nt _ _ h1 (by omega) : t ≠ 28)]
     repeat (first|rw[Y5 _ _ _ _ (nt _ _ h1 (by omega))]|rw[Y5 _ _ _ _ h2]|rw[Y5 _ _ _ _ h3])
     exact hρ t h1 h2 h3
 · refine ZB     (by omega) (Zf       ?_)
   rw[Mr]
   have hie:i=fs.length:=by omega
   subst hie
   rw[List.take_of_length_le (Nat.le_refl _)] at hS hpl
   have h1:=hS.erase 4 rfl
   have h2:Sep (Vw lv' wv' (zs++fs) ws'++r) w':=h1.erase 4 rfl
   refine hk _ w' lv' wv' ws' h2 hpl e8 e9 fun t h1 h2 h3=> ?_
   repeat rw[Y5 _ _ _ _ (nt _ _ h1 (by omega))]
   exact hρ t h1 h2 h3
end
end Go.Proofs.YtcdcojpfealppaaGreat
