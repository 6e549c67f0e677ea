/- Put together by a program (wip/tools/shake.py): SepD,RRep,ROps,ROps2. -/
import Derived.Test.YtcdcojpfealppaaGreatY15
import Derived.Test.YtcdcojpfealppaaGreatY16
import Derived.Test.YtcdcojpfealppaaGreatY17
import Derived.Test.YtcdcojpfealppaaGreatY3
import Derived.Sort.Walk0
set_option linter.unusedVariables false
set_option linter.unusedSimpArgs false
set_option maxRecDepth 100000
open Go renaming World → Y, Value → V
namespace Go.Proofs.YtcdcojpfealppaaGreat
open Go Go.Proofs Go.RowKit Go.Proofs.XRed Go.Proofs.XHeap Go.Proofs.XMaps Go.Proofs.XSlices Go.Proofs.XDisk Go.Proofs.XCalls Go.Proofs.XSep Tryz
def Dk (D:Nat) (S:AD):Yf where
 h w O I:=∃L,Yi w D S O I L
 fr:=fun⟨L,h⟩ hf hm=>⟨L,h.fr hf hm⟩
 lt:=fun⟨L,h⟩=>h.lt
 ap:=fun⟨L,h⟩=>h.apart
theorem Nx.nxt {w w':Y} {D:Nat} {S':AD} {O I O' I' J:Nat→Prop} {L':Lay} (h:Nx w D O I w' S' O' I' L') (hJ:∀b,I b→J b):Nxt w O J w' O' I':=
 ⟨h.fr,h.on,fun b hb=>(h.in_ b hb).imp (hJ b) id⟩
theorem Sep.disk {l:List Yf} {w:Y} (h:Sep l w) (i:Nat) {D:Nat} {S:AD} (hi:l[i]? =some (Dk D S)):
   ∃O I L,Yi w D S O I L∧∀w' S' O' I' L',Nx w D O I w' S' O' I' L'→Sep (l.set i (Dk D S')) w':=by
 obtain⟨O,I,J,⟨L,h1⟩,h2,-,h3⟩:=h.at_ i hi
 exact⟨O,I,L,h1,fun w' S' O' I' L' hx=>h3 _ w' O' I' ⟨L',hx.rep⟩ (hx.nxt h2)⟩
theorem Sep.zj5 {l:List Yf} {w:Y} {D:Nat} {S:AD} (h:Sep (Dk D S::l) w):
   ∃O I L,Yi w D S O I L∧∀w' D' L',Yi w' D' S (fun b=>w.heap.size≤b∧b<w'.heap.size) I L'→Fr no w w'→Sep (Dk D S::Dk D' S::l) w':=by
 obtain⟨O,I,J,⟨L,h1⟩,h2,-,h3⟩:=h.at_ 0 rfl
 refine⟨O,I,L,h1,fun w' D' L' hx hf=> ?_⟩
 refine Sep.Mf (h3 (star (Dk D S) (Dk D' S)) w' (fun b=>O b∨(w.heap.size≤b∧b<w'.heap.size)) (fun b=>I b∨I b) ⟨O,I,_,I,⟨L,h1.fr hf fun b hb=>hb.elim⟩,⟨L',hx⟩,⟨fun b hb=> ?_,fun b hb=> ?_⟩,fun _=>Iff.rfl,fun _=>Iff.rfl⟩ ⟨hf.mono fun b hb=>hb.elim,fun b hb=> ?_,fun b hb=> ?_⟩)
 · exact⟨fun h'=>absurd (h1.lt b (.inl hb)) (by have:=h'.1;omega),h1.apart b hb⟩
 · exact⟨fun h'=>absurd (h1.lt b (.inl h')) (by have:=hb.1;omega),hx.apart b hb⟩
 · exact hb.imp id fun h=>h.1
 · exact .inl (h2 b (hb.elim id id))
abbrev noB:ByteArray:=ByteArray.mk #[]
def Yp (loc:Nat→Nat):Turn→List V
 | .mk n t=>[i64 1,.string n,.string noB,ptr (loc t)]
 | .give a b=>[i64 2,.string a,.string b,.pointer none]
 | .take n=>[i64 3,.string n,.string noB,.pointer none]
def ZO (loc:Nat→Nat) (l:Names):List V:=l.flatMap fun p=>[.string p.1,ptr (loc p.2)]
def NV (w:Y) (I:Nat→Prop) (loc:Nat→Nat) (v:V) (l:Names):Prop:=Src w v 2 l.length (ZO loc l)∧∀b,Zv v=some b→I b
def ZK:Chg×V→List V
 |(.wr a _,s)=>[.bool false,i64 a,s]
 |(.cut n,s)=>[.bool true,i64 n,s]
def VQ (w:Y) (I:Nat→Prop):Chg×V→Prop
 |(.wr _ d,s)=>SB w I s d
 |(.cut _,s)=>SB w I s []
structure VK (w:Y) (O I:Nat→Prop) (T:Nat) (rb:V) (x:Thg):Prop where
 ex:∃(sv hv:V) (ps:List (Chg×V)),w.heap[T]? =some (.cells #[sv,hv,rb] 156 (0,0))∧SB w I sv x.safe∧SB w I hv x.shown∧w.ownsRow 0 186 3 rb x.row.length (ps.flatMap ZK)∧ps.map (·.1)=x.row∧∀p∈ps,VQ w I p
 own:O T
 rown:∀b,Zv rb=some b→O b
structure Uy where
 has:Nat→Prop
 loc:Nat→Nat
 trow:Nat→V
 nowv:V
 befv:V
 turnv:V
 toldv:V
def Y6 (S:AD) (L:Uy):Array V:=
 #[.bool (!S.off),i64 S.room,L.nowv,L.befv,L.turnv,i64 S.strokes,i64 S.since,i64 S.plan.off,i64 S.plan.from_,i64 S.plan.to_,L.toldv]
structure YC (w:Y) (D:Nat) (S:AD) (O I:Nat→Prop) (L:Uy):Prop where
 disk:w.heap[D]? =some (.cells (Y6 S L) 62 (0,0))
 now:NV w I L.loc L.nowv S.shown
 bef:NV w I L.loc L.befv S.safe
 turns:w.ownsRow 0 146 4 L.turnv S.row.length (S.row.flatMap (Yp L.loc))
 told:w.ownsRow 0 134 3 L.toldv S.reads.length (S.reads.flatMap Z3)
 sub:∀t,reach S t→L.has t
 below:∀t,L.has t→t<S.next
 things:∀t,L.has t→VK w O I (L.loc t) (L.trow t) (S.things t)
 inj:∀t u,L.has t→L.has u→L.loc t=L.loc u→t=u
 rows:∀t u,L.has t→L.has u→t≠u→∀b,Zv (L.trow t)=some b→Zv (L.trow u)≠some b
 oD:O D
 oturn:∀b,Zv L.turnv=some b→O b
 otold:∀b,Zv L.toldv=some b→O b
 apart:∀b,O b→¬I b
 lt:∀b,O b∨I b→b<w.heap.size
theorem NV.fr {O I:Nat→Prop} {w w':Y} {loc:Nat→Nat} {v:V} {l:Names} (h:NV w I loc v l) (hf:Fr O w w') (hn:∀b,I b→¬O b):NV w' I loc v l:=⟨h.1.fr (by omega) hf fun b hb=>hn b (h.2 b hb),h.2⟩
theorem NV.mono {I I':Nat→Prop} {w:Y} {loc:Nat→Nat} {v:V} {l:Names} (h:NV w I loc v l) (hi:∀b,I b→I' b):NV w I' loc v l:=⟨h.1,fun b hb=>hi b (h.2 b hb)⟩
theorem VQ.fr {O I:Nat→Prop} {w w':Y} {p:Chg×V} (h:VQ w I p) (hf:Fr O w w') (hn:∀b,I b→¬O b):VQ w' I p:=by
 obtain⟨c,s⟩:=p
 cases c<;>exact SB.fr h hf hn
theorem VQ.mono {I I':Nat→Prop} {w:Y} {p:Chg×V} (h:VQ w I p) (hi:∀b,I b→I' b):VQ w I' p:=by
 obtain⟨c,s⟩:=p
 cases c<;>exact SB.mono h hi
theorem VK.fr {O I M:Nat→Prop} {w w':Y} {T:Nat} {rb:V} {x:Thg} (h:VK w O I T rb x) (hf:Fr M w w') (hT:¬M T) (hr:∀b,Zv rb=some b→¬M b) (hn:∀b,I b→¬M b):VK w' O I T rb x:=by
 obtain⟨⟨sv,hv,ps,hb,h1,h2,h3,h4,h5⟩,h6,h7⟩:=h
 exact⟨⟨sv,hv,ps,hf.get hb hT,h1.fr hf hn,h2.fr hf hn,Z4 h3 hf hr,h4,fun p hp=>(h5 p hp).fr hf hn⟩,h6,h7⟩
theorem VK.mono {O O' I I':Nat→Prop} {w:Y} {T:Nat} {rb:V} {x:Thg} (h:VK w O I T rb x) (ho:∀b,O b→O' b) (hi:∀b,I b→I' b):VK w O' I' T rb x:=by
 obtain⟨⟨sv,hv,ps,hb,h1,h2,h3,h4,h5⟩,h6,h7⟩:=h
 exact⟨⟨sv,hv,ps,hb,h1.mono hi,h2.mono hi,h3,h4,fun p hp=>(h5 p hp).mono hi⟩,ho _ h6,fun b hb=>ho _ (h7 b hb)⟩
theorem YC.fr {w w':Y} {D:Nat} {S:AD} {O I M:Nat→Prop} {L:Uy} (h:YC w D S O I L) (hf:Fr M w w') (hn:∀b,M b→¬O b∧¬I b):YC w' D S O I L where
 disk:=hf.get h.disk fun hm=>(hn _ hm).1 h.oD
 now:=h.now.fr hf fun b hb hm=>(hn b hm).2 hb
 bef:=h.bef.fr hf fun b hb hm=>(hn b hm).2 hb
 turns:=Z4 h.turns hf fun b hb hm=>(hn _ hm).1 (h.oturn b hb)
 told:=Z4 h.told hf fun b hb hm=>(hn _ hm).1 (h.otold b hb)
 things:=fun t ht=>(h.things t ht).fr hf (fun hm=>(hn _ hm).1 (h.things t ht).own) (fun b hb hm=>(hn _ hm).1 ((h.things t ht).rown b hb)) fun b hi hm=>(hn _ hm).2 hi
 sub:=h.sub
 below:=h.below
 inj:=h.inj
 rows:=h.rows
 oD:=h.oD
 oturn:=h.oturn
 otold:=h.otold
 apart:=h.apart
 lt:=fun b hb=>Nat.lt_of_lt_of_le (h.lt b hb) hf.size
structure RNx (w:Y) (D:Nat) (O I:Nat→Prop) (w':Y) (S':AD) (O' I':Nat→Prop) (L':Uy):Prop where
 rep:YC w' D S' O' I' L'
 fr:Fr O w w'
 oo:∀b,O b→O' b
 ii:∀b,I b→I' b
 on:∀b,O' b→O b∨w.heap.size≤b
 in_:∀b,I' b→I b∨w.heap.size≤b
theorem RNx.trans {w w1 w2:Y} {D:Nat} {O I O1 I1 O2 I2:Nat→Prop} {S1 S2:AD} {L1 L2:Uy} (h:RNx w D O I w1 S1 O1 I1 L1) (k:RNx w1 D O1 I1 w2 S2 O2 I2 L2):RNx w D O I w2 S2 O2 I2 L2 where
 rep:=k.rep
 fr:=h.fr.trans k.fr fun b hb=>h.on b hb
 oo:=fun b hb=>k.oo b (h.oo b hb)
 ii:=fun b hb=>k.ii b (h.ii b hb)
 on:=fun b hb=>(k.on b hb).elim (h.on b) fun h'=> .inr (Nat.le_trans h.fr.size h')
 in_:=fun b hb=>(k.in_ b hb).elim (h.in_ b) fun h'=> .inr (Nat.le_trans h.fr.size h')
theorem RNx.refl {w:Y} {D:Nat} {O I:Nat→Prop} {S:AD} {L:Uy} (h:YC w D S O I L):RNx w D O I w S O I L:=⟨h,Fr.refl _ _,fun b=>id,fun b=>id,fun b=> .inl,fun b=> .inl⟩
theorem RNx.quiet {w w':Y} {D:Nat} {O I:Nat→Prop} {S:AD} {L:Uy} (h:YC w D S O I L) (hf:Fr no w w'):RNx w D O I w' S O I L:=
 ⟨h.fr hf fun b hb=>hb.elim,hf.mono fun b hb=>hb.elim,fun b=>id,fun b=>id,fun b=> .inl,fun b=> .inl⟩
def Rk (D:Nat) (S:AD):Yf where
 h w O I:=∃L,YC w D S O I L
 fr:=fun⟨L,h⟩ hf hm=>⟨L,h.fr hf hm⟩
 lt:=fun⟨L,h⟩=>h.lt
 ap:=fun⟨L,h⟩=>h.apart
theorem Sep.ref {l:List Yf} {w:Y} (h:Sep l w) (i:Nat) {D:Nat} {S:AD} (hi:l[i]? =some (Rk D S)):
   ∃O I L,YC w D S O I L∧∀w' S' O' I' L',RNx w D O I w' S' O' I' L'→Sep (l.set i (Rk D S')) w':=by
 obtain⟨O,I,J,⟨L,h1⟩,h2,-,h3⟩:=h.at_ i hi
 exact⟨O,I,L,h1,fun w' S' O' I' L' hx=>h3 _ w' O' I' ⟨L',hx.rep⟩ ⟨hx.fr,hx.on,fun b hb=>(hx.in_ b hb).imp (h2 b) id⟩⟩
section
variable {w:Y} {D:Nat} {S S':AD} {O I:Nat → Prop} {L L':Uy} {k:KV}
theorem VK.obj {T:Nat} {rb:V} {x:Thg} (h:VK w O I T rb x):∃c,w.heap[T]? =some (.cells c 156 (0,0)):=by obtain⟨⟨_,_,_,h,_⟩,_⟩:=h;exact⟨_,h⟩
theorem VK.Mg {T:Nat} {rb:V} {x:Thg} (h:VK w O I T rb x) {b:Nat} (hb:Zv rb=some b):∃c,w.heap[b]? =some (.cells c 186 (0,0)):=by obtain⟨⟨_,_,_,_,_,_,h,_⟩,_⟩:=h;exact Z0 h hb
def jh (L:Uy) (D b:Nat):Prop:=b=D∨Zv L.turnv=some b∨Zv L.toldv=some b
theorem YC.own (h:YC w D S O I L) {b:Nat} (hb:jh L D b):O b:=by
 rcases hb with rfl|hb|hb
 ·exact h.oD
 ·exact h.oturn b hb
 ·exact h.otold b hb
theorem YC.RL (h:YC w D S O I L) {b:Nat} (hb:jh L D b) {c:Array V} {T:TypeId} {f:Nat×Nat} (hT:T=156∨T=186∨T=5):w.heap[b]?≠some (.cells c T f):=by
 intro hc
 have key:∀ {c':Array V} {T':TypeId} {f'},w.heap[b]? =some (.cells c' T' f')→T'=62∨T'=146∨T'=134→False:=by
  intro c' T' f' h' hT'
  have:=Zy hc h'
  subst this
  revert hT hT'
  rintro (rfl|rfl|rfl)<;>decide
 rcases hb with rfl|hb|hb
 ·exact key h.disk (.inl rfl)
 ·obtain⟨_,h'⟩:=Z0 h.turns hb;exact key h' (.inr (.inl rfl))
 ·obtain⟨_,h'⟩:=Z0 h.told hb;exact key h' (.inr (.inr rfl))
theorem YC.plain {w':Y} {M O' I':Nat→Prop} (h:YC w D S O I L) (hf:Fr M w w') (hM:∀b,M b→jh L D b∨w.heap.size≤b)
   (hd:w'.heap[D]? =some (.cells (Y6 S' L') 62 (0,0))) (e1:S'.things=S.things) (e2:∀t,reach S' t→L.has t) (e3:L'.loc=L.loc) (e4:L'.trow=L.trow) (e5:L'.has=L.has) (e6:S.next≤S'.next)
   (hnow:NV w' I' L.loc L'.nowv S'.shown) (hbef:NV w' I' L.loc L'.befv S'.safe) (hturns:w'.ownsRow 0 146 4 L'.turnv S'.row.length (S'.row.flatMap (Yp L.loc))) (htold:w'.ownsRow 0 134 3 L'.toldv S'.reads.length (S'.reads.flatMap Z3))
   (hO:∀b,O b→O' b) (hI:∀b,I b→I' b) (h1:∀b,Zv L'.turnv=some b→O' b) (h2:∀b,Zv L'.toldv=some b→O' b) (hap:∀b,O' b→¬I' b) (hlt:∀b,O' b∨I' b→b<w'.heap.size):YC w' D S' O' I' L' where
 disk:=hd
 now:=by rw[e3];exact hnow
 bef:=by rw[e3];exact hbef
 turns:=by rw[e3];exact hturns
 told:=htold
 sub:=fun t ht=>by rw[e5];exact e2 t ht
 below:=fun t ht=>Nat.lt_of_lt_of_le (h.below t (e5▸ht)) e6
 things:=fun t ht=>by
   have hT:=h.things t (e5▸ht)
   rw[e1,e3,e4]
   refine(hT.fr hf ?_ ?_ ?_).mono hO hI
   · intro hm
     rcases hM _ hm with h'|h'
     · obtain⟨c,hc⟩:=hT.obj;exact h.RL h' (.inl rfl) hc
     · exact absurd (h.lt _ (.inl hT.own)) (by omega)
   · intro b hb hm
     rcases hM _ hm with h'|h'
     · obtain⟨c,hc⟩:=hT.Mg hb;exact h.RL h' (.inr (.inl rfl)) hc
     · exact absurd (h.lt _ (.inl (hT.rown b hb))) (by omega)
   · intro b hb hm
     rcases hM _ hm with h'|h'
     · exact h.apart b (h.own h') hb
     · exact absurd (h.lt _ (.inr hb)) (by omega)
 inj:=fun t u ht hu=>by rw[e3];exact h.inj t u (e5▸ht) (e5▸hu)
 rows:=fun t u ht hu=>by rw[e4];exact h.rows t u (e5▸ht) (e5▸hu)
 oD:=hO _ h.oD
 oturn:=h1
 otold:=h2
 apart:=hap
 lt:=hlt
theorem YC.cell {w':Y} (h:YC w D S O I L) (hf:Fr (fun b=>b=D) w w') (hd:w'.heap[D]? =some (.cells (Y6 S' L) 62 (0,0))) (h1:S'.shown=S.shown) (h2:S'.safe=S.safe) (h3:S'.row=S.row) (h4:S'.reads=S.reads) (h5:S'.things=S.things) (h6:S'.next=S.next):
   RNx w D O I w' S' O I L:=by
 have hI:∀b,I b→¬(b=D):=fun b hb e=>h.apart b (e▸h.oD) hb
 have hne:∀b,Zv L.turnv=some b∨Zv L.toldv=some b→¬(b=D):=by
   rintro b hb rfl
   rcases hb with hb|hb
   · obtain⟨c,hc⟩:=Z0 h.turns hb;exact absurd (Zy hc h.disk) (by decide)
   · obtain⟨c,hc⟩:=Z0 h.told hb;exact absurd (Zy hc h.disk) (by decide)
 refine⟨h.plain hf (fun b hb=> .inl (.inl hb)) hd h5 (fun t ht=>h.sub t (by unfold reach at *;rw[h1,h2,h3] at ht;exact ht)) rfl rfl rfl (Nat.le_of_eq h6.symm) (by rw[h1];exact h.now.fr hf hI) (by rw[h2];exact h.bef.fr hf hI) ?_ ?_ (fun b=>id) (fun b=>id) h.oturn h.otold h.apart fun b hb=>Nat.lt_of_lt_of_le (h.lt b hb) hf.size,
   hf.mono fun b hb=> .inl (hb▸h.oD),fun b=>id,fun b=>id,fun b=> .inl,fun b=> .inl⟩
 · rw[h3];exact Z4 h.turns hf fun b hb=>hne b (.inl hb)
 · rw[h4];exact Z4 h.told hf fun b hb=>hne b (.inr hb)
theorem YC.Yk {w':Y} {M O' I':Nat→Prop} {t:Nat} {x':Thg} {rb':V} (h:YC w D S O I L) (ht:L.has t) (hf:Fr M w w') (hM:∀b,M b→b=L.loc t∨Zv (L.trow t)=some b∨w.heap.size≤b)
   (hO:∀b,O b→O' b) (hI:∀b,I b→I' b) (hT:VK w' O' I' (L.loc t) rb' x') (hrb:∀b,Zv rb'=some b→Zv (L.trow t)=some b∨w.heap.size≤b) (hap:∀b,O' b→¬I' b) (hlt:∀b,O' b∨I' b→b<w'.heap.size):
   YC w' D (S.ZL t x') O' I' { L with trow:=fun i=>if i=t then rb' else L.trow i}:=by
 have hT0:=h.things t ht
 have hOwn:∀b,jh L D b→¬M b:=by
   intro b hb hm
   rcases hM b hm with e|e|e
   · obtain⟨c,hc⟩:=hT0.obj;rw[←e] at hc;exact h.RL hb (.inl rfl) hc
   · obtain⟨c,hc⟩:=hT0.Mg e;exact h.RL hb (.inr (.inl rfl)) hc
   · have:=h.lt b (.inl (h.own hb));omega
 have hnI:∀b,I b→¬M b:=by
   intro b hb hm
   rcases hM b hm with e|e|e
   · exact h.apart b (e▸hT0.own) hb
   · exact h.apart b (hT0.rown b e) hb
   · have:=h.lt b (.inr hb);omega
 have hth:∀u,L.has u→u≠t→VK w' O I (L.loc u) (L.trow u) (S.things u):=by
   intro u hu hne
   have hU:=h.things u hu
   refine hU.fr hf ?_ ?_ hnI
   · intro hm
     rcases hM _ hm with e|e|e
     · exact hne (h.inj u t hu ht e)
     · obtain ⟨c,hc⟩ := hT0.Mg   e
       obtain⟨c',hc'⟩:=hU.obj
       exact absurd (Zy hc hc') (by decide)
     · have:=h.lt _ (.inl hU.own);omega
   · intro b hb hm
     rcases hM _ hm with e|e|e
     · obtain ⟨c,hc⟩ := hU.Mg   hb
       obtain⟨c',hc'⟩:=hT0.obj
       rw[e] at hc
       exact absurd (Zy hc hc') (by decide)
     · exact h.rows u t hu ht hne b hb e
     · have:=h.lt _ (.inl (hU.rown b hb));omega
 have hrow:∀u,L.has u→u≠t→∀b,Zv (L.trow u)=some b→Zv rb'≠some b:=by
   intro u hu hne b hb hb'
   rcases hrb b hb' with e|e
   · exact h.rows u t hu ht hne b hb e
   · have:=h.lt _ (.inl ((h.things u hu).rown b hb));omega
 exact {
   disk:=hf.get h.disk (hOwn _ (.inl rfl))
   now:=(h.now.fr hf hnI).mono hI
   bef:=(h.bef.fr hf hnI).mono hI
   turns:=Z4 h.turns hf fun b hb=>hOwn b (.inr (.inl hb))
   told:=Z4 h.told hf fun b hb=>hOwn b (.inr (.inr hb))
   sub:=h.sub
   below:=h.below
   things:=fun u hu=>by
     have hu':L.has u:=hu
     by_cases e:u=t
     · subst e
       simp only[AD.ZL,if_true]
       exact hT
     · simp only [AD.ZL      ,if_neg e]
       exact(hth u hu' e).mono hO hI
   inj:=h.inj
   rows:=fun u v hu hv hne=>by
     have hu':L.has u:=hu
     have hv':L.has v:=hv
     by_cases e:u=t<;>by_cases e':v=t
     · exact absurd (e.trans e'.symm) hne
     · simp only [if_pos e,if_neg e']
       intro b hb hb';exact hrow v hv' e' b hb' hb
     · simp only[if_neg e,if_pos e'];exact hrow u hu' e
     · simp only[if_neg e,if_neg e'];exact h.rows u v hu' hv' hne
   oD:=hO _ h.oD
   oturn:=fun b hb=>hO _ (h.oturn b hb)
   otold:=fun b hb=>hO _ (h.otold b hb)
   apart:=hap
   lt:=hlt}
theorem U4 {f g:Nat→Nat} {l:Names} (h:∀p∈l,f p.2=g p.2):ZO f l=ZO g l:=by
 unfold ZO
 induction l with
 |nil=>rfl
 |cons p r ih=>simp only[List.flatMap_cons];rw[h p List.mem_cons_self,ih fun q hq=>h q (List.mem_cons_of_mem _ hq)]
theorem Cr {f g:Nat→Nat} {c:Turn} (h:∀n t,c= .mk n t→f t=g t):Yp f c=Yp g c:=by
 cases c with
 |mk n t=>simp[Yp,h n t rfl]
 |give a b=>rfl
 |take n=>rfl
theorem B0 {f g:Nat→Nat} {l:List Turn} (h:∀c∈l,∀n t,c= .mk n t→f t=g t):l.flatMap (Yp f)=l.flatMap (Yp g):=by
 induction l with
 |nil=>rfl
 |cons p r ih=>simp only[List.flatMap_cons];rw[Cr (h p List.mem_cons_self),ih fun q hq=>h q (List.mem_cons_of_mem _ hq)]
theorem YC.place (h:YC w D S O I L) (n T:Nat) (hn:¬L.has n) (S1:AD) (e1:S1.shown=S.shown) (e2:S1.safe=S.safe) (e3:S1.row=S.row) (e4:S1.reads=S.reads) (e5:Y6 S1 L=Y6 S L) (e6:∀t,t≠n→S1.things t=S.things t) (hT:¬O T) (hI:¬I T) (hlt:T<w.heap.size) (e7:n<S1.next) (e8:S.next≤S1.next) (hT0:w.heap[T]? =some (.cells #[.slice none 0 0,.slice none 0 0,.slice none 0 0] 156 (0,0))) (hx:S1.things n=Thg.empty):
   YC w D S1 (fun b=>O b∨b=T) I { L with has:=fun i=>L.has i∨i=n,loc:=fun i=>if i=n then T else L.loc i,trow:=fun i=>if i=n then .slice none 0 0 else L.trow i}:=by
 have hr:∀t,reach S1 t↔reach S t:=by intro t;unfold reach;rw[e1,e2,e3]
 have hne:∀t,L.has t→t≠n:=by rintro t ht rfl;exact hn ht
 have hne':∀t,reach S t→t≠n:=fun t ht=>hne t (h.sub t ht)
 have hloc:∀t,L.has t→L.loc t≠T:=fun t ht e=>hT (e▸(h.things t ht).own)
 exact {
   disk:=by show w.heap[D]? =some (.cells (Y6 S1 L) 62 (0,0));rw[e5];exact h.disk
   now:=by
     refine⟨?_,h.now.2⟩
     rw[e1]
     show Src w L.nowv 2 _ (ZO (fun i=>if i=n then T else L.loc i) _)
     rw[U4 (g:=L.loc) fun p hp=>if_neg (hne' p.2 (.inl ⟨p.1,hp⟩))];exact h.now.1
   bef:=by
     refine⟨?_,h.bef.2⟩
     rw[e2]
     show Src w L.befv 2 _ (ZO (fun i=>if i=n then T else L.loc i) _)
     rw[U4 (g:=L.loc) fun p hp=>if_neg (hne' p.2 (.inr (.inl ⟨p.1,hp⟩)))];exact h.bef.1
   turns:=by
     rw[e3]
     show w.ownsRow 0 _ 4 L.turnv _ (S.row.flatMap (Yp fun i=>if i=n then T else L.loc i))
     rw[B0 (g:=L.loc) fun c hc m t e=>if_neg (hne' t (.inr (.inr ⟨m,e▸hc⟩)))];exact h.turns
   told:=by rw[e4];exact h.told
   sub:=fun t ht=> .inl (h.sub t ((hr t).1 ht))
   below:=fun t ht=>ht.elim (fun h'=>Nat.lt_of_lt_of_le (h.below t h') e8) fun h'=>h'▸e7
   things:=fun t ht=>by
     rcases ht with ht|rfl
     · have hx := hne t ht
       simp only[if_neg hx,e6 t hx]
       exact(h.things t ht).mono (fun b=> .inl) fun b=>id
     · simp only [if_true]
       rw[hx]
       exact⟨⟨_,_,[],hT0,⟨Z5.nil _,by rintro b hb;cases hb⟩,⟨Z5.nil _,by rintro b hb;cases hb⟩,⟨rfl,.inl ⟨rfl,rfl⟩⟩,rfl,by simp⟩,.inr rfl,by rintro b hb;cases hb⟩
   inj:=fun t u ht hu e=>by
     rcases ht with ht|rfl<;>rcases hu with hu|rfl
     · simp only [if_neg (hne t ht),if_neg (hne u hu)] at e
       exact h.inj t u ht hu e
     · simp only [if_neg (hne t ht),if_true] at e
       exact absurd e (hloc t ht)
     · simp only [if_neg (hne u hu),if_true] at e
       exact absurd e.symm (hloc u hu)
     · rfl
   rows:=fun t u ht hu hne2=>by
     rcases ht with ht|rfl<;>rcases hu with hu|rfl
     · simp only [if_neg (hne t ht),if_neg (hne u hu)]
       exact h.rows t u ht hu hne2
     · simp only [if_neg (hne t ht),if_true]
       intro b _ hb;cases hb
     · simp only [if_true]
       intro b hb;cases hb
     · exact absurd rfl hne2
   oD:= .inl h.oD
   oturn:=fun b hb=> .inl (h.oturn b hb)
   otold:=fun b hb=> .inl (h.otold b hb)
   apart:=by
     rintro b (hb|rfl) hi
     · exact h.apart b hb hi
     · exact hI hi
   lt:=by
     rintro b ((hb|rfl)|hb)
     · exact h.lt b (.inl hb)
     · exact hlt
     · exact h.lt b (.inr hb)}
end
section
variable {w w0:Y} {D:Nat} {S S':AD} {O I:Nat → Prop} {L L':Uy} {k:KV}
theorem ze1 {t:TypeId} {x y:Operand} {a b:ByteArray} (hk:k (.bool (blt a b)) w):px P (Zd .lss t x y (.string a) (.string b)) w k:=by
 refine Vk (by simp) (by simp) ?_ hk
 simp only[binOp,Op.stringOp,bytesLess_eq,Sem.run_pure]
 unfold blt
 rw[Lib.toList_data,Lib.toList_data]
theorem Jn {loc:Nat→Nat} {v:V} {l:Names} (hv:Src w v 2 l.length (ZO loc l)) {i:Nat} (hi:i<l.length):
   ∃b o c,v= .slice (some ⟨b,o,none⟩) l.length c∧w.cell? ⟨b,o+i*2,none⟩=some (.string l[i].1)∧w.cell? ⟨b,o+i*2+1,none⟩=some (ptr (loc l[i].2)):=by
 obtain⟨b,o,c,e,hc⟩:=hv.place hi (by omega)
 have hf:∀j,j<2→(ZO loc l)[i*2+j]? =([.string l[i].1,ptr (loc l[i].2)]:List V)[j]? :=fun j hj=>
   Vf (f:=fun p:ByteArray×Nat=>[Value.string p.1,ptr (loc p.2)]) (fun _=>rfl) (List.getElem?_eq_getElem hi) hj
 exact⟨b,o,c,e,hc 0 _ (by omega) (hf 0 (by omega)),hc 1 _ (by omega) (hf 1 (by omega))⟩
theorem Cs {loc:Nat→Nat} {v:V} {l:Names} (hv:Src w v 2 l.length (ZO loc l)) {i:Nat} (hi:i<l.length) {kk:V→V→KV} (hk:∀p q,kk p q (.string l[i].1) w):
   px P (Instr.indexAt 59 v (i64 i)) w fun p w=>px P (Instr.fieldAt 144 p 0) w fun q w=>px P (Instr.loadAt 9 q) w (kk p q):=by
 obtain⟨b,o,c,e,g0,g1⟩:=Jn hv hi
 subst e
 exact Vu (i:=(i:Int)) X6 (UH _) (by omega) (by omega) (Us (Xl (isAgg9 _) (by simpa using g0) (hk _ _)))
theorem XA {loc:Nat→Nat} {v:V} {l:Names} (hv:Src w v 2 l.length (ZO loc l)) {i:Nat} (hi:i<l.length) {kk:V→V→KV} (hk:∀p q,kk p q (ptr (loc l[i].2)) w):
   px P (Instr.indexAt 59 v (i64 i)) w fun p w=>px P (Instr.fieldAt 144 p 1) w fun q w=>px P (Instr.loadAt 142 q) w (kk p q):=by
 obtain⟨b,o,c,e,g0,g1⟩:=Jn hv hi
 subst e
 exact Vu (i:=(i:Int)) X6 (UH _) (by omega) (by omega) (UY (Xl (isAgg142 _) (by simpa using g1) (hk _ _)))
theorem GF {loc:Nat→Nat} {v:V} {l:Names} (hv:Src w v 2 l.length (ZO loc l)) {i:Nat} (hi:i<l.length) {kk:V→KV} (hk:∀p,kk p (.agg #[.string l[i].1,ptr (loc l[i].2)]) w):
   px P (Instr.indexAt 59 v (i64 i)) w fun p w=>px P (Instr.loadAt 144 p) w (kk p):=by
 obtain⟨b,o,c,e,g0,g1⟩:=Jn hv hi
 subst e
 exact Vu (i:=(i:Int)) X6 (UH _) (by omega) (by omega) (gn (isAgg144 _) (sizeOf144 _) (by simpa using g0) (by simpa using g1) (hk _))
theorem Db {loc:Nat→Nat} {v:V} {l:Names} {s:ByteArray} (hv:Src w v 2 l.length (ZO loc l)) (hl:l.length≤4611686018427387904) (h1:∀i (hi:i<l.length),l[i].1=s→k (i64 i) w) (h0:(∀p∈l,p.1≠s)→k (i64 (-1)) w):pFn P 100 [v,.string s] w k:=by
 refine WN _ _ _ _ ?_
 unfold F6
 refine DH (m:=l.length) k (fun m ρ w'=>∃i:Nat,i+m=l.length∧w'=w∧ρ 0=v∧ρ 1= .string s∧ρ 5=i64 i∧∀p∈l.take i,p.1≠s) ?_ ⟨0,by omega,rfl,rfl,rfl,rfl,fun p hp=>by simp at hp⟩
 rintro m ρ w' ⟨i,him,rfl,e0,e1,e5,hall⟩
 rw[F8]
 unfold Sa
 rw[e0,e1,e5]
 refine ZF X6 hv ?_
 by_cases hi:i<l.length
 ·refine ZA (by omega) (Zk (Cs hv hi fun p q=>GK ?_))
  by_cases e:l[i].1=s
  ·rw[decide_eq_true e];exact Zk (h1 i hi e)
  ·rw[decide_eq_false e]
   refine Zf (Zp (by omega) ⟨m-1,by omega,i+1,by omega,rfl,e0,e1,?_,fun p hp=> ?_⟩)
   ·show i64 _=i64 _;simp
   ·rw[List.take_succ_eq_append_getElem hi] at hp
    rcases List.mem_append.1 hp with hp|hp
    ·exact hall p hp
    ·rw[List.mem_singleton] at hp;subst hp;exact e
 ·refine ZB (by omega) (Zf ?_)
  rw[F9]
  exact h0 fun p hp=>hall p (by rw[List.take_of_length_le (by omega)];exact hp)
def V7 (w0 w:Y) (loc:Nat→Nat) (v:V) (l:Names):Prop:=w.ownsRow w0.heap.size 144 2 v l.length (ZO loc l)
theorem Un (loc:Nat→Nat) (a b:Names):ZO loc (a++b)=ZO loc a++ZO loc b:=by unfold ZO;rw[List.flatMap_append]
theorem V7.none (loc:Nat→Nat):V7 w w loc (.slice none 0 0) []:=⟨rfl,.inl ⟨rfl,rfl⟩⟩
theorem V7.push {loc:Nat→Nat} {v:V} {l:Names} (h:V7 w0 w loc v l) (hf:Fr no w0 w) (hl:l.length≤1099511627776) (p:ByteArray×Nat) {kk:V→KV}
   (hk:∀u v' w',V7 w0 w' loc v' (l++[p])→Fr no w0 w'→kk u v' w'):
   px P (Instr.buildSlice 59 1 #[(0,.agg #[.string p.1,ptr (loc p.2)])]) w fun u w=>px P (bSem .append #[59,59] 59 #[v,u]) w (kk u):=by
 refine zl4 h (by intro u hu;simp at hu;rcases hu with rfl|rfl<;>rfl) (by omega) hf.size fun u v' w' h2 f2 hb2=>hk u v' w' ?_ (hf.trans f2 fun b hb=> .inr (Zu h hb.symm).1)
 unfold V7
 rw[List.length_append,Un];exact h2
theorem QG {loc:Nat→Nat} {v:V} {l:Names} {s:ByteArray} (hv:Src w v 2 l.length (ZO loc l)) (hl:l.length≤1099511627776) (hk:∀v' w',V7 w w' loc v' (Yg l s)→Fr no w w'→k v' w'):pFn P 133 [v,.string s] w k:=by
 refine WZ _ _ _ _ ?_
 unfold Gp
 refine DQ (m:=l.length) k (fun m ρ w'=>∃i:Nat,i+m=l.length∧Fr no w w'∧ρ 0=v∧ρ 1= .string s∧ρ 6=i64 i∧V7 w w' loc (ρ 5) (Yg (l.take i) s)) ?_ ⟨0,by omega,Fr.refl _ _,rfl,rfl,rfl,V7.none loc⟩
 rintro m ρ w' ⟨i,him,hf,e0,e1,e6,hn⟩
 rw[Gr]
 unfold Sv
 rw[e0,e1,e6]
 have hv':Src w' v 2 l.length (ZO loc l):=hv.fr (by omega) hf fun _ _ h=>h
 refine ZF X6 hv' ?_
 by_cases hi:i<l.length
 · have next:∀(ρ':Env) (w2:Y),Fr no w w2→ρ' 0=v→ρ' 1= .string s→ρ' 6=i64 i→V7 w w2 loc (ρ' 5) (Yg (l.take (i+1)) s)→
       Gs k (fun ρ' w'=>∃m',m'<m∧∃i:Nat,i+m'=l.length∧Fr no w w'∧ρ' 0=v∧ρ' 1= .string s∧ρ' 6=i64 i∧V7 w w' loc (ρ' 5) (Yg (l.take i) s)) ρ' w2:=by
     intro ρ' w2 g a0 a1 a6 hn2
     unfold Gs
     rw[a6]
     refine Zp (by omega) ⟨m-1,by omega,i+1,by omega,g,a0,a1,?_,hn2⟩
     show i64 _=i64 _;simp
   refine ZA (by omega) (Zk (Cs hv' hi fun p q=>UN ?_))
   rw[List.take_succ_eq_append_getElem hi] at next
   by_cases e:l[i].1=s
   · rw [decide_eq_true e]
     refine Zf ?_
     rw[Br]
     have:Yg (l.take i++[l[i]]) s=Yg (l.take i) s:=by unfold Yg;rw[List.filter_append,List.filter_cons_of_neg (by simp[e])];simp
     exact next _ _ hf e0 e1 e6 (by rw[this];exact hn)
   · rw [decide_eq_false e]
     refine Zk (GF hv' hi fun p=>hn.push hf (by unfold Yg;refine Nat.le_trans (List.length_filter_le _ _) ?_;rw[List.length_take];omega) l[i] fun u1 v1 w1 hn1 hf1=> ?_)
     rw[Br]
     have:Yg (l.take i++[l[i]]) s=Yg (l.take i) s++[l[i]]:=by unfold Yg;rw[List.filter_append,List.filter_cons_of_pos (by simp[e])];simp
     exact next _ _ hf1 e0 e1 e6 (by rw[this];exact hn1)
 · refine ZB     (by omega) (Zf       ?_)
   rw[Gt]
   unfold Sw
   rw[List.take_of_length_le (by omega)] at hn
   exact hk _ _ hn hf
theorem B3 {β:Type} (l:List (ByteArray×β)) (s:ByteArray):(Yg l s).length≤l.length:=List.length_filter_le _ _
theorem Dc (s:ByteArray) (t:Nat) (l:Names):(B5 l s t).length=l.length+1:=(U7 s t l).length_eq
set_option maxHeartbeats 1000000 in
theorem S8 {loc:Nat→Nat} {v:V} {l:Names} {s:ByteArray} {t:Nat} (hv:Src w v 2 l.length (ZO loc l)) (hl:l.length≤549755813888) (hk:∀v' w',V7 w w' loc v' (GM l s t)→Fr no w w'→k v' w'):pFn P 101 [v,.string s,ptr (loc t)] w k:=by
 refine WO _ _ _ _ _ ?_
 unfold FB
 refine QG hv (by omega) fun v1 w1 hn1 f1=> ?_
 have hv1:=Src.Zt hn1
 have hl1:(Yg l s).length≤549755813888:=Nat.le_trans (B3 l s) hl
 have hgoal:GM l s t=B5 (Yg l s) s t:=rfl
 rw[hgoal] at hk
 generalize Yg l s=r at *
 replace hk:∀v' w',V7 w1 w' loc v' (B5 r s t)→Fr no w1 w'→k v' w':=fun v' w' h f=>hk v' w' (Xo h f1.size) (f1.trans f fun b hb=> .inl hb)
 clear hn1
 have hput0:∀(out:Names) (done:Bool) (i:Nat),out++Ch done (r.drop i) s t=B5 r s t→i≤r.length→out.length≤i+1∧(done=false→out.length=i):=by
   intro out done i h hi
   have hl:=congrArg List.length h
   rw[Dc,List.length_append] at hl
   cases done with
   |true=>simp only[Ch,if_true,List.length_drop] at hl;exact⟨by omega,by simp⟩
   |false=>simp only[Ch,Bool.false_eq_true,if_false,Dc,List.length_drop] at hl;exact⟨by omega,fun _=>by omega⟩
 refine DJ (m:=r.length) k (fun m ρ w'=>∃(i:Nat) (out:Names) (done:Bool),i+m=r.length∧Fr no w1 w'∧ρ 0=v1∧ρ 1= .string s∧ρ 2=ptr (loc t)∧ρ 8= .bool done∧ρ 9=i64 i∧V7 w1 w' loc (ρ 7) out∧out++Ch done (r.drop i) s t=B5 r s t) ?_
   ⟨0,[],false,by omega,Fr.refl _ _,rfl,rfl,rfl,rfl,rfl,V7.none loc,rfl⟩
 rintro m ρ w' ⟨i,out,done,him,hf1,e0,e1,e2,e8,e9,hn,hput⟩
 have hlen:=hput0 out done i hput (by omega)
 rw[FD]
 unfold Sc
 rw[e0,e1,e2,e8,e9]
 have hv':Src w' v1 2 r.length (ZO loc r):=hv1.fr (by omega) hf1 fun _ _ h=>h
 refine ZF X6 hv' ?_
 by_cases hi:i<r.length
 · refine ZA     (by omega) (Zk      (YP    ?_))
   rw[List.drop_eq_getElem_cons hi] at hput
   have next:∀(ρ':Env) (w2:Y) (out2:Names) (done2:Bool),Fr no w1 w2→ρ' 0=v1→ρ' 1= .string s→ρ' 2=ptr (loc t)→ρ' 8= .bool done2→ρ' 9=i64 i→V7 w1 w2 loc (ρ' 7) out2→out2++r[i]::Ch done2 (r.drop (i+1)) s t=B5 r s t→out2.length≤i+1→
       FE k (fun ρ' w'=>∃m',m'<m∧∃(i:Nat) (out:Names) (done:Bool),i+m'=r.length∧Fr no w1 w'∧ρ' 0=v1∧ρ' 1= .string s∧ρ' 2=ptr (loc t)∧ρ' 8= .bool done∧ρ' 9=i64 i∧V7 w1 w' loc (ρ' 7) out∧out++Ch done (r.drop i) s t=B5 r s t) ρ' w2:=by
     intro ρ' w2 out2 done2 g1 a0 a1 a2 a8 a9 hn2 hput2 hlen2
     unfold FE
     rw[a0,a9]
     have hv2:Src w2 v1 2 r.length (ZO loc r):=hv1.fr (by omega) g1 fun _ _ h=>h
     refine GF hv2 hi fun p=>hn2.push g1 (by omega) r[i] fun u3 v3 w3 hn3 g3=> ?_
     refine Zp (by omega) ⟨m-1,by omega,i+1,out2++[r[i]],done2,by omega,g3,a0,a1,a2,a8,?_,hn3,by rw[List.append_assoc];exact hput2⟩
     show i64 _=i64 _;simp
   cases done with
   | true =>
     simp only[Bool.not_true]
     repeat (first|refine V9 ?_|refine YF ?_)
     refine Zr (Zf ?_)
     rw[Q6]
     exact next _ _ out true hf1 e0 e1 e2 e8 e9 hn hput hlen.1
   | false =>
     simp only[Bool.not_false]
     obtain⟨b,o,c,ev,g0,g1⟩:=Jn hv' hi
     subst ev
     refine Zl rfl (Zl rfl (Zl rfl (Zl rfl (Vu (i:=(i:Int)) X6 (UH _) (by omega) (by omega) (Zl rfl (Us (Zl rfl (Xl (isAgg9 _) (by simpa using g0) (Zl rfl (ze1 (Zx ?_)))))))))))
     cases hb:blt s r[i].1 with
     | true =>
       rw[G8 hb] at hput
       have hol:out.length≤1099511627776:=by have:=hlen.1;omega
       have hol2:(out++[(s,t)]).length≤i+1:=by have:=hlen.2 rfl;simp;omega
       rw[show out++(s,t)::r[i]::Ch true (r.drop (i+1)) s t=(out++[(s,t)])++r[i]::Ch true (r.drop (i+1)) s t by rw[List.append_assoc];rfl] at hput
       refine Zk ?_
       refine Z9 (w':=w') (v:= .agg #[.string s,ptr (loc t)]) (by kernel_rfl) ?_
       refine V7.push (p:=(s,t)) hn hf1 hol ?_
       intro u3 v3 w3 hn3 g3
       rw[Q6]
       exact next _ _ (out++[(s,t)]) true g3 e0 e1 e2 rfl e9 hn3 hput hol2
     | false =>
       rw[G9 hb] at hput
       refine Zf ?_
       rw[Q6]
       exact next _ _ out false hf1 e0 e1 e2 e8 e9 hn hput hlen.1
 · refine ZB     (by omega) (Zf       ?_)
   rw[FF]
   unfold Sd
   show px P (Op.unary UnOp.not (ρ 8)) w' _
   rw[e8]
   refine YP ?_
   rw[List.drop_eq_nil_of_le (by omega)] at hput
   cases done with
   | true =>
     refine Zf ?_
     rw[Bi]
     have e:out=B5 r s t:=by rw[←hput];simp[Ch]
     rw[←e] at hk
     exact hk _ _ hn hf1
   | false =>
     rw[NJ] at hput
     refine Zk ?_
     show px P (Instr.build 144 #[(0,ρ 1),(1,ρ 2)]) w' _
     rw[e1,e2]
     have hol:out.length≤1099511627776:=by have:=hlen.1;omega
     refine Z9 (w':=w') (v:= .agg #[.string s,ptr (loc t)]) (by kernel_rfl) ?_
     refine V7.push (p:=(s,t)) hn hf1 hol ?_
     intro u3 v3 w3 hn3 g3
     rw[Bi]
     rw[hput] at hn3
     exact hk _ _ hn3 g3
def X0 (loc:Nat→Nat) (c:Turn):V:= .agg (Yp loc c).toArray
theorem S9 {loc:Nat→Nat} {v:V} {l:Names} {c:Turn} (hv:Src w v 2 l.length (ZO loc l)) (hl:l.length≤549755813888) (hc:∀a b,c= .give a b→ZV l a≠none) (hnd:(ZH l).Nodup) (hk:∀v' w',Src w' v' 2 (c.on l).length (ZO loc (c.on l))→(∀b,Zv v'=some b→w.heap.size≤b∧b<w'.heap.size)→Fr no w w'→k v' w'):pFn P 113 [v,X0 loc c] w k:=by
 refine WS _ _ _ _ ?_
 unfold FK
 cases c with
 |mk n t=>
  refine Yw ?_
  have b1:=Z2 w (.cells #[i64 1,.string n,.string noB,ptr (loc t)] 146)
  have f1:=Fr.alloc no w (.cells #[i64 1,.string n,.string noB,ptr (loc t)] 146)
  show px P _ (w.alloc (.cells #[i64 1,.string n,.string noB,ptr (loc t)] 146)) _
  generalize w.alloc (.cells #[i64 1,.string n,.string noB,ptr (loc t)] 146)=w1 at *
  refine CB (Zj (v:=i64 1) (isAgg3 _) b1 rfl (ZP rfl (Zk ?_)))
  refine AB (Zj (v:= .string n) (isAgg9 _) b1 rfl (AE (Zj (v:=ptr (loc t)) (isAgg142 _) b1 rfl ?_)))
  refine S8 (hv.fr (by omega) f1 fun _ _ h=>h) hl fun v' w' hn f2=>hk v' w' (Src.Zt hn) (fun b hb=>⟨Nat.le_trans f1.size (Zu hn hb).1,(Zu hn hb).2⟩) (f1.trans f2 fun b hb=> .inl hb)
 |give a b=>
  refine Yw ?_
  have b1:=Z2 w (.cells #[i64 2,.string a,.string b,.pointer none] 146)
  have f1:=Fr.alloc no w (.cells #[i64 2,.string a,.string b,.pointer none] 146)
  have z1:(w.alloc (.cells #[i64 2,.string a,.string b,.pointer none] 146)).heap.size=w.heap.size+1:=by simp
  show px P _ (w.alloc (.cells #[i64 2,.string a,.string b,.pointer none] 146)) _
  generalize w.alloc (.cells #[i64 2,.string a,.string b,.pointer none] 146)=w1 at *
  refine CB (Zj (v:=i64 2) (isAgg3 _) b1 rfl (Yd (by omega) (Zf (ZP rfl (Zk ?_)))))
  have hv1:Src w1 v 2 l.length (ZO loc l):=hv.fr (by omega) f1 fun _ _ h=>h
  refine AB (Zj (v:= .string a) (isAgg9 _) b1 rfl (Db hv1 (by omega) (fun i hi e=> ?_) fun h=>absurd (XB.2 h) (hc a b rfl)))
  have hg:(ZV l a).getD 0=l[i].2:=by rw[←e,VY hnd (List.getElem?_eq_getElem hi)];rfl
  obtain⟨vb,vo,vc,ev,g0,g1⟩:=Jn hv1 hi
  have hv1d:vb<w1.heap.size:=World.block_lt_of_cell? _ ⟨vb,vo+i*2,none⟩ g0
  have fd:Fr no w1 w1.drew:=Fr.drew _ _
  subst ev
  refine⟨fun u=>u.heap[w.heap.size]? =some (.cells #[i64 2,.string a,.string b,.pointer none] 146 (0,0))∧u.cell? ⟨vb,vo+i*2+1,none⟩=some (ptr (loc l[i].2)),⟨b1,g1⟩,?_⟩
  have Uk:∀w2,Fr no w1 w2→w2.heap[w.heap.size]? =some (.cells #[i64 2,.string a,.string b,.pointer none] 146 (0,0))∧w2.cell? ⟨vb,vo+i*2+1,none⟩=some (ptr (loc l[i].2)):=fun w2 f=>
   ⟨f.get b1 id,by rw[World.cell?_of_block (w:=w1) (f.block vb hv1d id)];exact g1⟩
  refine Zi _ (fun w_ hS=>AB ⟨rfl,rfl⟩) ?_
  refine Zi (.string a) (fun w_ hS=>Zj (isAgg9 _) hS.1 rfl ⟨rfl,rfl⟩) ?_
  refine Zi _ (fun w_ hS=>y5 ⟨rfl,rfl⟩) ?_
  refine Zi (.string b) (fun w_ hS=>Zj (isAgg9 _) hS.1 rfl ⟨rfl,rfl⟩) ?_
  refine Zi (.pointer (some ⟨vb,vo+i*2,none⟩)) (fun w_ hS=>Vu (i:=(i:Int)) X6 (UH _) (by omega) (by omega) ⟨by simp,rfl⟩) ?_
  refine Zi _ (fun w_ hS=>UY ⟨rfl,rfl⟩) ?_
  refine Zi _ (fun w_ hS=>Xl (isAgg142 _) hS.2 ⟨rfl,rfl⟩) ?_
  have hvd:Src w1.drew (.slice (some ⟨vb,vo,none⟩) l.length vc) 2 l.length (ZO loc l):=hv1.fr (by omega) fd fun _ _ h=>h
  refine QG hvd (by omega) fun v2 w2 hn2 f2=>⟨Uk w2 (fd.trans f2 fun b hb=> .inl hb),?_⟩
  refine S8 (Src.Zt hn2) (Nat.le_trans (B3 l a) hl) fun v3 w3 hn3 f3=>⟨Uk w3 ((fd.trans f2 fun b hb=> .inl hb).trans f3 fun b hb=> .inl hb),?_⟩
  rw[←hg] at hn3
  exact hk v3 w3 (Src.Zt hn3) (fun b hb=>⟨Nat.le_trans (Nat.le_trans f1.size (Nat.le_trans fd.size f2.size)) (Zu hn3 hb).1,(Zu hn3 hb).2⟩) (((f1.trans fd fun b hb=> .inl hb).trans f2 fun b hb=> .inl hb).trans f3 fun b hb=> .inl hb)
 |take n=>
  refine Yw ?_
  have b1:=Z2 w (.cells #[i64 3,.string n,.string noB,.pointer none] 146)
  have f1:=Fr.alloc no w (.cells #[i64 3,.string n,.string noB,.pointer none] 146)
  show px P _ (w.alloc (.cells #[i64 3,.string n,.string noB,.pointer none] 146)) _
  generalize w.alloc (.cells #[i64 3,.string n,.string noB,.pointer none] 146)=w1 at *
  refine CB (Zj (v:=i64 3) (isAgg3 _) b1 rfl (Yd (by omega) (Zf (Yd (by omega) (Zf ?_)))))
  refine AB (Zj (v:= .string n) (isAgg9 _) b1 rfl ?_)
  refine QG (hv.fr (by omega) f1 fun _ _ h=>h) (by omega) fun v' w' hn f2=>hk v' w' (Src.Zt hn) (fun b hb=>⟨Nat.le_trans f1.size (Zu hn hb).1,(Zu hn hb).2⟩) (f1.trans f2 fun b hb=> .inl hb)
end
section
variable {w w0:Y} {D:Nat} {S S':AD} {O I:Nat → Prop} {L L':Uy} {k:KV}
def V1 (w0 w:Y) (v:V) (bs:Bytes):Prop:=w.ownsRow w0.heap.size 5 1 v bs.length (u8s bs)
theorem V1.sb {v:V} {bs:Bytes} (h:V1 w0 w v bs):Z5 w v bs:=Src.Zt h
theorem V1.blk {v:V} {bs:Bytes} (h:V1 w0 w v bs):∀b,Zv v=some b→w0.heap.size≤b∧b<w.heap.size:=fun b hb=>Zu h hb
theorem YZ {v:V} {bs:Bytes} (h:Z5 w v bs) (hl:bs.length≤70368744177664) (hk:∀v' w',V1 w w' v' bs→Fr no w w'→k v' w'):pFn P 94 [v] w k:=by
 refine qE _ _ _ ?_
 unfold WK
 refine Jh ?_
 have f1:=Fr.alloc no w (.cells #[] 5)
 have ho:=ZQ w w.heap.size 5 1 #[] 0 (Nat.le_refl _) (by unfold maxLen;omega) rfl
 have z1:(w.alloc (.cells #[] 5)).heap.size=w.heap.size+1:=by simp
 show px P _ (w.alloc (.cells #[] 5)) _
 generalize w.alloc (.cells #[] 5)=w1 at *
 refine Te ho (h.fr f1 fun _ _ h=>h) Vl (by omega) (by omega) fun v' w2 h2 f2 hb2=> ?_
 rw[Nat.zero_add] at h2
 exact hk v' w2 h2 (f1.trans f2 fun b hb=> .inr (by injection hb with hb;have hb':b=w.heap.size:=hb;omega))
theorem GG {p:Chg×V} (h:VQ w I p) (hk:∀w',Fr no w w'→k (i64 p.1.units) w'):pFn P 136 [.agg (ZK p).toArray] w k:=by
 obtain⟨c,s⟩:=p
 refine zb _ _ _ ?_
 unfold Gx
 cases c with
 |wr a d=>
  obtain⟨A,cp,rfl,_⟩:=Z5.form (SB.fr h (Fr.refl no w) fun _ _ h=>h).1
  refine Yw ?_
  have b1:=Z2 w (.cells #[.bool false,i64 a,.slice A d.length cp] 186)
  have f1:=Fr.alloc no w (.cells #[.bool false,i64 a,.slice A d.length cp] 186)
  show px P _ (w.alloc (.cells #[.bool false,i64 a,.slice A d.length cp] 186)) _
  generalize w.alloc (.cells #[.bool false,i64 a,.slice A d.length cp] 186)=w1 at *
  refine AK (Zj (v:= .bool false) (isAgg4 _) b1 rfl (Zf (UZ (Zj (v:= .slice A d.length cp) (isAgg36 _) b1 rfl (Yn Ya ?_)))))
  exact hk w1 f1
 |cut n=>
  refine Yw ?_
  have b1:=Z2 w (.cells #[.bool true,i64 n,s] 186)
  have f1:=Fr.alloc no w (.cells #[.bool true,i64 n,s] 186)
  show px P _ (w.alloc (.cells #[.bool true,i64 n,s] 186)) _
  generalize w.alloc (.cells #[.bool true,i64 n,s] 186)=w1 at *
  exact AK (Zj (v:= .bool true) (isAgg4 _) b1 rfl (Zk (hk w1 f1)))
theorem B4 {d:Bytes} {i:Nat} (hi:i<d.length):(u8s d)[i]? =some (.int .u8 (d[i]).toNat):=by unfold u8s;simp[hi]
theorem GH (b:Bytes) (i:Nat) (x:UInt8):(u8s b).set i (.int .u8 x.toNat)=u8s (b.set i x):=by unfold u8s;rw[List.map_set]
set_option maxHeartbeats 1000000 in
theorem JY {p:Chg×V} {bv:V} {b:Bytes} {u:Nat} (hp:VQ w I p) (hb:Z5 w bv b) (hu:u≤p.1.units) (hl:b.length≤1099511627776) (hcut:∀n,p.1= .cut n→u≠0→n≤b.length) (hwr:∀a d,p.1= .wr a d→a≤b.length∧a+d.length≤1099511627776)
   (hk:∀v' w',Z5 w' v' (p.1.made b u)→(∀x,Zv v'=some x→Zv bv=some x∨(w.heap.size≤x∧x<w'.heap.size))→Fr no w w'→k v' w'):pFn P 116 [bv,.agg (ZK p).toArray,i64 u] w k:=by
 obtain⟨c,s⟩:=p
 refine WT _ _ _ _ _ ?_
 unfold FN
 cases c with
 | cut n =>
   refine Yw ?_
   have b1:=Z2 w (.cells #[.bool true,i64 n,s] 186)
   have f1:=Fr.alloc no w (.cells #[.bool true,i64 n,s] 186)
   show px P _ (w.alloc (.cells #[.bool true,i64 n,s] 186)) _
   generalize w.alloc (.cells #[.bool true,i64 n,s] 186)=w1 at *
   refine AK (Zj (v:= .bool true) (isAgg4 _) b1 rfl (Zk ?_))
   have hb1:Z5 w1 bv b:=hb.fr f1 fun _ _ h=>h
   by_cases h0:u=0
   · subst h0
     refine ZA (by omega) (Zk (hk bv w1 (by rw[Bu];exact hb1) (fun x hx=> .inl hx) f1))
   · refine ZB     (by omega) (Zf       ?_)
     refine CC (Zj (v:=i64 n) (isAgg3 _) b1 rfl ?_)
     have hn:=hcut n rfl h0
     obtain⟨A,cp,rfl,hc⟩:=hb1.form
     refine QO (i:=(n:Int)) Ya (Vm _) (by omega) (by omega) ?_
     refine YZ (bs:=b.take n) (Z5.front hb1 hn) (by rw[List.length_take];omega) fun v' w2 h2 f2=> ?_
     have hm:Chg.made b u (.cut n)=b.take n:=by simp[Chg.made,h0]
     refine hk v' w2 (by rw[hm];exact h2.sb) (fun x hx=> .inr ⟨Nat.le_trans f1.size (h2.blk x hx).1,(h2.blk x hx).2⟩) (f1.trans f2 fun b hb=> .inl hb)
 | wr a d =>
   obtain⟨ha,had⟩:=hwr a d rfl
   have hu':u≤d.length:=hu
   obtain⟨A,cp,rfl,_⟩:=Z5.form (SB.fr hp (Fr.refl no w) fun _ _ h=>h).1
   have hs:Z5 w (.slice A d.length cp) d:=SB.fr hp (Fr.refl no w) (fun _ _ h=>h) |>.1
   refine Yw ?_
   have b1:=Z2 w (.cells #[.bool false,i64 a,.slice A d.length cp] 186)
   have f1:=Fr.alloc no w (.cells #[.bool false,i64 a,.slice A d.length cp] 186)
   show px P _ (w.alloc (.cells #[.bool false,i64 a,.slice A d.length cp] 186)) _
   have hC:w.heap.size<(w.alloc (.cells #[.bool false,i64 a,.slice A d.length cp] 186)).heap.size:=by simp
   generalize w.alloc (.cells #[.bool false,i64 a,.slice A d.length cp] 186)=w1 at *
   refine AK (Zj (v:= .bool false) (isAgg4 _) b1 rfl (Zf (UZ (Zj (v:= .slice A d.length cp) (isAgg36 _) b1 rfl (Yn Ya (YI (by omega) (Zf ?_)))))))
   rw[FP]
   unfold Sf
   have hs1:Z5 w1 (.slice A d.length cp) d:=hs.fr f1 fun _ _ h=>h
   refine YZ (hb.fr f1 fun _ _ h=>h) (by omega) fun v2 w2 h2 f2=> ?_
   refine DL (m:=u) k (fun m ρ w'=>∃i:Nat,i+m=u∧Fr no w1 w'∧ρ 4=ptr w.heap.size∧ρ 2=i64 u∧ρ 7=i64 i∧V1 w1 w' (ρ 0) (Chg.made b i (.wr a d))) ?_
     ⟨0,by omega,f2,rfl,rfl,rfl,by rw[Bu];exact h2⟩
   rintro m ρ w' ⟨i,him,hf,e4,e2,e7,hn⟩
   rw[FQ]
   unfold Sg
   rw[e4,e2,e7]
   by_cases hi:i<u
   · have next:∀(ρ':Env) (w3:Y),Fr no w1 w3→ρ' 4=ptr w.heap.size→ρ' 2=i64 u→ρ' 7=i64 i→V1 w1 w3 (ρ' 0) (Chg.made b (i+1) (.wr a d))→
         FR k (fun ρ' w'=>∃m',m'<m∧∃i:Nat,i+m'=u∧Fr no w1 w'∧ρ' 4=ptr w.heap.size∧ρ' 2=i64 u∧ρ' 7=i64 i∧V1 w1 w' (ρ' 0) (Chg.made b i (.wr a d))) ρ' w3:=by
       intro ρ' w3 g a4 a2 a7 hn3
       unfold FR
       rw[a7]
       refine Zp (by omega) ⟨m-1,by omega,i+1,by omega,g,a4,a2,?_,hn3⟩
       show i64 _=i64 _;simp
     have bw:w'.heap[w.heap.size]? =some (.cells #[.bool false,i64 a,.slice A d.length cp] 186 (0,0)):=hf.get b1 id
     have hsw:Z5 w' (.slice A d.length cp) d:=hs1.fr hf fun _ _ h=>h
     have hid:i<d.length:=by omega
     refine ZA (by omega) (Zk (CC (Zj (v:=i64 a) (isAgg3 _) bw rfl (Zp (by omega) (ZF Ya (Src.Zt hn) ?_)))))
     by_cases hlt:a+i<(Chg.made b i (.wr a d)).length
     · rw [GA        ha hid hlt] at next
       obtain⟨g,cap,cur,ev,hcap,hbase,hg,hic,hce,hset⟩:=Xh (i:=a+i) hn (by omega)
       refine ZA (by omega) (Zk ?_)
       obtain⟨b',o',c',es,hcell⟩:=Src.place (size:=1) hsw hid (by omega)
       have g0:w'.cell? ⟨b',o'+i*1,none⟩=some (.int .u8 (d[i]).toNat):=hcell 0 _ (by omega) (by simpa using B4 hid)
       have hb':b'<w1.heap.size:=by
         have hin:Zv (.slice A d.length cp)=some b':=by rw[es];rfl
         exact Src.lt (size:=1) hs1 (by omega) (by omega) hin
       have hgw:w1.heap.size≤g:=hbase
       rw[ev]
       have fd:Fr no w' w'.drew:=Fr.drew _ _
       refine⟨fun x=>x.heap[w.heap.size]? =some (.cells #[.bool false,i64 a,.slice A d.length cp] 186 (0,0))∧x.cell? ⟨b',o'+i*1,none⟩=some (.int .u8 (d[i]).toNat),⟨bw,g0⟩,?_⟩
       refine Zi _ (fun w_ hS=>CC ⟨rfl,rfl⟩) ?_
       refine Zi (i64 a) (fun w_ hS=>Zj (isAgg3 _) hS.1 rfl ⟨rfl,rfl⟩) ?_
       refine Zi (i64 (a+i)) (fun w_ hS=>Zp (by omega) ⟨rfl,rfl⟩) ?_
       refine Zi _ (fun w_ hS=>UZ ⟨rfl,rfl⟩) ?_
       refine Zi (.slice A d.length cp) (fun w_ hS=>Zj (isAgg36 _) hS.1 rfl ⟨rfl,rfl⟩) ?_
       rw[es]
       refine Zi (.pointer (some ⟨b',o'+i*1,none⟩)) (fun w_ hS=>Vu (i:=(i:Int)) Ya (Vm _) (by omega) (by omega) ⟨by simp,rfl⟩) ?_
       refine Zi _ (fun w_ hS=>Xl (isAgg5 _) hS.2 ⟨rfl,rfl⟩) ?_
       refine Zi (.pointer (some ⟨g,a+i,none⟩)) (fun w_ hS=>Vu (i:=(a+i:Int)) Ya (Vm _) (by omega) (by omega) ⟨by simp,rfl⟩) ?_
       refine YA (sizeOf5 _) rfl rfl (by exact hg) hic ?_
       rw[Bl]
       have hn':=hset (.int .u8 (d[i]).toNat)
       rw[GH] at hn'
       refine next _ _ ?_ e4 e2 e7 ?_
       · exact(hf.trans fd fun b hb=> .inl hb).trans (Fr.setCell w'.drew ⟨g,a+i,none⟩ _) fun x hx=> .inr (by rw[hx];exact hgw)
       · unfold V1
         rw[List.length_set]
         exact hn'
     · rw [GB        ha hid hlt] at next
       refine ZB (by omega) (Zf (UZ (Zj (v:= .slice A d.length cp) (isAgg36 _) bw rfl ?_)))
       refine Qk (u:= .int .u8 (d[i]).toNat) Ya (Vm _) (isAgg5 _) hsw hid (B4 hid) fun _=> ?_
       refine zl2 hn rfl (by intro u hu;simp at hu;subst hu;rfl) ?_ hf.size fun u3 v3 w3 h3 f3 hb3=> ?_
       · have:=congrArg List.length (QC ha (show i≤d.length by omega));simp at this;omega
       · rw [Bl       ]
         refine next _ _ (hf.trans f3 fun x hx=> .inr (Zu hn hx.symm).1) e4 e2 e7 ?_
         unfold V1
         rw[List.length_append,J8];exact h3
   · refine ZB     (by omega) (Zf       ?_)
     rw[FT]
     unfold Sh
     have:i=u:=by omega
     subst this
     exact hk _ _ hn.sb (fun x hx=> .inr ⟨Nat.le_trans f1.size (hn.blk x hx).1,(hn.blk x hx).2⟩) (f1.trans hf fun b hb=> .inl hb)
end
end Go.Proofs.YtcdcojpfealppaaGreat
