/- Put together by a program (wip/tools/shake.py): NmEq,Pair4,Pair5,Pair6,XBig,R5. -/
import Derived.Test.YtcdcojpfealppaaGreatY16
import Derived.Test.YtcdcojpfealppaaGreatY14
import Derived.Test.YtcdcojpfealppaaGreatY30
import Derived.Test.YtcdcojpfealppaaGreatY3
import Derived.Sort.Walk0
import Derived.Test.YtcdcojpfealppaaGreatY1
import Derived.Test.YtcdcojpfealppaaGreatProg
import Derived.Test.YtcdcojpfealppaaGreatMix
set_option linter.unusedVariables false
set_option linter.unusedSimpArgs false
set_option maxRecDepth 100000
open Go.Proofs.Tryz renaming prog → Z
open Go renaming World → Y, Value → V
open Go.Instr renaming fieldAt → U, loadAt → F
namespace Go.Proofs.YtcdcojpfealppaaGreat
open Go Go.Proofs Go.RowKit Go.Proofs.XRed Go.Proofs.XHeap Go.Proofs.XMaps Go.Proofs.XSlices Go.Proofs.XDisk Go.Proofs.XCalls Tryz
section
variable {W w:Y} {D:Nat} {S S':AD} {O I:Nat → Prop} {L:Lay} {k:KV}
theorem JA {b o:Nat} {x:XT} {dv pv:V} (h:∀j u,(ZC x dv pv)[j]? =some u→w.cell? ⟨b,o+j,none⟩=some u):(Instr.loadAt 41 (.pointer (some ⟨b,o,none⟩))).run P w= .ok (XH x dv pv) w:=by
 have:=run_loadCells_list (P:=P) w ⟨b,o,none⟩ (ZC x dv pv) (fun j v hj=>by rw[Xv];exact h j v hj)
 have e:(ZC x dv pv).length=10:=rfl
 rw[e] at this
 have hr:(Instr.loadAt 41 (.pointer (some ⟨b,o,none⟩))).run P w= .ok (.agg (ZC x dv pv).toArray) w:=by
  simp[Instr.loadAt,Instr.sureAddr,loadVar,isAgg41,sizeOf41,this,Result.andThen]
 exact hr
theorem gu {v:V} {l:VJ} {i:Nat} (h:XP w v l) (hi:i<l.length) {kk:V→KV} (hk:∀p,kk p (XH l[i].1 l[i].2.1 l[i].2.2) w):
   px P (Instr.indexAt 22 v (i64 i)) w fun p w=>px P (Instr.loadAt 41 p) w (kk p):=by
 obtain⟨b,o,c,ev,hc⟩:=h.at_ hi
 rw[ev]
 refine Vu (i:=(i:Int)) El (y7 _) (by omega) (by omega) ?_
 exact Z9 (JA (x:=l[i].1) (dv:=l[i].2.1) (pv:=l[i].2.2) (fun j u hj=>by have:=hc j u hj;simpa using this)) (hk _)
theorem VD {c:Nat} {S:AD} (ok:S.Ok c):S.Yq.length≤4611686018427387904∧∀f∈S.Yq,f.2.length≤4611686018427387904:=by
 refine⟨?_,fun f hf=> ?_⟩
 ·have:=ok.turns.len.2
  unfold AD.Yq
  rw[List.length_map];omega
 ·obtain⟨p,hp,rfl⟩:=List.mem_map.1 hf
  have:=(ok.Yk p.2 (.inr (.inl ⟨p.1,hp⟩))).ok.len.2
  show (S.things p.2).safe.length≤_
  omega
theorem VE {c:Nat} {S:AD} (ok:S.Ok c):S.files.length≤4611686018427387904∧∀f∈S.files,f.2.length≤4611686018427387904:=by
 refine⟨?_,fun f hf=> ?_⟩
 ·have:=ok.turns.len.1
  unfold AD.files
  rw[List.length_map];omega
 ·obtain⟨p,hp,rfl⟩:=List.mem_map.1 hf
  have:=(ok.Yk p.2 (.inl ⟨p.1,hp⟩)).ok.len.1
  show (S.things p.2).shown.length≤_
  omega
theorem Dn {c:Nat} {S:AD} (ok:S.Ok c):∀p∈S.shown,p.1.size≤maxLen:=fun p hp=>by have:=ok.V0 p hp;unfold maxLen;omega
theorem Ke {c:Nat} {S:AD} (ok:S.Ok c):∀p∈S.safe,p.1.size≤maxLen:=fun p hp=>by have:=ok.sn p hp;unfold maxLen;omega
theorem Ej {c:Nat} {S:AD} (ok:S.Ok c):S.used≤256*1048576:=by
 have h1:=ok.turns.len.1
 have h2:∀l:Names,(∀p∈l,(S.things p.2).shown.length≤1048576)→(l.map fun p=>(S.things p.2).shown.length).sum≤l.length*1048576:=by
  intro l
  induction l with
  |nil=>intro _;exact Nat.zero_le _
  |cons p r ih=>
   intro h
   have a:=h p List.mem_cons_self
   have b:=ih fun q hq=>h q (List.mem_cons_of_mem _ hq)
   simp only[List.map_cons,List.sum_cons,List.length_cons]
   omega
 have h3:=h2 S.shown fun p hp=>(ok.Yk p.2 (.inl ⟨p.1,hp⟩)).ok.len.1
 exact Nat.le_trans h3 (Nat.mul_le_mul_right _ h1)
theorem QS {v1 v2:V} {x y:List ByteArray} (hx:Src W v1 1 x.length (x.map .string)) (hy:Src W v2 1 y.length (y.map .string)) (hl:x.length≤4611686018427387904) (hk:∀(b:Bool) w',Fr no W w'→(b=true↔x=y)→k (.bool b) w'):pFn P 43 [v1,v2] W k:=by
 refine ub _ _ _ _ ?_
 unfold TP
 refine ZF Xf hx (ZF Xf hy ?_)
 by_cases hlen:x.length=y.length
 ·refine ZY (by omega) (Zf ?_)
  refine EL (m:=x.length) k (fun m ρ w'=>∃i:Nat,i+m=x.length∧Fr no W w'∧ρ 0=v1∧ρ 1=v2∧ρ 5=i64 i∧x.take i=y.take i) ?_
   ⟨0,by omega,Fr.refl _ _,rfl,rfl,rfl,rfl⟩
  rintro m ρ w' ⟨i,him,hf,e0,e1,e5,heq⟩
  rw[M8]
  unfold ua
  rw[e0,e1,e5]
  have hx':=hx.fr (by omega) hf fun _ _ h=>h
  have hy':=hy.fr (by omega) hf fun _ _ h=>h
  refine ZF Xf hx' ?_
  by_cases hi:i<x.length
  ·refine ZA (by omega) (Zk ?_)
   have fd:Fr no w' w'.drew:=Fr.drew _ _
   have ff:Fr no W w'.drew:=hf.trans fd fun b hb=> .inl hb
   have hiy:i<y.length:=by omega
   obtain⟨b1,o1,c1,f1,g1⟩:=(hx'.fr (by omega) fd fun _ _ h=>h).place hi (by omega)
   obtain⟨b2,o2,c2,f2,g2⟩:=(hy'.fr (by omega) fd fun _ _ h=>h).place hiy (by omega)
   have a1:=g1 0 (.string x[i]) (by omega) (by simp[hi])
   have a2:=g2 0 (.string y[i]) (by omega) (by simp[hiy])
   simp only[Nat.mul_one,Nat.add_zero] at a1 a2
   refine⟨fun w'=>w'.cell? ⟨b1,o1+i,none⟩=some (.string x[i])∧w'.cell? ⟨b2,o2+i,none⟩=some (.string y[i]),⟨a1,a2⟩,?_⟩
   rw[f1,f2]
   refine Zi (.pointer (some ⟨b1,o1+i,none⟩)) (fun w_ hS=>Vu (i:=(i:Int)) Xf (Ue _) (by omega) (by omega) ⟨by simp,rfl⟩) ?_
   refine Zi (.string x[i]) (fun w_ hS=>Xl (isAgg9 _) hS.1 ⟨rfl,rfl⟩) ?_
   refine Zi (.pointer (some ⟨b2,o2+i,none⟩)) (fun w_ hS=>Vu (i:=(i:Int)) Xf (Ue _) (by omega) (by omega) ⟨by simp,rfl⟩) ?_
   refine Zi (.string y[i]) (fun w_ hS=>Xl (isAgg9 _) hS.2 ⟨rfl,rfl⟩) ?_
   refine Zi _ (fun w_ hS=>UN ⟨rfl,rfl⟩) ?_
   by_cases he:x[i]=y[i]
   ·rw[decide_eq_true he]
    refine Zf (Zp (by omega) ?_)
    refine⟨m-1,by omega,i+1,by omega,ff,e0.trans f1,e1.trans f2,?_,?_⟩
    ·show i64 _=i64 _;simp
    ·rw[List.take_succ_eq_append_getElem hi,List.take_succ_eq_append_getElem hiy,heq,he]
   ·rw[decide_eq_false he]
    refine Zk (hk false _ ff ⟨(fun h=>by cases h),fun h=>absurd ?_ he⟩)
    subst h;rfl
  ·refine ZB (by omega) (Zf ?_)
   rw[M9]
   refine hk true w' hf ⟨fun _=> ?_,fun _=>rfl⟩
   have a1:=List.take_of_length_le (l:=x) (i:=i) (by omega)
   have a2:=List.take_of_length_le (l:=y) (i:=i) (by omega)
   rw[←a1,heq,a2]
 ·exact Y0 (by omega) (Zk (hk false W (Fr.refl _ _) ⟨(fun h=>by cases h),fun h=>absurd (by rw[h]) hlen⟩))
end
open Go.Proofs.XSep
section
variable {w w0:Y} {k:KV}
variable {W:Y} {xb Pb D E K c:Nat} {x:XT} {dv pv' bv pv:V} {S T:AD} {bb:Bytes} {pp:List Int} {l:List Yf}
abbrev C5 (W:Y) (Pb K:Nat) (S':AD) (l:List Yf) (k:KV):Prop:=∀w' D' E' bv' pv'' bb' pp',Sep (VL Pb D' E' K S' bv' pv'' bb' pp' (Xk W::l)) w'→bb'.length≤1000000→k (.bool true) w'
set_option maxHeartbeats 1000000 in
theorem yv (hS:Sep (Ys xb x dv pv' Pb D E K S S bv pv bb pp (Xk W::l)) w) (ok:S.Ok c) (hv:V5 W x dv pv') (hbb:bb.length≤1000000) (hk:C5 W Pb K (S.read x.name x.at_ x.n).2.2 l k) {o1 o2:Operand}:
     ∃S_:Y→Prop,S_ w.drew∧(fun w=>
     pq P S_ (Zh (ptr Pb)) fun v22=>
     pq P S_ (Instr.fieldAt 33 v22 0) fun v23=>
     pq P S_ (Instr.loadAt 29 v23) fun v24=>
     pq P S_ (Instr.fieldAt 41 (ptr xb) 1) fun v25=>
     pq P S_ (Instr.loadAt 9 v25) fun v26=>
     pq P S_ (Instr.fieldAt 41 (ptr xb) 3) fun v27=>
     pq P S_ (Instr.loadAt 3 v27) fun v28=>
     pq P S_ (Instr.fieldAt 41 (ptr xb) 4) fun v29=>
     pq P S_ (Instr.loadAt 3 v29) fun v30=>
     pFn P 32 [v24,v26,v28,v30] w fun v31 w=>S_ w∧(
     pq P S_ (Instr.extract v31 0) fun v32=>
     pq P S_ (Instr.extract v31 1) fun v33=>
     ∃S_2:Y→Prop,S_2 w.drew∧(fun w=>
     pq P S_2 (Zh (ptr Pb)) fun v36=>
     pq P S_2 (Instr.fieldAt 33 v36 1) fun v37=>
     pq P S_2 (Instr.loadAt 30 v37) fun v38=>
     pq P S_2 (Instr.fieldAt 41 (ptr xb) 1) fun v39=>
     pq P S_2 (Instr.loadAt 9 v39) fun v40=>
     pq P S_2 (Instr.fieldAt 41 (ptr xb) 3) fun v41=>
     pq P S_2 (Instr.loadAt 3 v41) fun v42=>
     pq P S_2 (Instr.fieldAt 41 (ptr xb) 4) fun v43=>
     pq P S_2 (Instr.loadAt 3 v43) fun v44=>
     pFn P 34 [v38,v40,v42,v44] w fun v45 w=>S_2 w∧(
     pq P S_2 (Instr.extract v45 0) fun v46=>
     pq P S_2 (Instr.extract v45 1) fun v47=>
     pFn P 20 [v33] w fun v49 w=>
     px P (Zd BinOp.eql 3 o1 o2 v49 v47) w fun v51 w=>
     pG v51 true (fun k=>k v32 w) (w:=w) (next:=fun v53 w=>
     pG v51 true (fun k=>k v46 w) (w:=w) (next:=fun v54 w=>
     pG v51 true (fun k=>pFn P 35 [v53,v54] w k) (w:=w) (next:=fun v55 w=>
     px P (Zs v51 v55 (.bool false)) w fun v56 w=>
     k v56 w))))) w.drew)) w.drew:=by
 have hS:=hS.q (Fr.drew _ _)
 refine⟨Seen xb x dv pv' Pb D E K,seen hS,?_⟩
 refine Zi _ (fun w_ hS=>Zn ⟨rfl,rfl⟩) (Zi _ (fun w_ hS=>Yr ⟨rfl,rfl⟩) (Zi (ptr D) (fun w_ hS=>Zj (isAgg29 _) hS.2 rfl ⟨rfl,rfl⟩) ?_))
 refine Zi _ (fun w_ hS=>YM ⟨rfl,rfl⟩) (Zi (.string x.name) (fun w_ hS=>Zj (isAgg9 _) hS.1 rfl ⟨rfl,rfl⟩) ?_)
 refine Zi _ (fun w_ hS=>Du ⟨rfl,rfl⟩) (Zi (i64 x.at_) (fun w_ hS=>Zj (isAgg3 _) hS.1 rfl ⟨rfl,rfl⟩) ?_)
 refine Zi _ (fun w_ hS=>Dv ⟨rfl,rfl⟩) (Zi (i64 x.n) (fun w_ hS=>Zj (isAgg3 _) hS.1 rfl ⟨rfl,rfl⟩) ?_)
 refine gr hS (i:=2) rfl ok x.name (YT hv.name) x.at_ x.n hv.at_ fun w1 v1 hS1=> ?_
 replace hS1:Sep (Cells xb (ZC x dv pv').toArray 41::Cells Pb #[ptr D,ptr E,ptr K] 33::star (Dk D (S.read x.name x.at_ x.n).2.2) (Xw v1 (S.read x.name x.at_ x.n).2.1)::Rk E S::X5 K bv pv bb pp::Xk W::l) w1:=hS1
 refine⟨seen hS1,Zi _ (fun w_ hS=>ZG rfl ⟨rfl,rfl⟩) (Zi _ (fun w_ hS=>ZG rfl ⟨rfl,rfl⟩) ?_)⟩
 have hS1:=hS1.q (Fr.drew _ _)
 refine⟨Seen xb x dv pv' Pb D E K,seen hS1,?_⟩
 refine Zi _ (fun w_ hS=>Zn ⟨rfl,rfl⟩) (Zi _ (fun w_ hS=>YL ⟨rfl,rfl⟩) (Zi (ptr E) (fun w_ hS=>Zj (isAgg30 _) hS.2 rfl ⟨rfl,rfl⟩) ?_))
 refine Zi _ (fun w_ hS=>YM ⟨rfl,rfl⟩) (Zi (.string x.name) (fun w_ hS=>Zj (isAgg9 _) hS.1 rfl ⟨rfl,rfl⟩) ?_)
 refine Zi _ (fun w_ hS=>Du ⟨rfl,rfl⟩) (Zi (i64 x.at_) (fun w_ hS=>Zj (isAgg3 _) hS.1 rfl ⟨rfl,rfl⟩) ?_)
 refine Zi _ (fun w_ hS=>Dv ⟨rfl,rfl⟩) (Zi (i64 x.n) (fun w_ hS=>Zj (isAgg3 _) hS.1 rfl ⟨rfl,rfl⟩) ?_)
 refine Kd hS1 (i:=3) rfl ok x.name x.at_ x.n hv.at_ fun w2 v2 hS2=> ?_
 have hlen:=Pu ok x.name x.at_ x.n
 generalize hR:S.read x.name x.at_ x.n=R at *
 replace hS2:Sep (Cells xb (ZC x dv pv').toArray 41::Cells Pb #[ptr D,ptr E,ptr K] 33::star (Dk D R.2.2) (Xw v1 R.2.1)::star (Rk E R.2.2) (Xw v2 R.2.1)::X5 K bv pv bb pp::Xk W::l) w2:=hS2
 refine⟨seen hS2,Zi _ (fun w_ hS=>ZG rfl ⟨rfl,rfl⟩) (Zi _ (fun w_ hS=>ZG rfl ⟨rfl,rfl⟩) ?_)⟩
 refine Vi _ (ZP rfl (Zl rfl (Zl rfl (Zl rfl ?_))))
 obtain⟨O1,I1,h1,_⟩:=hS2.right 2 rfl
 obtain⟨O2,I2,h2,_⟩:=hS2.right 3 rfl
 refine JS h1 h2 (by omega) fun w3 f3=> ?_
 rw[decide_eq_true rfl]
 have hS3:=(((hS2.q f3).left 2 rfl).left 3 rfl).drop
 exact Zx (hk w3 D E bv pv bb pp hS3 hbb)
set_option maxHeartbeats 2000000 in
theorem Pv (hS:Sep (VL Pb D E K S bv pv bb pp (Xk W::l)) w) (ok:S.Ok c) (hc:c≤100000) (hv:V5 W x dv pv') (hpk:x.picks.length≤100000) (hn:∀j:Int,1≤j∧j≤8→x.kind≠j) (hbb:bb.length≤1000000) (hk:C5 W Pb K (S.Y7 x).2 l k):pFn P 73 [ptr Pb,XH x dv pv'] w k:=by
 have h1:=hn 1 (by omega)
 have h2:=hn 2 (by omega)
 have h3:=hn 3 (by omega)
 have h4:=hn 4 (by omega)
 have h5:=hn 5 (by omega)
 have h6:=hn 6 (by omega)
 have h7:=hn 7 (by omega)
 have h8:=hn 8 (by omega)
 have hdo:(S.Y7 x).2=if x.kind=9 then (S.read x.name x.at_ x.n).2.2 else if x.kind=10 then S else if x.kind=11 then S.Vn x.plan else if x.kind=12 then S.Xu x.picks else if x.kind=13 then S.YW else S:=by
  unfold AD.Y7
  rw[if_neg h1,if_neg h2,if_neg h3,if_neg h4,if_neg h5,if_neg h6,if_neg h7,if_neg h8]
  split
  ·rfl
  ·split
   ·rfl
   ·split
    ·rfl
    ·split
     ·rfl
     ·split<;>rfl
 rw[hdo] at hk
 clear hdo h1 h2 h3 h4 h5 h6 h7 h8 hn
 refine ur _ _ _ _ ?_
 unfold TX
 refine Yw ?_
 replace hS:Sep (Ys w.heap.size x dv pv' Pb D E K S S bv pv bb pp (Xk W::l)) (w.alloc (.cells (ZC x dv pv').toArray 41)):=hS.cell _ _
 rw[show (XH x dv pv').cells=(ZC x dv pv').toArray from rfl]
 generalize w.alloc (.cells (ZC x dv pv').toArray 41)=w1 at *
 show px P (Instr.fieldAt 41 (ptr w.heap.size) 0) w1 _
 generalize w.heap.size=xb at *
 refine SY (Zj (v:=i64 x.kind) (isAgg3 _) (hS.cells 0 rfl) rfl ?_)
 by_cases k9:x.kind=9
 ·rw[if_pos k9] at hk
  refine ZP k9 (Zk ?_)
  exact yv hS ok hv hbb hk
 rw[if_neg k9] at hk
 refine Yd k9 (Zf ?_)
 by_cases k10:x.kind=10
 ·rw[if_pos k10] at hk
  refine ZP k10 (Zk ?_)
  replace hS:=hS.q (Fr.drew _ _)
  refine⟨Seen xb x dv pv' Pb D E K,seen hS,?_⟩
  refine Zi _ (fun w_ hS=>Zn ⟨rfl,rfl⟩) (Zi _ (fun w_ hS=>Yr ⟨rfl,rfl⟩) (Zi (ptr D) (fun w_ hS=>Zj (isAgg29 _) hS.2 rfl ⟨rfl,rfl⟩) ?_))
  refine Zi _ (fun w_ hS=>YM ⟨rfl,rfl⟩) (Zi (.string x.name) (fun w_ hS=>Zj (isAgg9 _) hS.1 rfl ⟨rfl,rfl⟩) ?_)
  obtain⟨O,I,L,hd,nx⟩:=Sep.disk hS 2 rfl
  refine ja hd ok x.name (YT hv.name) ⟨seen hS,Zi _ (fun w_ hS=>ZG rfl ⟨rfl,rfl⟩) (Zi _ (fun w_ hS=>ZG rfl ⟨rfl,rfl⟩) ?_)⟩
  replace hS:=hS.q (Fr.drew _ _)
  refine⟨Seen xb x dv pv' Pb D E K,seen hS,?_⟩
  refine Zi _ (fun w_ hS=>Zn ⟨rfl,rfl⟩) (Zi _ (fun w_ hS=>YL ⟨rfl,rfl⟩) (Zi (ptr E) (fun w_ hS=>Zj (isAgg30 _) hS.2 rfl ⟨rfl,rfl⟩) ?_))
  refine Zi _ (fun w_ hS=>YM ⟨rfl,rfl⟩) (Zi (.string x.name) (fun w_ hS=>Zj (isAgg9 _) hS.1 rfl ⟨rfl,rfl⟩) ?_)
  obtain⟨O,I,L,hr,nr⟩:=Sep.ref hS 3 rfl
  refine jl hr ok x.name ⟨seen hS,Zi _ (fun w_ hS=>ZG rfl ⟨rfl,rfl⟩) (Zi _ (fun w_ hS=>ZG rfl ⟨rfl,rfl⟩) ?_)⟩
  replace hS:=hS.q (Fr.drew _ _)
  refine⟨Seen xb x dv pv' Pb D E K,seen hS,Vi _ ⟨seen hS,Zi (.bool true) (fun w_ hS=>ZP rfl ⟨rfl,rfl⟩) (Ze rfl (Ze rfl (Ze rfl (Zi (.bool true) (fun w_ hS=>ZP rfl ⟨rfl,rfl⟩) (Zi (.bool true) (fun w_ hS=>Zx ⟨rfl,rfl⟩) ?_)))))⟩⟩
  refine Ze rfl (Ze rfl (Zi _ (fun w_ hS=>Zn ⟨rfl,rfl⟩) (Ze rfl (Zi _ (fun w_ hS=>Yr ⟨rfl,rfl⟩) (Ze rfl (Zi (ptr D) (fun w_ hS=>Zj (isAgg29 _) hS.2 rfl ⟨rfl,rfl⟩) (Ze rfl ?_)))))))
  refine Zi _ (fun w_ hS=>YM ⟨rfl,rfl⟩) (Ze rfl (Zi (.string x.name) (fun w_ hS=>Zj (isAgg9 _) hS.1 rfl ⟨rfl,rfl⟩) ?_))
  refine Ze rfl (Ze rfl (Zi _ (fun w_ hS=>Zn ⟨rfl,rfl⟩) (Ze rfl (Zi _ (fun w_ hS=>YL ⟨rfl,rfl⟩) (Ze rfl (Zi (ptr E) (fun w_ hS=>Zj (isAgg30 _) hS.2 rfl ⟨rfl,rfl⟩) (Ze rfl ?_)))))))
  refine Zi _ (fun w_ hS=>YM ⟨rfl,rfl⟩) (Ze rfl (Zi (.string x.name) (fun w_ hS=>Zj (isAgg9 _) hS.1 rfl ⟨rfl,rfl⟩) ?_))
  obtain⟨O,I,L,hd,nx⟩:=Sep.disk hS 2 rfl
  refine Zl rfl (S0 hd ok x.name fun w2 v2 g2 b2 f2=> ?_)
  have hS2:=hS.q f2
  refine⟨seen hS2,?_⟩
  obtain⟨O,I,L,hr,nr⟩:=Sep.ref hS2 3 rfl
  refine Zl rfl (GR hr ok x.name fun w3 v3 g3 b3 f3=> ?_)
  have hS3:=hS2.q f3
  refine⟨seen hS3,Zl rfl (QS (g2.fr (by omega) f3 fun _ _ h=>h) g3 (by have:=QR S ok x.name;omega) fun b w4 f4 hb=> ?_)⟩
  rw[hb.2 rfl]
  have hS4:=hS3.q f4
  exact⟨seen hS4,Zi (.bool true) (fun w_ hS=>Zx ⟨rfl,rfl⟩) (hk w4 D E bv pv bb pp hS4.drop hbb)⟩
 rw[if_neg k10] at hk
 refine Yd k10 (Zf ?_)
 by_cases k11:x.kind=11
 ·rw[if_pos k11] at hk
  refine ZP k11 (Zk ?_)
  replace hS:=hS.q (Fr.drew _ _)
  refine⟨Seen xb x dv pv' Pb D E K,seen hS,?_⟩
  refine Zi _ (fun w_ hS=>Zn ⟨rfl,rfl⟩) (Zi _ (fun w_ hS=>Yr ⟨rfl,rfl⟩) (Zi (ptr D) (fun w_ hS=>Zj (isAgg29 _) hS.2 rfl ⟨rfl,rfl⟩) ?_))
  refine Zi _ (fun w_ hS=>Ta ⟨rfl,rfl⟩) (Zi (Jk x.plan) (fun w_ hS=>Xm (m:=3) (isAgg38 _) (sizeOf38 _) hS.1 (by show 0+6+3≤10;decide) ⟨rfl,rfl⟩) ?_)
  obtain⟨O,I,L,hd,nx⟩:=Sep.disk hS 2 rfl
  refine T7 hd ok.room.1 x.plan fun w2 O2 I2 L2 hx=> ?_
  replace hS:Sep (Ys xb x dv pv' Pb D E K (S.Vn x.plan) S bv pv bb pp (Xk W::l)) w2:=nx _ _ _ _ _ hx
  replace hS:=hS.q (Fr.drew _ _)
  refine⟨Seen xb x dv pv' Pb D E K,seen hS,?_⟩
  refine Zi _ (fun w_ hS=>Zn ⟨rfl,rfl⟩) (Zi _ (fun w_ hS=>YL ⟨rfl,rfl⟩) (Zi (ptr E) (fun w_ hS=>Zj (isAgg30 _) hS.2 rfl ⟨rfl,rfl⟩) ?_))
  refine Zi _ (fun w_ hS=>Ta ⟨rfl,rfl⟩) (Zi (Jk x.plan) (fun w_ hS=>Xm (m:=3) (isAgg38 _) (sizeOf38 _) hS.1 (by show 0+6+3≤10;decide) ⟨rfl,rfl⟩) ?_)
  obtain⟨O,I,L,hr,nr⟩:=Sep.ref hS 3 rfl
  refine jj hr x.plan fun w3 hx=> ?_
  replace hS:Sep (Ys xb x dv pv' Pb D E K (S.Vn x.plan) (S.Vn x.plan) bv pv bb pp (Xk W::l)) w3:=nr _ _ _ _ _ hx
  rw[Qt]
  exact hk w3 D E bv pv bb pp hS.drop hbb
 rw[if_neg k11] at hk
 refine Yd k11 (Zf ?_)
 by_cases k12:x.kind=12
 ·rw[if_pos k12] at hk
  refine ZP k12 (Zk ?_)
  replace hS:=hS.q (Fr.drew _ _)
  refine⟨Seen xb x dv pv' Pb D E K,seen hS,?_⟩
  refine Zi _ (fun w_ hS=>Zn ⟨rfl,rfl⟩) (Zi _ (fun w_ hS=>Yr ⟨rfl,rfl⟩) (Zi (ptr D) (fun w_ hS=>Zj (isAgg29 _) hS.2 rfl ⟨rfl,rfl⟩) ?_))
  refine Zi _ (fun w_ hS=>Zn ⟨rfl,rfl⟩) (Zi _ (fun w_ hS=>QV ⟨rfl,rfl⟩) (Zi (ptr K) (fun w_ hS=>Zj (isAgg31 _) hS.2 rfl ⟨rfl,rfl⟩) ?_))
  refine Zi _ (fun w_ hS=>Dw ⟨rfl,rfl⟩) (Zi (pv') (fun w_ hS=>Zj (isAgg39 _) hS.1 rfl ⟨rfl,rfl⟩) ?_)
  refine Ka (d:=x.picks) hS (i:=4) (j:=5) (by decide) rfl rfl hv.picks (by omega) fun w2 pv2 v2 hS2 g2 b2=> ?_
  replace hS2:Sep (Ys xb x dv pv' Pb D E K S S bv pv2 bb (x.picks++List.replicate 3 77) (Xk W::l)) w2:=hS2
  refine⟨seen hS2,?_⟩
  obtain⟨O,I,L,hd,nx⟩:=Sep.disk hS2 2 rfl
  refine CN Xj hd ok (by omega) g2 (C4 ok x.picks) fun w3 O3 I3 L3 hx=> ?_
  replace hS:Sep (Ys xb x dv pv' Pb D E K (S.Xu x.picks) S bv pv2 bb (x.picks++List.replicate 3 77) (Xk W::l)) w3:=nx _ _ _ _ _ hx
  replace hS:=hS.q (Fr.drew _ _)
  refine⟨Seen xb x dv pv' Pb D E K,seen hS,?_⟩
  refine Zi _ (fun w_ hS=>Zn ⟨rfl,rfl⟩) (Zi _ (fun w_ hS=>YL ⟨rfl,rfl⟩) (Zi (ptr E) (fun w_ hS=>Zj (isAgg30 _) hS.2 rfl ⟨rfl,rfl⟩) ?_))
  refine Zi _ (fun w_ hS=>Dw ⟨rfl,rfl⟩) (Zi (pv') (fun w_ hS=>Zj (isAgg39 _) hS.1 rfl ⟨rfl,rfl⟩) ?_)
  obtain⟨O,I,L,hr,nr⟩:=Sep.ref hS 3 rfl
  refine yl hr ok (hv.fr (hS.VX 5 rfl)).picks fun w4 O4 I4 L4 hx=> ?_
  replace hS:Sep (Ys xb x dv pv' Pb D E K (S.Xu x.picks) (S.Xu x.picks) bv pv2 bb (x.picks++List.replicate 3 77) (Xk W::l)) w4:=nr _ _ _ _ _ hx
  replace hS:=hS.q (Fr.drew _ _)
  refine⟨Seen xb x dv pv' Pb D E K,seen hS,?_⟩
  refine Zi _ (fun w_ hS=>Zn ⟨rfl,rfl⟩) (Zi _ (fun w_ hS=>QV ⟨rfl,rfl⟩) (Zi (ptr K) (fun w_ hS=>Zj (isAgg31 _) hS.2 rfl ⟨rfl,rfl⟩) ?_))
  refine Zi _ (fun w_ hS=>Dw ⟨rfl,rfl⟩) (Zi (pv') (fun w_ hS=>Zj (isAgg39 _) hS.1 rfl ⟨rfl,rfl⟩) ?_)
  obtain⟨O,I,⟨g1,g3,g4,_⟩⟩:=hS.get 4 rfl
  refine Ps (n:=3) g1 (by simpa using g4) (hv.fr (hS.VX 5 rfl)).picks (by omega) fun w5 f5=> ?_
  replace hS:=hS.q f5
  refine⟨seen hS,Zn (QV (Zj (v:=ptr K) (isAgg31 _) (hS.cells 1 rfl) rfl ?_))⟩
  refine Ka (d:=[]) hS (i:=4) (j:=5) (by decide) rfl rfl (Src.nil W 1) (by simp) fun w6 pv6 v6 hS6 _ _=> ?_
  exact hk w6 D E bv pv6 bb _ (Sep.drop (a:=Cells xb (ZC x dv pv').toArray 41) hS6) hbb
 rw[if_neg k12] at hk
 refine Yd k12 (Zf ?_)
 by_cases k13:x.kind=13
 ·rw[if_pos k13] at hk
  refine ZP k13 (Zk (Zn (Yr (Zj (v:=ptr D) (isAgg29 _) (hS.cells 1 rfl) rfl ?_))))
  obtain⟨O,I,L,hd,nx⟩:=Sep.disk hS 2 rfl
  refine G4 hd ok.room.1 fun w2 O2 I2 L2 hx=> ?_
  replace hS:Sep (Ys xb x dv pv' Pb D E K S.YW S bv pv bb pp (Xk W::l)) w2:=nx _ _ _ _ _ hx
  refine Zn (YL (Zj (v:=ptr E) (isAgg30 _) (hS.cells 1 rfl) rfl ?_))
  obtain⟨O,I,L,hr,nr⟩:=Sep.ref hS 3 rfl
  refine jk hr fun w3 L3 hx=> ?_
  replace hS:Sep (Ys xb x dv pv' Pb D E K S.YW S.YW bv pv bb pp (Xk W::l)) w3:=nr _ _ _ _ _ hx
  rw[Qt]
  exact hk w3 D E bv pv bb pp hS.drop hbb
 rw[if_neg k13] at hk
 refine Yd k13 (Zf ?_)
 by_cases k14:x.kind=14
 ·refine ZP k14 (Zk (Zn (Yr (Zj (v:=ptr D) (isAgg29 _) (hS.cells 1 rfl) rfl ?_))))
  replace hS:Sep (Dk D S::Cells xb (ZC x dv pv').toArray 41::Cells Pb #[ptr D,ptr E,ptr K] 33::Rk E S::X5 K bv pv bb pp::Xk W::l) w1:=hS.front 2 rfl
  obtain⟨O,I,L,hd,nx⟩:=Sep.zj5 hS
  refine jg hd ok fun w2 D' L' hx f2=> ?_
  replace hS:=nx w2 D' L' hx f2
  unfold ptr
  refine YJ Kt (Zf (Zn (Yr (Zj (v:=ptr D) (isAgg29 _) (hS.cells 3 rfl) rfl (Zn (Yr ?_))))))
  refine YA (sizeOf29 _) rfl rfl (hS.cells 3 rfl) (by show 0<3;decide) ?_
  replace hS:Sep (Dk D S::Dk D' S::Cells xb (ZC x dv pv').toArray 41::Cells Pb #[ptr D',ptr E,ptr K] 33::Rk E S::X5 K bv pv bb pp::Xk W::l) (w2.setCell ⟨Pb,0,none⟩ (ptr D')):=hS.set 3 rfl 0 (ptr D')
  show px P _ (w2.setCell ⟨Pb,0,none⟩ (ptr D')) _
  generalize w2.setCell ⟨Pb,0,none⟩ (ptr D')=w3 at *
  refine Zn (YL (Zj (v:=ptr E) (isAgg30 _) (hS.cells 3 rfl) rfl ?_))
  obtain⟨O,I,L,hr,nr⟩:=Sep.ref hS 4 rfl
  refine gk hr ok (by omega) fun w4 E' O' I' L' hx hlow f4=> ?_
  replace hS:Sep (Rk E' S::Dk D S::Dk D' S::Cells xb (ZC x dv pv').toArray 41::Cells Pb #[ptr D',ptr E,ptr K] 33::Rk E S::X5 K bv pv bb pp::Xk W::l) w4:=hS.new f4 (fun b hb=>hb.elim) ⟨L',hx⟩ (fun b hb=>hlow b (.inl hb)) fun b hb=>hlow b (.inr hb)
  refine Zn (YL (YA (sizeOf30 _) rfl rfl (hS.cells 4 rfl) (by show 1<3;decide) ?_))
  replace hS:Sep (Rk E' S::Dk D S::Dk D' S::Cells xb (ZC x dv pv').toArray 41::Cells Pb #[ptr D',ptr E',ptr K] 33::Rk E S::X5 K bv pv bb pp::Xk W::l) (w4.setCell ⟨Pb,1,none⟩ (ptr E')):=hS.set 4 rfl 1 (ptr E')
  show pFn P _ _ (w4.setCell ⟨Pb,1,none⟩ (ptr E')) _
  generalize w4.setCell ⟨Pb,1,none⟩ (ptr E')=w5 at *
  refine zgo hS (i:=1) rfl ok (by omega) fun w6 S6 hS6=> ?_
  intros
  rw[Qt]
  replace hS6:Sep (Rk E' S::Dk D S6::Dk D' S::Cells xb (ZC x dv pv').toArray 41::Cells Pb #[ptr D',ptr E',ptr K] 33::Rk E S::X5 K bv pv bb pp::Xk W::l) w6:=hS6
  have h1:Sep (Rk E' S::Dk D' S::Cells Pb #[ptr D',ptr E',ptr K] 33::X5 K bv pv bb pp::Xk W::l) w6:=((hS6.erase 5 rfl).erase 3 rfl).erase 1 rfl
  have h2:Sep (Dk D' S::Rk E' S::Cells Pb #[ptr D',ptr E',ptr K] 33::X5 K bv pv bb pp::Xk W::l) w6:=h1.front 1 rfl
  exact hk w6 D' E' bv pv bb pp (h2.front 2 rfl) hbb
 refine Yd k14 (Zf ?_)
 rw[Qt]
 exact hk w1 D E bv pv bb pp hS.drop hbb
end
section
variable {w w0:Y} {k:KV}
variable {W:Y} {xb Pb D E K c:Nat} {x:XT} {dv pv' bv pv:V} {S T:AD} {bb:Bytes} {pp:List Int} {l:List Yf}
set_option maxHeartbeats 2000000 in
theorem yw (hS:Sep (VL Pb D E K S bv pv bb pp (Xk W::l)) w) (ok:S.Ok c) (hc:c≤100000) (hv:V5 W x dv pv') (hd:x.data.length≤100000) (hpk:x.picks.length≤100000) (hbb:bb.length≤1000000) (hk:C5 W Pb K (S.Y7 x).2 l k):pFn P 18 [ptr Pb,XH x dv pv'] w k:=by
 refine ui _ _ _ _ ?_
 unfold TS
 refine Yw ?_
 have hS0:=hS
 replace hS:Sep (Ys w.heap.size x dv pv' Pb D E K S S bv pv bb pp (Xk W::l)) (w.alloc (.cells (ZC x dv pv').toArray 41)):=hS.cell _ _
 rw[show (XH x dv pv').cells=(ZC x dv pv').toArray from rfl]
 generalize w.alloc (.cells (ZC x dv pv').toArray 41)=w1 at *
 show px P (Instr.fieldAt 41 (ptr w.heap.size) 0) w1 _
 generalize w.heap.size=xb at *
 refine SY (Zj (v:=i64 x.kind) (isAgg3 _) (hS.cells 0 rfl) rfl ?_)
 by_cases k1:x.kind=1
 ·have hdo:(S.Y7 x).2=(S.create x.name).2:=by unfold AD.Y7;rw[if_pos k1]
  rw[hdo] at hk
  refine ZP k1 (Zk ?_)
  exact HW hS ok hv fun w' h=>hk w' D E bv pv bb pp h.drop hbb
 refine Yd k1 (Zf ?_)
 by_cases k2:x.kind=2
 ·have hdo:(S.Y7 x).2=(S.Ye x.name x.at_ x.data).2:=by unfold AD.Y7;rw[if_neg k1,if_pos k2]
  rw[hdo] at hk
  refine ZP k2 (Zk ?_)
  exact Ei hS ok hv hd hbb fun w' bv' bb' h hb=>hk w' D E bv' pv bb' pp h.drop hb
 refine Yd k2 (Zf ?_)
 by_cases k3:x.kind=3
 ·have hdo:(S.Y7 x).2=(S.append x.name x.data).2:=by unfold AD.Y7;rw[if_neg k1,if_neg k2,if_pos k3]
  rw[hdo] at hk
  refine ZP k3 (Zk ?_)
  exact Kc hS ok hv hd hbb fun w' bv' bb' h hb=>hk w' D E bv' pv bb' pp h.drop hb
 refine Yd k3 (Zf ?_)
 by_cases k4:x.kind=4
 ·have hdo:(S.Y7 x).2=(S.truncate x.name x.n).2:=by unfold AD.Y7;rw[if_neg k1,if_neg k2,if_neg k3,if_pos k4]
  rw[hdo] at hk
  refine ZP k4 (Zk ?_)
  exact C3 hS ok hv fun w' h=>hk w' D E bv pv bb pp h.drop hbb
 refine Yd k4 (Zf ?_)
 by_cases k5:x.kind=5
 ·have hdo:(S.Y7 x).2=(S.rename x.name x.to_).2:=by unfold AD.Y7;rw[if_neg k1,if_neg k2,if_neg k3,if_neg k4,if_pos k5]
  rw[hdo] at hk
  refine ZP k5 (Zk ?_)
  exact HX hS ok hv fun w' h=>hk w' D E bv pv bb pp h.drop hbb
 refine Yd k5 (Zf ?_)
 by_cases k6:x.kind=6
 ·have hdo:(S.Y7 x).2=(S.remove x.name).2:=by unfold AD.Y7;rw[if_neg k1,if_neg k2,if_neg k3,if_neg k4,if_neg k5,if_pos k6]
  rw[hdo] at hk
  refine ZP k6 (Zk ?_)
  exact HY hS ok hv fun w' h=>hk w' D E bv pv bb pp h.drop hbb
 refine Yd k6 (Zf ?_)
 by_cases k7:x.kind=7
 ·have hdo:(S.Y7 x).2=(S.sync x.name).2:=by unfold AD.Y7;rw[if_neg k1,if_neg k2,if_neg k3,if_neg k4,if_neg k5,if_neg k6,if_pos k7]
  rw[hdo] at hk
  refine ZP k7 (Zk ?_)
  exact yt hS ok hv fun w' h=>hk w' D E bv pv bb pp h.drop hbb
 refine Yd k7 (Zf ?_)
 by_cases k8:x.kind=8
 ·have hdo:(S.Y7 x).2=S.ZR.2:=by unfold AD.Y7;rw[if_neg k1,if_neg k2,if_neg k3,if_neg k4,if_neg k5,if_neg k6,if_neg k7,if_pos k8]
  rw[hdo] at hk
  refine ZP k8 (Zk ?_)
  exact BM hS ok hv fun w' h=>hk w' D E bv pv bb pp h.drop hbb
 refine Yd k8 (Zf ?_)
 refine A4 (hS.cells 0 rfl) ?_
 refine Pv hS.drop ok hc hv hpk ?_ hbb hk
 intro j hj he
 have:j=1∨j=2∨j=3∨j=4∨j=5∨j=6∨j=7∨j=8:=by omega
 rcases this with rfl|rfl|rfl|rfl|rfl|rfl|rfl|rfl<;>contradiction
end
section
variable {w w0:Y} {k:KV}
variable {W:Y} {xb Pb D E K c:Nat} {x:XT} {dv pv' bv pv:V} {S T:AD} {bb:Bytes} {pp:List Int} {l:List Yf}
theorem X5.none {K:Nat} {w:Y} (h:w.heap[K]? =some (.cells #[.slice none 0 0,.slice none 0 0] 51 (0,0))):(X5 K (.slice none 0 0) (.slice none 0 0) [] []).h w (fun b=>b=K) (fun _=>False):=
 ⟨h,⟨rfl,.inl ⟨rfl,rfl⟩⟩,⟨rfl,.inl ⟨rfl,rfl⟩⟩,fun b=>⟨.inl,fun h=>h.elim id fun h=>h.elim (fun h=>by cases h) fun h=>by cases h⟩,fun _ h=>h⟩
theorem yx {room:Int} (hS0:Sep l w) (hb:¬(1≤room∧room≤1048576)→∀w' p K,Sep (Cells p #[.pointer none,.pointer none,ptr K] 33::l) w'→Fr no w w'→k (.tuple #[ptr p,.bool true]) w')
   (hk:1≤room∧room≤1048576→∀w' Pb D E K,Sep (VL Pb D E K (AD.new room) (.slice none 0 0) (.slice none 0 0) [] [] l) w'→k (.tuple #[ptr Pb,.bool true]) w'):pFn P 16 [i64 room] w k:=by
 refine vH _ _ _ ?_
 unfold TL
 refine zb8 ?_ ?_
 · intro hr
   refine ZG rfl (ZG rfl ?_)
   refine jt (fun _=> ?_) fun h=>absurd h hr
   refine ZG rfl (ZG rfl ?_)
   refine Z9 (w':=w) (v:= .agg #[.slice none 0 0,.slice none 0 0]) (by kernel_rfl) ?_
   refine Yw ?_
   rw[show Value.cells (.agg #[.slice none 0 0,.slice none 0 0])= #[.slice none 0 0,.slice none 0 0] from rfl]
   have f1:=Fr.alloc no w (.cells #[.slice none 0 0,.slice none 0 0] 51)
   generalize w.heap.size=K at *
   generalize w.alloc (.cells #[.slice none 0 0,.slice none 0 0] 51)=w1 at *
   refine Z9 (w':=w1) (v:= .agg #[.pointer none,.pointer none,ptr K]) (by kernel_rfl) ?_
   refine Yw ?_
   have h2:Sep (Cells w1.heap.size #[.pointer none,.pointer none,ptr K] 33::l) (w1.alloc (.cells #[.pointer none,.pointer none,ptr K] 33)):=(hS0.q f1).cell _ _
   have f2:=f1.trans (Fr.alloc no w1 (.cells #[.pointer none,.pointer none,ptr K] 33)) fun b hb=> .inl hb
   show pFn P _ _ (w1.alloc (.cells #[.pointer none,.pointer none,ptr K] 33)) _
   generalize w1.alloc (.cells #[.pointer none,.pointer none,ptr K] 33)=w2 at *
   refine Vi _ (ZP rfl (Zl rfl (Zl rfl (Z9 (w':=w2) (v:= .bool true) (by kernel_rfl) (Zl rfl (Zl rfl (Y0 (by decide) (Zl rfl (Z9 (w':=w2) (v:= .bool true) (by kernel_rfl) (Zx ?_))))))))))
   exact hb hr _ _ K h2 f2
 · intro hr w1 L1 d1 f1
   refine ZG rfl (ZG rfl ?_)
   have hS1:Sep (Dk (w.heap.size+2) (AD.new room)::l) w1:=hS0.new f1 (fun b hb=>hb.elim) ⟨L1,d1⟩ (fun b hb=>hb.1) fun b hb=>hb.elim
   generalize w.heap.size+2=D at *
   refine jt (fun h=>absurd hr h) fun _ w2 L2 d2 f2 hz=> ?_
   refine ZG rfl (ZG rfl ?_)
   have hS2:Sep (Rk w1.heap.size (AD.new room)::Dk D (AD.new room)::l) w2:=hS1.new f2 (fun b hb=>hb.elim) ⟨L2,d2⟩ (fun b hb=>by omega) fun b hb=>hb.elim
   generalize w1.heap.size=E at *
   refine Z9 (w':=w2) (v:= .agg #[.slice none 0 0,.slice none 0 0]) (by kernel_rfl) ?_
   refine Yw ?_
   rw[show Value.cells (.agg #[.slice none 0 0,.slice none 0 0])= #[.slice none 0 0,.slice none 0 0] from rfl]
   have hS3:Sep (X5 w2.heap.size (.slice none 0 0) (.slice none 0 0) [] []::Rk E (AD.new room)::Dk D (AD.new room)::l) (w2.alloc (.cells #[.slice none 0 0,.slice none 0 0] 51)):=
     hS2.new (Fr.alloc no w2 _) (fun b hb=>hb.elim) (X5.none (Z2 _ _)) (fun b hb=>by omega) fun b hb=>hb.elim
   generalize w2.heap.size=K at *
   generalize w2.alloc (.cells #[.slice none 0 0,.slice none 0 0] 51)=w3 at *
   refine Z9 (w':=w3) (v:= .agg #[ptr D,ptr E,ptr K]) (by kernel_rfl) ?_
   refine Yw ?_
   have hS4:Sep (Cells w3.heap.size #[ptr D,ptr E,ptr K] 33::X5 K (.slice none 0 0) (.slice none 0 0) [] []::Rk E (AD.new room)::Dk D (AD.new room)::l) (w3.alloc (.cells #[ptr D,ptr E,ptr K] 33)):=hS3.cell _ _
   show pFn P _ _ (w3.alloc (.cells #[ptr D,ptr E,ptr K] 33)) _
   generalize w3.alloc (.cells #[ptr D,ptr E,ptr K] 33)=w4 at *
   have hS5:Sep (VL w3.heap.size D E K (AD.new room) (.slice none 0 0) (.slice none 0 0) [] [] l) w4:=
     hS4.perm (.cons _ ((List.Perm.swap _ _ _).trans (((List.Perm.swap _ _ _).cons _).trans ((List.Perm.swap _ _ _)))))
   refine Vi _ (ZP rfl (Zl rfl (Zl rfl ?_)))
   unfold ptr
   refine YJ Kt (Zl rfl (Zl rfl (ZY rfl (Zl rfl (Z9 (w':=w4) (v:= .bool true) (by kernel_rfl) (Zx ?_))))))
   exact hk hr _ _ D E K hS5
end
end Go.Proofs.YtcdcojpfealppaaGreat
namespace Go.Proofs.XRed
open Go Go.Proofs
def XU (ops:Array Oper):Array Bool→List Nat→Bool
 |_,[]=>true
 |listed,i::rest=>
  (Region.ready .any ops listed).contains i&&
  (if Xx (ops.getD i default).op then Region.free .any ops listed i else Region.ready .any ops listed== [i])&&
  XU ops (listed.setIfInBounds i true) rest
def XC (listed:Array Bool):List Nat→Array Bool
 | []=>listed
 |i::r=>XC (listed.setIfInBounds i true) r
theorem YV {ops:Array Oper}:∀ {o1:List Nat} {listed:Array Bool} {fuel:Nat} {o2:List Nat},XU ops listed o1=true→YB ops fuel (XC listed o1) o2=true→YB ops (fuel+o1.length) listed (o1++o2)=true
 | [],_,_,_,_,h=>h
 |i::r,listed,fuel,o2,h,h2=>by
  simp only[XU,Bool.and_eq_true] at h
  show YB ops (fuel+r.length+1) listed (i::(r++o2))=true
  simp only[YB,Bool.and_eq_true]
  exact⟨h.1,YV h.2 h2⟩
def opsOf:Code→Array Oper
 | .region _ ops _=>ops
 |_=> #[]
def yy:Code→Bool
 | .region _ _ d=>d
 |_=>false
def zgp:Code→Bool
 | .seq _ _=>true
 |_=>false
theorem Dp {n:Nat} {B:Code} (hB:zgp B=true) (h1:Code.fits n (sub B [0])=true) (h2:Code.fits n (sub B [1])=true):Code.fits n B=true:=by
 cases B with
 |seq x y=>
  have h1':Code.fits n (sub x [])=true:=h1
  have h2':Code.fits n (sub y [])=true:=h2
  have e1:sub x []=x:=by cases x<;>rfl
  have e2:sub y []=y:=by cases y<;>rfl
  rw[e1] at h1';rw[e2] at h2'
  simp only[Code.fits,Bool.and_eq_true]
  exact⟨h1',h2'⟩
 |_=>cases hB
theorem Ek {n:Nat} {c:Code} (hd:yy c=true) (hw:AU n (opsOf c).toList=true) (hs:Region.noSelect (opsOf c)=true) {ord:List Nat}
   (ho:YN (opsOf c) (opsOf c).size (Array.replicate (opsOf c).size false)=ord)
   (hk:YB (opsOf c) (opsOf c).size (Array.replicate (opsOf c).size false) ord=true):Code.fits n c=true:=by
 cases c with
 | region id ops draw =>
   have hd':draw=true:=hd
   subst hd'
   have hw':AU n ops.toList=true:=hw
   have hs':Region.noSelect ops=true:=hs
   have ho':YN ops ops.size (Array.replicate ops.size false)=ord:=ho
   have hk':YB ops ops.size (Array.replicate ops.size false) ord=true:=hk
   simp only[Code.fits,Bool.and_eq_true]
   refine⟨hw',?_⟩
   rw[ho']
   simp[hs',hk']
 |_=>cases hd
end Go.Proofs.XRed
namespace Go.Proofs.YtcdcojpfealppaaGreat
open Go Go.Proofs Go.Proofs.XRed Tryz
open Go.Instr (fieldAt loadAt storeAt indexAt sliceAt extract)
noncomputable def zcm:Code:=Z1 f19
def zls (k:KV) (q:List Nat) (ρ:Env) (w:Y):Prop:=At Z 105 zcm (Z8 Z f19.results.toList k) q ρ w
def yz (p0:V) (w:Y) (k:KV):Prop:=
 ∃S:Y→Prop,S w.drew∧(fun w=>
 pq Z S (Zh p0) fun v4=>
 pq Z S (U 33 v4 0) fun v5=>
 pq Z S (F 29 v5) fun v6=>
 pq Z S (Zh p0) fun v9=>
 pq Z S (U 33 v9 1) fun v10=>
 pq Z S (F 30 v10) fun v11=>
 pFn Z 26 [v6] w fun v7 w=>S w∧(
 pFn Z 74 [v11] w fun v12 w=>S w∧(
 pq Z S (Zd .eql 4 (.tmp 7) (.tmp 12) v7 v12) fun v13=>
 pGq v13 true (fun k=>k p0) (next:=fun v15=>
 pGq v13 true (fun k=>pq Z S (Zh v15) k) (next:=fun v16=>
 pGq v13 true (fun k=>pq Z S (U 33 v16 0) k) (next:=fun v17=>
 pGq v13 true (fun k=>pq Z S (F 29 v17) k) (next:=fun v18=>
 pGq v13 true (fun k=>k p0) (next:=fun v20=>
 pGq v13 true (fun k=>pq Z S (Zh v20) k) (next:=fun v21=>
 pGq v13 true (fun k=>pq Z S (U 33 v21 1) k) (next:=fun v22=>
 pGq v13 true (fun k=>pq Z S (F 30 v22) k) (next:=fun v23=>
 pG v13 true (fun k=>pFn Z 57 [v18] w k) (w:=w) (next:=fun v19 w=>S w∧(
 pG v13 true (fun k=>pFn Z 75 [v23] w k) (w:=w) (next:=fun v24 w=>S w∧(
 pGq v13 true (fun k=>pq Z S (Zd .eql 3 (.tmp 19) (.tmp 24) v19 v24) k) (next:=fun v25=>
 pq Z S (Zs v13 v25 (.bool false)) fun v26=>
 pGq v26 true (fun k=>k p0) (next:=fun v28=>
 pGq v26 true (fun k=>pq Z S (Zh v28) k) (next:=fun v29=>
 pGq v26 true (fun k=>pq Z S (U 33 v29 0) k) (next:=fun v30=>
 pGq v26 true (fun k=>pq Z S (F 29 v30) k) (next:=fun v31=>
 pGq v26 true (fun k=>k p0) (next:=fun v33=>
 pGq v26 true (fun k=>pq Z S (Zh v33) k) (next:=fun v34=>
 pGq v26 true (fun k=>pq Z S (U 33 v34 1) k) (next:=fun v35=>
 pGq v26 true (fun k=>pq Z S (F 30 v35) k) (next:=fun v36=>
 pG v26 true (fun k=>pFn Z 60 [v31] w k) (w:=w) (next:=fun v32 w=>S w∧(
 pG v26 true (fun k=>pFn Z 76 [v36] w k) (w:=w) (next:=fun v37 w=>S w∧(
 pGq v26 true (fun k=>pq Z S (Zd .eql 3 (.tmp 32) (.tmp 37) v32 v37) k) (next:=fun v38=>
 pq Z S (Zs v26 v38 (.bool false)) fun v39=>
 pGq v39 true (fun k=>k p0) (next:=fun v41=>
 pGq v39 true (fun k=>pq Z S (Zh v41) k) (next:=fun v42=>
 pGq v39 true (fun k=>pq Z S (U 33 v42 0) k) (next:=fun v43=>
 pGq v39 true (fun k=>pq Z S (F 29 v43) k) (next:=fun v44=>
 pGq v39 true (fun k=>k p0) (next:=fun v46=>
 pGq v39 true (fun k=>pq Z S (Zh v46) k) (next:=fun v47=>
 pGq v39 true (fun k=>pq Z S (U 33 v47 1) k) (next:=fun v48=>
 pGq v39 true (fun k=>pq Z S (F 30 v48) k) (next:=fun v49=>
 pG v39 true (fun k=>pFn Z 27 [v44] w k) (w:=w) (next:=fun v45 w=>S w∧(
 pG v39 true (fun k=>pFn Z 77 [v49] w k) (w:=w) (next:=fun v50 w=>S w∧(
 pGq v39 true (fun k=>pq Z S (Zd .eql 3 (.tmp 45) (.tmp 50) v45 v50) k) (next:=fun v51=>
 pq Z S (Zs v39 v51 (.bool false)) fun v52=>
 pGq v52 true (fun k=>k p0) (next:=fun v54=>
 pGq v52 true (fun k=>pq Z S (Zh v54) k) (next:=fun v55=>
 pGq v52 true (fun k=>pq Z S (U 33 v55 0) k) (next:=fun v56=>
 pGq v52 true (fun k=>pq Z S (F 29 v56) k) (next:=fun v57=>
 pGq v52 true (fun k=>k p0) (next:=fun v59=>
 pGq v52 true (fun k=>pq Z S (Zh v59) k) (next:=fun v60=>
 pGq v52 true (fun k=>pq Z S (U 33 v60 1) k) (next:=fun v61=>
 pGq v52 true (fun k=>pq Z S (F 30 v61) k) (next:=fun v62=>
 pG v52 true (fun k=>pFn Z 28 [v57] w k) (w:=w) (next:=fun v58 w=>S w∧(
 pG v52 true (fun k=>pFn Z 41 [v62] w k) (w:=w) (next:=fun v63 w=>S w∧(
 pG v52 true (fun k=>pFn Z 40 [v58,v63] w k) (w:=w) (next:=fun v64 w=>S w∧(
 pq Z S (Zs v52 v64 (.bool false)) fun v65=>
 pGq v65 true (fun k=>k p0) (next:=fun v67=>
 pGq v65 true (fun k=>pq Z S (Zh v67) k) (next:=fun v68=>
 pGq v65 true (fun k=>pq Z S (U 33 v68 0) k) (next:=fun v69=>
 pGq v65 true (fun k=>pq Z S (F 29 v69) k) (next:=fun v70=>
 pGq v65 true (fun k=>k p0) (next:=fun v72=>
 pGq v65 true (fun k=>pq Z S (Zh v72) k) (next:=fun v73=>
 pGq v65 true (fun k=>pq Z S (U 33 v73 1) k) (next:=fun v74=>
 pGq v65 true (fun k=>pq Z S (F 30 v74) k) (next:=fun v75=>
 pG v65 true (fun k=>pFn Z 29 [v70] w k) (w:=w) (next:=fun v71 w=>S w∧(
 pG v65 true (fun k=>pFn Z 42 [v75] w k) (w:=w) (next:=fun v76 w=>S w∧(
 pG v65 true (fun k=>pFn Z 40 [v71,v76] w k) (w:=w) (next:=fun v77 w=>S w∧(
 pq Z S (Zs v65 v77 (.bool false)) fun v78=>
 pGq v78 true (fun k=>k p0) (next:=fun v80=>
 pGq v78 true (fun k=>pq Z S (Zh v80) k) (next:=fun v81=>
 pGq v78 true (fun k=>pq Z S (U 33 v81 0) k) (next:=fun v82=>
 pGq v78 true (fun k=>pq Z S (F 29 v82) k) (next:=fun v83=>
 pGq v78 true (fun k=>k p0) (next:=fun v85=>
 pGq v78 true (fun k=>pq Z S (Zh v85) k) (next:=fun v86=>
 pGq v78 true (fun k=>pq Z S (U 33 v86 1) k) (next:=fun v87=>
 pGq v78 true (fun k=>pq Z S (F 30 v87) k) (next:=fun v88=>
 pG v78 true (fun k=>pFn Z 31 [v83] w k) (w:=w) (next:=fun v84 w=>S w∧(
 pG v78 true (fun k=>pFn Z 33 [v88] w k) (w:=w) (next:=fun v89 w=>S w∧(
 pG v78 true (fun k=>pFn Z 45 [v84,v89] w k) (w:=w) (next:=fun v90 w=>S w∧(
 pq Z S (Zs v78 v90 (.bool false)) fun v91=>
 pGq v91 true (fun k=>k p0) (next:=fun v93=>
 pGq v91 true (fun k=>pq Z S (Zh v93) k) (next:=fun v94=>
 pGq v91 true (fun k=>pq Z S (U 33 v94 0) k) (next:=fun v95=>
 pGq v91 true (fun k=>pq Z S (F 29 v95) k) (next:=fun v96=>
 pGq v91 true (fun k=>k p0) (next:=fun v98=>
 pGq v91 true (fun k=>pq Z S (Zh v98) k) (next:=fun v99=>
 pGq v91 true (fun k=>pq Z S (U 33 v99 1) k) (next:=fun v100=>
 pGq v91 true (fun k=>pq Z S (F 30 v100) k) (next:=fun v101=>
 pG v91 true (fun k=>pFn Z 30 [v96,(.string (ByteArray.mk #[]))] w k) (w:=w) (next:=fun v97 w=>S w∧(
 pG v91 true (fun k=>pFn Z 44 [v101,(.string (ByteArray.mk #[]))] w k) (w:=w) (next:=fun v102 w=>S w∧(
 pG v91 true (fun k=>pFn Z 43 [v97,v102] w k) (w:=w) (next:=fun v103 w=>S w∧(
 pq Z S (Zs v91 v103 (.bool false)) fun v104=>
 k v104 w)))))))))))))))))))))))))))))))))))))))))))))))))))))))))))))))))))))))))))))))))))))))))))))))))) w.drew
theorem Pw (p0:V) (w:Y) (k:KV):zls k [] (Zq [p0]) w=yz p0 w k:=by kernel_rfl
noncomputable abbrev UT:Array Oper:=opsOf (sub zcm [1,0])
def Kf:Array Bool:= #[false,false,false,false,false,false,false,false,false,false,false,false,false,false,false,false,false,false,false,false,false,false,false,false,false,false,false,false,false,false,false,false,false,false,false,false,false,false,false,false,false,false,false,false,false,false,false,false,false,false,false,false,false,false,false,false,false,false,false,false,false,false,false,false,false,false,false,false,false,false,false,false,false,false,false,false,false,false,false,false,false,false,false,false,false,false,false,false,false,false,false,false,false,false,false,false,false,false,false,false,false,false,false]
def Px:Array Bool:= #[true,true,true,true,true,true,true,true,true,true,true,true,true,false,false,false,false,false,false,false,false,false,false,false,false,false,false,false,false,false,false,false,false,false,false,false,false,false,false,false,false,false,false,false,false,false,false,false,false,false,false,false,false,false,false,false,false,false,false,false,false,false,false,false,false,false,false,false,false,false,false,false,false,false,false,false,false,false,false,false,false,false,false,false,false,false,false,false,false,false,false,false,false,false,false,false,false,false,false,false,false,false,false]
def Py:Array Bool:= #[true,true,true,true,true,true,true,true,true,true,true,true,true,true,true,true,true,true,true,true,true,true,true,true,true,true,false,false,false,false,false,false,false,false,false,false,false,false,false,false,false,false,false,false,false,false,false,false,false,false,false,false,false,false,false,false,false,false,false,false,false,false,false,false,false,false,false,false,false,false,false,false,false,false,false,false,false,false,false,false,false,false,false,false,false,false,false,false,false,false,false,false,false,false,false,false,false,false,false,false,false,false,false]
def Pz:Array Bool:= #[true,true,true,true,true,true,true,true,true,true,true,true,true,true,true,true,true,true,true,true,true,true,true,true,true,true,true,true,true,true,true,true,true,true,true,true,true,true,true,false,false,false,false,false,false,false,false,false,false,false,false,false,false,false,false,false,false,false,false,false,false,false,false,false,false,false,false,false,false,false,false,false,false,false,false,false,false,false,false,false,false,false,false,false,false,false,false,false,false,false,false,false,false,false,false,false,false,false,false,false,false,false,false]
def P0:Array Bool:= #[true,true,true,true,true,true,true,true,true,true,true,true,true,true,true,true,true,true,true,true,true,true,true,true,true,true,true,true,true,true,true,true,true,true,true,true,true,true,true,true,true,true,true,true,true,true,true,true,true,true,true,true,false,false,false,false,false,false,false,false,false,false,false,false,false,false,false,false,false,false,false,false,false,false,false,false,false,false,false,false,false,false,false,false,false,false,false,false,false,false,false,false,false,false,false,false,false,false,false,false,false,false,false]
def P1:Array Bool:= #[true,true,true,true,true,true,true,true,true,true,true,true,true,true,true,true,true,true,true,true,true,true,true,true,true,true,true,true,true,true,true,true,true,true,true,true,true,true,true,true,true,true,true,true,true,true,true,true,true,true,true,true,true,true,true,true,true,true,true,true,true,true,true,true,true,false,false,false,false,false,false,false,false,false,false,false,false,false,false,false,false,false,false,false,false,false,false,false,false,false,false,false,false,false,false,false,false,false,false,false,false,false,false]
def P2:Array Bool:= #[true,true,true,true,true,true,true,true,true,true,true,true,true,true,true,true,true,true,true,true,true,true,true,true,true,true,true,true,true,true,true,true,true,true,true,true,true,true,true,true,true,true,true,true,true,true,true,true,true,true,true,true,true,true,true,true,true,true,true,true,true,true,true,true,true,true,true,true,true,true,true,true,true,true,true,true,true,true,false,false,false,false,false,false,false,false,false,false,false,false,false,false,false,false,false,false,false,false,false,false,false,false,false]
def P3:Array Bool:= #[true,true,true,true,true,true,true,true,true,true,true,true,true,true,true,true,true,true,true,true,true,true,true,true,true,true,true,true,true,true,true,true,true,true,true,true,true,true,true,true,true,true,true,true,true,true,true,true,true,true,true,true,true,true,true,true,true,true,true,true,true,true,true,true,true,true,true,true,true,true,true,true,true,true,true,true,true,true,true,true,true,true,true,true,true,true,true,true,true,true,true,false,false,false,false,false,false,false,false,false,false,false,false]
def gw:Array Bool:= #[true,true,true,true,true,true,true,true,true,true,true,true,true,true,true,true,true,true,true,true,true,true,true,true,true,true,true,true,true,true,true,true,true,true,true,true,true,true,true,true,true,true,true,true,true,true,true,true,true,true,true,true,true,true,true,true,true,true,true,true,true,true,true,true,true,true,true,true,true,true,true,true,true,true,true,true,true,true,true,true,true,true,true,true,true,true,true,true,true,true,true,true,true,true,true,true,true,true,true,true,true,true,true]
theorem zgq:XU UT Kf [0,1,2,3,5,6,7,8,4,9,10,11,12]=true:=by kernel_rfl
theorem zgr:XC Kf [0,1,2,3,5,6,7,8,4,9,10,11,12]=Px:=by kernel_rfl
theorem zgs:XU UT Px [13,14,15,17,18,19,20,16,21,22,23,24,25]=true:=by kernel_rfl
theorem zgt:XC Px [13,14,15,17,18,19,20,16,21,22,23,24,25]=Py:=by kernel_rfl
theorem zgu:XU UT Py [26,27,28,30,31,32,33,29,34,35,36,37,38]=true:=by kernel_rfl
theorem zgv:XC Py [26,27,28,30,31,32,33,29,34,35,36,37,38]=Pz:=by kernel_rfl
theorem zgw:XU UT Pz [39,40,41,43,44,45,46,42,47,48,49,50,51]=true:=by kernel_rfl
theorem zgx:XC Pz [39,40,41,43,44,45,46,42,47,48,49,50,51]=P0:=by kernel_rfl
theorem zgy:XU UT P0 [52,53,54,56,57,58,59,55,60,61,62,63,64]=true:=by kernel_rfl
theorem zgz:XC P0 [52,53,54,56,57,58,59,55,60,61,62,63,64]=P1:=by kernel_rfl
theorem zg0:XU UT P1 [65,66,67,69,70,71,72,68,73,74,75,76,77]=true:=by kernel_rfl
theorem zg1:XC P1 [65,66,67,69,70,71,72,68,73,74,75,76,77]=P2:=by kernel_rfl
theorem zg2:XU UT P2 [78,79,80,82,83,84,85,81,86,87,88,89,90]=true:=by kernel_rfl
theorem zg3:XC P2 [78,79,80,82,83,84,85,81,86,87,88,89,90]=P3:=by kernel_rfl
theorem zg4:XU UT P3 [91,92,93,95,96,97,98,94,99,100,101,102]=true:=by kernel_rfl
theorem zg5:XC P3 [91,92,93,95,96,97,98,94,99,100,101,102]=gw:=by kernel_rfl
theorem zlt:YB UT 0 gw []=true:=by kernel_rfl
theorem zg6:YB UT 12 P3 [91,92,93,95,96,97,98,94,99,100,101,102]=true:=YV (fuel:=0) (o1:=[91,92,93,95,96,97,98,94,99,100,101,102]) zg4 (by rw[zg5];exact zlt)
theorem zg7:YB UT 25 P2 [78,79,80,82,83,84,85,81,86,87,88,89,90,91,92,93,95,96,97,98,94,99,100,101,102]=true:=YV (fuel:=12) (o1:=[78,79,80,82,83,84,85,81,86,87,88,89,90]) zg2 (by rw[zg3];exact zg6)
theorem zg8:YB UT 38 P1 [65,66,67,69,70,71,72,68,73,74,75,76,77,78,79,80,82,83,84,85,81,86,87,88,89,90,91,92,93,95,96,97,98,94,99,100,101,102]=true:=YV (fuel:=25) (o1:=[65,66,67,69,70,71,72,68,73,74,75,76,77]) zg0 (by rw[zg1];exact zg7)
theorem zg9:YB UT 51 P0 [52,53,54,56,57,58,59,55,60,61,62,63,64,65,66,67,69,70,71,72,68,73,74,75,76,77,78,79,80,82,83,84,85,81,86,87,88,89,90,91,92,93,95,96,97,98,94,99,100,101,102]=true:=YV (fuel:=38) (o1:=[52,53,54,56,57,58,59,55,60,61,62,63,64]) zgy (by rw[zgz];exact zg8)
theorem zha:YB UT 64 Pz [39,40,41,43,44,45,46,42,47,48,49,50,51,52,53,54,56,57,58,59,55,60,61,62,63,64,65,66,67,69,70,71,72,68,73,74,75,76,77,78,79,80,82,83,84,85,81,86,87,88,89,90,91,92,93,95,96,97,98,94,99,100,101,102]=true:=YV (fuel:=51) (o1:=[39,40,41,43,44,45,46,42,47,48,49,50,51]) zgw (by rw[zgx];exact zg9)
theorem zhb:YB UT 77 Py [26,27,28,30,31,32,33,29,34,35,36,37,38,39,40,41,43,44,45,46,42,47,48,49,50,51,52,53,54,56,57,58,59,55,60,61,62,63,64,65,66,67,69,70,71,72,68,73,74,75,76,77,78,79,80,82,83,84,85,81,86,87,88,89,90,91,92,93,95,96,97,98,94,99,100,101,102]=true:=YV (fuel:=64) (o1:=[26,27,28,30,31,32,33,29,34,35,36,37,38]) zgu (by rw[zgv];exact zha)
theorem zhc:YB UT 90 Px [13,14,15,17,18,19,20,16,21,22,23,24,25,26,27,28,30,31,32,33,29,34,35,36,37,38,39,40,41,43,44,45,46,42,47,48,49,50,51,52,53,54,56,57,58,59,55,60,61,62,63,64,65,66,67,69,70,71,72,68,73,74,75,76,77,78,79,80,82,83,84,85,81,86,87,88,89,90,91,92,93,95,96,97,98,94,99,100,101,102]=true:=YV (fuel:=77) (o1:=[13,14,15,17,18,19,20,16,21,22,23,24,25]) zgs (by rw[zgt];exact zhb)
theorem zhd:YB UT 103 Kf [0,1,2,3,5,6,7,8,4,9,10,11,12,13,14,15,17,18,19,20,16,21,22,23,24,25,26,27,28,30,31,32,33,29,34,35,36,37,38,39,40,41,43,44,45,46,42,47,48,49,50,51,52,53,54,56,57,58,59,55,60,61,62,63,64,65,66,67,69,70,71,72,68,73,74,75,76,77,78,79,80,82,83,84,85,81,86,87,88,89,90,91,92,93,95,96,97,98,94,99,100,101,102]=true:=YV (fuel:=90) (o1:=[0,1,2,3,5,6,7,8,4,9,10,11,12]) zgq (by rw[zgr];exact zhc)
theorem zka:UT.size=103:=by kernel_rfl
theorem gx:Array.replicate 103 false=Kf:=by kernel_rfl
theorem gy:YN UT 103 Kf=[0,1,2,3,5,6,7,8,4,9,10,11,12,13,14,15,17,18,19,20,16,21,22,23,24,25,26,27,28,30,31,32,33,29,34,35,36,37,38,39,40,41,43,44,45,46,42,47,48,49,50,51,52,53,54,56,57,58,59,55,60,61,62,63,64,65,66,67,69,70,71,72,68,73,74,75,76,77,78,79,80,82,83,84,85,81,86,87,88,89,90,91,92,93,95,96,97,98,94,99,100,101,102]:=by kernel_rfl
theorem zhe:AU f19.ntmps UT.toList=true:=by kernel_rfl
theorem zhf:Region.noSelect UT=true:=by kernel_rfl
theorem zhg:Code.fits f19.ntmps (sub zcm [1,0])=true:=Ek (c:=sub zcm [1,0]) (by kernel_rfl) zhe zhf (ord:=[0,1,2,3,5,6,7,8,4,9,10,11,12,13,14,15,17,18,19,20,16,21,22,23,24,25,26,27,28,30,31,32,33,29,34,35,36,37,38,39,40,41,43,44,45,46,42,47,48,49,50,51,52,53,54,56,57,58,59,55,60,61,62,63,64,65,66,67,69,70,71,72,68,73,74,75,76,77,78,79,80,82,83,84,85,81,86,87,88,89,90,91,92,93,95,96,97,98,94,99,100,101,102]) (by show YN UT UT.size (Array.replicate UT.size false)=_;rw[zka,gx];exact gy) (by show YB UT UT.size (Array.replicate UT.size false) _=true;rw[zka,gx];exact zhd)
theorem gz:Code.fits f19.ntmps (Z1 f19)=true:=Dp (B:=Z1 f19) (by kernel_rfl) (by kernel_rfl) (Dp (B:=sub (Z1 f19) [1]) (by kernel_rfl) zhg (by kernel_rfl))
theorem gA (p0:V) (w:Y) (k:KV) (h:yz p0 w k):pFn Z 19 [p0] w k:=
 Zm mixed func19 (by kernel_rfl) (by kernel_rfl) rfl gz (by kernel_rfl) (by simp) ((Pw p0 w k).mpr h)
end Go.Proofs.YtcdcojpfealppaaGreat
