/- Put together by a program (wip/tools/shake.py): OwnW. -/
import Derived.Test.YtcdcojpfealppaaGreatY15
import Derived.Test.YtcdcojpfealppaaGreatY32
set_option linter.unusedVariables false
set_option linter.unusedSimpArgs false
set_option maxRecDepth 100000
open Go renaming World → Y, Value → V
namespace Go.Proofs.YtcdcojpfealppaaGreat
open Go Go.Proofs Go.RowKit Go.Proofs.XRed Go.Proofs.XHeap Go.Proofs.XMaps Go.Proofs.XSlices Go.Proofs.XDisk Go.Proofs.XCalls Go.Proofs.XSep Tryz
def P5:List Nat→List Yf→List Yf
 | [],l=>l
 |i::r,l=>match l[i]? with
  |some a=>P5 r (a::l.eraseIdx i)
  |none=>l
theorem BO {w:Y}:∀(is:List Nat) {l:List Yf},Sep l w→Sep (P5 is l) w
 | [],l,h=>h
 |i::r,l,h=>by
  unfold P5
  cases hi:l[i]? with
  |none=>exact h
  |some a=>exact BO r (h.front i hi)
theorem Dr {w:Y} {l:List Yf} (n:Nat) (h:Sep l w):Sep (l.take n) w:=by
 rw[←List.take_append_drop n l] at h
 obtain⟨O,I,h⟩:=h
 obtain⟨O1,I1,O2,I2,h1,-⟩:=h.split
 exact⟨O1,I1,h1⟩
theorem XV {w:Y} {l l':List Yf} (is:List Nat) (n:Nat) (h:Sep l w) (e:(P5 is l).take n=l'):Sep l' w:=e▸Dr n (BO is h)
theorem XN {w:Y} {l:List Yf} {te sz:Nat} (h:Sep l w):Sep (Zz te sz (.slice none 0 0) 0 []::l) w:=
 h.Ce (Fr.refl no _) (fun b hb=>hb.elim) ⟨by simp,.inl ⟨rfl,rfl⟩⟩ (fun b hb=>by cases hb)
theorem gD (S:AD) (n:ByteArray):∃rs,(S.read n 0 2).2.2= { S with reads:=rs}:=by
 unfold AD.read
 split
 ·exact⟨S.reads,rfl⟩
 ·split
  ·exact⟨S.reads,rfl⟩
  ·exact⟨_,rfl⟩
theorem zlu (S:AD) (rs:List QI) (n:ByteArray):(AD.read { S with reads:=rs} n 0 2).2.1=(S.read n 0 2).2.1:=by
 show (if S.look n≠0 then ((S.look n,[],{ S with reads:=rs}):Int×Bytes×AD) else if (0:Int)<0∨(2:Int)<0∨(0:Int)>(S.bytes n).length∨(2:Int)>(S.bytes n).length-(0:Int) then (54,[],{ S with reads:=rs}) else (0,((S.bytes n).drop (0:Int).toNat).take (2:Int).toNat,{ S with reads:=rs++[⟨n,0,2⟩]})).2.1=_
 unfold AD.read
 split
 ·rfl
 ·split<;>rfl
theorem gE (S:AD) (n:ByteArray):((S.read n 0 2).2.2.read n 0 2).2.1=(S.read n 0 2).2.1:=by
 obtain⟨rs,er⟩:=gD S n
 rw[er];exact zlu S rs n
theorem JE (S:AD) (n:ByteArray):(S.read n 0 2).2.1.length≤2:=by
 unfold AD.read
 split
 ·exact Nat.zero_le _
 ·split
  ·exact Nat.zero_le _
  ·show (List.take 2 _).length≤2
   rw[List.length_take];exact Nat.min_le_left _ _
theorem UW (S:AD) (n:ByteArray):(S.read n 0 2).2.2.files=S.files∧(S.read n 0 2).2.2.Yq=S.Yq∧AD.Y2 (S.read n 0 2).2.2 noB=AD.Y2 S noB:=by
 obtain⟨rs,er⟩:=gD S n
 rw[er];exact⟨rfl,rfl,rfl⟩
theorem Kj (x y:ZZ):ZZ.plain (x++y)=x.plain++y.plain:=by unfold ZZ.plain;rw[List.map_append]
section
variable {W w:Y} {k:KV} {s:VJ} {sv:V} {Pb K Bk:Nat}
theorem y4 {kk:V→KV} {d:V} {bs:Bytes} (hd:Z5 w d bs) (hb:bs.length≤1099511627776) (hk:∀a v w',w'.ownsRow 0 5 1 v bs.length (u8s bs)→(∀b,Zv v=some b→w.heap.size≤b)→Fr no w w'→kk a v w'):
   px P (Instr.buildSlice 36 0 #[]) w fun a w=>px P (bSem .append #[36,36] 36 #[a,d]) w (kk a):=by
 refine Jh ?_
 have f1:=Fr.alloc no w (.cells #[] 5)
 have ho:=ZQ w w.heap.size 5 1 #[] 0 (Nat.le_refl _) (by unfold maxLen;omega) rfl
 have z1:(w.alloc (.cells #[] 5)).heap.size=w.heap.size+1:=by simp
 show px P _ (w.alloc (.cells #[] 5)) _
 generalize w.alloc (.cells #[] 5)=w1 at *
 refine Te ho (hd.fr f1 fun _ _=>id) Vl (by omega) (by omega) fun v' w2 h2 f2 hb2=> ?_
 rw[Nat.zero_add] at h2
 have f02:Fr no w w2:=(f1.or f2).mono (by
   rintro b (hb'|hb')
   · exact .inl hb'
   · injection hb' with hb';have hb'':b=w.heap.size:=hb';exact .inr (by omega))
 exact hk _ v' w2 (Xo h2 (Nat.zero_le _)) (fun b hb=>(Zu h2 hb).1) f02
abbrev zcn (Pb D E K:Nat) (u:Y):Prop:=u.heap[Pb]? =some (.cells #[ptr D,ptr E,ptr K] 33 (0,0))
def zkb (W:Y) (s:VJ) (sv:V) (Pb K Bk:Nat) (m:Nat) (ρ:Env) (w:Y):Prop:=
 ∃(i:Nat) (S:AD) (lv wv:V) (zs ws:ZZ),i+m=s.length∧i≤40∧E6 W (Yj Bk (1100*i) 0::Vw lv wv zs ws) Pb K S (3*i) w∧ws.plain=zs.plain∧zs.length≤600∧(∀p∈zs,p.1.2.length≤1048576)∧
  ρ 1=sv∧ρ 5=ptr Pb∧ρ 7=ptr Bk∧ρ 8=lv∧ρ 9=wv∧ρ 10=i64 i
theorem gG {l:List Yf} {S:AD} {c N:Nat} (hk:∀w',Fr no W w'→k (.bool true) w') {ρ:Env} (hN:N≤1000000) (e5:ρ 5=ptr Pb) (e7:ρ 7=ptr Bk) (hB:E6 W (Yj Bk N 1::l) Pb K S c w):TJ k ρ w:=by
 unfold TJ
 rw[e5,e7]
 obtain⟨⟨D,E,bv,pv,bb,pp,hS,hbb⟩,ok⟩:=hB
 refine SN (hS.front 5 rfl) (by omega) (by omega) fun w1 hS=> ?_
 refine HK hS (by omega) (by omega) fun w2 q2=>Zl rfl (Zl rfl ?_)
 have hS1:Sep (VL Pb D E K S bv pv bb pp (Xk W::Yj Bk N (1+1)::l)) w2:=(hS.q q2).E5 5
 refine A6 ⟨⟨D,E,bv,pv,bb,pp,hS1,hbb⟩,ok⟩ fun w3 hB=>Zx (Zl rfl (G0 Xj fun w4 f4=>Zx (hk w4 (hB.fr.trans f4 fun b hb=>hb.elim))))
theorem gH {S:AD} {c N:Nat} {lv wv:V} {zs ws:ZZ} (hk:∀w',Fr no W w'→k (.bool true) w') {ρ:Env} (hN:N≤900000) (hzl:zs.length≤600) (hzd:∀p∈zs,p.1.2.length≤1048576) (e5:ρ 5=ptr Pb) (e7:ρ 7=ptr Bk) (e8:ρ 8=lv) (e29:ρ 29=i64 0) (hB:E6 W (Yj Bk N 1::Vw lv wv zs ws) Pb K S c w):TF k ρ w:=by
 refine EH (m:=zs.length) k (fun m ρ w=>∃j:Nat,j+m=zs.length∧E6 W (Yj Bk (N+j) 1::Zz 83 2 lv zs.length (Zo zs)::Bag (ZM (zs.drop j))::[]) Pb K S c w∧ρ 5=ptr Pb∧ρ 7=ptr Bk∧ρ 8=lv∧ρ 29=i64 j) ?_ ⟨0,by omega,?_,e5,e7,e8,e29⟩
 ·rintro m ρ w ⟨j,hjm,hB,e5,e7,e8,e29⟩
  rw[Ms]
  unfold vA
  rw[e7,e8,e29]
  obtain⟨⟨D,E,bv,pv,bb,pp,hS,hbb⟩,ok⟩:=hB
  refine ZF X7 (Src.Zt (hS.own 6 rfl)) ?_
  by_cases hj:j<zs.length
  ·refine ZA (by omega) (Zk ?_)
   obtain⟨c0,c1⟩:=Uh hj
   obtain⟨b,o,c,ev,hcell⟩:=(Src.Zt (hS.own 6 rfl)).place hj (by decide)
   refine X3 ev X7 (Uv _) hj (JI (Xl (v:=zs[j].2) (isAgg36 _) (hcell 1 _ (by decide) c1) ?_))
   have e:ZM (zs.drop j)=Zz 5 1 zs[j].2 zs[j].1.2.length (u8s zs[j].1.2)::ZM (zs.drop (j+1)):=by unfold ZM;rw[List.drop_eq_getElem_cons hj,List.map_cons]
   rw[e] at hS
   have h2:Sep (Zz 5 1 zs[j].2 zs[j].1.2.length (u8s zs[j].1.2)::Bag (ZM (zs.drop (j+1)))::VL Pb D E K S bv pv bb pp (Xk W::Yj Bk (N+j) 1::Zz 83 2 lv zs.length (Zo zs)::[])) w:=(hS.front 7 rfl).pick (i:=0) rfl
   have h3:Sep (Yj Bk (N+j) 1::Zz 5 1 zs[j].2 zs[j].1.2.length (u8s zs[j].1.2)::VL Pb D E K S bv pv bb pp (Xk W::Zz 83 2 lv zs.length (Zo zs)::Bag (ZM (zs.drop (j+1)))::[])) w:=XV [1,8,7,7,7,7,7,7,8] 9 h2 (by kernel_rfl)
   have hdj:=hzd _ (List.getElem_mem hj)
   refine b_R h3 (by omega) (by omega) fun w2 hS2=>Zp (by omega) ⟨m-1,by omega,j+1,by omega,⟨⟨D,E,bv,pv,bb,pp,hS2.E5 5,hbb⟩,ok⟩,e5,e7,e8,?_⟩
   show i64 _=i64 _;simp
  ·refine ZB (by omega) (Zf ?_)
   rw[Mt]
   exact gG hk (by omega) e5 e7 ⟨⟨D,E,bv,pv,bb,pp,hS,hbb⟩,ok⟩
 ·obtain⟨⟨D,E,bv,pv,bb,pp,hS,hbb⟩,ok⟩:=hB
  exact⟨⟨D,E,bv,pv,bb,pp,Dr 8 hS,hbb⟩,ok⟩
theorem SV {S:AD} {c N:Nat} {lv wv:V} {zs ws:ZZ} (hk:∀w',Fr no W w'→k (.bool true) w') {ρ:Env} (hN:N≤900000) (hpl:ws.plain=zs.plain) (hzl:zs.length≤600) (hzd:∀p∈zs,p.1.2.length≤1048576) (e5:ρ 5=ptr Pb) (e7:ρ 7=ptr Bk) (e8:ρ 8=lv) (e9:ρ 9=wv) (hB:E6 W (Yj Bk N 0::Vw lv wv zs ws) Pb K S c w):TH k ρ w:=by
 unfold TH
 rw[e5,e7,e8,e9]
 obtain⟨⟨D,E,bv,pv,bb,pp,hS,hbb⟩,ok⟩:=hB
 refine SN (hS.front 5 rfl) (by omega) (by omega) fun w1 hS=> ?_
 have hS1:Sep (VL Pb D E K S bv pv bb pp (Xk W::Yj Bk N 1::Vw lv wv zs ws)) w1:=hS.E5 5
 refine VO (Qy hS1 6 7 rfl rfl) (Qy hS1 8 9 rfl rfl) (by unfold ZZ.plain;rw[List.length_map];omega) (fun f hf=> ?_) fun w2 q2=> ?_
 ·obtain⟨p,hp,rfl⟩:=List.mem_map.1 hf
  have:=hzd p hp;omega
 rw[decide_eq_true hpl.symm]
 refine YP (Zl rfl (Zl rfl ?_))
 refine A6 ⟨⟨D,E,bv,pv,bb,pp,hS1.q q2,hbb⟩,ok⟩ fun w3 hB=> ?_
 refine Zl rfl (YP (Zr (Zf ?_)))
 exact gH hk hN hzl hzd e5 e7 e8 rfl hB
set_option maxHeartbeats 4000000 in
theorem gI {m:Nat} (hv:XP W sv s) (hl:s.length≤300) (hbd:∀p∈s,p.1.data.length≤100000∧p.1.picks.length≤12500) (hk:∀w',Fr no W w'→k (.bool true) w')
   {ρ:Env} (h:zkb W s sv Pb K Bk m ρ w):TD k ρ w:=by
 refine EF (m:=m) k (zkb W s sv Pb K Bk) ?_ h
 clear h
 rintro m ρ w ⟨i,S,lv,wv,zs,ws,him,hi40,hB,hpl,hzl,hzd,e1,e5,e7,e8,e9,e10⟩
 rw[Mp]
 unfold vy
 have hvw:=hv.fr hB.fr
 rw[e1,e5,e7,e8,e10]
 refine ZF El hvw.src ?_
 by_cases hi:i<s.length
 rotate_left
 · refine ZB     (by omega) ?_
   repeat (first|refine V9 ?_|refine YF ?_)
   refine Zr (Zf ?_)
   rw[CO]
   exact SV hk (by omega) hpl hzl hzd e5 e7 e8 e9 hB
 refine ZA (by omega) (Zl rfl (Zl rfl ?_))
 by_cases h40:i<40
 rotate_left
 · refine ZB     (by omega) (Zx       (Zf       ?_))
   rw[CO]
   exact SV hk (by omega) hpl hzl hzd e5 e7 e8 e9 hB
 refine ZA (by omega) (Zx (Zk ?_))
 refine gu hvw hi fun p=> ?_
 have hm:=List.getElem_mem hi
 have hx:=hv.all _ hm
 have hname:=YT hx.name
 have hws:ws.length≤600:=by have:=congrArg List.length hpl;unfold ZZ.plain at this;simp only[List.length_map] at this;omega
 obtain⟨⟨D,E,bv,pv,bb,pp,hS,hbb⟩,ok⟩:=hB
 refine Y9 (zeroValue41 _) ?_
 rw[show Value.cells (.agg #[i64 0,.string noB,.string noB,i64 0,i64 0,.slice none 0 0,i64 0,i64 0,i64 0,.slice none 0 0])= #[i64 0,.string noB,.string noB,i64 0,i64 0,.slice none 0 0,i64 0,i64 0,i64 0,.slice none 0 0] from rfl]
 have f1:=Fr.alloc no w (.cells #[i64 0,.string noB,.string noB,i64 0,i64 0,.slice none 0 0,i64 0,i64 0,i64 0,.slice none 0 0] 41)
 have b1:=Z2 w (.cells #[i64 0,.string noB,.string noB,i64 0,i64 0,.slice none 0 0,i64 0,i64 0,i64 0,.slice none 0 0] 41)
 obtain⟨xb,hxb⟩:∃xb,xb=w.heap.size:=⟨_,rfl⟩
 rw[←hxb] at b1 ⊢
 generalize w.alloc (.cells #[i64 0,.string noB,.string noB,i64 0,i64 0,.slice none 0 0,i64 0,i64 0,i64 0,.slice none 0 0] 41)=w1 at *
 refine Va (n:=10) (vs:=ZC s[i].1 s[i].2.1 s[i].2.2) (sizeOf41 _) rfl ?_ b1 (by show 0+10≤10;decide) fun w2 h2 f2 z2=> ?_
 · obtain ⟨A1,c1,ed,-⟩ := hx.data.form
   obtain⟨A2,c2,ep,-⟩:=hx.picks
   intro u hu
   simp[ZC] at hu
   rcases hu with rfl|rfl|rfl|rfl|rfl|rfl|rfl|rfl|rfl|rfl<;>first|rfl|(rw[ed];rfl)|(rw[ep];rfl)
 have bX:w2.heap[xb]? =some (.cells (ZC s[i].1 s[i].2.1 s[i].2.2).toArray 41 (0,0)):=h2
 have hS1:Sep (Cells xb (ZC s[i].1 s[i].2.1 s[i].2.2).toArray 41::VL Pb D E K S bv pv bb pp (Xk W::Yj Bk (1100*i) 0::Vw lv wv zs ws)) w2:=
   hS.new (O':=fun x=>x=xb) (I':=fun _=>False) (f1.or f2) (by rintro b (hb|hb);exact hb.elim;omega) ⟨bX,fun _=>Iff.rfl,fun _ h=>h⟩ (fun b hb=>by omega) fun b hb=>hb.elim
 refine Z9 (JA (x:=s[i].1) (dv:=s[i].2.1) (pv:=s[i].2.2) fun j u hj=>U6 bX (by rw[Nat.zero_add];simpa using hj)) ?_
 refine gB (l:=Cells xb (ZC s[i].1 s[i].2.1 s[i].2.2).toArray 41::Yj Bk (1100*i) 0::Vw lv wv zs ws) ⟨⟨D,E,bv,pv,bb,pp,hS1.E5 5,hbb⟩,ok⟩ (by omega) hv hi hbd fun w3 hB3=> ?_
 clear hS hS1 h2 bX f1 b1 f2 z2 hbb ok
 obtain⟨⟨D,E,bv,pv,bb,pp,hS,hbb⟩,ok⟩:=hB3
 generalize (S.Y7 s[i].1).2=T at *
 have ok1:=ok.read (by omega) s[i].1.name 0 2
 have ok2:=ok1.read (by omega) s[i].1.name 0 2
 have eF:((T.read s[i].1.name 0 2).2.2.read s[i].1.name 0 2).2.2.files=T.files:=(UW _ _).1.trans (UW _ _).1
 have eSf:((T.read s[i].1.name 0 2).2.2.read s[i].1.name 0 2).2.2.Yq=T.Yq:=(UW _ _).2.1.trans (UW _ _).2.1
 have eL:AD.Y2 T noB=AD.Y2 ((T.read s[i].1.name 0 2).2.2.read s[i].1.name 0 2).2.2 noB:=((UW _ _).2.2.trans (UW _ _).2.2).symm
 refine YP (Zf ?_)
 replace hS:=hS.q (Fr.drew _ _)
 refine⟨zcn Pb D E K,hS.cells 0 rfl,?_⟩
 refine Zi _ (fun w_ hS=>Zn ⟨rfl,rfl⟩) (Zi _ (fun w_ hS=>Yr ⟨rfl,rfl⟩) (Zi (ptr D) (fun w_ hS=>Zj (isAgg29 _) hS rfl ⟨rfl,rfl⟩) ?_))
 refine Zi _ (fun w_ hS=>Zn ⟨rfl,rfl⟩) (Zi _ (fun w_ hS=>Yr ⟨rfl,rfl⟩) (Zi (ptr D) (fun w_ hS=>Zj (isAgg29 _) hS rfl ⟨rfl,rfl⟩) ?_))
 refine C7 hS 1 rfl ok fun v11 f1 zf1 ef1 hS=>⟨hS.cells 2 rfl,?_⟩
 refine C7 hS 3 rfl ok fun v12 f2 zf2 ef2 hS=>⟨hS.cells 4 rfl,?_⟩
 replace hS:=hS.q (Fr.drew _ _)
 refine⟨zcn Pb D E K,hS.cells 4 rfl,?_⟩
 refine Zi _ (fun w_ hS=>Zn ⟨rfl,rfl⟩) (Zi _ (fun w_ hS=>Yr ⟨rfl,rfl⟩) (Zi (ptr D) (fun w_ hS=>Zj (isAgg29 _) hS rfl ⟨rfl,rfl⟩) ?_))
 refine Zi _ (fun w_ hS=>Zn ⟨rfl,rfl⟩) (Zi _ (fun w_ hS=>Yr ⟨rfl,rfl⟩) (Zi (ptr D) (fun w_ hS=>Zj (isAgg29 _) hS rfl ⟨rfl,rfl⟩) ?_))
 refine SP hS 5 rfl ok fun v13 s1 zs1 es1 hS=>⟨hS.cells 6 rfl,?_⟩
 refine SP hS 7 rfl ok fun v14 s2 zs2 es2 hS=>⟨hS.cells 8 rfl,?_⟩
 replace hS:=hS.q (Fr.drew _ _)
 refine⟨zcn Pb D E K,hS.cells 8 rfl,?_⟩
 refine Zi _ (fun w_ hS=>Zn ⟨rfl,rfl⟩) (Zi _ (fun w_ hS=>Yr ⟨rfl,rfl⟩) (Zi (ptr D) (fun w_ hS=>Zj (isAgg29 _) hS rfl ⟨rfl,rfl⟩) ?_))
 refine Zi _ (fun w_ hS=>Zn ⟨rfl,rfl⟩) (Zi _ (fun w_ hS=>Yr ⟨rfl,rfl⟩) (Zi (ptr D) (fun w_ hS=>Zj (isAgg29 _) hS rfl ⟨rfl,rfl⟩) ?_))
 refine SQ hS 9 rfl ok fun v15 t1 hS=>⟨hS.cells 9 rfl,?_⟩
 refine SQ hS 10 rfl ok fun v16 t2 hS=>⟨hS.cells 10 rfl,?_⟩
 replace hS:=hS.q (Fr.drew _ _)
 refine⟨zcn Pb D E K,hS.cells 10 rfl,?_⟩
 refine Zi _ (fun w_ hS=>Zn ⟨rfl,rfl⟩) (Zi _ (fun w_ hS=>Yr ⟨rfl,rfl⟩) (Zi (ptr D) (fun w_ hS=>Zj (isAgg29 _) hS rfl ⟨rfl,rfl⟩) ?_))
 refine Zi _ (fun w_ hS=>Zn ⟨rfl,rfl⟩) (Zi _ (fun w_ hS=>Yr ⟨rfl,rfl⟩) (Zi (ptr D) (fun w_ hS=>Zj (isAgg29 _) hS rfl ⟨rfl,rfl⟩) ?_))
 refine Kh hS 11 rfl ok fun v17 r1 hS=>⟨hS.cells 11 rfl,?_⟩
 refine Kh hS 12 rfl ok fun v18 r2 hS=>⟨hS.cells 12 rfl,?_⟩
 replace hS:=hS.q (Fr.drew _ _)
 refine⟨Seen xb s[i].1 s[i].2.1 s[i].2.2 Pb D E K,⟨hS.cells 17 rfl,hS.cells 12 rfl⟩,?_⟩
 refine Zi _ (fun w_ hS=>Zn ⟨rfl,rfl⟩) (Zi _ (fun w_ hS=>Yr ⟨rfl,rfl⟩) (Zi (ptr D) (fun w_ hS=>Zj (isAgg29 _) hS.2 rfl ⟨rfl,rfl⟩) ?_))
 refine Zi _ (fun w_ hS=>YM ⟨rfl,rfl⟩) (Zi (.string s[i].1.name) (fun w_ hS=>Zj (isAgg9 _) hS.1 rfl ⟨rfl,rfl⟩) ?_)
 refine SR hS 13 rfl ok s[i].1.name hname fun v19 one hS=>⟨⟨hS.cells 18 rfl,hS.cells 13 rfl⟩,Zi _ (fun w_ hS=>ZG rfl ⟨rfl,rfl⟩) (Zi _ (fun w_ hS=>ZG rfl ⟨rfl,rfl⟩) ?_)⟩
 replace hS:=hS.q (Fr.drew _ _)
 refine⟨Seen xb s[i].1 s[i].2.1 s[i].2.2 Pb D E K,⟨hS.cells 18 rfl,hS.cells 13 rfl⟩,?_⟩
 refine Zi _ (fun w_ hS=>Zn ⟨rfl,rfl⟩) (Zi _ (fun w_ hS=>Yr ⟨rfl,rfl⟩) (Zi (ptr D) (fun w_ hS=>Zj (isAgg29 _) hS.2 rfl ⟨rfl,rfl⟩) ?_))
 refine Zi _ (fun w_ hS=>YM ⟨rfl,rfl⟩) (Zi (.string s[i].1.name) (fun w_ hS=>Zj (isAgg9 _) hS.1 rfl ⟨rfl,rfl⟩) ?_)
 refine SR hS 14 rfl ok1 s[i].1.name hname fun v20 two hS=>⟨⟨hS.cells 19 rfl,hS.cells 14 rfl⟩,Zi _ (fun w_ hS=>ZG rfl ⟨rfl,rfl⟩) (Zi _ (fun w_ hS=>ZG rfl ⟨rfl,rfl⟩) ?_)⟩
 refine Zn (YL (Zj (v:=ptr E) (isAgg30 _) (hS.cells 14 rfl) rfl ?_))
 refine P4 hS 16 rfl ok fun v21 told hS=> ?_
 replace hS:=hS.q (Fr.drew _ _)
 refine⟨Seen xb s[i].1 s[i].2.1 s[i].2.2 Pb D E K,⟨hS.cells 20 rfl,hS.cells 15 rfl⟩,?_⟩
 refine Zi _ (fun w_ hS=>Zn ⟨rfl,rfl⟩) (Zi _ (fun w_ hS=>YL ⟨rfl,rfl⟩) (Zi (ptr E) (fun w_ hS=>Zj (isAgg30 _) hS.2 rfl ⟨rfl,rfl⟩) ?_))
 refine Zi _ (fun w_ hS=>YM ⟨rfl,rfl⟩) (Zi (.string s[i].1.name) (fun w_ hS=>Zj (isAgg9 _) hS.1 rfl ⟨rfl,rfl⟩) ?_)
 refine Ki hS 17 rfl ok s[i].1.name fun v22 doc hS=>⟨⟨hS.cells 21 rfl,hS.cells 16 rfl⟩,Zi _ (fun w_ hS=>ZG rfl ⟨rfl,rfl⟩) (Zi _ (fun w_ hS=>ZG rfl ⟨rfl,rfl⟩) ?_)⟩
 replace hS:=hS.q (Fr.drew _ _)
 refine⟨Seen xb s[i].1 s[i].2.1 s[i].2.2 Pb D E K,⟨hS.cells 21 rfl,hS.cells 16 rfl⟩,?_⟩
 refine Zi _ (fun w_ hS=>Zn ⟨rfl,rfl⟩) (Zi _ (fun w_ hS=>YL ⟨rfl,rfl⟩) (Zi (ptr E) (fun w_ hS=>Zj (isAgg30 _) hS.2 rfl ⟨rfl,rfl⟩) ?_))
 refine Zi _ (fun w_ hS=>YM ⟨rfl,rfl⟩) (Zi (.string s[i].1.name) (fun w_ hS=>Zj (isAgg9 _) hS.1 rfl ⟨rfl,rfl⟩) ?_)
 refine Ki hS 18 rfl ok1 s[i].1.name fun w20 doc2 hS=> ?_
 replace hS:Sep (Xw doc2 ((T.read s[i].1.name 0 2).2.2.read s[i].1.name 0 2).2.1::Xw doc (T.read s[i].1.name 0 2).2.1::SU 3 told T.reads.length (T.reads.flatMap Z3)::Zz 5 1 two ((T.read s[i].1.name 0 2).2.2.read s[i].1.name 0 2).2.1.length (u8s ((T.read s[i].1.name 0 2).2.2.read s[i].1.name 0 2).2.1)::Zz 5 1 one (T.read s[i].1.name 0 2).2.1.length (u8s (T.read s[i].1.name 0 2).2.1)::Zz 134 3 r2 T.reads.length (T.reads.flatMap Z3)::Zz 134 3 r1 T.reads.length (T.reads.flatMap Z3)::Zz 9 1 t2 (AD.Y2 T noB).length ((AD.Y2 T noB).map .string)::Zz 9 1 t1 (AD.Y2 T noB).length ((AD.Y2 T noB).map .string)::Zz 83 2 s2 zs2.length (Zo zs2)::Bag (ZM zs2)::Zz 83 2 s1 zs1.length (Zo zs1)::Bag (ZM zs1)::Zz 83 2 f2 zf2.length (Zo zf2)::Bag (ZM zf2)::Zz 83 2 f1 zf1.length (Zo zf1)::Bag (ZM zf1)::Cells Pb #[ptr D,ptr E,ptr K] 33::Dk D ((T.read s[i].1.name 0 2).2.2.read s[i].1.name 0 2).2.2::Rk E ((T.read s[i].1.name 0 2).2.2.read s[i].1.name 0 2).2.2::X5 K bv pv bb pp::Xk W::Cells xb (ZC s[i].1 s[i].2.1 s[i].2.2).toArray 41::Yj Bk (1100*i) 0::Zz 83 2 lv zs.length (Zo zs)::Bag (ZM zs)::Zz 83 2 wv ws.length (Zo ws)::Bag (ZM ws)::[]) w20:=hS
 obtain⟨Od,Id,hdoc,-⟩:=hS.get 1 rfl
 refine JS (Src.Zt (hS.own 4 rfl)) hdoc (by have:=JE T s[i].1.name;omega) fun w21 q21=> ?_
 rw[decide_eq_true (rfl:(T.read s[i].1.name 0 2).2.1=(T.read s[i].1.name 0 2).2.1)]
 replace hS:=hS.q q21
 refine YP (Zl rfl (Zl rfl (Zl rfl ?_)))
 obtain⟨Od,Id,hdoc,-⟩:=hS.get 1 rfl
 refine JS (Src.Zt (hS.own 3 rfl)) hdoc (by have:=JE (T.read s[i].1.name 0 2).2.2 s[i].1.name;omega) fun w22 q22=> ?_
 rw[decide_eq_true (gE T s[i].1.name)]
 replace hS:=hS.q q22
 refine Zl rfl (YP (Zr (Zf ?_)))
 refine ZF X7 (Src.Zt (hS.own 24 rfl)) ?_
 by_cases h300:zs.length<300
 · refine ZA     (by omega) (Zk      ?_)
   refine Zn (Yr (Zj (v:=ptr D) (isAgg29 _) (hS.cells 17 rfl) rfl ?_))
   refine C7 hS 18 rfl ok2 fun w23 lF zF ezF hS=> ?_
   have hS7:Sep (Vw lv wv zs ws++(Zz 83 2 lF zF.length (Zo zF)::Bag (ZM zF)::(Xw doc2 ((T.read s[i].1.name 0 2).2.2.read s[i].1.name 0 2).2.1::Xw doc (T.read s[i].1.name 0 2).2.1::SU 3 told T.reads.length (T.reads.flatMap Z3)::Zz 5 1 two ((T.read s[i].1.name 0 2).2.2.read s[i].1.name 0 2).2.1.length (u8s ((T.read s[i].1.name 0 2).2.2.read s[i].1.name 0 2).2.1)::Zz 5 1 one (T.read s[i].1.name 0 2).2.1.length (u8s (T.read s[i].1.name 0 2).2.1)::Zz 134 3 r2 T.reads.length (T.reads.flatMap Z3)::Zz 134 3 r1 T.reads.length (T.reads.flatMap Z3)::Zz 9 1 t2 (AD.Y2 T noB).length ((AD.Y2 T noB).map .string)::Zz 9 1 t1 (AD.Y2 T noB).length ((AD.Y2 T noB).map .string)::Zz 83 2 s2 zs2.length (Zo zs2)::Bag (ZM zs2)::Zz 83 2 s1 zs1.length (Zo zs1)::Bag (ZM zs1)::Zz 83 2 f2 zf2.length (Zo zf2)::Bag (ZM zf2)::Zz 83 2 f1 zf1.length (Zo zf1)::Bag (ZM zf1)::Cells Pb #[ptr D,ptr E,ptr K] 33::Dk D ((T.read s[i].1.name 0 2).2.2.read s[i].1.name 0 2).2.2::Rk E ((T.read s[i].1.name 0 2).2.2.read s[i].1.name 0 2).2.2::X5 K bv pv bb pp::Xk W::Cells xb (ZC s[i].1 s[i].2.1 s[i].2.2).toArray 41::Yj Bk (1100*i) 0::[]))) w23:=XV [25,25,25,25,25,25,25,25,25,25,25,25,25,25,25,25,25,25,25,25,25,25,25,25,25,25,29,29,29,29] 30 hS (by kernel_rfl)
   have hFl:zF.length≤256:=by rw[show zF.length=(((T.read s[i].1.name 0 2).2.2.read s[i].1.name 0 2).2.2).files.length from by rw[←ezF];unfold ZZ.plain;simp];exact QU ok2
   have hFd:∀p∈zF,p.1.2.length≤1048576:=fun p hp=>UU ok2 p.1 (by rw[←ezF];exact List.mem_map.2 ⟨p,hp,rfl⟩)
   refine gC hS7 (by omega) (by omega) hFl hFd e8 e9 rfl rfl fun ρ' w24 lv' wv' ws' hS8 hpl8 a8 a9 hρ=> ?_
   have r5:ρ' 5=ptr Pb:=(hρ 5 (by omega) (by omega) (by omega)).trans e5
   have r7:ρ' 7=ptr Bk:=(hρ 7 (by omega) (by omega) (by omega)).trans e7
   have r10:ρ' 10=i64 i:=(hρ 10 (by omega) (by omega) (by omega)).trans e10
   have r12:ρ' 12=f1:=hρ 12 (by omega) (by omega) (by omega)
   have r13:ρ' 13=f2:=hρ 13 (by omega) (by omega) (by omega)
   have r14:ρ' 14=s1:=hρ 14 (by omega) (by omega) (by omega)
   have r15:ρ' 15=s2:=hρ 15 (by omega) (by omega) (by omega)
   have r16:ρ' 16=t1:=hρ 16 (by omega) (by omega) (by omega)
   have r17:ρ' 17=t2:=hρ 17 (by omega) (by omega) (by omega)
   have r18:ρ' 18=r1:=hρ 18 (by omega) (by omega) (by omega)
   have r19:ρ' 19=r2:=hρ 19 (by omega) (by omega) (by omega)
   have r20:ρ' 20=one:=hρ 20 (by omega) (by omega) (by omega)
   have r22:ρ' 22=two:=hρ 22 (by omega) (by omega) (by omega)
   have r24:ρ' 24=told:=hρ 24 (by omega) (by omega) (by omega)
   unfold TI
   rw[a8,a9,r5,r7,r10,r12,r13,r14,r15,r16,r17,r18,r19,r20,r22,r24]
   have hz9:(zs++zF).length≤600:=by rw[List.length_append];omega
   have hw9:ws'.length≤900:=by have:=congrArg List.length hpl8;unfold ZZ.plain at this;simp only[List.length_append,List.length_map] at this;omega
   obtain⟨A2,c2,ev2,-⟩:∃A c,two= .slice A ((T.read s[i].1.name 0 2).2.2.read s[i].1.name 0 2).2.1.length c∧((T.read s[i].1.name 0 2).2.2.read s[i].1.name 0 2).2.1.length≤c:=by obtain⟨A,c,e,h,_⟩:=Src.Zt (hS8.own 7 rfl);exact⟨A,c,e,h⟩
   refine Z9 (w':=w24) (v:= .agg #[.string noB,two]) (by rw[ev2];kernel_rfl) ?_
   refine AA hS8 (ix:=0) rfl (by omega) rfl (by rw[ev2];rfl) fun u1 lv2 w25 hS9=> ?_
   refine y4 (Src.Zt (hS9.own 8 rfl)) (by have:=JE T s[i].1.name;omega) fun a1 cp w26 hoc hbc fc=> ?_
   have hS10:=hS9.Ce fc (fun b hb=>hb.elim) hoc hbc
   obtain⟨A3,c3,ev3,-⟩:∃A c,cp= .slice A (T.read s[i].1.name 0 2).2.1.length c∧(T.read s[i].1.name 0 2).2.1.length≤c:=by obtain⟨A,c,e,h,_⟩:=Src.Zt hoc;exact⟨A,c,e,h⟩
   refine Z9 (w':=w26) (v:= .agg #[.string noB,cp]) (by rw[ev3];kernel_rfl) ?_
   refine AA hS10 (ix:=3) rfl (by omega) rfl (by rw[ev3];rfl) fun u2 wv2 w27 hS11=> ?_
   have h12:Sep (Zz 83 2 lv2 ((zs++zF).length+1) (Zo (zs++zF)++[.string noB,two])::Bag (ZM (zs++zF))::Zz 5 1 two ((T.read s[i].1.name 0 2).2.2.read s[i].1.name 0 2).2.1.length (u8s ((T.read s[i].1.name 0 2).2.2.read s[i].1.name 0 2).2.1)::Zz 5 1 cp (T.read s[i].1.name 0 2).2.1.length (u8s (T.read s[i].1.name 0 2).2.1)::Zz 83 2 wv2 (ws'.length+1) (Zo ws'++[.string noB,cp])::Bag (ZM ws')::Xw doc2 ((T.read s[i].1.name 0 2).2.2.read s[i].1.name 0 2).2.1::Xw doc (T.read s[i].1.name 0 2).2.1::SU 3 told T.reads.length (T.reads.flatMap Z3)::Zz 5 1 one (T.read s[i].1.name 0 2).2.1.length (u8s (T.read s[i].1.name 0 2).2.1)::Zz 134 3 r2 T.reads.length (T.reads.flatMap Z3)::Zz 134 3 r1 T.reads.length (T.reads.flatMap Z3)::Zz 9 1 t2 (AD.Y2 T noB).length ((AD.Y2 T noB).map .string)::Zz 9 1 t1 (AD.Y2 T noB).length ((AD.Y2 T noB).map .string)::Zz 83 2 s2 zs2.length (Zo zs2)::Bag (ZM zs2)::Zz 83 2 s1 zs1.length (Zo zs1)::Bag (ZM zs1)::Zz 83 2 f2 zf2.length (Zo zf2)::Bag (ZM zf2)::Zz 83 2 f1 zf1.length (Zo zf1)::Bag (ZM zf1)::Cells Pb #[ptr D,ptr E,ptr K] 33::Dk D ((T.read s[i].1.name 0 2).2.2.read s[i].1.name 0 2).2.2::Rk E ((T.read s[i].1.name 0 2).2.2.read s[i].1.name 0 2).2.2::X5 K bv pv bb pp::Xk W::Cells xb (ZC s[i].1 s[i].2.1 s[i].2.2).toArray 41::Yj Bk (1100*i) 0::[]) w27:=XV [28,28,28,28,28,28,28,28,28,28,28,28,28,28,28,28,28,28,28,28,27,27,27,27,27,25,28,28,28] 29 hS11 (by kernel_rfl)
   have h13:=UA (lv:=lv) (wv:=wv) (zs:=zs) (w':=w27) h12
   have h14:Sep (Zz 83 2 wv2 (ws'.length+1) (Zo ws'++[.string noB,cp])::Bag (ZM ws')::Zz 5 1 cp (T.read s[i].1.name 0 2).2.1.length (u8s (T.read s[i].1.name 0 2).2.1)::Zz 83 2 lv2 (zs++zF++[((noB,((T.read s[i].1.name 0 2).2.2.read s[i].1.name 0 2).2.1),two)]).length (Zo (zs++zF++[((noB,((T.read s[i].1.name 0 2).2.2.read s[i].1.name 0 2).2.1),two)]))::Bag (ZM (zs++zF++[((noB,((T.read s[i].1.name 0 2).2.2.read s[i].1.name 0 2).2.1),two)]))::Xw doc2 ((T.read s[i].1.name 0 2).2.2.read s[i].1.name 0 2).2.1::Xw doc (T.read s[i].1.name 0 2).2.1::SU 3 told T.reads.length (T.reads.flatMap Z3)::Zz 5 1 one (T.read s[i].1.name 0 2).2.1.length (u8s (T.read s[i].1.name 0 2).2.1)::Zz 134 3 r2 T.reads.length (T.reads.flatMap Z3)::Zz 134 3 r1 T.reads.length (T.reads.flatMap Z3)::Zz 9 1 t2 (AD.Y2 T noB).length ((AD.Y2 T noB).map .string)::Zz 9 1 t1 (AD.Y2 T noB).length ((AD.Y2 T noB).map .string)::Zz 83 2 s2 zs2.length (Zo zs2)::Bag (ZM zs2)::Zz 83 2 s1 zs1.length (Zo zs1)::Bag (ZM zs1)::Zz 83 2 f2 zf2.length (Zo zf2)::Bag (ZM zf2)::Zz 83 2 f1 zf1.length (Zo zf1)::Bag (ZM zf1)::Cells Pb #[ptr D,ptr E,ptr K] 33::Dk D ((T.read s[i].1.name 0 2).2.2.read s[i].1.name 0 2).2.2::Rk E ((T.read s[i].1.name 0 2).2.2.read s[i].1.name 0 2).2.2::X5 K bv pv bb pp::Xk W::Cells xb (ZC s[i].1 s[i].2.1 s[i].2.2).toArray 41::Yj Bk (1100*i) 0::[]) w27:=XV [27,27,27,27,27,27,27,27,27,27,27,27,27,27,27,27,27,27,27,27,27,27,27,24,24,25,27,27] 28 h13 (by kernel_rfl)
   have h15:=UA (lv:=lv) (wv:=wv) (zs:=zs) (w':=w27) h14
   have h16:Sep (Yj Bk (1100*i) 0::Zz 5 1 one (T.read s[i].1.name 0 2).2.1.length (u8s (T.read s[i].1.name 0 2).2.1)::Zz 83 2 f1 zf1.length (Zo zf1)::Bag (ZM zf1)::Zz 83 2 s1 zs1.length (Zo zs1)::Bag (ZM zs1)::Zz 9 1 t1 (AD.Y2 T noB).length ((AD.Y2 T noB).map .string)::Zz 134 3 r1 T.reads.length (T.reads.flatMap Z3)::Zz 83 2 f2 zf2.length (Zo zf2)::Bag (ZM zf2)::Zz 83 2 s2 zs2.length (Zo zs2)::Bag (ZM zs2)::Zz 9 1 t2 (AD.Y2 T noB).length ((AD.Y2 T noB).map .string)::Zz 134 3 r2 T.reads.length (T.reads.flatMap Z3)::SU 3 told T.reads.length (T.reads.flatMap Z3)::Cells Pb #[ptr D,ptr E,ptr K] 33::Dk D ((T.read s[i].1.name 0 2).2.2.read s[i].1.name 0 2).2.2::Rk E ((T.read s[i].1.name 0 2).2.2.read s[i].1.name 0 2).2.2::X5 K bv pv bb pp::Xk W::Zz 83 2 lv2 (zs++zF++[((noB,((T.read s[i].1.name 0 2).2.2.read s[i].1.name 0 2).2.1),two)]).length (Zo (zs++zF++[((noB,((T.read s[i].1.name 0 2).2.2.read s[i].1.name 0 2).2.1),two)]))::Bag (ZM (zs++zF++[((noB,((T.read s[i].1.name 0 2).2.2.read s[i].1.name 0 2).2.1),two)]))::Zz 83 2 wv2 (ws'++[((noB,(T.read s[i].1.name 0 2).2.1),cp)]).length (Zo (ws'++[((noB,(T.read s[i].1.name 0 2).2.1),cp)]))::Bag (ZM (ws'++[((noB,(T.read s[i].1.name 0 2).2.1),cp)]))::[]) w27:=XV [1,1,3,3,24,24,24,24,24,11,13,15,18,18,22,22,19,20,22,22,24,24,24,26] 24 h15 (by kernel_rfl)
   refine Dq ok2 (ef1.trans eF.symm) (ef2.trans eF.symm) (es1.trans eSf.symm) (es2.trans eSf.symm) (by have:=JE T s[i].1.name;omega) (by omega) (by omega) eL (by have:=ok.reads;omega) hbb h16 ?_
   intro w28 hB28;intros
   refine⟨m-1,by omega,i+1,((T.read s[i].1.name 0 2).2.2.read s[i].1.name 0 2).2.2,lv2,wv2,(zs++zF++[((noB,((T.read s[i].1.name 0 2).2.2.read s[i].1.name 0 2).2.1),two)]),(ws'++[((noB,(T.read s[i].1.name 0 2).2.1),cp)]),by omega,by omega,?_,?_,?_,?_,(hρ 1 (by omega) (by omega) (by omega)).trans e1,r5,r7,rfl,rfl,rfl⟩
   · rw[show 1100*(i+1)=1100*i+1100 by omega,show 3*(i+1)=3*i+1+1+1 by omega];exact hB28
   · rw[Uc,Uc,Kj,hpl8,hpl];show _++[(noB,(T.read s[i].1.name 0 2).2.1)]=_++[(noB,((T.read s[i].1.name 0 2).2.2.read s[i].1.name 0 2).2.1)];rw[gE]
   · rw[List.length_append,List.length_append];show zs.length+zF.length+1≤600;omega
   · intro p hp
     rcases List.mem_append.1 hp with hp|hp
     · rcases List.mem_append.1 hp with hp | hp
       · exact hzd p hp
       · exact hFd p hp
     · rw[List.mem_singleton.1 hp];show ((T.read s[i].1.name 0 2).2.2.read s[i].1.name 0 2).2.1.length≤_;have:=JE (T.read s[i].1.name 0 2).2.2 s[i].1.name;omega
 · refine ZB     (by omega) (Zf       ?_)
   have h16:Sep (Yj Bk (1100*i) 0::Zz 5 1 one (T.read s[i].1.name 0 2).2.1.length (u8s (T.read s[i].1.name 0 2).2.1)::Zz 83 2 f1 zf1.length (Zo zf1)::Bag (ZM zf1)::Zz 83 2 s1 zs1.length (Zo zs1)::Bag (ZM zs1)::Zz 9 1 t1 (AD.Y2 T noB).length ((AD.Y2 T noB).map .string)::Zz 134 3 r1 T.reads.length (T.reads.flatMap Z3)::Zz 83 2 f2 zf2.length (Zo zf2)::Bag (ZM zf2)::Zz 83 2 s2 zs2.length (Zo zs2)::Bag (ZM zs2)::Zz 9 1 t2 (AD.Y2 T noB).length ((AD.Y2 T noB).map .string)::Zz 134 3 r2 T.reads.length (T.reads.flatMap Z3)::SU 3 told T.reads.length (T.reads.flatMap Z3)::Cells Pb #[ptr D,ptr E,ptr K] 33::Dk D ((T.read s[i].1.name 0 2).2.2.read s[i].1.name 0 2).2.2::Rk E ((T.read s[i].1.name 0 2).2.2.read s[i].1.name 0 2).2.2::X5 K bv pv bb pp::Xk W::Zz 83 2 lv zs.length (Zo zs)::Bag (ZM zs)::Zz 83 2 wv ws.length (Zo ws)::Bag (ZM ws)::[]) w22:=XV [27,27,27,27,25,25,25,25,25,11,14,16,19,19,23,23,20,21,23,23,25,25,25,27] 24 hS (by kernel_rfl)
   refine Dq ok2 (ef1.trans eF.symm) (ef2.trans eF.symm) (es1.trans eSf.symm) (es2.trans eSf.symm) (by have:=JE T s[i].1.name;omega) (by omega) (by omega) eL (by have:=ok.reads;omega) hbb h16 ?_
   intro w28 hB28;intros
   refine⟨m-1,by omega,i+1,((T.read s[i].1.name 0 2).2.2.read s[i].1.name 0 2).2.2,lv,wv,zs,ws,by omega,by omega,?_,hpl,hzl,hzd,e1,e5,e7,e8,e9,rfl⟩
   rw[show 1100*(i+1)=1100*i+1100 by omega,show 3*(i+1)=3*i+1+1+1 by omega];exact hB28
theorem zhi {v:V} {s:VJ} {room:Int} (hv:XP W v s) (hk:∀w',Fr no W w'→k (.bool true) w'):pFn P 12 [i64 room,v] W k:=by
 refine vB _ _ _ _ ?_
 unfold TG
 refine jb hv fun b w1 f1 hb=> ?_
 cases b with
 |true=>exact Zk (hk w1 f1)
 |false=>
  obtain⟨hl,hbd⟩:=hb rfl
  refine Zf (yx ((Sep.base W).q f1) ?_ ?_)
  ·intro hr w2 p K hS f2
   refine ZG rfl (ZG rfl (YP (Zl rfl (Zl rfl (Zn (Zl rfl (Yr (Zl rfl (Zj (v:= .pointer none) (isAgg29 _) (hS.cells 0 rfl) rfl (Zl rfl (Z9 (w':=w2) (v:= .bool true) (by kernel_rfl) (Zr ?_))))))))))))
   refine Zk ?_
   refine Zl rfl ?_
   refine G0 Xj fun w3 f3=>Zx (hk w3 (((f1.trans f2 fun b hb=>hb.elim)).trans f3 fun b hb=>hb.elim))
  ·intro hr w2 Pb D E K hS
   refine ZG rfl (ZG rfl (YP (Zl rfl (Zl rfl (Zn (Zl rfl (Yr (Zl rfl (Zj (v:=ptr D) (isAgg29 _) (hS.cells 0 rfl) rfl (Zl rfl ?_))))))))))
   unfold ptr
   refine YJ Kt (Zr (Zf ?_))
   refine Z9 (w':=w2) (v:= .agg #[.slice none 0 0,.slice none 0 0,.slice none 0 0,.slice none 0 0]) (by kernel_rfl) ?_
   refine jd (cs:= #[.slice none 0 0,.slice none 0 0,.slice none 0 0,.slice none 0 0]) rfl ?_
   have hS1:=hS.cell #[.slice none 0 0,.slice none 0 0,.slice none 0 0,.slice none 0 0] 70
   generalize w2.heap.size=Bk at *
   generalize w2.alloc (.cells #[.slice none 0 0,.slice none 0 0,.slice none 0 0,.slice none 0 0] 70)=w3 at *
   have h2:=(XN (te:=158) (sz:=3) (XN (te:=163) (sz:=3) (XN (te:=161) (sz:=3) (XN (te:=165) (sz:=3) hS1.E0).E0).E0).E0).front 8 rfl
   have h3:Sep (Yj Bk 0 0::VL Pb D E K (AD.new room) (.slice none 0 0) (.slice none 0 0) [] [] (Xk W::[])) w3:=XM (er:=[]) (et:=[]) (ef:=[]) (es:=[]) h2 ⟨⟨Nat.le_refl _,by simp⟩,⟨Nat.le_refl _,by simp⟩,⟨Nat.le_refl _,by simp⟩,⟨Nat.le_refl _,by simp⟩⟩
   have h4:=XN (te:=83) (sz:=2) (XN (te:=83) (sz:=2) h3.E0).E0
   have h5:Sep (VL Pb D E K (AD.new room) (.slice none 0 0) (.slice none 0 0) [] [] (Xk W::Yj Bk 0 0::Vw (.slice none 0 0) (.slice none 0 0) [] [])) w3:=XV [3,3,3,3,4,9,9,9,9,9] 10 h4 (by kernel_rfl)
   exact gI (m:=s.length) hv hl hbd hk ⟨0,AD.new room,.slice none 0 0,.slice none 0 0,[],[],by omega,by omega,⟨⟨D,E,_,_,_,_,h5,by simp⟩,AD.Ok.new hr⟩,rfl,by simp,by simp,rfl,rfl,rfl,rfl,rfl,rfl⟩
end
end Go.Proofs.YtcdcojpfealppaaGreat
