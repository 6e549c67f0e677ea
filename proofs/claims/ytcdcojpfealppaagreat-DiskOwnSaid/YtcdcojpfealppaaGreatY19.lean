/- Put together by a program (wip/tools/shake.py): ROps3,ROps4,ROps5,ROps6. -/
import Derived.Test.YtcdcojpfealppaaGreatY18
set_option linter.unusedVariables false
set_option linter.unusedSimpArgs false
set_option maxRecDepth 100000
open Go renaming World → Y, Value → V
namespace Go.Proofs.YtcdcojpfealppaaGreat
open Go Go.Proofs Go.RowKit Go.Proofs.XRed Go.Proofs.XHeap Go.Proofs.XMaps Go.Proofs.XSlices Go.Proofs.XDisk Go.Proofs.XCalls Go.Proofs.XSep Tryz
section
variable {w w0:Y} {D:Nat} {S S':AD} {O I:Nat → Prop} {L L':Uy} {k:KV}
theorem DZ (c:UInt8):YX c=decide ((97≤c.toNat∧c.toNat≤122)∨(48≤c.toNat∧c.toNat≤57)∨c.toNat=46∨c.toNat=45∨c.toNat=95∨c.toNat=43):=by
 unfold YX
 have e:∀d:UInt8,(c==d)=decide (c.toNat=d.toNat):=by
  intro d
  by_cases h:c=d
  ·subst h;simp
  ·have:c.toNat≠d.toNat:=fun h'=>h (UInt8.toNat_inj.1 h')
   simp[h,this]
 rw[e 46,e 45,e 95,e 43]
 simp[UInt8.le_iff_toNat_le,Bool.or_assoc]
set_option maxHeartbeats 4000000 in
theorem Qu (s:ByteArray) (hk:k (.bool (isName s)) w):pFn P 99 [.string s] w k:=by
 refine qJ _ _ _ ?_
 unfold WL
 refine VV underlying9 ?_
 have short:s.size<1∨s.size>112→k (.bool false) w:=by
  intro h
  have:isName s=false:=by
   unfold isName
   have h2:(decide (1≤s.size)&&decide (s.size≤112))=false:=by
    rcases h with h|h
    ·rw[decide_eq_false (by omega)];rfl
    ·rw[decide_eq_false (by omega:¬s.size≤112)];simp
   rw[Bool.and_assoc,h2];simp
  rwa [this] at hk
 by_cases h1:s.size<1
 ·refine ZA (by omega) ?_
  repeat (first|refine Yh ?_|refine YF ?_)
  exact Zx (Zk (short (.inl h1)))
 refine ZB (by omega) (Zl rfl (Zl rfl (VV underlying9 (Zl rfl ?_))))
 by_cases h2:s.size>112
 ·exact YQ (by omega) (Zr (Zk (short (.inr h2))))
 refine YI (by omega) (Zr (Zf ?_))
 clear short
 have hall:isName s=s.data.toList.all YX:=by
  unfold isName
  rw[decide_eq_true (by omega),decide_eq_true (by omega)];simp
 rw[hall] at hk
 refine F4 (m:=s.size) k (fun m ρ w'=>∃i:Nat,i+m=s.size∧w'=w∧ρ 0= .string s∧ρ 3=i64 i∧∀j (hj:j<s.size),j<i→YX s[j]=true) ?_ ⟨0,by omega,rfl,rfl,rfl,fun j _ hj=>absurd hj (by omega)⟩
 rintro m ρ w' ⟨i,him,rfl,e0,e3,hok⟩
 rw[ND]
 unfold qI
 rw[e0,e3]
 refine VV underlying9 ?_
 by_cases hi:i<s.size
 ·refine ZA (by omega) (Zk (jo underlying9 hi ?_))
  have hb:=DZ s[i]
  have hlt:=s[i].toNat_lt
  have good:YX s[i]=true→∀j (hj:j<s.size),j<i+1→YX s[j]=true:=by
   intro h j hj hji
   by_cases e:j=i
   ·subst e;exact h
   ·exact hok j hj (by omega)
  have bad:YX s[i]=false→k (.bool false) w':=by
   intro h
   have:s.data.toList.all YX=false:=by
    rw[Bool.eq_false_iff]
    intro ha
    rw[List.all_eq_true] at ha
    have:=ha s[i] (by
     have:i<s.data.toList.length:=by simpa using hi
     have e:s[i]=s.data.toList[i]:=rfl
     rw[e];exact List.getElem_mem _)
    rw[h] at this;cases this
   rwa [this] at hk
  clear hk hall
  generalize s[i].toNat=n at *
  generalize YX s[i]=okb at *
  have cases_:(97≤n∧n≤122)∨(48≤n∧n≤57)∨n=46∨n=45∨n=95∨n=43∨n<43∨n=44∨n=47∨(58≤n∧n≤94)∨n=96∨122<n:=by omega
  have fin:∀(ρ':Env),ρ' 0= .string s→ρ' 3=i64 (i+1)→okb=true→(∃m',m'<m∧∃i:Nat,i+m'=s.size∧w'=w'∧ρ' 0= .string s∧ρ' 3=i64 i∧∀j (hj:j<s.size),j<i→YX s[j]=true):=
   fun ρ' a0 a3 h=>⟨m-1,by omega,i+1,by omega,rfl,a0,by rw[a3];show i64 _=i64 _;simp,good h⟩
  rcases cases_ with h|h|h|h|h|h|h|h|h|h|h|h
  all_goals
   repeat (first|refine Zl rfl ?_|refine V9 ?_|refine Yh ?_|refine YF ?_|refine Zx ?_|refine Zr ?_|refine YP ?_|refine Zk ?_|refine Zf ?_|refine XQ (by omega) ?_|refine XR (by omega) ?_|refine SC (by omega) ?_|refine SD (by omega) ?_|refine ZP (by omega) ?_|refine Yd (by omega) ?_)
   first
    |exact bad (by rw[hb];exact decide_eq_false (by omega))
    |exact Zp (by omega) (fin _ e0 rfl (by rw[hb];exact decide_eq_true (by omega)))
 ·refine ZB (by omega) (Zf ?_)
  rw[NF]
  have:s.data.toList.all YX=true:=by
   rw[List.all_eq_true]
   intro c hc
   obtain⟨j,hj,rfl⟩:=List.getElem_of_mem hc
   have hj':j<s.size:=by simpa using hj
   exact hok j hj' (by omega)
  rw[this] at hk
  exact hk
theorem Ct (h:YC w D S O I L) (hk:k (.bool S.off) w):pFn P 74 [ptr D] w k:=by
 refine ql _ _ _ ?_
 unfold WC ptr
 refine YJ Ju (Zl rfl (Zl rfl (Zn (Zl rfl (Kn (Zl rfl (Zj (v:= .bool (!S.off)) (isAgg4 _) h.disk rfl (Zl rfl (YP (Zr ?_))))))))))
 rw[Bool.not_not];exact hk
theorem ji (h:YC w D S O I L) (hk:k (i64 S.room) w):pFn P 77 [ptr D] w k:=by
 refine qv _ _ _ ?_
 unfold WG ptr
 exact YJ Ju (Zf (Zn (Dy (Zj (v:=i64 S.room) (isAgg3 _) h.disk rfl hk))))
theorem GI (h:YC w D S O I L) (hk:k (i64 S.strokes) w):pFn P 75 [ptr D] w k:=by
 refine qm _ _ _ ?_
 unfold WD ptr
 exact YJ Ju (Zf (Zn (Dz (Zj (v:=i64 S.strokes) (isAgg3 _) h.disk rfl hk))))
theorem Uo (h:YC w D S O I L) (hl:S.shown.length≤4611686018427387904) (hnd:(ZH S.shown).Nodup) (s:ByteArray) (h0:S.look s≠0→∀i:Int,k (.tuple #[i64 i,i64 (S.look s)]) w) (h1:S.look s=0→∀i (hi:i<S.shown.length),S.shown[i]=(s,S.of s)→k (.tuple #[i64 i,i64 0]) w):
   pFn P 93 [ptr D,.string s] w k:=by
 refine qD _ _ _ _ ?_
 unfold WJ
 refine Ct h ?_
 unfold AD.look at h0 h1
 cases ho:S.off with
 |true=>rw[ho] at h0;exact Zk (h0 (by simp) 0)
 | false =>
   rw[ho] at h0 h1
   simp only[Bool.false_eq_true,if_false] at h0 h1
   refine Zf (Qu s (YP ?_))
   cases hn:isName s with
   | false =>
     rw[hn] at h0
     exact Zk (h0 (by simp) 0)
   | true =>
     rw[hn] at h0 h1
     simp only[Bool.not_true,Bool.false_eq_true,if_false] at h0 h1
     refine Zf (Zn (Yx (Zj (v:=L.nowv) (isAgg59 _) h.disk rfl ?_)))
     refine Db h.now.1 hl (fun i hi e=> ?_) fun hno=> ?_
     · have hg : ZV    S.shown s = some S.shown[i].2 := by rw [← e]; exact VY       hnd (List.getElem?_eq_getElem hi)
       rw[hg] at h1
       refine ZB (by omega) (Zf (h1 rfl i hi ?_))
       unfold AD.of
       rw[hg];exact Prod.ext e rfl
     · rw [XB.2             hno] at h0
       exact ZA (by omega) (Zk (h0 (by simp) 0))
theorem NP (h:YC w D S O I L) (hb1:0≤S.strokes∧S.strokes≤4611686018427387904) (hb2:0≤S.since∧S.since≤4611686018427387904)
   (hk:∀w',RNx w D O I w' S.ZI O I L→k (.tuple #[.bool (decide (S.since+1≥S.plan.from_)&&decide (S.since+1≤S.plan.to_)),.bool (decide (S.since+1=S.plan.off))]) w'):pFn P 111 [ptr D] w k:=by
 refine WQ _ _ _ ?_
 unfold FG ptr
 refine Zn (Dz (Zj (v:=i64 S.strokes) (isAgg3 _) h.disk rfl (Zp (by omega) (Zn (Dz (YA (sizeOf3 _) rfl rfl h.disk (by show 5<11;decide) ?_))))))
 have d1:=Z6 h.disk 5 (i64 (S.strokes+1))
 have f1:Fr (fun b=>b=D) w (w.setCell ⟨D,5,none⟩ (i64 (S.strokes+1))):=Fr.setCell w ⟨D,5,none⟩ _
 show px P _ (w.setCell ⟨D,5,none⟩ (i64 (S.strokes+1))) _
 generalize w.setCell ⟨D,5,none⟩ (i64 (S.strokes+1))=w1 at *
 refine Zn (Qm (Zj (v:=i64 S.since) (isAgg3 _) d1 rfl (Zp (by omega) (Zn (Qm (YA (sizeOf3 _) rfl rfl d1 (by show 6<11;decide) ?_))))))
 have d2:=Z6 d1 6 (i64 (S.since+1))
 have f2:Fr (fun b=>b=D) w1 (w1.setCell ⟨D,6,none⟩ (i64 (S.since+1))):=Fr.setCell w1 ⟨D,6,none⟩ _
 show∃S_:Y→Prop,_
 have fd:=Fr.drew (fun b=>b=D) (w1.setCell ⟨D,6,none⟩ (i64 (S.since+1)))
 have d3:(w1.setCell ⟨D,6,none⟩ (i64 (S.since+1))).drew.heap[D]? =some (.cells (Y6 S.ZI L) 62 (0,0)):=d2
 have hn:=h.cell (S':=S.ZI) ((f1.trans f2 fun b=> .inl).trans fd fun b=> .inl) d3 rfl rfl rfl rfl rfl rfl
 have hk':=hk _ hn
 clear hk hn
 refine⟨fun u=>u.heap[D]? =some (.cells (Y6 S.ZI L) 62 (0,0)),d3,?_⟩
 refine Zi _ (fun w_ hS=>Zn ⟨rfl,rfl⟩) (Zi _ (fun w_ hS=>Qm ⟨rfl,rfl⟩) (Zi (i64 (S.since+1)) (fun w_ hS=>Zj (isAgg3 _) hS rfl ⟨rfl,rfl⟩) ?_))
 refine Zi _ (fun w_ hS=>Zn ⟨rfl,rfl⟩) (Zi _ (fun w_ hS=>JG ⟨rfl,rfl⟩) (Zi _ (fun w_ hS=>SW ⟨rfl,rfl⟩) (Zi (i64 S.plan.from_) (fun w_ hS=>Zj (isAgg3 _) hS rfl ⟨rfl,rfl⟩) ?_)))
 have last:∀x:Bool,x=(decide (S.since+1≥S.plan.from_)&&decide (S.since+1≤S.plan.to_))→∀(kk:V→V→V→V→V→V→V→V→V→V→Prop),True:=fun _ _ _=>trivial
 clear last
 by_cases a:S.since+1≥S.plan.from_
 · rw [decide_eq_true a,Bool.true_and] at hk'
   refine Zi _ (fun w_ hS=>XQ a ⟨rfl,rfl⟩) (Ze rfl (Ze rfl ?_))
   refine Zi _ (fun w_ hS=>Zn ⟨rfl,rfl⟩) (Ze rfl (Zi _ (fun w_ hS=>Qm ⟨rfl,rfl⟩) (Ze rfl (Zi (i64 (S.since+1)) (fun w_ hS=>Zj (isAgg3 _) hS rfl ⟨rfl,rfl⟩) ?_))))
   refine Ze rfl (Ze rfl (Zi _ (fun w_ hS=>Zn ⟨rfl,rfl⟩) (Ze rfl (Zi _ (fun w_ hS=>JG ⟨rfl,rfl⟩) (Ze rfl (Zi _ (fun w_ hS=>SX ⟨rfl,rfl⟩) (Ze rfl (Zi (i64 S.plan.to_) (fun w_ hS=>Zj (isAgg3 _) hS rfl ⟨rfl,rfl⟩) (Ze rfl ?_)))))))))
   refine Zi _ (fun w_ hS=>zcl ⟨rfl,rfl⟩) (Zi _ (fun w_ hS=>Zx ⟨rfl,rfl⟩) ?_)
   refine Zi _ (fun w_ hS=>Zn ⟨rfl,rfl⟩) (Zi _ (fun w_ hS=>Qm ⟨rfl,rfl⟩) (Zi (i64 (S.since+1)) (fun w_ hS=>Zj (isAgg3 _) hS rfl ⟨rfl,rfl⟩) ?_))
   refine Zi _ (fun w_ hS=>Zn ⟨rfl,rfl⟩) (Zi _ (fun w_ hS=>JG ⟨rfl,rfl⟩) (Zi _ (fun w_ hS=>Kl ⟨rfl,rfl⟩) (Zi (i64 S.plan.off) (fun w_ hS=>Zj (isAgg3 _) hS rfl ⟨rfl,rfl⟩) ?_)))
   refine Zi _ (fun w_ hS=>Cw ⟨rfl,rfl⟩) ?_
   rw[show (S.since+1==S.plan.off)=decide (S.since+1=S.plan.off) from rfl]
   exact hk'
 · rw [decide_eq_false a,Bool.false_and] at hk'
   refine Zi _ (fun w_ hS=>XR a ⟨rfl,rfl⟩) ?_
   repeat (first|refine Y3 ?_|refine YD ?_)
   refine Zi _ (fun w_ hS=>Zr ⟨rfl,rfl⟩) ?_
   refine Zi _ (fun w_ hS=>Zn ⟨rfl,rfl⟩) (Zi _ (fun w_ hS=>Qm ⟨rfl,rfl⟩) (Zi (i64 (S.since+1)) (fun w_ hS=>Zj (isAgg3 _) hS rfl ⟨rfl,rfl⟩) ?_))
   refine Zi _ (fun w_ hS=>Zn ⟨rfl,rfl⟩) (Zi _ (fun w_ hS=>JG ⟨rfl,rfl⟩) (Zi _ (fun w_ hS=>Kl ⟨rfl,rfl⟩) (Zi (i64 S.plan.off) (fun w_ hS=>Zj (isAgg3 _) hS rfl ⟨rfl,rfl⟩) ?_)))
   refine Zi _ (fun w_ hS=>Cw ⟨rfl,rfl⟩) ?_
   rw[show (S.since+1==S.plan.off)=decide (S.since+1=S.plan.off) from rfl]
   exact hk'
theorem UM (h:YC w D S O I L) (hoff:S.off=false) (out:Bool) (e:Int) (hk:∀w',RNx w D O I w' { S with off:=out} O I L→k (i64 (if out then 50 else e)) w'):pFn P 112 [ptr D,.bool out,i64 e] w k:=by
 refine WR _ _ _ _ _ ?_
 unfold FI ptr
 cases out with
 |true=>
  refine Zk (Zn (Kn (YA (sizeOf4 _) rfl rfl h.disk (by show 0<11;decide) ?_)))
  exact hk _ (h.cell (S':= { S with off:=true}) (Fr.setCell w ⟨D,0,none⟩ _) (Z6 h.disk 0 _) rfl rfl rfl rfl rfl rfl)
 |false=>
  refine Zf ?_
  have:({ S with off:=false}:AD)=S:=by cases S;simp only at hoff;subst hoff;rfl
  rw[this] at hk
  exact hk w (RNx.refl h)
theorem Cu (S:AD) {l:Names} {i:Nat} (hi:i<l.length):XX S (l.take (i+1))=XX S (l.take i)+(S.things l[i].2).shown.length:=by
 unfold XX
 rw[List.take_succ_eq_append_getElem hi]
 simp only[List.map_append,List.map_cons,List.map_nil,List.sum_append,List.sum_cons,List.sum_nil,Nat.add_zero]
theorem Jo (S:AD) (l:Names) (i:Nat):XX S (l.take i)≤XX S l:=by
 unfold XX
 conv=>rhs;rw[←List.take_append_drop i l,List.map_append,List.sum_append]
 omega
theorem SA (h:YC w D S O I L) (hl:S.shown.length≤1152921504606846976) (hu:S.used≤1152921504606846976) (hk:k (i64 S.used) w):pFn P 76 [ptr D] w k:=by
 refine qu _ _ _ ?_
 unfold WE
 refine YJ Ju (Zf ?_)
 refine F0 (m:=S.shown.length) k (fun m ρ w'=>∃i:Nat,i+m=S.shown.length∧w'=w∧ρ 0=ptr D∧ρ 4=i64 i∧ρ 3=i64 (XX S (S.shown.take i))) ?_ ⟨0,by omega,rfl,rfl,rfl,rfl⟩
 rintro m ρ w' ⟨i,him,rfl,e0,e4,e3⟩
 rw[Nt]
 unfold qq
 rw[e0,e4,e3]
 refine Zn (Yx (Zj (v:=L.nowv) (isAgg59 _) h.disk rfl (ZF X6 h.now.1 ?_)))
 have hS:S.used=XX S S.shown:=rfl
 by_cases hi:i<S.shown.length
 ·have e1:=Cu S hi
  have e2:=Jo S S.shown (i+1)
  refine ZA (by omega) (Zk (Zn (Yx (Zj (v:=L.nowv) (isAgg59 _) h.disk rfl (XA h.now.1 hi fun p q=> ?_)))))
  have hr:L.has S.shown[i].2:=h.sub _ (.inl ⟨S.shown[i].1,List.getElem_mem hi⟩)
  obtain⟨sv,hv,ps,hb,h1,h2,_⟩:=(h.things _ hr).ex
  obtain⟨A,c,ev,_⟩:=h2.1.form
  subst ev
  refine Zn (Xp (Zj (v:= .slice A (S.things S.shown[i].2).shown.length c) (isAgg36 _) hb rfl (Yn Ya (Zp (by omega) (Zp (by omega) ⟨m-1,by omega,i+1,by omega,rfl,e0,?_,?_⟩)))))
  ·show i64 _=i64 _;simp
  ·show i64 _=i64 _;rw[e1];simp
 ·refine ZB (by omega) (Zf ?_)
  rw[Nu]
  unfold qt
  rw[List.take_of_length_le (by omega)] at e3
  show k (ρ 3) w'
  rw[e3];exact hk
end
section
variable {w w0:Y} {D:Nat} {S S':AD} {O I:Nat → Prop} {L L':Uy} {k:KV}
theorem NQ {c:Turn} {l:Names} (hc:∀a b,c= .give a b→ZV l a≠none) {n:ByteArray} {t:Nat} (h:(n,t)∈c.on l):(∃m,(m,t)∈l)∨∃m,c= .mk m t:=by
 cases c with
 |mk m u=>
  rcases Xc.1 h with h|h
  ·injection h with h1 h2;subst h2;exact .inr ⟨m,rfl⟩
  ·exact .inl ⟨n,h.1⟩
 |give a b=>
  rcases Xc.1 h with h|h
  ·injection h with h1 h2
   cases hg:ZV l a with
   |none=>exact absurd hg (hc a b rfl)
   |some u=>rw[hg] at h2;subst h2;exact .inl ⟨a,ZU hg⟩
  ·exact .inl ⟨n,(Yv.1 h.1).1⟩
 |take m=>exact .inl ⟨n,(Yv.1 h).1⟩
theorem YO (loc:Nat→Nat) (c:Turn):(Yp loc c).length=4:=by cases c<;>rfl
theorem QH (loc:Nat→Nat) (c:Turn):∀u∈Yp loc c,u.oneCell'=true:=by
 intro u hu
 cases c<;>simp[Yp] at hu<;>rcases hu with rfl|rfl|rfl|rfl<;>rfl
theorem JZ {loc:Nat→Nat} {c:Turn} {a:Nat} {w:Y} {k:KV} (ha:w.heap[a]? =some (.cells (Yp loc c).toArray 146 (0,0))) (hk:k (X0 loc c) w):px P (Instr.loadAt 146 (ptr a)) w k:=by
 refine Xm (m:=4) (isAgg146 _) (sizeOf146 _) ha (by simp[YO]) ?_
 have:(((Yp loc c).toArray.toList.drop 0).take 4).toArray=(Yp loc c).toArray:=by rw[List.drop_zero,List.take_of_length_le (by simp[YO])]
 rw[this];exact hk
set_option maxHeartbeats 1000000 in
theorem Aa {a:Nat} {c:Turn} {kk:V→V→V→V→V→V→V→V→V→V→V→V→V→V→KV} (h:YC w D S O I L) (hrow:S.row.length≤1099511627776) (hl:S.shown.length≤549755813888) (hnd:(ZH S.shown).Nodup)
   (hc:∀a b,c= .give a b→ZV S.shown a≠none) (hm:∀n t,c= .mk n t→L.has t) (ha:w.heap[a]? =some (.cells (Yp L.loc c).toArray 146 (0,0))) (haO:¬O a)
   (hk:∀w' O' I' L',RNx w D O I w' (S.YE c) O' I' L'→∀x1 x2 x3 x4 x5 x6 x7 x8 x9 x10 x11 x12 x13 x14 x15,kk x1 x2 x3 x4 x5 x6 x7 x8 x9 x10 x11 x12 x13 x14 x15 w'):
   ∃ S_ : World → Prop,S_ w.drew ∧ (fun w =>
     pq P S_ (Zh (ptr D)) fun v44=>
     pq P S_ (Instr.fieldAt 62 v44 2) fun v45=>
     pq P S_ (Instr.loadAt 59 v45) fun v46=>
     pq P S_ (Instr.loadAt 146 (ptr a)) fun v47=>
     pFn P 113 [v46,v47] w fun v48 w=>S_ w∧(
     pq P S_ (Zh (ptr D)) fun v49=>
     pq P S_ (Instr.fieldAt 62 v49 2) fun v50=>
     pu P (Instr.storeAt 59 v50 v48) w fun w=>(
     ∃S_2:Y→Prop,S_2 w.drew∧(fun w=>
     pq P S_2 (Zh (ptr D)) fun v53=>
     pq P S_2 (Instr.fieldAt 62 v53 4) fun v54=>
     pq P S_2 (Instr.loadAt 60 v54) fun v55=>
     pq P S_2 (Instr.loadAt 146 (ptr a)) fun v56=>
     px P (Instr.buildSlice 60 1 #[(0,v56)]) w fun v57 w=>S_2 w∧(
     px P (bSem .append #[60,60] 60 #[v55,v57]) w fun v58 w=>S_2 w∧(
     pq P S_2 (Zh (ptr D)) fun v59=>
     pq P S_2 (Instr.fieldAt 62 v59 4) fun v60=>
     pu P (Instr.storeAt 60 v60 v58) w fun w=>(
     kk v44 v45 v46 v47 v48 v49 v50 v53 v54 v55 v56 v57 v58 v59 v60 w)))) w.drew))) w.drew:=by
 have haD:a≠D:=fun e=>haO (e▸h.oD)
 have hDs:D<w.heap.size:=h.lt D (.inl h.oD)
 have has:a<w.heap.size:=ZS ha
 have f0:Fr no w w.drew:=Fr.drew _ _
 have hTD:∀b,Zv L.turnv=some b→b≠D∧b<w.heap.size:=fun b hb=>by
   refine⟨?_,h.lt b (.inl (h.oturn b hb))⟩
   rintro rfl
   obtain⟨c1,h1⟩:=Z0 h.turns hb
   exact absurd (Zy h1 h.disk) (by decide)
 have hTa:∀b,Zv L.turnv=some b→b≠a:=fun b hb e=>haO (e▸h.oturn b hb)
 refine⟨fun u=>u.heap[D]? =some (.cells (Y6 S L) 62 (0,0))∧u.heap[a]? =some (.cells (Yp L.loc c).toArray 146 (0,0)),⟨h.disk,ha⟩,?_⟩
 refine Zi _ (fun w_ hS=>Zn ⟨rfl,rfl⟩) (Zi _ (fun w_ hS=>Yx ⟨rfl,rfl⟩) (Zi L.nowv (fun w_ hS=>Zj (isAgg59 _) hS.1 rfl ⟨rfl,rfl⟩) (Zi (X0 L.loc c) (fun w_ hS=>JZ hS.2 ⟨rfl,rfl⟩) ?_)))
 refine S9 (h.now.1.fr (by omega) f0 fun _ _ h=>h) hl hc hnd fun v1 w1 hv1 hb1 f1=> ?_
 obtain⟨A1,c1,ev1⟩:∃A c',v1= .slice A (c.on S.shown).length c':=by obtain⟨A,c',e,_⟩:=hv1;exact⟨A,c',e⟩
 subst ev1
 have f01:Fr no w w1:=f0.trans f1 fun b hb=> .inl hb
 have d1:=f01.get h.disk id
 have a1:=f01.get ha id
 refine⟨⟨d1,a1⟩,?_⟩
 refine Zi _ (fun w_ hS=>Zn ⟨rfl,rfl⟩) (Zi _ (fun w_ hS=>Yx ⟨rfl,rfl⟩) ?_)
 refine YA (sizeOf59 _) rfl rfl d1 (by show 2<11;decide) ?_
 have d2:=Z6 d1 2 (.slice A1 (c.on S.shown).length c1)
 have a2:=VR 2 (.slice A1 (c.on S.shown).length c1) haD a1
 have f2:Fr (fun b=>b=D) w1 (w1.setCell ⟨D,2,none⟩ (.slice A1 (c.on S.shown).length c1)):=Fr.setCell w1 ⟨D,2,none⟩ _
 have z2:(w1.setCell ⟨D,2,none⟩ (.slice A1 (c.on S.shown).length c1)).heap.size=w1.heap.size:=by simp[World.setCell]
 have fd2:Fr no (w1.setCell ⟨D,2,none⟩ (.slice A1 (c.on S.shown).length c1)) (w1.setCell ⟨D,2,none⟩ (.slice A1 (c.on S.shown).length c1)).drew:=Fr.drew _ _
 show∃S_2:Y→Prop,S_2 (w1.setCell ⟨D,2,none⟩ (.slice A1 (c.on S.shown).length c1)).drew∧_
 have f12:Fr (fun b=>b=D) w (w1.setCell ⟨D,2,none⟩ (.slice A1 (c.on S.shown).length c1)).drew:=((f01.mono fun b hb=>hb.elim).trans f2 fun b=> .inl).trans fd2 fun b hb=>hb.elim
 have f12':Fr (fun b=>b=D) w1 (w1.setCell ⟨D,2,none⟩ (.slice A1 (c.on S.shown).length c1)).drew:=f2.trans fd2 fun b hb=>hb.elim
 have d2':(w1.setCell ⟨D,2,none⟩ (.slice A1 (c.on S.shown).length c1)).drew.heap[D]? =_:=d2
 have a2':(w1.setCell ⟨D,2,none⟩ (.slice A1 (c.on S.shown).length c1)).drew.heap[a]? =_:=a2
 have z2':(w1.setCell ⟨D,2,none⟩ (.slice A1 (c.on S.shown).length c1)).drew.heap.size=w1.heap.size:=z2
 generalize (w1.setCell ⟨D,2,none⟩ (.slice A1 (c.on S.shown).length c1)).drew=w2 at *
 clear d2 a2 f2 z2 fd2
 refine⟨fun u=>u.heap[D]? =some (.cells ((Y6 S L).setIfInBounds 2 (.slice A1 (c.on S.shown).length c1)) 62 (0,0))∧u.heap[a]? =some (.cells (Yp L.loc c).toArray 146 (0,0)),⟨d2',a2'⟩,?_⟩
 refine Zi _ (fun w_ hS=>Zn ⟨rfl,rfl⟩) (Zi _ (fun w_ hS=>Vx ⟨rfl,rfl⟩) (Zi L.turnv (fun w_ hS=>Zj (isAgg60 _) hS.1 rfl ⟨rfl,rfl⟩) (Zi (X0 L.loc c) (fun w_ hS=>JZ hS.2 ⟨rfl,rfl⟩) ?_)))
 refine Z9 (w':=w2.alloc (.cells (Yp L.loc c).toArray 146)) (v:= .slice (some ⟨w2.heap.size,0,none⟩) 1 1) (by unfold X0;cases c<;>kernel_rfl) ?_
 have f3:=Fr.alloc no w2 (.cells (Yp L.loc c).toArray 146)
 have ho3:=ZQ w2 0 146 4 (Yp L.loc c).toArray 1 (Nat.zero_le _) (by unfold maxLen;omega) (by simp[YO])
 have z3:(w2.alloc (.cells (Yp L.loc c).toArray 146)).heap.size=w2.heap.size+1:=by simp
 generalize w2.alloc (.cells (Yp L.loc c).toArray 146)=w3 at *
 have z12:=f01.size
 refine⟨⟨f3.get d2' id,f3.get a2' id⟩,?_⟩
 have own2:w2.ownsRow 0 146 4 L.turnv S.row.length (S.row.flatMap (Yp L.loc)):=Z4 h.turns f12 fun b hb=>(hTD b hb).1
 refine zkd (Z4 own2 f3 fun _ _ h=>h) (Src.Zt ho3) (by simpa using QH L.loc c) (by omega) (Nat.zero_le _) fun v4 w4 h4 f4 hb4=> ?_
 have hne4:∀b,some b=Zv L.turnv→b≠D∧b≠a:=fun b hb=>⟨(hTD b hb.symm).1,hTa b hb.symm⟩
 have d4:=f4.get (f3.get d2' id) fun hb=>(hne4 D hb).1 rfl
 have a4:=f4.get (f3.get a2' id) fun hb=>(hne4 a hb).2 rfl
 refine⟨⟨d4,a4⟩,?_⟩
 refine Zi _ (fun w_ hS=>Zn ⟨rfl,rfl⟩) (Zi _ (fun w_ hS=>Vx ⟨rfl,rfl⟩) ?_)
 have v4o:=ZW h4
 refine YA (sizeOf60 _) v4o.1 v4o.2 d4 (by show 4<11;decide) ?_
 have d5:=Z6 d4 4 v4
 have f5:Fr (fun b=>b=D) w4 (w4.setCell ⟨D,4,none⟩ v4):=Fr.setCell w4 ⟨D,4,none⟩ _
 have z5:(w4.setCell ⟨D,4,none⟩ v4).heap.size=w4.heap.size:=by simp[World.setCell]
 have hv4D:∀b,Zv v4=some b→b≠D:=by
   intro b hb
   rcases hb4 with e|e
   · exact(hTD b (e▸hb)).1
   · rw[e] at hb;injection hb with hb;omega
 have z34:=f4.size
 have hblk4:∀b,Zv v4=some b→Zv L.turnv=some b∨w3.heap.size≤b:=by
   intro b hb
   rcases hb4 with e|e
   · exact .inl (e▸hb)
   · rw[e] at hb;injection hb with hb;exact .inr (by omega)
 have v4lt:∀b,Zv v4=some b→b<w4.heap.size:=fun b hb=>(Zu h4 hb).2
 have hrow5:w4.ownsRow 0 146 4 v4 (S.row.length+1) ((S.row++[c]).flatMap (Yp L.loc)):=by
   rw[List.flatMap_append]
   simpa using h4
 have hrow6:(w4.setCell ⟨D,4,none⟩ v4).ownsRow 0 146 4 v4 (S.row.length+1) ((S.row++[c]).flatMap (Yp L.loc)):=Z4 hrow5 f5 hv4D
 show kk _ _ _ _ _ _ _ _ _ _ _ _ _ _ _ (w4.setCell ⟨D,4,none⟩ v4)
 generalize w4.setCell ⟨D,4,none⟩ v4=w5 at *
 have g14:Fr (fun b=>b=D∨Zv L.turnv=some b) w1 w4:=((f12'.mono fun b hb=> .inl (.inl hb)).trans f3 fun b hb=>hb.elim).trans f4 fun b hb=> .inl (.inr hb.symm)
 have g15:Fr (fun b=>b=D∨Zv L.turnv=some b) w1 w5:=g14.trans f5 fun b hb=> .inl (.inl hb)
 have g05:Fr (fun b=>b=D∨Zv L.turnv=some b) w w5:=(f01.mono fun b hb=>hb.elim).trans g15 fun b hb=> .inl hb
 have hnI:∀b,I b→¬(b=D∨Zv L.turnv=some b):=by
   rintro b hb (rfl|e)
   · exact h.apart b h.oD hb
   · exact h.apart b (h.oturn b e) hb
 have htold:∀b,Zv L.toldv=some b→¬(b=D∨Zv L.turnv=some b):=by
   rintro b hb (rfl|e)
   · obtain⟨c1,h1⟩:=Z0 h.told hb;exact absurd (Zy h1 h.disk) (by decide)
   · obtain ⟨c1,h1⟩ := Z0      h.told hb
     obtain⟨c2,h2⟩:=Z0 h.turns e
     exact absurd (Zy h1 h2) (by decide)
 refine hk w5 (fun b=>O b∨Zv v4=some b) (fun b=>I b∨Zv (.slice A1 (c.on S.shown).length c1)=some b) { L with nowv:= .slice A1 (c.on S.shown).length c1,turnv:=v4} ⟨?_,?_,fun b=> .inl,fun b=> .inl,?_,?_⟩ _ _ _ _ _ _ _ _ _ _ _ _ _ _ _
 · refine h.plain (L' := { L with nowv := .slice A1 (c.on S.shown).length c1,turnv := v4 }) g05 (fun b hb => .inl (hb.elim .inl fun h => .inr (.inl h))) d5 rfl ?_ rfl rfl rfl (Nat.le_refl _) ⟨?_,fun b hb => .inr hb⟩ ?_ ?_ ?_ (fun b => .inl) (fun b => .inl) (fun b hb => .inr hb) (fun b hb => .inl (h.otold b hb)) ?_ ?_
   · rintro t (⟨n,ht⟩ | ⟨n,ht⟩ | ⟨n,ht⟩)
     · rcases NQ       hc ht with ⟨m,hm'⟩ | ⟨m,hm'⟩
       · exact h.sub t (.inl ⟨m,hm'⟩)
       · exact hm m t hm'
     · exact h.sub t (.inr (.inl ⟨n,ht⟩))
     · rcases List.mem_append.1 ht with ht | ht
       · exact h.sub t (.inr (.inr ⟨n,ht⟩))
       · rw[List.mem_singleton] at ht;exact hm n t ht.symm
   · refine hv1.fr (by omega) g15 fun b hb => ?_
     have:=(hb1 b hb).1
     have f0s:=f0.size
     rintro (rfl|e)
     · omega
     · have:=(hTD b e).2;omega
   · exact(h.bef.fr g05 hnI).mono fun b=> .inl
   · show w5.ownsRow 0 146 4 v4 (S.row ++ [c]).length ((S.row ++ [c]).flatMap (Yp    L.loc))
     rw[List.length_append];exact hrow6
   · exact Z4 h.told g05 htold
   · rintro b (hb | hb) (hi | hi)
     · exact h.apart b hb hi
     · have := (hb1 b hi).1
       have:=h.lt b (.inl hb)
       have f0s:=f0.size;omega
     · rcases hblk4 b hb with e | e
       · exact h.apart b (h.oturn b e) hi
       · have:=h.lt b (.inr hi);omega
     · have := hb1 b hi
       rcases hblk4 b hb with e|e
       · have := (hTD b e).2
         have f0s:=f0.size;omega
       · omega
   · rintro b ((hb | hb) | (hb | hb))
     · have:=h.lt b (.inl hb);omega
     · have:=v4lt b hb;omega
     · have:=h.lt b (.inr hb);omega
     · have:=(hb1 b hb).2;omega
 · exact g05.mono fun b hb=> .inl (hb.elim (fun e=>e▸h.oD) (h.oturn b))
 · rintro b (hb | hb)
   · exact .inl hb
   · rcases hblk4 b hb with e | e
     · exact .inl (h.oturn b e)
     · exact .inr (by omega)
 · rintro b (hb | hb)
   · exact .inl hb
   · have := (hb1 b hb).1
     have f0s:=f0.size
     exact .inr (by omega)
end
section
variable {w w0:Y} {D:Nat} {S S':AD} {O I:Nat → Prop} {L L':Uy} {k:KV}
theorem X1 {c:Nat} (h:YC w D S O I L) (ok:S.Ok c) (hk:∀w',RNx w D O I w' S.ZI O I L→k (.tuple #[.bool S.lacks,.bool S.out]) w'):pFn P 111 [ptr D] w k:=by
 have:=ok.small
 have:=ok.strokes
 have:=ok.since
 exact NP h (by omega) (by omega) hk
theorem YY {c:Nat} (ok:S.Ok c):S.shown.length≤256:=ok.turns.len.1
theorem Xa {c:Nat} (ok:S.Ok c):(ZH S.shown).Nodup:=ok.shown.nodup
theorem U5 {loc:Nat→Nat} {t:Turn} {kk:KV} (hk:∀w',w'.heap[w.heap.size]? =some (.cells (Yp loc t).toArray 146 (0,0))→Fr no w w'→w'.heap.size=w.heap.size+1→kk (ptr w.heap.size) w'):
   px P (Instr.alloc 146 true (.tuple #[])) w fun v w=>pu P (Instr.storeAt 146 v (X0 loc t)) w (kk v):=by
 refine Y9 (zeroValue146 _) ?_
 have b1:=Z2 w (.cells #[i64 0,.string noB,.string noB,.pointer none] 146)
 have f1:=Fr.alloc no w (.cells #[i64 0,.string noB,.string noB,.pointer none] 146)
 have z1:(w.alloc (.cells #[i64 0,.string noB,.string noB,.pointer none] 146)).heap.size=w.heap.size+1:=by simp
 show pu P _ (w.alloc (.cells #[i64 0,.string noB,.string noB,.pointer none] 146)) _
 generalize w.alloc (.cells #[i64 0,.string noB,.string noB,.pointer none] 146)=w1 at *
 refine Va (n:=4) (sizeOf146 _) (YO loc t) (QH loc t) b1 (by show 0+4≤4;decide) fun w' h1 h2 h3=> ?_
 refine hk w' ?_ (f1.trans h2 fun b hb=> .inr (by omega)) (by omega)
 rw[h1]
 simp
set_option maxHeartbeats 1000000 in
theorem NR {c:Nat} (h:YC w D S O I L) (ok:S.Ok c) (name:ByteArray) (hk:∀w' O' I' L',RNx w D O I w' (S.create name).2 O' I' L'→k (i64 (S.create name).1) w'):pFn P 61 [ptr D,.string name] w k:=by
 have hsm:=ok.small
 have hrow:=ok.row
 refine qd _ _ _ _ ?_
 unfold W1
 have same:∀e,S.create name=(e,S)→k (i64 e) w:=by
  intro e he
  have:=hk w O I L (by rw[he];exact RNx.refl h)
  rw[he] at this;exact this
 refine Ct h ?_
 cases ho:S.off with
 |true=>
  refine Zk (same 50 ?_)
  have hl:S.look name=50:=by unfold AD.look;rw[ho];rfl
  unfold AD.create;rw[hl];rfl
 |false=>
  refine Zf (Qu name (YP ?_))
  cases hn:isName name with
  |false=>
   refine Zk (same 51 ?_)
   have hl:S.look name=51:=by unfold AD.look;rw[ho,hn];rfl
   unfold AD.create;rw[hl];rfl
  |true=>
   refine Zf (Zn (Yx (Zj (v:=L.nowv) (isAgg59 _) h.disk rfl ?_)))
   have hlen:=YY ok
   refine Db h.now.1 (by omega) (fun i hi e=> ?_) fun hno=> ?_
   ·refine XQ (by omega) (Zk (same 52 ?_))
    have hg:ZV S.shown name=some S.shown[i].2:=by rw[←e];exact VY (Xa ok) (List.getElem?_eq_getElem hi)
    have hl:S.look name=0:=by unfold AD.look;rw[ho,hn,hg];rfl
    unfold AD.create;rw[hl];rfl
   ·refine XR (by omega) (Zf ?_)
    have hl:S.look name=53:=by unfold AD.look;rw[ho,hn,XB.2 hno];rfl
    have hcr:S.create name=S.Yc 1 (if S.shown.length≥256 then 56 else 0) (fun S=>S.made name):=by unfold AD.create;rw[hl];rfl
    rw[hcr] at hk
    refine X1 h ok fun w1 hx1=>ZG rfl (ZG rfl ?_)
    have h1:=hx1.rep
    refine Zn (Yx (Zj (v:=L.nowv) (isAgg59 _) h1.disk rfl (ZF X6 h1.now.1 ?_)))
    by_cases hfull:S.shown.length≥256
    ·rw[if_pos hfull,J1 _ _ _ _ (by omega)] at hk
     refine XQ (by show (256:Int)≤(S.shown.length:Int);omega) (Zk (UM h1 ho S.out 56 fun w2 hx2=> ?_))
     exact hk w2 _ _ _ (hx1.trans hx2)
    ·rw[if_neg hfull] at hk
     refine XR (by show¬(S.shown.length:Int)≥256;omega) (Zf ?_)
     cases hla:S.lacks with
     |true=>
      rw[QD _ _ hla] at hk
      exact Zk (UM h1 ho S.out 55 fun w2 hx2=>hk w2 _ _ _ (hx1.trans hx2))
     |false=>
      rw[Bv _ _ hla] at hk
      refine Zf (Z9 (w':=w1) (v:= .agg #[.slice none 0 0,.slice none 0 0,.slice none 0 0]) (by kernel_rfl) (Yw ?_))
      have bT:=Z2 w1 (.cells #[.slice none 0 0,.slice none 0 0,.slice none 0 0] 156)
      have fT:=Fr.alloc no w1 (.cells #[.slice none 0 0,.slice none 0 0,.slice none 0 0] 156)
      have zT:(w1.alloc (.cells #[.slice none 0 0,.slice none 0 0,.slice none 0 0] 156)).heap.size=w1.heap.size+1:=by simp
      show px P _ (w1.alloc (.cells #[.slice none 0 0,.slice none 0 0,.slice none 0 0] 156)) _
      generalize w1.alloc (.cells #[.slice none 0 0,.slice none 0 0,.slice none 0 0] 156)=w2 at *
      refine Z9 (w':=w2) (v:=X0 (fun _=>w1.heap.size) (.mk name 0)) (by unfold X0 Yp ptr;kernel_rfl) ?_
      refine U5 (loc:=fun _=>w1.heap.size) (t:= .mk name 0) fun w3 ha f3 z3=> ?_
      have f13:Fr no w1 w3:=fT.trans f3 fun b=> .inl
      have h3:=h1.fr f13 fun b hb=>hb.elim
      have hTO:¬O w1.heap.size:=fun hO=>absurd (h1.lt _ (.inl hO)) (Nat.lt_irrefl _)
      have hTI:¬I w1.heap.size:=fun hO=>absurd (h1.lt _ (.inr hO)) (Nat.lt_irrefl _)
      have hnb:¬L.has S.next:=fun hh=>absurd (h.below _ hh) (Nat.lt_irrefl _)
      have hP:=h3.place S.next w1.heap.size hnb { S.ZI.ZL S.next Thg.empty with next:=S.next+1} rfl rfl rfl rfl rfl (fun t ht=>by simp[AD.ZL,AD.ZI,ht]) hTO hTI (by omega) (Nat.lt_succ_self _) (Nat.le_succ _) (f3.get bT id) (by simp[AD.ZL])
      refine Aa (a:=w2.heap.size) (c:= .mk name S.next) hP (by show S.row.length≤_;omega) (by show S.shown.length≤_;omega) (show (ZH S.shown).Nodup from Xa ok) (fun a b e=>by cases e) (fun n t e=>by injection e with e1 e2;exact .inr e2.symm) ?_ ?_ fun w4 O4 I4 L4 hx4=> ?_
      ·rw[ha];simp[Yp]
      ·rintro (hO|hO)
       ·have:=h1.lt _ (.inl hO);omega
       ·omega
      ·intros
       refine UM hx4.rep ho S.out 0 fun w5 hx5=> ?_
       refine hk w5 O4 I4 L4 ⟨hx5.rep,?_,fun b hb=>hx4.oo b (.inl (hx1.oo b hb)),fun b hb=>hx4.ii b hb,?_,?_⟩
       ·have g1:Fr O w1 w4:=(f13.mono (O':=O) fun b hb=>hb.elim).trans hx4.fr fun b hb=>hb.imp id fun h=>by omega
        have g2:Fr O w1 w5:=g1.trans hx5.fr fun b hb=>by
         rcases hx4.on b hb with (hb|hb)|hb
         ·exact .inl hb
         ·exact .inr (by omega)
         ·exact .inr (by omega)
        exact hx1.fr.trans g2 fun b=> .inl
       ·intro b hb
        have:=hx1.fr.size
        rcases hx4.on b hb with (hb|hb)|hb
        ·exact .inl hb
        ·exact .inr (by omega)
        ·exact .inr (by omega)
       ·intro b hb
        have:=hx1.fr.size
        rcases hx4.in_ b hb with hb|hb
        ·exact .inl hb
        ·exact .inr (by omega)
end
section
variable {w w0:Y} {D:Nat} {S S':AD} {O I:Nat → Prop} {L L':Uy} {k:KV}
theorem RNx.of0 {w w1 w':Y} {O' I':Nat→Prop} (hf:Fr no w w1) (h:RNx w1 D O I w' S' O' I' L'):RNx w D O I w' S' O' I' L' where
 rep:=h.rep
 fr:=(hf.mono (O':=O) fun b hb=>hb.elim).trans h.fr fun b=> .inl
 oo:=h.oo
 ii:=h.ii
 on:=fun b hb=>(h.on b hb).imp id (Nat.le_trans hf.size)
 in_:=fun b hb=>(h.in_ b hb).imp id (Nat.le_trans hf.size)
theorem NS {c:Nat} (h:YC w D S O I L) (ok:S.Ok c) (name:ByteArray) (hk:∀w' O' I' L',RNx w D O I w' (S.remove name).2 O' I' L'→k (i64 (S.remove name).1) w'):pFn P 70 [ptr D,.string name] w k:=by
 have hsm:=ok.small
 have hrow:=ok.row
 have hlen:=YY ok
 refine qi _ _ _ _ ?_
 unfold W7
 refine Uo h (by omega) (Xa ok) name (fun hl i=> ?_) fun hl i hi he=> ?_
 ·have hr:S.remove name=(S.look name,S):=by unfold AD.remove;rw[if_pos hl]
  rw[hr] at hk
  exact ZG rfl (ZG rfl (Y0 hl (Zk (hk w O I L (RNx.refl h)))))
 ·have hr:S.remove name=S.Yc 0 0 (fun T=>T.YE (.take name)):=by unfold AD.remove;rw[if_neg (by simp[hl])]
  rw[hr,VP] at hk
  refine ZG rfl (ZG rfl (ZY rfl (Zf ?_)))
  refine X1 h ok fun w1 hx1=>ZG rfl (ZG rfl ?_)
  have h1:=hx1.rep
  have ho:=Vc S name (.inr hl)
  refine Z9 (w':=w1) (v:=X0 L.loc (.take name)) (by unfold X0 Yp;kernel_rfl) ?_
  refine U5 fun w2 ha f2 z2=> ?_
  have h2:=h1.fr f2 fun b hb=>hb.elim
  refine Aa h2 (by show S.row.length≤_;omega) (by show S.shown.length≤_;omega) (show (ZH S.shown).Nodup from Xa ok) (fun a b e=>by cases e) (fun n t e=>by cases e) ha (fun hO=>absurd (h1.lt _ (.inl hO)) (Nat.lt_irrefl _)) fun w4 O4 I4 L4 hx4=> ?_
  intros
  exact UM hx4.rep ho S.out 0 fun w5 hx5=>hk w5 O4 I4 L4 (hx1.trans (RNx.of0 f2 (hx4.trans hx5)))
theorem NT {c:Nat} (h:YC w D S O I L) (ok:S.Ok c) (a b:ByteArray) (hk:∀w' O' I' L',RNx w D O I w' (S.rename a b).2 O' I' L'→k (i64 (S.rename a b).1) w'):pFn P 69 [ptr D,.string a,.string b] w k:=by
 have hsm:=ok.small
 have hrow:=ok.row
 have hlen:=YY ok
 refine qh _ _ _ _ _ ?_
 unfold W5
 have same:∀e,S.rename a b=(e,S)→k (i64 e) w:=by
  intro e he
  have:=hk w O I L (by rw[he];exact RNx.refl h)
  rw[he] at this;exact this
 refine Ct h ?_
 cases ho:S.off with
 |true=>exact Zk (same 50 (by unfold AD.rename;rw[ho];rfl))
 |false=>
  refine Zf (Qu a (YP ?_))
  cases ha:isName a with
  |false=>
   simp only[Bool.not_false]
   repeat (first|refine Yh ?_|refine YF ?_)
   exact Zx (Zk (same 51 (by unfold AD.rename;rw[ho,ha];rfl)))
  |true=>
   simp only[Bool.not_true]
   refine Zl rfl (Zl rfl (Qu b (Zl rfl (YP (Zr ?_)))))
   cases hb:isName b with
   |false=>exact Zk (same 51 (by unfold AD.rename;rw[ho,ha,hb];rfl))
   |true=>
    refine Zf (Zn (Yx (Zj (v:=L.nowv) (isAgg59 _) h.disk rfl ?_)))
    refine Db h.now.1 (by omega) (fun i hi e=> ?_) fun hno=> ?_
    ·have hg:ZV S.shown a=some S.shown[i].2:=by rw[←e];exact VY (Xa ok) (List.getElem?_eq_getElem hi)
     have hr:S.rename a b=S.Yc 0 0 (fun T=>if a=b then T else T.YE (.give a b)):=by unfold AD.rename;rw[ho,ha,hb,hg];rfl
     rw[hr,VP] at hk
     refine ZB (by omega) (Zf ?_)
     refine X1 h ok fun w1 hx1=>ZG rfl (ZG rfl (UN ?_))
     have h1:=hx1.rep
     by_cases hab:a=b
     ·rw[if_pos hab] at hk
      rw[decide_eq_true hab]
      refine Zf ?_
      rw[CS]
      unfold W6
      exact UM h1 ho S.out 0 fun w5 hx5=>hk w5 _ _ _ (hx1.trans hx5)
     ·rw[if_neg hab] at hk
      rw[decide_eq_false hab]
      refine Zk (Z9 (w':=w1) (v:=X0 L.loc (.give a b)) (by unfold X0 Yp;kernel_rfl) ?_)
      refine U5 fun w2 ha2 f2 z2=> ?_
      have h2:=h1.fr f2 fun b hb=>hb.elim
      refine Aa h2 (by show S.row.length≤_;omega) (by show S.shown.length≤_;omega) (show (ZH S.shown).Nodup from Xa ok) (fun a' b' e=>by injection e with e1 e2;subst e1;show ZV S.shown a≠none;rw[hg];simp) (fun n t e=>by cases e) ha2 (fun hO=>absurd (h1.lt _ (.inl hO)) (Nat.lt_irrefl _)) fun w4 O4 I4 L4 hx4=> ?_
      intros
      rw[CS]
      unfold W6
      exact UM hx4.rep ho S.out 0 fun w5 hx5=>hk w5 O4 I4 L4 (hx1.trans (RNx.of0 f2 (hx4.trans hx5)))
    ·exact ZA (by omega) (Zk (same 53 (by unfold AD.rename;rw[ho,ha,hb,XB.2 hno];rfl)))
theorem Cv {c:Nat} (h:YC w D S O I L) (ok:S.Ok c) (hk:∀w' O' I' L',RNx w D O I w' S.ZR.2 O' I' L'→k (i64 S.ZR.1) w'):pFn P 72 [ptr D] w k:=by
 refine qk _ _ _ ?_
 unfold WA
 refine Ct h ?_
 cases ho:S.off with
 |true=>
  have hr:S.ZR=(50,S):=by unfold AD.ZR;rw[ho];rfl
  rw[hr] at hk
  exact Zk (hk w O I L (RNx.refl h))
 |false=>
  have hr:S.ZR=S.Yc 2 0 (fun T=> { T with safe:=T.shown,row:=[]}):=by unfold AD.ZR;rw[ho];rfl
  rw[hr,U3] at hk
  refine Zf (X1 h ok fun w1 hx1=>ZG rfl (ZG rfl (YP ?_)))
  have h1:=hx1.rep
  cases hout:S.out with
  |true=>
   rw[hout] at hk
   refine Zf ?_
   rw[CU]
   unfold WB
   exact UM h1 ho true 0 fun w5 hx5=>hk w5 _ _ _ (hx1.trans hx5)
  |false=>
   rw[hout] at hk
   obtain⟨A,cc,ev⟩:∃A c',L.nowv= .slice A S.shown.length c':=by obtain⟨A,c',e,_⟩:=h.now.1;exact⟨A,c',e⟩
   refine Zk (Zn (Yx (Zj (v:=L.nowv) (isAgg59 _) h1.disk rfl (Zn (Vg ?_)))))
   rw[ev]
   refine YA (sizeOf59 _) rfl rfl h1.disk (by show 3<11;decide) ?_
   have d2:=Z6 h1.disk 3 (.slice A S.shown.length cc)
   have f2:Fr (fun b=>b=D) w1 (w1.setCell ⟨D,3,none⟩ (.slice A S.shown.length cc)):=Fr.setCell w1 ⟨D,3,none⟩ _
   have z2:(w1.setCell ⟨D,3,none⟩ (.slice A S.shown.length cc)).heap.size=w1.heap.size:=by simp[World.setCell]
   show px P _ (w1.setCell ⟨D,3,none⟩ (.slice A S.shown.length cc)) _
   generalize w1.setCell ⟨D,3,none⟩ (.slice A S.shown.length cc)=w2 at *
   refine Zn (Vx (YA (sizeOf60 _) rfl rfl d2 (by show 4<11;decide) ?_))
   have d3:=Z6 d2 4 (.slice none 0 0)
   have f3:Fr (fun b=>b=D) w1 (w2.setCell ⟨D,4,none⟩ (.slice none 0 0)):=f2.trans (Fr.setCell w2 ⟨D,4,none⟩ _) fun b=> .inl
   have z3:(w2.setCell ⟨D,4,none⟩ (.slice none 0 0)).heap.size=w1.heap.size:=by rw[←z2];simp[World.setCell]
   rw[CU]
   unfold WB
   generalize w2.setCell ⟨D,4,none⟩ (.slice none 0 0)=w3 at *
   have hnI:∀b,I b→¬(b=D):=fun b hb e=>h.apart b (e▸h.oD) hb
   have hx3:RNx w1 D O I w3 { S.ZI with safe:=S.shown,row:=[]} O I { L with befv:=L.nowv,turnv:= .slice none 0 0}:=by
    refine⟨h1.plain (L':= { L with befv:=L.nowv,turnv:= .slice none 0 0}) f3 (fun b hb=> .inl (.inl hb)) ?_ rfl ?_ rfl rfl rfl (Nat.le_refl _) (h1.now.fr f3 hnI) (h1.now.fr f3 hnI) ⟨rfl,.inl ⟨rfl,rfl⟩⟩ (Z4 h1.told f3 ?_) (fun b=>id) (fun b=>id) (by rintro b hb;cases hb) h1.otold h1.apart (by rw[z3];exact h1.lt),f3.mono fun b hb=> .inl (hb▸h.oD),fun b=>id,fun b=>id,fun b=> .inl,fun b=> .inl⟩
    ·rw[d3];unfold Y6;rw[ev];rfl
    ·rintro t (ht|ht|⟨n,ht⟩)
     ·exact h.sub t (.inl ht)
     ·exact h.sub t (.inl ht)
     ·cases ht
    ·rintro b hb rfl
     obtain⟨c1,h1'⟩:=Z0 h1.told hb
     exact absurd (Zy h1' h1.disk) (by decide)
   exact UM hx3.rep ho false 0 fun w5 hx5=>hk w5 _ _ _ (hx1.trans (hx3.trans hx5))
theorem jj (h:YC w D S O I L) (p:Ah) (hk:∀w',RNx w D O I w' (S.Vn p) O I L→k (.tuple #[]) w'):pFn P 121 [ptr D,Jk p] w k:=by
 refine WV _ _ _ _ ?_
 unfold FW
 refine Yw ?_
 have b1:=Z2 w (.cells #[i64 p.off,i64 p.from_,i64 p.to_] 38)
 have f1:=Fr.alloc no w (.cells #[i64 p.off,i64 p.from_,i64 p.to_] 38)
 show pFn P _ _ (w.alloc (.cells #[i64 p.off,i64 p.from_,i64 p.to_] 38)) _
 generalize w.alloc (.cells #[i64 p.off,i64 p.from_,i64 p.to_] 38)=w1 at *
 have h1:=h.fr f1 fun b hb=>hb.elim
 refine Ct h1 (YP ?_)
 cases ho:S.off with
 |true=>
  have hr:S.Vn p=S:=by unfold AD.Vn;rw[ho];rfl
  rw[hr] at hk
  exact Zf (hk w1 (RNx.quiet h f1))
 |false=>
  have hr:S.Vn p= { S with plan:=p,since:=0}:=by unfold AD.Vn;rw[ho];rfl
  rw[hr] at hk
  refine Zk (Xm (m:=3) (isAgg38 _) (sizeOf38 _) b1 (by show 0+3≤3;decide) ?_)
  refine Zn (JG (Va (n:=3) (vs:=[i64 p.off,i64 p.from_,i64 p.to_]) (sizeOf38 _) rfl (by intro v hv;simp at hv;rcases hv with rfl|rfl|rfl<;>rfl) h1.disk (by show 7+3≤11;decide) fun w2 d2 f2 z2=> ?_))
  refine Zn (Qm (YA (sizeOf3 _) rfl rfl d2 (by show 6<11;decide) ?_))
  have d3:=Z6 d2 6 (i64 0)
  have f3:Fr (fun b=>b=D) w1 (w2.setCell ⟨D,6,none⟩ (i64 0)):=f2.trans (Fr.setCell w2 ⟨D,6,none⟩ _) fun b=> .inl
  exact hk _ (RNx.of0 f1 (h1.cell (S':= { S with plan:=p,since:=0}) f3 d3 rfl rfl rfl rfl rfl rfl))
theorem jk (h:YC w D S O I L) (hk:∀w' L',RNx w D O I w' S.YW O I L'→k (.tuple #[]) w'):pFn P 126 [ptr D] w k:=by
 refine WX _ _ _ ?_
 unfold Gl
 refine GL Ju (Zk (Zn (JH (YA (sizeOf56 _) rfl rfl h.disk (by show 10<11;decide) ?_))))
 have d2:=Z6 h.disk 10 (.slice none 0 0)
 have f2:Fr (fun b=>b=D) w (w.setCell ⟨D,10,none⟩ (.slice none 0 0)):=Fr.setCell w ⟨D,10,none⟩ _
 have hnI:∀b,I b→¬(b=D):=fun b hb e=>h.apart b (e▸h.oD) hb
 refine hk _ { L with toldv:= .slice none 0 0} ⟨h.plain (S':=S.YW) (L':= { L with toldv:= .slice none 0 0}) f2 (fun b hb=> .inl (.inl hb)) d2 rfl h.sub rfl rfl rfl (Nat.le_refl _) (h.now.fr f2 hnI) (h.bef.fr f2 hnI) (Z4 h.turns f2 ?_) ⟨rfl,.inl ⟨rfl,rfl⟩⟩ (fun b=>id) (fun b=>id) h.oturn (by rintro b hb;cases hb) h.apart (by intro b hb;have:=h.lt b hb;simpa[World.setCell] using this),f2.mono fun b hb=> .inl (hb▸h.oD),fun b=>id,fun b=>id,fun b=> .inl,fun b=> .inl⟩
 rintro b hb rfl
 obtain⟨c1,h1'⟩:=Z0 h.turns hb
 exact absurd (Zy h1' h.disk) (by decide)
theorem jl {c:Nat} (h:YC w D S O I L) (ok:S.Ok c) (name:ByteArray) (hk:k (.tuple #[i64 (AD.sizeOf S name),i64 (S.look name)]) w):pFn P 120 [ptr D,.string name] w k:=by
 have hlen:=YY ok
 refine WU _ _ _ _ ?_
 unfold FU
 refine Uo h (by omega) (Xa ok) name (fun hl i=> ?_) fun hl i hi he=> ?_
 ·unfold AD.sizeOf at hk
  rw[if_neg hl] at hk
  exact ZG rfl (ZG rfl (Y0 hl (Zk hk)))
 ·unfold AD.sizeOf at hk
  rw[if_pos hl,hl] at hk
  refine ZG rfl (ZG rfl (ZY rfl (Zf ?_)))
  refine Zn (Yx (Zj (v:=L.nowv) (isAgg59 _) h.disk rfl (XA h.now.1 hi fun p q=> ?_)))
  have e2:S.shown[i].2=S.of name:=by rw[he]
  rw[e2]
  have hr:L.has (S.of name):=h.sub _ (.inl ⟨name,by rw[←he];exact List.getElem_mem hi⟩)
  obtain⟨sv,hv,ps,hb,h1,h2,_⟩:=(h.things _ hr).ex
  obtain⟨A,c',ev,_⟩:=h2.1.form
  subst ev
  exact Zn (Xp (Zj (v:= .slice A (S.things (S.of name)).shown.length c') (isAgg36 _) hb rfl (Yn Ya hk)))
end
end Go.Proofs.YtcdcojpfealppaaGreat
