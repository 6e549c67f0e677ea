/- Put together by a program (wip/tools/shake.py): Rep,Names,Turns,Rename,Stroke. -/
import Derived.Test.YtcdcojpfealppaaGreatY2
import Derived.Test.YtcdcojpfealppaaGreatY4
import Derived.Test.YtcdcojpfealppaaGreatY5
import Derived.Test.YtcdcojpfealppaaGreatY6
import Derived.Test.YtcdcojpfealppaaGreatY3
set_option linter.unusedVariables false
set_option linter.unusedSimpArgs false
set_option maxRecDepth 100000
open Go.Proofs.Tryz renaming prog → Z
open Go renaming World → Y, Value → V
namespace Go.Proofs.YtcdcojpfealppaaGreat
open Go Go.Proofs Go.RowKit Go.Proofs.XRed Go.Proofs.XHeap Go.Proofs.XMaps Go.Proofs.XSlices Go.Proofs.XDisk Tryz
noncomputable abbrev P:Program:=Z
inductive All2 {α β:Type} (R:α→β→Prop):List α→List β→Prop where
 |nil:All2 R [] []
 |cons {a b l m}:R a b→All2 R l m→All2 R (a::l) (b::m)
def ptr (b:Nat):V:= .pointer (some ⟨b,0,none⟩)
abbrev i64 (n:Int):V:= .int .i64 n
def SB (w:Y) (I:Nat→Prop) (v:V) (bs:Bytes):Prop:=Z5 w v bs∧∀b,Zv v=some b→I b
def Yb (loc:Nat→Nat):Turn→V
 | .mk n t=> .iface 126 (.agg #[.string n,ptr (loc t)])
 | .give a b=> .iface 172 (.agg #[.string a,.string b])
 | .take n=> .iface 177 (.string n)
def JL (w:Y) (I:Nat→Prop):Chg→V→Prop
 | .wr a d,v=>∃s,v= .iface 184 (.agg #[i64 a,s])∧SB w I s d
 | .cut n,v=>v= .iface 189 (i64 n)
def Z3 (s:QI):List V:=[.string s.name,i64 s.at_,i64 s.n]
structure VM (w:Y) (O I:Nat→Prop) (T:Nat) (rb:V) (x:Thg):Prop where
 ex:∃sv hv cs,w.heap[T]? =some (.cells #[sv,hv,rb] 124 (0,0))∧SB w I sv x.safe∧SB w I hv x.shown∧w.ownsRow 0 130 1 rb x.row.length cs∧All2 (JL w I) x.row cs
 own:O T
 rown:∀b,Zv rb=some b→O b
structure Lay where
 sh:Nat
 sf:Nat
 loc:Nat→Nat
 trow:Nat→V
 rowv:V
 readsv:V
 lsh:Names
 lsf:Names
def Yy (S:AD) (L:Lay):Array V:=
 #[i64 S.room,.map (some L.sh),.map (some L.sf),L.rowv,i64 S.strokes,i64 S.plan.off,i64 S.plan.from_,i64 S.plan.to_,i64 S.since,.bool S.off,L.readsv]
def ZD (L:Lay) (l:Names):List (ByteArray×V):=l.map fun p=>(p.1,ptr (L.loc p.2))
structure Yi (w:Y) (D:Nat) (S:AD) (O I:Nat→Prop) (L:Lay):Prop where
 disk:w.heap[D]? =some (.cells (Yy S L) 58 (0,0))
 sh:SMap w L.sh (ZD L L.lsh)
 shp:L.lsh.Perm S.shown
 sf:SMap w L.sf (ZD L L.lsf)
 sfp:L.lsf.Perm S.safe
 ne:L.sh≠L.sf
 row:w.ownsRow 0 136 1 L.rowv S.row.length (S.row.map (Yb L.loc))
 reads:w.ownsRow 0 134 3 L.readsv S.reads.length (S.reads.flatMap Z3)
 things:∀t,reach S t→VM w O I (L.loc t) (L.trow t) (S.things t)
 inj:∀t u,reach S t→reach S u→L.loc t=L.loc u→t=u
 rows:∀t u,reach S t→reach S u→t≠u→∀b,Zv (L.trow t)=some b→Zv (L.trow u)≠some b
 oD:O D
 osh:O L.sh
 osf:O L.sf
 orow:∀b,Zv L.rowv=some b→O b
 oreads:∀b,Zv L.readsv=some b→O b
 apart:∀b,O b→¬I b
 lt:∀b,O b∨I b→b<w.heap.size
theorem SB.fr {O I:Nat→Prop} {w w':Y} {v:V} {bs:Bytes} (h:SB w I v bs) (hf:Fr O w w') (hn:∀b,I b→¬O b):SB w' I v bs:=⟨h.1.fr hf fun b hb=>hn b (h.2 b hb),h.2⟩
theorem SB.mono {I I':Nat→Prop} {w:Y} {v:V} {bs:Bytes} (h:SB w I v bs) (hi:∀b,I b→I' b):SB w I' v bs:=⟨h.1,fun b hb=>hi b (h.2 b hb)⟩
theorem JL.fr {O I:Nat→Prop} {w w':Y} {c:Chg} {v:V} (h:JL w I c v) (hf:Fr O w w') (hn:∀b,I b→¬O b):JL w' I c v:=by
 cases c with
 |wr a d=>obtain⟨s,hv,hs⟩:=h;exact⟨s,hv,hs.fr hf hn⟩
 |cut n=>exact h
theorem JL.mono {I I':Nat→Prop} {w:Y} {c:Chg} {v:V} (h:JL w I c v) (hi:∀b,I b→I' b):JL w I' c v:=by
 cases c with
 |wr a d=>obtain⟨s,hv,hs⟩:=h;exact⟨s,hv,hs.mono hi⟩
 |cut n=>exact h
theorem Xq {α β:Type} {R R':α→β→Prop} {l:List α} {m:List β} (h:All2 R l m) (hr:∀a b,R a b→R' a b):All2 R' l m:=by
 induction h with
 |nil=>exact .nil
 |cons h _ ih=>exact .cons (hr _ _ h) ih
theorem All2.length {α β:Type} {R:α→β→Prop} {l:List α} {m:List β} (h:All2 R l m):m.length=l.length:=by
 induction h with
 |nil=>rfl
 |cons _ _ ih=>simp[ih]
theorem All2.snoc {α β:Type} {R:α→β→Prop} {l:List α} {m:List β} {a:α} {b:β} (h:All2 R l m) (hr:R a b):All2 R (l++[a]) (m++[b]):=by
 induction h with
 |nil=>exact .cons hr .nil
 |cons h _ ih=>exact .cons h ih
theorem All2.at_ {α β:Type} {R:α→β→Prop} {l:List α} {m:List β} (h:All2 R l m):∀ {i:Nat} {a:α},l[i]? =some a→∃b,m[i]? =some b∧R a b:=by
 induction h with
 |nil=>intro i a ha;simp at ha
 |cons h _ ih=>
  intro i a ha
  cases i with
  |zero=>simp at ha;subst ha;exact⟨_,rfl,h⟩
  |succ i=>exact ih (by simpa using ha)
theorem VM.fr {O O' I M:Nat→Prop} {w w':Y} {T:Nat} {rb:V} {x:Thg} (h:VM w O I T rb x) (hf:Fr M w w') (hT:¬M T) (hr:∀b,Zv rb=some b→¬M b) (hn:∀b,I b→¬M b):VM w' O I T rb x:=by
 obtain⟨⟨sv,hv,cs,hb,h1,h2,h3,h4⟩,h5,h6⟩:=h
 exact⟨⟨sv,hv,cs,hf.get hb hT,h1.fr hf hn,h2.fr hf hn,Z4 h3 hf hr,Xq h4 fun a b hab=>hab.fr hf hn⟩,h5,h6⟩
theorem VM.mono {O O' I I':Nat→Prop} {w:Y} {T:Nat} {rb:V} {x:Thg} (h:VM w O I T rb x) (ho:∀b,O b→O' b) (hi:∀b,I b→I' b):VM w O' I' T rb x:=by
 obtain⟨⟨sv,hv,cs,hb,h1,h2,h3,h4⟩,h5,h6⟩:=h
 exact⟨⟨sv,hv,cs,hb,h1.mono hi,h2.mono hi,h3,Xq h4 fun a b hab=>hab.mono hi⟩,ho _ h5,fun b hb=>ho _ (h6 b hb)⟩
theorem Yi.fr {w w':Y} {D:Nat} {S:AD} {O I M:Nat→Prop} {L:Lay} (h:Yi w D S O I L) (hf:Fr M w w') (hn:∀b,M b→¬O b∧¬I b):Yi w' D S O I L where
 disk:=hf.get h.disk fun hm=>(hn _ hm).1 h.oD
 sh:=h.sh.fr hf fun hm=>(hn _ hm).1 h.osh
 shp:=h.shp
 sf:=h.sf.fr hf fun hm=>(hn _ hm).1 h.osf
 sfp:=h.sfp
 ne:=h.ne
 row:=Z4 h.row hf fun b hb hm=>(hn _ hm).1 (h.orow b hb)
 reads:=Z4 h.reads hf fun b hb hm=>(hn _ hm).1 (h.oreads b hb)
 things:=fun t ht=>(h.things t ht).fr (O':=O) hf (fun hm=>(hn _ hm).1 (h.things t ht).own) (fun b hb hm=>(hn _ hm).1 ((h.things t ht).rown b hb)) fun b hi hm=>(hn _ hm).2 hi
 inj:=h.inj
 rows:=h.rows
 oD:=h.oD
 osh:=h.osh
 osf:=h.osf
 orow:=h.orow
 oreads:=h.oreads
 apart:=h.apart
 lt:=fun b hb=>Nat.lt_of_lt_of_le (h.lt b hb) hf.size
section
variable {w:Y} {D:Nat} {S:AD} {L:Lay} {k:KV}
theorem Vz (h:w.heap[D]? =some (.cells (Yy S L) 58 (0,0))) (hr:1≤S.room) (hk:k (.bool false) w):pFn P 82 [ptr D] w k:=by
 refine zbh _ _ _ ?_
 unfold xl ptr
 refine YJ Kt ?_
 refine Zl rfl ?_
 refine Zl rfl (Zn ?_)
 refine Zl rfl (Km ?_)
 refine Zl rfl (Zj (isAgg3 _) h rfl ?_)
 refine Zl rfl (Cw ?_)
 refine Dd ?_
 have:(S.room==0)=false:=by simp;omega
 simp only[Option.isNone_some,this]
 exact hk
theorem CH (h:w.heap[D]? =some (.cells (Yy S L) 58 (0,0))) (hr:1≤S.room) (hk:k (.bool S.off) w):pFn P 26 [ptr D] w k:=by
 refine zaj _ _ _ ?_
 unfold yN
 refine Vz h hr ?_
 refine Zl rfl ?_
 refine Zl rfl (Zn ?_)
 refine Zl rfl (BQ ?_)
 refine Zl rfl (Zj (isAgg4 _) h rfl ?_)
 exact Dd hk
theorem zb6 (h:w.heap[D]? =some (.cells (Yy S L) 58 (0,0))) (hr:1≤S.room) (hk:k (i64 S.room) w):pFn P 27 [ptr D] w k:=by
 refine zak _ _ _ ?_
 unfold yO
 refine Vz h hr ?_
 exact Zf (Zn (Km (Zj (isAgg3 _) h rfl hk)))
theorem BW (h:w.heap[D]? =some (.cells (Yy S L) 58 (0,0))) (hr:1≤S.room) (hk:k (i64 S.strokes) w):pFn P 57 [ptr D] w k:=by
 refine zau _ _ _ ?_
 unfold yW
 refine Vz h hr ?_
 exact Zf (Zn (Dx (Zj (isAgg3 _) h rfl hk)))
end
open Go.Proofs.XCalls
section
variable {w:Y} {D:Nat} {S:AD} {L:Lay} {k:KV}
theorem BX (s:ByteArray) (c:Int) (hk:k (i64 (Lib.indexByte s.data.toList c.toNat.toUInt8)) w):pFn P 144 [.string s,.int .u8 c] w k:=by
 refine J9 func144 (by kernel_rfl) (by kernel_rfl) (by kernel_rfl) (e:=Extern.BytealgIndexByte.indexByte) (by kernel_rfl) ?_
 exact Z9 (Lib.run_indexByteString s c w) hk
theorem BY (s:ByteArray) (c:Int) (hk:k (i64 (Lib.indexByte s.data.toList c.toNat.toUInt8)) w):pFn P 140 [.string s,.int .u8 c] w k:=by
 refine vg _ _ _ _ ?_
 unfold LV
 exact BX s c hk
theorem CI (s:ByteArray) (c:Int) (hk:k (i64 (Lib.indexByte s.data.toList c.toNat.toUInt8)) w):pFn P 132 [.string s,.int .u8 c] w k:=by
 refine vd _ _ _ _ ?_
 unfold LQ
 exact BY s c hk
theorem LX (pick b:Int) (hb:0<b):(if pick.tmod b<0 then pick.tmod b+b else pick.tmod b)=pick.emod b∧-b<pick.tmod b∧pick.tmod b<b:=by
 have e:= @Int.tmod_eq_emod pick b
 have e1:(b.natAbs:Int)=b:=by omega
 have e2:=Int.emod_nonneg pick (show b≠0 by omega)
 have e3:=Int.emod_lt_of_pos pick hb
 have e4:pick.emod b=pick%b:=rfl
 by_cases h:0≤pick∨b∣pick
 ·rw[if_pos h] at e
  simp only[Int.natCast_zero,Int.sub_zero] at e
  rw[if_neg (by omega)]
  omega
 ·rw[if_neg h,e1] at e
  have:pick%b≠0:=fun h'=>h (.inr (Int.dvd_of_emod_eq_zero h'))
  rw[if_pos (by omega)]
  omega
theorem vh {pick most:Int} (h0:0≤most) (h1:most≤4611686018427387904) (hk:k (i64 (pick.emod (most+1))) w):pFn P 107 [i64 pick,i64 most] w k:=by
 refine xI _ _ _ _ ?_
 unfold Lk
 obtain⟨e,e2,e3⟩:=LX pick (most+1) (by omega)
 refine Zp (by omega) ?_
 refine Eb (by omega) ?_
 refine zck ?_
 by_cases h:pick.tmod (most+1)<0
 ·rw[if_pos h] at e
  rw[decide_eq_true h]
  refine Zk ?_
  refine Zp (by omega) ?_
  refine Zp (by omega) ?_
  rw[BV]
  unfold Lm
  show k (i64 (pick.tmod (most+1)+(most+1))) w
  rw[e];exact hk
 ·rw[if_neg h] at e
  rw[decide_eq_false h]
  refine Zf ?_
  rw[BV]
  unfold Lm
  show k (i64 (pick.tmod (most+1))) w
  rw[e];exact hk
theorem zj3 (c:UInt8):YX c=((97≤c&&c≤122)||(48≤c&&c≤57)||decide (0≤Lib.indexByte [46,45,95,43] c)):=by
 rw[←Lib.contains_iff_indexByte]
 simp[YX,List.contains_cons,Bool.or_assoc,beq_iff_eq,Bool.beq_eq_decide_eq]
set_option maxHeartbeats 1000000 in
theorem AM (s:ByteArray) (hs:s.size≤9223372036854775807) (hk:k (.bool (isName s)) w):pFn P 98 [.string s] w k:=by
 refine zbw _ _ _ ?_
 unfold xH
 refine VV (by kernel_rfl) ?_
 refine Lj (m:=s.size) k (fun m ρ w'=>w'=w∧ρ 0= .string s∧ρ 6=i64 s.size∧∃i:Nat,ρ 7=i64 i∧i+m=s.size∧∀j (hj:j<s.size),j<i→YX s[j]=true) ?_ ⟨rfl,rfl,rfl,0,rfl,by omega,fun j _ hj=>absurd hj (by omega)⟩
 rintro m ρ w' ⟨rfl,h0,h6,i,h7,him,hok⟩
 rw[R6]
 unfold zbu
 rw[h0,h6,h7]
 refine zck ?_
 by_cases hi:i<s.size
 · rw [decide_eq_true (by omega)]
   refine Zk (jo (by kernel_rfl) hi ?_)
   have hix:=zj3 s[i]
   generalize hc:s[i]=c at *
   have hn:c.toNat.toUInt8=c:=by simp
   have hlt:=c.toNat_lt
   have hb:YX c=(decide (97≤c.toNat∧c.toNat≤122)||decide (48≤c.toNat∧c.toNat≤57)||decide (0≤Lib.indexByte [46,45,95,43] c)):=by
     rw[hix];simp[UInt8.le_iff_toNat_le,Bool.decide_and]
   have next:YX c=true→∀j (hj:j<s.size),j<i+1→YX s[j]=true:=by
     intro h j hj hji
     by_cases e:j=i
     · subst e;rw[hc];exact h
     · exact hok j hj (by omega)
   have bad:YX c=false→isName s=false:=by
     intro h
     unfold isName
     have:s.data.toList.all YX=false:=by
       rw[Bool.eq_false_iff]
       intro ha
       rw[List.all_eq_true] at ha
       have:=ha c (by
         rw[←hc]
         have:i<s.data.toList.length:=by simpa using hi
         have e:s[i]=s.data.toList[i]:=rfl
         rw[e];exact List.getElem_mem _)
       rw[h] at this;cases this
     simp[this]
   have eb:((c.toNat:Int).toNat).toUInt8=c:=by simp
   have el:(ByteArray.mk #[46,45,95,43]).data.toList=[46,45,95,43]:=rfl
   by_cases a1:(c.toNat:Int)<97<;>by_cases a2:(c.toNat:Int)>122<;>by_cases a3:(c.toNat:Int)<48<;>by_cases a4:(c.toNat:Int)>57
   all_goals try (exfalso;omega)
   all_goals
     repeat (first|refine Zl rfl ?_|refine V9 ?_|refine Yh ?_|refine YF ?_|refine ZA (by assumption) ?_|refine ZB (by assumption) ?_|refine YQ (by assumption) ?_|refine YI (by assumption) ?_|refine Zx ?_|refine Zr ?_|refine Zk ?_|refine Zf ?_)
   all_goals first
     | (refine Zp       (by omega) ?_
        exact⟨m-1,by omega,rfl,h0,h6,i+1,rfl,by omega,next (by rw[hb,decide_eq_true (show 97≤c.toNat∧c.toNat≤122 by omega)];rfl)⟩)
     | (refine Zp       (by omega) ?_
        exact⟨m-1,by omega,rfl,h0,h6,i+1,rfl,by omega,next (by rw[hb,decide_eq_true (show 48≤c.toNat∧c.toNat≤57 by omega)];simp)⟩)
     |skip
   all_goals
     refine CI _ _ ?_
     rw[eb,el]
     have hb':YX c=decide (0≤Lib.indexByte [46,45,95,43] c):=by
       rw[hb,decide_eq_false (show¬(97≤c.toNat∧c.toNat≤122) by omega),decide_eq_false (show¬(48≤c.toNat∧c.toNat≤57) by omega)];rfl
     by_cases C:Lib.indexByte [46,45,95,43] c<0
     · repeat (first | refine Zl     rfl ?_ | refine V9    ?_ | refine Yh     ?_ | refine YF    ?_ | refine ZA     (by assumption) ?_ | refine ZB     (by assumption) ?_ | refine YQ     (by assumption) ?_ | refine YI     (by assumption) ?_ | refine Zx       ?_ | refine Zr       ?_ | refine Zk      ?_ | refine Zf       ?_)
       rw[bad (by rw[hb'];exact decide_eq_false (by omega))] at hk
       exact hk
     · repeat (first | refine Zl     rfl ?_ | refine V9    ?_ | refine Yh     ?_ | refine YF    ?_ | refine ZA     (by assumption) ?_ | refine ZB     (by assumption) ?_ | refine YQ     (by assumption) ?_ | refine YI     (by assumption) ?_ | refine Zx       ?_ | refine Zr       ?_ | refine Zk      ?_ | refine Zf       ?_)
       refine Zp (by omega) ?_
       exact⟨m-1,by omega,rfl,h0,h6,i+1,rfl,by omega,next (by rw[hb'];exact decide_eq_true (by omega))⟩
 · rw [decide_eq_false (by omega)]
   refine Zf ?_
   rw[R7]
   unfold zbv
   have hall:s.data.toList.all YX=true:=by
     rw[List.all_eq_true]
     intro c hc
     obtain⟨j,hj,rfl⟩:=List.getElem_of_mem hc
     have hj':j<s.size:=by simpa using hj
     exact hok j hj' (by omega)
   have hfin:isName s=(decide (s≠ByteArray.mk #[])&&decide (s.size≤112)):=by
     unfold isName
     rw[hall,Bool.true_and]
     congr 1
     have:s≠ByteArray.mk #[]↔1≤s.size:=by
       constructor
       · intro h
         rcases Nat.eq_zero_or_pos s.size with h'|h'
         · exact absurd (ByteArray.ext (Array.eq_empty_of_size_eq_zero h')) h
         · exact h'
       · rintro h rfl;exact absurd h (by decide)
     exact decide_eq_decide.2 this.symm
   have h0':put ρ 8 (.bool false) 0= .string s:=h0
   rw[h0']
   refine UN ?_
   by_cases e:s=ByteArray.mk #[]
   · rw [decide_eq_true e]
     refine V9 ?_
     refine V9 ?_
     refine V9 ?_
     refine Zr ?_
     rw[hfin] at hk
     simpa[e] using hk
   · rw [decide_eq_false e]
     refine Zl rfl (Zl rfl (VV (by kernel_rfl) (Zl rfl (zcl (Zx ?_)))))
     rw[hfin] at hk
     have:decide ((s.size:Int)≤112)=decide (s.size≤112):=decide_eq_decide.2 (by omega)
     rw[this]
     simpa[e] using hk
end
theorem Z0 {w:Y} {base size n:Nat} {e:TypeId} {v:V} {xs:List V} (h:w.ownsRow base e size v n xs) {b:Nat} (hb:Zv v=some b):∃cur,w.heap[b]? =some (.cells cur e (0,0)):=by
 rcases h.2 with ⟨rfl,_⟩|⟨g,cap,cur,rfl,_,hh,_⟩
 ·cases hb
 ·simp only[Zv,Option.some.injEq] at hb
  subst hb;exact⟨cur,hh⟩
theorem Zy {w:Y} {b:Nat} {c c':Array V} {T T':TypeId} {f f':Nat×Nat} (h:w.heap[b]? =some (.cells c T f)) (h':w.heap[b]? =some (.cells c' T' f')):T=T':=by
 rw[h] at h';injection h' with h';injection h'
theorem SMap.obj {w:Y} {m:Nat} {l:List (ByteArray×V)} (h:SMap w m l):∃es c,w.heap[m]? =some (.map es c):=by obtain⟨es,c,h,_⟩:=h;exact⟨es,c,h⟩
section
variable {w:Y} {D:Nat} {S:AD} {O I:Nat → Prop} {L:Lay}
def Own (L:Lay) (D b:Nat):Prop:=b=D∨b=L.sh∨b=L.sf∨Zv L.rowv=some b∨Zv L.readsv=some b
theorem Yi.own (h:Yi w D S O I L) {b:Nat} (hb:Own L D b):O b:=by
 rcases hb with rfl|rfl|rfl|hb|hb
 ·exact h.oD
 ·exact h.osh
 ·exact h.osf
 ·exact h.orow _ hb
 ·exact h.oreads _ hb
theorem Yi.RL (h:Yi w D S O I L) {b:Nat} (hb:Own L D b) {c:Array V} {T:TypeId} {f:Nat×Nat} (hT:T=124∨T=130∨T=5):w.heap[b]?≠some (.cells c T f):=by
 intro hc
 have key:∀(T':TypeId),T'=58∨T'=136∨T'=134→T=T'→False:=by
  intro T' h1 h2
  subst h2
  rcases hT with rfl|rfl|rfl<;>rcases h1 with h1|h1|h1<;>exact absurd h1 (by decide)
 rcases hb with rfl|rfl|rfl|hb|hb
 ·exact key _ (.inl rfl) (Zy hc h.disk)
 ·obtain⟨_,_,hm⟩:=SMap.obj h.sh;rw[hm] at hc;cases hc
 ·obtain⟨_,_,hm⟩:=SMap.obj h.sf;rw[hm] at hc;cases hc
 ·obtain⟨_,hm⟩:=Z0 h.row hb;exact key _ (.inr (.inl rfl)) (Zy hc hm)
 ·obtain⟨_,hm⟩:=Z0 h.reads hb;exact key _ (.inr (.inr rfl)) (Zy hc hm)
theorem VM.obj {T:Nat} {rb:V} {x:Thg} (h:VM w O I T rb x):∃c,w.heap[T]? =some (.cells c 124 (0,0)):=by obtain⟨⟨_,_,_,h,_⟩,_⟩:=h;exact⟨_,h⟩
theorem VM.Mg {T:Nat} {rb:V} {x:Thg} (h:VM w O I T rb x) {b:Nat} (hb:Zv rb=some b):∃c,w.heap[b]? =some (.cells c 130 (0,0)):=by obtain⟨⟨_,_,_,_,_,_,h,_⟩,_⟩:=h;exact Z0 h hb
theorem VM.stay {w':Y} {T:Nat} {rb:V} {x:Thg} {M:Nat→Prop} (h:Yi w D S O I L) (ht:VM w O I T rb x) (hf:Fr M w w') (hM:∀b,M b→Own L D b∨w.heap.size≤b):VM w' O I T rb x:=by
 refine ht.fr (O':=O) (hf.mono (O':=Own L D) hM) ?_ ?_ ?_
 ·intro hm;obtain⟨c,hc⟩:=ht.obj;exact h.RL hm (.inl rfl) hc
 ·intro b hb hm;obtain⟨c,hc⟩:=ht.Mg hb;exact h.RL hm (.inr (.inl rfl)) hc
 ·intro b hi hm;exact h.apart b (h.own hm) hi
theorem Xg (L:Lay) (l:Names) (s:ByteArray):ZV (ZD L l) s=(ZV l s).map fun t=>ptr (L.loc t):=by
 unfold ZV ZD
 rw[List.find?_map]
 cases h:List.find? ((fun p=>decide (p.1=s))∘fun p:ByteArray×Nat=>(p.1,ptr (L.loc p.2))) l with
 |none=>
  have:List.find? (fun p=>decide (p.1=s)) l=none:=h
  rw[this];rfl
 |some p=>
  have:List.find? (fun p=>decide (p.1=s)) l=some p:=h
  rw[this];rfl
theorem VW (L:Lay) (l:Names):ZH (ZD L l)=ZH l:=by simp[ZH,ZD,Function.comp_def]
theorem Yi.vq (h:Yi w D S O I L):(ZH L.lsh).Nodup:=by have:=h.sh.nodup;rwa [VW] at this
theorem Yi.zcr (h:Yi w D S O I L):(ZH L.lsf).Nodup:=by have:=h.sf.nodup;rwa [VW] at this
theorem Yi.get (h:Yi w D S O I L) (s:ByteArray):ZV (ZD L L.lsh) s=(ZV S.shown s).map fun t=>ptr (L.loc t):=by rw[Xg,YU h.shp h.vq]
variable {k:KV}
theorem UI (h:Yi w D S O I L) (hr:1≤S.room) (s:ByteArray) (hs:s.size≤9223372036854775807)
   (hk:k (.tuple #[if S.look s=0 then ptr (L.loc (S.of s)) else .pointer none,i64 (S.look s)]) w):pFn P 78 [ptr D,.string s] w k:=by
 refine zbe _ _ _ _ ?_
 unfold xg
 refine CH h.disk hr ?_
 unfold AD.look AD.of at hk
 cases ho:S.off with
 |true=>simp only[ho,if_true] at hk;exact Zk hk
 | false =>
   refine Zf (AM s hs (YP ?_))
   simp only[ho,Bool.false_eq_true,if_false] at hk
   cases hn:isName s with
   |false=>simp only[hn,Bool.not_false,if_true] at hk;exact Zk hk
   | true =>
     simp only[hn,Bool.not_true,Bool.false_eq_true,if_false] at hk
     refine Zf (Zn (XF (Zj (isAgg54 _) h.disk rfl ?_)))
     refine Mi h.sh s (zeroValue117 _) ?_
     rw[h.get]
     cases hg:ZV S.shown s with
     | none =>
       simp only[hg] at hk
       exact YJ JJ (Zk hk)
     | some t =>
       simp only[hg] at hk
       refine YJ JJ (Zf ?_)
       refine Zn (XF (Zj (isAgg54 _) h.disk rfl ?_))
       refine Mi h.sh s (zeroValue117 _) ?_
       rw[h.get,hg]
       exact hk
theorem Ev {m:Nat} {l:List (ByteArray×V)} {n:ByteArray} {v:V} (h:SMap w m l) (hk:∀w',SMap w' m (Xs l n v)→Fr (fun b=>b=m) w w'→k (.tuple #[]) w'):pFn P 179 [.agg #[.string n,v],.map (some m)] w k:=by
 refine xJ _ _ _ _ ?_
 unfold Ln
 refine Yw ?_
 have hb:=Z2 w (.cells #[.string n,v] 126)
 refine Ko (Zj (isAgg9 _) hb rfl ?_)
 refine C9 (Zj (isAgg117 _) hb rfl ?_)
 refine gW (h.alloc _) n v fun w' h' hf _=>hk w' h' ((Fr.alloc _ w _).trans hf fun b hb=> .inl hb)
theorem Ew {m:Nat} {l:List (ByteArray×V)} {n:ByteArray} (h:SMap w m l) (hk:∀w',SMap w' m (Yg l n)→Fr (fun b=>b=m) w w'→k (.tuple #[]) w'):pFn P 183 [.string n,.map (some m)] w k:=by
 refine xN _ _ _ _ ?_
 unfold Lv
 exact zke h n fun w' h' hf _=>hk w' h' hf
theorem Ex {m:Nat} {l:List (ByteArray×V)} {a b:ByteArray} {v:V} (h:SMap w m l) (hv:ZV l a=some v) (hk:∀w',SMap w' m (Xs (Yg l a) b v)→Fr (fun b=>b=m) w w'→k (.tuple #[]) w'):pFn P 181 [.agg #[.string a,.string b],.map (some m)] w k:=by
 refine xL _ _ _ _ ?_
 unfold Lr
 refine Yw ?_
 have hb:=Z2 w (.cells #[.string a,.string b] 172)
 refine Kp (Zj (isAgg9 _) hb rfl ?_)
 have hA:=h.alloc (.cells #[.string a,.string b] 172)
 refine Mi hA a (zeroValue117 _) ?_
 rw[hv]
 refine Kp (Zj (isAgg9 _) hb rfl ?_)
 refine zke hA a fun w1 h1 hf1 hz1=> ?_
 have hne:w.heap.size≠m:=Nat.ne_of_gt h.lt
 have hb1:=hf1.get hb hne
 refine y6 (Zj (isAgg9 _) hb1 rfl ?_)
 refine gW h1 b v fun w' h' hf _=>hk w' h' (((Fr.alloc _ w _).trans hf1 fun b hb=> .inl hb).trans hf fun b hb=> .inl hb)
theorem XW (L:Lay) (l:Names) (s:ByteArray) (t:Nat):Xs (ZD L l) s (ptr (L.loc t))=ZD L (Xs l s t):=by
 have e:((ZD L l).any fun p=>decide (p.1=s))=(l.any fun p=>decide (p.1=s)):=by simp[ZD,List.any_map,Function.comp_def]
 unfold Xs
 rw[e]
 split
 ·simp only[ZD,List.map_map]
  refine List.map_congr_left fun p _=> ?_
  simp only[Function.comp]
  split<;>rfl
 ·simp[ZD]
theorem Ji (L:Lay) (l:Names) (s:ByteArray):Yg (ZD L l) s=ZD L (Yg l s):=by
 simp[Yg,ZD,List.filter_map,Function.comp_def]
theorem zkf {m:Nat} {l:Names} (c:Turn) (hc:∀a b,c= .give a b→ZV l a≠none) (h:SMap w m (ZD L l)) (hk:∀w',SMap w' m (ZD L (c.onL l))→Fr (fun b=>b=m) w w'→k (.tuple #[]) w'):
   AS P (Yb L.loc c) "freight/disk.on" [.map (some m)] w k:=by
 cases c with
 | mk n t =>
   refine Js (f:=179) (by kernel_rfl) underlying126 (fun e h=>by cases h) (Ev h fun w' h' hf=>hk w' ?_ hf)
   rw[XW] at h';exact h'
 | give a b =>
   cases hg:ZV l a with
   |none=>exact absurd hg (hc a b rfl)
   | some t =>
     refine Js (f:=181) (by kernel_rfl) underlying172 (fun e h=>by cases h) (Ex (v:=ptr (L.loc t)) h (by rw[Xg,hg];rfl) fun w' h' hf=>hk w' ?_ hf)
     rw[Ji,XW] at h'
     unfold Turn.onL
     simp only[hg,Option.getD_some];exact h'
 | take n =>
   refine Js (f:=183) (by kernel_rfl) underlying177 (fun e h=>by cases h) (Ew h fun w' h' hf=>hk w' ?_ hf)
   rw[Ji] at h';exact h'
end
structure Nx (w:Y) (D:Nat) (O I:Nat→Prop) (w':Y) (S':AD) (O' I':Nat→Prop) (L':Lay):Prop where
 rep:Yi w' D S' O' I' L'
 fr:Fr O w w'
 oo:∀b,O b→O' b
 ii:∀b,I b→I' b
 on:∀b,O' b→O b∨w.heap.size≤b
 in_:∀b,I' b→I b∨w.heap.size≤b
theorem ZW {w:Y} {base size n:Nat} {e:TypeId} {v:V} {xs:List V} (h:w.ownsRow base e size v n xs):v.cells= #[v]∧v.oneCell'=true:=by
 rcases h.2 with ⟨rfl,_⟩|⟨g,cap,cur,rfl,_⟩<;>exact⟨rfl,rfl⟩
theorem Q0 (loc:Nat→Nat) (c:Turn):(Yb loc c).cells= #[Yb loc c]∧(Yb loc c).oneCell'=true:=by cases c<;>exact⟨rfl,rfl⟩
section
variable {w:Y} {D:Nat} {S:AD} {O I:Nat → Prop} {L:Lay} {k:KV}
theorem vi (loc:Nat→Nat) (c:Turn) (hk:k (.func (.method "freight/disk.on") #[Yb loc c] #[]) w):px P (Zh (.func (.method "freight/disk.on") #[Yb loc c] #[])) w k:=by
 cases c with
 |mk n t=>exact Vv (f:=179) (by kernel_rfl) underlying126 (fun e h=>by cases h) hk
 |give a b=>exact Vv (f:=181) (by kernel_rfl) underlying172 (fun e h=>by cases h) hk
 |take n=>exact Vv (f:=183) (by kernel_rfl) underlying177 (fun e h=>by cases h) hk
theorem XG {c:Turn} (hc:∀a b,c= .give a b→ZV S.shown a≠none) {t:Nat} (h:reach (S.YE c) t):reach S t∨∃n,c= .mk n t:=by
 rcases h with ⟨n,h⟩|⟨n,h⟩|⟨n,h⟩
 ·cases c with
  |mk m u=>
   rcases Xc.1 h with h|h
   ·injection h with h1 h2;subst h2;exact .inr ⟨m,rfl⟩
   ·exact .inl (.inl ⟨n,h.1⟩)
  |give a b=>
   rcases Xc.1 h with h|h
   ·injection h with h1 h2
    cases hg:ZV S.shown a with
    |none=>exact absurd hg (hc a b rfl)
    |some u=>rw[hg] at h2;subst h2;exact .inl (.inl ⟨a,ZU hg⟩)
   ·exact .inl (.inl ⟨n,(Yv.1 h.1).1⟩)
  |take m=>exact .inl (.inl ⟨n,(Yv.1 h).1⟩)
 ·exact .inl (.inr (.inl ⟨n,h⟩))
 ·rcases List.mem_append.1 h with h|h
  ·exact .inl (.inr (.inr ⟨n,h⟩))
  ·rw[List.mem_singleton] at h;exact .inr ⟨n,h.symm⟩
theorem AN (h:Yi w D S O I L) (c:Turn) (hl:S.row.length≤1099511627776) (hc:∀a b,c= .give a b→ZV S.shown a≠none)
   (ht:∀n t,c= .mk n t→¬reach S t→VM w O I (L.loc t) (L.trow t) (S.things t)∧∀u,reach S u→L.loc u≠L.loc t∧∀b,Zv (L.trow u)=some b→Zv (L.trow t)≠some b)
   (hk:∀w' O' L',Nx w D O I w' (S.YE c) O' I L'→k (.tuple #[]) w'):pFn P 81 [ptr D,Yb L.loc c] w k:=by
 refine zbg _ _ _ _ ?_
 unfold xk
 refine Zn (Uj (Zj (v:=L.rowv) (isAgg55 _) h.disk rfl ?_))
 refine Ku (Q0 L.loc c).1 ?_
 have fA:=Fr.alloc (fun _=>False) w (.cells #[Yb L.loc c] 136)
 have hOwn1:=ZQ w 0 136 1 #[Yb L.loc c] 1 (Nat.zero_le _) (by unfold maxLen;omega) rfl
 generalize hw1:w.alloc (.cells #[Yb L.loc c] 136)=w1 at *
 have hz1:w.heap.size<w1.heap.size:=by rw[←hw1];simp
 refine zkc (Z4 h.row fA fun _ _=>id) (Src.Zt hOwn1) (by intro u hu;rw[List.mem_singleton.1 hu];exact(Q0 _ _).2) (by omega) (Nat.zero_le _) ?_
 intro v' w2 h2 fB hb2
 have hD:∀ {b},Zv L.rowv=some b→b≠D:=by
   rintro b hb rfl
   obtain⟨c1,h1⟩:=Z0 h.row hb
   exact absurd (Zy h1 h.disk) (by decide)
 have hd2:=fB.get (fA.get h.disk id) (fun hb=>hD hb.symm rfl)
 refine Zn (Uj ?_)
 refine YA (sizeOf55 _) (ZW h2).1 (ZW h2).2 hd2 (by show 3<11;decide) ?_
 have hd3:=Z6 hd2 3 v'
 have fC:Fr (fun b=>b=D) w2 (w2.setCell ⟨D,3,none⟩ v'):=Fr.setCell w2 ⟨D,3,none⟩ v'
 generalize hw3:w2.setCell ⟨D,0+3,none⟩ v'=w3 at *
 have hz3:w3.heap.size=w2.heap.size:=by rw[←hw3];simp[World.setCell]
 have hshD:L.sh≠D:=by
   intro e;obtain⟨es,c1,h1⟩:=SMap.obj h.sh
   rw[e,h.disk] at h1;cases h1
 have hshR:∀ {b},Zv L.rowv=some b→b≠L.sh:=by
   rintro b hb rfl
   obtain⟨c1,h1⟩:=Z0 h.row hb
   obtain⟨es,c2,h3⟩:=SMap.obj h.sh
   rw[h1] at h3;cases h3
 refine⟨fun w=>∃cs,w.heap[D]? =some (.cells cs 58 (0,0))∧cs[1]? =some (.map (some L.sh)),⟨_,hd3,rfl⟩,?_⟩
 refine Zi _ (fun w_ hS=>Zn ⟨rfl,rfl⟩) ?_
 refine Zi _ (fun w_ hS=>XF ⟨rfl,rfl⟩) ?_
 refine Zi (.map (some L.sh)) (fun w_ hS=>by obtain⟨cs,h1,h2⟩:=hS;exact Zj (isAgg54 _) h1 h2 ⟨rfl,rfl⟩) ?_
 refine Zi _ (fun w_ hS=>US ⟨rfl,rfl⟩) ?_
 refine Zi _ (fun w_ hS=>vi L.loc c ⟨rfl,rfl⟩) ?_
 have hsh3':SMap w3 L.sh (ZD L L.lsh):=((h.sh.fr fA id).fr fB fun hb=>hshR hb.symm rfl).fr fC hshD
 have hsh3:SMap w3.drew L.sh (ZD L L.lsh):=hsh3'
 refine zkf c (fun a b e=>by rw[YU h.shp h.vq];exact hc a b e) hsh3 fun w4 h4 fD=> ?_
 have hd4:=fD.get (w':=w4) (show w3.drew.heap[D]? =_ from hd3) (fun e=>hshD e.symm)
 have hM:Fr (fun b=>b=D∨b=L.sh∨Zv L.rowv=some b) w w4:=by
   refine((((fA.or fB).or fC).or (Fr.drew (fun _=>False) w3)).or fD).mono ?_
   rintro b ((((hb|hb)|hb)|hb)|hb)
   · exact hb.elim
   · exact .inl (.inr (.inr hb.symm))
   · exact .inl (.inl hb)
   · exact hb.elim
   · exact .inl (.inr (.inl hb))
 have hOwn:∀b,(b=D∨b=L.sh∨Zv L.rowv=some b)→Own L D b:=by
   rintro b (hb|hb|hb)
   · exact .inl hb
   · exact .inr (.inl hb)
   · exact .inr (.inr (.inr (.inl hb)))
 have hnew:∀b,Zv v'=some b→Zv L.rowv=some b∨w.heap.size<b:=by
   intro b hb
   rcases hb2 with e|e
   · left;rw[←e];exact hb
   · right;rw[e] at hb;injection hb with hb;omega
 have hv4:∀b,Zv v'=some b→b<w4.heap.size:=by
   intro b hb
   have h1:=(Zu h2 hb).2
   have h3:=fD.size
   have:w3.drew.heap.size=w3.heap.size:=rfl
   omega
 have hv'D:∀b,Zv v'=some b→b≠D:=by
   rintro b hb rfl
   obtain⟨c1,h1⟩:=Z0 h2 hb
   exact absurd (Zy h1 hd2) (by decide)
 have hv'sh:∀b,Zv v'=some b→b≠L.sh:=by
   intro b hb e
   rcases hnew b hb with h1|h1
   · exact hshR h1 e
   · have:=h.lt _ (.inl h.osh);omega
 have hTf:∀ {T rb x},VM w O I T rb x→VM w4 O I T rb x:=fun ht=>ht.stay h hM fun b hb=> .inl (hOwn b hb)
 have hTm:∀ {T rb x},VM w4 O I T rb x→VM w4 (fun b=>O b∨Zv v'=some b) I T rb x:=fun ht=>ht.mono (O:=O) (fun b=> .inl) fun b=>id
 have hth:∀t,reach (S.YE c) t→VM w O I (L.loc t) (L.trow t) (S.things t):=by
   intro t hr
   by_cases hs:reach S t
   · exact h.things t hs
   · rcases XG           hc hr with hr | ⟨n,e⟩
     · exact absurd hr hs
     · exact(ht n t e hs).1
 have hpair:∀t u,reach (S.YE c) t→reach (S.YE c) u→t≠u→L.loc t≠L.loc u∧∀b,Zv (L.trow t)=some b→Zv (L.trow u)≠some b:=by
   intro t u h1 h2 hne
   by_cases a1:reach S t<;>by_cases a2:reach S u
   · exact⟨fun e=>hne (h.inj t u a1 a2 e),h.rows t u a1 a2 hne⟩
   · rcases XG           hc h2 with hr | ⟨n,e⟩
     · exact absurd hr a2
     · exact(ht n u e a2).2 t a1
   · rcases XG           hc h1 with hr | ⟨n,e⟩
     · exact absurd hr a1
     · have := (ht n t e a1).2 u a2
       exact⟨fun e=>this.1 e.symm,fun b hb hb'=>this.2 b hb' hb⟩
   · rcases XG           hc h1 with hr | ⟨n,e⟩
     · exact absurd hr a1
     · rcases XG           hc h2 with hr | ⟨m,e'⟩
       · exact absurd hr a2
       · rw[e] at e';injection e' with e1 e2;exact absurd e2 hne
 have hz:w.heap.size≤w4.heap.size:=hM.size
 refine hk w4 (fun b=>O b∨Zv v'=some b) { L with rowv:=v',lsh:=c.onL L.lsh} ⟨?_,hM.mono fun b hb=> .inl (h.own (hOwn b hb)),fun b=> .inl,fun b=>id,?_,fun b=> .inl⟩
 · exact {
     disk:=hd4
     sh:=h4
     shp:=c.D9 h.shp h.vq
     sf:=h.sf.fr hM (by
       rintro (e|e|e)
       · obtain ⟨es,c1,h1⟩ := SMap.obj h.sf
         rw[e,h.disk] at h1;cases h1
       · exact h.ne e.symm
       · obtain ⟨c1,h1⟩ := Z0      h.row e
         obtain⟨es,c2,h3⟩:=SMap.obj h.sf
         rw[h1] at h3;cases h3)
     sfp:=h.sfp
     ne:=h.ne
     row:=by
       have h5:=Z4 (Z4 h2 fC hv'D) ((Fr.drew (fun _=>False) w3).or fD) (by rintro b hb (h'|h');exact h'.elim;exact hv'sh b hb h')
       simpa[AD.YE] using h5
     reads:=Z4 h.reads hM (by
       rintro b hb (e|e|e)
       · obtain ⟨c1,h1⟩ := Z0      h.reads hb
         rw[e] at h1;exact absurd (Zy h1 h.disk) (by decide)
       · obtain ⟨c1,h1⟩ := Z0      h.reads hb
         obtain⟨es,c2,h3⟩:=SMap.obj h.sh
         rw[e,h3] at h1;cases h1
       · obtain ⟨c1,h1⟩ := Z0      h.reads hb
         obtain⟨c2,h3⟩:=Z0 h.row e
         exact absurd (Zy h1 h3) (by decide))
     things:=fun t hr=>hTm (hTf (hth t hr))
     inj:=fun t u h1 h2 e=>Classical.byContradiction fun hne=>(hpair t u h1 h2 hne).1 e
     rows:=fun t u h1 h2 hne=>(hpair t u h1 h2 hne).2
     oD:= .inl h.oD
     osh:= .inl h.osh
     osf:= .inl h.osf
     orow:=fun b hb=> .inr hb
     oreads:=fun b hb=> .inl (h.oreads b hb)
     apart:=by
       rintro b (hb|hb) hi
       · exact h.apart b hb hi
       · rcases hnew b hb with h1 | h1
         · exact h.apart b (h.orow b h1) hi
         · have:=h.lt b (.inr hi);omega
     lt:=by
       rintro b ((hb|hb)|hb)
       · have:=h.lt b (.inl hb);omega
       · exact hv4 b hb
       · have:=h.lt b (.inr hb);omega}
 · rintro b (hb | hb)
   · exact .inl hb
   · rcases hnew b hb with h1 | h1
     · exact .inl (h.orow b h1)
     · exact .inr (by omega)
end
theorem Nx.trans {w w1 w2:Y} {D:Nat} {O I O1 I1 O2 I2:Nat→Prop} {S1 S2:AD} {L1 L2:Lay} (h:Nx w D O I w1 S1 O1 I1 L1) (k:Nx w1 D O1 I1 w2 S2 O2 I2 L2):Nx w D O I w2 S2 O2 I2 L2 where
 rep:=k.rep
 fr:=h.fr.trans k.fr h.on
 oo:=fun b hb=>k.oo b (h.oo b hb)
 ii:=fun b hb=>k.ii b (h.ii b hb)
 on:=fun b hb=>(k.on b hb).elim (h.on b) fun hb=> .inr (Nat.le_trans h.fr.size hb)
 in_:=fun b hb=>(k.in_ b hb).elim (h.in_ b) fun hb=> .inr (Nat.le_trans h.fr.size hb)
theorem Nx.refl {w:Y} {D:Nat} {O I:Nat→Prop} {S:AD} {L:Lay} (h:Yi w D S O I L):Nx w D O I w S O I L:=⟨h,Fr.refl _ _,fun b=>id,fun b=>id,fun b=> .inl,fun b=> .inl⟩
section
variable {w:Y} {D:Nat} {S S':AD} {O I:Nat → Prop} {L:Lay} {k:KV}
theorem Yi.plain {w':Y} (h:Yi w D S O I L) (hf:Fr (fun b=>b=D) w w') (hd:w'.heap[D]? =some (.cells (Yy S' L) 58 (0,0))) (h1:S'.shown=S.shown) (h2:S'.safe=S.safe) (h3:S'.row=S.row) (h4:S'.reads=S.reads) (h5:S'.things=S.things):
   Yi w' D S' O I L where
 disk:=hd
 sh:=h.sh.fr hf (by rintro e;obtain⟨es,c1,h1⟩:=SMap.obj h.sh;rw[e,h.disk] at h1;cases h1)
 shp:=by rw[h1];exact h.shp
 sf:=h.sf.fr hf (by rintro e;obtain⟨es,c1,h1⟩:=SMap.obj h.sf;rw[e,h.disk] at h1;cases h1)
 sfp:=by rw[h2];exact h.sfp
 ne:=h.ne
 row:=by rw[h3];exact Z4 h.row hf (by rintro b hb e;obtain⟨c1,h1⟩:=Z0 h.row hb;rw[e] at h1;exact absurd (Zy h1 h.disk) (by decide))
 reads:=by rw[h4];exact Z4 h.reads hf (by rintro b hb e;obtain⟨c1,h1⟩:=Z0 h.reads hb;rw[e] at h1;exact absurd (Zy h1 h.disk) (by decide))
 things:=fun t ht=>by
   have ht':reach S t:=by unfold reach at *;rwa [h1,h2,h3] at ht
   rw[h5]
   exact(h.things t ht').stay h hf fun b hb=> .inl (.inl hb)
 inj:=by unfold reach;rw[h1,h2,h3];exact h.inj
 rows:=by unfold reach;rw[h1,h2,h3];exact h.rows
 oD:=h.oD
 osh:=h.osh
 osf:=h.osf
 orow:=h.orow
 oreads:=h.oreads
 apart:=h.apart
 lt:=fun b hb=>Nat.lt_of_lt_of_le (h.lt b hb) hf.size
theorem Nx.plain {w':Y} (h:Yi w D S O I L) (hf:Fr (fun b=>b=D) w w') (hd:w'.heap[D]? =some (.cells (Yy S' L) 58 (0,0))) (h1:S'.shown=S.shown) (h2:S'.safe=S.safe) (h3:S'.row=S.row) (h4:S'.reads=S.reads) (h5:S'.things=S.things):
 Nx w D O I w' S' O I L:=⟨h.plain hf hd h1 h2 h3 h4 h5,hf.mono fun b hb=> .inl (hb▸h.oD),fun b=>id,fun b=>id,fun b=> .inl,fun b=> .inl⟩
theorem LY {act:AD→AD} (ρ:Env) (kind r:Int) (f:V) (h0:ρ 0=ptr D) (h1:ρ 1=i64 kind) (h2:ρ 2=i64 r) (h3:ρ 3=f) (h:Yi w D S O I L)
   (hoff:∀T,(act T).off=T.off)
   (hdo:r=0→¬(S.since=S.plan.off∧kind=2)→∀w1,Yi w1 D { S with off:=decide (S.since=S.plan.off)} O I L→Fr (fun b=>b=D) w w1→∀K:KV,(∀v w' O' I' L',Nx w1 D O I w' (act { S with off:=decide (S.since=S.plan.off)}) O' I' L'→K v w')→Cf P f [] w1 K)
   (hk:∀w' O' I' L',Nx w D O I w' (if r=0∧¬(S.since=S.plan.off∧kind=2) then act { S with off:=decide (S.since=S.plan.off)} else { S with off:=decide (S.since=S.plan.off)}) O' I' L'→k (i64 (if S.since=S.plan.off then 50 else r)) w'):xi k ρ w:=by
 unfold xi
 rw[h0,h1,h2,h3]
 have hd:w.drew.heap[D]? =some (.cells (Yy S L) 58 (0,0)):=h.disk
 refine⟨fun w=>∃o,w.heap[D]? =some (.cells (Yy { S with off:=o} L) 58 (0,0)),⟨S.off,hd⟩,?_⟩
 refine Zi _ (fun w_ hS=>Zn ⟨rfl,rfl⟩) ?_
 refine Zi _ (fun w_ hS=>QW ⟨rfl,rfl⟩) ?_
 refine Zi (i64 S.since) (fun w_ hS=>by obtain⟨o,h⟩:=hS;exact Zj (isAgg3 _) h rfl ⟨rfl,rfl⟩) ?_
 refine Zi _ (fun w_ hS=>Zn ⟨rfl,rfl⟩) ?_
 refine Zi _ (fun w_ hS=>BP ⟨rfl,rfl⟩) ?_
 refine Zi _ (fun w_ hS=>Kl ⟨rfl,rfl⟩) ?_
 refine Zi (i64 S.plan.off) (fun w_ hS=>by obtain⟨o,h⟩:=hS;exact Zj (isAgg3 _) h rfl ⟨rfl,rfl⟩) ?_
 refine Zi _ (fun w_ hS=>Cw ⟨rfl,rfl⟩) ?_
 refine Zi _ (fun w_ hS=>Zn ⟨rfl,rfl⟩) ?_
 refine Zi _ (fun w_ hS=>BQ ⟨rfl,rfl⟩) ?_
 have eo:(S.since==S.plan.off)=decide (S.since=S.plan.off):=by rw[Bool.eq_iff_iff];simp
 rw[eo]
 refine YA (sizeOf4 _) rfl rfl hd (by show 9<11;decide) ?_
 have hd1:=Z6 hd 9 (.bool (decide (S.since=S.plan.off)))
 have fr1:Fr (fun b=>b=D) w (w.drew.setCell ⟨D,9,none⟩ (.bool (decide (S.since=S.plan.off)))):=((Fr.drew (fun _=>False) w).or (Fr.setCell w.drew ⟨D,9,none⟩ _)).mono fun b hb=>hb.elim (fun h=>h.elim) .inl
 have hR:Yi _ D { S with off:=decide (S.since=S.plan.off)} O I L:=h.plain fr1 hd1 rfl rfl rfl rfl rfl
 have hN:Nx w D O I _ { S with off:=decide (S.since=S.plan.off)} O I L:= .plain h fr1 hd1 rfl rfl rfl rfl rfl
 show px P _ _ _
 generalize w.drew.setCell ⟨D,0+9,none⟩ (.bool (decide (S.since=S.plan.off)))=w1 at *
 have fin:∀ {w2:Y} {S2:AD} {O2 I2:Nat→Prop} {L2:Lay} (ρ':Env),ρ' 0=ptr D→ρ' 2=i64 r→Yi w2 D S2 O2 I2 L2→S2.off=decide (S.since=S.plan.off)→k (i64 (if S.since=S.plan.off then 50 else r)) w2→xj k ρ' w2:=by
   intro w2 S2 O2 I2 L2 ρ' e0 e2 hR2 hoff2 hk2
   unfold xj
   rw[e0,e2]
   refine Zn (BQ (Zj (v:= .bool S2.off) (isAgg4 _) hR2.disk rfl ?_))
   rw[hoff2]
   by_cases ho:S.since=S.plan.off
   · rw[if_pos ho] at hk2;rw[decide_eq_true ho];exact hk2
   · rw[if_neg ho] at hk2;rw[decide_eq_false ho];exact hk2
 by_cases r0:r=0
 · refine ZP      r0 (Zl     rfl (Zl     rfl (Zn    (Zl     rfl (BQ     (Zl     rfl (Zj    (v := .bool (decide (S.since = S.plan.off))) (isAgg4 _) hd1 rfl (Zl     rfl ?_))))))))
   by_cases ho:S.since=S.plan.off
   · rw [decide_eq_true ho] at *
     refine Zl rfl (Zl rfl (Cw (Zl rfl (Zx (Zl rfl (YP (Zx ?_)))))))
     by_cases k2:kind=2
     · have e2 : (kind == 2) = true := by simp [k2]
       rw[e2]
       refine Zf ?_
       rw[Qz]
       refine fin _ h0 h2 hR rfl ?_
       refine hk _ O I L ?_
       rw[if_neg (by simp[ho,k2])];exact hN
     · have e2 : (kind == 2) = false := by simp [k2]
       rw[e2]
       refine Zk ?_
       refine hdo r0 (by simp[k2]) _ hR fr1 _ fun v w' O' I' L' hx=> ?_
       rw[Qz]
       refine fin _ h0 h2 hx.rep (hoff _) ?_
       refine hk _ O' I' L' ?_
       rw[if_pos ⟨r0,by simp[k2]⟩];exact hN.trans hx
   · rw [decide_eq_false ho] at *
     refine V9 ?_
     refine V9 ?_
     refine Zl rfl ?_
     refine Zr ?_
     refine Zl rfl ?_
     refine YP ?_
     refine Zx ?_
     refine Zk ?_
     refine hdo r0 (by simp[ho]) _ hR fr1 _ fun v w' O' I' L' hx=> ?_
     rw[Qz]
     refine fin _ h0 h2 hx.rep (hoff _) ?_
     refine hk _ O' I' L' ?_
     rw[if_pos ⟨r0,by simp[ho]⟩];exact hN.trans hx
 · refine Yd      r0 ?_
   repeat (first|refine V9 ?_|refine YF ?_)
   refine Zr ?_
   refine Zf ?_
   rw[Qz]
   refine fin _ h0 h2 hR rfl ?_
   refine hk _ O I L ?_
   rw[if_neg (by simp[r0])];exact hN
theorem VF {act:AD→AD} (kind refused:Int) (f:V) (h:Yi w D S O I L) (hb1:0≤S.strokes∧S.strokes≤4611686018427387904) (hb2:0≤S.since∧S.since≤4611686018427387904)
   (hoff:∀T,(act T).off=T.off)
   (hdo:refused=0→∀w1,Yi w1 D { S.ZI with off:=decide (S.since+1=S.plan.off)} O I L→Fr (fun b=>b=D) w w1→∀K:KV,(∀v w' O' I' L',Nx w1 D O I w' (act { S.ZI with off:=decide (S.since+1=S.plan.off)}) O' I' L'→K v w')→Cf P f [] w1 K)
   (hk:∀w' O' I' L',Nx w D O I w' (S.Yc kind refused act).2 O' I' L'→k (i64 (S.Yc kind refused act).1) w'):pFn P 79 [ptr D,i64 kind,i64 refused,f] w k:=by
 refine zbf _ _ _ _ _ _ ?_
 unfold xh
 refine Zn (Dx (Zj (v:=i64 S.strokes) (isAgg3 _) h.disk rfl (Zp (by omega) ?_)))
 refine Zn (Dx (YA (sizeOf3 _) rfl rfl h.disk (by show 4<11;decide) ?_))
 have hd1:=Z6 h.disk 4 (i64 (S.strokes+1))
 have f1:Fr (fun b=>b=D) w (w.setCell ⟨D,4,none⟩ (i64 (S.strokes+1))):=Fr.setCell w ⟨D,4,none⟩ _
 refine Zn (QW (Zj (v:=i64 S.since) (isAgg3 _) hd1 rfl (Zp (by omega) ?_)))
 refine Zn (QW (YA (sizeOf3 _) rfl rfl hd1 (by show 8<11;decide) ?_))
 have hd2:=Z6 hd1 8 (i64 (S.since+1))
 have f2:Fr (fun b=>b=D) w ((w.setCell ⟨D,4,none⟩ (i64 (S.strokes+1))).setCell ⟨D,8,none⟩ (i64 (S.since+1))):=(f1.or (Fr.setCell _ ⟨D,8,none⟩ _)).mono fun b hb=>hb.elim .inl .inl
 have hd3:((w.setCell ⟨D,4,none⟩ (i64 (S.strokes+1))).setCell ⟨D,8,none⟩ (i64 (S.since+1))).drew.heap[D]? =some (.cells (Yy S.ZI L) 58 (0,0)):=hd2
 have f3:=(f2.or (Fr.drew (fun _=>False) _)).mono (O':=fun b=>b=D) fun b hb=>hb.elim .inl fun h=>h.elim
 show∃S:Y→Prop,_
 generalize hw:((w.setCell ⟨D,0+4,none⟩ (i64 (S.strokes+1))).setCell ⟨D,0+8,none⟩ (i64 (S.since+1))).drew=w2 at *
 have hN:Nx w D O I w2 S.ZI O I L:=Nx.plain h f3 hd3 rfl rfl rfl rfl rfl
 have go:∀(ρ:Env) (r:Int),ρ 0=ptr D→ρ 1=i64 kind→ρ 2=i64 r→ρ 3=f→r=(if refused=0∧kind=1∧S.ZI.since≥S.ZI.plan.from_∧S.ZI.since≤S.ZI.plan.to_ then 55 else refused)→Tk k [1,1,1,1] ρ w2:=by
   intro ρ r e0 e1 e2 e3 er
   rw[Rw]
   refine LY (act:=act) ρ kind r f e0 e1 e2 e3 hN.rep hoff ?_ ?_
   · intro hr _ w1 hR hf K hK
     have h0:refused=0:=by
       rw[hr] at er
       split at er
       · cases er
       · exact er.symm
     exact hdo h0 w1 hR ((f3.or hf).mono fun b hb=>hb.elim .inl .inl) K hK
   · intro w' O' I' L' hx
     have e1:(S.Yc kind refused act).1=(if S.ZI.since=S.ZI.plan.off then 50 else r):=by
       unfold AD.Yc
       simp only[←er,decide_eq_true_eq]
     have e2:(S.Yc kind refused act).2=(if r=0∧¬(S.ZI.since=S.ZI.plan.off∧kind=2) then act { S.ZI with off:=decide (S.ZI.since=S.ZI.plan.off)} else { S.ZI with off:=decide (S.ZI.since=S.ZI.plan.off)}):=by
       unfold AD.Yc
       simp only[←er,decide_eq_true_eq]
     rw[←e1]
     exact hk w' O' I' L' (by rw[e2];exact hN.trans hx)
 refine⟨fun w=>w.heap[D]? =some (.cells (Yy S.ZI L) 58 (0,0)),hd3,?_⟩
 by_cases r0:refused=0
 · refine Zi   _ (fun w_ hS => ZP      r0 ⟨rfl,rfl⟩) ?_
   refine Ze rfl ?_
   refine Ze rfl ?_
   by_cases k1:kind=1
   · refine Zi   _ (fun w_ hS => ZP      k1 ⟨rfl,rfl⟩) ?_
     refine Zi _ (fun w_ hS=>Zx ⟨rfl,rfl⟩) ?_
     refine Ze rfl (Ze rfl ?_)
     refine Zi _ (fun w_ hS=>Zn ⟨rfl,rfl⟩) ?_
     refine Ze rfl ?_
     refine Zi _ (fun w_ hS=>QW ⟨rfl,rfl⟩) ?_
     refine Ze rfl ?_
     refine Zi (i64 S.ZI.since) (fun w_ hS=>Zj (isAgg3 _) hS rfl ⟨rfl,rfl⟩) ?_
     refine Ze rfl (Ze rfl ?_)
     refine Zi _ (fun w_ hS=>Zn ⟨rfl,rfl⟩) ?_
     refine Ze rfl ?_
     refine Zi _ (fun w_ hS=>BP ⟨rfl,rfl⟩) ?_
     refine Ze rfl ?_
     refine Zi _ (fun w_ hS=>SW ⟨rfl,rfl⟩) ?_
     refine Ze rfl ?_
     refine Zi (i64 S.ZI.plan.from_) (fun w_ hS=>Zj (isAgg3 _) hS rfl ⟨rfl,rfl⟩) ?_
     refine Ze rfl ?_
     by_cases c1:S.ZI.since≥S.ZI.plan.from_
     · refine Zi   _ (fun w_ hS => XQ     c1 ⟨rfl,rfl⟩) ?_
       refine Zi _ (fun w_ hS=>Zx ⟨rfl,rfl⟩) ?_
       refine Ze rfl (Ze rfl ?_)
       refine Zi _ (fun w_ hS=>Zn ⟨rfl,rfl⟩) ?_
       refine Ze rfl ?_
       refine Zi _ (fun w_ hS=>QW ⟨rfl,rfl⟩) ?_
       refine Ze rfl ?_
       refine Zi (i64 S.ZI.since) (fun w_ hS=>Zj (isAgg3 _) hS rfl ⟨rfl,rfl⟩) ?_
       refine Ze rfl (Ze rfl ?_)
       refine Zi _ (fun w_ hS=>Zn ⟨rfl,rfl⟩) ?_
       refine Ze rfl ?_
       refine Zi _ (fun w_ hS=>BP ⟨rfl,rfl⟩) ?_
       refine Ze rfl ?_
       refine Zi _ (fun w_ hS=>SX ⟨rfl,rfl⟩) ?_
       refine Ze rfl ?_
       refine Zi (i64 S.ZI.plan.to_) (fun w_ hS=>Zj (isAgg3 _) hS rfl ⟨rfl,rfl⟩) ?_
       refine Ze rfl ?_
       by_cases c2:S.ZI.since≤S.ZI.plan.to_
       · refine Zi   _ (fun w_ hS => SC     c2 ⟨rfl,rfl⟩) ?_
         refine Zi _ (fun w_ hS=>Zx ⟨rfl,rfl⟩) (Zk ?_)
         exact go _ 55 rfl rfl rfl rfl (by rw[if_pos ⟨r0,k1,c1,c2⟩])
       · refine Zi   _ (fun w_ hS => SD     c2 ⟨rfl,rfl⟩) ?_
         refine Zi _ (fun w_ hS=>Zx ⟨rfl,rfl⟩) (Zf ?_)
         exact go _ refused rfl rfl rfl rfl (by rw[if_neg (fun h=>c2 h.2.2.2)])
     · refine Zi   _ (fun w_ hS => XR     c1 ⟨rfl,rfl⟩) ?_
       refine Zi _ (fun w_ hS=>Zx ⟨rfl,rfl⟩) ?_
       repeat (first|refine Y3 ?_|refine YD ?_)
       refine Zi _ (fun w_ hS=>Zr ⟨rfl,rfl⟩) (Zf ?_)
       exact go _ refused rfl rfl rfl rfl (by rw[if_neg (fun h=>c1 h.2.2.1)])
   · refine Zi   _ (fun w_ hS => Yd      k1 ⟨rfl,rfl⟩) ?_
     refine Zi _ (fun w_ hS=>Zx ⟨rfl,rfl⟩) ?_
     repeat (first|refine Y3 ?_|refine YD ?_)
     refine Zi _ (fun w_ hS=>Zr ⟨rfl,rfl⟩) ?_
     repeat (first|refine Y3 ?_|refine YD ?_)
     refine Zi _ (fun w_ hS=>Zr ⟨rfl,rfl⟩) (Zf ?_)
     exact go _ refused rfl rfl rfl rfl (by rw[if_neg (fun h=>k1 h.2.1)])
 · refine Zi   _ (fun w_ hS => Yd      r0 ⟨rfl,rfl⟩) ?_
   repeat (first|refine Y3 ?_|refine YD ?_)
   refine Zi _ (fun w_ hS=>Zr ⟨rfl,rfl⟩) ?_
   repeat (first|refine Y3 ?_|refine YD ?_)
   refine Zi _ (fun w_ hS=>Zr ⟨rfl,rfl⟩) ?_
   repeat (first|refine Y3 ?_|refine YD ?_)
   refine Zi _ (fun w_ hS=>Zr ⟨rfl,rfl⟩) (Zf ?_)
   exact go _ refused rfl rfl rfl rfl (by rw[if_neg (fun h=>r0 h.1)])
end
end Go.Proofs.YtcdcojpfealppaaGreat
