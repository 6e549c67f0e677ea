/- Put together by a program (wip/tools/shake.py): XOk,XFront,XStep,XSlices,XElem,XKeys,XCalls. -/
import Derived.Test.YtcdcojpfealppaaGreatY2
import Derived.Laws.MakeOwn
import Derived.Laws.OwnMore
import Derived.Deep.AppendLies
import Derived.Maps.Own
import Derived.StringKeys
import Derived.WideShapes
import Derived.Sort.KeysCollected
import Derived.Lib.SliceRun
import Derived.Laws.CopyRow
import Derived.Laws.Externs
import Derived.Lib.Bytealg
import Derived.Lib.IndexAny
set_option linter.unusedVariables false
set_option linter.unusedSimpArgs false
open Go renaming World → Y, Value → V
namespace Go.Proofs.XDisk
open Go.Proofs.XMaps
theorem Thg.Ok.mono {x:Thg} {c c':Nat} (h:x.Ok c) (hc:c≤c'):x.Ok c':=⟨Nat.le_trans h.row hc,h.ok⟩
theorem AD.Ok.mono {S:AD} {c c':Nat} (h:S.Ok c) (hc:c≤c') (hs:c'≤1099511627776):S.Ok c' where
 room:=h.room
 small:=hs
 strokes:=⟨h.strokes.1,by have:=h.strokes.2;omega⟩
 since:=⟨h.since.1,by have:=h.since.2;omega⟩
 row:=Nat.le_trans h.row hc
 reads:=Nat.le_trans h.reads hc
 next:=h.next
 Yk:=fun t ht=>(h.Yk t ht).mono hc
 turns:=h.turns
 sn:=h.sn
 rn:=h.rn
 safe:=h.safe
theorem zgl {c:Turn} {l:Names} (hl:∀p∈l,p.1.size≤112) (hc:Turn.nm c):∀p∈c.on l,p.1.size≤112:=by
 intro p hp
 cases c with
 |mk n t=>
  rcases Xc.1 hp with rfl|h
  ·exact hc
  ·exact hl p h.1
 |give a b=>
  rcases Xc.1 hp with rfl|h
  ·exact hc
  ·exact hl p (Yv.1 h.1).1
 |take n=>exact hl p (Yv.1 hp).1
theorem HR {r:List Turn}:∀ {l:Names},(∀p∈l,p.1.size≤112)→(∀c∈r,Turn.nm c)→∀p∈r.foldl (fun l c=>c.on l) l,p.1.size≤112:=by
 induction r with
 |nil=>intro l hl _;exact hl
 |cons c r ih=>intro l hl hr;exact ih (zgl hl (hr c List.mem_cons_self)) fun d hd=>hr d (List.mem_cons_of_mem _ hd)
theorem AD.Ok.V0 {S:AD} {c:Nat} (h:S.Ok c):∀p∈S.shown,p.1.size≤112:=by rw[h.turns.eq];exact HR h.sn h.rn
theorem AD.Ok.XI {S:AD} {c:Nat} (h:S.Ok c) (picks:List Int):∀p∈S.Z7 picks,p.1.size≤112:=HR h.sn fun d hd=>h.rn d (List.mem_of_mem_take hd)
theorem AD.Ok.new {room:Int} (h:1≤room∧room≤1048576):(AD.new room).Ok 0 where
 room:=h
 small:=by omega
 strokes:=⟨Int.le_refl _,Int.le_refl _⟩
 since:=⟨Int.le_refl _,Int.le_refl _⟩
 row:=Nat.le_refl _
 reads:=Nat.le_refl _
 next:=by rintro t (⟨n,h⟩|⟨n,h⟩|⟨n,h⟩)<;>cases h
 Yk:=by rintro t (⟨n,h⟩|⟨n,h⟩|⟨n,h⟩)<;>cases h
 turns:=⟨rfl,Nat.zero_le _⟩
 sn:=by rintro p hp;cases hp
 rn:=by rintro p hp;cases hp
 safe:=List.Pairwise.nil
theorem AD.Ok.ZI {S:AD} {c:Nat} (h:S.Ok c) (o:Bool) (hs:c<1099511627776):AD.Ok { S.ZI with off:=o} (c+1):=
 { h.mono (Nat.le_succ c) hs with
  strokes:=⟨by have:=h.strokes.1;show 0≤S.strokes+1;omega,by have:=h.strokes.2;show S.strokes+1≤_;omega⟩
  since:=⟨by have:=h.since.1;show 0≤S.since+1;omega,by have:=h.since.2;show S.since+1≤_;omega⟩}
theorem AD.Ok.Yc {S:AD} {c:Nat} (h:S.Ok c) (hs:c<1099511627776) (kind refused:Int) (act:AD→AD) (ha:refused=0→∀o,AD.Ok (act { S.ZI with off:=o}) (c+1)):(S.Yc kind refused act).2.Ok (c+1):=by
 unfold AD.Yc
 simp only
 generalize hr:(if refused=0∧kind=1∧S.ZI.since≥S.ZI.plan.from_∧S.ZI.since≤S.ZI.plan.to_ then (55:Int) else refused)=r
 by_cases hc:r=0∧¬(decide (S.ZI.since=S.ZI.plan.off)=true∧kind=2)
 ·rw[if_pos hc]
  refine ha ?_ _
  have:=hc.1
  rw[←hr] at this
  split at this
  ·cases this
  ·exact this
 ·rw[if_neg hc]
  exact h.ZI _ hs
theorem AD.Ok.YE {S:AD} {c:Nat} {t:Turn} (h:S.Ok c) (hrow:S.row.length+1≤c) (h1:∀a b,t= .give a b→ZV S.shown a≠none) (h2:(t.on S.shown).length≤256) (h3:∀n i,t= .mk n i→i<S.next∧(S.things i).Ok c) (h4:Turn.nm t):(S.YE t).Ok c:=by
 have hr:∀i,reach (S.YE t) i→reach S i∨∃n,t= .mk n i:=by
  rintro i (⟨n,h'⟩|⟨n,h'⟩|⟨n,h'⟩)
  ·cases t with
   |mk m u=>
    rcases Xc.1 h' with h'|h'
    ·injection h' with e1 e2;subst e2;exact .inr ⟨m,rfl⟩
    ·exact .inl (.inl ⟨n,h'.1⟩)
   |give a b=>
    rcases Xc.1 h' with h'|h'
    ·injection h' with e1 e2
     cases hg:ZV S.shown a with
     |none=>exact absurd hg (h1 a b rfl)
     |some u=>rw[hg] at e2;subst e2;exact .inl (.inl ⟨a,ZU hg⟩)
    ·exact .inl (.inl ⟨n,(Yv.1 h'.1).1⟩)
   |take m=>exact .inl (.inl ⟨n,(Yv.1 h').1⟩)
  ·exact .inl (.inr (.inl ⟨n,h'⟩))
  ·rcases List.mem_append.1 h' with h'|h'
   ·exact .inl (.inr (.inr ⟨n,h'⟩))
   ·rw[List.mem_singleton] at h';exact .inr ⟨n,h'.symm⟩
 exact { h with
  row:=by show (S.row++[t]).length≤c;simpa using hrow
  next:=fun i hi=>by
   rcases hr i hi with h'|⟨n,e⟩
   ·exact h.next i h'
   ·exact(h3 n i e).1
  Yk:=fun i hi=>by
   rcases hr i hi with h'|⟨n,e⟩
   ·exact h.Yk i h'
   ·exact(h3 n i e).2
  turns:=Yo.snoc h1 h2 h.turns
  rn:=fun d hd=>by
   rcases List.mem_append.1 hd with h'|h'
   ·exact h.rn d h'
   ·rw[List.mem_singleton] at h';exact h'▸h4}
theorem J6 (S:AD) (name:ByteArray):S.look name=50∨S.look name=51∨(S.look name=53∧isName name=true∧ZV S.shown name=none)∨(S.look name=0∧isName name=true∧ZV S.shown name=some (S.of name)):=by
 unfold AD.look AD.of
 cases ho:S.off with
 |true=>exact .inl rfl
 |false=>
  simp only[Bool.false_eq_true,if_false]
  cases hn:isName name with
  |false=>exact .inr (.inl rfl)
  |true=>
   simp only[Bool.not_true,Bool.false_eq_true,if_false]
   cases hg:ZV S.shown name with
   |none=>exact .inr (.inr (.inl ⟨rfl,trivial,rfl⟩))
   |some t=>exact .inr (.inr (.inr ⟨rfl,trivial,rfl⟩))
theorem Qj {s:ByteArray} (h:isName s=true):s.size≤112:=by
 unfold isName at h
 simp only[Bool.and_eq_true,decide_eq_true_eq] at h
 exact h.2
theorem HT {S:AD} {name:ByteArray} (h:S.look name=0):isName name=true∧ZV S.shown name=some (S.of name):=by
 rcases J6 S name with h'|h'|h'|h'
 ·rw[h] at h';cases h'
 ·rw[h] at h';cases h'
 ·rw[h] at h';cases h'.1
 ·exact h'.2
theorem Ub {S:AD} {name:ByteArray} {t:Nat} (h:ZV S.shown name=some t):reach S t:= .inl ⟨name,ZU h⟩
theorem AD.Ok.create {S:AD} {c:Nat} (h:S.Ok c) (hs:c<1099511627776) (name:ByteArray):(S.create name).2.Ok (c+1):=by
 have hm:=h.mono (Nat.le_succ c) hs
 unfold AD.create
 rcases J6 S name with h'|h'|h'|h'
 ·rw[h'];exact hm
 ·rw[h'];exact hm
 ·rw[h'.1,if_neg (by decide),if_pos rfl]
  refine h.Yc hs _ _ _ fun hr o=> ?_
  have hlen:S.shown.length<256:=by
   rcases Nat.lt_or_ge S.shown.length 256 with h''|h''
   ·exact h''
   ·rw[if_pos h''] at hr;cases hr
  have hT:=h.ZI o hs
  have hB:AD.Ok { ({ S.ZI with off:=o}:AD).ZL S.next Thg.empty with next:=S.next+1} (c+1):=
   { hT with
    next:=fun t ht=>Nat.lt_succ_of_lt (hT.next t ht)
    Yk:=fun t ht=>by
     have h1:=hT.next t ht
     have h2:=hT.Yk t ht
     show Thg.Ok (if t=S.next then Thg.empty else S.things t) (c+1)
     have h3:t<S.next:=h1
     rw[if_neg (by omega)];exact h2}
  refine AD.Ok.YE (t:= .mk name S.next) hB (by have:=h.row;show S.row.length+1≤_;omega) (by intro a b e;cases e) ?_ ?_ (Qj h'.2.1)
  ·show (GM S.shown name S.next).length≤256
   rw[(Vs S.shown name S.next).length_eq]
   have:(Yg S.shown name).length≤S.shown.length:=List.length_filter_le _ _
   simp only[List.length_cons];omega
  ·intro n i e
   injection e with e1 e2
   subst e2
   refine⟨Nat.lt_succ_self _,?_⟩
   show Thg.Ok (if S.next=S.next then Thg.empty else _) (c+1)
   rw[if_pos rfl]
   exact⟨Nat.zero_le _,rfl,Nat.zero_le _⟩
 ·rw[h'.1];exact hm
theorem Ax {l:Names} {a:ByteArray} {t:Nat} (h:ZV l a=some t):(Yg l a).length+1≤l.length:=by
 have hm:=ZU h
 unfold Yg
 have:(l.filter fun p=> !decide (p.1=a)).length<l.length:=by
  rcases Nat.lt_or_ge (l.filter fun p=> !decide (p.1=a)).length l.length with h'|h'
  ·exact h'
  ·have e:=List.Sublist.eq_of_length (List.filter_sublist (l:=l) (p:=fun p=> !decide (p.1=a))) (Nat.le_antisymm (List.length_filter_le _ _) h')
   rw[←e] at hm
   have:=(List.mem_filter.1 hm).2
   simp at this
 omega
theorem AD.Ok.rename {S:AD} {c:Nat} (h:S.Ok c) (hs:c<1099511627776) (a b:ByteArray):(S.rename a b).2.Ok (c+1):=by
 have hm:=h.mono (Nat.le_succ c) hs
 unfold AD.rename
 cases ho:S.off with
 |true=>exact hm
 |false=>
  simp only[Bool.false_eq_true,if_false]
  cases hn:(!isName a|| !isName b) with
  |true=>exact hm
  |false=>
   simp only[Bool.false_eq_true,if_false]
   simp only[Bool.or_eq_false_iff,Bool.not_eq_false'] at hn
   cases hg:ZV S.shown a with
   |none=>exact hm
   |some t=>
    refine h.Yc hs _ _ _ fun hr o=> ?_
    have hT:=h.ZI o hs
    by_cases e:a=b
    ·simp only[if_pos e];exact hT
    ·simp only[if_neg e]
     refine AD.Ok.YE (t:= .give a b) hT (by have:=h.row;show S.row.length+1≤_;omega) (by intro a' b' e;injection e with e1 e2;subst e1;show ZV S.shown a≠none;rw[hg];simp) ?_ (by intro n i e;cases e) (Qj hn.2)
     show (GM (Yg S.shown a) b _).length≤256
     rw[(Vs _ b _).length_eq]
     have h1:=Ax hg
     have h2:(Yg (Yg S.shown a) b).length≤(Yg S.shown a).length:=List.length_filter_le _ _
     have h3:=h.turns.len.1
     simp only[List.length_cons];omega
theorem AD.Ok.remove {S:AD} {c:Nat} (h:S.Ok c) (hs:c<1099511627776) (name:ByteArray):(S.remove name).2.Ok (c+1):=by
 unfold AD.remove
 split
 ·exact h.mono (Nat.le_succ c) hs
 ·refine h.Yc hs _ _ _ fun hr o=> ?_
  refine AD.Ok.YE (t:= .take name) (h.ZI o hs) (by have:=h.row;show S.row.length+1≤_;omega) (by intro a b e;cases e) ?_ (by intro n i e;cases e) trivial
  have h3:=h.turns.len.1
  have:(Yg S.shown name).length≤S.shown.length:=List.length_filter_le _ _
  show (Yg S.shown name).length≤256
  omega
theorem AD.Ok.ZL {S:AD} {c t:Nat} {x:Thg} (h:S.Ok c) (hx:x.Ok c):(S.ZL t x).Ok c:=
 { h with
  Yk:=fun u hu=>by
   show Thg.Ok (if u=t then x else S.things u) c
   split
   ·exact hx
   ·exact h.Yk u hu}
theorem AD.Ok.sync {S:AD} {c:Nat} (h:S.Ok c) (hs:c<1099511627776) (name:ByteArray):(S.sync name).2.Ok (c+1):=by
 unfold AD.sync
 split
 ·exact h.mono (Nat.le_succ c) hs
 ·rename_i hl
  have h0:=HT (show S.look name=0 by omega)
  refine h.Yc hs _ _ _ fun hr o=>(h.ZI o hs).ZL ?_
  have:=(h.Yk _ (Ub h0.2)).ok.len
  exact⟨Nat.zero_le _,rfl,this.1⟩
theorem AD.Ok.ZR {S:AD} {c:Nat} (h:S.Ok c) (hs:c<1099511627776):S.ZR.2.Ok (c+1):=by
 unfold AD.ZR
 split
 ·exact h.mono (Nat.le_succ c) hs
 ·refine h.Yc hs _ _ _ fun hr o=> ?_
  have hT:=h.ZI o hs
  have hr:∀t,reach ({ ({ S.ZI with off:=o}:AD) with safe:=S.shown,row:=[]}) t→reach S t:=by
   rintro t (⟨n,h'⟩|⟨n,h'⟩|⟨n,h'⟩)
   ·exact .inl ⟨n,h'⟩
   ·exact .inl ⟨n,h'⟩
   ·cases h'
  exact { hT with
   row:=Nat.zero_le _
   next:=fun t ht=>hT.next t (hr t ht)
   Yk:=fun t ht=>hT.Yk t (hr t ht)
   turns:=⟨rfl,h.turns.len.1⟩
   sn:=h.V0
   rn:=by intro d hd;cases hd
   safe:=h.shown}
theorem AD.Ok.Vn {S:AD} {c:Nat} (h:S.Ok c) (p:Ah):(S.Vn p).Ok c:=by
 unfold AD.Vn
 split
 ·exact h
 ·exact { h with since:=⟨Int.le_refl _,by show (0:Int)≤c;omega⟩}
theorem Eg {l:List Nat} {x:Nat} (h:x∈l):x≤l.sum:=by
 induction l with
 |nil=>cases h
 |cons a r ih=>
  simp only[List.sum_cons]
  cases h with
  |head=>omega
  |tail _ h=>have:=ih h;omega
theorem ym {S:AD} {name:ByteArray} {t:Nat} (h:ZV S.shown name=some t):(S.things t).shown.length≤S.used:=
 Eg (List.mem_map_of_mem (f:=fun p:ByteArray×Nat=>(S.things p.2).shown.length) (ZU h))
theorem AD.Ok.zcc {S:AD} {c t:Nat} {ch:Chg} (h:S.Ok c) (hr:(S.things t).Ok c) (hrow:(S.things t).row.length+1≤c) (h1:∀n,ch= .cut n→n≤(S.things t).shown.length) (h2:∀a d,ch= .wr a d→a≤(S.things t).shown.length∧a+d.length≤1048576):
   (S.ZL t ((S.things t).add ch)).Ok c:=by
 refine h.ZL ⟨by show ((S.things t).row++[ch]).length≤c;simpa using hrow,VS.snoc h1 h2 ?_ hr.ok⟩
 have hl:=hr.ok.len.1
 cases ch with
 | cut n =>
   show (if 1=0 then (S.things t).shown else List.take n (S.things t).shown).length≤_
   rw[if_neg (by decide),List.length_take];omega
 | wr a d =>
   have:=h2 a d rfl
   by_cases h0:d.length=0
   · show (if d.length = 0 then (S.things t).shown else _).length ≤ _
     rw[if_pos h0];exact hl
   · show (if d.length = 0 then (S.things t).shown else _).length ≤ _
     rw[if_neg h0,show (Chg.wr a d).units=d.length from rfl,Ai]
     omega
theorem AD.Ok.Ye {S:AD} {c:Nat} (h:S.Ok c) (hs:c<1099511627776) (name:ByteArray) (a:Int) (d:Bytes):(S.Ye name a d).2.Ok (c+1):=by
 unfold AD.Ye
 split
 ·exact h.mono (Nat.le_succ c) hs
 ·rename_i hl
  have h0:=HT (show S.look name=0 by omega)
  have hu:=ym h0.2
  have hb:S.bytes name=(S.things (S.of name)).shown:=rfl
  rw[hb]
  split
  ·exact h.mono (Nat.le_succ c) hs
  ·rename_i ha
   refine h.Yc hs _ _ _ fun hr o=> ?_
   have hT:=h.ZI o hs
   have hthing:=hT.Yk (S.of name) (Ub h0.2)
   have hroom:=h.room
   have hlen:=(h.Yk _ (Ub h0.2)).ok.len.1
   have hfit:¬(a+d.length-(S.things (S.of name)).shown.length>0∧S.used+(a+d.length-(S.things (S.of name)).shown.length)>S.room):=by
    intro hc;rw[if_pos hc] at hr;cases hr
   refine hT.zcc hthing (by have:=(h.Yk _ (Ub h0.2)).row;show (S.things (S.of name)).row.length+1≤_;omega) (by intro n e;cases e) ?_
   intro a' d' e
   injection e with e1 e2
   subst e1 e2
   show a.toNat≤(S.things (S.of name)).shown.length∧a.toNat+d.length≤1048576
   by_cases hmore:a+d.length-(S.things (S.of name)).shown.length>0
   ·have:¬(S.used+(a+d.length-(S.things (S.of name)).shown.length)>S.room):=fun hc=>hfit ⟨hmore,hc⟩
    omega
   ·omega
theorem AD.Ok.append {S:AD} {c:Nat} (h:S.Ok c) (hs:c<1099511627776) (name:ByteArray) (d:Bytes):(S.append name d).2.Ok (c+1):=by
 unfold AD.append
 split
 ·exact h.mono (Nat.le_succ c) hs
 ·exact h.Ye hs _ _ _
theorem AD.Ok.truncate {S:AD} {c:Nat} (h:S.Ok c) (hs:c<1099511627776) (name:ByteArray) (n:Int):(S.truncate name n).2.Ok (c+1):=by
 unfold AD.truncate
 split
 ·exact h.mono (Nat.le_succ c) hs
 ·rename_i hl
  have h0:=HT (show S.look name=0 by omega)
  have hb:S.bytes name=(S.things (S.of name)).shown:=rfl
  rw[hb]
  split
  ·exact h.mono (Nat.le_succ c) hs
  ·rename_i ha
   refine h.Yc hs _ _ _ fun hr o=> ?_
   have hT:=h.ZI o hs
   have hthing:=hT.Yk (S.of name) (Ub h0.2)
   refine hT.zcc hthing (by have:=(h.Yk _ (Ub h0.2)).row;show (S.things (S.of name)).row.length+1≤_;omega) ?_ (by intro a d e;cases e)
   intro m e
   injection e with e
   subst e
   show n.toNat≤(S.things (S.of name)).shown.length
   omega
theorem UR {s:Bytes}:∀ {r:List Chg} {b:Bytes} {u:Nat},Aj b r u s→(leftOf b r u).length≤1048576
 | [],b,u,h=>h.len
 |c::r,b,u,h=>UR (r:=r) h.step.1
theorem BH {s:Names}:∀ {r:List Turn} {l:Names},Yo l r s→∀ {n:ByteArray} {t:Nat},(n,t)∈s→(∃n',(n',t)∈l)∨∃n',Turn.mk n' t∈r
 | [],l,h,n,t,hm=>by rw[h.1] at hm;exact .inl ⟨n,hm⟩
 |c::r,l,h,n,t,hm=>by
  rcases BH (r:=r) (l:=c.on l) h.2.2 hm with ⟨n',h1⟩|⟨n',h1⟩
  ·cases c with
   |mk m u=>
    rcases Xc.1 h1 with h'|h'
    ·injection h' with e1 e2;subst e2;exact .inr ⟨m,List.mem_cons_self⟩
    ·exact .inl ⟨n',h'.1⟩
   |give a b=>
    rcases Xc.1 h1 with h'|h'
    ·injection h' with e1 e2
     cases hg:ZV l a with
     |none=>exact absurd hg (h.2.1 a b rfl)
     |some u=>rw[hg] at e2;subst e2;exact .inl ⟨a,ZU hg⟩
    ·exact .inl ⟨n',(Yv.1 h'.1).1⟩
   |take m=>exact .inl ⟨n',(Yv.1 h1).1⟩
  ·exact .inr ⟨n',List.mem_cons_of_mem _ h1⟩
theorem AD.Ok.V3 {S:AD} {c:Nat} (h:S.Ok c) (picks:List Int):∀p∈S.Z7 picks,reach S p.2:=by
 intro p hp
 rcases BH (h.turns.take (XE picks 0 S.row.length)) (n:=p.1) (t:=p.2) hp with ⟨n,h'⟩|⟨n,h'⟩
 ·exact .inr (.inl ⟨n,h'⟩)
 ·exact .inr (.inr ⟨n,List.mem_of_mem_take h'⟩)
theorem yn (l:Names) (next:Nat):ZH (l.zipIdx.map fun(p,i)=>(p.1,next+i))=ZH l:=by
 unfold ZH
 rw[List.map_map]
 have:((fun p:ByteArray×Nat=>p.1)∘fun q:(ByteArray×Nat)×Nat=>(q.1.1,next+q.2))=(fun p:ByteArray×Nat=>p.1)∘Prod.fst:=rfl
 show l.zipIdx.map ((fun p:ByteArray×Nat=>p.1)∘fun q:(ByteArray×Nat)×Nat=>(q.1.1,next+q.2))=_
 rw[this,←List.map_map,List.zipIdx_map_fst]
theorem Ordered.vk {l l':Names} (h:Ordered l) (e:ZH l'=ZH l):Ordered l':=by
 unfold Ordered at *
 have h1:(ZH l).Pairwise fun a b=>blt a b=true:=by unfold ZH;rw[List.pairwise_map];exact h
 rw[←e] at h1
 unfold ZH at h1
 rw[List.pairwise_map] at h1
 exact h1
theorem AD.Ok.Xu {S:AD} {c:Nat} (h:S.Ok c) (picks:List Int):(S.Xu picks).Ok c:=by
 have hord:Ordered (S.Z7 picks):=h.safe.fold
 have hlen:(S.Z7 picks).length≤256:=(h.turns.take (XE picks 0 S.row.length)).len.1
 have hkeys:=yn (S.Z7 picks) S.next
 have hr:∀t,reach (S.Xu picks) t→∃i p,(S.Z7 picks)[i]? =some p∧t=S.next+i:=by
  have:∀n t,(n,t)∈(S.Z7 picks).zipIdx.map (fun(p,i)=>(p.1,S.next+i))→∃i p,(S.Z7 picks)[i]? =some p∧t=S.next+i:=by
   intro n t hm
   obtain⟨q,hq,e⟩:=List.mem_map.1 hm
   injection e with e1 e2
   have hq':=List.mem_zipIdx hq
   exact⟨q.2,q.1,by rw[hq'.2.2];simp,e2.symm⟩
  rintro t (⟨n,h'⟩|⟨n,h'⟩|⟨n,h'⟩)
  ·exact this n t h'
  ·exact this n t h'
  ·cases h'
 have hz:(0:Int)≤c:=by omega
 exact { h with
  strokes:=⟨Int.le_refl _,hz⟩
  since:=⟨Int.le_refl _,hz⟩
  row:=Nat.zero_le _
  next:=fun t ht=>by
   obtain⟨i,p,hp,rfl⟩:=hr t ht
   have:i<(S.Z7 picks).length:=(List.getElem?_eq_some_iff.1 hp).1
   show S.next+i<S.next+(S.Z7 picks).length
   omega
  Yk:=fun t ht=>by
   obtain⟨i,p,hp,rfl⟩:=hr t ht
   have hth:=h.Yk _ (h.V3 picks p (List.mem_of_getElem? hp))
   have e:(S.Xu picks).things (S.next+i)=⟨S.Yt picks i p.2,S.Yt picks i p.2,[]⟩:=by
    show (if S.next+i<S.next then S.things (S.next+i) else match (S.Z7 picks)[S.next+i-S.next]? with|some p=>_|none=>_)=_
    have e1:S.next+i-S.next=i:=by omega
    rw[if_neg (by omega),e1,hp]
   rw[e]
   exact⟨Nat.zero_le _,rfl,UR (.inl hth.ok)⟩
  turns:=⟨rfl,by show ((S.Z7 picks).zipIdx.map _).length≤256;simpa using hlen⟩
  sn:=by
   intro p hp
   have:p.1∈ZH ((S.Z7 picks).zipIdx.map fun(p,i)=>(p.1,S.next+i)):=List.mem_map_of_mem (f:=(·.1)) hp
   rw[hkeys] at this
   obtain⟨q,hq,e⟩:=List.mem_map.1 this
   rw[←e];exact h.XI picks q hq
  rn:=by intro d hd;cases hd
  safe:=hord.vk hkeys}
theorem AD.Ok.read {S:AD} {c:Nat} (h:S.Ok c) (hs:c<1099511627776) (name:ByteArray) (a n:Int):(S.read name a n).2.2.Ok (c+1):=by
 have hm:=h.mono (Nat.le_succ c) hs
 unfold AD.read
 split
 ·exact hm
 ·split
  ·exact hm
  ·exact { hm with reads:=by have:=h.reads;show (S.reads++_).length≤c+1;simp;omega}
structure Calm (S:AD):Prop where
 plan:S.plan= .zero
 off:S.off=false
 since:0≤S.since
def gl (m:ByteArray×ByteArray):Turn:=if m.2=ByteArray.mk #[] then .take m.1 else .give m.1 m.2
abbrev gm:=List (ByteArray×ByteArray)
def foldM (l:Names) (d:gm):Names:=(d.map gl).foldl (fun l c=>c.on l) l
structure BE (B T:AD) (d:gm) (i:Nat):Prop where
 calm:Calm T
 things:T.things=B.things
 shown:T.shown=foldM B.shown (d.take i)
structure XT where
 kind:Int
 name:ByteArray
 to_:ByteArray
 at_:Int
 n:Int
 data:Bytes
 plan:Ah
 picks:List Int
def AD.YW (S:AD):AD:= { S with reads:=[]}
def AD.Y7 (S:AD) (x:XT):Int×AD:=
 if x.kind=1 then S.create x.name else if x.kind=2 then S.Ye x.name x.at_ x.data else if x.kind=3 then S.append x.name x.data else if x.kind=4 then S.truncate x.name x.n
 else if x.kind=5 then S.rename x.name x.to_ else if x.kind=6 then S.remove x.name else if x.kind=7 then S.sync x.name else if x.kind=8 then S.ZR
 else if x.kind=9 then ((S.read x.name x.at_ x.n).1,(S.read x.name x.at_ x.n).2.2) else if x.kind=10 then (S.look x.name,S) else if x.kind=11 then (0,S.Vn x.plan) else if x.kind=12 then (0,S.Xu x.picks)
 else if x.kind=13 then (0,S.YW) else (0,S)
theorem AD.Ok.YW {S:AD} {c:Nat} (h:S.Ok c):S.YW.Ok c:= { h with reads:=Nat.zero_le _}
theorem AD.Ok.Y7 {S:AD} {c:Nat} (h:S.Ok c) (hs:c<1099511627776) (x:XT):(S.Y7 x).2.Ok (c+1):=by
 have up:∀ {T:AD},T.Ok c→T.Ok (c+1):=fun h=>h.mono (by omega) (by omega)
 have ite:∀ {p:Prop} [Decidable p] {a b:Int×AD},a.2.Ok (c+1)→b.2.Ok (c+1)→(if p then a else b).2.Ok (c+1):=by
  intro p _ a b h1 h2
  by_cases hp:p
  ·rw[if_pos hp];exact h1
  ·rw[if_neg hp];exact h2
 unfold AD.Y7
 exact ite (h.create hs _) (ite (h.Ye hs _ _ _) (ite (h.append hs _ _) (ite (h.truncate hs _ _) (ite (h.rename hs _ _) (ite (h.remove hs _) (ite (h.sync hs _) (ite (h.ZR hs) (ite (h.read hs _ _ _)
  (ite (up h) (ite (up (h.Vn _)) (ite (up (h.Xu _)) (ite (up h.YW) (up h)))))))))))))
end Go.Proofs.XDisk
namespace Go.Proofs.XSlices
open Go Go.RowKit Go.Proofs.XRed Go.Proofs.XHeap Go.Proofs.XMaps
def Zv:V→Option Nat
 | .slice (some a) _ _=>some a.block
 |_=>none
theorem Ay (v:V):v.ownBlock=Zv v:=by cases v<;>first|rfl|(rename_i a n c;cases a<;>rfl)
theorem Xv (b o j:Nat):(⟨b,o,none⟩:Addr).add j=⟨b,o+j,none⟩:=by unfold Addr.add;split<;>simp_all
def Src (w:Y) (x:V) (size m:Nat) (cs:List V):Prop:=
 ∃A c,x= .slice A m c∧m≤c∧cs.length=m*size∧(0<m→∃b o,A=some ⟨b,o,none⟩∧∀j u,cs[j]? =some u→w.cell? ⟨b,o+j,none⟩=some u)
theorem Src.nil (w:Y) (size:Nat):Src w (.slice none 0 0) size 0 []:=⟨none,0,rfl,Nat.le_refl _,by simp,fun h=>absurd h (Nat.lt_irrefl _)⟩
theorem Src.fr {O:Nat→Prop} {w w':Y} {x:V} {size m:Nat} {cs:List V} (h:Src w x size m cs) (hs:0<size) (hf:Fr O w w') (hn:∀b,Zv x=some b→¬O b):Src w' x size m cs:=by
 obtain⟨A,c,rfl,hc,hl,hr⟩:=h
 refine⟨A,c,rfl,hc,hl,fun hm=> ?_⟩
 obtain⟨b,o,rfl,hcell⟩:=hr hm
 refine⟨b,o,rfl,fun j u hj=> ?_⟩
 have hlt:b<w.heap.size:=World.block_lt_of_cell? w ⟨b,o+j,none⟩ (hcell j u hj)
 rw[World.cell?_of_block (w:=w) (hf.block b hlt (hn b rfl))]
 exact hcell j u hj
theorem Src.lt {w:Y} {x:V} {size m:Nat} {cs:List V} (h:Src w x size m cs) (hs:0<size) (hm:0<m) {b:Nat} (hb:Zv x=some b):b<w.heap.size:=by
 obtain⟨A,c,rfl,hc,hl,hr⟩:=h
 obtain⟨b',o,rfl,hcell⟩:=hr hm
 have h0:0<cs.length:=by rw[hl];exact Nat.mul_pos hm hs
 have:=World.block_lt_of_cell? w ⟨b',o+0,none⟩ (hcell 0 cs[0] (by simp[h0]))
 simp only[Zv,Option.some.injEq] at hb
 subst hb;exact this
theorem Src.Zt {w:Y} {base size m:Nat} {e:TypeId} {v:V} {cs:List V} (h:w.ownsRow base e size v m cs):Src w v size m cs:=by
 have h1:=h.1
 rcases h.2 with ⟨rfl,rfl⟩|⟨g,cap,cur,rfl,_,hg,hn,_⟩
 ·exact⟨none,0,rfl,Nat.le_refl _,by simpa using h1,fun h=>absurd h (Nat.lt_irrefl _)⟩
 ·refine⟨_,cap,rfl,hn,h1,fun _=>⟨g,0,rfl,fun j u hj=> ?_⟩⟩
  have:=h.cells (g:=g) rfl j u hj
  rwa [Xv] at this
def u8s (bs:List UInt8):List V:=bs.map fun x=> .int .u8 x.toNat
theorem J7 (bs:List UInt8):(u8s bs).length=bs.length:=by simp[u8s]
theorem J8 (a b:List UInt8):u8s (a++b)=u8s a++u8s b:=by simp[u8s]
theorem Vl {bs:List UInt8}:∀u∈u8s bs,u.oneCell'=true:=by
 intro u hu;obtain⟨x,_,rfl⟩:=List.mem_map.1 hu;rfl
def Z5 (w:Y) (v:V) (bs:List UInt8):Prop:=Src w v 1 bs.length (u8s bs)
theorem Z5.fr {O:Nat→Prop} {w w':Y} {v:V} {bs:List UInt8} (h:Z5 w v bs) (hf:Fr O w w') (hn:∀b,Zv v=some b→¬O b):Z5 w' v bs:=Src.fr h (by omega) hf hn
theorem Z5.nil (w:Y):Z5 w (.slice none 0 0) []:=Src.nil w 1
theorem Z5.form {w:Y} {v:V} {bs:List UInt8} (h:Z5 w v bs):∃A c,v= .slice A bs.length c∧bs.length≤c:=by
 obtain⟨A,c,hv,hc,_⟩:=h;exact⟨A,c,hv,hc⟩
section
variable {P:Program} {w:Y} {k:KV}
theorem Yn {t ty:TypeId} {A:Option Addr} {n c:Nat} (h:P.underlying t=some (.slice (P.elem t))) (hk:k (.int .i64 n) w):px P (bSem .len #[t] ty #[.slice A n c]) w k:=
 Z9 (run_len_slice w t ty A n c h) hk
theorem VV {t ty:TypeId} {s:ByteArray} (h:P.underlying t=some .string) (hk:k (.int .i64 s.size) w):px P (bSem .len #[t] ty #[.string s]) w k:=by
 refine Z9 (w':=w) ?_ hk
 simp[bSem,Builtin.len_,goInt,run_underlying h,Result.andThen]
theorem Vu {t:TypeId} {b o n c sz:Nat} {q:IntKind} {i:Int} (h:P.underlying t=some (.slice (P.elem t))) (hs:(sizeOf (P.elem t)).run P w= .ok sz w) (h0:0≤i) (h1:i<n)
   (hk:k (.pointer (some ⟨b,o+i.toNat*sz,none⟩)) w):px P (Instr.indexAt t (.slice (some ⟨b,o,none⟩) n c) (.int q i)) w k:=by
 refine Z9 (w':=w) ?_ hk
 rw[run_indexAt_slice w t _ n c q i h,if_pos ⟨h0,h1⟩,hs]
 simp[Result.andThen,Xv]
theorem Xn {t:TypeId} {x:V} {m:Nat} {cs:List V} {q:IntKind} {i:Int} (h:P.underlying t=some (.slice (P.elem t))) {size:Nat} (hs:(sizeOf (P.elem t)).run P w= .ok size w) (hS:Src w x size m cs) (h0:0≤i) (h1:i<m)
   (hk:∀b o,(∀j u,j<size→cs[i.toNat*size+j]? =some u→w.cell? ⟨b,o+j,none⟩=some u)→k (.pointer (some ⟨b,o,none⟩)) w):px P (Instr.indexAt t x (.int q i)) w k:=by
 obtain⟨A,c,rfl,hc,hl,hr⟩:=hS
 obtain⟨b,o,rfl,hcell⟩:=hr (by omega)
 refine Vu h hs h0 h1 (hk b _ fun j u hj hu=> ?_)
 have:=hcell _ u hu
 rwa [Nat.add_assoc]
theorem QO {t:TypeId} {A:Option Addr} {n c sz:Nat} {q:IntKind} {i:Int} (h:P.underlying t=some (.slice (P.elem t))) (hs:(sizeOf (P.elem t)).run P w= .ok sz w) (h0:0≤i) (h1:i≤c) (hk:k (.slice A i.toNat c) w):
   px P (Instr.sliceAt t (.slice A n c) none (some (.int q i)) none) w k:=by
 refine Z9 (w':=w) ?_ hk
 rw[run_sliceAt_slice w t _ _ _ _ h,run_slice_h w t A n c h q i h0 (by omega),hs]
 simp only[sliced,Result.andThen,Nat.zero_mul,Nat.sub_zero]
 split
 · rfl
 · cases A<;>simp[Addr.add]
theorem HU {t:TypeId} {A:Option Addr} {n c sz:Nat} {q:IntKind} {i:Int} (h:P.underlying t=some (.slice (P.elem t))) (hs:(sizeOf (P.elem t)).run P w= .ok sz w) (h0:0≤i) (h1:i≤n)
   (hk:k (sliced A i.toNat n c sz) w):px P (Instr.sliceAt t (.slice A n c) (some (.int q i)) none none) w k:=by
 refine Z9 (w':=w) ?_ hk
 rw[run_sliceAt_slice w t _ _ _ _ h,run_slice_l w t A n c h q i h0 (by omega),hs]
 rfl
theorem C0 {t:TypeId} {A:Option Addr} {n c sz:Nat} {q q':IntKind} {i j:Int} (h:P.underlying t=some (.slice (P.elem t))) (hs:(sizeOf (P.elem t)).run P w= .ok sz w) (h0:0≤i) (h1:i≤j) (h2:j≤c)
   (hk:k (sliced A i.toNat j.toNat c sz) w):px P (Instr.sliceAt t (.slice A n c) (some (.int q i)) (some (.int q' j)) none) w k:=by
 refine Z9 (w':=w) ?_ hk
 rw[run_sliceAt_slice w t _ _ _ _ h,run_slice_lh w t A n c h q q' i j h0 h1 (by omega),hs]
 rfl
theorem Src.cut {size n:Nat} {cs:List V} {A:Option Addr} {c:Nat} (h:Src w (.slice A n c) size n cs) {l h':Nat} (h1:l≤h') (h2:h'≤n):
   Src w (sliced A l h' c size) size (h'-l) ((cs.drop (l*size)).take ((h'-l)*size)):=by
 obtain⟨A',c',he,hc,hl,hr⟩:=h
 injection he with e1 e2 e3
 subst e1;subst e3
 refine⟨_,_,rfl,by omega,?_,fun hm=> ?_⟩
 · rw [List.length_take,List.length_drop,hl]
   have:(h'-l)*size≤n*size-l*size:=by rw[←Nat.sub_mul];exact Nat.mul_le_mul_right _ (by omega)
   omega
 · obtain ⟨b,o,rfl,hcell⟩ := hr (by omega)
   have hne:¬c=l:=by omega
   rw[if_neg hne]
   refine⟨b,o+l*size,by simp[Xv],fun j u hj=> ?_⟩
   rw[List.getElem?_take] at hj
   split at hj
   · rw [List.getElem?_drop] at hj
     have:=hcell _ u hj
     rwa [Nat.add_assoc]
   · cases hj
theorem BI {t e:TypeId} {z x:V} (ht:(underlying t).run P w= .ok (.slice e) w) (hs:(sizeOf e).run P w= .ok 1 w) (hz:(zeroValue e).run P w= .ok z w) (hz1:z.cells= #[z]) (hx:x.cells= #[x])
   (hk:k (.slice (some ⟨w.heap.size,0,none⟩) 1 1) (w.alloc (.cells #[x] e))):px P (Instr.buildSlice t 1 #[(0,x)]) w k:=by
 refine Z9 ?_ hk
 have hr:Array.range 1= #[0]:=rfl
 simp[Instr.buildSlice,ht,hs,hz,hz1,hx,Instr.fill,newRow,newObj,Sem.run,Result.andThen,hr]
theorem HV {t e:TypeId} {sz:Nat} (ht:(underlying t).run P w= .ok (.slice e) w) (hs:(sizeOf e).run P w= .ok sz w)
   (hk:k (.slice (some ⟨w.heap.size,0,none⟩) 0 0) (w.alloc (.cells #[] e))):px P (Instr.buildSlice t 0 #[]) w k:=by
 refine Z9 ?_ hk
 have hr:Array.range 0= #[]:=rfl
 simp[Instr.buildSlice,ht,hs,Instr.fill,newRow,newObj,Sem.run,Result.andThen,hr]
theorem Jr {base:Nat} {t t' ty e:TypeId} {i:TypeInfo} {z:V} {size bytes:Nat} (ht:P.underlying t=some (.slice e)) (ht':t'=t) (hi:P.info? e=some i) (hz:i.zero=some z)
   (hsize:i.size=size) (hby:i.bytes=bytes) (hzs:z.cells.size=size) (hsz:0<size) {v x:V} {n m:Nat} {xs cs:List V} (HO:w.ownsRow base e size v n xs) (HS:Src w x size m cs)
   (h1:∀u∈cs,u.oneCell'=true) (h63:n+m≤maxLen) (hb:(n+m)*bytes≤140737488355328) (hbase:base≤w.heap.size):
   ∃v' w',(Builtin.append_ #[t,t'] ty #[v,x]).run P w= .ok v' w'∧w'.ownsRow base e size v' (n+m) (xs++cs)∧w.grownBy w' v.ownBlock∧(v'.ownBlock=v.ownBlock∨v'.ownBlock=some w.heap.size):=by
 subst ht'
 obtain⟨A,c,rfl,hc,hl,hr⟩:=HS
 rcases Nat.eq_zero_or_pos m with h0|h0
 · subst h0
   have hcs:cs=[]:=List.eq_nil_of_length_eq_zero (by simpa using hl)
   subst hcs
   cases A with
   | none =>
     rcases HO.2 with ⟨rfl,rfl⟩|⟨g,cap,cur,rfl,hg,hh,hnc,rest⟩
     · refine ⟨_,w,?_,by simpa using HO,World.grownBy.refl w _,.inl rfl⟩
       simp[Builtin.append_,run_underlying ht,sizeOf,typeInfo,hi,Builtin.lenOf,Builtin.firstCells]
     · refine ⟨_,w,?_,by simpa using HO,World.grownBy.refl w _,.inl rfl⟩
       simp[Builtin.append_,run_underlying ht,sizeOf,typeInfo,hi,Builtin.lenOf,Builtin.firstCells,hnc,storeCells]
   | some a =>
     obtain⟨v',w',hrun,h2,h3,_,h5⟩:=run_append_own_at (P:=P) w base t' ty e i z size bytes ht hi hz hsize hby hzs hsz v n xs HO a 0 c [] (by simp) (by simp) (by simp) h63 hb hbase
     exact⟨v',w',hrun,h2,h3,h5⟩
 · obtain ⟨b,o,rfl,hcell⟩ := hr h0
   obtain⟨v',w',hrun,h2,h3,_,h5⟩:=run_append_own_at (P:=P) w base t' ty e i z size bytes ht hi hz hsize hby hzs hsz v n xs HO ⟨b,o,none⟩ m c cs hl
     (fun j u hu=>by rw[Xv];exact hcell j u hu) h1 h63 hb hbase
   exact⟨v',w',hrun,h2,h3,h5⟩
theorem YK {base:Nat} {t t' ty e:TypeId} {i:TypeInfo} {z:V} {size bytes:Nat} (ht:P.underlying t=some (.slice e)) (ht':t'=t) (hi:P.info? e=some i) (hz:i.zero=some z)
   (hsize:i.size=size) (hby:i.bytes=bytes) (hzs:z.cells.size=size) (hsz:0<size) {v x:V} {n m:Nat} {xs cs:List V} (HO:w.ownsRow base e size v n xs) (HS:Src w x size m cs)
   (h1:∀u∈cs,u.oneCell'=true) (h63:n+m≤maxLen) (hb:(n+m)*bytes≤140737488355328) (hbase:base≤w.heap.size)
   (hk:∀v' w',w'.ownsRow base e size v' (n+m) (xs++cs)→Fr (fun b=>some b=Zv v) w w'→(Zv v'=Zv v∨Zv v'=some w.heap.size)→k v' w'):px P (bSem .append #[t,t'] ty #[v,x]) w k:=by
 obtain⟨v',w',hrun,h2,h3,h4⟩:=Jr (P:=P) (w:=w) ht ht' hi hz hsize hby hzs hsz HO HS h1 h63 hb hbase (ty:=ty)
 rw[Ay] at h3 h4
 rw[Ay] at h4
 exact Z9 hrun (hk v' w' h2 (Fr.grown h3) h4)
theorem Z4 {O:Nat→Prop} {w':Y} {base size n:Nat} {e:TypeId} {v:V} {xs:List V} (h:w.ownsRow base e size v n xs) (hf:Fr O w w') (hn:∀b,Zv v=some b→¬O b):w'.ownsRow base e size v n xs:=by
 obtain⟨h1,h2⟩:=h
 refine⟨h1,?_⟩
 rcases h2 with h2|⟨g,cap,cur,rfl,hg,hh,rest⟩
 ·exact .inl h2
 ·exact .inr ⟨g,cap,cur,rfl,hg,hf.get hh (hn g rfl),rest⟩
theorem ZQ (w:Y) (base:Nat) (e:TypeId) (size:Nat) (cs:Array V) (n:Nat) (hb:base≤w.heap.size) (hm:n≤maxLen) (hs:cs.size=n*size):
 (w.alloc (.cells cs e)).ownsRow base e size (.slice (some ⟨w.heap.size,0,none⟩) n n) n cs.toList:=World.ownsRow_lit w cs n hb hm hs
theorem Xo {base base' size n:Nat} {e:TypeId} {v:V} {xs:List V} (h:w.ownsRow base e size v n xs) (hb:base'≤base):w.ownsRow base' e size v n xs:=by
 obtain⟨h1,h2⟩:=h
 refine⟨h1,?_⟩
 rcases h2 with h2|⟨g,cap,cur,hv,hg,rest⟩
 ·exact .inl h2
 ·exact .inr ⟨g,cap,cur,hv,Nat.le_trans hb hg,rest⟩
theorem Zu {base size n:Nat} {e:TypeId} {v:V} {xs:List V} (h:w.ownsRow base e size v n xs) {b:Nat} (hb:Zv v=some b):base≤b∧b<w.heap.size:=h.lt b (by rw[Ay];exact hb)
end
theorem Vf {α β:Type} {f:α→List β} {n:Nat} (hn:∀a,(f a).length=n):∀ {l:List α} {i j:Nat} {a:α},l[i]? =some a→j<n→(l.flatMap f)[i*n+j]? =(f a)[j]?
 | [],i,j,a,h,_=>by simp at h
 |q::r,0,j,a,h,hj=>by
  simp only[List.getElem?_cons_zero,Option.some.injEq] at h;subst h
  rw[List.flatMap_cons,Nat.zero_mul,Nat.zero_add,List.getElem?_append_left (by rw[hn];exact hj)]
 |q::r,i+1,j,a,h,hj=>by
  have h1:=Vf hn (l:=r) (i:=i) (j:=j) (a:=a) (by simpa using h) hj
  rw[List.flatMap_cons,List.getElem?_append_right (by rw[hn,Nat.add_mul];omega),hn]
  have e:(i+1)*n+j-n=i*n+j:=by rw[Nat.add_mul];omega
  rw[e];exact h1
section
variable {P:Program} {w:Y} {k:KV}
theorem ZF {t ty:TypeId} {x:V} {size m:Nat} {cs:List V} (h:P.underlying t=some (.slice (P.elem t))) (hS:Src w x size m cs) (hk:k (.int .i64 m) w):px P (bSem .len #[t] ty #[x]) w k:=by
 obtain⟨A,c,rfl,_⟩:=hS
 exact Yn h hk
theorem Qk {t te:TypeId} {x u:V} {m:Nat} {cs:List V} {q:IntKind} {i:Nat} {kk:V→KV} (h:P.underlying t=some (.slice (P.elem t))) (hs:(sizeOf (P.elem t)).run P w= .ok 1 w) (hag:(isAgg te).run P w= .ok false w)
   (hS:Src w x 1 m cs) (hi:i<m) (hu:cs[i]? =some u) (hk:∀p,kk p u w):px P (Instr.indexAt t x (.int q i)) w fun p w=>px P (Instr.loadAt te p) w (kk p):=by
 refine Xn h hs hS (by omega) (by omega) fun b o hc=> ?_
 have:=hc 0 u (by omega) (by simpa using hu)
 exact Xl hag (by simpa using this) (hk _)
theorem BJ {te:TypeId} {b o:Nat} {x y:V} (hag:(isAgg te).run P w= .ok true w) (hsz:(sizeOf te).run P w= .ok 2 w) (hx:w.cell? ⟨b,o,none⟩=some x) (hy:w.cell? ⟨b,o+1,none⟩=some y):
   (Instr.loadAt te (.pointer (some ⟨b,o,none⟩))).run P w= .ok (.agg #[x,y]) w:=by
 have:=run_loadCells_list (P:=P) w ⟨b,o,none⟩ [x,y] (fun j v hj=>by
   rw[Xv]
   match j,hj with
   |0,hj=>simp only[List.getElem?_cons_zero,Option.some.injEq] at hj;subst hj;exact hx
   |1,hj=>simp only[List.getElem?_cons_succ,List.getElem?_cons_zero,Option.some.injEq] at hj;subst hj;exact hy
   |j+2,hj=>simp at hj)
 have e:([x,y]:List V).length=2:=rfl
 rw[e] at this
 simp[Instr.loadAt,Instr.sureAddr,loadVar,hag,hsz,this,Result.andThen]
theorem gn {te:TypeId} {b o:Nat} {x y:V} (hag:(isAgg te).run P w= .ok true w) (hsz:(sizeOf te).run P w= .ok 2 w) (hx:w.cell? ⟨b,o,none⟩=some x) (hy:w.cell? ⟨b,o+1,none⟩=some y) (hk:k (.agg #[x,y]) w):
 px P (Instr.loadAt te (.pointer (some ⟨b,o,none⟩))) w k:=Z9 (BJ hag hsz hx hy) hk
theorem yo {t te:TypeId} {x u v:V} {m:Nat} {cs:List V} {q:IntKind} {i:Nat} {kk:V→KV} (h:P.underlying t=some (.slice (P.elem t))) (hs:(sizeOf (P.elem t)).run P w= .ok 2 w) (hag:(isAgg te).run P w= .ok true w) (hsz:(sizeOf te).run P w= .ok 2 w)
   (hS:Src w x 2 m cs) (hi:i<m) (hu:cs[i*2]? =some u) (hv:cs[i*2+1]? =some v) (hk:∀p,kk p (.agg #[u,v]) w):px P (Instr.indexAt t x (.int q i)) w fun p w=>px P (Instr.loadAt te p) w (kk p):=by
 refine Xn h hs hS (by omega) (by omega) fun b o hc=> ?_
 have h1:=hc 0 u (by omega) (by simpa using hu)
 have h2:=hc 1 v (by omega) (by simpa using hv)
 exact gn hag hsz (by simpa using h1) h2 (hk _)
theorem Src.place {x:V} {size m:Nat} {cs:List V} (hS:Src w x size m cs) {i:Nat} (hi:i<m) (hsz:0<size):∃b o c,x= .slice (some ⟨b,o,none⟩) m c∧∀j u,j<size→cs[i*size+j]? =some u→w.cell? ⟨b,o+i*size+j,none⟩=some u:=by
 obtain⟨A,c,rfl,hc,hl,hr⟩:=hS
 obtain⟨b,o,rfl,hcell⟩:=hr (by omega)
 exact⟨b,o,c,rfl,fun j u hj hu=>by rw[Nat.add_assoc];exact hcell _ u hu⟩
end
end Go.Proofs.XSlices
namespace Go.Proofs.XKeys
open Go Go.RowKit Go.Proofs Go.Proofs.XRed Go.Proofs.XHeap Go.Proofs.XMaps Go.Proofs.XDisk Go.WideElems
def R0:V→Option (DataW Unit×List MemPlace):=fun _=>some (.nil,[])
theorem yp {P:Program} {kt:TypeId} (hk:P.underlying kt=some .string) {w:Y} {m:Nat} {l:List (ByteArray×V)} (h:SMap w m l) (hs:∀p∈l,p.1.size≤maxLen) (hl:l.length≤maxLen):
   ∃D:DataW Unit,w.ownsMap P kt R0 m l.length D∧Maps.size D=l.length∧(strKeys D).Perm (l.map fun p=>p.1.data.toList):=by
 obtain⟨es,clock,hm,hst,he⟩:=h
 have hlen:es.size=l.length:=by have:=congrArg List.length he;simpa using this
 have hread:∀x∈es.toList,∃s:ByteArray,x.key= .string s∧s.size≤maxLen∧rd P kt R0 x=some (.string s.data.toList,.nil):=by
   intro x hx
   have:(x.key,x.val)∈l.map fun p=>(Value.string p.1,p.2):=by rw[←he];exact List.mem_map_of_mem (f:=fun e:MapEntry=>(e.key,e.val)) hx
   obtain⟨p,hp,e⟩:=List.mem_map.1 this
   simp only[Prod.mk.injEq] at e
   refine⟨p.1,e.1.symm,hs p hp,?_⟩
   unfold WideElems.rd
   rw[←e.1,WideMaps.keyOf_string_mk hk (hs p hp)]
   rfl
 refine⟨.map ((es.toList.map (rg P kt R0)).foldr DataW.insert []),⟨es,clock,hm,⟨by omega,hst,fun x hx=>by obtain⟨s,_,_,h⟩:=hread x hx;exact⟨_,h⟩⟩,by omega,rfl⟩,?_,?_⟩
 · have := (WideShapes.sorted_perm (es.toList.map (rg P kt R0))).length_eq
   rw[Maps.size_eq,this];simpa using hlen
 · have h1 := (WideShapes.sorted_perm (es.toList.map (rg P kt R0))).map fun p => strOf p.1
   refine h1.trans ?_
   have:(es.toList.map (rg P kt R0)).map (fun p=>strOf p.1)=(es.toList.map fun e=>(e.key,e.val)).map fun q=>match q.1 with| .string s=>s.data.toList|_=>[]:=by
     rw[List.map_map,List.map_map]
     refine List.map_congr_left fun x hx=> ?_
     obtain⟨s,h1,_,h2⟩:=hread x hx
     simp only[Function.comp,rg,h2,Option.getD_some,strOf,h1]
   rw[this,he,List.map_map]
   exact .refl _
theorem C1 {l l':Names} (hp:l.Perm l') (ho:Ordered l') {ss:List (List UInt8)} (h:ss.Perm (l.map fun p=>p.1.data.toList)):
   (ss.mergeSort fun x y=>decide (x≤y)).map encStr=l'.map fun p=>Value.string p.1:=by
 have e:ss.mergeSort (fun x y=>decide (x≤y))=l'.map fun p=>p.1.data.toList:=by
   have tr:∀a b c:List UInt8,decide (a≤b)=true→decide (b≤c)=true→decide (a≤c)=true:=by
     intro a b c h1 h2
     simp only[decide_eq_true_eq] at *
     exact List.le_trans h1 h2
   have to:∀a b:List UInt8,(decide (a≤b)||decide (b≤a))=true:=by
     intro a b
     simp only[Bool.or_eq_true,decide_eq_true_eq]
     exact List.le_total a b
   refine List.Perm.eq_of_pairwise (le:=fun a b=>decide (a≤b)=true) (fun a b _ _ h1 h2=> ?_) (List.pairwise_mergeSort tr to ss) ?_ ((List.mergeSort_perm ss _).trans (h.trans (hp.map _)))
   · simp only [decide_eq_true_eq] at h1 h2
     exact List.le_antisymm h1 h2
   · rw [List.pairwise_map]
     refine ho.imp fun {p q} hpq=> ?_
     unfold blt at hpq
     simp only[decide_eq_true_eq] at *
     exact List.le_of_lt hpq
 rw[e,List.map_map]
 rfl
end Go.Proofs.XKeys
namespace Go.Proofs.XCalls
open Go Go.RowKit Go.Proofs.XRed Go.Proofs.XHeap Go.Proofs.XMaps Go.Proofs.XSlices
section
variable {P:Program} {w:Y} {k:KV}
theorem J9 {f:FuncId} {fn:Func} {e:Array V→Sem V} (hf:P.funcs[f]? =some fn) (hname:(fn.name== "runtime.NumGoroutine")=false) (hb:fn.body.isNone=true) (hn:Extern.findNext fn=none) (he:Extern.find fn=some e) {args:List V}
   (h:px P (e args.toArray) w k):pFn P f args w k:=by
 unfold pFn
 rw[run_callFunc_extern hf hname hb hn he]
 unfold px at h
 split at h
 · rename_i v w' heq;rw[heq];exact h
 · exact h.elim
def vp (P:Program) (t:TypeId) (name:String):Option (Array FieldStep×Option (FuncId×Bool)):=(P.info? t).bind fun i=>(i.methods.find? (·.name==name)).map fun m=>(m.path,m.func)
theorem Eh {t:TypeId} {name:String} {f:FuncId} {v:V} {d:TypeDesc} (h:vp P t name=some (#[],some (f,false))) (hu:P.underlying t=some d) (hp:∀e,d≠ .pointer e) (n:Nat):
   (method (n+1) t v name).run P w= .ok (f,v) w:=by
 unfold vp at h
 obtain⟨i,hi,h2⟩:=Option.bind_eq_some_iff.1 h
 obtain⟨m,hm,h3⟩:=Option.map_eq_some_iff.1 h2
 simp only[Prod.mk.injEq] at h3
 have e1:∀o,(receiverAt t (.val v) false o).run P w= .ok v w:=by
   intro o
   simp only[receiverAt,Sem.run_bind,run_underlying hu,Result.andThen]
   cases d<;>first|(exact absurd rfl (hp _))|rfl
 simp only[method,Sem.run_bind,typeInfo,Sem.run,hi,Result.andThen,hm,h3.1,h3.2,follow]
 simp[hi,hm,h3.1,h3.2,follow,Result.andThen,e1,Sem.run]
theorem Js {t:TypeId} {name:String} {f:FuncId} {v:V} {args:List V} {d:TypeDesc} (h:vp P t name=some (#[],some (f,false))) (hu:P.underlying t=some d) (hp:∀e,d≠ .pointer e) (hk:pFn P f (v::args) w k):AS P (.iface t v) name args w k:=by
 unfold AS
 have:=Eh (w:=w) (v:=v) h hu hp (P.types.size+(Made.depth-1))
 have hd:0<Made.depth:=by decide
 have e:P.types.size+(Made.depth-1)+1=P.types.size+Made.depth:=by omega
 rw[e] at this
 simp only[callMethod,Sem.run_bind,run_program,Result.andThen_ok,this]
 simpa[pFn] using hk
theorem BK {t:TypeId} {name:String} {f:FuncId} {v:V} {d:TypeDesc} (h:vp P t name=some (#[],some (f,false))) (hu:P.underlying t=some d) (hp:∀e,d≠ .pointer e) (n:Nat):
   (nilAhead (n+1) t v name).run P w= .ok (some false) w:=by
 unfold vp at h
 obtain⟨i,hi,h2⟩:=Option.bind_eq_some_iff.1 h
 obtain⟨m,hm,h3⟩:=Option.map_eq_some_iff.1 h2
 simp only[Prod.mk.injEq] at h3
 simp[nilAhead,typeInfo,hi,hm,h3.1,h3.2,followBlind,Result.andThen,run_underlying hu]
 cases d<;>first|(exact absurd rfl (hp _))|rfl
theorem Vv {t:TypeId} {name:String} {f:FuncId} {v:V} {cap:Array V} {d:TypeDesc} (h:vp P t name=some (#[],some (f,false))) (hu:P.underlying t=some d) (hp:∀e,d≠ .pointer e) (hk:k (.func (.method name) #[.iface t v] cap) w):
   px P (Zh (.func (.method name) #[.iface t v] cap)) w k:=by
 refine Z9 (w':=w) ?_ hk
 have hd:0<Made.depth:=by decide
 have e:P.types.size+Made.depth=P.types.size+(Made.depth-1)+1:=by omega
 simp only[Zh]
 have:=BK (w:=w) (v:=v) h hu hp (P.types.size+(Made.depth-1))
 rw[←e] at this
 simp only[List.getElem?_toArray,List.getElem?_cons_zero,Sem.run_bind,run_program,Result.andThen_ok,this]
 rfl
theorem US {fn:Fn} {first cap:Array V} (hk:k (.func fn first cap) w):px P (Instr.makeFunc fn first cap) w k:=Z9 (w':=w) rfl hk
theorem QP {t e:TypeId} {x y:Operand} {A:Option Addr} {n c n' c':Nat} (h:P.underlying t=some (.slice e)) (hk:k (.bool A.isNone) w):px P (Zd .eql t x y (.slice A n c) (.slice none n' c')) w k:=
 Vk (by simp) (by simp) (Lib.run_eql_slice_nil w t e A n c n' c' h) hk
theorem zgm {ts:Array TypeId} {t:TypeId} {q:IntKind} {a b:Int} (hk:k (.int q (if b<a then b else a)) w):px P (bSem .min ts t #[.int q a,.int q b]) w k:=Z9 (w':=w) (run_min_int2 w ts t q q a b) hk
theorem zgn {ts:Array TypeId} {t:TypeId} {q:IntKind} {a b:Int} (hk:k (.int q (if b>a then b else a)) w):px P (bSem .max ts t #[.int q a,.int q b]) w k:=Z9 (w':=w) (run_max_int2 w ts t q q a b) hk
theorem yq {t e:TypeId} {i:TypeInfo} {z:V} (ht:P.underlying t=some (.slice e)) (hi:P.info? e=some i) (hz:i.zero=some z) {q q':IntKind} {n:Int} (h0:0≤n) (hb:(i.bytes:Int)*n≤281474976710656) (h63:n≤9223372036854775807)
   (hk:k (.slice (some ⟨w.heap.size,0,none⟩) n.toNat n.toNat) (w.alloc (.cells (madeCells z.cells (n.toNat*i.size)) e))):px P (Instr.makeSlice t (.int q n) (.int q' n)) w k:=
 Z9 (run_make w t e i z ht hi hz q q' n n h0 (Int.le_refl _) hb h63) hk
theorem VC (z:V) (hz:z.cells= #[z]) (n:Nat):madeCells z.cells n=(List.replicate n z).toArray:=by
 rw[hz]
 apply Array.ext
 ·simp[madeCells]
 ·intro i h1 h2
  simp[madeCells,Nat.mod_one]
theorem Fr.setRow {w:Y} {g:Nat} {cs cur:Array V} {t:TypeId} {fr:Nat×Nat} (hg:w.heap[g]? =some (.cells cur t fr)):Fr (fun b=>b=g) w (w.setRow g cs):=
 ⟨rfl,rfl,rfl,by simp[World.setRow],fun b hb hn=>by
  simp only[World.setRow]
  rw[Array.getElem?_modify]
  split
  ·rename_i e;exact absurd e.symm hn
  ·rfl⟩
theorem Dm {dT sT ty e t:TypeId} {g o dLen dCap m:Nat} {x:V} {cur:Array V} {cs:List V} (hu:P.underlying dT=some (.slice e)) (hs:(P.info? e).map (·.size)=some 1)
   (hg:w.heap[g]? =some (.cells cur t (0,0))) (HS:Src w x 1 m cs) (h1:∀u∈cs,u.oneCell'=true) (hfit:o+min m dLen≤cur.size)
   (hk:∀w',w'.heap[g]? =some (.cells (cur.toList.take o++cs.take dLen++cur.toList.drop (o+min m dLen)).toArray t (0,0))→Fr (fun b=>b=g) w w'→w'.heap.size=w.heap.size→k (.int .i64 (min m dLen:Nat)) w'):
   px P (bSem .copy #[dT,sT] ty #[.slice (some ⟨g,o,none⟩) dLen dCap,x]) w k:=by
 obtain⟨A,c,rfl,hc,hl,hr⟩:=HS
 rw[Nat.mul_one] at hl
 have hne:∀(A:Option Addr),m=0→A=none→(bSem .copy #[dT,sT] ty #[.slice (some ⟨g,o,none⟩) dLen dCap,.slice A m c]).run P w= .ok (.int .i64 0) w:=by
   intro A h0 hA
   subst hA;subst h0
   cases hq:P.info? e with
   |none=>simp[hq] at hs
   |some i=>simp[bSem,Builtin.copy_,run_underlying hu,Builtin.lenOf,Builtin.firstCells,sizeOf,typeInfo,hq,storeCells,goInt]
 have hsame:∀(A:Option Addr),m=0→A=none→px P (bSem .copy #[dT,sT] ty #[.slice (some ⟨g,o,none⟩) dLen dCap,.slice A m c]) w k:=by
   intro A h0 hA
   have hcs:cs=[]:=List.eq_nil_of_length_eq_zero (by omega)
   have hrun:=hne A h0 hA
   subst h0
   refine Z9 hrun ?_
   have:=hk w (by subst hcs;simpa using hg) (Fr.refl _ _) rfl
   simpa using this
 have hrow:∀a,A=some a→(∀j v,(cs.take dLen)[j]? =some v→w.cell? (a.add j)=some v)→px P (bSem .copy #[dT,sT] ty #[.slice (some ⟨g,o,none⟩) dLen dCap,.slice A m c]) w k:=by
   intro a hA hcell
   subst hA
   have hlen:(cs.take dLen).length=min m dLen:=by rw[List.length_take,hl,Nat.min_comm]
   have hrun:=run_copy_row (P:=P) w dT sT ty e g o dLen dCap a m c cur t (cs.take dLen) hu hs hg hlen hcell (by rw[hlen];exact hfit) fun v hv=>h1 v (List.mem_of_mem_take hv)
   rw[hlen] at hrun
   exact Z9 hrun (hk _ (setRow_heap w g cur _ t (0,0) hg) (Fr.setRow hg) (by simp[World.setRow]))
 rcases Nat.eq_zero_or_pos m with h0|h0
 · cases A with
   |none=>exact hsame none h0 rfl
   | some a =>
     refine hrow a rfl fun j v hj=> ?_
     have hcs:cs=[]:=List.eq_nil_of_length_eq_zero (by omega)
     subst hcs;simp at hj
 · obtain ⟨b,o',rfl,hcell⟩ := hr h0
   refine hrow _ rfl fun j v hj=> ?_
   rw[Xv]
   exact hcell j v (by
     rw[List.getElem?_take] at hj
     split at hj
     · exact hj
     · cases hj)
theorem QQ {d:Nat} {t kt et:TypeId} {p:Option Nat} (h:P.underlying t=some (.map kt et)):(Op.equalIn (d+1) t (.map p) (.map none)).run P w= .ok p.isNone w:=by
 cases p<;>simp[Op.equalIn,run_underlying h]
theorem gp {t kt et:TypeId} {x y:Operand} {p:Option Nat} (h:P.underlying t=some (.map kt et)) (hk:k (.bool p.isNone) w):px P (Zd .eql t x y (.map p) (.map none)) w k:=by
 refine Vk (by simp) (by simp) ?_ hk
 simp only[binOp]
 simp[show Op.equal t (.map p) (.map none)=Op.equalIn (9999+1) t (.map p) (.map none) from rfl,QQ h]
theorem Pr {t:TypeId} {m:Nat} {l:List (ByteArray×V)} (h:SMap w m l) (hk:∀w',SMap w' w.heap.size l→Fr (fun _=>False) w w'→w'.heap.size=w.heap.size+1→k (.iface t (.map (some w.heap.size))) w'):px P (Extern.MapsClone.clone #[.iface t (.map (some m))]) w k:=by
 obtain⟨es,clock,hm,h2⟩:=h.copy
 refine Z9 (w':=w.alloc (.map es clock)) ?_ (hk _ h2 (Fr.alloc _ _ _) (by simp))
 have e:Extern.MapsClone.clone #[.iface t (.map (some m))]=(getObj m>>=fun o=>match o with
     | .map entries clock=>(newObj (.map entries clock)>>=fun n=>pure (.iface t (.map (some n))))
     |_=>stuck "maps.clone: a map expected"):=rfl
 rw[e]
 simp[MapKept.run_getObj_map hm,Result.andThen,newObj,Sem.run]
theorem zlr {t xT kt et:TypeId} {v:V} (h:P.underlying t=some (.map kt et)) (hk:k v w):px P (Instr.typeAssert (.iface t v) xT t false) w k:=by
 refine Z9 (w':=w) ?_ hk
 simp[Instr.typeAssert,run_underlying h,Result.andThen]
theorem Va {t b o n:Nat} {cs:Array V} {T:TypeId} {vs:List V} {kk:Y→Prop} (hsz:(sizeOf t).run P w= .ok n w) (hn:vs.length=n) (h1:∀v∈vs,v.oneCell'=true) (h:w.heap[b]? =some (.cells cs T (0,0))) (ho:o+n≤cs.size)
   (hk:∀w',w'.heap[b]? =some (.cells (cs.toList.take o++vs++cs.toList.drop (o+n)).toArray T (0,0))→Fr (fun c=>c=b) w w'→w'.heap.size=w.heap.size→kk w'):pu P (Instr.storeAt t (.pointer (some ⟨b,o,none⟩)) (.agg vs.toArray)) w kk:=by
 have hst:=run_storeCells_at P b o T vs 0 cs w h (by simpa[hn] using ho) h1
 refine Mj (w':=w.setRow b (cs.toList.take o++vs++cs.toList.drop (o+n)).toArray) ?_ (hk _ (setRow_heap w b cs _ T (0,0) h) (Fr.setRow h) (by simp[World.setRow]))
 simp[Instr.storeAt,Instr.sureAddr,storeVar,hsz,Value.cells,hn,Result.andThen,hst]
end
end Go.Proofs.XCalls
