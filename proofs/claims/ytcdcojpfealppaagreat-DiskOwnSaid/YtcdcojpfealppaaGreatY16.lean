/- Put together by a program (wip/tools/shake.py): XBag2,XLoad,XRefuse,XSafe,XRef,List,XPtr. -/
import Derived.Test.YtcdcojpfealppaaGreatY15
import Derived.Test.YtcdcojpfealppaaGreatY3
import Derived.Test.YtcdcojpfealppaaGreatY14
import Derived.Lib.SliceRun
import Derived.Test.YtcdcojpfealppaaGreatY2
import Derived.LaidEql
set_option linter.unusedVariables false
set_option linter.unusedSimpArgs false
open Go renaming World → Y, Value → V
namespace Go.Proofs.XSep
open Go Go.RowKit Go.Proofs.XRed Go.Proofs.XHeap Go.Proofs.XSlices
variable {w:Y} {l:List Yf} {ix:Nat} {te sz n:Nat} {v:V} {cs:List V}
theorem Sep.own (h:Sep l w) (ix:Nat) (hix:l[ix]? =some (Zz te sz v n cs)):w.ownsRow 0 te sz v n cs:=by
 obtain⟨O,I,h,_⟩:=h.get ix hix;exact h
theorem Sep.T8 (h:Sep l w) (ix:Nat) (hix:l[ix]? =some (Zz te 1 v n cs)) {i:Nat} (hi:i<n):∃g cap cur,v= .slice (some ⟨g,0,none⟩) n cap∧w.heap[g]? =some (.cells cur te (0,0))∧i<cur.size∧∀u,Sep (l.set ix (Zz te 1 v n (cs.set i u))) (w.setCell ⟨g,i,none⟩ u):=by
 obtain⟨O,I,J,⟨h1,h2,h3⟩,-,-,hs⟩:=h.at_ ix hix
 obtain⟨g,cap,cur,hv,hnc,-,hg,hi',-,hset⟩:=Xh h1 (i:=i) (by omega)
 refine⟨g,cap,cur,hv,hg,hi',fun u=>hs _ _ O I ⟨hset u,h2,h3⟩ ⟨(Fr.setCell w ⟨g,i,none⟩ u).mono fun b hb=> .inl ((h2 b).2 (by rw[hv,show b=g from hb];rfl)),fun b=> .inl,fun b hb=>absurd hb (h3 b)⟩⟩
theorem ze {base:Nat} (h:w.ownsRow base te sz v n cs) {i:Nat} (hi:i<n):∃g cap cur,v= .slice (some ⟨g,0,none⟩) n cap∧w.heap[g]? =some (.cells cur te (0,0))∧i*sz+sz≤cur.size∧∀(w':Y) (vs:List V),vs.length=sz→
   w'.heap[g]? =some (.cells (cur.toList.take (i*sz)++vs++cur.toList.drop (i*sz+sz)).toArray te (0,0))→w'.ownsRow base te sz v n (cs.take (i*sz)++vs++cs.drop (i*sz+sz)):=by
 obtain⟨hl,h2⟩:=h
 rcases h2 with ⟨_,h0⟩|⟨g,cap,cur,hv,hb,hg,hnc,hcm,hcs,ht⟩
 · subst h0;omega
 · have hle : i * sz + sz ≤ n * sz := by rw [← Nat.succ_mul]; exact Nat.mul_le_mul_right _ hi
   have hcap:n*sz≤cap*sz:=Nat.mul_le_mul_right _ hnc
   refine⟨g,cap,cur,hv,hg,by omega,fun w' vs hvs hw'=>⟨?_,.inr ⟨g,cap,_,hv,hb,hw',hnc,hcm,?_,?_⟩⟩⟩
   · simp only[List.length_append,List.length_take,List.length_drop,hl,hvs];omega
   · simp only[List.size_toArray,List.length_append,List.length_take,List.length_drop,Array.length_toList,hvs,hcs];omega
   · rw [List.toList_toArray,← ht]
     have hcl:cur.toList.length=cap*sz:=by simpa using hcs
     have hlen:(cur.toList.take (i*sz)++vs).length=i*sz+sz:=by simp only[List.length_append,List.length_take,hvs];omega
     rw[List.take_append,List.take_of_length_le (by omega:(cur.toList.take (i*sz)++vs).length≤n*sz),hlen,List.take_take,Nat.min_eq_left (by omega),List.drop_take]
theorem Sep.T9 (h:Sep l w) (ix:Nat) (hix:l[ix]? =some (Zz te sz v n cs)) {i:Nat} (hi:i<n):∃g cap cur,v= .slice (some ⟨g,0,none⟩) n cap∧w.heap[g]? =some (.cells cur te (0,0))∧i*sz+sz≤cur.size∧∀(w':Y) (vs:List V),vs.length=sz→
   w'.heap[g]? =some (.cells (cur.toList.take (i*sz)++vs++cur.toList.drop (i*sz+sz)).toArray te (0,0))→Fr (fun b=>b=g) w w'→Sep (l.set ix (Zz te sz v n (cs.take (i*sz)++vs++cs.drop (i*sz+sz)))) w':=by
 obtain⟨O,I,J,⟨h1,h2,h3⟩,-,-,hs⟩:=h.at_ ix hix
 obtain⟨g,cap,cur,hv,hg,hi',hset⟩:=ze h1 hi
 exact⟨g,cap,cur,hv,hg,hi',fun w' vs hvs hw' hf=>hs _ _ O I ⟨hset w' vs hvs hw',h2,h3⟩ ⟨hf.mono fun b hb=> .inl ((h2 b).2 (by rw[hv,show b=g from hb];rfl)),fun b=> .inl,fun b hb=>absurd hb (h3 b)⟩⟩
theorem Sep.AQ (h:Sep l w) (ix:Nat) (hix:l[ix]? =some (Zz te sz v n cs)) {i:Nat} (hi:i<n*sz):∃g cap cur,v= .slice (some ⟨g,0,none⟩) n cap∧w.heap[g]? =some (.cells cur te (0,0))∧i<cur.size∧∀u,Sep (l.set ix (Zz te sz v n (cs.set i u))) (w.setCell ⟨g,i,none⟩ u):=by
 obtain⟨O,I,J,⟨h1,h2,h3⟩,-,-,hs⟩:=h.at_ ix hix
 obtain⟨g,cap,cur,hv,hnc,-,hg,hi',-,hset⟩:=Xh h1 (i:=i) hi
 refine⟨g,cap,cur,hv,hg,hi',fun u=>hs _ _ O I ⟨hset u,h2,h3⟩ ⟨(Fr.setCell w ⟨g,i,none⟩ u).mono fun b hb=> .inl ((h2 b).2 (by rw[hv,show b=g from hb];rfl)),fun b=> .inl,fun b hb=>absurd hb (h3 b)⟩⟩
theorem Sep.Cd {w':Y} {v':V} {m:Nat} {new:List V} (h:Sep l w) (ix:Nat) (hix:l[ix]? =some (Zz te sz v n cs)) (ho:w'.ownsRow 0 te sz v' (n+m) (cs++new)) (hf:Fr (fun b=>some b=Zv v) w w') (hb:Zv v'=Zv v∨Zv v'=some w.heap.size):
   Sep (l.set ix (Zz te sz v' (n+m) (cs++new))) w':=by
 obtain⟨O,I,J,⟨h1,h2,h3⟩,-,-,hs⟩:=h.at_ ix hix
 refine hs _ w' (fun b=>Zv v'=some b) I ⟨ho,fun _=>Iff.rfl,h3⟩ ⟨hf.mono fun b hb=> .inl ((h2 b).2 hb.symm),fun b hb'=> ?_,fun b hb=>absurd hb (h3 b)⟩
 rcases hb with e|e
 · exact .inl ((h2 b).2 (e▸hb'))
 · rw[e] at hb';injection hb' with hb';exact .inr (by omega)
theorem Sep.E5 {a:Yf} (j:Nat) (h:Sep (a::l) w):Sep (l.take j++a::l.drop j) w:=by
 refine h.perm ?_
 have:(a::(l.take j++l.drop j)).Perm (l.take j++a::l.drop j):=List.perm_middle.symm
 rwa [List.take_append_drop] at this
theorem Sep.Ce {w':Y} {M:Ux} (h:Sep l w) (hf:Fr M w w') (hm:∀b,M b→w.heap.size≤b) (ho:w'.ownsRow 0 te sz v n cs) (hb:∀b,Zv v=some b→w.heap.size≤b):Sep (Zz te sz v n cs::l) w':=
 h.new (O':=fun b=>Zv v=some b) (I':=fun _=>False) hf hm ⟨ho,fun _=>Iff.rfl,fun _ h=>h⟩ hb fun b hb=>hb.elim
theorem XJ.rows:∀(zs:List (V×Nat×List V)),(∀z∈zs,w.ownsRow 0 te sz z.1 z.2.1 z.2.2)→(zs.Pairwise fun p q=>∀b,Zv p.1=some b→Zv q.1≠some b)→∃O,XJ (zs.map fun z=>Zz te sz z.1 z.2.1 z.2.2) w O (fun _=>False)∧∀b,O b↔∃z∈zs,Zv z.1=some b
 | [],_,_=>⟨fun _=>False,⟨fun _ h=>h,fun _ h=>h⟩,fun b=>by simp⟩
 |z::zs,h,hp=>by
  rw[List.pairwise_cons] at hp
  obtain⟨O,h1,h2⟩:=XJ.rows zs (fun y hy=>h y (List.mem_cons_of_mem _ hy)) hp.2
  refine⟨fun b=>Zv z.1=some b∨O b,⟨fun b=>Zv z.1=some b,fun _=>False,O,fun _=>False,⟨h z List.mem_cons_self,fun _=>Iff.rfl,fun _ h=>h⟩,h1,⟨fun b hb=>⟨fun ho=> ?_,fun h=>h⟩,fun b ho=>⟨fun hb=> ?_,fun h=>h⟩⟩,fun _=>Iff.rfl,fun b=>by simp⟩,fun b=>by simp[h2]⟩
  ·obtain⟨y,hy,e⟩:=(h2 b).1 ho;exact hp.1 y hy b hb e
  ·obtain⟨y,hy,e⟩:=(h2 b).1 ho;exact hp.1 y hy b hb e
theorem Sep.zcb {w':Y} {M:Ux} {a b:Yf} {O1 I1 O2 I2:Ux} (h:Sep l w) (hf:Fr M w w') (hm:∀b,M b→w.heap.size≤b) (ha:a.h w' O1 I1) (hb:b.h w' O2 I2) (hab:G6 O1 I1 O2 I2) (h1:∀x,O1 x∨I1 x∨O2 x∨I2 x→w.heap.size≤x):Sep (a::b::l) w':=by
 have:=h.new (a:=star a b) (O':=fun x=>O1 x∨O2 x) (I':=fun x=>I1 x∨I2 x) hf hm ⟨O1,I1,O2,I2,ha,hb,hab,fun _=>Iff.rfl,fun _=>Iff.rfl⟩ (fun x hx=>h1 x (hx.elim .inl fun h=> .inr (.inr (.inl h)))) fun x hx=>h1 x (hx.elim (fun h=> .inr (.inl h)) fun h=> .inr (.inr (.inr h)))
 exact this.Mf
end Go.Proofs.XSep
namespace Go.Proofs.XDisk
open Go.Proofs.XMaps
abbrev Co:=ByteArray×Bytes
theorem QB:∀(r:List Chg) (b:Bytes),XDisk.leftOf b r 0=b
 | [],b=>rfl
 |c::r,b=>by
  have zero:∀b:Bytes,c.made b 0=b:=by intro b;cases c<;>simp[Chg.made]
  unfold XDisk.leftOf
  rw[Nat.zero_min,zero,Nat.zero_sub]
  exact QB r b
def Ch (done:Bool) (rest:Names) (s:ByteArray) (t:Nat):Names:=if done then rest else B5 rest s t
theorem G8 {p:ByteArray×Nat} {rest:Names} {s:ByteArray} {t:Nat} (h:blt s p.1=true):Ch false (p::rest) s t=(s,t)::p::Ch true rest s t:=by
 simp[Ch,B5,h]
theorem G9 {p:ByteArray×Nat} {rest:Names} {s:ByteArray} {t:Nat} (h:blt s p.1=false):Ch false (p::rest) s t=p::Ch false rest s t:=by
 simp[Ch,B5,h]
theorem NJ (s:ByteArray) (t:Nat):Ch false [] s t=[(s,t)]:=rfl
theorem Bu (c:Chg) (b:Bytes):c.made b 0=b:=by cases c<;>simp[Chg.made]
theorem QC {b d:Bytes} {a u:Nat} (ha:a≤b.length) (hu:u≤d.length):Chg.made b u (.wr a d)=b.take a++d.take u++b.drop (a+u):=by
 by_cases h0:u=0
 ·subst h0;simp[Chg.made]
 ·simp only[Chg.made,if_neg h0]
  congr 1
  ·congr 1
   rw[List.take_append_of_le_length ha]
  ·rw[List.drop_append]
   have:(List.replicate (a+u-b.length) (0:UInt8)).drop (a+u-b.length)=[]:=by rw[List.drop_eq_nil_iff];simp
   rw[this,List.append_nil]
theorem GA {b d:Bytes} {a i:Nat} (ha:a≤b.length) (hi:i<d.length) (h:a+i<(Chg.made b i (.wr a d)).length):
   Chg.made b (i+1) (.wr a d)=(Chg.made b i (.wr a d)).set (a+i) d[i]:=by
 rw[QC ha (by omega)] at h ⊢
 rw[QC ha (by omega)]
 have hl:(b.take a++d.take i).length=a+i:=by simp;omega
 have hlt:a+i<b.length:=by
   rw[List.length_append,hl,List.length_drop] at h;omega
 rw[List.drop_eq_getElem_cons hlt,List.set_append_right _ _ (by omega),hl,Nat.sub_self,List.set_cons_zero]
 rw[List.take_add_one,List.getElem?_eq_getElem hi,←Nat.add_assoc]
 simp only[Option.toList,List.append_assoc,List.cons_append,List.nil_append]
theorem GB {b d:Bytes} {a i:Nat} (ha:a≤b.length) (hi:i<d.length) (h:¬a+i<(Chg.made b i (.wr a d)).length):
   Chg.made b (i+1) (.wr a d)=Chg.made b i (.wr a d)++[d[i]]:=by
 rw[QC ha (by omega)] at h ⊢
 rw[QC ha (by omega)]
 have hl:(b.take a++d.take i).length=a+i:=by simp;omega
 have hge:b.length≤a+i:=by
   rw[List.length_append,hl,List.length_drop] at h;omega
 rw[List.drop_eq_nil_of_le hge,List.drop_eq_nil_of_le (by omega:b.length≤a+(i+1)),List.append_nil,List.append_nil]
 rw[List.take_add_one,List.getElem?_eq_getElem hi]
 simp only[Option.toList,List.append_assoc,List.cons_append,List.nil_append]
theorem DW (row:List Chg) {k:Nat} (hk:k<row.length):Ym (row.take (k+1))=Ym (row.take k)+row[k].units:=by
 unfold Ym
 rw[List.take_add_one,List.getElem?_eq_getElem hk]
 simp only[Option.toList,List.map_append,List.map_cons,List.map_nil,List.sum_append,List.sum_cons,List.sum_nil,Nat.add_zero]
theorem Cp {row:List Chg} {k u:Nat} {b:Bytes} (hk:k<row.length):leftOf b (row.drop k) u=leftOf (row[k].made b (min u row[k].units)) (row.drop (k+1)) (u-min u row[k].units):=by
 rw[List.drop_eq_getElem_cons hk];rfl
def AD.lacks (S:AD):Bool:=decide (S.since+1≥S.plan.from_)&&decide (S.since+1≤S.plan.to_)
def AD.out (S:AD):Bool:=decide (S.since+1=S.plan.off)
theorem DX (S:AD) (kind refused:Int) (act:AD→AD):S.Yc kind refused act=(if S.out then 50 else (if refused=0∧kind=1∧S.since+1≥S.plan.from_∧S.since+1≤S.plan.to_ then 55 else refused),
 if (if refused=0∧kind=1∧S.since+1≥S.plan.from_∧S.since+1≤S.plan.to_ then 55 else refused)=0∧¬(S.out=true∧kind=2) then act { S.ZI with off:=S.out} else { S.ZI with off:=S.out}):=rfl
theorem U2 (S:AD) (kind refused r:Int) (act:AD→AD) (T:AD) (hr:(if refused=0∧kind=1∧S.since+1≥S.plan.from_∧S.since+1≤S.plan.to_ then 55 else refused)=r)
   (hT:(if r=0∧¬(S.out=true∧kind=2) then act { S.ZI with off:=S.out} else { S.ZI with off:=S.out})=T):S.Yc kind refused act=(if S.out then 50 else r,T):=by
 rw[DX,hr,hT]
theorem J1 (S:AD) (kind e:Int) (act:AD→AD) (h:e≠0):S.Yc kind e act=(if S.out then 50 else e,{ S.ZI with off:=S.out}):=
 U2 S kind e e act _ (if_neg (fun h'=>h h'.1)) (if_neg (fun h'=>h h'.1))
theorem QD (S:AD) (act:AD→AD) (h:S.lacks=true):S.Yc 1 0 act=(if S.out then 50 else 55,{ S.ZI with off:=S.out}):=by
 unfold AD.lacks at h
 rw[Bool.and_eq_true,decide_eq_true_eq,decide_eq_true_eq] at h
 exact U2 S 1 0 55 act _ (if_pos ⟨rfl,rfl,h.1,h.2⟩) (if_neg (fun h'=>by have:=h'.1;omega))
theorem Bv (S:AD) (act:AD→AD) (h:S.lacks=false):S.Yc 1 0 act=(if S.out then 50 else 0,act { S.ZI with off:=S.out}):=by
 have e1:¬((0:Int)=0∧(1:Int)=1∧S.since+1≥S.plan.from_∧S.since+1≤S.plan.to_):=by
  rintro ⟨_,_,h1,h2⟩
  unfold AD.lacks at h
  rw[decide_eq_true h1,decide_eq_true h2] at h
  cases h
 exact U2 S 1 0 0 act _ (if_neg e1) (if_pos ⟨rfl,fun h'=>by have:=h'.2;omega⟩)
theorem VP (S:AD) (act:AD→AD):S.Yc 0 0 act=(if S.out then 50 else 0,act { S.ZI with off:=S.out}):=
 U2 S 0 0 0 act _ (if_neg (fun h'=>by have:=h'.2.1;omega)) (if_pos ⟨rfl,fun h'=>by have:=h'.2;omega⟩)
theorem U3 (S:AD) (act:AD→AD):S.Yc 2 0 act=(if S.out then 50 else 0,if S.out then { S.ZI with off:=true} else act { S.ZI with off:=false}):=by
 refine U2 S 2 0 0 act _ (if_neg (fun h'=>by have:=h'.2.1;omega)) ?_
 cases S.out<;>simp
theorem Vc (S:AD) (name:ByteArray) (h:S.look name=53∨S.look name=0):S.off=false:=by
 unfold AD.look at h
 cases ho:S.off with
 |false=>rfl
 |true=>rw[ho] at h;simp at h
theorem Yo.at_ {s:Names}:∀ {r:List Turn} {l:Names} {i:Nat} {c:Turn},Yo l r s→r[i]? =some c→(∀a b,c= .give a b→ZV ((r.take i).foldl (fun l c=>c.on l) l) a≠none)∧((r.take i).foldl (fun l c=>c.on l) l).length≤256
 | [],_,_,_,_,hi=>by simp at hi
 |c::r,l,0,d,h,hi=>by
  simp at hi;subst hi
  exact⟨h.2.1,h.1⟩
 |c::r,l,i+1,d,h,hi=>by
  have:=Yo.at_ (i:=i) h.2.2 (by simpa using hi)
  simpa using this
end Go.Proofs.XDisk
set_option maxRecDepth 100000
namespace Go.Proofs.YtcdcojpfealppaaGreat
open Go Go.Proofs Go.RowKit Go.Proofs.XRed Go.Proofs.XHeap Go.Proofs.XMaps Go.Proofs.XSlices Go.Proofs.XDisk Go.Proofs.XCalls Go.Proofs.XRange Go.Proofs.XKeys Tryz
def Vo (p s:ByteArray):Bool:=decide (p.size≤s.size)&&decide (s.extract 0 p.size=p)
def AD.Y2 (S:AD) (p:ByteArray):List ByteArray:=if S.off then [] else (S.shown.map (·.1)).filter (Vo p)
section
variable {w w0:Y} {D:Nat} {S S':AD} {O I:Nat → Prop} {L:Lay} {k:KV}
theorem Sz {s:ByteArray} {n:Int} (h0:0≤n) (h1:n≤s.size) (hk:k (.string (s.extract 0 n.toNat)) w):px P (Instr.sliceAt 9 (.string s) none (some (i64 n)) none) w k:=
 Z9 ((run_sliceAt_string w 9 _ _ _ _ underlying9).trans (run_slice_string_h w 9 s underlying9 .i64 n h0 h1)) hk
theorem je (s p:ByteArray) (hk:k (.bool (Vo p s)) w):pFn P 92 [.string s,.string p] w k:=by
 refine zb5 _ _ _ _ ?_
 unfold xZ
 refine vf _ _ _ _ ?_
 unfold LS
 refine VV underlying9 (VV underlying9 ?_)
 unfold Vo at hk
 by_cases h:p.size≤s.size
 ·rw[decide_eq_true h,Bool.true_and] at hk
  refine XQ (by omega) (Zl rfl (Zl rfl (Zl rfl (VV underlying9 (Zl rfl (Sz (by omega) (by omega) (Zl rfl (Zl rfl (GK (Zx ?_))))))))))
  exact hk
 ·rw[decide_eq_false h,Bool.false_and] at hk
  refine XR (by omega) ?_
  repeat (first|refine V9 ?_|refine YF ?_)
  exact Zr hk
theorem jf {pb:Nat} {p:ByteArray} (s:ByteArray) (hb:w.heap[pb]? =some (.cells #[.string p] 9 (0,0))) (hk:k (.bool (!Vo p s)) w):Cf P (.func (.func 91) #[] #[ptr pb]) [.string s] w k:=by
 show pFn P 91 [.string s,ptr pb] w k
 refine zbl _ _ _ _ ?_
 unfold xt
 exact Zj (v:= .string p) (isAgg9 _) hb rfl (je s p (YP hk))
theorem QE {pb:Nat} {p:ByteArray} {v:V} {names:List ByteArray} (hv:Src w v 1 names.length (names.map .string)) (hb:w.heap[pb]? =some (.cells #[.string p] 9 (0,0))) (hl:names.length≤4611686018427387904)
   (h0:(∀s∈names,Vo p s=true)→k (i64 (-1)) w) (h1:∀i (hi:i<names.length),(∀s∈names.take i,Vo p s=true)→Vo p names[i]=false→k (i64 i) w):pFn P 129 [v,.func (.func 91) #[] #[ptr pb]] w k:=by
 refine xX _ _ _ _ ?_
 unfold LK
 refine ZF Xf hv ?_
 refine Eu (m:=names.length) k (fun m ρ w'=>∃i:Nat,i+m=names.length∧w'=w∧ρ 0=v∧ρ 1= .func (.func 91) #[] #[ptr pb]∧ρ 7=i64 names.length∧ρ 8=i64 i∧∀s∈names.take i,Vo p s=true) ?_
   ⟨0,by omega,rfl,rfl,rfl,rfl,rfl,fun s hs=>by simp at hs⟩
 rintro m ρ w' ⟨i,him,hw,e0,e1,e7,e8,hall⟩
 subst hw
 rw[LM]
 unfold T0
 rw[e0,e1,e7,e8]
 by_cases hi:i<names.length
 · refine ZA     (by omega) (Zk      ?_)
   refine Qk (u:= .string names[i]) Xf (Ue _) (isAgg9 _) hv hi (by simp[hi]) fun _=> ?_
   refine jf names[i] hb ?_
   cases hp:Vo p names[i] with
   |false=>exact Zk (h1 i hi hall hp)
   | true =>
     refine Zf (Zp (by omega) ?_)
     refine⟨m-1,by omega,i+1,by omega,rfl,e0,e1,e7,?_,fun s hs=> ?_⟩
     · show i64 _=i64 _;simp
     · rw [List.take_succ_eq_append_getElem hi] at hs
       rcases List.mem_append.1 hs with hs|hs
       · exact hall s hs
       · rw[List.mem_singleton] at hs;subst hs;exact hp
 · refine ZB     (by omega) (Zf       ?_)
   rw[LN]
   refine h0 fun s hs=>hall s ?_
   rw[List.take_of_length_le (by omega)];exact hs
theorem QF (b:Nat):∀(vs:List V) (o:Nat) (w:Y),Fr (fun x=>x=b) w (w.setCells b o vs)∧(w.setCells b o vs).heap.size=w.heap.size
 | [],_,w=>⟨Fr.refl _ _,rfl⟩
 |v::r,o,w=>by
  obtain⟨h1,h2⟩:=QF b r (o+1) (w.setCell ⟨b,o,none⟩ v)
  have h3:Fr (fun x=>x=b) w (w.setCell ⟨b,o,none⟩ v):=Fr.setCell w ⟨b,o,none⟩ v
  exact⟨h3.trans h1 fun i hi=> .inl hi,by show ((w.setCell ⟨b,o,none⟩ v).setCells b (o+1) r).heap.size=_;rw[h2];simp[World.setCell]⟩
theorem Bw {pb:Nat} {p:ByteArray} {v:V} {names:List ByteArray} (hv:w.ownsRow 0 9 1 v names.length (names.map .string)) (hb:w.heap[pb]? =some (.cells #[.string p] 9 (0,0))) (hpb:Zv v≠some pb) (hl:names.length≤1099511627776)
   (hk:∀w' v',Src w' v' 1 (names.filter (Vo p)).length ((names.filter (Vo p)).map .string)→(∀b,Zv v'=some b→Zv v=some b)→Fr (fun b=>Zv v=some b) w w'→w'.heap.size=w.heap.size→k v' w'):pFn P 90 [v,.func (.func 91) #[] #[ptr pb]] w k:=by
 refine Tx _ _ _ _ ?_
 unfold RE
 refine QE (Src.Zt hv) hb (by omega) (fun hall=> ?_) fun i0 hi0 hall hno=> ?_
 · refine ZP      rfl (Zk      (hk w v ?_ (fun b h => h) (Fr.refl _ _) rfl))
   rw[List.filter_eq_self.2 hall];exact Src.Zt hv
 · refine Yd      (by omega) (Zf       (Zp       (by omega) ?_))
   obtain⟨g,cap,rfl⟩:∃g cap,v= .slice (some ⟨g,0,none⟩) names.length cap:=by
     rcases hv.2 with ⟨_,h0⟩|⟨g,cap,cur,e,_⟩
     · omega
     · exact⟨g,cap,e⟩
   have hgp:g≠pb:=fun e=>hpb (by rw[e];rfl)
   have hf0:(names.take (i0+1)).filter (Vo p)=names.take i0:=by
     rw[List.take_succ_eq_append_getElem hi0,List.filter_append,List.filter_eq_self.2 hall]
     simp[hno]
   have hlen0:(names.take i0).length=i0:=by simp;omega
   refine LI (m:=names.length-(i0+1)) k (fun m ρ w'=>∃(i j:Nat) (xs:List V),j+m=names.length∧i≤j∧i=((names.take j).filter (Vo p)).length∧w'.ownsRow 0 9 1 (.slice (some ⟨g,0,none⟩) names.length cap) names.length xs∧
       xs.take i=((names.take j).filter (Vo p)).map .string∧xs.drop j=(names.drop j).map .string∧Fr (fun b=>b=g) w w'∧w'.heap.size=w.heap.size∧ρ 0= .slice (some ⟨g,0,none⟩) names.length cap∧ρ 1= .func (.func 91) #[] #[ptr pb]∧ρ 5=i64 i∧ρ 6=i64 j) ?_
     ⟨i0,i0+1,names.map .string,by omega,by omega,by rw[hf0,hlen0],hv,by rw[hf0,List.map_take],by rw[List.map_drop],Fr.refl _ _,rfl,rfl,rfl,rfl,by show i64 _=i64 _;simp⟩
   rintro m ρ w' ⟨i,j,xs,hjm,hij,hi,hrow,htake,hdrop,hf,hz,e0,e1,e5,e6⟩
   rw[RG]
   unfold zb0
   rw[e0,e1,e5,e6]
   have hS:=Src.Zt hrow
   refine Yn Xf ?_
   have hxl:xs.length=names.length:=by have:=hrow.1;simpa using this
   by_cases hj:j<names.length
   · refine ZA     (by omega) (Zk      ?_)
     have hxj:xs[j]? =some (.string names[j]):=by
       have h1:(xs.drop j)[0]? =((names.drop j).map Value.string)[0]? :=by rw[hdrop]
       rw[List.getElem?_drop] at h1
       simpa[hj] using h1
     refine Qk Xf (Ue _) (isAgg9 _) hS hj hxj fun _=> ?_
     refine jf names[j] (hf.get hb fun e=>hgp (show pb=g from e).symm) ?_
     have hft:(names.take (j+1)).filter (Vo p)=(names.take j).filter (Vo p)++(if Vo p names[j] then [names[j]] else []):=by
       rw[List.take_succ_eq_append_getElem hj,List.filter_append]
       congr 1
       cases hq:Vo p names[j]<;>simp[hq]
     cases hp:Vo p names[j] with
     | true =>
       rw[hp] at hft
       simp only[if_true] at hft
       refine YP (Zk ?_)
       refine Vu (i:=(i:Int)) Xf (Ue _) (by omega) (by omega) ?_
       obtain⟨g',cap',cur,e',_,hg,_,_,hcs,_⟩:=hrow.2.resolve_left (by rintro ⟨h,_⟩;cases h)
       simp only[Value.slice.injEq,Option.some.injEq,Addr.mk.injEq,and_true,true_and] at e'
       obtain⟨rfl,rfl⟩:=e'
       have hcap:names.length≤cap:=by obtain⟨A,c,e,hc,_⟩:=hS;injection e
       have ei:0+(i:Int).toNat*1=i:=by simp
       rw[ei]
       refine YA (sizeOf9 _) rfl rfl hg (by omega) ?_
       obtain⟨hrow2,hgr⟩:=hrow.stored i (.string names[j])
       have f2:Fr (fun b=>b=g) w' (w'.setCell ⟨g,i,none⟩ (.string names[j])):=Fr.setCell w' ⟨g,i,none⟩ _
       have z2:(w'.setCell ⟨g,i,none⟩ (.string names[j])).heap.size=w'.heap.size:=by simp[World.setCell]
       refine Zp (by omega) ?_
       rw[D7]
       unfold xV
       show px P (Zd BinOp.add 3 (Operand.tmp 20) (Operand.const (Value.int IntKind.i64 1)) (ρ 6) (Value.int IntKind.i64 1)) _ _
       rw[e6]
       refine Zp (by omega) ?_
       refine⟨m-1,by omega,i+1,j+1,xs.set i (.string names[j]),by omega,by omega,by rw[hft];simp[hi],hrow2,?_,?_,(hf.or f2).mono (by rintro b (hb|hb)<;>exact .inl hb),by omega,e0,e1,?_,?_⟩
       · rw [hft,List.map_append,← htake]
         have hix:i<xs.length:=by omega
         rw[List.take_succ_eq_append_getElem (by simpa using hix)]
         simp[List.take_set_of_le]
       · rw[List.drop_set_of_lt (by omega),←List.drop_drop,hdrop,←List.map_drop,List.drop_drop]
       · show i64 _=i64 _;simp
       · show i64 _=i64 _;simp
     | false =>
       rw[hp] at hft
       simp only[Bool.false_eq_true,if_false,List.append_nil] at hft
       refine YP (Zf ?_)
       rw[D7]
       unfold xV
       show px P (Zd BinOp.add 3 (Operand.tmp 20) (Operand.const (Value.int IntKind.i64 1)) (ρ 6) (Value.int IntKind.i64 1)) _ _
       rw[e6]
       refine Zp (by omega) ?_
       refine⟨m-1,by omega,i,j+1,xs,by omega,by omega,by rw[hft];exact hi,hrow,by rw[hft];exact htake,?_,hf,hz,e0,e1,e5,?_⟩
       · rw[←List.drop_drop,hdrop,←List.map_drop,List.drop_drop]
       · show i64 _=i64 _;simp
   · refine ZB     (by omega) (Zf       ?_)
     rw[RH]
     unfold zb1
     show px P (Instr.sliceAt 73 (ρ 0) (some (ρ 5)) none none) w' _
     rw[e0,e5]
     have hjn:j=names.length:=by omega
     subst hjn
     rw[List.take_of_length_le (Nat.le_refl _)] at hi htake
     have hcap:names.length≤cap:=by obtain⟨A,c,e,hc,_⟩:=hS;injection e with _ _ e3;omega
     refine HU Xf (Ue _) (by omega) (by omega) ?_
     have hilt:i<names.length:=by
       have h1:((names.filter (Vo p)).length)<names.length:=by
         rcases Nat.lt_or_ge (names.filter (Vo p)).length names.length with h'|h'
         · exact h'
         · have e := List.Sublist.eq_of_length (List.filter_sublist (l := names) (p := Vo   p)) (Nat.le_antisymm (List.length_filter_le _ _) h')
           have:=List.filter_eq_self.1 e _ (List.getElem_mem hi0)
           rw[hno] at this;cases this
       omega
     have hne:¬cap=(i:Int).toNat:=by omega
     have esl:sliced (some ⟨g,0,none⟩) (i:Int).toNat names.length cap 1= .slice (some ⟨g,i,none⟩) (names.length-i) (cap-i):=by
       unfold sliced
       rw[if_neg hne]
       simp[Xv]
     rw[esl]
     refine Z9 (Lib.run_clear_slice w' 73 9 0 (.string (ByteArray.mk #[])) underlying73 zeroValue9 rfl rfl g i (names.length-i) (cap-i) (by omega) (fun q hq=> ?_) fun q hq=>hrow.frozenAt _) ?_
     · rw [hrow.cellAt (i + q) (by omega)]
       simp;omega
     · obtain ⟨f3,z3⟩ := QF          g (List.replicate (names.length - i) (.string (ByteArray.mk #[]))) i w'
       have hcell:∀q u,(xs.take i)[q]? =some u→(w'.setCells g i (List.replicate (names.length-i) (.string (ByteArray.mk #[])))).cell? ⟨g,q,none⟩=some u:=by
         intro q u hq
         have hql:q<i:=by have:=(List.getElem?_eq_some_iff.1 hq).1;simp at this;omega
         rw[World.cell?_setCells_out g _ i w' ⟨g,q,none⟩ fun _ _=> .inl hql,hrow.cellAt q (by omega)]
         rwa [List.getElem?_take_of_lt hql] at hq
       generalize w'.setCells g i (List.replicate (names.length-i) (.string (ByteArray.mk #[])))=w3 at *
       show px P (Instr.sliceAt 73 (ρ 0) none (some (ρ 5)) none) w3 _
       rw[e0,e5]
       refine QO Xf (Ue _) (by omega) (by omega) (hk w3 _ ?_ (fun b h=>h) ?_ (by omega))
       · rw [← hi]
         refine⟨some ⟨g,0,none⟩,cap,by simp,by omega,by simp[hi],fun _=>⟨g,0,rfl,fun q u hq=> ?_⟩⟩
         rw[Nat.zero_add]
         exact hcell q u (by rw[htake];exact hq)
       · refine (hf.or f3).mono ?_
         rintro b (hb'|hb')
         · exact .inl (by rw[show b=g from hb'];rfl)
         · exact .inl (by rw[show b=g from hb'];rfl)
theorem S0 {c:Nat} (h:Yi w D S O I L) (ok:S.Ok c) (p:ByteArray) (hk:∀w' v,Src w' v 1 (AD.Y2 S p).length ((AD.Y2 S p).map .string)→(∀b,Zv v=some b→w.heap.size≤b∧b<w'.heap.size)→Fr no w w'→k v w'):pFn P 30 [ptr D,.string p] w k:=by
 refine Th _ _ _ _ ?_
 unfold PV
 refine Yw ?_
 have f1:=Fr.alloc no w (.cells #[.string p] 9)
 have b1:=Z2 w (.cells #[.string p] 9)
 have z1:(w.alloc (.cells #[.string p] 9)).heap.size=w.heap.size+1:=by simp
 show pFn P _ _ (w.alloc (.cells #[.string p] 9)) _
 generalize w.alloc (.cells #[.string p] 9)=w1 at *
 have h1:=h.fr f1 fun b hb=>hb.elim
 refine CH h1.disk ok.room.1 ?_
 unfold AD.Y2 at hk
 cases ho:S.off with
 |true=>
  rw[ho] at hk
  exact Zk (hk w1 _ (Src.nil _ _) (fun b hb=>by cases hb) f1)
 |false=>
  rw[ho] at hk
  simp only[Bool.false_eq_true,if_false] at hk
  refine Zf (Zn (XF (Zj (v:= .map (some L.sh)) (isAgg54 _) h1.disk rfl ?_)))
  have hlen:=ok.turns.len.1
  refine VH Xj h1.sh h1.shp ok.shown (fun q hq=>by have:=ok.V0 q hq;unfold maxLen;omega) (by omega) fun w2 v hv hvb f2=> ?_
  refine US ?_
  have e1:Xe S.shown=(S.shown.map (·.1)).map .string:=by unfold Xe;rw[List.map_map];rfl
  have e2:S.shown.length=(S.shown.map (·.1)).length:=by simp
  rw[e1,e2] at hv
  refine Bw hv (f2.get b1 id) (fun e=>by have:=hvb _ e;omega) (by rw[←e2];omega) fun w3 v' hS hb3 f3 z3=> ?_
  refine hk w3 v' hS (fun b hb=> ?_) ((f1.or f2).or f3 |>.mono ?_)
  ·have h5:=hb3 b hb
   have h6:=hvb b h5
   have h7:=(Zu hv h5).2
   omega
  ·rintro b ((hb|hb)|hb)
   ·exact hb.elim
   ·exact hb.elim
   ·have:=hvb b hb;right;omega
end
end Go.Proofs.YtcdcojpfealppaaGreat
namespace Go.Proofs.XPtr
open Go Go.RowKit Go.Proofs.XRed Go.Proofs.XHeap Go.Proofs.XMaps Go.MapKept
def Uf (b:Nat):V:= .pointer (some ⟨b,0,none⟩)
theorem NK {a b:Nat} (h:Uf a=Uf b):a=b:=by injection h with h;injection h with h;injection h
def CY (w:Y) (m:Nat) (l:List (Nat×Nat)):Prop:=
 ∃es clock,w.heap[m]? =some (.map es clock)∧Stamped es clock∧es.toList.map (fun e=>(e.key,e.val))=l.map fun p=>(Uf p.1,Uf p.2)
theorem CY.fr {O:Nat→Prop} {w w':Y} {m:Nat} {l:List (Nat×Nat)} (h:CY w m l) (hf:Fr O w w') (hn:¬O m):CY w' m l:=by
 obtain⟨es,clock,hb,hs,hl⟩:=h;exact⟨es,clock,hf.get hb hn,hs,hl⟩
def Qp (l:List (Nat×Nat)) (b:Nat):Option Nat:=(l.find? fun p=>decide (p.1=b)).map (·.2)
theorem Bx {l:List (Nat×Nat)} {b:Nat}:Qp l b=none↔∀p∈l,p.1≠b:=by
 unfold Qp
 simp[List.find?_eq_none]
theorem NL {l:List (Nat×Nat)} {b v:Nat} (h:Qp l b=some v):(b,v)∈l:=by
 unfold Qp at h
 obtain⟨p,hp,rfl⟩:=Option.map_eq_some_iff.1 h
 have h1:=List.mem_of_find?_eq_some hp
 have h2:=List.find?_some hp
 simp only[decide_eq_true_eq] at h2
 subst h2;exact h1
theorem GC {l:List (Nat×Nat)} {b c v:Nat} (h:Qp l b=none):Qp (l++[(b,v)]) c=if c=b then some v else Qp l c:=by
 unfold Qp at *
 rw[List.find?_append]
 by_cases e:c=b
 ·subst e
  rw[if_pos rfl]
  have:l.find? (fun p=>decide (p.1=c))=none:=by simpa using h
  rw[this];simp
 ·rw[if_neg e]
  cases l.find? (fun p=>decide (p.1=c)) with
  |some q=>simp
  |none=>simp[Ne.symm e]
def Blk (w:Y) (b:Nat):Prop:=∃cs T,w.heap[b]? =some (.cells cs T (0,0))
theorem Blk.fr {O:Nat→Prop} {w w':Y} {b:Nat} (h:Blk w b) (hf:Fr O w w') (hn:¬O b):Blk w' b:=by
 obtain⟨cs,T,h⟩:=h;exact⟨cs,T,hf.get h hn⟩
section
variable {P:Program} {w:Y} {m:Nat} {l:List (Nat × Nat)} {t kt et:TypeId}
theorem V6 {a b:Nat} (hk:P.underlying kt=some (.pointer et)) {sz:Nat} (hs:(sizeOf et).run P w= .ok sz w) (h0:sz≠0) (ha:Blk w a) (hb:Blk w b):(Op.equal kt (Uf a) (Uf b)).run P w= .ok (decide (a=b)) w:=by
 unfold Op.equal Uf
 rw[show Op.maxDepth=9999+1 from rfl,Op.equalIn]
 simp[run_underlying hk,hs,h0,Result.andThen]
 by_cases e:a=b
 ·subst e
  rw[run_sameAddr_same];simp
 ·obtain⟨ca,ta,ha⟩:=ha
  obtain⟨cb,tb,hb⟩:=hb
  rw[run_sameAddr_other w (ca:=ca) (cb:=cb) (ta:=ta) (tb:=tb) (by intro h;injection h with h;exact e h) ha hb]
  simp[e]
theorem J2 (hk:P.underlying kt=some (.pointer et)) {sz:Nat} (hs:(sizeOf et).run P w= .ok sz w) (h0:sz≠0) {b:Nat} (hb:Blk w b):∀(es:List MapEntry) (l:List (Nat×Nat)) (i:Nat),es.map (fun e=>(e.key,e.val))=(l.map fun p=>(Uf p.1,Uf p.2))→(∀p∈l,Blk w p.1)→
   (∃j,(Instr.findAsking kt (Uf b) es i).run P w= .ok ((Qp l b).map fun v=>(j,Uf v)) w)
 | [],[],i,_,_=>⟨0,rfl⟩
 | [],p::l,i,h,_=>by simp at h
 |e::es,[],i,h,_=>by simp at h
 | e :: es,p :: l,i,h,hl => by
   simp only[List.map_cons,List.cons.injEq,Prod.mk.injEq] at h
   obtain⟨⟨h1,h2⟩,h3⟩:=h
   have hp:=hl p List.mem_cons_self
   unfold Instr.findAsking
   rw[h1,h2]
   by_cases e':b=p.1
   · refine ⟨i,?_⟩
     subst e'
     simp[V6 hk hs h0 hp hp,Result.andThen,Qp]
   · obtain ⟨j,hj⟩ := J2         hk hs h0 hb es l (i + 1) h3 fun q hq => hl q (List.mem_cons_of_mem _ hq)
     refine⟨j,?_⟩
     have e2:¬p.1=b:=fun h=>e' h.symm
     have e3:Qp (p::l) b=Qp l b:=by unfold Qp;rw[List.find?_cons_of_neg (by simpa using e2)]
     rw[e3]
     simp[V6 hk hs h0 hb hp,Result.andThen,e',hj]
theorem CZ (hk:P.underlying kt=some (.pointer et)) {sz:Nat} (hs:(sizeOf et).run P w= .ok sz w) (h0:sz≠0) {b:Nat} (hb:Blk w b) {es:List MapEntry} (he:es.map (fun e=>(e.key,e.val))=(l.map fun p=>(Uf p.1,Uf p.2))) (hl:∀p∈l,Blk w p.1):
   (∃j,(Instr.findKey kt (Uf b) es).run P w= .ok ((Qp l b).map fun v=>(j,Uf v)) w):=by
 cases es with
 | nil =>
   cases l with
   |nil=>exact⟨0,by simp[Instr.findKey,run_underlying hk,Result.andThen,Instr.findNow,Qp]⟩
   |cons p l=>simp at he
 | cons e es =>
   obtain⟨j,hj⟩:=J2 hk hs h0 hb (e::es) l 0 he hl
   refine⟨j,?_⟩
   have:Instr.findNow (.pointer et) (Uf b) (e::es) 0=none:=by
     unfold Instr.findNow
     have:Instr.sameNow (.pointer et) (Uf b) e.key=none:=rfl
     rw[this]
   simp[Instr.findKey,run_underlying hk,Result.andThen,this,hj]
theorem Qc (hk:P.underlying kt=some (.pointer et)) (e:Bool) (n b:Nat):(Instr.checkKey e (n+1) kt (Uf b)).run P w= .ok () w:=by
 unfold Instr.checkKey Uf
 simp[run_underlying hk,Result.andThen]
theorem CY.lookup (h:CY w m l) (ht:P.underlying t=some (.map kt kt)) (hk:P.underlying kt=some (.pointer et)) {sz:Nat} (hs:(sizeOf et).run P w= .ok sz w) (h0:sz≠0) (hz:(zeroValue kt).run P w= .ok (.pointer none) w) {b:Nat} (hb:Blk w b) (hl:∀p∈l,Blk w p.1):
   (Instr.lookup t (.map (some m)) (Uf b) false).run P w= .ok (match Qp l b with|some v=>Uf v|none=> .pointer none) w:=by
 obtain⟨es,clock,hm,hst,he⟩:=h
 obtain⟨j,hj⟩:=CZ hk hs h0 hb he hl
 have hck:=fun e=>Qc (w:=w) hk e 9999 b
 simp only[Instr.lookup,run_underlying ht,MapKept.run_getObj_map hm,hck,hj,Result.andThen,Sem.run_bind,Sem.run_pure]
 cases Qp l b with
 |none=>simp[hz,Result.andThen]
 |some v=>simp
theorem CY.put (h:CY w m l) (ht:P.underlying t=some (.map kt kt)) (hk:P.underlying kt=some (.pointer et)) {sz:Nat} (hs:(sizeOf et).run P w= .ok sz w) (h0:sz≠0) {b v:Nat} (hb:Blk w b) (hl:∀p∈l,Blk w p.1) (hn:Qp l b=none):
   ∃w',(Instr.mapUpdate t (.map (some m)) (Uf b) (Uf v)).run P w= .ok () w'∧CY w' m (l++[(b,v)])∧Fr (fun c=>c=m) w w'∧w'.heap.size=w.heap.size:=by
 obtain⟨es,clock,hm,hst,he⟩:=h
 obtain⟨j,hj⟩:=CZ hk hs h0 hb he hl
 rw[hn] at hj
 have hck:=fun e=>Qc (w:=w) hk e 9999 b
 have hlt:=ZS hm
 have hkeys:∀x∈es.toList,x.key≠Uf b:=by
   intro x hx e
   have:(x.key,x.val)∈es.toList.map fun e=>(e.key,e.val):=List.mem_map.2 ⟨x,hx,rfl⟩
   rw[he] at this
   obtain⟨p,hp,hpe⟩:=List.mem_map.1 this
   have e1:Uf p.1=x.key:=congrArg Prod.fst hpe
   exact Bx.1 hn p hp (NK (e1.trans e))
 refine⟨ChangeMaps.setBlock w m (.map (es.push { key:=Uf b,val:=Uf v,born:=clock}) (clock+1)),?_,⟨es.push { key:=Uf b,val:=Uf v,born:=clock},clock+1,?_,stamped_push hst hkeys,?_⟩,Fr.setBlock _ _ _,by simp[ChangeMaps.setBlock]⟩
 · simp[Instr.mapUpdate,run_underlying ht,MapKept.run_getObj_map hm,hck,hj,MapKept.run_setObj_map _ hm,Result.andThen,ChangeMaps.setBlock]
 · simp[ChangeMaps.setBlock,hlt]
 · simp[he]
end
theorem CY.made (w:Y):CY (w.alloc (.map #[] 0)) w.heap.size []:=⟨#[],0,Z2 _ _,stamped_empty 0,rfl⟩
end Go.Proofs.XPtr
