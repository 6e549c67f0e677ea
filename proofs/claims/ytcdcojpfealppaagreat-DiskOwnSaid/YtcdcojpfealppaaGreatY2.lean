/- Put together by a program (wip/tools/shake.py): XHeap,XMaps,XDisk,XAbs. -/
import Derived.Test.YtcdcojpfealppaaGreatY1
import Derived.Maps.Keyed
import Derived.Maps.RangeRun
import Derived.Maps.AppendAt
import Derived.Laws.CopyRow
import Derived.MapKept
import Derived.Lib.SlicesS
import Derived.IntWalk
import Derived.Laws.IdiomRangeMap
set_option linter.unusedVariables false
set_option linter.unusedSimpArgs false
open Go renaming World → Y, Value → V
namespace Go.Proofs.XHeap
open Go Go.RowKit Go.Proofs.XRed Go.MapKept
structure Fr (O:Nat→Prop) (w w':Y):Prop where
 os:w'.os=w.os
 tape:w'.tape=w.tape
 output:w'.output=w.output
 size:w.heap.size≤w'.heap.size
 block:∀b,b<w.heap.size→¬O b→w'.heap[b]? =w.heap[b]?
theorem ZS {w:Y} {b:Nat} {o:Obj} (h:w.heap[b]? =some o):b<w.heap.size:=(Array.getElem?_eq_some_iff.1 h).1
theorem Fr.refl (O:Nat→Prop) (w:Y):Fr O w w:=⟨rfl,rfl,rfl,Nat.le_refl _,fun _ _ _=>rfl⟩
theorem Fr.trans {O O':Nat→Prop} {a b c:Y} (h:Fr O a b) (k:Fr O' b c) (ho:∀i,O' i→O i∨a.heap.size≤i):Fr O a c:=
 ⟨k.os.trans h.os,k.tape.trans h.tape,k.output.trans h.output,Nat.le_trans h.size k.size,fun i hi hn=>
  (k.block i (Nat.lt_of_lt_of_le hi h.size) fun h'=>by
   rcases ho i h' with h1|h1
   ·exact hn h1
   ·omega).trans (h.block i hi hn)⟩
theorem Fr.get {O:Nat→Prop} {w w':Y} (h:Fr O w w') {b:Nat} {o:Obj} (hb:w.heap[b]? =some o) (hn:¬O b):w'.heap[b]? =some o:=(h.block b (ZS hb) hn).trans hb
theorem Fr.mono {O O':Nat→Prop} {w w':Y} (h:Fr O w w') (ho:∀i,O i→O' i∨w.heap.size≤i):Fr O' w w':=(Fr.refl O' w).trans h ho
theorem Fr.or {A B:Nat→Prop} {a b c:Y} (h:Fr A a b) (k:Fr B b c):Fr (fun i=>A i∨B i) a c:=
 (h.mono (O':=fun i=>A i∨B i) fun i hi=> .inl (.inl hi)).trans k fun i hi=> .inl (.inr hi)
theorem Fr.grown {w w':Y} {row:Option Nat} (h:w.grownBy w' row):Fr (fun b=>some b=row) w w':=⟨h.os,h.tape,h.output,h.size,fun b hb hn=>h.block b hb hn⟩
theorem Fr.below {B:Nat} {w w':Y} (h:Below B w w'):Fr (fun b=>B≤b) w w':=⟨h.os,h.tape,h.output,h.size,fun b hb hn=>h.block b (by omega)⟩
theorem Fr.RM {O:Nat→Prop} {B:Nat} {w w':Y} (h:Fr O w w') (ho:∀b,O b→B≤b) (hB:B≤w.heap.size):Below B w w':=
 ⟨h.os,h.tape,h.output,h.size,fun k hk=>h.block k (by omega) (fun h'=>by have:=ho k h';omega)⟩
theorem Fr.alloc (O:Nat→Prop) (w:Y) (o:Obj):Fr O w (w.alloc o):=⟨rfl,rfl,rfl,by simp,fun b hb _=>Below.heap_alloc w o b hb⟩
theorem Fr.drew (O:Nat→Prop) (w:Y):Fr O w w.drew:=⟨rfl,rfl,rfl,Nat.le_refl _,fun _ _ _=>rfl⟩
theorem Fr.setCell (w:Y) (a:Addr) (u:V):Fr (fun b=>b=a.block) w (w.setCell a u):=⟨rfl,rfl,rfl,by simp[World.setCell],fun b hb hn=>Below.heap_setCell w a u b hn⟩
theorem Fr.setBlock (w:Y) (b:Nat) (o:Obj):Fr (fun c=>c=b) w (ChangeMaps.setBlock w b o):=
 ⟨rfl,rfl,rfl,by simp[ChangeMaps.setBlock],fun c hc hn=>by
  simp only[ChangeMaps.setBlock]
  rw[Array.getElem?_setIfInBounds_ne (fun e=>hn e.symm)]⟩
theorem Z2 (w:Y) (o:Obj):(w.alloc o).heap[w.heap.size]? =some o:=(MapKept.heap_alloc w o).1
theorem GJ {w:Y} {b:Nat} {x:Obj} (o:Obj) (h:w.heap[b]? =some x):(w.alloc o).heap[b]? =some x:=((MapKept.heap_alloc w o).2 b (ZS h)).trans h
theorem Z6 {w:Y} {b:Nat} {cs:Array V} {T:TypeId} {fr:Nat×Nat} (h:w.heap[b]? =some (.cells cs T fr)) (i:Nat) (u:V):
   (w.setCell ⟨b,i,none⟩ u).heap[b]? =some (.cells (cs.setIfInBounds i u) T fr):=by
 simp[World.setCell,Array.getElem?_modify,h]
theorem VR {w:Y} {b c:Nat} {x:Obj} (i:Nat) (u:V) (hne:c≠b) (h:w.heap[c]? =some x):(w.setCell ⟨b,i,none⟩ u).heap[c]? =some x:=(Below.heap_setCell w ⟨b,i,none⟩ u c hne).trans h
theorem U6 {w:Y} {b o:Nat} {cs:Array V} {T:TypeId} {fr:Nat×Nat} {v:V} (h:w.heap[b]? =some (.cells cs T fr)) (hv:cs[o]? =some v):w.cell? ⟨b,o,none⟩=some v:=by
 simp[World.cell?,h,hv]
theorem NU {w:Y} {b o:Nat} {cs:Array V} {T:TypeId} (h:w.heap[b]? =some (.cells cs T (0,0))):w.frozen? ⟨b,o,none⟩=false:=by
 simp[World.frozen?,h]
section
variable {P:Program} {w:Y} {k:KV}
theorem Zn {a:Addr} (hk:k (.pointer (some a)) w):px P (Zh (.pointer (some a))) w k:=by simpa[px,Zh] using hk
theorem Xl {t:TypeId} {a:Addr} {v:V} (hag:(isAgg t).run P w= .ok false w) (h:w.cell? a=some v) (hk:k v w):px P (Instr.loadAt t (.pointer (some a))) w k:=by
 refine Z9 (w':=w) (v:=v) ?_ hk
 simp[Instr.loadAt,Instr.sureAddr,loadVar,hag,load,Sem.run,h]
theorem Zj {t b o:Nat} {cs:Array V} {T:TypeId} {fr:Nat×Nat} {v:V} (hag:(isAgg t).run P w= .ok false w) (h:w.heap[b]? =some (.cells cs T fr)) (hv:cs[o]? =some v) (hk:k v w):
 px P (Instr.loadAt t (.pointer (some ⟨b,o,none⟩))) w k:=Xl hag (U6 h hv) hk
theorem Xm {t b o m:Nat} {cs:Array V} {T:TypeId} {fr:Nat×Nat} (hag:(isAgg t).run P w= .ok true w) (hsz:(sizeOf t).run P w= .ok m w) (h:w.heap[b]? =some (.cells cs T fr)) (hm:o+m≤cs.size)
   (hk:k (.agg ((cs.toList.drop o).take m).toArray) w):px P (Instr.loadAt t (.pointer (some ⟨b,o,none⟩))) w k:=by
 refine Z9 (w':=w) ?_ hk
 have hl:((cs.toList.drop o).take m).length=m:=by simp;omega
 have:=run_loadCells_list (P:=P) w ⟨b,o,none⟩ ((cs.toList.drop o).take m) (fun j v hj=>by
   have hj':j<m:=by
     have:=(List.getElem?_eq_some_iff.1 hj).1
     omega
   have e:(⟨b,o,none⟩:Addr).add j=⟨b,o+j,none⟩:=by unfold Addr.add;split<;>simp_all
   rw[e]
   refine U6 h ?_
   simpa[List.getElem?_take,hj',List.getElem?_drop] using hj)
 rw[hl] at this
 simp[Instr.loadAt,Instr.sureAddr,loadVar,hag,hsz,this,Result.andThen]
theorem YA {t b o:Nat} {cs:Array V} {T:TypeId} {u:V} {kk:Y→Prop} (hsz:(sizeOf t).run P w= .ok 1 w) (hu:u.cells= #[u]) (h1:u.oneCell'=true) (h:w.heap[b]? =some (.cells cs T (0,0))) (ho:o<cs.size)
   (hk:kk (w.setCell ⟨b,o,none⟩ u)):pu P (Instr.storeAt t (.pointer (some ⟨b,o,none⟩)) u) w kk:=by
 refine Mj ?_ hk
 have hc:w.cell? ⟨b,o,none⟩=some cs[o]:=U6 h (by simp[ho])
 have hf:w.frozen? ⟨b,o,none⟩=false:=NU h
 have e0:(⟨b,o,none⟩:Addr).add 0=⟨b,o,none⟩:=by simp[Addr.add]
 simp only[Instr.storeAt,Instr.sureAddr,storeVar,hu,hsz,Sem.run_bind,Sem.run_pure,Result.andThen]
 simp only[List.size_toArray,List.length_cons,List.length_nil,ne_eq,not_true_eq_false,if_false,storeCells,e0,store]
 cases u<;>first|(simp[Sem.run,hc,hf,storeCells];done)|(simp[Value.oneCell'] at h1;done)
theorem YH {s i b o:Nat} {fs:Array Field} (ft:TypeId) (off:Nat) (hu:(underlying s).run P w= .ok (.struct fs) w) (hf:(fs[i]?).map (fun f=>(f.type,f.offset))=some (ft,off)) {sz:Nat} (hs:(sizeOf ft).run P w= .ok sz w) (h0:sz≠0)
   (hk:k (.pointer (some ⟨b,o+off,none⟩)) w):px P (Instr.fieldAt s (.pointer (some ⟨b,o,none⟩)) i) w k:=by
 obtain⟨f,hf',h2⟩:=Option.map_eq_some_iff.1 hf
 clear hf
 simp only[Prod.mk.injEq] at h2
 obtain⟨rfl,rfl⟩:=h2
 refine Z9 (w':=w) ?_ hk
 have e:(⟨b,o,none⟩:Addr).add f.offset=⟨b,o+f.offset,none⟩:=by unfold Addr.add;split<;>simp_all
 simp[Instr.fieldAt,hu,hf',Instr.sureAddr,fieldPlace,hs,h0,e,Result.andThen]
theorem Yw {t:TypeId} {v:V} (hk:k (.pointer (some ⟨w.heap.size,0,none⟩)) (w.alloc (.cells v.cells t))):px P (Instr.box t v) w k:=by
 refine Z9 ?_ hk
 simp[Instr.box,newVar,newRow,newObj,Sem.run]
theorem Y9 {t:TypeId} {z:V} (hz:(zeroValue t).run P w= .ok z w) (hk:k (.pointer (some ⟨w.heap.size,0,none⟩)) (w.alloc (.cells z.cells t))):px P (Instr.alloc t true (.tuple #[])) w k:=by
 refine Z9 ?_ hk
 simp[Instr.alloc,hz,newVar,newRow,newObj,Sem.run,Result.andThen]
theorem ZG {vs:Array V} {i:Nat} {v:V} (h:vs[i]? =some v) (hk:k v w):px P (Instr.extract (.tuple vs) i) w k:=by
 refine Z9 (w':=w) ?_ hk
 simp[Instr.extract,h]
theorem Dd {b:Bool} {x y:V} (hk:k (if b then x else y) w):px P (Zs (.bool b) x y) w k:=by
 refine Z9 (w':=w) ?_ hk
 simp[Zs,asBool]
theorem YP {b:Bool} (hk:k (.bool (!b)) w):px P (Op.unary .not (.bool b)) w k:=by
 refine Z9 (w':=w) ?_ hk
 simp[Op.unary]
theorem Ac {t:TypeId} {x:V} (h:P.concrete t=true) (hk:k (.iface t x) w):px P (Instr.makeInterface t x) w k:=Z9 (run_makeInterface w t x h) hk
theorem Ae (op:BinOp) (t:TypeId) (x y:Operand) {a b:V} (h:∀p q,¬(a= .agg p∧b= .agg q)) (h':¬(a= .nilIface∧b= .nilIface)):(eqGuard op t x y a b).run P w= .ok () w:=by
 unfold eqGuard
 cases op<;>simp only[Bool.not_true,Bool.not_false,Bool.false_eq_true,if_true,if_false,Sem.run_pure,pure_bind]<;>try rfl
 all_goals (split<;>first|rfl|(exact absurd ⟨rfl,rfl⟩ h')|(exact absurd ⟨rfl,rfl⟩ (h _ _)))
theorem Vk {op:BinOp} {t:TypeId} {x y:Operand} {a b v:V} (h:∀p q,¬(a= .agg p∧b= .agg q)) (h':¬(a= .nilIface∧b= .nilIface)) (hr:(binOp op t a b).run P w= .ok v w) (hk:k v w):px P (Zd op t x y a b) w k:=by
 refine Z9 (w':=w) ?_ hk
 simp[Zd,Ae op t x y h h',hr,Result.andThen]
theorem Jp {t:TypeId} {x y:Operand} {q:IntKind} {a b:Int} (hk:k (.int q (q.wrap (a+b))) w):px P (Zd .add t x y (.int q a) (.int q b)) w k:=Vk (by simp) (by simp) (by simp[binOp,Op.intArith]) hk
theorem ze2 {t:TypeId} {x y:Operand} {q:IntKind} {a b:Int} (hk:k (.int q (q.wrap (a-b))) w):px P (Zd .sub t x y (.int q a) (.int q b)) w k:=Vk (by simp) (by simp) (by simp[binOp,Op.intArith]) hk
theorem Ea {t:TypeId} {x y:Operand} {q:IntKind} {a b:Int} (hk:k (.int q (q.wrap (a*b))) w):px P (Zd .mul t x y (.int q a) (.int q b)) w k:=Vk (by simp) (by simp) (by simp[binOp,Op.intArith]) hk
theorem Cw {t:TypeId} {x y:Operand} {q:IntKind} {a b:Int} (hk:k (.bool (a==b)) w):px P (Zd .eql t x y (.int q a) (.int q b)) w k:=Vk (by simp) (by simp) (by simp[binOp,Op.intCmp]) hk
theorem jm {t:TypeId} {x y:Operand} {q:IntKind} {a b:Int} (hk:k (.bool (a !=b)) w):px P (Zd .neq t x y (.int q a) (.int q b)) w k:=Vk (by simp) (by simp) (by simp[binOp,Op.intCmp]) hk
theorem zck {t:TypeId} {x y:Operand} {q:IntKind} {a b:Int} (hk:k (.bool (decide (a<b))) w):px P (Zd .lss t x y (.int q a) (.int q b)) w k:=Vk (by simp) (by simp) (by simp[binOp,Op.intCmp]) hk
theorem zcl {t:TypeId} {x y:Operand} {q:IntKind} {a b:Int} (hk:k (.bool (decide (a≤b))) w):px P (Zd .leq t x y (.int q a) (.int q b)) w k:=Vk (by simp) (by simp) (by simp[binOp,Op.intCmp]) hk
theorem ze3 {t:TypeId} {x y:Operand} {q:IntKind} {a b:Int} (hk:k (.bool (decide (a>b))) w):px P (Zd .gtr t x y (.int q a) (.int q b)) w k:=Vk (by simp) (by simp) (by simp[binOp,Op.intCmp]) hk
theorem zj9 {t:TypeId} {x y:Operand} {q:IntKind} {a b:Int} (hk:k (.bool (decide (a≥b))) w):px P (Zd .geq t x y (.int q a) (.int q b)) w k:=Vk (by simp) (by simp) (by simp[binOp,Op.intCmp]) hk
theorem ZA {t:TypeId} {x y:Operand} {q:IntKind} {a b:Int} (h:a<b) (hk:k (.bool true) w):px P (Zd .lss t x y (.int q a) (.int q b)) w k:=zck (by rwa [decide_eq_true h])
theorem ZB {t:TypeId} {x y:Operand} {q:IntKind} {a b:Int} (h:¬a<b) (hk:k (.bool false) w):px P (Zd .lss t x y (.int q a) (.int q b)) w k:=zck (by rwa [decide_eq_false h])
theorem SC {t:TypeId} {x y:Operand} {q:IntKind} {a b:Int} (h:a≤b) (hk:k (.bool true) w):px P (Zd .leq t x y (.int q a) (.int q b)) w k:=zcl (by rwa [decide_eq_true h])
theorem SD {t:TypeId} {x y:Operand} {q:IntKind} {a b:Int} (h:¬a≤b) (hk:k (.bool false) w):px P (Zd .leq t x y (.int q a) (.int q b)) w k:=zcl (by rwa [decide_eq_false h])
theorem YQ {t:TypeId} {x y:Operand} {q:IntKind} {a b:Int} (h:a>b) (hk:k (.bool true) w):px P (Zd .gtr t x y (.int q a) (.int q b)) w k:=ze3 (by rwa [decide_eq_true h])
theorem YI {t:TypeId} {x y:Operand} {q:IntKind} {a b:Int} (h:¬a>b) (hk:k (.bool false) w):px P (Zd .gtr t x y (.int q a) (.int q b)) w k:=ze3 (by rwa [decide_eq_false h])
theorem XQ {t:TypeId} {x y:Operand} {q:IntKind} {a b:Int} (h:a≥b) (hk:k (.bool true) w):px P (Zd .geq t x y (.int q a) (.int q b)) w k:=zj9 (by rwa [decide_eq_true h])
theorem XR {t:TypeId} {x y:Operand} {q:IntKind} {a b:Int} (h:¬a≥b) (hk:k (.bool false) w):px P (Zd .geq t x y (.int q a) (.int q b)) w k:=zj9 (by rwa [decide_eq_false h])
theorem ZP {t:TypeId} {x y:Operand} {q:IntKind} {a b:Int} (h:a=b) (hk:k (.bool true) w):px P (Zd .eql t x y (.int q a) (.int q b)) w k:=Cw (by rwa [show (a==b)=true by simp[h]])
theorem Yd {t:TypeId} {x y:Operand} {q:IntKind} {a b:Int} (h:¬a=b) (hk:k (.bool false) w):px P (Zd .eql t x y (.int q a) (.int q b)) w k:=Cw (by rwa [show (a==b)=false by simp[h]])
theorem Y0 {t:TypeId} {x y:Operand} {q:IntKind} {a b:Int} (h:¬a=b) (hk:k (.bool true) w):px P (Zd .neq t x y (.int q a) (.int q b)) w k:=jm (by rwa [show (a !=b)=true by simp[h]])
theorem ZY {t:TypeId} {x y:Operand} {q:IntKind} {a b:Int} (h:a=b) (hk:k (.bool false) w):px P (Zd .neq t x y (.int q a) (.int q b)) w k:=jm (by rwa [show (a !=b)=false by simp[h]])
theorem Zx {x y:V} (hk:k x w):px P (Zs (.bool true) x y) w k:=Dd (by simpa using hk)
theorem Zr {x y:V} (hk:k y w):px P (Zs (.bool false) x y) w k:=Dd (by simpa using hk)
theorem Eb {t:TypeId} {x y:Operand} {q:IntKind} {a b:Int} (h:b≠0) (hk:k (.int q (a.tmod b)) w):px P (Zd .rem t x y (.int q a) (.int q b)) w k:=Vk (by simp) (by simp) (by simp[binOp,Op.intDiv,h]) hk
theorem jn {t:TypeId} {x y:Operand} {q:IntKind} {a b:Int} (h:b≠0) (hk:k (.int q (q.wrap (a.tdiv b))) w):px P (Zd .quo t x y (.int q a) (.int q b)) w k:=Vk (by simp) (by simp) (by simp[binOp,Op.intDiv,h]) hk
theorem Af {a:Int} (h:-9223372036854775808≤a∧a≤9223372036854775807):IntKind.i64.wrap a=a:=IntWalk.i64_in _ h
theorem Zp {t:TypeId} {x y:Operand} {a b:Int} (h:-9223372036854775808≤a+b∧a+b≤9223372036854775807) (hk:k (.int .i64 (a+b)) w):px P (Zd .add t x y (.int .i64 a) (.int .i64 b)) w k:=Jp (by rwa [Af h])
theorem V8 {t:TypeId} {x y:Operand} {a b:Int} (h:-9223372036854775808≤a-b∧a-b≤9223372036854775807) (hk:k (.int .i64 (a-b)) w):px P (Zd .sub t x y (.int .i64 a) (.int .i64 b)) w k:=ze2 (by rwa [Af h])
theorem jo {t:TypeId} {s:ByteArray} {q:IntKind} {i:Nat} (h:P.underlying t=some .string) (hi:i<s.size) (hk:k (.int .u8 (s[i]'hi).toNat) w):px P (Instr.index t (.string s) (.int q i)) w k:=by
 refine Z9 (w':=w) ?_ hk
 have e:s[i]? =some (s[i]'hi):=by simp[hi]
 simp[Instr.index,asIntOf,run_underlying h,Result.andThen,e]
theorem Cx (a b:ByteArray):(a.toList==b.toList)=decide (a=b):=by
 rw[Bool.eq_iff_iff,Lib.bytes_beq_iff,decide_eq_true_eq]
theorem GK {t:TypeId} {x y:Operand} {a b:ByteArray} (hk:k (.bool (decide (a=b))) w):px P (Zd .eql t x y (.string a) (.string b)) w k:=Vk (by simp) (by simp) (by simp only[binOp,Op.stringOp,Cx,Sem.run_pure]) hk
theorem UN {t:TypeId} {x y:Operand} {a b:ByteArray} (hk:k (.bool (!decide (a=b))) w):px P (Zd .neq t x y (.string a) (.string b)) w k:=Vk (by simp) (by simp) (by simp only[binOp,Op.stringOp,Cx,Sem.run_pure]) hk
theorem YJ {t:TypeId} {x y:Operand} {p:Option Addr} (hu:P.underlying t=some (.pointer (P.pointee t))) (hk:k (.bool p.isNone) w):px P (Zd .eql t x y (.pointer p) (.pointer none)) w k:=
 Vk (by simp) (by simp) (run_eql_pointer_nil w t p hu) hk
theorem GL {t:TypeId} {x y:Operand} {p:Option Addr} (hu:P.underlying t=some (.pointer (P.pointee t))) (hk:k (.bool (!p.isNone)) w):px P (Zd .neq t x y (.pointer p) (.pointer none)) w k:=
 Vk (by simp) (by simp) (run_neq_pointer_nil w t p hu) hk
end
theorem Zk {A B:Prop} (h:A):pC (.bool true) A B:=h
theorem Zf {A B:Prop} (h:B):pC (.bool false) A B:=h
theorem Zl {b want:Bool} (hb:b=want) {A:(KV)→Prop} {next:KV} {w:Y} (h:A next):pG (.bool b) want A next w:=by
 subst hb;cases b<;>exact h
theorem V9 {A:(KV)→Prop} {next:KV} {w:Y} (h:next undef w):pG (.bool false) true A next w:=h
theorem Yh {A:(KV)→Prop} {next:KV} {w:Y} (h:next undef w):pG (.bool true) false A next w:=h
theorem Y3 {A:(V→Prop)→Prop} {next:V→Prop} (h:next undef):pGq (.bool false) true A next:=h
theorem UO {A:(V→Prop)→Prop} {next:V→Prop} (h:next undef):pGq (.bool true) false A next:=h
theorem YF {want:Bool} {A:(KV)→Prop} {next:KV} {w:Y} (h:next undef w):pG undef want A next w:=h
theorem YD {want:Bool} {A:(V→Prop)→Prop} {next:V→Prop} (h:next undef):pGq undef want A next:=h
theorem Ze {b want:Bool} (hb:b=want) {A:(V→Prop)→Prop} {next:V→Prop} (h:A next):pGq (.bool b) want A next:=by
 subst hb;cases b<;>exact h
theorem Zi {α:Type} {P:Program} {S:Y→Prop} {s:Sem α} {k:α→Prop} (v:α) (h:∀w,S w→px P s w fun u w'=>u=v∧w'=w) (hk:k v):pq P S s k:=by
 refine⟨v,fun w hw=> ?_,hk⟩
 have:=h w hw
 unfold px at this
 split at this
 ·rename_i u w' heq;rw[heq,this.1,this.2]
 ·exact this.elim
end Go.Proofs.XHeap
namespace Go.Proofs.XMaps
open Go Go.RowKit Go.Proofs.XRed Go.Proofs.XHeap Go.MapKept
section
variable {β:Type}
def ZV (l:List (ByteArray×β)) (s:ByteArray):Option β:=(l.find? fun p=>decide (p.1=s)).map (·.2)
def Xs (l:List (ByteArray×β)) (s:ByteArray) (v:β):List (ByteArray×β):=
 if l.any fun p=>decide (p.1=s) then l.map fun p=>if p.1=s then (s,v) else p else l++[(s,v)]
def Yg (l:List (ByteArray×β)) (s:ByteArray):List (ByteArray×β):=l.filter fun p=> !decide (p.1=s)
def ZH (l:List (ByteArray×β)):List ByteArray:=l.map (·.1)
end
def SMap (w:Y) (m:Nat) (l:List (ByteArray×V)):Prop:=
 ∃es clock,w.heap[m]? =some (.map es clock)∧Stamped es clock∧es.toList.map (fun e=>(e.key,e.val))=l.map fun p=>(Value.string p.1,p.2)
theorem SMap.lt {w:Y} {m:Nat} {l:List (ByteArray×V)} (h:SMap w m l):m<w.heap.size:=by
 obtain⟨es,clock,hb,_⟩:=h;exact ZS hb
theorem SMap.Uk {w w':Y} {m:Nat} {l:List (ByteArray×V)} (h:SMap w m l) (he:w'.heap[m]? =w.heap[m]?):SMap w' m l:=by
 obtain⟨es,clock,hb,hs,hl⟩:=h;exact⟨es,clock,he.trans hb,hs,hl⟩
theorem SMap.fr {O:Nat→Prop} {w w':Y} {m:Nat} {l:List (ByteArray×V)} (h:SMap w m l) (hf:Fr O w w') (hn:¬O m):SMap w' m l:=h.Uk (hf.block m h.lt hn)
theorem SMap.alloc {w:Y} {m:Nat} {l:List (ByteArray×V)} (h:SMap w m l) (o:Obj):SMap (w.alloc o) m l:=h.fr (Fr.alloc (fun _=>False) w o) id
theorem SMap.nodup {w:Y} {m:Nat} {l:List (ByteArray×V)} (h:SMap w m l):(ZH l).Nodup:=by
 obtain⟨es,clock,hb,hs,hl⟩:=h
 have h3:=hs.2.2
 have e:es.toList.map (·.key)=(ZH l).map Value.string:=by
  have:=congrArg (List.map Prod.fst) hl
  simpa[ZH,Function.comp_def] using this
 rw[e] at h3
 exact(List.pairwise_map.1 h3).imp (fun hne e=>hne (by rw[e]))
theorem SMap.keys {w:Y} {m:Nat} {l:List (ByteArray×V)} {es:Array MapEntry} (hl:es.toList.map (fun e=>(e.key,e.val))=l.map fun p=>(Value.string p.1,p.2)):∀x∈es.toList,IsKey .string x.key:=by
 intro x hx
 have:(x.key,x.val)∈es.toList.map fun e=>(e.key,e.val):=List.mem_map.2 ⟨x,hx,rfl⟩
 rw[hl] at this
 obtain⟨p,_,hp⟩:=List.mem_map.1 this
 have:x.key= .string p.1:=(congrArg Prod.fst hp).symm
 rw[this];trivial
theorem Ec {β:Type} {l:List (ByteArray×β)} {s:ByteArray} (h:∀p∈l,p.1≠s):ZV l s=none:=by
 unfold ZV
 rw[List.find?_eq_none.2 (by intro p hp;simpa using h p hp)];rfl
theorem VY {β:Type} {l:List (ByteArray×β)} (hn:(ZH l).Nodup) {j:Nat} {p:ByteArray×β} (h:l[j]? =some p):ZV l p.1=some p.2:=by
 induction l generalizing j with
 |nil=>simp at h
 |cons a r ih=>
  simp only[ZH,List.map_cons,List.nodup_cons] at hn
  cases j with
  |zero=>
   simp at h;subst h
   simp[ZV,List.find?_cons]
  |succ j=>
   simp at h
   have hm:p∈r:=List.mem_of_getElem? h
   have hne:a.1≠p.1:=fun e=>hn.1 (by rw[e];exact List.mem_map.2 ⟨p,hm,rfl⟩)
   have:=ih hn.2 h
   simpa[ZV,List.find?_cons,hne] using this
theorem SMap.find {w:Y} {m:Nat} {l:List (ByteArray×V)} (h:SMap w m l) (s:ByteArray):∃es clock,w.heap[m]? =some (.map es clock)∧Stamped es clock∧es.toList.map (fun e=>(e.key,e.val))=(l.map fun p=>(Value.string p.1,p.2))∧
   ((Instr.findNow .string (.string s) es.toList 0 = some none ∧ (∀ x ∈ es.toList,x.key ≠ .string s) ∧ (∀ p ∈ l,p.1 ≠ s)) ∨
     ∃(j:Nat) (e:MapEntry) (p:ByteArray×V),Instr.findNow .string (.string s) es.toList 0=some (some (j,e.val))∧es.toList[j]? =some e∧e.key= .string s∧l[j]? =some p∧p.1=s∧e.val=p.2):=by
 have hk:=h
 obtain⟨es,clock,hb,hs,hl⟩:=h
 refine⟨es,clock,hb,hs,hl,?_⟩
 rcases findNow_spec (d:= .string) (k:= .string s) trivial es.toList 0 (SMap.keys (w:=w) (m:=m) hl) with ⟨h1,h2⟩|⟨j,e,h1,h2,h3⟩
 · refine .inl ⟨h1,h2,fun p hp he => ?_⟩
   have:(Value.string p.1,p.2)∈l.map fun p=>(Value.string p.1,p.2):=List.mem_map.2 ⟨p,hp,rfl⟩
   rw[←hl] at this
   obtain⟨x,hx,hxe⟩:=List.mem_map.1 this
   exact h2 x hx (by have:=congrArg Prod.fst hxe;simp only at this;rw[this,he])
 · refine .inr ?_
   have:(es.toList.map fun e=>(e.key,e.val))[j]? =some (e.key,e.val):=by simp[h2]
   rw[hl] at this
   simp only[List.getElem?_map,Option.map_eq_some_iff] at this
   obtain⟨p,hp,hpe⟩:=this
   have e1:Value.string p.1=e.key:=congrArg Prod.fst hpe
   have e2:p.2=e.val:=congrArg Prod.snd hpe
   rw[h3] at e1
   injection e1 with e1
   exact⟨j,e,p,by simpa using h1,h2,h3,hp,e1,e2.symm⟩
section
variable {P:Program} {w:Y} {m:Nat} {l:List (ByteArray × V)} {t kt et:TypeId}
theorem SMap.lookup (h:SMap w m l) (ht:P.underlying t=some (.map kt et)) (hk:P.underlying kt=some .string) {z:V} (hz:(zeroValue et).run P w= .ok z w) (s:ByteArray):
   (Instr.lookup t (.map (some m)) (.string s) false).run P w= .ok ((ZV l s).getD z) w:=by
 obtain⟨es,clock,hb,hs,hl,hc⟩:=h.find s
 have hck:=fun e=>run_checkKey (P:=P) (w:=w) (k:= .string s) hk trivial e 9999
 rcases hc with ⟨h1,_,h2⟩|⟨j,e,p,h1,h2,h3,h4,h5,h6⟩
 · rw [Ec         h2]
   simp[Instr.lookup,run_underlying ht,MapKept.run_getObj_map hb,hck,run_findKey hk h1,hz,Result.andThen]
 · subst h5
   rw[VY h.nodup h4]
   simp[Instr.lookup,run_underlying ht,MapKept.run_getObj_map hb,hck,run_findKey hk h1,hz,Result.andThen,h6]
theorem any_false {β:Type} {l:List (ByteArray×β)} {s:ByteArray} (h:∀p∈l,p.1≠s):(l.any fun p=>decide (p.1=s))=false:=by
 rw[List.any_eq_false];intro p hp;simpa using h p hp
theorem any_true {β:Type} {l:List (ByteArray×β)} {p:ByteArray×β} (h:p∈l):(l.any fun q=>decide (q.1=p.1))=true:=List.any_eq_true.2 ⟨p,h,by simp⟩
theorem SMap.update (h:SMap w m l) (ht:P.underlying t=some (.map kt et)) (hk:P.underlying kt=some .string) (s:ByteArray) (v:V):
   ∃w',(Instr.mapUpdate t (.map (some m)) (.string s) v).run P w= .ok () w'∧SMap w' m (Xs l s v)∧Fr (fun b=>b=m) w w'∧w'.heap.size=w.heap.size:=by
 obtain⟨es,clock,hb,hs,hl,hc⟩:=h.find s
 have hck:=fun e=>run_checkKey (P:=P) (w:=w) (k:= .string s) hk trivial e 9999
 have hlt:=ZS hb
 have hks:=run_keyThatStays (P:=P) (w:=w) (d:= .string) (k:= .string s) trivial
 rcases hc with ⟨h1,h1',h2⟩|⟨j,e,p,h1,h2,h3,h4,h5,h6⟩
 · refine ⟨ChangeMaps.setBlock w m (.map (es.push { key := .string s,val := v,born := clock }) (clock + 1)),?_,⟨es.push { key := .string s,val := v,born := clock },clock + 1,?_,stamped_push hs h1',?_⟩,Fr.setBlock _ _ _,by simp [ChangeMaps.setBlock]⟩
   · simp[Instr.mapUpdate,run_underlying ht,MapKept.run_getObj_map hb,hck,run_findKey hk h1,MapKept.run_setObj_map _ hb,Result.andThen,ChangeMaps.setBlock]
   · simp[ChangeMaps.setBlock,hlt]
   · simp[Xs,any_false h2,hl]
 · have hj : es[j]? = some e := by simpa using h2
   have hmem:p∈l:=List.mem_of_getElem? h4
   refine⟨ChangeMaps.setBlock w m (.map (es.modify j fun e=> { e with key:= .string s,val:=v}) clock),?_,⟨es.modify j fun e=> { e with key:= .string s,val:=v},clock,?_,stamped_modify hs _ _ (fun _ _=>rfl) (fun e' _ he'=>by rw[hj] at he';cases he';exact h3.symm),?_⟩,Fr.setBlock _ _ _,by simp[ChangeMaps.setBlock]⟩
   · simp[Instr.mapUpdate,run_underlying ht,MapKept.run_getObj_map hb,hck,run_findKey hk h1,hj,h3,hks,MapKept.run_setObj_map _ hb,Result.andThen,ChangeMaps.setBlock]
   · simp[ChangeMaps.setBlock,hlt]
   · subst h5
     have ha:Xs l p.1 v=l.map fun q=>if q.1=p.1 then (p.1,v) else q:=by
       unfold Xs;rw[if_pos (any_true hmem)]
     rw[ha]
     apply List.ext_getElem?
     intro i
     have hi:=congrArg (fun L=>L[i]?) hl
     simp only[List.getElem?_map] at hi
     simp only[List.getElem?_map,Array.getElem?_toList,Array.getElem?_modify]
     have hnd:=h.nodup
     by_cases hij:j=i
     · subst hij
       rw[if_pos rfl,hj,h4]
       simp
     · rw [if_neg hij]
       cases hq:l[i]? with
       | none =>
         rw[hq] at hi
         simpa using hi
       | some q =>
         rw[hq] at hi
         have hne:q.1≠p.1:=by
           intro he
           have hjl:j<l.length:=(List.getElem?_eq_some_iff.1 h4).1
           have hil:i<l.length:=(List.getElem?_eq_some_iff.1 hq).1
           have e1:(ZH l)[i]'(by simpa[ZH] using hil)=(ZH l)[j]'(by simpa[ZH] using hjl):=by
             simp only[ZH,List.getElem_map]
             rw[List.getElem?_eq_getElem hil] at hq
             rw[List.getElem?_eq_getElem hjl] at h4
             injection hq with hq;injection h4 with h4
             rw[hq,h4];exact he
           exact hij ((List.getElem_inj hnd).1 e1).symm
         simpa[hne] using hi
theorem SMap.delete {ty:TypeId} (h:SMap w m l) (ht:P.underlying t=some (.map kt et)) (hk:P.underlying kt=some .string) (s:ByteArray):
   ∃w',(Builtin.delete_ #[t,kt] ty #[.map (some m),.string s]).run P w= .ok (.tuple #[]) w'∧SMap w' m (Yg l s)∧Fr (fun b=>b=m) w w'∧w'.heap.size=w.heap.size:=by
 obtain⟨es,clock,hb,hs,hl,hc⟩:=h.find s
 have hck:=fun e=>run_checkKey (P:=P) (w:=w) (k:= .string s) hk trivial e 9999
 have hlt:=ZS hb
 rcases hc with ⟨h1,h1',h2⟩|⟨j,e,p,h1,h2,h3,h4,h5,h6⟩
 · refine ⟨ChangeMaps.setBlock w m (.map es clock),?_,⟨es,clock,?_,hs,?_⟩,Fr.setBlock _ _ _,by simp [ChangeMaps.setBlock]⟩
   · simp[Builtin.delete_,run_underlying ht,MapKept.run_getObj_map hb,hck,run_findKey hk h1,MapKept.run_setObj_map _ hb,Result.andThen,ChangeMaps.setBlock]
   · simp[ChangeMaps.setBlock,hlt]
   · rw[show Yg l s=l from List.filter_eq_self.2 (by intro q hq;simpa using h2 q hq)];exact hl
 · refine ⟨ChangeMaps.setBlock w m (.map (es.eraseIdxIfInBounds j) clock),?_,⟨es.eraseIdxIfInBounds j,clock,?_,stamped_erase hs j,?_⟩,Fr.setBlock _ _ _,by simp [ChangeMaps.setBlock]⟩
   · simp[Builtin.delete_,run_underlying ht,MapKept.run_getObj_map hb,hck,run_findKey hk h1,MapKept.run_setObj_map _ hb,Result.andThen,ChangeMaps.setBlock]
   · simp[ChangeMaps.setBlock,hlt]
   · subst h5
     have hjs:j<es.size:=by
       have:=(List.getElem?_eq_some_iff.1 h2).1;simpa using this
     have e1:(es.eraseIdxIfInBounds j).toList=es.toList.eraseIdx j:=by
       unfold Array.eraseIdxIfInBounds;rw[dif_pos hjs,Array.toList_eraseIdx]
     have hnd:=h.nodup
     have e2:Yg l p.1=l.eraseIdx j:=by
       clear hl hs hb h2 h1 h hck e1 hjs
       induction l generalizing j with
       |nil=>simp at h4
       | cons a r ih =>
         simp only[ZH,List.map_cons,List.nodup_cons] at hnd
         cases j with
         | zero =>
           simp at h4;subst h4
           simp only[Yg,List.filter_cons,decide_true,Bool.not_true,Bool.false_eq_true,if_false,List.eraseIdx_zero,List.tail_cons]
           exact List.filter_eq_self.2 (by
             intro q hq
             have:q.1≠a.1:=fun e=>hnd.1 (by rw[←e];exact List.mem_map.2 ⟨q,hq,rfl⟩)
             simpa using this)
         | succ j =>
           simp at h4
           have hne:a.1≠p.1:=fun e=>hnd.1 (by rw[e];exact List.mem_map.2 ⟨p,List.mem_of_getElem? h4,rfl⟩)
           have:=ih j h4 hnd.2
           simp only[Yg] at this
           simp[Yg,List.filter_cons,hne,this]
     rw[e1,e2,ChangeMaps.map_eraseIdx,hl,←ChangeMaps.map_eraseIdx]
theorem SMap.made (w:Y):SMap (w.alloc (.map #[] 0)) w.heap.size []:=⟨#[],0,Z2 _ _,stamped_empty 0,rfl⟩
theorem SMap.copy (h:SMap w m l):∃es clock,w.heap[m]? =some (.map es clock)∧SMap (w.alloc (.map es clock)) w.heap.size l:=by
 obtain⟨es,clock,hb,hs,hl⟩:=h
 exact⟨es,clock,hb,es,clock,Z2 _ _,hs,hl⟩
end
end Go.Proofs.XMaps
namespace Go.Proofs.XDisk
open Go.Proofs.XMaps
abbrev Bytes:=List UInt8
inductive Chg where
 |wr (at_:Nat) (data:Bytes)
 |cut (n:Nat)
def Chg.units:Chg→Nat
 | .wr _ d=>d.length
 | .cut _=>1
def Chg.made (b:Bytes) (u:Nat):Chg→Bytes
 | .wr a d=>if u=0 then b else ((b++List.replicate (a+u-b.length) 0).take a)++d.take u++((b++List.replicate (a+u-b.length) 0).drop (a+u))
 | .cut n=>if u=0 then b else b.take n
structure Thg where
 safe:Bytes
 shown:Bytes
 row:List Chg
def Thg.empty:Thg:=⟨[],[],[]⟩
def Thg.add (t:Thg) (c:Chg):Thg:= { t with row:=t.row++[c],shown:=c.made t.shown c.units}
def Ym (row:List Chg):Nat:=(row.map Chg.units).sum
def leftOf (b:Bytes):List Chg→Nat→Bytes
 | [],_=>b
 |c::r,u=>leftOf (c.made b (min u c.units)) r (u-min u c.units)
def Thg.left (t:Thg) (u:Nat):Bytes:=leftOf t.safe t.row u
def Thg.settle (t:Thg):Thg:= { t with safe:=t.shown,row:=[]}
inductive Turn where
 |mk (n:ByteArray) (t:Nat)
 |give (a b:ByteArray)
 |take (n:ByteArray)
def blt (a b:ByteArray):Bool:=decide (a.data.toList<b.data.toList)
abbrev Names:=List (ByteArray×Nat)
def B5 (l:Names) (s:ByteArray) (t:Nat):Names:=
 match l with
 | []=>[(s,t)]
 |p::r=>if blt s p.1 then (s,t)::p::r else p::B5 r s t
def GM (l:Names) (s:ByteArray) (t:Nat):Names:=B5 (Yg l s) s t
def Turn.on:Turn→Names→Names
 | .mk n t,l=>GM l n t
 | .give a b,l=>GM (Yg l a) b ((ZV l a).getD 0)
 | .take n,l=>Yg l n
structure Ah where
 off:Int
 from_:Int
 to_:Int
structure QI where
 name:ByteArray
 at_:Int
 n:Int
structure AD where
 room:Int
 things:Nat→Thg
 next:Nat
 shown:Names
 safe:Names
 row:List Turn
 strokes:Int
 plan:Ah
 since:Int
 off:Bool
 reads:List QI
def Ah.zero:Ah:=⟨0,0,0⟩
def AD.new (room:Int):AD:= { room,things:=fun _=>Thg.empty,next:=0,shown:=[],safe:=[],row:=[],strokes:=0,plan:= .zero,since:=0,off:=false,reads:=[]}
def YX (c:UInt8):Bool:=(97≤c&&c≤122)||(48≤c&&c≤57)||c==46||c==45||c==95||c==43
def isName (s:ByteArray):Bool:=s.data.toList.all YX&&decide (1≤s.size)&&decide (s.size≤112)
def AD.ZL (S:AD) (t:Nat) (x:Thg):AD:= { S with things:=fun i=>if i=t then x else S.things i}
def AD.look (S:AD) (name:ByteArray):Int:=
 if S.off then 50 else if !isName name then 51 else match ZV S.shown name with
  |none=>53
  |some _=>0
def AD.used (S:AD):Nat:=(S.shown.map fun p=>(S.things p.2).shown.length).sum
def AD.ZI (S:AD):AD:= { S with strokes:=S.strokes+1,since:=S.since+1}
def AD.Yc (S:AD) (kind refused:Int) (act:AD→AD):Int×AD:=
 let S1:=S.ZI
 let r:=if refused=0∧kind=1∧S1.since≥S1.plan.from_∧S1.since≤S1.plan.to_ then 55 else refused
 let out:=decide (S1.since=S1.plan.off)
 let S2:= { S1 with off:=out}
 (if out then 50 else r,if r=0∧¬(out=true∧kind=2) then act S2 else S2)
def AD.YE (S:AD) (c:Turn):AD:= { S with row:=S.row++[c],shown:=c.on S.shown}
def AD.made (S:AD) (name:ByteArray):AD:=({ S.ZL S.next Thg.empty with next:=S.next+1}).YE (.mk name S.next)
def AD.create (S:AD) (name:ByteArray):Int×AD:=
 if S.look name=0 then (52,S) else if S.look name=53 then S.Yc 1 (if S.shown.length≥256 then 56 else 0) (fun S=>S.made name) else (S.look name,S)
def AD.of (S:AD) (name:ByteArray):Nat:=(ZV S.shown name).getD 0
def AD.bytes (S:AD) (name:ByteArray):Bytes:=(S.things (S.of name)).shown
def AD.Ye (S:AD) (name:ByteArray) (at_:Int) (data:Bytes):Int×AD:=
 if S.look name≠0 then (S.look name,S) else
 if at_<0∨at_>(S.bytes name).length then (54,S) else
 S.Yc 1 (if at_+data.length-(S.bytes name).length>0∧S.used+(at_+data.length-(S.bytes name).length)>S.room then 55 else 0)
  (fun T=>T.ZL (S.of name) ((T.things (S.of name)).add (.wr at_.toNat data)))
def AD.append (S:AD) (name:ByteArray) (data:Bytes):Int×AD:=
 if S.look name≠0 then (S.look name,S) else S.Ye name (S.bytes name).length data
def AD.truncate (S:AD) (name:ByteArray) (n:Int):Int×AD:=
 if S.look name≠0 then (S.look name,S) else
 if n<0∨n>(S.bytes name).length then (54,S) else
 S.Yc 0 0 (fun T=>T.ZL (S.of name) ((T.things (S.of name)).add (.cut n.toNat)))
def AD.rename (S:AD) (a b:ByteArray):Int×AD:=
 if S.off then (50,S) else if !isName a|| !isName b then (51,S) else
 match ZV S.shown a with
 |none=>(53,S)
 |some _=>S.Yc 0 0 (fun T=>if a=b then T else T.YE (.give a b))
def AD.remove (S:AD) (name:ByteArray):Int×AD:=
 if S.look name≠0 then (S.look name,S) else S.Yc 0 0 (fun T=>T.YE (.take name))
def AD.sync (S:AD) (name:ByteArray):Int×AD:=
 if S.look name≠0 then (S.look name,S) else S.Yc 2 0 (fun T=>T.ZL (S.of name) (T.things (S.of name)).settle)
def AD.ZR (S:AD):Int×AD:=
 if S.off then (50,S) else S.Yc 2 0 (fun T=> { T with safe:=T.shown,row:=[]})
def AD.Vn (S:AD) (p:Ah):AD:=if S.off then S else { S with plan:=p,since:=0}
def Qe (pick:Int) (most:Nat):Nat:=(pick.emod (most+1)).toNat
def XE (picks:List Int) (k most:Nat):Nat:=match picks[k]? with|some p=>Qe p most|none=>0
def AD.Z7 (S:AD) (picks:List Int):Names:=(S.row.take (XE picks 0 S.row.length)).foldl (fun l c=>c.on l) S.safe
def AD.Yt (S:AD) (picks:List Int) (i:Nat) (t:Nat):Bytes:=(S.things t).left (XE picks (i+1) (Ym (S.things t).row))
def AD.Xu (S:AD) (picks:List Int):AD:=
 let l:=S.Z7 picks
 let now:Names:=l.zipIdx.map fun(p,i)=>(p.1,S.next+i)
 { S with things:=fun j=>if j<S.next then S.things j else match l[j-S.next]? with
            |some p=>let b:=S.Yt picks (j-S.next) p.2;⟨b,b,[]⟩
            |none=>S.things j,
          next:=S.next+l.length,shown:=now,safe:=now,row:=[],off:=false,plan:= .zero,since:=0,strokes:=0}
def AD.files (S:AD):List (ByteArray×Bytes):=S.shown.map fun p=>(p.1,(S.things p.2).shown)
def AD.Yq (S:AD):List (ByteArray×Bytes):=S.safe.map fun p=>(p.1,(S.things p.2).safe)
def AD.read (S:AD) (name:ByteArray) (at_ n:Int):Int×Bytes×AD:=
 if S.look name≠0 then (S.look name,[],S) else
 if at_<0∨n<0∨at_>(S.bytes name).length∨n>(S.bytes name).length-at_ then (54,[],S) else
 (0,((S.bytes name).drop at_.toNat).take n.toNat,{ S with reads:=S.reads++[⟨name,at_,n⟩]})
section
variable {β:Type}
theorem Vq {l:List (ByteArray×β)} (hn:(ZH l).Nodup) {p:ByteArray×β} (h:p∈l):ZV l p.1=some p.2:=by
 obtain⟨j,hj⟩:=List.getElem?_of_mem h
 exact VY hn hj
theorem ZU {l:List (ByteArray×β)} {s:ByteArray} {v:β} (h:ZV l s=some v):(s,v)∈l:=by
 unfold ZV at h
 obtain⟨p,hp,rfl⟩:=Option.map_eq_some_iff.1 h
 have h1:=List.mem_of_find?_eq_some hp
 have h2:=List.find?_some hp
 simp only[decide_eq_true_eq] at h2
 subst h2;exact h1
theorem B6 {l:List (ByteArray×β)} (hn:(ZH l).Nodup) {s:ByteArray} {v:β}:ZV l s=some v↔(s,v)∈l:=⟨ZU,fun h=>Vq hn h⟩
theorem X2 {l l':List (ByteArray×β)} (h:l.Perm l'):(ZH l).Perm (ZH l'):=h.map _
theorem YU {l l':List (ByteArray×β)} (h:l.Perm l') (hn:(ZH l).Nodup) (s:ByteArray):ZV l s=ZV l' s:=by
 have hn':(ZH l').Nodup:=(X2 h).nodup_iff.1 hn
 apply Option.ext
 intro v
 rw[B6 hn,B6 hn',h.mem_iff]
theorem Vr {l l':List (ByteArray×β)} (h:l.Perm l') (s:ByteArray):(Yg l s).Perm (Yg l' s):=h.filter _
theorem Xb {l:List (ByteArray×β)} (hn:(ZH l).Nodup) (s:ByteArray):(ZH (Yg l s)).Nodup:=hn.sublist (List.Sublist.map _ List.filter_sublist)
theorem Yv {l:List (ByteArray×β)} {s:ByteArray} {p:ByteArray×β}:p∈Yg l s↔p∈l∧p.1≠s:=by simp[Yg,List.mem_filter]
theorem XB {l:List (ByteArray×β)} {s:ByteArray}:ZV l s=none↔∀p∈l,p.1≠s:=by
 unfold ZV
 simp[List.find?_eq_none]
theorem J3 {l:List (ByteArray×β)} {s:ByteArray} (h:∀p∈l,p.1≠s):Yg l s=l:=by
 unfold Yg
 rw[List.filter_eq_self]
 intro p hp;simp[h p hp]
theorem Qf (s:ByteArray) (v:β):∀ {l:List (ByteArray×β)},(ZH l).Nodup→(∃p∈l,p.1=s)→(l.map fun p=>if p.1=s then (s,v) else p).Perm ((s,v)::Yg l s)
 | [],_,h=>by obtain⟨p,hp,_⟩:=h;cases hp
 |p::r,hn,h=>by
  simp only[ZH,List.map_cons,List.nodup_cons] at hn
  by_cases e:p.1=s
  ·have hr:∀q∈r,q.1≠s:=fun q hq he=>hn.1 (by rw[e,←he];exact List.mem_map_of_mem hq)
   have e1:Yg (p::r) s=r:=by
    have:=J3 hr
    unfold Yg at *
    rw[List.filter_cons_of_neg (by simp[e]),this]
   have e2:(r.map fun p=>if p.1=s then (s,v) else p)=r:=by
    rw[List.map_congr_left (g:=id) (fun q hq=>by simp[hr q hq])];simp
   rw[e1,List.map_cons,e2,if_pos e]
  ·have e1:Yg (p::r) s=p::Yg r s:=by
    unfold Yg
    rw[List.filter_cons_of_pos (by simp[e])]
   rw[e1,List.map_cons,if_neg e]
   have ih:=Qf s v (l:=r) hn.2 (by
    obtain⟨q,hq,hs⟩:=h
    cases hq with
    |head=>exact absurd hs e
    |tail _ hq=>exact⟨q,hq,hs⟩)
   exact(List.Perm.cons p ih).trans (List.Perm.swap ..)
theorem VZ {l:List (ByteArray×β)} (hn:(ZH l).Nodup) (s:ByteArray) (v:β):(Xs l s v).Perm ((s,v)::Yg l s):=by
 unfold Xs
 split
 ·rename_i h
  obtain⟨p,hp,he⟩:=List.any_eq_true.1 h
  exact Qf s v hn ⟨p,hp,by simpa using he⟩
 ·rename_i h
  have:∀p∈l,p.1≠s:=by
   intro p hp he
   exact h (List.any_eq_true.2 ⟨p,hp,by simp[he]⟩)
  rw[J3 this]
  exact List.perm_append_singleton _ _
end
theorem U7 (s:ByteArray) (t:Nat):∀l:Names,(B5 l s t).Perm ((s,t)::l)
 | []=> .refl _
 |p::r=>by
  unfold B5
  split
  ·exact .refl _
  ·exact(List.Perm.cons p (U7 s t r)).trans (List.Perm.swap ..)
theorem Vs (l:Names) (s:ByteArray) (t:Nat):(GM l s t).Perm ((s,t)::Yg l s):=U7 s t _
theorem QJ {l:Names} (hn:(ZH l).Nodup) (s:ByteArray) (t:Nat):(ZH ((s,t)::Yg l s)).Nodup:=by
 show (s::ZH (Yg l s)).Nodup
 rw[List.nodup_cons]
 refine⟨?_,Xb hn s⟩
 intro h
 obtain⟨p,hp,he⟩:=List.mem_map.1 h
 exact(Yv.1 hp).2 he
theorem J4 {l:Names} (hn:(ZH l).Nodup) (s:ByteArray) (t:Nat):(ZH (GM l s t)).Nodup:=
 (X2 (Vs l s t)).nodup_iff.2 (QJ hn s t)
def Turn.onL:Turn→Names→Names
 | .mk n t,l=>Xs l n t
 | .give a b,l=>Xs (Yg l a) b ((ZV l a).getD 0)
 | .take n,l=>Yg l n
theorem Turn.D9 (c:Turn) {l l':Names} (h:l.Perm l') (hn:(ZH l).Nodup):(c.onL l).Perm (c.on l'):=by
 cases c with
 |mk n t=>exact(VZ hn n t).trans ((List.Perm.cons _ (Vr h n)).trans (Vs l' n t).symm)
 |give a b=>
  show (Xs (Yg l a) b ((ZV l a).getD 0)).Perm (GM (Yg l' a) b ((ZV l' a).getD 0))
  rw[YU h hn a]
  exact(VZ (Xb hn a) b _).trans ((List.Perm.cons _ (Vr (Vr h a) b)).trans (Vs _ b _).symm)
 |take n=>exact Vr h n
theorem Turn.RN (c:Turn) {l:Names} (hn:(ZH l).Nodup):(ZH (c.on l)).Nodup:=by
 cases c with
 |mk n t=>exact J4 hn n t
 |give a b=>exact J4 (Xb hn a) b _
 |take n=>exact Xb hn n
theorem Xc {l:Names} {s:ByteArray} {t:Nat} {p:ByteArray×Nat}:p∈GM l s t↔p=(s,t)∨(p∈l∧p.1≠s):=by
 rw[(Vs l s t).mem_iff,List.mem_cons,Yv]
def reach (S:AD) (t:Nat):Prop:=(∃n,(n,t)∈S.shown)∨(∃n,(n,t)∈S.safe)∨∃n,Turn.mk n t∈S.row
def VS:Bytes→List Chg→Bytes→Prop
 |b,[],s=>s=b∧b.length≤1048576
 |b,c::r,s=>b.length≤1048576∧(∀n,c= .cut n→n≤b.length)∧(∀a d,c= .wr a d→a≤b.length∧a+d.length≤1048576)∧VS (c.made b c.units) r s
def Yo:Names→List Turn→Names→Prop
 |l,[],s=>s=l∧l.length≤256
 |l,c::r,s=>l.length≤256∧(∀a b,c= .give a b→ZV l a≠none)∧Yo (c.on l) r s
def Ordered (l:Names):Prop:=l.Pairwise fun p q=>blt p.1 q.1=true
structure Thg.Ok (x:Thg) (c:Nat):Prop where
 row:x.row.length≤c
 ok:VS x.safe x.row x.shown
def Turn.nm:Turn→Prop
 | .mk n _=>n.size≤112
 | .give _ b=>b.size≤112
 | .take _=>True
structure AD.Ok (S:AD) (c:Nat):Prop where
 room:1≤S.room∧S.room≤1048576
 small:c≤1099511627776
 strokes:0≤S.strokes∧S.strokes≤c
 since:0≤S.since∧S.since≤c
 row:S.row.length≤c
 reads:S.reads.length≤c
 next:∀t,reach S t→t<S.next
 Yk:∀t,reach S t→(S.things t).Ok c
 turns:Yo S.safe S.row S.shown
 sn:∀p∈S.safe,p.1.size≤112
 rn:∀c∈S.row,Turn.nm c
 safe:Ordered S.safe
theorem VS.len {b s:Bytes}:∀ {r:List Chg},VS b r s→s.length≤1048576∧b.length≤1048576
 | [],h=>⟨h.1▸h.2,h.2⟩
 |c::r,h=>⟨(VS.len h.2.2.2).1,h.1⟩
theorem Yo.len {l s:Names}:∀ {r:List Turn},Yo l r s→s.length≤256∧l.length≤256
 | [],h=>⟨h.1▸h.2,h.2⟩
 |c::r,h=>⟨(Yo.len h.2.2).1,h.1⟩
theorem VS.snoc {s:Bytes} {c:Chg} (h1:∀n,c= .cut n→n≤s.length) (h2:∀a d,c= .wr a d→a≤s.length∧a+d.length≤1048576) (h3:(c.made s c.units).length≤1048576):
   ∀ {r:List Chg} {b:Bytes},VS b r s→VS b (r++[c]) (c.made s c.units)
 | [],b,h => by
   obtain⟨rfl,hb⟩:=h
   exact⟨hb,h1,h2,rfl,h3⟩
 |d::r,b,h=>⟨h.1,h.2.1,h.2.2.1,VS.snoc h1 h2 h3 h.2.2.2⟩
theorem Yo.snoc {s:Names} {c:Turn} (h1:∀a b,c= .give a b→ZV s a≠none) (h3:(c.on s).length≤256):
   ∀ {r:List Turn} {l:Names},Yo l r s→Yo l (r++[c]) (c.on s)
 | [],l,h => by
   obtain⟨rfl,hb⟩:=h
   exact⟨hb,h1,rfl,h3⟩
 |d::r,l,h=>⟨h.1,h.2.1,Yo.snoc h1 h3 h.2.2⟩
theorem Yo.eq {s:Names}:∀ {r:List Turn} {l:Names},Yo l r s→s=r.foldl (fun l c=>c.on l) l
 | [],l,h=>h.1
 |c::r,l,h=>Yo.eq (r:=r) (l:=c.on l) h.2.2
theorem Yo.take {s:Names} (i:Nat):∀ {r:List Turn} {l:Names},Yo l r s→Yo l (r.take i) ((r.take i).foldl (fun l c=>c.on l) l):=by
 induction i with
 |zero=>intro r l h;exact⟨rfl,h.len.2⟩
 |succ i ih=>
  intro r l h
  cases r with
  |nil=>exact⟨rfl,h.len.2⟩
  |cons c r=>exact⟨h.1,h.2.1,ih h.2.2⟩
theorem GN {a b c:ByteArray} (h:blt a b=true) (k:blt b c=true):blt a c=true:=by
 unfold blt at *
 simp only[decide_eq_true_eq] at *
 exact List.lt_trans h k
theorem Ed (a:ByteArray):blt a a=false:=by
 unfold blt
 simp only[decide_eq_false_iff_not]
 exact List.lt_irrefl _
theorem GO {a b:ByteArray} (h:blt a b=false) (hne:a≠b):blt b a=true:=by
 unfold blt at *
 simp only[decide_eq_false_iff_not,decide_eq_true_eq] at *
 by_cases h':b.data.toList<a.data.toList
 ·exact h'
 ·exact absurd (ByteArray.ext (Array.toList_inj.1 (List.le_antisymm (List.not_lt.1 h') (List.not_lt.1 h)))) hne
theorem Ordered.nodup {l:Names} (h:Ordered l):(ZH l).Nodup:=by
 unfold ZH
 rw[List.Nodup,List.pairwise_map]
 refine h.imp fun {p q} hpq e=> ?_
 rw[e,Ed] at hpq;cases hpq
theorem Ordered.del {l:Names} (h:Ordered l) (s:ByteArray):Ordered (Yg l s):=h.filter _
theorem Ordered.ins {s:ByteArray} {t:Nat}:∀ {l:Names},Ordered l→(∀p∈l,p.1≠s)→Ordered (B5 l s t)
 | [],_,_=>List.pairwise_singleton _ _
 |p::r,h,hn=>by
  obtain⟨h1,h2⟩:=List.pairwise_cons.1 h
  unfold B5
  split
  ·rename_i hs
   refine List.pairwise_cons.2 ⟨?_,h⟩
   intro q hq
   cases hq with
   |head=>exact hs
   |tail _ hq=>exact GN hs (h1 q hq)
  ·rename_i hs
   refine List.pairwise_cons.2 ⟨?_,Ordered.ins h2 fun q hq=>hn q (List.mem_cons_of_mem _ hq)⟩
   intro q hq
   rcases List.mem_cons.1 ((U7 s t r).mem_iff.1 hq) with rfl|hq
   ·exact GO (by simpa using hs) (fun e=>hn p List.mem_cons_self e.symm)
   ·exact h1 q hq
theorem Ordered.set {l:Names} (h:Ordered l) (s:ByteArray) (t:Nat):Ordered (GM l s t):=(h.del s).ins fun p hp=>(Yv.1 hp).2
theorem Ordered.on {l:Names} (h:Ordered l) (c:Turn):Ordered (c.on l):=by
 cases c with
 |mk n t=>exact h.set n t
 |give a b=>exact(h.del a).set b _
 |take n=>exact h.del n
theorem Ordered.fold {r:List Turn}:∀ {l:Names},Ordered l→Ordered (r.foldl (fun l c=>c.on l) l):=by
 induction r with
 |nil=>intro l h;exact h
 |cons c r ih=>intro l h;exact ih (h.on c)
theorem AD.Ok.shown {S:AD} {c:Nat} (h:S.Ok c):Ordered S.shown:=by rw[h.turns.eq];exact h.safe.fold
theorem Ai {a u:Nat} {b d:Bytes}:(((b++List.replicate (a+u-b.length) 0).take a)++d.take u++((b++List.replicate (a+u-b.length) 0).drop (a+u)):Bytes).length=min a (max b.length (a+u))+min u d.length+(max b.length (a+u)-(a+u)):=by
 simp only[List.length_append,List.length_take,List.length_drop,List.length_replicate]
 omega
theorem De {c:Chg} {b:Bytes} (h1:∀a d,c= .wr a d→a≤b.length∧a+d.length≤1048576):c.units≤1048576:=by
 cases c with
 |cut n=>show 1≤_;omega
 |wr a d=>have:=(h1 a d rfl).2;show d.length≤_;omega
theorem VS.Ud {s:Bytes}:∀ {r:List Chg} {b:Bytes},VS b r s→∀c∈r,c.units≤1048576
 | [],b,_,c,hc=>by cases hc
 |d::r,b,h,c,hc=>by
  cases hc with
  |head=>exact De h.2.2.1
  |tail _ hc=>exact VS.Ud h.2.2.2 c hc
theorem UP {l:List Chg} (h:∀c∈l,c.units≤1048576):Ym l≤l.length*1048576:=by
 unfold Ym
 induction l with
 |nil=>simp
 |cons c l ih=>
  have h1:=h c List.mem_cons_self
  have h2:=ih fun d hd=>h d (List.mem_cons_of_mem _ hd)
  simp only[List.map_cons,List.sum_cons,List.length_cons]
  omega
def Aj (b:Bytes) (r:List Chg) (u:Nat) (s:Bytes):Prop:=VS b r s∨(u=0∧b.length≤1048576∧∀c∈r,c.units≤1048576)
theorem Aj.step {b:Bytes} {c:Chg} {r:List Chg} {u:Nat} {s:Bytes} (h:Aj b (c::r) u s):Aj (c.made b (min u c.units)) r (u-min u c.units) s∧b.length≤1048576∧c.units≤1048576∧(∀n,c= .cut n→min u c.units≠0→n≤b.length)∧(∀a d,c= .wr a d→min u c.units≠0→a+min u c.units≤1048576):=by
 have zero:∀b:Bytes,c.made b 0=b:=by intro b;cases c<;>simp[Chg.made]
 rcases h with h|⟨rfl,hb,hu⟩
 ·have hcu:=De h.2.2.1
  refine⟨?_,h.1,hcu,fun n e _=>h.2.1 n e,fun a d e _=> ?_⟩
  ·by_cases hle:c.units≤u
   ·rw[Nat.min_eq_right hle];exact .inl h.2.2.2
   ·rw[Nat.min_eq_left (by omega)]
    refine .inr ⟨by omega,?_,fun c hc=>VS.Ud h.2.2.2 c hc⟩
    cases c with
    |cut n=>
     have:u=0:=by have:(Chg.cut n).units=1:=rfl;omega
     subst this;rw[zero];exact h.1
    |wr a d=>
     by_cases h0:u=0
     ·subst h0;rw[zero];exact h.1
     ·have h2:=h.2.2.1 a d rfl
      have h3:(Chg.wr a d).units=d.length:=rfl
      simp only[Chg.made,if_neg h0]
      rw[Ai]
      have:=h.1
      omega
  ·subst e
   have h2:=(h.2.2.1 a d rfl).2
   have h3:(Chg.wr a d).units=d.length:=rfl
   have:=Nat.min_le_right u (Chg.wr a d).units
   omega
 ·rw[Nat.zero_min,zero]
  exact⟨.inr ⟨rfl,hb,fun c hc=>hu c (List.mem_cons_of_mem _ hc)⟩,hb,hu c List.mem_cons_self,fun n _ h=>absurd rfl h,fun a d _ h=>absurd rfl h⟩
theorem Aj.len {b:Bytes} {r:List Chg} {u:Nat} {s:Bytes} (h:Aj b r u s):b.length≤1048576:=by
 rcases h with h|h
 ·exact h.len.2
 ·exact h.2.1
end Go.Proofs.XDisk
