/- Put together by a program (wip/tools/shake.py): XRed. -/
import Derived.OrdersHeld
import Derived.WalkKit
import Derived.KernelRfl
import Derived.Scope
set_option linter.unusedVariables false
set_option linter.unusedSimpArgs false
namespace Go.Proofs.XRed
open Go Go.RowKit
abbrev Env := Nat → Value
abbrev KV := Value → World → Prop
abbrev KE := Env → World → Prop
def put (ρ:Env) (d:Nat) (v:Value) : Env := fun t => bif t.beq d then v else ρ t
def argEnv (args:List Value) : Env := fun t => args.getD t undef
def ev (ρ:Env) : Operand → Value
 | .tmp t => ρ t
 | .const v => v
 | .global g => .pointer (some ⟨g,0,none⟩)
 | .func f => .func (.func f) #[] #[]
def putO (ρ:Env) (d:Option Tmp) (v:Value) : Env :=
 match d with
 | some d => put ρ d v
 | none => ρ
theorem put_ne (ρ:Env) (d t:Nat) (v:Value) (h:t ≠ d) : put ρ d v t = ρ t := by
 have : (t.beq d) = false := by
  cases hb : t.beq d with
  | false => rfl
  | true => exact absurd (Nat.eq_of_beq_eq_true hb) h
 simp [put,this]
inductive Xt where
 | normal | ret
 | exit (id:Nat)
 | goto (l:Nat)
def px {α:Type} (P:Program) (s:Sem α) (w:World) (k:α → World → Prop) : Prop :=
 match s.run P w with
 | .ok v w' => k v w'
 | .halt _ _ => False
def pu (P:Program) (s:Sem Unit) (w:World) (k:World → Prop) : Prop := px P s w fun _ w => k w
theorem px_ok {α:Type} {P:Program} {s:Sem α} {w w':World} {v:α} {k:α → World → Prop} (h:s.run P w = .ok v w') (hk:k v w') : px P s w k := by
 simp only [px,h]; exact hk
theorem pu_ok {P:Program} {s:Sem Unit} {w w':World} {k:World → Prop} (h:s.run P w = .ok () w') (hk:k w') : pu P s w k := by
 simp only [pu,px,h]; exact hk
def nilSem (x:Value) : Sem Value :=
 match x with
 | .pointer none | .nilIface | .nilFunc => runtimePanic .nilDeref
 | .func (.method name) first captured =>
  match (first[0]? : Option Value) with
  | some .nilIface => runtimePanic .nilDeref
  | some (.iface t w) => do
   if (← nilAhead ((← program).types.size + Made.depth) t w name) != some false then
    unsupported (.noEntry "op/nilCheck.the method's receiver behind this interface value is a nil pointer, or cannot be seen to be none, and the arguments act or may panic (ledger 612)")
   pure (.func (.method name) first captured)
  | _ => pure (.func (.method name) first captured)
 | x => pure x
def pickSem (c a b:Value) : Sem Value := do pure (if ← asBool c then a else b)
def binSem (op:BinOp) (t:TypeId) (x y:Operand) (a b:Value) : Sem Value := do eqGuard op t x y a b; binOp op t a b
def bSem (b:Builtin) (argTypes:Array TypeId) (type:TypeId) (args:Array Value) : Sem Value :=
 match b with
 | .append => Builtin.append_ argTypes type args
 | .cap => Builtin.cap_ argTypes type args
 | .clear => Builtin.clear_ argTypes type args
 | .copy => Builtin.copy_ argTypes type args
 | .delete => Builtin.delete_ argTypes type args
 | .len => Builtin.len_ argTypes type args
 | .max => Builtin.max_ argTypes type args
 | .min => Builtin.min_ argTypes type args
 | _ => stuck "bSem"
def opSem (op:Op) (type:TypeId) (ρ:Env) : Sem Value :=
 match op with
 | .move x | .assign x => pure (ev ρ x)
 | .pick c a b => pickSem (ev ρ c) (ev ρ a) (ev ρ b)
 | .alloc elem => Instr.alloc elem true (.tuple #[])
 | .box elem x => Instr.box elem (ev ρ x)
 | .build t parts => Instr.build t (parts.toList.map fun (i,x) => (i,ev ρ x)).toArray
 | .buildSlice t len parts => Instr.buildSlice t len (parts.toList.map fun (i,x) => (i,ev ρ x)).toArray
 | .load t a => Instr.loadAt t (ev ρ a)
 | .nilCheck x => nilSem (ev ρ x)
 | .binOp op xType x y _ => binSem op xType x y (ev ρ x) (ev ρ y)
 | .unOp op _ x => Op.unary op (ev ρ x)
 | .convert src dst x => convert src dst (ev ρ x)
 | .sliceToArrayPointer arr x => Instr.arrayAt arr (ev ρ x)
 | .makeInterface xType x => Instr.makeInterface xType (ev ρ x)
 | .makeFunc fn first captured => Instr.makeFunc fn (first.toList.map (ev ρ)).toArray (captured.toList.map (ev ρ)).toArray
 | .makeMap t r => Instr.makeMap t (r.map (ev ρ))
 | .makeSlice t l c => Instr.makeSlice t (ev ρ l) (ev ρ c)
 | .slice t x lo hi mx => Instr.sliceAt t (ev ρ x) (lo.map (ev ρ)) (hi.map (ev ρ)) (mx.map (ev ρ))
 | .fieldAddr s x f => Instr.fieldAt s (ev ρ x) f
 | .field xType x f => Instr.field xType (ev ρ x) f
 | .indexAddr t x ix => Instr.indexAt t (ev ρ x) (ev ρ ix)
 | .index xType x ix => Instr.index xType (ev ρ x) (ev ρ ix)
 | .lookup xType x ix ok => Instr.lookup xType (ev ρ x) (ev ρ ix) ok
 | .mapEntry t m k => Instr.mapEntry t (ev ρ m) (ev ρ k)
 | .range xType x => Instr.range xType (ev ρ x)
 | .next it isString => Instr.next (ev ρ it) isString type
 | .entry it => Instr.entry (ev ρ it)
 | .typeAssert x xType asserted ok => Instr.typeAssert (ev ρ x) xType asserted ok
 | .extract t ix => Instr.extract (ev ρ t) ix
 | .panic x => Instr.panic (ev ρ x)
 | _ => stuck "opSem"
def opSemU (op:Op) (ρ:Env) : Sem Unit :=
 match op with
 | .store t a x => Instr.storeAt t (ev ρ a) (ev ρ x)
 | .mapUpdate t m k x => Instr.mapUpdate t (ev ρ m) (ev ρ k) (ev ρ x)
 | .insert t m k x => Instr.mapUpdate t (ev ρ m) (ev ρ k) (ev ρ x)
 | .entryStore t m s x => Instr.entryStore t (ev ρ m) (ev ρ s) (ev ρ x)
 | .ready g => Instr.ready g
 | _ => stuck "opSemU"
def pN (P:Program) (r:Result Next) (k:KV) : Prop :=
 match r with
 | .ok (.value v) w => k v w
 | .ok (.enter f args) w => Calls P f args w fun e w' => ∃ v,e = .returned v ∧ k v w'
 | _ => False
def pFn (P:Program) (f:FuncId) (args:List Value) (w:World) (k:KV) : Prop :=
 pN P ((callFunc f args.toArray).run P w) k
def pInv (P:Program) (recv:Value) (name:String) (args:List Value) (w:World) (k:KV) : Prop :=
 pN P ((callMethod recv name args.toArray).run P w) k
def pVal (P:Program) (fv:Value) (args:List Value) (w:World) (k:KV) : Prop :=
 match fv with
 | .func (.func f) first cap => pFn P f (first.toList ++ args ++ cap.toList) w k
 | .func (.method name) first _ => match first.toList ++ args with
  | r :: rest => pInv P r name rest w k
  | [] => False
 | _ => False
def cpCall (P:Program) (c:Callee) (argTypes:Array TypeId) (type:TypeId) (args:List Value) (ρ:Env) (w:World) (k:KV) : Prop :=
 match c with
 | .value (.func f) => pFn P f args w k
 | .value x => pVal P (ev ρ x) args w k
 | .invoke r n => pInv P (ev ρ r) n args w k
 | .builtin b => px P (bSem b argTypes type args.toArray) w k
def cp (P:Program) (op:Op) (type:TypeId) (ρ:Env) (w:World) (k:KV) : Prop :=
 match op with
 | .move x => k (ev ρ x) w
 | .assign x => k (ev ρ x) w
 | .store .. | .mapUpdate .. | .insert .. | .entryStore .. | .ready _ => pu P (opSemU op ρ) w (k undef)
 | .call c => cpCall P c.callee c.argTypes type (c.args.toList.map (ev ρ)) ρ w k
 | .go _ | .defer _ | .send .. | .recv .. | .select .. | .waits _ | .makeChan .. => False
 | op => px P (opSem op type ρ) w k
def gVal (ops:List Oper) (ρ:Env) (j:Nat) : Value :=
 match ops[j]? with
 | some { dst := some d,.. } => ρ d
 | _ => undef
def pG (g:Value) (want:Bool) (A:(KV) → Prop) (next:KV) (w:World) : Prop :=
 match g with
 | .bool b => bif (b == want) then A next else next undef w
 | _ => next undef w
def redOps (P:Program) (ops:List Oper) (K:KE) : List Oper → KE
 | [],ρ,w => K ρ w
 | o :: rest,ρ,w =>
  match o.guard with
  | none => cp P o.op o.type ρ w fun v w => redOps P ops K rest (putO ρ o.dst v) w
  | some (j,want) => pG (gVal ops ρ j) want (cp P o.op o.type ρ w) (fun v w => redOps P ops K rest (putO ρ o.dst v) w) w
def pq {α:Type} (P:Program) (S:World → Prop) (s:Sem α) (k:α → Prop) : Prop := ∃ v,(∀ w,S w → s.run P w = .ok v w) ∧ k v
def quietOp : Op → Bool
 | .move _ | .assign _ | .pick .. | .build .. | .load .. | .nilCheck _ | .binOp .. | .unOp .. | .convert .. | .makeInterface .. | .makeFunc .. | .slice .. | .fieldAddr .. | .field ..
 | .indexAddr .. | .index .. | .lookup .. | .extract .. => true
 | .call { callee := .builtin b,.. } => match b with | .len | .cap | .max | .min => true | _ => false
 | _ => false
def qSem (op:Op) (type:TypeId) (ρ:Env) : Sem Value :=
 match op with
 | .call { callee := .builtin b,argTypes,args } => bSem b argTypes type (args.toList.map (ev ρ)).toArray
 | op => opSem op type ρ
def cq (P:Program) (S:World → Prop) (op:Op) (type:TypeId) (ρ:Env) (k:Value → Prop) : Prop :=
 match op with
 | .move x => k (ev ρ x)
 | .assign x => k (ev ρ x)
 | op => pq P S (qSem op type ρ) k
def pGq (g:Value) (want:Bool) (A:(Value → Prop) → Prop) (next:Value → Prop) : Prop :=
 match g with
 | .bool b => bif (b == want) then A next else next undef
 | _ => next undef
def sAnd (last:Bool) (S:Prop) (p:Prop) : Prop := bif last then p else S ∧ p
def lastOk (ops:Array Oper) (z:Nat) : Bool :=
 (List.range ops.size).all fun i => i.beq z || (List.range ops.size).any fun j => Nat.blt i j && (ops.getD j default).after.any fun e => Region.binds .any e && e.on.beq i
def lastOf (ops:Array Oper) (order:List Nat) : Nat :=
 match order.getLast? with
 | some z => bif lastOk ops z then z else ops.size
 | none => ops.size
def redDraw (P:Program) (ops:List Oper) (S:World → Prop) (z:Nat) (K:KE) : List Nat → KE
 | [],ρ,w => K ρ w
 | i :: rest,ρ,w =>
  match ops[i]? with
  | none => False
  | some o =>
   match quietOp o.op,o.guard with
   | true,none => cq P S o.op o.type ρ fun v => redDraw P ops S z K rest (putO ρ o.dst v) w
   | true,some (j,want) => pGq (gVal ops ρ j) want (cq P S o.op o.type ρ) fun v => redDraw P ops S z K rest (putO ρ o.dst v) w
   | false,none => cp P o.op o.type ρ w fun v w => sAnd (i.beq z) (S w) (redDraw P ops S z K rest (putO ρ o.dst v) w)
   | false,some (j,want) => pG (gVal ops ρ j) want (cp P o.op o.type ρ w) (fun v w => sAnd (i.beq z) (S w) (redDraw P ops S z K rest (putO ρ o.dst v) w)) w
def drawOrder (ops:Array Oper) : Nat → Array Bool → List Nat
 | 0,_ => []
 | fuel + 1,listed =>
  let r := Region.ready .any ops listed
  match r.find? fun i => quietOp (ops.getD i default).op with
  | some i => i :: drawOrder ops fuel (listed.setIfInBounds i true)
  | none => match r with
   | i :: _ => i :: drawOrder ops fuel (listed.setIfInBounds i true)
   | [] => []
def drawOk (ops:Array Oper) : Nat → Array Bool → List Nat → Bool
 | _,listed,[] => (Region.ready .any ops listed).isEmpty
 | 0,_,_ :: _ => false
 | fuel + 1,listed,i :: rest =>
  (Region.ready .any ops listed).contains i &&
  (if quietOp (ops.getD i default).op then Region.free .any ops listed i else Region.ready .any ops listed == [i]) &&
  drawOk ops fuel (listed.setIfInBounds i true) rest
def thenE (K:KE) (Q:Xt → KE) : Xt → KE
 | .normal,ρ,w => K ρ w
 | .ret,ρ,w => Q .ret ρ w
 | .exit i,ρ,w => Q (.exit i) ρ w
 | .goto l,ρ,w => Q (.goto l) ρ w
def inBlockE (id:Nat) (Q:Xt → KE) : Xt → KE
 | .normal,ρ,w => Q .normal ρ w
 | .ret,ρ,w => Q .ret ρ w
 | .exit i,ρ,w => bif i.beq id then Q .normal ρ w else Q (.exit i) ρ w
 | .goto l,ρ,w => Q (.goto l) ρ w
def noGotoE (Q:Xt → KE) : Xt → KE
 | .normal,ρ,w => Q .normal ρ w
 | .ret,ρ,w => Q .ret ρ w
 | .exit i,ρ,w => Q (.exit i) ρ w
 | .goto _,_,_ => False
def pC (c:Value) (A B:Prop) : Prop :=
 match c with
 | .bool b => bif b then A else B
 | _ => False
def Sim (ds:List Deferred) (n:Nat) (ρ:Env) (a:Act) : Prop := a.defers = ds ∧ a.tmps.size = n ∧ ∀ t,a.tmps.getD t undef = ρ t
def lift (ds:List Deferred) (n:Nat) (Q:Xt → KE) : Exit → Act → World → Prop
 | .normal,a,w => ∃ ρ,Sim ds n ρ a ∧ Q .normal ρ w
 | .ret,a,w => ∃ ρ,Sim ds n ρ a ∧ Q .ret ρ w
 | .exit i,a,w => ∃ ρ,Sim ds n ρ a ∧ Q (.exit i) ρ w
 | .goto l,a,w => ∃ ρ,Sim ds n ρ a ∧ Q (.goto l) ρ w
 | _,_,_ => False
def pRaw (P:Program) (n:Nat) (c:Code) (Q:Xt → KE) (ρ:Env) (w:World) : Prop := ∀ ds a,Sim ds n ρ a → c.wp P (lift ds n Q) a w
def Pt (c:Code) (R:(Xt → KE) → KE) (Q:Xt → KE) (ρ:Env) (w:World) : Prop := R Q ρ w
noncomputable def red (P:Program) (n:Nat) (c:Code) : (Xt → KE) → KE :=
 @Code.rec (fun _ => (Xt → KE) → KE)
  (fun Q ρ w => Q .normal ρ w)
  (fun _ ops draw Q ρ w =>
   bif draw then ∃ S : World → Prop,S w.drew ∧ redDraw P ops.toList S (lastOf ops (drawOrder ops ops.size (Array.replicate ops.size false))) (Q .normal) (drawOrder ops ops.size (Array.replicate ops.size false)) ρ w.drew
   else redOps P ops.toList (Q .normal) ops.toList ρ w)
  (fun _ y ihx ihy Q ρ w => ihx (thenE (Pt y ihy Q) Q) ρ w)
  (fun c _ _ ihx ihy Q ρ w => pC (ev ρ c) (ihx Q ρ w) (ihy Q ρ w))
  (fun id _ ih Q ρ w => ih (inBlockE id Q) ρ w)
  (fun c _ Q ρ w => pRaw P n (.loop c) Q ρ w)
  (fun _ _ _ _ _ _ _ _ _ => False)
  (fun id Q ρ w => Q (.exit id) ρ w)
  (fun _ ih Q ρ w => ih (noGotoE Q) ρ w)
  (fun _ Q ρ w => Q .normal ρ w)
  (fun l Q ρ w => Q (.goto l) ρ w)
  (fun Q ρ w => Q .ret ρ w)
  (fun _ _ _ _ => False) c
def wfOps (n:Nat) (ops:List Oper) : Bool := ops.all fun o => match o.dst with | some d => d < n | none => true
def Code.fits (n:Nat) : Code → Bool
 | .region _ ops draw => wfOps n ops.toList && (!draw || (Region.noSelect ops && drawOk ops ops.size (Array.replicate ops.size false) (drawOrder ops ops.size (Array.replicate ops.size false))))
 | .seq x y | .cond _ x y => Code.fits n x && Code.fits n y
 | .block _ c => Code.fits n c
 | .scope c => Code.fits n c
 | _ => true
def sub : Code → List Nat → Code
 | c,[] => c
 | .seq x _,0 :: p => sub x p
 | .seq _ y,(_ + 1) :: p => sub y p
 | .cond _ x _,0 :: p => sub x p
 | .cond _ _ y,(_ + 1) :: p => sub y p
 | .block _ c,_ :: p => sub c p
 | .loop c,_ :: p => sub c p
 | .scope c,_ :: p => sub c p
 | c,_ :: _ => c
noncomputable def contAt (P:Program) (n:Nat) : Code → (Xt → KE) → List Nat → Xt → KE
 | _,Q,[] => Q
 | .seq x y,Q,0 :: p => contAt P n x (thenE (Pt y (red P n y) Q) Q) p
 | .seq _ y,Q,(_ + 1) :: p => contAt P n y Q p
 | .cond _ x _,Q,0 :: p => contAt P n x Q p
 | .cond _ _ y,Q,(_ + 1) :: p => contAt P n y Q p
 | .block id c,Q,_ :: p => contAt P n c (inBlockE id Q) p
 | .scope c,Q,_ :: p => contAt P n c (noGotoE Q) p
 | _,Q,_ :: _ => Q
def At (P:Program) (n:Nat) (B:Code) (Q:Xt → KE) (q:List Nat) (ρ:Env) (w:World) : Prop := Pt (sub B q) (red P n (sub B q)) (contAt P n B Q q) ρ w
def LoopAt (P:Program) (n:Nat) (B:Code) (Q:Xt → KE) (p:List Nat) (ρ:Env) (w:World) : Prop := pRaw P n (sub B p) (contAt P n B Q p) ρ w
def bodyOf (f:Func) : Code := f.body.getD .skip
section
variable {P:Program} {n:Nat} {ds:List Deferred}
theorem Sim.eval {ρ:Env} {a:Act} (h:Sim ds n ρ a) : a.eval = ev ρ := by
 funext x
 cases x with
 | tmp t => exact h.2.2 t
 | const v => rfl
 | global g => rfl
 | func f => rfl
theorem Sim.put {ρ:Env} {a:Act} (h:Sim ds n ρ a) {d:Nat} (hd:d < n) (v:Value) : Sim ds n (put ρ d v) (a.put (some d) v) := by
 refine ⟨h.1,by simp [Act.put,h.2.1],fun t => ?_⟩
 have hs : d < a.tmps.size := by rw [h.2.1]; exact hd
 by_cases e : t = d
 ·subst e
  simp [Act.put,XRed.put,hs]
 ·rw [put_ne _ _ _ _ e,← h.2.2 t]
  simp [Act.put,Array.getElem?_setIfInBounds_ne (Ne.symm e)]
theorem Sim.putO {ρ:Env} {a:Act} (h:Sim ds n ρ a) {d:Option Tmp} (hd:∀ x,d = some x → x < n) (v:Value) : Sim ds n (putO ρ d v) (a.put d v) := by
 cases d with
 | none => exact h
 | some d => exact h.put (hd d rfl) v
theorem Sim.yielded {ρ:Env} {a:Act} (h:Sim ds n ρ a) (ops:Array Oper) (hw:wfOps n ops.toList = true) (j:Nat) :
    yielded ops a.tmps j = match gVal ops.toList ρ j with | .bool b => some b | _ => none := by
  unfold Go.yielded gVal
  cases ho : ops[j]? with
  | none => simp [ho,undef]
  | some o =>
    simp only [ho,Option.bind_some,Array.getElem?_toList]
    cases hd : o.dst with
    | none =>
      obtain ⟨dst,op,type,pos,after,guard⟩ := o
      simp only at hd; subst hd
      simp [undef]
    | some d =>
      obtain ⟨dst,op,type,pos,after,guard⟩ := o
      simp only at hd; subst hd
      have hlt : d < n := by
        have hm : { dst := some d,op := op,type := type,pos := pos,after := after,guard := guard : Oper } ∈ ops.toList := by
          rw [Array.mem_toList_iff]; exact Array.mem_of_getElem? ho
        have := List.all_eq_true.1 hw _ hm
        simpa using this
      have hs : d < a.tmps.size := by rw [h.2.1]; exact hlt
      have he := h.2.2 d
      simp [hs] at he
      simp [hs,he]
      cases ρ d <;> rfl
theorem arr_map {α β:Type} (f:α → β) (a:Array α) : a.map f = (a.toList.map f).toArray := by apply Array.ext'; simp
theorem nil_run (P:Program) (w:World) (x:Value) (ρ:Operand → Value) (o:Oper) (y:Operand) (ho:o.op = .nilCheck y) (hx:ρ y = x) :
    (execOp ρ o).run P w = (do pure (Next.value (← nilSem x)) : Sem Next).run P w := by
  simp only [execOp,ho,hx]
  cases x with
  | func fn first cap =>
    cases fn with
    | method name =>
      simp only [nilSem]
      cases first[0]? with
      | none => rfl
      | some u =>
        cases u with
        | nilIface => simp only [Sem.run_bind,Sem.run_pure,runtimePanic,goPanic]; rfl
        | iface t v =>
          simp only [Sem.run_bind,program,Sem.run,Result.andThen]
          cases hn : (nilAhead (P.types.size + Made.depth) t v name).run P w with
          | halt h w' => rfl
          | ok a w' =>
            simp only
            cases hb : (a != some false) with
            | true => simp only [if_true,Sem.run_bind,unsupported,Sem.run,Result.andThen]
            | false => simp only [Bool.false_eq_true,if_false,Sem.run_bind,Sem.run_pure,Result.andThen]
        | _ => rfl
    | _ => rfl
  | pointer p => cases p <;> simp only [nilSem,runtimePanic,goPanic,Sem.run_bind,Sem.run_pure] <;> rfl
  | nilIface => simp only [nilSem,runtimePanic,goPanic,Sem.run_bind,Sem.run_pure]; rfl
  | nilFunc => simp only [nilSem,runtimePanic,goPanic,Sem.run_bind,Sem.run_pure]; rfl
  | _ => rfl
theorem cp_sound {o:Oper} {ρ:Env} {a:Act} {w:World} {Q:Exit → Act → World → Prop} {K:Act → World → Prop} {k:KV} (hs:Sim ds n ρ a)
    (hk:∀ v w,k v w → K (a.put o.dst v) w) (h:cp P o.op o.type ρ w k) : o.wp P a w K Q := by
  have he := hs.eval
  have pcall : ∀ (s:Sem Next),pN P (s.run P w) k → o.upon P a K Q (s.run P w) := by
    intro s h
    unfold pN at h
    split at h
    · rename_i heq; rw [heq]; exact hk _ _ h
    · rename_i heq; rw [heq]
      exact Calls.mono h fun e w' ⟨v,he,hv⟩ => by subst he; exact hk _ _ hv
    · exact h.elim
  have pval : ∀ (s:Sem Value),px P s w k → o.upon P a K Q ((do pure (Next.value (← s)) : Sem Next).run P w) := by
    intro s h
    unfold px at h
    simp only [Sem.run_bind]
    split at h
    · rename_i heq; rw [heq]; exact hk _ _ h
    · exact h.elim
  have punit : ∀ (s:Sem Unit),pu P s w (k undef) → o.upon P a K Q ((do s; pure Next.skip : Sem Next).run P w) := by
    intro s h
    unfold pu px at h
    simp only [Sem.run_bind]
    split at h
    · rename_i heq; rw [heq]; exact hk _ _ h
    · exact h.elim
  unfold Oper.wp
  rw [he]
  unfold cp at h
  cases hop : o.op with
  | nilCheck x =>
    simp only [hop,opSem] at h
    rw [nil_run P w (ev ρ x) (ev ρ) o x hop rfl]
    exact pval _ h
  | move x => simp only [execOp,hop] at h ⊢; exact hk _ _ h
  | assign x => simp only [execOp,hop] at h ⊢; exact hk _ _ h
  | store t x y => simp only [execOp,hop] at h ⊢; exact punit _ h
  | mapUpdate t m x y => simp only [execOp,hop] at h ⊢; exact punit _ h
  | insert t m x y => simp only [execOp,hop] at h ⊢; exact punit _ h
  | entryStore t m x y => simp only [execOp,hop] at h ⊢; exact punit _ h
  | ready g => simp only [execOp,hop] at h ⊢; exact punit _ h
  | pick c x y =>
    simp only [execOp,hop] at h ⊢
    simp only [opSem,pickSem] at h
    have := pval _ h
    revert this
    cases ev ρ c <;> exact id
  | call c =>
    simp only [execOp,hop] at h ⊢
    obtain ⟨callee,args,argTypes⟩ := c
    simp only at h ⊢
    cases callee with
    | value f =>
      have key : ∀ fv,ev ρ f = fv → pVal P fv (args.toList.map (ev ρ)) w k → o.upon P a K Q ((do let d ← resolve (ev ρ) { callee := .value f,args := args,argTypes := argTypes } o.type; invoke d.target d.args).run P w) := by
        intro fv hf h
        simp only [resolve,hf]
        cases fv with
        | func fn first cap =>
          cases fn with
          | func g =>
            simp only [pVal,pFn] at h
            simp only [Deferred.ofValue,invoke,Sem.run_bind,Sem.run_pure,Result.andThen_ok]
            refine pcall _ ?_
            have : first ++ Array.map (ev ρ) args ++ cap = (first.toList ++ List.map (ev ρ) args.toList ++ cap.toList).toArray := by
              apply Array.ext'; simp
            rw [this]; exact h
          | method name =>
            simp only [pVal] at h
            simp only [Deferred.ofValue,invoke,Sem.run_bind,Sem.run_pure,Result.andThen_ok]
            have e1 : first ++ Array.map (ev ρ) args = (first.toList ++ List.map (ev ρ) args.toList).toArray := by
              apply Array.ext'; simp
            rw [e1]
            generalize first.toList ++ List.map (ev ρ) args.toList = l at *
            cases l with
            | nil => exact h.elim
            | cons r rest =>
              simp only [pInv] at h
              have e2 : (r :: rest).toArray.extract 1 (r :: rest).toArray.size = rest.toArray := by
                apply Array.ext'; simp
              simp only [e2]
              have e3 : (r :: rest).toArray[0]? = some r := rfl
              simp only [e3]
              exact pcall _ h
          | _ => exact h.elim
        | _ => exact h.elim
      cases f with
      | func g => exact key _ rfl (by
          simp only [cpCall] at h
          simp only [ev,pVal,List.append_nil]
          simpa using h)
      | tmp t => exact key _ rfl (by simpa only [cpCall] using h)
      | const v => exact key _ rfl (by simpa only [cpCall] using h)
      | global g => exact key _ rfl (by simpa only [cpCall] using h)
    | invoke r name =>
      simp only [cpCall,pInv] at h
      simp only [resolve,invoke,Sem.run_bind,Sem.run_pure,Result.andThen_ok]
      have e1 : #[ev ρ r] ++ Array.map (ev ρ) args = (ev ρ r :: args.toList.map (ev ρ)).toArray := by
        apply Array.ext'; simp
      rw [e1]
      have e2 : (ev ρ r :: args.toList.map (ev ρ)).toArray.extract 1 (ev ρ r :: args.toList.map (ev ρ)).toArray.size = (args.toList.map (ev ρ)).toArray := by
        apply Array.ext'; simp [List.take_of_length_le]
      have e3 : (ev ρ r :: args.toList.map (ev ρ)).toArray[0]? = some (ev ρ r) := rfl
      simp only [e3,e2]
      exact pcall _ h
    | builtin b =>
      simp only [cpCall] at h
      simp only [resolve,invoke,Sem.run_bind,Sem.run_pure,Result.andThen_ok]
      have e : (args.toList.map (ev ρ)).toArray = args.map (ev ρ) := by apply Array.ext'; simp
      rw [e] at h
      cases b <;> first
        | exact pval _ h
        | (simp only [bSem,px,stuck,Sem.run] at h)
  | go c => simp only [hop] at h
  | defer c => simp only [hop] at h
  | send c x => simp only [hop] at h
  | recv t c b => simp only [hop] at h
  | select c b => simp only [hop] at h
  | waits g => simp only [hop] at h
  | makeChan t x => simp only [hop] at h
  | build t parts => simp only [execOp,hop] at h ⊢; rw [arr_map]; exact pval _ h
  | buildSlice t len parts => simp only [execOp,hop] at h ⊢; rw [arr_map]; exact pval _ h
  | makeFunc fn first captured => simp only [execOp,hop] at h ⊢; rw [arr_map,arr_map (ev ρ) captured]; exact pval _ h
  | _ => simp only [execOp,hop] at h ⊢; exact pval _ h
theorem wfOps_at {ops:List Oper} (hw:wfOps n ops = true) {o:Oper} (ho:o ∈ ops) : ∀ x,o.dst = some x → x < n := by
 intro x hx
 have := List.all_eq_true.1 hw o ho
 rw [hx] at this
 simpa using this
theorem redOps_sound {ops:Array Oper} (hw:wfOps n ops.toList = true) {K:KE} {Q:Exit → Act → World → Prop} (hK:∀ ρ a w,Sim ds n ρ a → K ρ w → Q .normal a w) :
    ∀ (l:List Oper),(∀ o ∈ l,o ∈ ops.toList) → ∀ (ρ:Env) (a:Act) (w:World),Sim ds n ρ a → redOps P ops.toList K l ρ w → wpList P ops Q l a w := by
  intro l
  induction l with
  | nil => intro _ ρ a w hs h; exact hK _ _ _ hs h
  | cons o rest ih =>
    intro hmem ρ a w hs h
    have hd := wfOps_at hw (hmem o (by simp))
    have ih' := ih (fun o ho => hmem o (by simp [ho]))
    unfold wpList
    simp only [redOps] at h
    cases hg : o.guard with
    | none =>
      simp only [hg] at h
      rw [if_pos (by simp [Region.wanted,hg])]
      exact .inl (cp_sound hs (fun v w hk => ih' _ _ _ (hs.putO hd v) hk) h)
    | some g =>
      obtain ⟨j,want⟩ := g
      simp only [hg] at h
      have hy := hs.yielded ops hw j
      unfold pG at h
      split at h
      · rename_i b hb
        rw [hb] at hy
        cases hbw : (b == want) with
        | true =>
          simp only [hbw,cond_true] at h
          rw [if_pos (by simp only [Region.wanted,hg,hy]; simpa using hbw)]
          exact .inl (cp_sound hs (fun v w hk => ih' _ _ _ (hs.putO hd v) hk) h)
        | false =>
          simp only [hbw,cond_false] at h
          rw [if_neg (by simp only [Region.wanted,hg,hy]; simpa using hbw)]
          exact ih' _ _ _ (hs.putO hd _) h
      · rename_i hb
        have hn : yielded ops a.tmps j = none := by
          rw [hy]
          split
          · rename_i b hb'; exact absurd hb' (hb b)
          · rfl
        rw [if_neg (by simp [Region.wanted,hg,hn])]
        exact ih' _ _ _ (hs.putO hd _) h
theorem cq_yields {ops:Array Oper} {S:World → Prop} {o:Oper} {ρ:Env} {a:Act} (hs:Sim ds n ρ a) (hq:quietOp o.op = true) (hwant:Region.wanted o (yielded ops a.tmps) = true) {k:Value → Prop}
    (h:cq P S o.op o.type ρ k) : ∃ v,YieldsIf P ops S o v a ∧ k v := by
  have he := hs.eval
  have main : ∀ (s:Sem Value),(∀ w,(execOp a.eval o).run P w = (do pure (Next.value (← s)) : Sem Next).run P w ∨ ∀ v w',s.run P w ≠ .ok v w') → pq P S s k → ∃ v,YieldsIf P ops S o v a ∧ k v := by
    rintro s hrun ⟨v,hv,hk⟩
    refine ⟨v,.inl ⟨hwant,fun w hw => ?_⟩,hk⟩
    rcases hrun w with e | e
    · rw [e]; simp only [Sem.run_bind,hv w hw,Result.andThen_ok,Sem.run_pure]
    · exact absurd (hv w hw) (e _ _)
  unfold cq at h
  have keep := fun w => show (execOp a.eval o).run P w = (execOp a.eval o).run P w from rfl
  cases hop : o.op with
  | move x =>
    simp only [hop] at h
    exact ⟨_,.inl ⟨hwant,fun w _ => by simp only [execOp,hop,he,Sem.run_pure]⟩,h⟩
  | assign x =>
    simp only [hop] at h
    exact ⟨_,.inl ⟨hwant,fun w _ => by simp only [execOp,hop,he,Sem.run_pure]⟩,h⟩
  | pick c x y =>
    simp only [hop,qSem,opSem] at h
    refine main _ (fun w => .inl ?_) h
    simp only [execOp,hop,he,pickSem]
    cases ev ρ c <;> rfl
  | nilCheck x =>
    simp only [hop,qSem,opSem] at h
    refine main _ (fun w => .inl ?_) h
    rw [he]
    exact nil_run P w (ev ρ x) (ev ρ) o x hop rfl
  | call c =>
    obtain ⟨callee,args,argTypes⟩ := c
    cases callee with
    | builtin b =>
      simp only [hop,qSem] at h
      refine main _ (fun w => .inl ?_) h
      simp only [execOp,hop,he,resolve,invoke,Sem.run_bind,Sem.run_pure,Result.andThen_ok]
      have e : (args.toList.map (ev ρ)).toArray = args.map (ev ρ) := by apply Array.ext'; simp
      rw [e]
      simp only [quietOp,hop] at hq
      cases b <;> first | (simp only [builtin,bSem,Sem.run_bind,Sem.run_pure]; done) | (simp only [Bool.false_eq_true] at hq; done)
    | value f => simp only [quietOp,hop,Bool.false_eq_true] at hq
    | invoke r m => simp only [quietOp,hop,Bool.false_eq_true] at hq
  | _ => first
    | (simp only [quietOp,hop,Bool.false_eq_true] at hq; done)
    | (simp only [hop,qSem,opSem] at h
       refine main _ (fun w => .inl ?_) h
       simp only [execOp,hop,he,arr_map]
       try rfl)
section
variable {ops:Array Oper} {Q:Exit → Act → World → Prop} {S:World → Prop} {z:Nat}
def closedL (ops:Array Oper) (listed:Array Bool) : Prop := ∀ j oj,ops[j]? = some oj → listed.getD j false = true → ∀ e ∈ oj.after,Region.binds .any e = true → listed.getD e.on false = true
theorem closedL.step {listed:Array Bool} {j:Nat} (h:closedL ops listed) (hj:j ∈ Region.ready .any ops listed) : closedL ops (listed.setIfInBounds j true) := by
 intro k ok hk hl e he hb
 obtain ⟨_,oj,hoj,hall⟩ := mem_ready.1 hj
 by_cases hjk : j = k
 ·subst hjk
  rw [hoj] at hk; injection hk with hk; subst hk
  exact getD_set_true (hall e he hb)
 ·rw [getD_set_ne false hjk] at hl
  exact getD_set_true (h k ok hk hl e he hb)
theorem closedL.start (n:Nat) : closedL ops (Array.replicate n false) := by
 intro j oj _ hl
 rw [Array.getD_eq_getD_getElem?,Array.getElem?_replicate] at hl
 split at hl <;> simp at hl
theorem ready_unlisted {listed:Array Bool} {i:Nat} (h:i ∈ Region.ready .any ops listed) : listed.getD i false ≠ true := by
 have h0 := (mem_ready.1 h).1
 intro h1
 rcases Nat.lt_or_ge i listed.size with h' | h'
 ·simp [h'] at h0 h1; rw [h0] at h1; cases h1
 ·simp [Array.getElem?_eq_none h'] at h1
theorem last_last {listed:Array Bool} (hc:closedL ops listed) (hz:lastOk ops z = true) (hr:z ∈ Region.ready .any ops listed) : ∀ (n i:Nat),ops.size - i ≤ n → i < ops.size → i ≠ z → listed.getD i false = true := by
 intro n
 induction n with
 | zero => intro i h1 h2; omega
 | succ n ih =>
  intro i h1 h2 hne
  unfold lastOk at hz
  have := (List.all_eq_true.1 hz) i (List.mem_range.2 h2)
  rw [Bool.or_eq_true] at this
  rcases this with h | h
  ·exact absurd (Nat.eq_of_beq_eq_true h) hne
  ·obtain ⟨j,hj,h⟩ := List.any_eq_true.1 h
   rw [Bool.and_eq_true] at h
   have hij : i < j := by have := h.1; unfold Nat.blt at this; exact Nat.le_of_ble_eq_true this
   have hjs := List.mem_range.1 hj
   obtain ⟨q,hq,h'⟩ := Array.any_eq_true.1 h.2
   have he := Array.getElem_mem hq
   generalize (ops.getD j default).after[q] = e at *
   rw [Bool.and_eq_true] at h'
   have hon := Nat.eq_of_beq_eq_true h'.2
   have hoj : ops[j]? = some (ops.getD j default) := by simp [Array.getD,hjs]
   by_cases hjz : j = z
   ·obtain ⟨_,oz,hoz,hall⟩ := mem_ready.1 hr
    rw [← hjz,hoj] at hoz; injection hoz with hoz
    rw [← hon]; exact hall e (hoz ▸ he) h'.1
   ·have hl := ih j (by omega) hjs hjz
    rw [← hon]; exact hc j _ hoj hl e he h'.1
def anyZ (P:Program) (ops:Array Oper) (Q:Exit → Act → World → Prop) (S:World → Prop) (z:Nat) : Nat → Array Bool → Act → World → Prop
 | 0,listed,a,w => Region.ready .any ops listed = [] ∧ Q .normal a w
 | fuel + 1,listed,a,w =>
  (Region.ready .any ops listed = [] → Q .normal a w) ∧
  ∀ i ∈ Region.ready .any ops listed,wpOp P ops Q i (fun a' w' => (i ≠ z → S w') ∧ anyZ P ops Q S z fuel (listed.setIfInBounds i true) a' w') a w
theorem any_of_Z : ∀ (fuel:Nat) (listed:Array Bool) (a:Act) (w:World),anyZ P ops Q S z fuel listed a w → wpAny P .any ops Q fuel listed a w
 | 0,_,_,_,h => h
 | fuel + 1,_,_,_,h => ⟨h.1,fun i hi => wpOp_mono (fun a' w' h' => any_of_Z fuel _ a' w' h'.2) (h.2 i hi)⟩
theorem anyZ_done {listed:Array Bool} {a:Act} {w:World} (hr:Region.ready .any ops listed = []) (h:Q .normal a w) : ∀ fuel,anyZ P ops Q S z fuel listed a w
 | 0 => ⟨hr,h⟩
 | _ + 1 => ⟨fun _ => h,by rw [hr]; simp⟩
theorem anyZ_first (hz:lastOk ops z = true ∨ ops.size ≤ z) {i:Nat} {oi:Oper} {v:Value} (hi:ops[i]? = some oi) (hsel:∀ (j:Nat) (o:Oper) cs b,ops[j]? = some o → o.op ≠ .select cs b) (hQ:∀ c a w,¬ Q (.panic c) a w) :
    ∀ (fuel:Nat) (listed:Array Bool) (a:Act) (w:World),closedL ops listed →
      (∀ j oj,ops[j]? = some oj → j ≠ i → listed.getD j true = false → (∀ e ∈ oj.after,Region.binds .any e = true → e.on ≠ i) → oi.apart ops oj = true) →
      i ∈ Region.ready .any ops listed → YieldsIf P ops S oi v a → S w →
      anyZ P ops Q S z fuel (listed.setIfInBounds i true) (a.put oi.dst v) w → anyZ P ops Q S z (fuel + 1) listed a w := by
  intro fuel
  induction fuel with
  | zero =>
    intro listed a w _ _ hr hy hS H
    refine ⟨fun h => (by rw [h] at hr; cases hr),fun j hj => ?_⟩
    by_cases hji : j = i
    · subst hji; exact hy.wpOp hi hS ⟨fun _ => hS,H⟩
    · have h0 := ready_mono hj hji
      rw [H.1] at h0; cases h0
  | succ fuel ih =>
    intro listed a w hcl hfree hr hy hS H
    refine ⟨fun h => (by rw [h] at hr; cases hr),fun j hj => ?_⟩
    by_cases hji : j = i
    · subst hji; exact hy.wpOp hi hS ⟨fun _ => hS,H⟩
    · obtain ⟨hjun,oj,hoj,hall⟩ := mem_ready.1 hj
      have hisz : i < ops.size := (Array.getElem?_eq_some_iff.1 hi).1
      have hjsz : j < ops.size := (Array.getElem?_eq_some_iff.1 hoj).1
      have hjz : j ≠ z := by
        rintro rfl
        rcases hz with hz | hz
        · exact ready_unlisted hr (last_last hcl hz hj _ i (Nat.le_refl _) hisz (Ne.symm hji))
        · omega
      have hnot : ∀ e ∈ oj.after,Region.binds .any e = true → e.on ≠ i := fun e he hb heq => ready_unlisted hr (heq ▸ hall e he hb)
      have h2 := wpOp_putIf hoj (hfree j oj hoj hji hjun hnot) (fun cs b => hsel i oi cs b hi) (fun cs b => hsel j oj cs b hoj) (fun c a w h => absurd h (hQ _ _ _)) hy (H.2 j (ready_mono hj hji))
      have hi' : i ∈ Region.ready .any ops (listed.setIfInBounds j true) := ready_mono hr (Ne.symm hji)
      refine wpOp_mono (fun a' w' h3 => ?_) h2
      have hs := h3.2.1 hjz
      refine ⟨fun _ => hs,ih _ a' w' (hcl.step hj) ?_ hi' h3.1 hs (by rw [Array.setIfInBounds_comm _ _ hji]; exact h3.2.2)⟩
      intro k ok hk hki hun hno
      refine hfree k ok hk hki ?_ hno
      by_cases hjk : j = k
      · subst hjk; exact hjun
      · rw [getD_set_ne true hjk] at hun; exact hun
theorem anyZ_take (hz:lastOk ops z = true ∨ ops.size ≤ z) {i:Nat} {oi:Oper} {v:Value} {fuel:Nat} {listed:Array Bool} {a:Act} {w:World} (hcl:closedL ops listed) (hi:ops[i]? = some oi)
    (hs:Region.noSelect ops = true) (hf:Region.free .any ops listed i = true) (hr:(Region.ready .any ops listed).contains i = true) (hQ:∀ c a w,¬ Q (.panic c) a w) (hy:YieldsIf P ops S oi v a) (hS:S w)
    (h:anyZ P ops Q S z fuel (listed.setIfInBounds i true) (a.put oi.dst v) w) : anyZ P ops Q S z (fuel + 1) listed a w :=
  anyZ_first hz hi (Region.noSelect_spec hs) hQ fuel listed a w hcl (Region.free_spec hi hf) (by simpa using hr) hy hS h
theorem anyZ_one {i:Nat} {fuel:Nat} {listed:Array Bool} {a:Act} {w:World} (hr:Region.ready .any ops listed = [i])
    (h:wpOp P ops Q i (fun a' w' => (i ≠ z → S w') ∧ anyZ P ops Q S z fuel (listed.setIfInBounds i true) a' w') a w) : anyZ P ops Q S z (fuel + 1) listed a w :=
  ⟨fun h0 => by rw [hr] at h0; simp at h0,by rw [hr]; intro j hj; obtain rfl := List.mem_singleton.1 hj; exact h⟩
theorem sAnd_z {i z:Nat} {A p:Prop} (h:sAnd (i.beq z) A p) : (i ≠ z → A) ∧ p := by
 unfold sAnd at h
 cases hb : i.beq z with
 | true => rw [hb] at h; exact ⟨fun hne => absurd (Nat.eq_of_beq_eq_true hb) hne,h⟩
 | false => rw [hb] at h; exact ⟨fun _ => h.1,h.2⟩
theorem lastOf_ok (ops:Array Oper) (order:List Nat) : lastOk ops (lastOf ops order) = true ∨ ops.size ≤ lastOf ops order := by
 unfold lastOf
 split
 ·rename_i z _
  cases h : lastOk ops z with
  | true => simp only [cond_true]; exact .inl h
  | false => simp only [cond_false]; exact .inr (Nat.le_refl _)
 ·exact .inr (Nat.le_refl _)
end
theorem redDraw_sound {ops:Array Oper} (hw:wfOps n ops.toList = true) (hsel:Region.noSelect ops = true) {S:World → Prop} {z:Nat} (hz:lastOk ops z = true ∨ ops.size ≤ z) {K:KE} {Q:Exit → Act → World → Prop}
    (hK:∀ ρ a w,Sim ds n ρ a → K ρ w → Q .normal a w) (hQ:∀ c a w,¬ Q (.panic c) a w) :
    ∀ (fuel:Nat) (order:List Nat) (listed:Array Bool) (ρ:Env) (a:Act) (w:World),drawOk ops fuel listed order = true → closedL ops listed → Sim ds n ρ a → (order ≠ [] → S w) → redDraw P ops.toList S z K order ρ w →
      anyZ P ops Q S z fuel listed a w := by
  intro fuel
  induction fuel with
  | zero =>
    intro order listed ρ a w hok hcl hs hS h
    cases order with
    | nil =>
      simp only [drawOk,List.isEmpty_iff] at hok
      exact anyZ_done hok (hK _ _ _ hs h) _
    | cons i rest => simp only [drawOk,Bool.false_eq_true] at hok
  | succ fuel ih =>
    intro order listed ρ a w hok hcl hs hS h
    cases order with
    | nil =>
      simp only [drawOk,List.isEmpty_iff] at hok
      exact anyZ_done hok (hK _ _ _ hs h) _
    | cons i rest =>
      simp only [drawOk,Bool.and_eq_true] at hok
      obtain ⟨⟨hcont,hq⟩,hok⟩ := hok
      have hS' : S w := hS (by simp)
      simp only [redDraw,Array.getElem?_toList] at h
      cases ho : ops[i]? with
      | none => simp only [ho] at h
      | some o =>
        simp only [ho] at h
        have hmem : o ∈ ops.toList := by rw [Array.mem_toList_iff]; exact Array.mem_of_getElem? ho
        have hd := wfOps_at hw hmem
        have hgetD : ops.getD i default = o := by
          have hi : i < ops.size := by
            rcases Nat.lt_or_ge i ops.size with h | h
            · exact h
            · simp [Array.getElem?_eq_none h] at ho
          have : ops[i] = o := by simpa [Array.getElem?_eq_getElem hi] using ho
          simp [Array.getD,hi,this]
        rw [hgetD] at hq
        have quiet : quietOp o.op = true → (∃ v,YieldsIf P ops S o v a ∧ redDraw P ops.toList S z K rest (putO ρ o.dst v) w) → anyZ P ops Q S z (fuel + 1) listed a w := by
          rintro hqo ⟨v,hy,hr⟩
          rw [if_pos hqo] at hq
          exact anyZ_take hz hcl ho hsel hq hcont hQ hy hS' (ih _ _ _ _ _ hok (hcl.step (by simpa using hcont)) (hs.putO hd v) (fun _ => hS') hr)
        have loud : quietOp o.op = false → wpOp P ops Q i (fun a' w' => (i ≠ z → S w') ∧ anyZ P ops Q S z fuel (listed.setIfInBounds i true) a' w') a w → anyZ P ops Q S z (fuel + 1) listed a w := by
          intro hqo hop
          rw [if_neg (by simp [hqo])] at hq
          have hq' : Region.ready .any ops listed = [i] := by simpa using hq
          exact anyZ_one hq' hop
        have hcl' : closedL ops (listed.setIfInBounds i true) := hcl.step (by simpa using hcont)
        have hmore : ∀ {w':World},(i ≠ z → S w') → (rest ≠ [] → S w') := by
          intro w' h1 hne
          refine h1 ?_
          rintro rfl
          have hir : i ∈ Region.ready .any ops listed := by simpa using hcont
          rcases hz with hz | hz
          · cases hrest : rest with
            | nil => exact hne hrest
            | cons r rs =>
              rw [hrest] at hok
              cases fuel with
              | zero => simp only [drawOk,Bool.false_eq_true] at hok
              | succ fuel =>
                simp only [drawOk,Bool.and_eq_true] at hok
                have hr : r ∈ Region.ready .any ops (listed.setIfInBounds i true) := by simpa using hok.1.1
                have hrs : r < ops.size := by obtain ⟨_,o',ho',_⟩ := mem_ready.1 hr; exact (Array.getElem?_eq_some_iff.1 ho').1
                by_cases hri : r = i
                · have h0 := (mem_ready.1 hr).1
                  rw [hri] at h0
                  have hsz : i < listed.size ∨ listed.size ≤ i := Nat.lt_or_ge _ _
                  rcases hsz with h' | h'
                  · simp [h'] at h0
                  · simp [Array.getElem?_eq_none h'] at h0
                · exact ready_unlisted hr (getD_set_true (last_last hcl hz hir _ r (Nat.le_refl _) hrs hri))
          · have := (Array.getElem?_eq_some_iff.1 ho).1; omega
        cases hg : o.guard with
        | none =>
          have hwant : Region.wanted o (yielded ops a.tmps) = true := by simp [Region.wanted,hg]
          cases hqo : quietOp o.op with
          | true =>
            simp only [hqo,hg] at h
            exact quiet hqo (cq_yields hs hqo hwant h)
          | false =>
            simp only [hqo,hg] at h
            refine loud hqo ?_
            unfold wpOp
            simp only [ho]
            rw [if_pos hwant]
            exact .inl (cp_sound hs (fun v w hk => ⟨(sAnd_z hk).1,ih _ _ _ _ _ hok hcl' (hs.putO hd v) (hmore (sAnd_z hk).1) (sAnd_z hk).2⟩) h)
        | some g =>
          obtain ⟨j,want⟩ := g
          have hy := hs.yielded ops hw j
          cases hqo : quietOp o.op with
          | true =>
            simp only [hqo,hg] at h
            refine quiet hqo ?_
            unfold pGq at h
            split at h
            · rename_i b hb
              rw [hb] at hy
              cases hbw : (b == want) with
              | true =>
                simp only [hbw,cond_true] at h
                exact cq_yields hs hqo (by simp only [Region.wanted,hg,hy]; simpa using hbw) h
              | false =>
                simp only [hbw,cond_false] at h
                exact ⟨_,.inr ⟨by simp only [Region.wanted,hg,hy]; simpa using hbw,rfl⟩,h⟩
            · rename_i hb
              have hn : yielded ops a.tmps j = none := by
                rw [hy]
                split
                · rename_i b hb'; exact absurd hb' (hb b)
                · rfl
              exact ⟨_,.inr ⟨by simp [Region.wanted,hg,hn],rfl⟩,h⟩
          | false =>
            simp only [hqo,hg] at h
            refine loud hqo ?_
            unfold wpOp
            simp only [ho]
            unfold pG at h
            split at h
            · rename_i b hb
              rw [hb] at hy
              cases hbw : (b == want) with
              | true =>
                simp only [hbw,cond_true] at h
                rw [if_pos (by simp only [Region.wanted,hg,hy]; simpa using hbw)]
                exact .inl (cp_sound hs (fun v w hk => ⟨(sAnd_z hk).1,ih _ _ _ _ _ hok hcl' (hs.putO hd v) (hmore (sAnd_z hk).1) (sAnd_z hk).2⟩) h)
              | false =>
                simp only [hbw,cond_false] at h
                rw [if_neg (by simp only [Region.wanted,hg,hy]; simpa using hbw)]
                exact ⟨(sAnd_z h).1,ih _ _ _ _ _ hok hcl' (hs.putO hd _) (hmore (sAnd_z h).1) (sAnd_z h).2⟩
            · rename_i hb
              have hn : yielded ops a.tmps j = none := by
                rw [hy]
                split
                · rename_i b hb'; exact absurd hb' (hb b)
                · rfl
              rw [if_neg (by simp [Region.wanted,hg,hn])]
              exact ⟨(sAnd_z h).1,ih _ _ _ _ _ hok hcl' (hs.putO hd _) (hmore (sAnd_z h).1) (sAnd_z h).2⟩
theorem red_sound (hm:P.follows .mixedOrders = true) : ∀ (c:Code),Code.fits n c = true → ∀ (Q:Xt → KE) (ρ:Env) (a:Act) (w:World),Sim ds n ρ a → red P n c Q ρ w → c.wp P (lift ds n Q) a w := by
 intro c
 induction c with
 | skip => intro _ Q ρ a w hs h; exact wp_skip ⟨ρ,hs,h⟩
 | region id ops draw =>
  intro hf Q ρ a w hs h
  replace h : bif draw then ∃ S : World → Prop,S w.drew ∧ redDraw P ops.toList S (lastOf ops (drawOrder ops ops.size (Array.replicate ops.size false))) (Q .normal) (drawOrder ops ops.size (Array.replicate ops.size false)) ρ w.drew else redOps P ops.toList (Q .normal) ops.toList ρ w := h
  simp only [Code.fits,Bool.and_eq_true] at hf
  cases draw with
  | false =>
   simp only [cond_false] at h
   exact wp_region_list (redOps_sound hf.1 (Q := lift ds n Q) (fun ρ a w hs h => ⟨ρ,hs,h⟩) _ (fun o ho => ho) _ _ _ hs h)
  | true =>
   simp only [cond_true] at h
   obtain ⟨S,hS,h⟩ := h
   have hf2 := hf.2
   simp only [Bool.not_true,Bool.false_or,Bool.and_eq_true] at hf2
   exact wp_region_any hm (any_of_Z _ _ _ _ (redDraw_sound hf.1 hf2.1 (lastOf_ok _ _) (Q := lift ds n Q) (fun ρ a w hs h => ⟨ρ,hs,h⟩) (fun c a w h => h) _ _ _ _ _ _ hf2.2 (closedL.start _) hs (fun _ => hS) h))
 | seq x y ihx ihy =>
  intro hf Q ρ a w hs h
  simp only [Code.fits,Bool.and_eq_true] at hf
  replace h : red P n x (thenE (red P n y Q) Q) ρ w := h
  refine wp_seq (wp_mono (ihx hf.1 _ _ _ _ hs h) ?_)
  intro e a w hq
  cases e with
  | normal => obtain ⟨ρ,hs,hq⟩ := hq; exact ihy hf.2 _ _ _ _ hs hq
  | exit i => exact hq
  | goto l => exact hq
  | ret => exact hq
  | panic c => exact hq
  | outgrown => exact hq
 | cond c x y ihx ihy =>
  intro hf Q ρ a w hs h
  simp only [Code.fits,Bool.and_eq_true] at hf
  replace h : pC (ev ρ c) (red P n x Q ρ w) (red P n y Q ρ w) := h
  simp only [pC] at h
  split at h
  ·rename_i b hb
   refine wp_cond (t := b) (by rw [hs.eval]; exact hb) ?_
   cases b with
   | true => exact ihx hf.1 _ _ _ _ hs h
   | false => exact ihy hf.2 _ _ _ _ hs h
  ·exact h.elim
 | block id c ih =>
  intro hf Q ρ a w hs h
  simp only [Code.fits] at hf
  replace h : red P n c (inBlockE id Q) ρ w := h
  refine wp_block (wp_mono (ih hf _ _ _ _ hs h) ?_)
  intro e a w hq
  cases e with
  | normal => exact hq
  | exit i =>
   obtain ⟨ρ,hs,hq⟩ := hq
   simp only [inBlockE] at hq
   by_cases hi : i = id
   ·subst hi
    simp only [Exit.inBlock,if_true]
    simp only [Nat.beq_refl,cond_true] at hq
    exact ⟨ρ,hs,hq⟩
   ·simp only [Exit.inBlock,hi,if_false]
    have hb : i.beq id = false := by
     cases hb : i.beq id with
     | false => rfl
     | true => exact absurd (Nat.eq_of_beq_eq_true hb) hi
    rw [hb] at hq
    exact ⟨ρ,hs,hq⟩
  | goto l => exact hq
  | ret => exact hq
  | panic c => exact hq
  | outgrown => exact hq
 | loop c ih => intro _ Q ρ a w hs h; exact h _ a hs
 | scope c ih =>
  intro hf Q ρ a w hs h
  simp only [Code.fits] at hf
  replace h : red P n c (noGotoE Q) ρ w := h
  refine wp_scope_straight (wp_mono (ih hf _ _ _ _ hs h) ?_)
  intro e a w hq
  cases e with
  | normal => exact hq
  | exit i => exact hq
  | goto l => obtain ⟨ρ,_,hq⟩ := hq; exact hq.elim
  | ret => exact hq
  | panic c => exact hq
  | outgrown => exact hq
 | rangeFunc f ps x y ihx ihy => intro _ Q ρ a w hs h; exact h.elim
 | exit id => intro _ Q ρ a w hs h; exact wp_exit ⟨ρ,hs,h⟩
 | label l => intro _ Q ρ a w hs h; exact wp_label ⟨ρ,hs,h⟩
 | goto l => intro _ Q ρ a w hs h; exact wp_goto ⟨ρ,hs,h⟩
 | ret => intro _ Q ρ a w hs h; exact wp_ret ⟨ρ,hs,h⟩
 | refuse why => intro _ Q ρ a w hs h; exact h.elim
theorem wp_loop_rel {c:Code} {Q:Exit → Act → World → Prop} (R:Nat → Act → World → Prop)
    (round:∀ n a w,R n a w → c.wp P (Exit.then (fun a' w' => ∃ m,m < n ∧ R m a' w') Q) a w) : ∀ n a w,R n a w → (Code.loop c).wp P Q a w := by
  intro n₀ a₀ w₀ h₀ b k cs
  have key : ∀ n a w,R n a w → ∃ e a' w',Q e a' w' ∧ Arrives P (lone (b.at a (.code c :: .inLoop c :: k)) cs w) b k cs e a' w' := by
    intro n
    induction n using Nat.strongRecOn with
    | _ n ih =>
      intro a w hI
      obtain ⟨e,a₁,w₁,hq,harr⟩ := round n a w hI b (.inLoop c :: k) cs
      cases e with
      | normal =>
        obtain ⟨m,hlt,hI₁⟩ := hq
        obtain ⟨e₂,a₂,w₂,hq₂,harr₂⟩ := ih m hlt a₁ w₁ hI₁
        exact ⟨e₂,a₂,w₂,hq₂,.of_steps (Steps.trans harr (.one step_inLoop)) harr₂⟩
      | exit id => exact ⟨_,a₁,w₁,hq,.pass (x := .inLoop c) rfl (fun _ _ => .inl (by simp)) harr⟩
      | goto l => exact ⟨_,a₁,w₁,hq,.pass (x := .inLoop c) rfl (fun _ _ => .inl (by simp)) harr⟩
      | ret => exact ⟨_,a₁,w₁,hq,.pass (x := .inLoop c) rfl (fun _ _ => .inl (by simp)) harr⟩
      | panic ch => exact ⟨_,a₁,w₁,hq,.pass (x := .inLoop c) rfl (fun _ _ => .inl (by simp)) harr⟩
      | outgrown => exact ⟨_,a₁,w₁,hq,.pass (x := .inLoop c) rfl (fun _ _ => .inl (by simp)) harr⟩
  obtain ⟨e,a',w',hq,harr⟩ := key _ _ _ h₀
  exact ⟨e,a',w',hq,.of_steps (.one step_loop) harr⟩
theorem pRaw_loop (hm:P.follows .mixedOrders = true) {c:Code} (hf:Code.fits n c = true) {Q:Xt → KE} (I:Nat → KE)
    (round:∀ m ρ w,I m ρ w → red P n c (thenE (fun ρ' w' => ∃ m',m' < m ∧ I m' ρ' w') Q) ρ w) {m:Nat} {ρ:Env} {w:World} (h:I m ρ w) : pRaw P n (.loop c) Q ρ w := by
  intro ds a hs
  refine wp_loop_rel (fun m a w => ∃ ρ,Sim ds n ρ a ∧ I m ρ w) ?_ m a w ⟨ρ,hs,h⟩
  rintro m a w ⟨ρ,hs,hI⟩
  refine wp_mono (red_sound hm c hf _ _ _ _ hs (round m ρ w hI)) ?_
  intro e a w hq
  cases e with
  | normal => obtain ⟨ρ,hs,m',hlt,hI⟩ := hq; exact ⟨m',hlt,ρ,hs,hI⟩
  | exit i => exact hq
  | goto l => exact hq
  | ret => exact hq
  | panic c => exact hq
  | outgrown => exact hq
theorem LoopAt_inv (hm:P.follows .mixedOrders = true) {B:Code} {Q:Xt → KE} {p:List Nat} (hf:Code.fits n (sub B (p ++ [0])) = true) (hl:sub B p = .loop (sub B (p ++ [0])))
    (I:Nat → KE) (round:∀ m ρ w,I m ρ w → At P n (sub B (p ++ [0])) (thenE (fun ρ' w' => ∃ m',m' < m ∧ I m' ρ' w') (contAt P n B Q p)) [] ρ w)
    {m:Nat} {ρ:Env} {w:World} (h:I m ρ w) : LoopAt P n B Q p ρ w := by
  unfold LoopAt
  rw [hl]
  refine pRaw_loop hm hf I (fun m ρ w hI => ?_) h
  have := round m ρ w hI
  unfold At Pt at this
  have e1 : sub (sub B (p ++ [0])) [] = sub B (p ++ [0]) := by generalize sub B (p ++ [0]) = c; cases c <;> rfl
  have e2 : ∀ Q',contAt P n (sub B (p ++ [0])) Q' [] = Q' := by intro Q'; generalize sub B (p ++ [0]) = c; cases c <;> rfl
  rw [e1,e2] at this
  exact this
def retV (rs:List ResultVar) (ρ:Env) (w:World) (k:KV) : Prop :=
 match rs with
 | [.tmp t] => k (ρ t) w
 | [.tmp t,.tmp u] => k (.tuple #[ρ t,ρ u]) w
 | [.tmp t,.tmp u,.tmp v] => k (.tuple #[ρ t,ρ u,ρ v]) w
 | [.cell a t] => px P (do loadVar t (← asAddr (ρ a))) w k
 | [] => k (.tuple #[]) w
 | _ => False
def retQ (P:Program) (rs:List ResultVar) (k:KV) : Xt → KE
 | .normal,ρ,w => retV (P := P) rs ρ w k
 | .ret,ρ,w => retV (P := P) rs ρ w k
 | _,_,_ => False
theorem Calls_of_red (hm:P.follows .mixedOrders = true) {f:FuncId} {fn:Func} {c:Code} (hf:P.funcs[f]? = some fn) (hb:fn.body = some c) (hfit:Code.fits fn.ntmps c = true)
    (hrs:fn.results.all (fun r => match r with | .tmp _ => true | _ => false) = true) {args:List Value} (hn:args.length ≤ fn.ntmps) {w:World} {k:KV}
    (h:red P fn.ntmps c (retQ P fn.results.toList k) (argEnv args) w) : Calls P f args.toArray w fun e w' => ∃ v,e = .returned v ∧ k v w' := by
  have hsim : Sim [] fn.ntmps (argEnv args) { tmps := args.toArray ++ Array.replicate (fn.ntmps - args.toArray.size) undef,defers := [] } := by
    refine ⟨rfl,by simp; omega,fun t => ?_⟩
    simp only [argEnv]
    rcases Nat.lt_or_ge t args.length with h | h
    · simp [Array.getElem?_append,h,List.getD_eq_getElem?_getD]
    · have e : args.getD t undef = undef := by simp [List.getD_eq_getElem?_getD,List.getElem?_eq_none h]
      rw [e]
      rcases Nat.lt_or_ge (t - args.length) (fn.ntmps - args.length) with h2 | h2
      · simp [Array.getElem?_append,Nat.not_lt.2 h,Array.getElem?_replicate,h2]
      · simp [Array.getElem?_append,Nat.not_lt.2 h,Array.getElem?_replicate,Nat.not_lt.2 h2]
  refine calls_of_wp hf hb (wp_mono (red_sound hm c hfit _ _ _ _ hsim h) ?_)
  have done : ∀ (a:Act) (w:World) (ρ:Env),Sim [] fn.ntmps ρ a → retV (P := P) fn.results.toList ρ w k → a.defers = [] ∧ ∃ v,(results fn a.tmps).run P w = .ok v w ∧ ∃ u,Ending.returned v = .returned u ∧ k u w := by
    intro a w ρ hs hr
    refine ⟨hs.1,?_⟩
    obtain ⟨rs,hrl⟩ : ∃ rs,fn.results = rs.toArray := ⟨fn.results.toList,by simp⟩
    unfold retV at hr
    have hsd : ∀ t,a.tmps.getD t undef = ρ t := hs.2.2
    split at hr
    · rename_i t ht
      refine ⟨ρ t,?_,_,rfl,hr⟩
      have : fn.results = #[.tmp t] := by apply Array.ext'; simpa using ht
      simp only [results,this]; rw [← hsd]; simp
    · rename_i t u ht
      refine ⟨_,?_,_,rfl,hr⟩
      have : fn.results = #[.tmp t,.tmp u] := by apply Array.ext'; simpa using ht
      simp only [results,this]; rw [← hsd,← hsd]; simp
    · rename_i t u v ht
      refine ⟨_,?_,_,rfl,hr⟩
      have : fn.results = #[.tmp t,.tmp u,.tmp v] := by apply Array.ext'; simpa using ht
      simp only [results,this]; rw [← hsd,← hsd,← hsd]; simp
    · rename_i t u ht
      have : fn.results = #[.cell t u] := by apply Array.ext'; simpa using ht
      rw [this] at hrs; simp at hrs
    · rename_i ht
      refine ⟨_,?_,_,rfl,hr⟩
      have : fn.results = #[] := by apply Array.ext'; simpa using ht
      simp only [results,this]; simp
    · exact hr.elim
  intro e a w hq
  cases e with
  | normal => obtain ⟨ρ,hs,hr⟩ := hq; exact done a w ρ hs hr
  | ret => obtain ⟨ρ,hs,hr⟩ := hq; exact done a w ρ hs hr
  | exit i => obtain ⟨ρ,hs,hr⟩ := hq; exact hr.elim
  | goto l => obtain ⟨ρ,hs,hr⟩ := hq; exact hr.elim
  | panic c => exact hq.elim
  | outgrown => exact hq.elim
theorem pFn_of_calls {f : FuncId} {fn : Func} (hf : P.funcs[f]? = some fn) (hname : (fn.name == "runtime.NumGoroutine") = false) (hbody : fn.body.isNone = false) {args : List Value} {w : World} {k : KV}
    (h:Calls P f args.toArray w fun e w' => ∃ v,e = .returned v ∧ k v w') : pFn P f args w k := by
  unfold pFn callFunc
  simp only [Sem.run_bind,program,Sem.run,Result.andThen,hf,hname,hbody,Bool.false_eq_true,if_false,pN]
  exact h
theorem pFn_of_at (hm : P.follows .mixedOrders = true) {f : FuncId} {fn : Func} (hf : P.funcs[f]? = some fn) (hname : (fn.name == "runtime.NumGoroutine") = false) (hb : fn.body = some (bodyOf fn)) {n : Nat} (hn : fn.ntmps = n) (hfit : Code.fits n (bodyOf fn) = true)
    (hrs:fn.results.all (fun r => match r with | .tmp _ => true | _ => false) = true) {args:List Value} (hlen:args.length ≤ n) {w:World} {k:KV}
    (h:At P n (bodyOf fn) (retQ P fn.results.toList k) [] (argEnv args) w) : pFn P f args w k := by
  subst hn
  refine pFn_of_calls hf hname (by rw [hb]; rfl) (Calls_of_red hm hf hb hfit hrs hlen ?_)
  unfold At Pt at h
  have e1 : sub (bodyOf fn) [] = bodyOf fn := by generalize bodyOf fn = c; cases c <;> rfl
  have e2 : ∀ Q',contAt P fn.ntmps (bodyOf fn) Q' [] = Q' := by intro Q'; generalize bodyOf fn = c; cases c <;> rfl
  rw [e1,e2] at h
  exact h
theorem calls_of_pFn {f : FuncId} {fn : Func} (hf : P.funcs[f]? = some fn) (hname : (fn.name == "runtime.NumGoroutine") = false) (hbody : fn.body.isNone = false) {args : List Value} {w : World} {k : KV}
    (h:pFn P f args w k) : Calls P f args.toArray w fun e w' => ∃ v,e = .returned v ∧ k v w' := by
  unfold pFn callFunc at h
  simp only [Sem.run_bind,program,Sem.run,Result.andThen,hf,hname,hbody,Bool.false_eq_true,if_false,pN] at h
  exact h
end
end Go.Proofs.XRed
