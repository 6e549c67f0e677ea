/- Put together by a program (wip/tools/shake.py): Err2,XOk,XLoad,XElem,XOwn,XFront,XStep,XRefuse,XSafe,XRef. -/
import Derived.Test.YteeeggphkhimcaaGreatDoorE6
import Derived.Test.YteeeggphkhimcaaGreatDoorE3
import Derived.Test.YteeeggphkhimcaaGreatDoorE2
set_option linter.unusedVariables false
set_option linter.unusedSimpArgs false
set_option maxRecDepth 100000
namespace Go.Proofs.YteeeggphkhimcaaGreatDoor
open Go Go.Proofs Go.RowKit Go.Proofs.XRed Go.Proofs.XHeap Go.Proofs.XMaps Go.Proofs.XSlices Go.Proofs.XDisk Go.Proofs.XCalls Tryz
def tpOf (f:Bool) : TypeId := bif f then 75 else 166
def teOf (f:Bool) : TypeId := bif f then 73 else 25
def EV.ty : EV → TypeId
 | .no _ => 25
 | .own => 161
 | .fault _ _ => 73
def EV.pay : EV → Value
 | .no n => i64 n
 | .own => .agg #[]
 | .fault b _ => ptr b
theorem EV.val_eq (e:EV) : e.val = .iface e.ty e.pay := by cases e <;> rfl
def EV.fits (f:Bool) : EV → Bool
 | .no _ => !f
 | .own => false
 | .fault _ _ => f
def EV.first (f:Bool) : EV → Option Value
 | .no n => if f then none else some (i64 n)
 | .own => none
 | .fault b e => if f then some (ptr b) else e.first f
def rv (t:TypeId) (a:Addr) (fl:Int) : Value := .agg #[.pointer (some ⟨4,t,none⟩),.pointer (some a),.int .u64 fl]
def ErrT (w:World) : Prop := w.cell? ⟨0,0,none⟩ = some (.iface 273 (rt 31))
theorem ErrT.fr {O:Nat → Prop} {w w':World} (h:ErrT w) (hf:Fr O w w') (hn:¬ O 0) : ErrT w' := by
 unfold ErrT World.cell? at *
 have hlt : 0 < w.heap.size := by
  rcases Nat.lt_or_ge 0 w.heap.size with h' | h'
  ·exact h'
  ·rw [Array.getElem?_eq_none h'] at h; simp at h
 rw [hf.block _ hlt hn]; exact h
section
variable {w:World} {k:KV}
theorem valueOf_tp (f:Bool) (t:Addr) (w:World) : (Extern.ReflectliteValue.unpack (.iface (tpOf f) (.pointer (some t)))).run P w = .ok (rv (tpOf f) ⟨w.heap.size,0,none⟩ 150) (w.alloc (.cells #[.pointer (some t)] (tpOf f))) := by cases f <;> kernel_rfl
theorem valueOf_f (b:Nat) (w:World) : (Extern.ReflectliteValue.unpack (.iface 73 (ptr b))).run P w = .ok (rv 73 ⟨w.heap.size,0,none⟩ 150) (w.alloc (.cells #[ptr b] 73)) := by kernel_rfl
theorem valueOf_n (n:Int) (w:World) : (Extern.ReflectliteValue.unpack (.iface 25 (i64 n))).run P w = .ok (rv 25 ⟨w.heap.size,0,none⟩ 130) (w.alloc (.cells #[i64 n] 25)) := by kernel_rfl
def flIn (f:Bool) : Int := bif f then 150 else 130
def flAd (f:Bool) : Int := bif f then 406 else 386
theorem type_tp (f : Bool) (a : Addr) (w : World) : (Extern.ReflectliteValue.methodAny (Extern.ReflectliteValue.valueError "reflectlite.Value.Type" 0) (fun t _ _ _ => Extern.ReflectliteType.toType t) #[rv (tpOf f) a 150]).run P w = .ok (.iface 273 (rt (tpOf f))) w := by cases f <;> kernel_rfl
theorem mKind (t : TypeId) (w : World) : (method (P.types.size + Made.depth) 273 (rt t) "Kind").run P w = .ok (262, .pointer (some ⟨4, t, none⟩)) w := by kernel_rfl
theorem mElem (v : Value) (w : World) : (method (P.types.size + Made.depth) 273 v "Elem").run P w = .ok (286, v) w := by kernel_rfl
theorem mImplements (v : Value) (w : World) : (method (P.types.size + Made.depth) 273 v "Implements").run P w = .ok (287, v) w := by kernel_rfl
theorem mAssignable (v : Value) (w : World) : (method (P.types.size + Made.depth) 273 v "AssignableTo").run P w = .ok (284, v) w := by kernel_rfl
theorem kind_tp (f:Bool) (w:World) : ((Extern.ReflectliteType.abiMethod fun t => do pure (.int .u8 (← Extern.Rtype.kind t))) #[.pointer (some ⟨4,tpOf f,none⟩)]).run P w = .ok (.int .u8 22) w := by cases f <;> kernel_rfl
theorem kind_te (f:Bool) (w:World) : ((Extern.ReflectliteType.abiMethod fun t => do pure (.int .u8 (← Extern.Rtype.kind t))) #[.pointer (some ⟨4,teOf f,none⟩)]).run P w = .ok (.int .u8 (bif f then 22 else 2)) w := by cases f <;> kernel_rfl
theorem elem_tp (f:Bool) (w:World) : (Extern.ReflectliteType.method Extern.ReflectliteType.elem #[rt (tpOf f)]).run P w = .ok (.iface 273 (rt (teOf f))) w := by cases f <;> kernel_rfl
theorem implements_te (f : Bool) (w : World) : (Extern.ReflectliteType.relation "Implements" Extern.ReflectliteType.implements_ #[rt (teOf f), .iface 273 (rt 31)]).run P w = .ok (.bool true) w := by cases f <;> kernel_rfl
theorem assign_te (f : Bool) (E : EV) (w : World) : (Extern.ReflectliteType.relation "AssignableTo" Extern.ReflectliteType.assignableTo #[rt E.ty, .iface 273 (rt (teOf f))]).run P w = .ok (.bool (E.fits f)) w := by cases f <;> cases E <;> kernel_rfl
theorem parts_tp (f:Bool) (a:Addr) (w:World) : (Extern.ReflectliteValue.parts (rv (tpOf f) a 150)).run P w = .ok (some (tpOf f,a,150)) w := by cases f <;> kernel_rfl
theorem parts_ad (f:Bool) (a:Addr) (w:World) : (Extern.ReflectliteValue.parts (rv (teOf f) a (flAd f))).run P w = .ok (some (teOf f,a,(flAd f).toNat)) w := by cases f <;> kernel_rfl
theorem parts_in (f:Bool) (a:Addr) (w:World) : (Extern.ReflectliteValue.parts (rv (teOf f) a (flIn f))).run P w = .ok (some (teOf f,a,(flIn f).toNat)) w := by cases f <;> kernel_rfl
theorem elemOf_tp (f:Bool) (w:World) : (Extern.Rtype.elem? (tpOf f)).run P w = .ok (some (teOf f)) w := by cases f <;> kernel_rfl
theorem mk_te (f:Bool) (p:Addr) (w:World) : (Extern.ReflectliteValue.mk (teOf f) p Extern.ReflectliteValue.flagAddr).run P w = .ok (rv (teOf f) p (flAd f)) w := by cases f <;> kernel_rfl
theorem direct_te (f:Bool) (w:World) : (Extern.Rtype.directlyAssignable (teOf f) (teOf f)).run P w = .ok true w := by cases f <;> kernel_rfl
theorem size_te (f:Bool) (w:World) : (sizeOf (teOf f)).run P w = .ok 1 w := by cases f <;> kernel_rfl
theorem agg_te (f:Bool) (w:World) : (isAgg (teOf f)).run P w = .ok false w := by cases f <;> kernel_rfl
theorem agg_tp (f:Bool) (w:World) : (isAgg (tpOf f)).run P w = .ok false w := by cases f <;> kernel_rfl
theorem und_tp (f:Bool) (w:World) : (underlying (tpOf f)).run P w = .ok (.pointer (teOf f)) w := by cases f <;> kernel_rfl
theorem rlm (z:Sem Value) (f:TypeId → Addr → Nat → Nat → Sem Value) (v:Value) :
    Extern.ReflectliteValue.method z f #[v] = (do match ← Extern.ReflectliteValue.parts v with | none => z | some (t,a,fl) => f t a fl (fl % 32)) := rfl
theorem rls (v x:Value) : Extern.ReflectliteValue.set #[v,x] = (do
    let (some (dst,a,fl),some (src,b,_)) := (← Extern.ReflectliteValue.parts v,← Extern.ReflectliteValue.parts x)
      | unsupported (.noEntry "extern/(internal/reflectlite.Value).Set.zeroValue")
    if fl / Extern.ReflectliteValue.flagAddr % 2 == 0 then unsupported (.noEntry "extern/(internal/reflectlite.Value).Set.unaddressable")
    let val ← loadVar src b
    if ← Extern.Rtype.directlyAssignable dst src then storeVar dst a val
    else if ← Extern.Rtype.implements dst src then
      if (← Extern.Rtype.kind src) == 20 then
        match val with
        | .nilIface => unsupported (.noEntry "extern/reflectlite: a nil value of one interface type handed on as a value of another")
        | _ => storeVar dst a val
      else storeVar dst a (.iface src val)
    else panicString ("reflectlite.Set: value of type " ++ (← Extern.Rtype.spelt src) ++ " is not assignable to type " ++ (← Extern.Rtype.spelt dst))
    pure (.tuple #[])) := rfl
theorem c_kind {t : TypeId} {n : Int} (h : ∀ w, ((Extern.ReflectliteType.abiMethod fun t => do pure (.int .u8 (← Extern.Rtype.kind t))) #[.pointer (some ⟨4, t, none⟩)]).run P w = .ok (.int .u8 n) w) (hk : k (.int .u8 n) w) : pInv P (.iface 273 (rt t)) "Kind" [] w k := by
 refine s_invM (mKind t) ?_
 refine pFn_extern func262 (by kernel_rfl) (by kernel_rfl) (by kernel_rfl) (e := Extern.ReflectliteType.abiMethod fun t => do pure (.int .u8 (← Extern.Rtype.kind t))) (by kernel_rfl) ?_
 exact px_ok (h w) hk
theorem c_valueOf {v x:Value} {w':World} (h:(Extern.ReflectliteValue.unpack v).run P w = .ok x w') (hk:k x w') : pFn P 142 [v] w k := by
 refine pFn_extern func142 (by kernel_rfl) (by kernel_rfl) (by kernel_rfl) (e := fun args => Extern.ReflectliteValue.unpack (args.getD 0 (.tuple #[]))) (by kernel_rfl) ?_
 exact px_ok h hk
theorem c_type (f:Bool) {a:Addr} (hk:k (.iface 273 (rt (tpOf f))) w) : pFn P 143 [rv (tpOf f) a 150] w k := by
 refine pFn_extern func143 (by kernel_rfl) (by kernel_rfl) (by kernel_rfl) (e := Extern.ReflectliteValue.methodAny (Extern.ReflectliteValue.valueError "reflectlite.Value.Type" 0) (fun t _ _ _ => Extern.ReflectliteType.toType t)) (by kernel_rfl) ?_
 exact px_ok (type_tp f a w) hk
theorem c_isNil (f:Bool) {a p:Addr} (ha:w.cell? a = some (.pointer (some p))) (hk:k (.bool false) w) : pFn P 144 [rv (tpOf f) a 150] w k := by
 refine pFn_extern func144 (by kernel_rfl) (by kernel_rfl) (by kernel_rfl) (e := Extern.ReflectliteValue.method (Extern.ReflectliteValue.valueError "reflectlite.Value.IsNil" 0) Extern.ReflectliteValue.isNil) (by kernel_rfl) ?_
 refine px_ok (w' := w) (v := .bool false) ?_ hk
 show (Extern.ReflectliteValue.method _ _ #[rv (tpOf f) a 150]).run P w = _
 rw [rlm]
 simp only [Sem.run_bind,parts_tp,Result.andThen]
 simp [Extern.ReflectliteValue.isNil,loadVar,agg_tp f,ha,Result.andThen,und_tp f]
theorem c_rElem (f : Bool) (hk : k (.iface 273 (rt (teOf f))) w) : pInv P (.iface 273 (rt (tpOf f))) "Elem" [] w k := by
 refine s_invM (mElem _) ?_
 refine pFn_extern func286 (by kernel_rfl) (by kernel_rfl) (by kernel_rfl) (e := Extern.ReflectliteType.method Extern.ReflectliteType.elem) (by kernel_rfl) ?_
 exact px_ok (elem_tp f w) hk
theorem c_implements (f : Bool) (hk : k (.bool true) w) : pInv P (.iface 273 (rt (teOf f))) "Implements" [.iface 273 (rt 31)] w k := by
 refine s_invM (mImplements _) ?_
 refine pFn_extern func287 (by kernel_rfl) (by kernel_rfl) (by kernel_rfl) (e := Extern.ReflectliteType.relation "Implements" Extern.ReflectliteType.implements_) (by kernel_rfl) ?_
 exact px_ok (implements_te f w) hk
theorem c_assignable (f : Bool) (E : EV) (hk : k (.bool (E.fits f)) w) : pInv P (.iface 273 (rt E.ty)) "AssignableTo" [.iface 273 (rt (teOf f))] w k := by
 refine s_invM (mAssignable _) ?_
 refine pFn_extern func284 (by kernel_rfl) (by kernel_rfl) (by kernel_rfl) (e := Extern.ReflectliteType.relation "AssignableTo" Extern.ReflectliteType.assignableTo) (by kernel_rfl) ?_
 exact px_ok (assign_te f E w) hk
theorem c_vElem (f:Bool) {a p:Addr} (ha:w.cell? a = some (.pointer (some p))) (hk:k (rv (teOf f) p (flAd f)) w) : pFn P 182 [rv (tpOf f) a 150] w k := by
 refine pFn_extern func182 (by kernel_rfl) (by kernel_rfl) (by kernel_rfl) (e := Extern.ReflectliteValue.method (Extern.ReflectliteValue.valueError "reflectlite.Value.Elem" 0) Extern.ReflectliteValue.elem) (by kernel_rfl) ?_
 refine px_ok (w' := w) (v := rv (teOf f) p (flAd f)) ?_ hk
 show (Extern.ReflectliteValue.method _ _ #[rv (tpOf f) a 150]).run P w = _
 rw [rlm]
 simp only [Sem.run_bind,parts_tp,Result.andThen]
 simp [Extern.ReflectliteValue.elem,loadVar,agg_tp f,ha,Result.andThen,und_tp f,elemOf_tp f,mk_te f]
theorem c_vSet (f:Bool) {a tb:Nat} {x old:Value} (hx:x.cells = #[x] ∧ x.oneCell' = true) (ha:w.heap[a]? = some (.cells #[x] (teOf f) (0,0))) (ht:w.heap[tb]? = some (.cells #[old] (teOf f) (0,0))) (hk:k (.tuple #[]) (w.setCell ⟨tb,0,none⟩ x)) :
    pFn P 183 [rv (teOf f) ⟨tb,0,none⟩ (flAd f),rv (teOf f) ⟨a,0,none⟩ (flIn f)] w k := by
  refine pFn_extern func183 (by kernel_rfl) (by kernel_rfl) (by kernel_rfl) (e := Extern.ReflectliteValue.set) (by kernel_rfl) ?_
  refine px_ok (w' := w.setCell ⟨tb,0,none⟩ x) (v := .tuple #[]) ?_ hk
  show (Extern.ReflectliteValue.set #[rv (teOf f) ⟨tb,0,none⟩ (flAd f),rv (teOf f) ⟨a,0,none⟩ (flIn f)]).run P w = _
  rw [rls]
  have hst : pu P (Instr.storeAt (teOf f) (.pointer (some ⟨tb,0,none⟩)) x) w (fun w' => w' = w.setCell ⟨tb,0,none⟩ x) := s_st (size_te f w) hx.1 hx.2 ht (by simp) rfl
  have hst2 : (storeVar (teOf f) ⟨tb,0,none⟩ x).run P w = .ok () (w.setCell ⟨tb,0,none⟩ x) := by
    unfold pu px at hst
    have e : (Instr.storeAt (teOf f) (.pointer (some ⟨tb,0,none⟩)) x).run P w = (storeVar (teOf f) ⟨tb,0,none⟩ x).run P w := by simp [Instr.storeAt,Instr.sureAddr,Result.andThen]
    rw [e] at hst
    split at hst
    · rename_i v w' h; rw [h,hst]
    · exact hst.elim
  have hfl : ((flAd f).toNat / Extern.ReflectliteValue.flagAddr % 2 == 0) = false := by cases f <;> rfl
  have hc : w.cell? ⟨a,0,none⟩ = some x := cell_blk ha rfl
  simp only [Sem.run_bind,parts_ad,parts_in,Result.andThen]
  simp [hfl,loadVar,agg_te f,hc,Result.andThen,direct_te f,hst2]
theorem c_erras (f:Bool) {E:EV} {A0 tb:Nat} {old:Value} (hE:E.In w) (hA:w.heap[A0]? = some (.cells #[ptr tb] (tpOf f) (0,0))) (ht:w.heap[tb]? = some (.cells #[old] (teOf f) (0,0)))
    (h1:∀ x w',E.first f = some x → Fr (fun b => b = tb) w w' → w'.heap[tb]? = some (.cells #[x] (teOf f) (0,0)) → k (.bool true) w') (h0:∀ w',E.first f = none → Fr (fun _ => False) w w' → k (.bool false) w') :
    pFn P 145 [E.val,.iface (tpOf f) (ptr tb),rv (tpOf f) ⟨A0,0,none⟩ 150,.iface 273 (rt (teOf f))] w k := by
  refine F145_in _ _ _ _ _ _ ?_
  unfold F145_0
  refine s_box ?_
  have b1 := alloc_new w (.cells (rv (tpOf f) ⟨A0,0,none⟩ 150).cells 228)
  have f1 := Fr.alloc (fun _ => False) w (.cells (rv (tpOf f) ⟨A0,0,none⟩ 150).cells 228)
  generalize w.alloc (.cells (rv (tpOf f) ⟨A0,0,none⟩ 150).cells 228) = w1 at *
  refine F145L1_inv (m := E.links.length) k (fun m ρ w' => w' = w1 ∧ ∃ E' : EV,E'.In w ∧ E'.links.length = m ∧ ρ 0 = E'.val ∧ ρ 1 = .iface (tpOf f) (ptr tb) ∧ ρ 3 = .iface 273 (rt (teOf f)) ∧ ρ 6 = ptr w.heap.size ∧ E.first f = E'.first f) ?_ ⟨rfl,E,hE,rfl,rfl,rfl,rfl,rfl,rfl⟩
  rintro m ρ w' ⟨rfl,E',hE',hm,e0,e1,e3,e6,hh⟩
  rw [F145_1_eq]
  unfold F145_1
  rw [e0,e1,e3,e6,EV.val_eq]
  refine c_typeOf (c_assignable f E' ?_)
  have ht1 := f1.get ht (fun h => h)
  have hA1 := f1.get hA (fun h => h)
  have ld : ∀ {kk:KV},kk (rv (tpOf f) ⟨A0,0,none⟩ 150) w' → px P (Instr.loadAt 228 (ptr w.heap.size)) w' kk := fun h => s_ldAgg (m := 3) (isAgg228 _) (sizeOf228 _) b1 (by show 0 + 3 ≤ 3; decide) h
  cases hf : E'.fits f with
  | true =>
    have : ∃ x,(Extern.ReflectliteValue.unpack (.iface E'.ty E'.pay)).run P w' = .ok (rv (teOf f) ⟨w'.heap.size,0,none⟩ (flIn f)) (w'.alloc (.cells #[x] (teOf f))) ∧ (x.cells = #[x] ∧ x.oneCell' = true) ∧ E'.first f = some x := by
      cases E' with
      | no n => cases f with
        | true => cases hf
        | false => exact ⟨i64 n,valueOf_n n w',⟨rfl,rfl⟩,rfl⟩
      | own => cases hf
      | fault b e => cases f with
        | true => exact ⟨ptr b,valueOf_f b w',⟨rfl,rfl⟩,rfl⟩
        | false => cases hf
    obtain ⟨x,h2,h3,h4⟩ := this
    refine pC_true (ld (c_vElem f (cell_blk hA1 rfl) (c_valueOf h2 ?_)))
    refine c_vSet f h3 (alloc_new _ _) (alloc_old _ ht1) ?_
    refine h1 x _ (by rw [hh]; exact h4) ?_ ?_
    · exact ((f1.mono fun b hb => hb.elim).trans (Fr.alloc (fun b => b = tb) _ _) (fun b hb => .inl hb)).trans (Fr.setCell _ _ _) fun b hb => .inl hb
    · have := set_same (alloc_old (.cells #[x] (teOf f)) ht1) 0 x
      simpa using this
  | false =>
    refine pC_false ?_
    rw [← EV.val_eq]
    refine px_ok (ta_as E' _ _) (s_ext rfl (s_ext rfl (pG_sk (pG_sk (pG_sk (s_pick_f (pC_false ?_)))))))
    cases E' with
    | no n =>
      refine px_ok (ta_unwrapN n _ _) (s_ext rfl (s_ext rfl (pC_false (px_ok (ta_unwrapsN n _ _) (s_ext rfl (s_ext rfl (pC_false ?_)))))))
      refine h0 _ ?_ f1
      rw [hh]; cases f with
      | true => rfl
      | false => cases hf
    | own =>
      refine px_ok (ta_unwrapO _ _) (s_ext rfl (s_ext rfl (pC_false (px_ok (ta_unwrapsO _ _) (s_ext rfl (s_ext rfl (pC_false ?_)))))))
      exact h0 _ (by rw [hh]; rfl) f1
    | fault b e =>
      have hE1 : (EV.fault b e).In w' := hE'.fr f1 fun b hb h => h
      refine px_ok (ta_unwrapF b _ _) (s_ext rfl (s_ext rfl (pC_true (c_unwrap hE1 ?_))))
      obtain ⟨t,v,ev⟩ := e.iface
      rw [ev]
      refine s_eqin (pC_false ?_)
      refine ⟨e.links.length,?_,rfl,e,hE'.2,rfl,?_,e1,e3,e6,?_⟩
      · rw [← hm]; simp [EV.links]
      · rw [ev]; rfl
      · rw [hh]; cases f with
        | true => cases hf
        | false => rfl
theorem c_errAs (f:Bool) {E:EV} {tb:Nat} {old:Value} (hg:ErrT w) (hE:E.In w) (ht:w.heap[tb]? = some (.cells #[old] (teOf f) (0,0)))
    (h1:∀ x w',E.first f = some x → Fr (fun b => b = tb) w w' → w'.heap[tb]? = some (.cells #[x] (teOf f) (0,0)) → k (.bool true) w') (h0:∀ w',E.first f = none → Fr (fun _ => False) w w' → k (.bool false) w') :
    pFn P 88 [E.val,.iface (tpOf f) (ptr tb)] w k := by
  refine F88_in _ _ _ _ ?_
  unfold F88_0
  obtain ⟨t,v,ev⟩ := E.iface
  rw [ev]
  refine s_eqin (pC_false ?_)
  have eqT : ∀ {kk:KV} {x y:Operand},kk (.bool false) w → px P (binSem .eql 20 x y (.iface (tpOf f) (ptr tb)) .nilIface) w kk := by
    intro kk x y h
    refine s_bin (by simp) (by simp) ?_ h
    have h : ∀ d : Nat,(Op.equalIn (d + 1) 20 (.iface (tpOf f) (ptr tb)) .nilIface).run P w = .ok false w := fun d => by simp [Op.equalIn,run_underlying underlying20]
    simp only [binOp]
    simp [Op.equal,Op.maxDepth,h 9999]
  refine eqT (pC_false ?_)
  rw [F88_1_eq]
  unfold F88_1
  refine c_valueOf (v := .iface (tpOf f) (ptr tb)) (valueOf_tp f _ w) ?_
  have a1 := alloc_new w (.cells #[.pointer (some ⟨tb,0,none⟩)] (tpOf f))
  have f1 := Fr.alloc (fun _ => False) w (.cells #[.pointer (some ⟨tb,0,none⟩)] (tpOf f))
  generalize w.alloc (.cells #[.pointer (some ⟨tb,0,none⟩)] (tpOf f)) = w1 at *
  refine s_alloc (zeroValue228 _) ?_
  have a2 := alloc_new w1 (.cells #[.pointer none,.pointer none,.int .u64 0] 228)
  have f2 := Fr.alloc (fun _ => False) w1 (.cells #[.pointer none,.pointer none,.int .u64 0] 228)
  show pu P _ (w1.alloc (.cells #[.pointer none,.pointer none,.int .u64 0] 228)) _
  generalize w1.alloc (.cells #[.pointer none,.pointer none,.int .u64 0] 228) = w2 at *
  refine s_stN (n := 3) (vs := [.pointer (some ⟨4,tpOf f,none⟩),.pointer (some ⟨w.heap.size,0,none⟩),.int .u64 150]) (sizeOf228 _) rfl (by intro v hv; simp at hv; rcases hv with rfl | rfl | rfl <;> rfl) a2 (by show 0 + 3 ≤ 3; decide) fun w3 a3 f3 z3 => ?_
  have l1 : w.heap.size < w1.heap.size := lt_of_get a1
  have f3' : Fr (fun _ => False) w w3 := ((f1.trans f2 fun b hb => hb.elim)).trans f3 fun b hb => .inr (by subst hb; have := f1.size; omega)
  have a13 : w3.heap[w.heap.size]? = some (.cells #[ptr tb] (tpOf f) (0,0)) := f3.get (f2.get a1 fun h => h) (by omega)
  have ht3 := f3'.get ht fun h => h
  have hE3 : E.In w3 := hE.fr f3' fun b hb h => h
  have hg3 : ErrT w3 := hg.fr f3' fun h => h
  have a3' : w3.heap[w1.heap.size]? = some (.cells #[.pointer (some ⟨4,tpOf f,none⟩),.pointer (some ⟨w.heap.size,0,none⟩),.int .u64 150] 228 (0,0)) := by rw [a3]; simp
  have ld : ∀ {kk:KV},kk (rv (tpOf f) ⟨w.heap.size,0,none⟩ 150) w3 → px P (Instr.loadAt 228 (.pointer (some ⟨w1.heap.size,0,none⟩))) w3 kk := fun h => s_ldAgg (m := 3) (isAgg228 _) (sizeOf228 _) a3' (by show 0 + 3 ≤ 3; decide) h
  refine ld (c_type f (c_kind (kind_tp f) ?_))
  refine s_nei_f rfl (pG_yes rfl (ld (pG_yes rfl (c_isNil f (p := ⟨tb,0,none⟩) (cell_blk a13 rfl) (s_pick_f (pC_false ?_))))))
  rw [F88_2_eq]
  unfold F88_2
  refine c_rElem f (c_kind (kind_te f) ?_)
  refine s_nei_t (by cases f <;> decide) (pG_yes rfl (pG_yes rfl (s_ld (v := .iface 273 (rt 31)) (isAgg195 _) hg3 (pG_yes rfl (c_implements f (pG_yes rfl (s_not (s_pick_t (pC_false ?_)))))))))
  rw [F88_3_eq]
  unfold F88_3
  refine ld ?_
  rw [show (.iface t v : Value) = E.val from ev.symm] at *
  refine c_erras f hE3 a13 ht3 (fun x w' e hf hx => ?_) fun w' e hf => ?_
  · exact h1 x w' e ((f3'.mono fun b hb => hb.elim).trans hf fun b hb => .inl hb) hx
  · exact h0 w' e (f3'.trans hf fun b hb => hb.elim)
def EV.code (E:EV) : Int := match E.first false with
 | some (.int _ n) => n
 | _ => -1
theorem EV.first_int : ∀ (E:EV),E.first false = none ∨ ∃ n,E.first false = some (i64 n)
 | .no n => .inr ⟨n,rfl⟩
 | .own => .inl rfl
 | .fault b e => e.first_int
theorem c_code {E:EV} (hg:ErrT w) (hE:E.In w) (hk:∀ w',Fr (fun _ => False) w w' → k (i64 E.code) w') : pFn P 43 [E.val] w k := by
 refine F43_in _ _ _ ?_
 unfold F43_0
 refine s_alloc (zeroValue25 _) ?_
 have a1 := alloc_new w (.cells #[i64 0] 25)
 have f1 := Fr.alloc (fun _ => False) w (.cells #[i64 0] 25)
 show px P _ (w.alloc (.cells #[i64 0] 25)) _
 generalize w.alloc (.cells #[i64 0] 25) = w1 at *
 obtain ⟨t,v,ev⟩ := E.iface
 rw [ev]
 refine s_eqin (pC_false (s_mki (by kernel_rfl) ?_))
 rw [show (.iface t v : Value) = E.val from ev.symm]
 refine c_errAs false (tb := w.heap.size) (hg.fr f1 fun h => h) (hE.fr f1 fun b hb h => h) a1 (fun x w' e hf hx => ?_) fun w' e hf => ?_
 ·rcases E.first_int with h | ⟨n,h⟩
  ·rw [h] at e; cases e
  ·rw [h] at e; cases e
   refine pC_true (s_ldb (isAgg25 _) hx rfl ?_)
   have := hk w' (f1.trans hf fun b hb => .inr (by omega))
   rw [show E.code = n by unfold EV.code; rw [h]] at this; exact this
 ·refine pC_false ?_
  have := hk w' (f1.trans hf fun b hb => hb.elim)
  rw [show E.code = -1 by unfold EV.code; rw [e]] at this; exact this
theorem c_codeNil (hk:∀ w',Fr (fun _ => False) w w' → k (i64 0) w') : pFn P 43 [.nilIface] w k := by
 refine F43_in _ _ _ ?_
 unfold F43_0
 refine s_alloc (zeroValue25 _) ?_
 have f1 := Fr.alloc (fun _ => False) w (.cells #[i64 0] 25)
 show px P _ (w.alloc (.cells #[i64 0] 25)) _
 exact s_eqnn (pC_true (hk _ f1))
end
end Go.Proofs.YteeeggphkhimcaaGreatDoor

namespace Go.Proofs.XDisk
open Go.Proofs.XMaps
theorem Thg.Ok.mono {x:Thg} {c c':Nat} (h:x.Ok c) (hc:c ≤ c') : x.Ok c' := ⟨Nat.le_trans h.row hc,h.ok⟩
theorem AD.Ok.mono {S:AD} {c c':Nat} (h:S.Ok c) (hc:c ≤ c') (hs:c' ≤ 1099511627776) : S.Ok c' where
 room := h.room
 small := hs
 strokes := ⟨h.strokes.1,by have := h.strokes.2; omega⟩
 since := ⟨h.since.1,by have := h.since.2; omega⟩
 row := Nat.le_trans h.row hc
 reads := Nat.le_trans h.reads hc
 next := h.next
 thing := fun t ht => (h.thing t ht).mono hc
 turns := h.turns
 sn := h.sn
 rn := h.rn
 safe := h.safe
theorem nm_on {c:Turn} {l:Names} (hl:∀ p ∈ l,p.1.size ≤ 112) (hc:Turn.nm c) : ∀ p ∈ c.on l,p.1.size ≤ 112 := by
 intro p hp
 cases c with
 | mk n t =>
  rcases mem_setN.1 hp with rfl | h
  ·exact hc
  ·exact hl p h.1
 | give a b =>
  rcases mem_setN.1 hp with rfl | h
  ·exact hc
  ·exact hl p (mem_alDel.1 h.1).1
 | take n => exact hl p (mem_alDel.1 hp).1
theorem nm_fold {r:List Turn} : ∀ {l:Names},(∀ p ∈ l,p.1.size ≤ 112) → (∀ c ∈ r,Turn.nm c) → ∀ p ∈ r.foldl (fun l c => c.on l) l,p.1.size ≤ 112 := by
 induction r with
 | nil => intro l hl _; exact hl
 | cons c r ih => intro l hl hr; exact ih (nm_on hl (hr c List.mem_cons_self)) fun d hd => hr d (List.mem_cons_of_mem _ hd)
theorem AD.Ok.shownNames {S:AD} {c:Nat} (h:S.Ok c) : ∀ p ∈ S.shown,p.1.size ≤ 112 := by rw [h.turns.eq]; exact nm_fold h.sn h.rn
theorem AD.Ok.crashNames_small {S:AD} {c:Nat} (h:S.Ok c) (picks:List Int) : ∀ p ∈ S.crashNames picks,p.1.size ≤ 112 := nm_fold h.sn fun d hd => h.rn d (List.mem_of_mem_take hd)
theorem AD.Ok.new {room:Int} (h:1 ≤ room ∧ room ≤ 1048576) : (AD.new room).Ok 0 where
 room := h
 small := by omega
 strokes := ⟨Int.le_refl _,Int.le_refl _⟩
 since := ⟨Int.le_refl _,Int.le_refl _⟩
 row := Nat.le_refl _
 reads := Nat.le_refl _
 next := by rintro t (⟨n,h⟩ | ⟨n,h⟩ | ⟨n,h⟩) <;> cases h
 thing := by rintro t (⟨n,h⟩ | ⟨n,h⟩ | ⟨n,h⟩) <;> cases h
 turns := ⟨rfl,Nat.zero_le _⟩
 sn := by rintro p hp; cases hp
 rn := by rintro p hp; cases hp
 safe := List.Pairwise.nil
theorem AD.Ok.ticked {S:AD} {c:Nat} (h:S.Ok c) (o:Bool) (hs:c < 1099511627776) : AD.Ok { S.ticked with off := o } (c + 1) :=
 { h.mono (Nat.le_succ c) hs with
  strokes := ⟨by have := h.strokes.1; show 0 ≤ S.strokes + 1; omega,by have := h.strokes.2; show S.strokes + 1 ≤ _; omega⟩
  since := ⟨by have := h.since.1; show 0 ≤ S.since + 1; omega,by have := h.since.2; show S.since + 1 ≤ _; omega⟩ }
theorem AD.Ok.stroke {S:AD} {c:Nat} (h:S.Ok c) (hs:c < 1099511627776) (kind refused:Int) (act:AD → AD) (ha:refused = 0 → ∀ o,AD.Ok (act { S.ticked with off := o }) (c + 1)) : (S.stroke kind refused act).2.Ok (c + 1) := by
 unfold AD.stroke
 simp only
 generalize hr : (if refused = 0 ∧ kind = 1 ∧ S.ticked.since ≥ S.ticked.plan.from_ ∧ S.ticked.since ≤ S.ticked.plan.to_ then (55 : Int) else refused) = r
 by_cases hc : r = 0 ∧ ¬ (decide (S.ticked.since = S.ticked.plan.off) = true ∧ kind = 2)
 ·rw [if_pos hc]
  refine ha ?_ _
  have := hc.1
  rw [← hr] at this
  split at this
  ·cases this
  ·exact this
 ·rw [if_neg hc]
  exact h.ticked _ hs
theorem AD.Ok.turned {S:AD} {c:Nat} {t:Turn} (h:S.Ok c) (hrow:S.row.length + 1 ≤ c) (h1:∀ a b,t = .give a b → alGet S.shown a ≠ none) (h2:(t.on S.shown).length ≤ 256) (h3:∀ n i,t = .mk n i → i < S.next ∧ (S.things i).Ok c) (h4:Turn.nm t) : (S.turned t).Ok c := by
 have hr : ∀ i,reach (S.turned t) i → reach S i ∨ ∃ n,t = .mk n i := by
  rintro i (⟨n,h'⟩ | ⟨n,h'⟩ | ⟨n,h'⟩)
  ·cases t with
   | mk m u =>
    rcases mem_setN.1 h' with h' | h'
    ·injection h' with e1 e2; subst e2; exact .inr ⟨m,rfl⟩
    ·exact .inl (.inl ⟨n,h'.1⟩)
   | give a b =>
    rcases mem_setN.1 h' with h' | h'
    ·injection h' with e1 e2
     cases hg : alGet S.shown a with
     | none => exact absurd hg (h1 a b rfl)
     | some u => rw [hg] at e2; subst e2; exact .inl (.inl ⟨a,mem_of_alGet hg⟩)
    ·exact .inl (.inl ⟨n,(mem_alDel.1 h'.1).1⟩)
   | take m => exact .inl (.inl ⟨n,(mem_alDel.1 h').1⟩)
  ·exact .inl (.inr (.inl ⟨n,h'⟩))
  ·rcases List.mem_append.1 h' with h' | h'
   ·exact .inl (.inr (.inr ⟨n,h'⟩))
   ·rw [List.mem_singleton] at h'; exact .inr ⟨n,h'.symm⟩
 exact { h with
  row := by show (S.row ++ [t]).length ≤ c; simpa using hrow
  next := fun i hi => by
   rcases hr i hi with h' | ⟨n,e⟩
   ·exact h.next i h'
   ·exact (h3 n i e).1
  thing := fun i hi => by
   rcases hr i hi with h' | ⟨n,e⟩
   ·exact h.thing i h'
   ·exact (h3 n i e).2
  turns := turnsOk.snoc h1 h2 h.turns
  rn := fun d hd => by
   rcases List.mem_append.1 hd with h' | h'
   ·exact h.rn d h'
   ·rw [List.mem_singleton] at h'; exact h' ▸ h4 }
theorem look_cases (S:AD) (name:ByteArray) : S.look name = 50 ∨ S.look name = 51 ∨ (S.look name = 53 ∧ isName name = true ∧ alGet S.shown name = none) ∨ (S.look name = 0 ∧ isName name = true ∧ alGet S.shown name = some (S.of name)) := by
 unfold AD.look AD.of
 cases ho : S.off with
 | true => exact .inl rfl
 | false =>
  simp only [Bool.false_eq_true,if_false]
  cases hn : isName name with
  | false => exact .inr (.inl rfl)
  | true =>
   simp only [Bool.not_true,Bool.false_eq_true,if_false]
   cases hg : alGet S.shown name with
   | none => exact .inr (.inr (.inl ⟨rfl,trivial,rfl⟩))
   | some t => exact .inr (.inr (.inr ⟨rfl,trivial,rfl⟩))
theorem isName_small {s:ByteArray} (h:isName s = true) : s.size ≤ 112 := by
 unfold isName at h
 simp only [Bool.and_eq_true,decide_eq_true_eq] at h
 exact h.2
theorem look0 {S:AD} {name:ByteArray} (h:S.look name = 0) : isName name = true ∧ alGet S.shown name = some (S.of name) := by
 rcases look_cases S name with h' | h' | h' | h'
 ·rw [h] at h'; cases h'
 ·rw [h] at h'; cases h'
 ·rw [h] at h'; cases h'.1
 ·exact h'.2
theorem reach_of {S:AD} {name:ByteArray} {t:Nat} (h:alGet S.shown name = some t) : reach S t := .inl ⟨name,mem_of_alGet h⟩
theorem AD.Ok.create {S:AD} {c:Nat} (h:S.Ok c) (hs:c < 1099511627776) (name:ByteArray) : (S.create name).2.Ok (c + 1) := by
 have hm := h.mono (Nat.le_succ c) hs
 unfold AD.create
 rcases look_cases S name with h' | h' | h' | h'
 ·rw [h']; exact hm
 ·rw [h']; exact hm
 ·rw [h'.1,if_neg (by decide),if_pos rfl]
  refine h.stroke hs _ _ _ fun hr o => ?_
  have hlen : S.shown.length < 256 := by
   rcases Nat.lt_or_ge S.shown.length 256 with h'' | h''
   ·exact h''
   ·rw [if_pos h''] at hr; cases hr
  have hT := h.ticked o hs
  have hB : AD.Ok { ({ S.ticked with off := o } : AD).setThing S.next Thg.empty with next := S.next + 1 } (c + 1) :=
   { hT with
    next := fun t ht => Nat.lt_succ_of_lt (hT.next t ht)
    thing := fun t ht => by
     have h1 := hT.next t ht
     have h2 := hT.thing t ht
     show Thg.Ok (if t = S.next then Thg.empty else S.things t) (c + 1)
     have h3 : t < S.next := h1
     rw [if_neg (by omega)]; exact h2 }
  refine AD.Ok.turned (t := .mk name S.next) hB (by have := h.row; show S.row.length + 1 ≤ _; omega) (by intro a b e; cases e) ?_ ?_ (isName_small h'.2.1)
  ·show (setN S.shown name S.next).length ≤ 256
   rw [(setN_perm S.shown name S.next).length_eq]
   have : (alDel S.shown name).length ≤ S.shown.length := List.length_filter_le _ _
   simp only [List.length_cons]; omega
  ·intro n i e
   injection e with e1 e2
   subst e2
   refine ⟨Nat.lt_succ_self _,?_⟩
   show Thg.Ok (if S.next = S.next then Thg.empty else _) (c + 1)
   rw [if_pos rfl]
   exact ⟨Nat.zero_le _,rfl,Nat.zero_le _⟩
 ·rw [h'.1]; exact hm
theorem alGet_del_len {l:Names} {a:ByteArray} {t:Nat} (h:alGet l a = some t) : (alDel l a).length + 1 ≤ l.length := by
 have hm := mem_of_alGet h
 unfold alDel
 have : (l.filter fun p => !decide (p.1 = a)).length < l.length := by
  rcases Nat.lt_or_ge (l.filter fun p => !decide (p.1 = a)).length l.length with h' | h'
  ·exact h'
  ·have e := List.Sublist.eq_of_length (List.filter_sublist (l := l) (p := fun p => !decide (p.1 = a))) (Nat.le_antisymm (List.length_filter_le _ _) h')
   rw [← e] at hm
   have := (List.mem_filter.1 hm).2
   simp at this
 omega
theorem AD.Ok.rename {S:AD} {c:Nat} (h:S.Ok c) (hs:c < 1099511627776) (a b:ByteArray) : (S.rename a b).2.Ok (c + 1) := by
 have hm := h.mono (Nat.le_succ c) hs
 unfold AD.rename
 cases ho : S.off with
 | true => exact hm
 | false =>
  simp only [Bool.false_eq_true,if_false]
  cases hn : (!isName a || !isName b) with
  | true => exact hm
  | false =>
   simp only [Bool.false_eq_true,if_false]
   simp only [Bool.or_eq_false_iff,Bool.not_eq_false'] at hn
   cases hg : alGet S.shown a with
   | none => exact hm
   | some t =>
    refine h.stroke hs _ _ _ fun hr o => ?_
    have hT := h.ticked o hs
    by_cases e : a = b
    ·simp only [if_pos e]; exact hT
    ·simp only [if_neg e]
     refine AD.Ok.turned (t := .give a b) hT (by have := h.row; show S.row.length + 1 ≤ _; omega) (by intro a' b' e; injection e with e1 e2; subst e1; show alGet S.shown a ≠ none; rw [hg]; simp) ?_ (by intro n i e; cases e) (isName_small hn.2)
     show (setN (alDel S.shown a) b _).length ≤ 256
     rw [(setN_perm _ b _).length_eq]
     have h1 := alGet_del_len hg
     have h2 : (alDel (alDel S.shown a) b).length ≤ (alDel S.shown a).length := List.length_filter_le _ _
     have h3 := h.turns.len.1
     simp only [List.length_cons]; omega
theorem AD.Ok.remove {S:AD} {c:Nat} (h:S.Ok c) (hs:c < 1099511627776) (name:ByteArray) : (S.remove name).2.Ok (c + 1) := by
 unfold AD.remove
 split
 ·exact h.mono (Nat.le_succ c) hs
 ·refine h.stroke hs _ _ _ fun hr o => ?_
  refine AD.Ok.turned (t := .take name) (h.ticked o hs) (by have := h.row; show S.row.length + 1 ≤ _; omega) (by intro a b e; cases e) ?_ (by intro n i e; cases e) trivial
  have h3 := h.turns.len.1
  have : (alDel S.shown name).length ≤ S.shown.length := List.length_filter_le _ _
  show (alDel S.shown name).length ≤ 256
  omega
theorem AD.Ok.setThing {S:AD} {c t:Nat} {x:Thg} (h:S.Ok c) (hx:x.Ok c) : (S.setThing t x).Ok c :=
 { h with
  thing := fun u hu => by
   show Thg.Ok (if u = t then x else S.things u) c
   split
   ·exact hx
   ·exact h.thing u hu }
theorem AD.Ok.sync {S:AD} {c:Nat} (h:S.Ok c) (hs:c < 1099511627776) (name:ByteArray) : (S.sync name).2.Ok (c + 1) := by
 unfold AD.sync
 split
 ·exact h.mono (Nat.le_succ c) hs
 ·rename_i hl
  have h0 := look0 (show S.look name = 0 by omega)
  refine h.stroke hs _ _ _ fun hr o => (h.ticked o hs).setThing ?_
  have := (h.thing _ (reach_of h0.2)).ok.len
  exact ⟨Nat.zero_le _,rfl,this.1⟩
theorem AD.Ok.syncNames {S:AD} {c:Nat} (h:S.Ok c) (hs:c < 1099511627776) : S.syncNames.2.Ok (c + 1) := by
 unfold AD.syncNames
 split
 ·exact h.mono (Nat.le_succ c) hs
 ·refine h.stroke hs _ _ _ fun hr o => ?_
  have hT := h.ticked o hs
  have hr : ∀ t,reach ({ ({ S.ticked with off := o } : AD) with safe := S.shown,row := [] }) t → reach S t := by
   rintro t (⟨n,h'⟩ | ⟨n,h'⟩ | ⟨n,h'⟩)
   ·exact .inl ⟨n,h'⟩
   ·exact .inl ⟨n,h'⟩
   ·cases h'
  exact { hT with
   row := Nat.zero_le _
   next := fun t ht => hT.next t (hr t ht)
   thing := fun t ht => hT.thing t (hr t ht)
   turns := ⟨rfl,h.turns.len.1⟩
   sn := h.shownNames
   rn := by intro d hd; cases hd
   safe := h.shown }
theorem AD.Ok.plans {S:AD} {c:Nat} (h:S.Ok c) (p:PlanA) : (S.plans p).Ok c := by
 unfold AD.plans
 split
 ·exact h
 ·exact { h with since := ⟨Int.le_refl _,by show (0 : Int) ≤ c; omega⟩ }
theorem sum_mem_le {l:List Nat} {x:Nat} (h:x ∈ l) : x ≤ l.sum := by
 induction l with
 | nil => cases h
 | cons a r ih =>
  simp only [List.sum_cons]
  cases h with
  | head => omega
  | tail _ h => have := ih h; omega
theorem used_ge {S:AD} {name:ByteArray} {t:Nat} (h:alGet S.shown name = some t) : (S.things t).shown.length ≤ S.used :=
 sum_mem_le (List.mem_map_of_mem (f := fun p : ByteArray × Nat => (S.things p.2).shown.length) (mem_of_alGet h))
theorem AD.Ok.addTo {S:AD} {c t:Nat} {ch:Chg} (h:S.Ok c) (hr:(S.things t).Ok c) (hrow:(S.things t).row.length + 1 ≤ c) (h1:∀ n,ch = .cut n → n ≤ (S.things t).shown.length) (h2:∀ a d,ch = .wr a d → a ≤ (S.things t).shown.length ∧ a + d.length ≤ 1048576) :
    (S.setThing t ((S.things t).add ch)).Ok c := by
  refine h.setThing ⟨by show ((S.things t).row ++ [ch]).length ≤ c; simpa using hrow,rowOk.snoc h1 h2 ?_ hr.ok⟩
  have hl := hr.ok.len.1
  cases ch with
  | cut n =>
    show (if 1 = 0 then (S.things t).shown else List.take n (S.things t).shown).length ≤ _
    rw [if_neg (by decide),List.length_take]; omega
  | wr a d =>
    have := h2 a d rfl
    by_cases h0 : d.length = 0
    · show (if d.length = 0 then (S.things t).shown else _).length ≤ _
      rw [if_pos h0]; exact hl
    · show (if d.length = 0 then (S.things t).shown else _).length ≤ _
      rw [if_neg h0,show (Chg.wr a d).units = d.length from rfl,made_len]
      omega
theorem AD.Ok.writeAt {S:AD} {c:Nat} (h:S.Ok c) (hs:c < 1099511627776) (name:ByteArray) (a:Int) (d:Bytes) : (S.writeAt name a d).2.Ok (c + 1) := by
 unfold AD.writeAt
 split
 ·exact h.mono (Nat.le_succ c) hs
 ·rename_i hl
  have h0 := look0 (show S.look name = 0 by omega)
  have hu := used_ge h0.2
  have hb : S.bytes name = (S.things (S.of name)).shown := rfl
  rw [hb]
  split
  ·exact h.mono (Nat.le_succ c) hs
  ·rename_i ha
   refine h.stroke hs _ _ _ fun hr o => ?_
   have hT := h.ticked o hs
   have hthing := hT.thing (S.of name) (reach_of h0.2)
   have hroom := h.room
   have hlen := (h.thing _ (reach_of h0.2)).ok.len.1
   have hfit : ¬ (a + d.length - (S.things (S.of name)).shown.length > 0 ∧ S.used + (a + d.length - (S.things (S.of name)).shown.length) > S.room) := by
    intro hc; rw [if_pos hc] at hr; cases hr
   refine hT.addTo hthing (by have := (h.thing _ (reach_of h0.2)).row; show (S.things (S.of name)).row.length + 1 ≤ _; omega) (by intro n e; cases e) ?_
   intro a' d' e
   injection e with e1 e2
   subst e1 e2
   show a.toNat ≤ (S.things (S.of name)).shown.length ∧ a.toNat + d.length ≤ 1048576
   by_cases hmore : a + d.length - (S.things (S.of name)).shown.length > 0
   ·have : ¬ (S.used + (a + d.length - (S.things (S.of name)).shown.length) > S.room) := fun hc => hfit ⟨hmore,hc⟩
    omega
   ·omega
theorem AD.Ok.append {S:AD} {c:Nat} (h:S.Ok c) (hs:c < 1099511627776) (name:ByteArray) (d:Bytes) : (S.append name d).2.Ok (c + 1) := by
 unfold AD.append
 split
 ·exact h.mono (Nat.le_succ c) hs
 ·exact h.writeAt hs _ _ _
theorem leftOf_len {s:Bytes} : ∀ {r:List Chg} {b:Bytes} {u:Nat},midOk b r u s → (leftOf b r u).length ≤ 1048576
 | [],b,u,h => h.len
 | c :: r,b,u,h => leftOf_len (r := r) h.step.1
theorem from_fold {s:Names} : ∀ {r:List Turn} {l:Names},turnsOk l r s → ∀ {n:ByteArray} {t:Nat},(n,t) ∈ s → (∃ n',(n',t) ∈ l) ∨ ∃ n',Turn.mk n' t ∈ r
 | [],l,h,n,t,hm => by rw [h.1] at hm; exact .inl ⟨n,hm⟩
 | c :: r,l,h,n,t,hm => by
  rcases from_fold (r := r) (l := c.on l) h.2.2 hm with ⟨n',h1⟩ | ⟨n',h1⟩
  ·cases c with
   | mk m u =>
    rcases mem_setN.1 h1 with h' | h'
    ·injection h' with e1 e2; subst e2; exact .inr ⟨m,List.mem_cons_self⟩
    ·exact .inl ⟨n',h'.1⟩
   | give a b =>
    rcases mem_setN.1 h1 with h' | h'
    ·injection h' with e1 e2
     cases hg : alGet l a with
     | none => exact absurd hg (h.2.1 a b rfl)
     | some u => rw [hg] at e2; subst e2; exact .inl ⟨a,mem_of_alGet hg⟩
    ·exact .inl ⟨n',(mem_alDel.1 h'.1).1⟩
   | take m => exact .inl ⟨n',(mem_alDel.1 h1).1⟩
  ·exact .inr ⟨n',List.mem_cons_of_mem _ h1⟩
theorem AD.Ok.crash_reach {S:AD} {c:Nat} (h:S.Ok c) (picks:List Int) : ∀ p ∈ S.crashNames picks,reach S p.2 := by
 intro p hp
 rcases from_fold (h.turns.take (pickA picks 0 S.row.length)) (n := p.1) (t := p.2) hp with ⟨n,h'⟩ | ⟨n,h'⟩
 ·exact .inr (.inl ⟨n,h'⟩)
 ·exact .inr (.inr ⟨n,List.mem_of_mem_take h'⟩)
theorem zip_now (l:Names) (next:Nat) : alKeys (l.zipIdx.map fun (p,i) => (p.1,next + i)) = alKeys l := by
 unfold alKeys
 rw [List.map_map]
 have : ((fun p:ByteArray × Nat => p.1) ∘ fun q : (ByteArray × Nat) × Nat => (q.1.1,next + q.2)) = (fun p:ByteArray × Nat => p.1) ∘ Prod.fst := rfl
 show l.zipIdx.map ((fun p:ByteArray × Nat => p.1) ∘ fun q : (ByteArray × Nat) × Nat => (q.1.1,next + q.2)) = _
 rw [this,← List.map_map,List.zipIdx_map_fst]
theorem Ordered.of_keys {l l':Names} (h:Ordered l) (e:alKeys l' = alKeys l) : Ordered l' := by
 unfold Ordered at *
 have h1 : (alKeys l).Pairwise fun a b => blt a b = true := by unfold alKeys; rw [List.pairwise_map]; exact h
 rw [← e] at h1
 unfold alKeys at h1
 rw [List.pairwise_map] at h1
 exact h1
theorem AD.Ok.crash {S:AD} {c:Nat} (h:S.Ok c) (picks:List Int) : (S.crash picks).Ok c := by
 have hord : Ordered (S.crashNames picks) := h.safe.fold
 have hlen : (S.crashNames picks).length ≤ 256 := (h.turns.take (pickA picks 0 S.row.length)).len.1
 have hkeys := zip_now (S.crashNames picks) S.next
 have hr : ∀ t,reach (S.crash picks) t → ∃ i p,(S.crashNames picks)[i]? = some p ∧ t = S.next + i := by
  have : ∀ n t,(n,t) ∈ (S.crashNames picks).zipIdx.map (fun (p,i) => (p.1,S.next + i)) → ∃ i p,(S.crashNames picks)[i]? = some p ∧ t = S.next + i := by
   intro n t hm
   obtain ⟨q,hq,e⟩ := List.mem_map.1 hm
   injection e with e1 e2
   have hq' := List.mem_zipIdx hq
   exact ⟨q.2,q.1,by rw [hq'.2.2]; simp,e2.symm⟩
  rintro t (⟨n,h'⟩ | ⟨n,h'⟩ | ⟨n,h'⟩)
  ·exact this n t h'
  ·exact this n t h'
  ·cases h'
 have hz : (0 : Int) ≤ c := by omega
 exact { h with
  strokes := ⟨Int.le_refl _,hz⟩
  since := ⟨Int.le_refl _,hz⟩
  row := Nat.zero_le _
  next := fun t ht => by
   obtain ⟨i,p,hp,rfl⟩ := hr t ht
   have : i < (S.crashNames picks).length := (List.getElem?_eq_some_iff.1 hp).1
   show S.next + i < S.next + (S.crashNames picks).length
   omega
  thing := fun t ht => by
   obtain ⟨i,p,hp,rfl⟩ := hr t ht
   have hth := h.thing _ (h.crash_reach picks p (List.mem_of_getElem? hp))
   have e : (S.crash picks).things (S.next + i) = ⟨S.crashBytes picks i p.2,S.crashBytes picks i p.2,[]⟩ := by
    show (if S.next + i < S.next then S.things (S.next + i) else match (S.crashNames picks)[S.next + i - S.next]? with | some p => _ | none => _) = _
    have e1 : S.next + i - S.next = i := by omega
    rw [if_neg (by omega),e1,hp]
   rw [e]
   exact ⟨Nat.zero_le _,rfl,leftOf_len (.inl hth.ok)⟩
  turns := ⟨rfl,by show ((S.crashNames picks).zipIdx.map _).length ≤ 256; simpa using hlen⟩
  sn := by
   intro p hp
   have : p.1 ∈ alKeys ((S.crashNames picks).zipIdx.map fun (p,i) => (p.1,S.next + i)) := List.mem_map_of_mem (f := (·.1)) hp
   rw [hkeys] at this
   obtain ⟨q,hq,e⟩ := List.mem_map.1 this
   rw [← e]; exact h.crashNames_small picks q hq
  rn := by intro d hd; cases hd
  safe := hord.of_keys hkeys }
theorem AD.Ok.read {S:AD} {c:Nat} (h:S.Ok c) (hs:c < 1099511627776) (name:ByteArray) (a n:Int) : (S.read name a n).2.2.Ok (c + 1) := by
 have hm := h.mono (Nat.le_succ c) hs
 unfold AD.read
 split
 ·exact hm
 ·split
  ·exact hm
  ·exact { hm with reads := by have := h.reads; show (S.reads ++ _).length ≤ c + 1; simp; omega }
abbrev FileA := ByteArray × Bytes
def AD.addFile (S:AD) (f:FileA) : AD :=
 { S with things := fun i => if i = S.next then ⟨f.2,f.2,[]⟩ else S.things i,next := S.next + 1,shown := setN S.shown f.1 S.next,safe := setN S.safe f.1 S.next }
def AD.load (room:Int) (l:List FileA) : AD := l.foldl AD.addFile (AD.new room)
structure Loading (S:AD) (n:Nat) : Prop where
 row : S.row = []
 safe : S.safe = S.shown
 len : S.shown.length = n
 ok : S.Ok 0
theorem Loading.new {room:Int} (h:1 ≤ room ∧ room ≤ 1048576) : Loading (AD.new room) 0 := ⟨rfl,rfl,rfl,AD.Ok.new h⟩
theorem Loading.add {S:AD} {n:Nat} (h:Loading S n) (f:FileA) (hn:f.1.size ≤ 112) (hd:f.2.length ≤ 1048576) (hf:alGet S.shown f.1 = none) (hl:n < 256) : Loading (S.addFile f) (n + 1) := by
 have hlen : (setN S.shown f.1 S.next).length = n + 1 := by
  rw [(setN_perm S.shown f.1 S.next).length_eq,List.length_cons,alDel_none (alGet_none_iff.1 hf),h.len]
 have hreach : ∀ t,reach (S.addFile f) t → t = S.next ∨ reach S t := by
  have key : ∀ (m:ByteArray) t,(m,t) ∈ setN S.shown f.1 S.next → t = S.next ∨ reach S t := by
   intro m t hm
   rcases mem_setN.1 hm with e | hm
   ·exact .inl (congrArg Prod.snd e)
   ·exact .inr (.inl ⟨m,hm.1⟩)
  rintro t (⟨m,hm⟩ | ⟨m,hm⟩ | ⟨m,hm⟩)
  ·exact key m t hm
  ·have e : (S.addFile f).safe = setN S.shown f.1 S.next := by show setN S.safe f.1 S.next = _; rw [h.safe]
   rw [e] at hm; exact key m t hm
  ·have e : (S.addFile f).row = [] := h.row
   rw [e] at hm; cases hm
 refine ⟨h.row,by show setN S.safe f.1 S.next = setN S.shown f.1 S.next; rw [h.safe],hlen,?_⟩
 have o := h.ok
 exact {
  room := o.room
  small := o.small
  strokes := o.strokes
  since := o.since
  row := o.row
  reads := o.reads
  next := fun t ht => by
   rcases hreach t ht with rfl | ht
   ·exact Nat.lt_succ_self _
   ·exact Nat.lt_succ_of_lt (o.next t ht)
  thing := fun t ht => by
   show Thg.Ok (if t = S.next then ⟨f.2,f.2,[]⟩ else S.things t) 0
   by_cases e : t = S.next
   ·rw [if_pos e]; exact ⟨Nat.le_refl _,rfl,hd⟩
   ·rw [if_neg e]
    rcases hreach t ht with h' | h'
    ·exact absurd h' e
    ·exact o.thing t h'
  turns := by
   have e : (S.addFile f).row = [] := h.row
   rw [e]
   refine ⟨by show setN S.shown f.1 S.next = setN S.safe f.1 S.next; rw [h.safe],?_⟩
   show (setN S.safe f.1 S.next).length ≤ 256
   rw [h.safe,hlen]; omega
  sn := fun p hp => by
   have hp : p ∈ setN S.safe f.1 S.next := hp
   rcases mem_setN.1 hp with rfl | hp
   ·exact hn
   ·exact o.sn p hp.1
  rn := fun c hc => o.rn c hc
  safe := o.safe.set _ _ }
def AD.loadTo (room:Int) (l:List FileA) (k:Nat) : AD := AD.load room (l.take k)
theorem loadTo_zero (room:Int) (l:List FileA) : AD.loadTo room l 0 = AD.new room := rfl
theorem loadTo_succ (room:Int) {l:List FileA} {k:Nat} (hk:k < l.length) : AD.loadTo room l (k + 1) = (AD.loadTo room l k).addFile l[k] := by
 unfold AD.loadTo AD.load
 rw [List.take_succ_eq_append_getElem hk,List.foldl_append]; rfl
theorem used_add {S:AD} {n:Nat} (h:Loading S n) {f:FileA} (hf:alGet S.shown f.1 = none) : (S.addFile f).used = S.used + f.2.length := by
 have hlt : ∀ p ∈ S.shown,p.2 ≠ S.next := fun p hp e => by
  have := h.ok.next p.2 (.inl ⟨p.1,hp⟩); omega
 unfold AD.used
 show ((setN S.shown f.1 S.next).map fun p => (if p.2 = S.next then (⟨f.2,f.2,[]⟩ : Thg) else S.things p.2).shown.length).sum = _
 have hp := ((setN_perm S.shown f.1 S.next).map fun p => (if p.2 = S.next then (⟨f.2,f.2,[]⟩ : Thg) else S.things p.2).shown.length)
 rw [hp.sum_nat,alDel_none (alGet_none_iff.1 hf),List.map_cons,List.sum_cons,if_pos rfl]
 have e : (S.shown.map fun p => (if p.2 = S.next then (⟨f.2,f.2,[]⟩ : Thg) else S.things p.2).shown.length) = S.shown.map fun p => (S.things p.2).shown.length :=
  List.map_congr_left fun p hp => by rw [if_neg (hlt p hp)]
 rw [e]
 exact Nat.add_comm _ _
def dupAt (room:Int) (l:List FileA) (k:Nat) : Bool := match l[k]? with
 | some f => (alGet (AD.loadTo room l k).shown f.1).isSome
 | none => false
def AD.loadCode (room:Int) (l:List FileA) : Int :=
 if ¬ (1 ≤ room ∧ room ≤ 1048576) then 1 else if l.length > 256 then 56 else if l.any (fun f => !isName f.1) then 51
 else if (List.range l.length).any (dupAt room l) then 52 else if ((AD.loadTo room l l.length).used : Int) > room then 55 else 0
theorem loading_to {room:Int} (hr:1 ≤ room ∧ room ≤ 1048576) {l:List FileA} (hl:l.length ≤ 256) (hn:∀ f ∈ l,f.1.size ≤ 112) (hd:∀ f ∈ l,f.2.length ≤ 1048576) : ∀ k,k ≤ l.length → (∀ j,j < k → dupAt room l j = false) → Loading (AD.loadTo room l k) k := by
 intro k
 induction k with
 | zero => intro _ _; exact Loading.new hr
 | succ k ih =>
  intro hk hdup
  have h := ih (by omega) fun j hj => hdup j (by omega)
  have hm : l[k] ∈ l := List.getElem_mem (by omega)
  rw [loadTo_succ room (by omega)]
  refine h.add l[k] (hn _ hm) (hd _ hm) ?_ (by omega)
  have := hdup k (by omega)
  unfold dupAt at this
  rw [List.getElem?_eq_getElem (by omega)] at this
  simpa using this
end Go.Proofs.XDisk

namespace Go.Proofs.XSlices
open Go Go.RowKit Go.Proofs.XRed Go.Proofs.XHeap Go.Proofs.XMaps
theorem flatAt {α β:Type} {f:α → List β} {n:Nat} (hn:∀ a,(f a).length = n) : ∀ {l:List α} {i j:Nat} {a:α},l[i]? = some a → j < n → (l.flatMap f)[i * n + j]? = (f a)[j]?
 | [],i,j,a,h,_ => by simp at h
 | q :: r,0,j,a,h,hj => by
  simp only [List.getElem?_cons_zero,Option.some.injEq] at h; subst h
  rw [List.flatMap_cons,Nat.zero_mul,Nat.zero_add,List.getElem?_append_left (by rw [hn]; exact hj)]
 | q :: r,i + 1,j,a,h,hj => by
  have h1 := flatAt hn (l := r) (i := i) (j := j) (a := a) (by simpa using h) hj
  rw [List.flatMap_cons,List.getElem?_append_right (by rw [hn,Nat.add_mul]; omega),hn]
  have e : (i + 1) * n + j - n = i * n + j := by rw [Nat.add_mul]; omega
  rw [e]; exact h1
section
variable {P:Program} {w:World} {k:KV}
theorem s_lenS {t ty:TypeId} {x:Value} {size m:Nat} {cs:List Value} (h:P.underlying t = some (.slice (P.elem t))) (hS:Src w x size m cs) (hk:k (.int .i64 m) w) : px P (bSem .len #[t] ty #[x]) w k := by
 obtain ⟨A,c,rfl,_⟩ := hS
 exact s_len h hk
theorem run_loadAgg2 {te:TypeId} {b o:Nat} {x y:Value} (hag:(isAgg te).run P w = .ok true w) (hsz:(sizeOf te).run P w = .ok 2 w) (hx:w.cell? ⟨b,o,none⟩ = some x) (hy:w.cell? ⟨b,o + 1,none⟩ = some y) :
    (Instr.loadAt te (.pointer (some ⟨b,o,none⟩))).run P w = .ok (.agg #[x,y]) w := by
  have := run_loadCells_list (P := P) w ⟨b,o,none⟩ [x,y] (fun j v hj => by
    rw [add_at]
    match j,hj with
    | 0,hj => simp only [List.getElem?_cons_zero,Option.some.injEq] at hj; subst hj; exact hx
    | 1,hj => simp only [List.getElem?_cons_succ,List.getElem?_cons_zero,Option.some.injEq] at hj; subst hj; exact hy
    | j + 2,hj => simp at hj)
  have e : ([x,y] : List Value).length = 2 := rfl
  rw [e] at this
  simp [Instr.loadAt,Instr.sureAddr,loadVar,hag,hsz,this,Result.andThen]
theorem s_ld2 {te:TypeId} {b o:Nat} {x y:Value} (hag:(isAgg te).run P w = .ok true w) (hsz:(sizeOf te).run P w = .ok 2 w) (hx:w.cell? ⟨b,o,none⟩ = some x) (hy:w.cell? ⟨b,o + 1,none⟩ = some y) (hk:k (.agg #[x,y]) w) :
    px P (Instr.loadAt te (.pointer (some ⟨b,o,none⟩))) w k := px_ok (run_loadAgg2 hag hsz hx hy) hk
theorem Src.place {x:Value} {size m:Nat} {cs:List Value} (hS:Src w x size m cs) {i:Nat} (hi:i < m) (hsz:0 < size) : ∃ b o c,x = .slice (some ⟨b,o,none⟩) m c ∧ ∀ j u,j < size → cs[i * size + j]? = some u → w.cell? ⟨b,o + i * size + j,none⟩ = some u := by
 obtain ⟨A,c,rfl,hc,hl,hr⟩ := hS
 obtain ⟨b,o,rfl,hcell⟩ := hr (by omega)
 exact ⟨b,o,c,rfl,fun j u hj hu => by rw [Nat.add_assoc]; exact hcell _ u hu⟩
end
end Go.Proofs.XSlices

namespace Go.Proofs.XSlices
open Go Go.RowKit Go.Proofs.XRed Go.Proofs.XHeap
section
variable {w:World} {base size n:Nat} {e:TypeId} {v:Value} {xs:List Value}
end
end Go.Proofs.XSlices

namespace Go.Proofs.XDisk
open Go.Proofs.XMaps
theorem alGet_insN {n:ByteArray} {t:Nat} : ∀ {l:Names},(∀ p ∈ l,p.1 ≠ n) → alGet (insN l n t) n = some t
 | [],_ => by simp [insN,alGet]
 | p :: r,hl => by
  unfold insN
  split
  ·simp [alGet]
  ·unfold alGet at *
   rw [List.find?_cons_of_neg (by simp [hl p List.mem_cons_self])]
   exact alGet_insN fun q hq => hl q (List.mem_cons_of_mem _ hq)
theorem alGet_setN (l:Names) (n:ByteArray) (t:Nat) : alGet (setN l n t) n = some t := alGet_insN fun p hp => (mem_alDel.1 hp).2
structure StepA where
 kind : Int
 name : ByteArray
 to_ : ByteArray
 at_ : Int
 n : Int
 data : Bytes
 plan : PlanA
 picks : List Int
theorem crash_files {S:AD} (picks:List Int) : (S.crash picks).files = (S.crashNames picks).zipIdx.map fun q => (q.1.1,S.crashBytes picks q.2 q.1.2) := by
 unfold AD.files
 show ((S.crashNames picks).zipIdx.map fun q => (q.1.1,S.next + q.2)).map _ = _
 rw [List.map_map]
 refine List.map_congr_left fun q hq => ?_
 have hq' := List.mem_zipIdx hq
 have hp : (S.crashNames picks)[q.2]? = some q.1 := by rw [hq'.2.2]; simp
 show (q.1.1,((S.crash picks).things (S.next + q.2)).shown) = _
 have e : (S.crash picks).things (S.next + q.2) = ⟨S.crashBytes picks q.2 q.1.2,S.crashBytes picks q.2 q.1.2,[]⟩ := by
  show (if S.next + q.2 < S.next then S.things (S.next + q.2) else match (S.crashNames picks)[S.next + q.2 - S.next]? with | some p => _ | none => _) = _
  have e1 : S.next + q.2 - S.next = q.2 := by omega
  rw [if_neg (by omega),e1,hp]
 rw [e]
theorem zip_map {f:Nat → Nat → Bytes} {g:Nat → Bytes} : ∀ (l:Names) (j:Nat),(∀ p ∈ l,∀ i,f i p.2 = g p.2) → (l.zipIdx j).map (fun q => (q.1.1,f q.2 q.1.2)) = l.map fun p => (p.1,g p.2) := by
 intro l
 induction l with
 | nil => intro j _; rfl
 | cons p r ih =>
  intro j hl
  rw [List.zipIdx_cons,List.map_cons,List.map_cons,ih (j + 1) fun q hq => hl q (List.mem_cons_of_mem _ hq)]
  simp only
  rw [hl p List.mem_cons_self]
structure Settled (S:AD) : Prop where
 row : S.row = []
 safe : S.safe = S.shown
 things : ∀ p ∈ S.shown,(S.things p.2).row = [] ∧ (S.things p.2).safe = (S.things p.2).shown
theorem crash_settled {S:AD} (h:Settled S) (picks:List Int) : (S.crash picks).files = S.files := by
 rw [crash_files]
 have e : S.crashNames picks = S.shown := by
  unfold AD.crashNames
  rw [h.row]; simp [h.safe]
 rw [e]
 unfold AD.files
 refine zip_map (f := S.crashBytes picks) (g := fun t => (S.things t).shown) _ 0 fun p hp i => ?_
 unfold AD.crashBytes Thg.left
 rw [(h.things p hp).1]
 exact (h.things p hp).2
theorem turnsOk.at_ {s:Names} : ∀ {r:List Turn} {l:Names} {i:Nat} {c:Turn},turnsOk l r s → r[i]? = some c → (∀ a b,c = .give a b → alGet ((r.take i).foldl (fun l c => c.on l) l) a ≠ none) ∧ ((r.take i).foldl (fun l c => c.on l) l).length ≤ 256
 | [],_,_,_,_,hi => by simp at hi
 | c :: r,l,0,d,h,hi => by
  simp at hi; subst hi
  exact ⟨h.2.1,h.1⟩
 | c :: r,l,i + 1,d,h,hi => by
  have := turnsOk.at_ (i := i) h.2.2 (by simpa using hi)
  simpa using this
end Go.Proofs.XDisk
