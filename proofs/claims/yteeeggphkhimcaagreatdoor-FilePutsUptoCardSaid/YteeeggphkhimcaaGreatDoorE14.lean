/- Put together by a program (wip/tools/shake.py): CardU,XFileA,XFileB,XWhole,XCut,XTorn,XCut2,XCut3,XCut4,XLoad6. -/
import Derived.Test.YteeeggphkhimcaaGreatDoorE13
import Derived.Test.YteeeggphkhimcaaGreatDoorE7
set_option linter.unusedVariables false
set_option linter.unusedSimpArgs false
set_option maxRecDepth 100000
namespace Go.Proofs.YteeeggphkhimcaaGreatDoor
open Go Go.ChangeShapes Go.WideShapes Go.ChangeAt Go.RowKit Go.Proofs Go.Proofs.XRed Go.Proofs.XHeap Go.Proofs.XSlices Go.Proofs.XRow Tryz
theorem bulk_bound {H:Type} {l:List (DataW H)} (hk:Rows.uptoSmall H l = true) : Rows.uptoBulkAll l ≤ 1048576 := of_decide_eq_true hk
theorem returns_upto_laid {H:Type} {enc:TypeId × Value → H} {os:Os} {f:FuncId} {fn:Func} {s:OpenSpec} {k:(H:Type) → List (DataW H) → Bool} (hk:s.cond = some k) {F:Stop.Interp} {conds:List PathCond} {apart fresh handsOn again:Bool}
    (started:os.Started) (noInit:P.inits.idxOf? f = none) (hfn:P.funcs[f]? = some fn) {args0:Array Value} {x:List (DataW H) × List (DataW H) × List MemPlace}
    (hv:((laidWorld os).forCall (fun _ _ => 0) ⟨#[],args0,[]⟩).variablesB P = true)
    (hr:(((laidWorld os).forCall (fun _ _ => 0) ⟨#[],args0,[]⟩).heap.toList.drop P.globals.size).take ((begin P (fun _ _ => 0) default).world.heap.size - P.globals.size) = (begin P (fun _ _ => 0) default).world.heap.toList.drop P.globals.size)
    (hok:Input.okWideB P ((laidWorld os).forCall (fun _ _ => 0) ⟨#[],args0,[]⟩) f ⟨#[],args0,[]⟩ = true)
    (hx:DataW.whole enc P ((laidWorld os).forCall (fun _ _ => 0) ⟨#[],args0,[]⟩).memory fn.params.toList s.vars apart args0.toList 8 = some x)
    (hconds:conds.all (PathCond.test P ⟨fn.params.toList,x.1,s.bare.plain.varTypes P,x.2.1⟩) = true) (hkk:k H (x.1 ++ x.2.1) = true)
    (hsz:s.bare.sizedB enc P fn apart ((laidWorld os).forCall (fun _ _ => 0) ⟨#[],args0,[]⟩).memory args0 8 = true)
    (contract:∀ (W:World) (base:Nat) (args:Array Value) (ds gs:List (DataW H)) (before:List MemPlace),
      (∀ (j:Nat) t v,fn.params[j]? = some t → args[j]? = some v → Value.okWide P W .any base t v) →
      DataW.Whole enc P fn.params.toList s.vars apart W args.toList ds gs before →
      conds.all (PathCond.test P ⟨fn.params.toList,ds,s.bare.plain.varTypes P,gs⟩) = true → k H (ds ++ gs) = true → laidMetH P laidE W →
      ({} : Assume).holds P (lone (Frame.enter P f args .normal) [] W) →
      Calls P f args W fun e W' => ∃ v,e = .returned v ∧ (s.at F).post enc P fn apart fresh handsOn again W args v W') :
    ReturnsInHanded {} checked os f .any (fun w args => (s.pre enc P fn conds apart w args ∧ laidMetH P laidE w) ∧ sizedMet enc P fn s apart w args) ((s.at F).post enc P fn apart fresh handsOn again) := by
  refine returnsInHanded_of_calls (C := checked) own1 started noInit ⟨laidWorld os,fun _ _ => 0,⟨#[],args0,[]⟩,rfl,World.shaped_of_B hv hr,(Input.okWide_of_okWideB (base := 0) hok).1,(Input.okWide_of_okWideB hok).2,
    ⟨⟨(OpenSpec.pre_some hk conds apart _ _).2 ⟨x.1,x.2.1,x.2.2,DataW.Whole_of_whole hx,hconds,hkk⟩,laidWorld_met os _⟩,sizedMet_of_sizedB hsz⟩,by
      simp only [Assume.holds]
      exact ⟨by simp,by simp,fun _ => Modest.zero,by simp,by simp⟩⟩ ?_
  intro w tape i _ _ _ hok hpre hholds
  obtain ⟨_,_,_,fn',hfn',_,_,_,_,hval⟩ := hok
  have e : fn' = fn := Option.some.inj (hfn'.symm.trans hfn)
  subst e
  obtain ⟨ds,gs,before,hw,hc,hkk⟩ := (OpenSpec.pre_some hk conds apart _ _).1 hpre.1.1
  have hw' := DataW.Whole.of_heap (w' := w.forCall tape i) (by rfl) hw
  have hL : laidMetH P laidE (w.forCall tape i) := laidMetH.of_heap (w := (w.forCall tape i).memory) (w' := w.forCall tape i) rfl hpre.1.2
  refine (contract (w.forCall tape i) w.heap.size i.args ds gs before hval hw' hc hkk hL hholds).mono fun e W' ⟨v,he,hp⟩ => ?_
  subst he
  exact ChangeSpec.post_blind hp
theorem str_bulk {H:Type} {s:ByteArray} (h:Rows.uptoBulk (.lit (.string s.data.toList) : DataW H) ≤ 1048576) : s.size ≤ 1048576 := by
 have e : s.data.toList.length = s.size := by rw [Array.length_toList]; rfl
 simp only [Rows.uptoBulk] at h
 omega
theorem files_bulk {H:Type} {d:DataW H} (h:Rows.uptoBulk d ≤ 1048576) : ∀ elems spare,d = .slice elems spare → ∀ e ∈ elems,FileFits e := by
 rintro elems spare rfl e he parts rfl q n hq hl
 have h1 := Nat.le_trans (bulk_elem he) h
 have := hl.bulk
 have := bulk_agg (List.mem_of_getElem? hq)
 omega
theorem trodAll_six {H:Type} {enc:TypeId × Value → H} {P:Program} {w:World} {base:Nat} {spare:Nat → Bool} {held:Bool} {t t' t'' t3 t4 t5:TypeId} {args:Array Value} {ds:List (DataW H)} {ps:List MemPlace} (h:DataW.TrodAll enc P w base spare held [t,t',t'',t3,t4,t5] args.toList ds ps) :
    ∃ v v' v'' v3 v4 v5 d d' d'' d3 d4 d5 p p' p'' p3 p4 p5,args = #[v,v',v'',v3,v4,v5] ∧ ds = [d,d',d'',d3,d4,d5] ∧ ps = p ++ p' ++ p'' ++ p3 ++ p4 ++ p5 ∧ DataW.Trod enc P w base spare held t v d p ∧ DataW.Trod enc P w base spare held t' v' d' p' ∧ DataW.Trod enc P w base spare held t'' v'' d'' p'' ∧ DataW.Trod enc P w base spare held t3 v3 d3 p3 ∧ DataW.Trod enc P w base spare held t4 v4 d4 p4 ∧ DataW.Trod enc P w base spare held t5 v5 d5 p5 := by
  obtain ⟨v,vs,d,ds',p,q,hargs,rfl,rfl,hd,hrest⟩ := trodAll_cons h
  obtain ⟨v',vs',d',ds'',p',q',rfl,rfl,rfl,hd',hrest'⟩ := trodAll_cons hrest
  obtain ⟨v'',vs'',d'',ds''',p'',q'',rfl,rfl,rfl,hd'',hrest''⟩ := trodAll_cons hrest'
  obtain ⟨v3,vs3,d3,ds3,p3,q3,rfl,rfl,rfl,hd3,hrest3⟩ := trodAll_cons hrest''
  obtain ⟨v4,vs4,d4,ds4,p4,q4,rfl,rfl,rfl,hd4,hrest4⟩ := trodAll_cons hrest3
  obtain ⟨v5,vs5,d5,ds5,p5,q5,rfl,rfl,rfl,hd5,hrest5⟩ := trodAll_cons hrest4
  obtain ⟨rfl,rfl,rfl⟩ := trodAll_nil hrest5
  exact ⟨v,v',v'',v3,v4,v5,d,d',d'',d3,d4,d5,p,p',p'',p3,p4,p5,by cases args; simp_all,rfl,by simp,hd,hd',hd'',hd3,hd4,hd5⟩
theorem trodAll_mk6 {H:Type} {enc:TypeId × Value → H} {P:Program} {w:World} {base:Nat} {spare:Nat → Bool} {held:Bool} {t t' t'' t3 t4 t5:TypeId} {v v' v'' v3 v4 v5:Value} {d d' d'' d3 d4 d5:DataW H} {p p' p'' p3 p4 p5:List MemPlace} (h:DataW.Trod enc P w base spare held t v d p) (h':DataW.Trod enc P w base spare held t' v' d' p')
    (h'':DataW.Trod enc P w base spare held t'' v'' d'' p'') (h3:DataW.Trod enc P w base spare held t3 v3 d3 p3) (h4:DataW.Trod enc P w base spare held t4 v4 d4 p4) (h5:DataW.Trod enc P w base spare held t5 v5 d5 p5) : DataW.TrodAll enc P w base spare held [t,t',t'',t3,t4,t5] [v,v',v'',v3,v4,v5] [d,d',d'',d3,d4,d5] (p ++ (p' ++ (p'' ++ (p3 ++ (p4 ++ p5))))) :=
  ⟨p,_,h,⟨p',_,h',trodAll_mk4 h'' h3 h4 h5,rfl⟩,rfl⟩
end Go.Proofs.YteeeggphkhimcaaGreatDoor

namespace Go.Proofs.XDisk
open Go.Proofs.XMaps
def plusB : ByteArray := ByteArray.mk #[43]
def plusOf (s:ByteArray) : ByteArray := plusB ++ s
theorem plusOf_list (s:ByteArray) : (plusOf s).data.toList = 43 :: s.data.toList := by
 unfold plusOf plusB
 rw [ByteArray.data_append,Array.toList_append]; rfl
theorem plusOf_size (s:ByteArray) : (plusOf s).size = s.size + 1 := by
 unfold plusOf plusB
 rw [ByteArray.size_append]; show 1 + _ = _; omega
def lays (s:ByteArray) : Bool := s.data.toList.all okByte && decide (1 ≤ s.size) && decide (s.size ≤ 111) && decide (s.data.toList.head? ≠ some 43)
theorem lays_name {s:ByteArray} (h:lays s = true) : isName s = true ∧ isName (plusOf s) = true ∧ plusOf s ≠ s := by
 unfold lays at h
 simp only [Bool.and_eq_true,decide_eq_true_eq] at h
 obtain ⟨⟨⟨h1,h2⟩,h3⟩,h4⟩ := h
 refine ⟨?_,?_,fun e => ?_⟩
 ·unfold isName; simp [h1,h2]; omega
 ·unfold isName; rw [plusOf_list,plusOf_size]; simp only [List.all_cons,h1,Bool.and_true,Bool.and_eq_true,decide_eq_true_eq]
  exact ⟨⟨rfl,by omega⟩,by omega⟩
 ·have := congrArg ByteArray.size e
  rw [plusOf_size] at this; omega
def AD.undo (S:AD) (plus:ByteArray) (begun removed:Bool) (e:Int) : Int × AD :=
 if e ≠ 55 ∧ e ≠ 56 then (e,S) else
 if begun then (if (S.remove plus).1 ≠ 0 then S.remove plus else if (S.remove plus).2.syncNames.1 ≠ 0 then (S.remove plus).2.syncNames else (e,(S.remove plus).2.syncNames.2))
 else if removed then (if S.syncNames.1 ≠ 0 then S.syncNames else (e,S.syncNames.2))
 else (e,S)
def andE (r:Int × AD) (u:AD → Int → Int × AD) (n:AD → Int × AD) : Int × AD := if r.1 ≠ 0 then u r.2 r.1 else n r.2
def AD.has (S:AD) (name:ByteArray) : Bool := decide (S.look name = 0)
def AD.putF (S:AD) (name:ByteArray) (data:Bytes) : Int × AD :=
 if !lays name then (51,S) else if S.off then (50,S) else
 andE (if S.has (plusOf name) then S.remove (plusOf name) else (0,S)) (fun T e => T.undo (plusOf name) false false e) fun S1 =>
 andE (S1.create (plusOf name)) (fun T e => T.undo (plusOf name) false (S.has (plusOf name)) e) fun S2 =>
 andE (S2.append (plusOf name) data) (fun T e => T.undo (plusOf name) true (S.has (plusOf name)) e) fun S3 =>
 andE (S3.sync (plusOf name)) (fun T e => T.undo (plusOf name) true (S.has (plusOf name)) e) fun S4 =>
 andE (S4.rename (plusOf name) name) (fun T e => T.undo (plusOf name) true (S.has (plusOf name)) e) fun S5 =>
 andE S5.syncNames (fun T e => T.undo (plusOf name) true (S.has (plusOf name)) e) fun S6 => (0,S6)
def AD.getF (S:AD) (name:ByteArray) : Int × Bytes × AD :=
 if !isName name then (51,[],S) else if S.look name ≠ 0 then (S.look name,[],S) else S.read name 0 (S.bytes name).length
theorem undo50 (T:AD) (plus:ByteArray) (b r:Bool) : T.undo plus b r 50 = (50,T) := by unfold AD.undo; rw [if_pos (by decide)]
theorem AD.Ok.up {S:AD} {c c':Nat} (h:S.Ok c) (hc:c ≤ c') (hs:c' ≤ 1099511627776) : S.Ok c' := h.mono hc hs
theorem ok_andE {r:Int × AD} {u:AD → Int → Int × AD} {n:AD → Int × AD} {c:Nat} (h:r.2.Ok c) {c':Nat} (hu:∀ e,(u r.2 e).2.Ok c') (hn:(n r.2).2.Ok c') : (andE r u n).2.Ok c' := by
 unfold andE; split
 ·exact hu _
 ·exact hn
theorem ok_undo {S:AD} {c:Nat} (ok:S.Ok c) (hc:c + 2 ≤ 1099511627776) (plus:ByteArray) (b r:Bool) (e:Int) : (S.undo plus b r e).2.Ok (c + 2) := by
 have h1 := ok.remove (by omega) plus
 have h2 := h1.syncNames (by omega)
 have h3 := ok.syncNames (by omega)
 unfold AD.undo
 split
 ·exact ok.up (by omega) hc
 ·split
  ·split
   ·exact h1.up (by omega) hc
   ·split
    ·exact h2
    ·exact h2
  ·split
   ·split
    ·exact h3.up (by omega) hc
    ·exact h3.up (by omega) hc
   ·exact ok.up (by omega) hc
theorem ok_putF {S:AD} {c:Nat} (ok:S.Ok c) (hc:c + 8 ≤ 1099511627776) (name:ByteArray) (d:Bytes) : (S.putF name d).2.Ok (c + 8) := by
 unfold AD.putF
 split
 ·exact ok.up (by omega) hc
 split
 ·exact ok.up (by omega) hc
 have h1 : (if S.has (plusOf name) = true then S.remove (plusOf name) else (0,S)).2.Ok (c + 1) := by
  split
  ·exact ok.remove (by omega) _
  ·exact ok.up (by omega) (by omega)
 refine ok_andE h1 (fun e => (ok_undo h1 (by omega) _ _ _ e).up (by omega) hc) ?_
 generalize (if S.has (plusOf name) = true then S.remove (plusOf name) else (0,S)).2 = S1 at *
 have h2 := h1.create (by omega) (plusOf name)
 refine ok_andE h2 (fun e => (ok_undo h2 (by omega) _ _ _ e).up (by omega) hc) ?_
 have h3 := h2.append (by omega) (plusOf name) d
 refine ok_andE h3 (fun e => (ok_undo h3 (by omega) _ _ _ e).up (by omega) hc) ?_
 have h4 := h3.sync (by omega) (plusOf name)
 refine ok_andE h4 (fun e => (ok_undo h4 (by omega) _ _ _ e).up (by omega) hc) ?_
 have h5 := h4.rename (by omega) (plusOf name) name
 refine ok_andE h5 (fun e => (ok_undo h5 (by omega) _ _ _ e).up (by omega) hc) ?_
 have h6 := h5.syncNames (by omega)
 refine ok_andE h6 (fun e => (ok_undo h6 (by omega) _ _ _ e).up (by omega) hc) ?_
 exact h6.up (by omega) hc
theorem ok_getF {S:AD} {c:Nat} (ok:S.Ok c) (hc:c + 1 ≤ 1099511627776) (name:ByteArray) : (S.getF name).2.2.Ok (c + 1) := by
 unfold AD.getF
 split
 ·exact ok.up (by omega) hc
 split
 ·exact ok.up (by omega) hc
 ·exact ok.read (by omega) _ _ _
section
variable {β:Type}
theorem alGet_cons (s:ByteArray) (v:β) (l:List (ByteArray × β)) (n:ByteArray) : alGet ((s,v) :: l) n = if s = n then some v else alGet l n := by
 unfold alGet
 by_cases h : s = n
 ·rw [if_pos h,List.find?_cons_of_pos (by simp [h])]; rfl
 ·rw [if_neg h,List.find?_cons_of_neg (by simp [h])]
theorem alGet_del (l:List (ByteArray × β)) (s n:ByteArray) : alGet (alDel l s) n = if s = n then none else alGet l n := by
 induction l with
 | nil => unfold alDel alGet; simp
 | cons p r ih =>
  obtain ⟨a,b⟩ := p
  by_cases h : a = s
  ·have e : alDel ((a,b) :: r) s = alDel r s := by unfold alDel; rw [List.filter_cons_of_neg (by simp [h])]
   rw [e,ih,alGet_cons]
   by_cases h2 : s = n
   ·rw [if_pos h2,if_pos h2]
   ·rw [if_neg h2,if_neg h2,if_neg (by rw [h]; exact h2)]
  ·have e : alDel ((a,b) :: r) s = (a,b) :: alDel r s := by unfold alDel; rw [List.filter_cons_of_pos (by simp [h])]
   rw [e,alGet_cons,ih,alGet_cons]
   by_cases h2 : s = n
   ·rw [if_pos h2,if_pos h2,if_neg (by rw [← h2]; exact h)]
   ·rw [if_neg h2,if_neg h2]
end
theorem alGet_setN' {l:Names} (hn:(alKeys l).Nodup) (s:ByteArray) (t:Nat) (n:ByteArray) : alGet (setN l s t) n = if s = n then some t else alGet l n := by
 rw [alGet_perm (setN_perm l s t) (setN_nodup hn s t),alGet_cons,alGet_del]
 by_cases h : s = n
 ·rw [if_pos h,if_pos h]
 ·rw [if_neg h,if_neg h,if_neg h]
abbrev Helds := List (ByteArray × Nat)
def madeH (hl:Helds) (k:Nat) (x:StepA) : Helds × Nat :=
 if x.kind = 1 then (hl ++ [(x.name,0)],k + 1)
 else if x.kind = 2 ∨ x.kind = 3 then (match alGet hl x.name with | some u => alSet hl x.name (u + x.data.length) | none => hl,k)
 else if x.kind = 4 then (match alGet hl x.name with | some u => alSet hl x.name (u + 1) | none => hl,k)
 else if x.kind = 5 then (if x.name = x.to_ then (hl,k) else match alGet hl x.name with | some u => (alDel (alDel hl x.name) x.to_ ++ [(x.to_,u)],k + 1) | none => (hl,k))
 else if x.kind = 6 then (alDel hl x.name,k + 1)
 else if x.kind = 7 then (match alGet hl x.name with | some u => alSet hl x.name 0 | none => hl,k)
 else if x.kind = 8 then (hl,0)
 else (hl,k)
structure Counts (S:AD) (hl:Helds) (k:Nat) : Prop where
 nd : (alKeys hl).Nodup
 get : ∀ n,alGet hl n = (alGet S.shown n).map fun t => unitsOf (S.things t).row
 turns : k = S.row.length
section
variable {S T:AD} {hl:Helds} {k c:Nat}
def nextH (S T:AD) (r:Int) (x:StepA) (hl:Helds) (k:Nat) : Helds × Nat :=
 if (r = 50 ∧ S.off = false ∧ T.off = true ∧ x.kind ≠ 7 ∧ x.kind ≠ 8 ∧ (x.kind ≠ 1 ∨ T.shown.length > S.shown.length)) ∨ (r = 0 ∧ 1 ≤ x.kind ∧ x.kind ≤ 8) then madeH hl k x else (hl,k)
def loose (S T:AD) (r:Int) (x:StepA) : Prop := r = 50 ∧ S.off = false ∧ T.off = true ∧ (x.kind = 2 ∨ x.kind = 3) ∧ x.data.length > 0 ∧ T.files = S.files
def Next (S T:AD) (r:Int) (x:StepA) (hl:Helds) (k:Nat) : Prop := ¬ loose S T r x → Counts T (nextH S T r x hl k).1 (nextH S T r x hl k).2
end
def rst {β:Type} (one two:ByteArray) (l:List (ByteArray × β)) : List (ByteArray × β) := l.filter fun p => decide (p.1 ≠ one) && decide (p.1 ≠ two)
section
variable {β γ:Type} {one two:ByteArray}
theorem rst_map (f:β → γ) (l:List (ByteArray × β)) : rst one two (l.map fun p => (p.1,f p.2)) = (rst one two l).map fun p => (p.1,f p.2) := by
 unfold rst
 rw [List.filter_map]; rfl
theorem rst_del {l:List (ByteArray × β)} {s:ByteArray} (h:s = one ∨ s = two) : rst one two (alDel l s) = rst one two l := by
 unfold rst alDel
 rw [List.filter_filter]
 congr 1
 funext p
 rcases h with rfl | rfl
 ·by_cases e : p.1 = s <;> simp [e]
 ·by_cases e : p.1 = s <;> simp [e]
theorem rst_ins {s:ByteArray} {t:Nat} (h:s = one ∨ s = two) : ∀ l : Names,rst one two (insN l s t) = rst one two l
 | [] => by unfold insN rst; rcases h with rfl | rfl <;> simp
 | p :: r => by
  unfold insN
  split
  ·unfold rst; rcases h with rfl | rfl <;> simp
  ·have ih := rst_ins (t := t) h r
   unfold rst at *
   rw [List.filter_cons,List.filter_cons,ih]
theorem rst_set {l:Names} {s:ByteArray} {t:Nat} (h:s = one ∨ s = two) : rst one two (setN l s t) = rst one two l := by
 unfold setN
 rw [rst_ins h,rst_del h]
theorem mem_rst {l:List (ByteArray × β)} {p:ByteArray × β} (h:p ∈ rst one two l) : p ∈ l := (List.mem_filter.1 h).1
theorem alGet_map (f:β → γ) : ∀ (l:List (ByteArray × β)) (n:ByteArray),alGet (l.map fun p => (p.1,f p.2)) n = (alGet l n).map f
 | [],n => rfl
 | p :: r,n => by
  have ih := alGet_map f r n
  rw [List.map_cons,alGet_cons,← show (p.1,p.2) = p from rfl,alGet_cons,ih]
  split <;> rfl
end
structure AtRest (S:AD) : Prop where
 set : Settled S
 off : S.off = false
 ok : ∃ c,S.Ok c
theorem AtRest.nodup {S:AD} (h:AtRest S) : (alKeys S.shown).Nodup := by obtain ⟨c,ok⟩ := h.ok; exact ok.shown.nodup
theorem AtRest.next {S:AD} (h:AtRest S) {p:ByteArray × Nat} (hp:p ∈ S.shown) : p.2 < S.next := by obtain ⟨c,ok⟩ := h.ok; exact ok.next _ (.inl ⟨p.1,hp⟩)
def AD.cnt (S:AD) (a b:Int) (o:Bool) : AD := { S with strokes := a,since := b,off := o }
theorem cnt_self (S:AD) (h:S.off = false) : S = S.cnt S.strokes S.since false := by
 cases S; simp only at h; subst h; rfl
def outAt (S:AD) (b:Int) : Bool := decide (b + 1 = S.plan.off)
def winAt (S:AD) (b:Int) : Bool := decide (b + 1 ≥ S.plan.from_) && decide (b + 1 ≤ S.plan.to_)
theorem cnt_stroke (X:AD) (a b:Int) (kind ref:Int) (act:AD → AD) (ha:∀ a b o,act (X.cnt a b o) = (act X).cnt a b o) :
    (X.cnt a b false).stroke kind ref act =
      (if outAt X b then 50 else if ref = 0 ∧ kind = 1 ∧ winAt X b = true then 55 else ref,
       if (if ref = 0 ∧ kind = 1 ∧ winAt X b = true then 55 else ref) = 0 ∧ ¬ (outAt X b = true ∧ kind = 2) then (act X).cnt (a + 1) (b + 1) (outAt X b) else X.cnt (a + 1) (b + 1) (outAt X b)) := by
  unfold AD.stroke
  have e1 : ({ (X.cnt a b false).ticked with off := decide ((X.cnt a b false).ticked.since = (X.cnt a b false).ticked.plan.off) } : AD) = X.cnt (a + 1) (b + 1) (outAt X b) := rfl
  have e2 : (ref = 0 ∧ kind = 1 ∧ (X.cnt a b false).ticked.since ≥ (X.cnt a b false).ticked.plan.from_ ∧ (X.cnt a b false).ticked.since ≤ (X.cnt a b false).ticked.plan.to_) ↔ (ref = 0 ∧ kind = 1 ∧ winAt X b = true) := by
    unfold winAt
    simp only [Bool.and_eq_true,decide_eq_true_eq]
    exact Iff.rfl
  dsimp only
  rw [e1,ha]
  have e3 : decide ((X.cnt a b false).ticked.since = (X.cnt a b false).ticked.plan.off) = outAt X b := rfl
  rw [e3]
  congr 1
  · by_cases h : ref = 0 ∧ kind = 1 ∧ winAt X b = true
    · rw [if_pos h,if_pos (e2.2 h)]
    · rw [if_neg h,if_neg (fun h' => h (e2.1 h'))]
  · by_cases h : ref = 0 ∧ kind = 1 ∧ winAt X b = true
    · rw [if_pos h,if_pos (e2.2 h)]
    · rw [if_neg h,if_neg (fun h' => h (e2.1 h'))]
section
variable {X:AD} {a b:Int} {n m:ByteArray}
theorem cnt_look (o:Bool) : (X.cnt a b false).look n = if !isName n then 51 else match alGet X.shown n with | none => 53 | some _ => 0 := by
 unfold AD.look
 show (if (false = true) then _ else _) = _
 rw [if_neg (by simp)]; rfl
theorem cnt_look0 (hn:isName n = true) {t:Nat} (h:alGet X.shown n = some t) : (X.cnt a b false).look n = 0 := by
 rw [cnt_look false,hn,h]; rfl
theorem cnt_look53 (hn:isName n = true) (h:alGet X.shown n = none) : (X.cnt a b false).look n = 53 := by
 rw [cnt_look false,hn,h]; rfl
theorem cnt_stroke0 {kind:Int} {act:AD → AD} (hk:kind ≠ 1) (ha:∀ a b o,act (X.cnt a b o) = (act X).cnt a b o) :
    (X.cnt a b false).stroke kind 0 act = (if outAt X b then 50 else 0,if ¬ (outAt X b = true ∧ kind = 2) then (act X).cnt (a + 1) (b + 1) (outAt X b) else X.cnt (a + 1) (b + 1) (outAt X b)) := by
  rw [cnt_stroke X a b kind 0 act ha]
  have : ¬ ((0 : Int) = 0 ∧ kind = 1 ∧ winAt X b = true) := fun h => hk h.2.1
  rw [if_neg this]
  simp
theorem cnt_remove (hn:isName n = true) {t:Nat} (h:alGet X.shown n = some t) :
    (X.cnt a b false).remove n = (if outAt X b then 50 else 0,(X.turned (.take n)).cnt (a + 1) (b + 1) (outAt X b)) := by
  unfold AD.remove
  rw [cnt_look0 hn h,if_neg (by decide),cnt_stroke0 (by decide) (fun _ _ _ => rfl)]
  cases outAt X b <;> simp
theorem cnt_syncNames : (X.cnt a b false).syncNames = (if outAt X b then 50 else 0,if outAt X b then X.cnt (a + 1) (b + 1) true else ({ X with safe := X.shown,row := [] } : AD).cnt (a + 1) (b + 1) false) := by
 unfold AD.syncNames
 show (if (false = true) then _ else _) = _
 rw [if_neg (by simp)]
 refine (cnt_stroke0 (X := X) (by decide) (fun _ _ _ => rfl)).trans ?_
 cases outAt X b <;> simp
theorem cnt_rename (hab:n ≠ m) (hn:isName n = true) (hm:isName m = true) {t:Nat} (h:alGet X.shown n = some t) :
    (X.cnt a b false).rename n m = (if outAt X b then 50 else 0,(X.turned (.give n m)).cnt (a + 1) (b + 1) (outAt X b)) := by
  unfold AD.rename
  show (if (false = true) then _ else _) = _
  rw [if_neg (by simp),hn,hm]
  show (match alGet X.shown n with | none => _ | some _ => _) = _
  rw [h]
  refine (cnt_stroke0 (X := X) (by decide) (fun _ _ _ => by rw [if_neg hab,if_neg hab]; rfl)).trans ?_
  rw [if_neg hab]
  cases outAt X b <;> simp
theorem cnt_sync (hn:isName n = true) {t:Nat} (h:alGet X.shown n = some t) :
    (X.cnt a b false).sync n = (if outAt X b then 50 else 0,if outAt X b then X.cnt (a + 1) (b + 1) true else (X.setThing t (X.things t).settle).cnt (a + 1) (b + 1) false) := by
  unfold AD.sync
  rw [cnt_look0 hn h,if_neg (by decide)]
  have e : (X.cnt a b false).of n = t := by unfold AD.of; show (alGet X.shown n).getD 0 = t; rw [h]; rfl
  rw [e]
  refine (cnt_stroke0 (X := X) (by decide) (fun _ _ _ => rfl)).trans ?_
  cases outAt X b <;> simp
theorem kind1 {ref:Int} {Y:AD} (hr:ref = 0 ∨ ref = 55 ∨ ref = 56) {R:Int × AD}
    (hR:R = (if outAt X b then 50 else if ref = 0 ∧ (1 : Int) = 1 ∧ winAt X b = true then 55 else ref,
       if (if ref = 0 ∧ (1 : Int) = 1 ∧ winAt X b = true then 55 else ref) = 0 ∧ ¬ (outAt X b = true ∧ (1 : Int) = 2) then Y.cnt (a + 1) (b + 1) (outAt X b) else X.cnt (a + 1) (b + 1) (outAt X b)) := by rfl) :
    (R = (0,Y.cnt (a + 1) (b + 1) false) ∧ outAt X b = false) ∨
    (∃ e,(e = 55 ∨ e = 56) ∧ (e = 56 → ref = 56) ∧ R = (e,X.cnt (a + 1) (b + 1) false) ∧ outAt X b = false) ∨
    (outAt X b = true ∧ (R = (50,X.cnt (a + 1) (b + 1) true) ∨ R = (50,Y.cnt (a + 1) (b + 1) true))) := by
  subst hR
  generalize hq : (if ref = 0 ∧ (1 : Int) = 1 ∧ winAt X b = true then (55 : Int) else ref) = r
  have h3 : r = 0 ∨ r = 55 ∨ (r = 56 ∧ ref = 56) := by
    subst hq; split
    · exact .inr (.inl rfl)
    · omega
  cases ho : outAt X b
  · rcases h3 with h | h | h
    · left; subst h; simp
    · right; left; refine ⟨55,.inl rfl,(fun h => by simp at h),?_,rfl⟩; subst h; simp
    · right; left; refine ⟨56,.inr rfl,(fun _ => h.2),?_,rfl⟩; rw [h.1]; simp
  · right; right; refine ⟨rfl,?_⟩
    rcases h3 with h | h | h
    · right; subst h; simp
    · left; subst h; simp
    · left; rw [h.1]; simp
theorem cnt_create (hn:isName n = true) (h:alGet X.shown n = none) :
    ((X.cnt a b false).create n = (0,(X.made n).cnt (a + 1) (b + 1) false) ∧ outAt X b = false) ∨
    (∃ e,(e = 55 ∨ e = 56) ∧ (e = 56 → (if X.shown.length ≥ 256 then (56 : Int) else 0) = 56) ∧ (X.cnt a b false).create n = (e,X.cnt (a + 1) (b + 1) false) ∧ outAt X b = false) ∨
    (outAt X b = true ∧ ((X.cnt a b false).create n = (50,X.cnt (a + 1) (b + 1) true) ∨ (X.cnt a b false).create n = (50,(X.made n).cnt (a + 1) (b + 1) true))) := by
  have e : (X.cnt a b false).create n = (X.cnt a b false).stroke 1 (if X.shown.length ≥ 256 then 56 else 0) (fun S => S.made n) := by
    unfold AD.create
    rw [cnt_look53 hn h,if_neg (by decide),if_pos rfl]; rfl
  rw [e,cnt_stroke X a b 1 _ _ (fun _ _ _ => rfl)]
  exact kind1 (by split <;> simp)
theorem cnt_append (hn:isName n = true) {t:Nat} (h:alGet X.shown n = some t) (d:Bytes) (hd:(X.things t).shown = []) :
    ((X.cnt a b false).append n d = (0,(X.setThing t ((X.things t).add (.wr 0 d))).cnt (a + 1) (b + 1) false) ∧ outAt X b = false) ∨
    (∃ e,(e = 55 ∨ e = 56) ∧ (X.cnt a b false).append n d = (e,X.cnt (a + 1) (b + 1) false) ∧ outAt X b = false) ∨
    (outAt X b = true ∧ ((X.cnt a b false).append n d = (50,X.cnt (a + 1) (b + 1) true) ∨ (X.cnt a b false).append n d = (50,(X.setThing t ((X.things t).add (.wr 0 d))).cnt (a + 1) (b + 1) true))) := by
  have e1 : (X.cnt a b false).of n = t := by unfold AD.of; show (alGet X.shown n).getD 0 = t; rw [h]; rfl
  have e2 : (X.cnt a b false).bytes n = [] := by unfold AD.bytes; rw [e1]; exact hd
  obtain ⟨q,hq,e⟩ : ∃ q : Int,(q = 0 ∨ q = 55 ∨ q = 56) ∧ (X.cnt a b false).append n d = (X.cnt a b false).stroke 1 q (fun T => T.setThing t ((T.things t).add (.wr 0 d))) := by
    unfold AD.append AD.writeAt
    rw [cnt_look0 hn h,if_neg (by decide),if_neg (by decide),e2,if_neg (by simp),e1]
    refine ⟨_,?_,rfl⟩
    split <;> simp
  rw [e,cnt_stroke X a b 1 _ _ (fun _ _ _ => rfl)]
  rcases kind1 (X := X) (a := a) (b := b) (Y := X.setThing t ((X.things t).add (.wr 0 d))) hq rfl with h | ⟨e,h1,h2,h3⟩ | h
  · exact .inl h
  · exact .inr (.inl ⟨e,h1,h3⟩)
  · exact .inr (.inr h)
end
structure WrA where
 cut : Bool
 at_ : Int
 data : Bytes
def hN : ByteArray := ByteArray.mk #[104]
def ovr (b:Bytes) (a:Nat) (d:Bytes) (i:Nat) : Bytes := b.take a ++ d.take i ++ b.drop (a + i)
theorem ovr_zero (b:Bytes) (a:Nat) (d:Bytes) : ovr b a d 0 = b := by simp [ovr]
theorem ovr_made {b:Bytes} {a:Nat} {d:Bytes} {u:Nat} (ha:a ≤ b.length) (hu:u ≤ d.length) : (Chg.wr a d).made b u = ovr b a d u := by
 simp only [Chg.made]
 by_cases h0 : u = 0
 ·rw [if_pos h0,h0,ovr_zero]
 ·rw [if_neg h0]
  unfold ovr
  congr 1
  ·congr 1
   rw [List.take_append_of_le_length ha]
  ·by_cases h : a + u ≤ b.length
   ·have e : a + u - b.length = 0 := by omega
    rw [e]; simp
   ·rw [List.drop_eq_nil_of_le (by simp; omega),List.drop_eq_nil_of_le (by omega)]
def WrA.fit (x:WrA) (n:Nat) : Prop := 0 ≤ x.at_ ∧ x.at_ ≤ n
instance (x:WrA) (n:Nat) : Decidable (x.fit n) := by unfold WrA.fit; infer_instance
def AD.synced (X:AD) : AD := { X with safe := X.shown,row := [] }
def k2 (X:AD) (p:ByteArray) : AD := X.made p
def k3 (X:AD) (p:ByteArray) (d:Bytes) : AD := (k2 X p).setThing X.next (((k2 X p).things X.next).add (.wr 0 d))
def k4 (X:AD) (p:ByteArray) (d:Bytes) : AD := (k3 X p d).setThing X.next ((k3 X p d).things X.next).settle
def k5 (X:AD) (p n:ByteArray) (d:Bytes) : AD := (k4 X p d).turned (.give p n)
def ku (X:AD) (p:ByteArray) : AD := (k2 X p).turned (.take p)
theorem andE_bad {r:Int × AD} {u:AD → Int → Int × AD} {n:AD → Int × AD} {e:Int} {T:AD} (h:r = (e,T)) (he:e ≠ 0) : andE r u n = u T e := by subst h; unfold andE; rw [if_pos he]
theorem andE_ok {r:Int × AD} {u:AD → Int → Int × AD} {n:AD → Int × AD} {T:AD} (h:r = (0,T)) : andE r u n = n T := by subst h; unfold andE; simp
section
variable {X S:AD} {p n name:ByteArray} {d:Bytes}
theorem k2_get : alGet (k2 X p).shown p = some X.next := alGet_setN _ _ _
theorem k2_thing : (k2 X p).things X.next = Thg.empty := by show (if X.next = X.next then _ else _) = _; rw [if_pos rfl]
theorem k3_thing : (k3 X p d).things X.next = ⟨[],d,[.wr 0 d]⟩ := by
 show (if X.next = X.next then _ else _) = _
 rw [if_pos rfl,k2_thing]
 have e : (Chg.wr 0 d).made [] (Chg.wr 0 d).units = d := by
  rw [show (Chg.wr 0 d).units = d.length from rfl,ovr_made (Nat.zero_le _) (Nat.le_refl _)]
  simp [ovr]
 show (⟨[],(Chg.wr 0 d).made [] (Chg.wr 0 d).units,[] ++ [.wr 0 d]⟩ : Thg) = _
 rw [e]; rfl
theorem k4_thing : (k4 X p d).things X.next = ⟨d,d,[]⟩ := by
 show (if X.next = X.next then _ else _) = _
 rw [if_pos rfl,k3_thing]; rfl
theorem k_old {t:Nat} (ht:t ≠ X.next) : (k2 X p).things t = X.things t ∧ (k3 X p d).things t = X.things t ∧ (k4 X p d).things t = X.things t := by
 have h2 : (k2 X p).things t = X.things t := by show (if t = X.next then _ else _) = _; rw [if_neg ht]
 have h3 : (k3 X p d).things t = X.things t := by show (if t = X.next then _ else _) = _; rw [if_neg ht]; exact h2
 exact ⟨h2,h3,by show (if t = X.next then _ else _) = _; rw [if_neg ht]; exact h3⟩
def OffAt (X:AD) (p n:ByteArray) (d:Bytes) (b:Int) (R:Int × AD) : Prop := ∃ b' a'' b'',b ≤ b' ∧ outAt X b' = true ∧ ∃ C,(C = X ∨ C = k2 X p ∨ C = k3 X p d ∨ C = k5 X p n d ∨ C = ku X p) ∧ R = (50,C.cnt a'' b'' true)
def PutOut (X:AD) (p n:ByteArray) (d:Bytes) (rm:Bool) (a b:Int) (R:Int × AD) : Prop :=
 (∃ b',R = (0,(k5 X p n d).synced.cnt (a + 5) b' false)) ∨
 (∃ e a' b',(e = 55 ∨ e = 56) ∧ (R = (e,(ku X p).synced.cnt a' b' false) ∨ R = (e,(if rm then X.synced else X).cnt a' b' false))) ∨
 OffAt X p n d b R
theorem PutOut.mono {rm:Bool} {a b b2:Int} {R:Int × AD} (hb:b2 ≤ b) (h:PutOut X p n d rm a b R) : PutOut X p n d rm a b2 R :=
 h.imp id fun h => h.imp id fun ⟨b',a'',b'',h1,h2⟩ => ⟨b',a'',b'',by omega,h2⟩
theorem put_tail (hp:isName p = true) (hn:isName n = true) (hpn:p ≠ n) (hX:alGet X.shown p = none) (a b:Int) (rm:Bool) :
    PutOut X p n d rm a b (andE ((X.cnt a b false).create p) (fun T e => T.undo p false rm e) fun S2 =>
      andE (S2.append p d) (fun T e => T.undo p true rm e) fun S3 =>
      andE (S3.sync p) (fun T e => T.undo p true rm e) fun S4 =>
      andE (S4.rename p n) (fun T e => T.undo p true rm e) fun S5 =>
      andE S5.syncNames (fun T e => T.undo p true rm e) fun S6 => (0,S6)) := by
  rcases cnt_create (X := X) (a := a) (b := b) hp hX with ⟨h,_⟩ | ⟨e,he,-,h,_⟩ | ⟨ho,h | h⟩
  · rw [andE_ok h]
    have g2 : alGet (k2 X p).shown p = some X.next := k2_get
    have t2 : ((k2 X p).things X.next).shown = [] := by rw [k2_thing]; rfl
    change PutOut X p n d rm a b (andE (((k2 X p).cnt (a + 1) (b + 1) false).append p d) _ _)
    rcases cnt_append (X := k2 X p) (a := a + 1) (b := b + 1) hp g2 d t2 with ⟨h,_⟩ | ⟨e,he,h,_⟩ | ⟨ho,h | h⟩
    · rw [andE_ok h]
      change PutOut X p n d rm a b (andE (((k3 X p d).cnt (a + 1 + 1) (b + 1 + 1) false).sync p) _ _)
      have g3 : alGet (k3 X p d).shown p = some X.next := g2
      have h := cnt_sync (X := k3 X p d) (a := a + 1 + 1) (b := b + 1 + 1) hp g3
      cases ho : outAt (k3 X p d) (b + 1 + 1)
      · simp only [ho,Bool.false_eq_true,if_false] at h
        rw [andE_ok h]
        change PutOut X p n d rm a b (andE (((k4 X p d).cnt (a + 1 + 1 + 1) (b + 1 + 1 + 1) false).rename p n) _ _)
        have g4 : alGet (k4 X p d).shown p = some X.next := g2
        have h := cnt_rename (X := k4 X p d) (a := a + 1 + 1 + 1) (b := b + 1 + 1 + 1) hpn hp hn g4
        cases ho : outAt (k4 X p d) (b + 1 + 1 + 1)
        · simp only [ho,Bool.false_eq_true,if_false] at h
          rw [andE_ok h]
          change PutOut X p n d rm a b (andE (((k5 X p n d).cnt (a + 1 + 1 + 1 + 1) (b + 1 + 1 + 1 + 1) false).syncNames) _ _)
          have h := cnt_syncNames (X := k5 X p n d) (a := a + 1 + 1 + 1 + 1) (b := b + 1 + 1 + 1 + 1)
          cases ho : outAt (k5 X p n d) (b + 1 + 1 + 1 + 1)
          · simp only [ho,Bool.false_eq_true,if_false] at h
            rw [andE_ok h]
            exact .inl ⟨_,by rw [show a + 5 = a + 1 + 1 + 1 + 1 + 1 by omega]; rfl⟩
          · simp only [ho,if_true] at h
            rw [andE_bad h (by decide),undo50]
            exact .inr (.inr ⟨_,_,_,by omega,ho,_,.inr (.inr (.inr (.inl rfl))),rfl⟩)
        · simp only [ho,if_true] at h
          rw [andE_bad h (by decide),undo50]
          exact .inr (.inr ⟨_,_,_,by omega,ho,_,.inr (.inr (.inr (.inl rfl))),rfl⟩)
      · simp only [ho,if_true] at h
        rw [andE_bad h (by decide),undo50]
        exact .inr (.inr ⟨_,_,_,by omega,ho,_,.inr (.inr (.inl rfl)),rfl⟩)
    · rw [andE_bad h (by omega)]
      unfold AD.undo
      rw [if_neg (by omega),if_pos rfl]
      have h := cnt_remove (X := k2 X p) (a := a + 1 + 1) (b := b + 1 + 1) hp g2
      cases ho : outAt (k2 X p) (b + 1 + 1)
      · simp only [ho,Bool.false_eq_true,if_false] at h
        rw [h]
        rw [if_neg (by simp)]
        have h := cnt_syncNames (X := (k2 X p).turned (.take p)) (a := a + 1 + 1 + 1) (b := b + 1 + 1 + 1)
        cases ho : outAt ((k2 X p).turned (.take p)) (b + 1 + 1 + 1)
        · simp only [ho,Bool.false_eq_true,if_false] at h
          rw [h,if_neg (by simp)]
          exact .inr (.inl ⟨e,_,_,he,.inl rfl⟩)
        · simp only [ho,if_true] at h
          rw [h,if_pos (by simp)]
          exact .inr (.inr ⟨_,_,_,by omega,ho,_,.inr (.inr (.inr (.inr rfl))),rfl⟩)
      · simp only [ho,if_true] at h
        rw [h,if_pos (by simp)]
        exact .inr (.inr ⟨_,_,_,by omega,ho,_,.inr (.inr (.inr (.inr rfl))),rfl⟩)
    · rw [andE_bad h (by decide),undo50]
      exact .inr (.inr ⟨b + 1,_,_,by omega,ho,_,.inr (.inl rfl),rfl⟩)
    · rw [andE_bad h (by decide),undo50]
      exact .inr (.inr ⟨b + 1,_,_,by omega,ho,_,.inr (.inr (.inl rfl)),rfl⟩)
  · rw [andE_bad h (by omega)]
    unfold AD.undo
    rw [if_neg (by omega),if_neg (by simp)]
    cases rm
    · rw [if_neg (by simp)]
      exact .inr (.inl ⟨e,_,_,he,.inr rfl⟩)
    · rw [if_pos rfl]
      have h := cnt_syncNames (X := X) (a := a + 1) (b := b + 1)
      cases ho : outAt X (b + 1)
      · simp only [ho,Bool.false_eq_true,if_false] at h
        rw [h,if_neg (by simp)]
        exact .inr (.inl ⟨e,_,_,he,.inr rfl⟩)
      · simp only [ho,if_true] at h
        rw [h,if_pos (by simp)]
        exact .inr (.inr ⟨_,_,_,by omega,ho,_,.inl rfl,rfl⟩)
  · rw [andE_bad h (by decide),undo50]
    exact .inr (.inr ⟨b,_,_,by omega,ho,_,.inl rfl,rfl⟩)
  · rw [andE_bad h (by decide),undo50]
    exact .inr (.inr ⟨b,_,_,by omega,ho,_,.inr (.inl rfl),rfl⟩)
def k1 (S:AD) (p:ByteArray) : AD := if (alGet S.shown p).isSome then S.turned (.take p) else S
theorem k1_get : alGet (k1 S p).shown p = none := by
 unfold k1
 split
 ·show alGet (alDel S.shown p) p = none
  rw [alGet_del,if_pos rfl]
 ·rename_i h; simpa using h
theorem putF_out (ho:S.off = false) (hl:lays name = true) : ∃ a b,S.since ≤ b ∧ a + 5 = S.strokes + (if (alGet S.shown (plusOf name)).isSome then 6 else 5) ∧ PutOut (k1 S (plusOf name)) (plusOf name) name d (alGet S.shown (plusOf name)).isSome a b (S.putF name d) := by
  obtain ⟨hn,hp,hpn⟩ := lays_name hl
  have hs := cnt_self S ho
  have hlk := cnt_look (X := S) (a := S.strokes) (b := S.since) (n := plusOf name) false
  rw [← hs,hp] at hlk
  have hput : S.putF name d = andE (if S.has (plusOf name) then S.remove (plusOf name) else (0,S)) (fun T e => T.undo (plusOf name) false false e) fun S1 =>
      andE (S1.create (plusOf name)) (fun T e => T.undo (plusOf name) false (S.has (plusOf name)) e) fun S2 =>
      andE (S2.append (plusOf name) d) (fun T e => T.undo (plusOf name) true (S.has (plusOf name)) e) fun S3 =>
      andE (S3.sync (plusOf name)) (fun T e => T.undo (plusOf name) true (S.has (plusOf name)) e) fun S4 =>
      andE (S4.rename (plusOf name) name) (fun T e => T.undo (plusOf name) true (S.has (plusOf name)) e) fun S5 =>
      andE S5.syncNames (fun T e => T.undo (plusOf name) true (S.has (plusOf name)) e) fun S6 => (0,S6) := by
    unfold AD.putF
    rw [hl,ho]; rfl
  rw [hput]
  have hX : alGet (k1 S (plusOf name)).shown (plusOf name) = none := k1_get
  cases hg : alGet S.shown (plusOf name) with
  | none =>
    rw [hg] at hlk
    have hh : S.has (plusOf name) = false := by unfold AD.has; rw [hlk]; rfl
    have hk : k1 S (plusOf name) = S := by unfold k1; rw [hg]; rfl
    rw [hh]
    rw [hk] at hX ⊢
    refine ⟨S.strokes,S.since,Int.le_refl _,by simp,?_⟩
    show PutOut S (plusOf name) name d false S.strokes S.since _
    rw [andE_ok (show (if false = true then S.remove (plusOf name) else (0,S)) = (0,S.cnt S.strokes S.since false) by rw [← hs]; rfl)]
    exact put_tail hp hn hpn hX _ _ _
  | some t =>
    rw [hg] at hlk
    have hh : S.has (plusOf name) = true := by unfold AD.has; rw [hlk]; rfl
    have hk : k1 S (plusOf name) = S.turned (.take (plusOf name)) := by unfold k1; rw [hg]; rfl
    rw [hh]
    rw [hk] at hX ⊢
    refine ⟨S.strokes + 1,S.since,by omega,by simp; omega,?_⟩
    show PutOut (S.turned (.take (plusOf name))) (plusOf name) name d true (S.strokes + 1) S.since _
    have h := cnt_remove (X := S) (a := S.strokes) (b := S.since) hp hg
    rw [← hs] at h
    rw [if_pos rfl]
    cases ho : outAt S S.since
    · simp only [ho,Bool.false_eq_true,if_false] at h
      rw [andE_ok h]
      exact PutOut.mono (by omega) (put_tail hp hn hpn hX _ (S.since + 1) _)
    · simp only [ho,if_true] at h
      rw [andE_bad h (by decide),undo50]
      exact .inr (.inr ⟨S.since,_,_,Int.le_refl _,ho,_,.inl rfl,rfl⟩)
end
structure Near (S:AD) (p n:ByteArray) (N:Names) : Prop where
 nd : (alKeys N).Nodup
 rs : rst p n N = rst p n S.shown
 plus : alGet N p = none ∨ alGet N p = alGet S.shown p ∨ alGet N p = some S.next
 name : alGet N n = alGet S.shown n
def foldT (r:List Turn) (l:Names) : Names := r.foldl (fun l c => c.on l) l
theorem foldT_snoc (r:List Turn) (c:Turn) (l:Names) : foldT (r ++ [c]) l = c.on (foldT r l) := by unfold foldT; rw [List.foldl_append]; rfl
def PN (S:AD) (p n:ByteArray) (r:List Turn) : Prop := ∀ k,Near S p n (foldT (r.take k) S.shown)
section
variable {S:AD} {p n name:ByteArray} {d:Bytes}
theorem take_snoc {α:Type} (r:List α) (c:α) (k:Nat) : (r ++ [c]).take k = r.take k ∨ (r ++ [c]).take k = r ++ [c] := by
 by_cases h : k ≤ r.length
 ·left; rw [List.take_append_of_le_length h]
 ·right; rw [List.take_of_length_le]; simp; omega
theorem PN.snoc {r:List Turn} {c:Turn} (h:PN S p n r) (h2:Near S p n (foldT (r ++ [c]) S.shown)) : PN S p n (r ++ [c]) := fun k => by
 rcases take_snoc r c k with e | e
 ·rw [e]; exact h k
 ·rw [e]; exact h2
theorem Near.del {N:Names} (h:Near S p n N) (hpn:p ≠ n) : Near S p n (alDel N p) :=
 ⟨alDel_keys_nodup h.nd p,by rw [rst_del (.inl rfl)]; exact h.rs,.inl (by rw [alGet_del,if_pos rfl]),by rw [alGet_del,if_neg hpn]; exact h.name⟩
theorem Near.put {N:Names} (h:Near S p n N) (hpn:p ≠ n) : Near S p n (setN N p S.next) :=
 ⟨setN_nodup h.nd p _,by rw [rst_set (.inl rfl)]; exact h.rs,.inr (.inr (alGet_setN _ _ _)),by rw [alGet_setN' h.nd,if_neg hpn]; exact h.name⟩
theorem AtRest.near (h:AtRest S) : Near S p n S.shown := ⟨h.nodup,rfl,.inr (.inl rfl),rfl⟩
structure Step1 (S:AD) (p n:ByteArray) (X:AD) : Prop where
 pn : PN S p n X.row
 sh : X.shown = foldT X.row S.shown
 next : S.next ≤ X.next
 safe : X.safe = S.shown
 old : ∀ q ∈ S.shown,X.things q.2 = S.things q.2
theorem Step1.near {X:AD} (h:Step1 S p n X) : Near S p n X.shown := by
 have := h.pn X.row.length
 rw [List.take_length] at this
 rw [h.sh]; exact this
theorem step_rest (h:AtRest S) : Step1 S p n S := ⟨fun k => by rw [h.set.row]; simpa [foldT] using h.near,by rw [h.set.row]; rfl,Nat.le_refl _,h.set.safe,fun _ _ => rfl⟩
theorem Step1.take {X:AD} (h:Step1 S p n X) (hpn:p ≠ n) : Step1 S p n (X.turned (.take p)) := by
 have e : foldT (X.row ++ [.take p]) S.shown = alDel X.shown p := by rw [foldT_snoc,← h.sh]; rfl
 exact ⟨h.pn.snoc (by rw [e]; exact h.near.del hpn),e.symm,h.next,h.safe,h.old⟩
theorem k1_next : (k1 S p).next = S.next := by unfold k1; split <;> rfl
theorem k1_things : (k1 S p).things = S.things := by unfold k1; split <;> rfl
theorem k1_plan : (k1 S p).plan = S.plan := by unfold k1; split <;> rfl
theorem step_k1 (h:AtRest S) (hpn:p ≠ n) : Step1 S p n (k1 S p) := by
 unfold k1
 split
 ·exact (step_rest h).take hpn
 ·exact step_rest h
theorem step_k2 (h:AtRest S) (hpn:p ≠ n) : Step1 S p n (k2 (k1 S p) p) := by
 have h1 := step_k1 (p := p) (n := n) h hpn
 have e : foldT ((k1 S p).row ++ [.mk p (k1 S p).next]) S.shown = setN (k1 S p).shown p S.next := by rw [foldT_snoc,← h1.sh,k1_next]; rfl
 refine ⟨h1.pn.snoc (by rw [e]; exact h1.near.put hpn),by rw [show (k2 (k1 S p) p).row = (k1 S p).row ++ [.mk p (k1 S p).next] from rfl,e,← k1_next (S := S) (p := p)]; rfl,Nat.le_succ_of_le h1.next,h1.safe,fun q hq => ?_⟩
 rw [(k_old (d := []) (by rw [k1_next]; exact Nat.ne_of_lt (h.next hq))).1]
 exact h1.old q hq
theorem step_k4 (h:AtRest S) (hpn:p ≠ n) : Step1 S p n (k4 (k1 S p) p d) := by
 have h2 := step_k2 (p := p) (n := n) h hpn
 exact ⟨h2.pn,h2.sh,h2.next,h2.safe,fun q hq => by rw [(k_old (by rw [k1_next]; exact Nat.ne_of_lt (h.next hq))).2.2,k1_things]⟩
theorem step_ku (h:AtRest S) (hpn:p ≠ n) : Step1 S p n (ku (k1 S p) p) := (step_k2 h hpn).take hpn
theorem k5_shown (h:AtRest S) (hpn:p ≠ n) : (k5 (k1 S p) p n d).shown = setN (alDel (k2 (k1 S p) p).shown p) n S.next := by
 show setN (alDel (k2 (k1 S p) p).shown p) n ((alGet (k2 (k1 S p) p).shown p).getD 0) = _
 rw [k2_get,k1_next]; rfl
theorem k5_names (h:AtRest S) (hpn:p ≠ n) : rst p n (k5 (k1 S p) p n d).shown = rst p n S.shown ∧ alGet (k5 (k1 S p) p n d).shown p = none ∧ alGet (k5 (k1 S p) p n d).shown n = some S.next := by
 have h2 := (step_k2 (p := p) (n := n) h hpn).near
 rw [k5_shown h hpn]
 have hd := (h2.del hpn).nd
 refine ⟨?_,?_,alGet_setN _ _ _⟩
 ·rw [rst_set (.inr rfl),rst_del (.inl rfl)]; exact h2.rs
 ·rw [alGet_setN' hd,if_neg (fun e => hpn e.symm),alGet_del,if_pos rfl]
theorem files_get (S:AD) (m:ByteArray) : alGet S.files m = (alGet S.shown m).map fun t => (S.things t).shown := by
 unfold AD.files; exact alGet_map (fun t => (S.things t).shown) S.shown m
theorem AtRest.plans (h:AtRest S) (pl:PlanA) : AtRest (S.plans pl) ∧ (S.plans pl).files = S.files ∧ (S.plans pl).shown = S.shown ∧ (S.plans pl).strokes = S.strokes := by
 obtain ⟨c,ok⟩ := h.ok
 have e : S.plans pl = { S with plan := pl,since := 0 } := by unfold AD.plans; rw [h.off]; rfl
 exact ⟨⟨by rw [e]; exact ⟨h.set.row,h.set.safe,h.set.things⟩,by rw [e]; exact h.off,c,ok.plans pl⟩,by rw [e]; rfl,by rw [e],by rw [e]⟩
theorem settled_synced {C:AD} (hS:AtRest S) (hold:∀ q ∈ S.shown,C.things q.2 = S.things q.2) (hsh:∀ q ∈ C.shown,q ∈ S.shown ∨ ((C.things q.2).row = [] ∧ (C.things q.2).safe = (C.things q.2).shown)) (a b:Int) : Settled (C.synced.cnt a b false) :=
 ⟨rfl,rfl,fun q hq => by
  rcases hsh q hq with h | h
  ·show (C.things q.2).row = [] ∧ (C.things q.2).safe = (C.things q.2).shown
   rw [hold q h]; exact hS.set.things q h
  ·exact h⟩
theorem rest_files {C:AD} (hS:AtRest S) (hold:∀ q ∈ S.shown,C.things q.2 = S.things q.2) (hrs:rst p n C.shown = rst p n S.shown) : rst p n C.files = rst p n S.files := by
 unfold AD.files
 rw [rst_map (fun t => (C.things t).shown),rst_map (fun t => (S.things t).shown),hrs]
 exact List.map_congr_left fun q hq => by rw [hold q (mem_rst hq)]
theorem k1_sub {q:ByteArray × Nat} (hq:q ∈ (k1 S p).shown) : q ∈ S.shown := by
 unfold k1 at hq
 split at hq
 ·exact (mem_alDel.1 hq).1
 ·exact hq
theorem put_law (h:AtRest S) (hoff:∀ b,S.since ≤ b → outAt S b = false) (hl:lays name = true) :
    ((S.putF name d).1 = 0 ∧ Settled (S.putF name d).2 ∧ alGet (S.putF name d).2.files name = some d ∧ alGet (S.putF name d).2.files (plusOf name) = none ∧ (S.putF name d).2.strokes = S.strokes + (if (alGet S.files (plusOf name)).isSome then 6 else 5) ∧ rst (plusOf name) name (S.putF name d).2.files = rst (plusOf name) name S.files) ∨
    (((S.putF name d).1 = 55 ∨ (S.putF name d).1 = 56) ∧ Settled (S.putF name d).2 ∧ alGet (S.putF name d).2.files name = alGet S.files name ∧ alGet (S.putF name d).2.files (plusOf name) = none ∧ rst (plusOf name) name (S.putF name d).2.files = rst (plusOf name) name S.files) := by
  obtain ⟨hn,hp,hpn⟩ := lays_name hl
  obtain ⟨a,b,hb,hab,ho⟩ := putF_out (d := d) h.off hl
  have hsome : (alGet S.files (plusOf name)).isSome = (alGet S.shown (plusOf name)).isSome := by rw [files_get]; cases alGet S.shown (plusOf name) <;> rfl
  rcases ho with ⟨b',e⟩ | ⟨e',a',b',he,e⟩ | ⟨b',a'',b'',hb',hout,C,hC,e⟩
  · left
    rw [e]
    have h4 := step_k4 (d := d) h hpn
    obtain ⟨x1,x2,x3⟩ := k5_names (d := d) h hpn
    have ht : (k5 (k1 S (plusOf name)) (plusOf name) name d).things S.next = ⟨d,d,[]⟩ := by have := k4_thing (X := k1 S (plusOf name)) (p := plusOf name) (d := d); rw [k1_next] at this; exact this
    refine ⟨rfl,settled_synced (C := k5 (k1 S (plusOf name)) (plusOf name) name d) h h4.old (fun q hq => ?_) _ _,?_,?_,?_,?_⟩
    · rw [k5_shown h hpn] at hq
      rcases mem_setN.1 hq with rfl | ⟨hq,_⟩
      · right; rw [ht]; exact ⟨rfl,rfl⟩
      · rcases mem_setN.1 (mem_alDel.1 hq).1 with rfl | ⟨hq',_⟩
        · exact absurd rfl (mem_alDel.1 hq).2
        · exact .inl (k1_sub hq')
    · show alGet (k5 (k1 S (plusOf name)) (plusOf name) name d).files name = some d
      rw [files_get,x3,Option.map_some,ht]
    · show alGet (k5 (k1 S (plusOf name)) (plusOf name) name d).files (plusOf name) = none
      rw [files_get,x2]; rfl
    · rw [hsome]; exact hab
    · exact rest_files (C := k5 (k1 S (plusOf name)) (plusOf name) name d) h h4.old x1
  · right
    have key : ∀ (C:AD),Step1 S (plusOf name) name C → C.things = (k1 S (plusOf name)).things ∨ C.things = (k2 (k1 S (plusOf name)) (plusOf name)).things → alGet C.shown (plusOf name) = none → (∀ q ∈ C.shown,q ∈ S.shown) → ∀ a b,
        Settled (C.synced.cnt a b false) ∧ alGet (C.synced.cnt a b false).files name = alGet S.files name ∧ alGet (C.synced.cnt a b false).files (plusOf name) = none ∧ rst (plusOf name) name (C.synced.cnt a b false).files = rst (plusOf name) name S.files := by
      intro C h1 _ hno hsub a b
      refine ⟨settled_synced h h1.old (fun q hq => .inl (hsub q hq)) _ _,?_,?_,rest_files (C := C) h h1.old h1.near.rs⟩
      · show alGet C.files name = _
        rw [files_get,files_get,h1.near.name]
        cases hg : alGet S.shown name with
        | none => rfl
        | some t => simp only [Option.map_some]; rw [h1.old _ (mem_of_alGet hg)]
      · show alGet C.files (plusOf name) = _
        rw [files_get,hno]; rfl
    rcases e with e | e
    · rw [e]
      refine ⟨he,key (ku (k1 S (plusOf name)) (plusOf name)) (step_ku h hpn) (.inr rfl) ?_ ?_ _ _⟩
      · show alGet (alDel _ _) _ = none
        rw [alGet_del,if_pos rfl]
      · intro q hq
        obtain ⟨hq1,hq2⟩ := mem_alDel.1 hq
        rcases mem_setN.1 hq1 with rfl | ⟨hq',_⟩
        · exact absurd rfl hq2
        · exact k1_sub hq'
    · rw [e]
      cases hg : (alGet S.shown (plusOf name)).isSome with
      | true =>
        rw [if_pos rfl]
        exact ⟨he,key (k1 S (plusOf name)) (step_k1 h hpn) (.inl rfl) k1_get (fun q hq => k1_sub hq) _ _⟩
      | false =>
        rw [if_neg (by simp)]
        have hk : k1 S (plusOf name) = S := by unfold k1; rw [hg]; rfl
        rw [hk]
        have hnone : alGet S.shown (plusOf name) = none := by simpa using hg
        refine ⟨he,⟨h.set.row,h.set.safe,h.set.things⟩,rfl,?_,rfl⟩
        show alGet S.files (plusOf name) = none
        rw [files_get,hnone]; rfl
  · have : outAt (k1 S (plusOf name)) b' = outAt S b' := by unfold outAt; rw [k1_plan]
    rw [this,hoff b' (by omega)] at hout
    cases hout
end
section
variable {S:AD} {L:List ByteArray}
end
def sizes (fs:List FileA) : Nat := (fs.map fun f => f.2.length).sum
structure Picked (room:Int) (fs:List FileA) : Prop where
 names : ∀ f ∈ fs,isName f.1 = true
 nd : (fs.map (·.1)).Nodup
 sum : (sizes fs:Int) ≤ room
def pickGo {α:Type} (room:Int) : List (FileA × α) → List (FileA × α) → List (FileA × α)
 | [],acc => acc
 | x :: r,acc => if isName x.1.1 = false ∨ ((sizes (acc.map (·.1)) : Nat) : Int) + x.1.2.length > room ∨ (alGet (acc.map (·.1)) x.1.1).isSome = true then pickGo room r acc else pickGo room r (acc ++ [x])
theorem sizes_snoc (fs:List FileA) (f:FileA) : sizes (fs ++ [f]) = sizes fs + f.2.length := by unfold sizes; simp
theorem pickGo_ok {α:Type} {room:Int} : ∀ (r acc:List (FileA × α)),Picked room (acc.map (·.1)) → Picked room ((pickGo room r acc).map (·.1)) ∧ (pickGo room r acc).length ≤ acc.length + r.length
 | [],acc,h => ⟨h,Nat.le_refl _⟩
 | x :: r,acc,h => by
  unfold pickGo
  split
  ·obtain ⟨a,b⟩ := pickGo_ok r acc h
   exact ⟨a,by simp only [List.length_cons]; omega⟩
  ·rename_i hc
   simp only [not_or] at hc
   obtain ⟨c1,c2,c3⟩ := hc
   have hn : isName x.1.1 = true := by simpa using c1
   have hg : alGet (acc.map (·.1)) x.1.1 = none := by simpa using c3
   have h' : Picked room ((acc ++ [x]).map (·.1)) := by
    rw [List.map_append]
    refine ⟨fun f hf => ?_,?_,?_⟩
    ·rcases List.mem_append.1 hf with hf | hf
     ·exact h.names f hf
     ·rw [List.mem_singleton.1 hf]; exact hn
    ·rw [List.map_append,List.nodup_append]
     refine ⟨h.nd,by simp,fun a ha b hb e => ?_⟩
     obtain ⟨f,hf,rfl⟩ := List.mem_map.1 ha
     have hb' : b = x.1.1 := by simpa using hb
     exact alGet_none_iff.1 hg f hf (e.trans hb')
    ·show ((sizes (acc.map (·.1) ++ [x.1]) : Nat) : Int) ≤ room
     rw [sizes_snoc]; omega
   obtain ⟨a,b⟩ := pickGo_ok r (acc ++ [x]) h'
   exact ⟨a,by simp only [List.length_append,List.length_cons,List.length_nil] at b ⊢; omega⟩
section
variable {room:Int} {fs:List FileA}
theorem load_keys : ∀ k,k ≤ fs.length → ∀ n,(∃ t,(n,t) ∈ (AD.loadTo room fs k).shown) ↔ n ∈ (fs.take k).map (·.1) := by
 intro k
 induction k with
 | zero => intro _ n; simp [loadTo_zero,AD.new]
 | succ k ih =>
  intro hk n
  rw [loadTo_succ room (by omega),List.take_succ_eq_append_getElem (by omega),List.map_append,List.mem_append,← ih (by omega) n]
  show (∃ t,(n,t) ∈ setN (AD.loadTo room fs k).shown fs[k].1 (AD.loadTo room fs k).next) ↔ _
  constructor
  ·rintro ⟨t,ht⟩
   rcases mem_setN.1 ht with e | ⟨h,_⟩
   ·right; simp [(Prod.mk.inj e).1]
   ·exact .inl ⟨t,h⟩
  ·rintro (⟨t,ht⟩ | h)
   ·by_cases e : n = fs[k].1
    ·exact ⟨(AD.loadTo room fs k).next,mem_setN.2 (.inl (by rw [e]))⟩
    ·exact ⟨t,mem_setN.2 (.inr ⟨ht,e⟩)⟩
   ·have e : n = fs[k].1 := by simpa using h
    exact ⟨(AD.loadTo room fs k).next,mem_setN.2 (.inl (by rw [e]))⟩
theorem load_fresh (h:Picked room fs) {k:Nat} (hk:k < fs.length) : alGet (AD.loadTo room fs k).shown fs[k].1 = none := by
 refine alGet_none_iff.2 fun p hp e => ?_
 have hm := (load_keys (room := room) (fs := fs) k (by omega) p.1).1 ⟨p.2,hp⟩
 rw [e] at hm
 have hnd := h.nd
 rw [← List.take_append_drop k fs,List.drop_eq_getElem_cons hk,List.map_append,List.nodup_append] at hnd
 exact hnd.2.2 _ hm _ (by rw [List.map_cons]; exact List.mem_cons_self) rfl
theorem load_dup (h:Picked room fs) : ∀ j,j < fs.length → dupAt room fs j = false := by
 intro j hj
 unfold dupAt
 rw [List.getElem?_eq_getElem hj]
 show (alGet (AD.loadTo room fs j).shown fs[j].1).isSome = false
 rw [load_fresh h hj]; rfl
theorem load_things : ∀ k,k ≤ fs.length → ∀ t,((AD.loadTo room fs k).things t).row = [] ∧ ((AD.loadTo room fs k).things t).safe = ((AD.loadTo room fs k).things t).shown := by
 intro k
 induction k with
 | zero => intro _ t; exact ⟨rfl,rfl⟩
 | succ k ih =>
  intro hk t
  rw [loadTo_succ room (by omega)]
  show (if t = (AD.loadTo room fs k).next then (⟨fs[k].2,fs[k].2,[]⟩ : Thg) else (AD.loadTo room fs k).things t).row = [] ∧ (if t = (AD.loadTo room fs k).next then (⟨fs[k].2,fs[k].2,[]⟩ : Thg) else (AD.loadTo room fs k).things t).safe = (if t = (AD.loadTo room fs k).next then (⟨fs[k].2,fs[k].2,[]⟩ : Thg) else (AD.loadTo room fs k).things t).shown
  split
  ·exact ⟨rfl,rfl⟩
  ·exact ih (by omega) t
theorem load_rest : ∀ k,k ≤ fs.length → (AD.loadTo room fs k).off = false ∧ (AD.loadTo room fs k).strokes = 0 ∧ (AD.loadTo room fs k).since = 0 ∧ (AD.loadTo room fs k).plan = .zero := by
 intro k
 induction k with
 | zero => intro _; exact ⟨rfl,rfl,rfl,rfl⟩
 | succ k ih => intro hk; rw [loadTo_succ room (by omega)]; exact ih (by omega)
theorem isName_size {n:ByteArray} (h:isName n = true) : n.size ≤ 112 := by
 unfold isName at h
 simp only [Bool.and_eq_true,decide_eq_true_eq] at h
 exact h.2
theorem sizes_mem : ∀ {fs:List FileA} {f:FileA},f ∈ fs → f.2.length ≤ sizes fs
 | g :: r,f,h => by
  unfold sizes
  rw [List.map_cons,List.sum_cons]
  rcases List.mem_cons.1 h with rfl | h
  ·omega
  ·have := sizes_mem h; unfold sizes at this; omega
theorem load_all (hr:1 ≤ room ∧ room ≤ 1048576) (h:Picked room fs) (hl:fs.length ≤ 256) : AD.loadCode room fs = 0 ∧ AtRest (AD.loadTo room fs fs.length) ∧ (∀ q ∈ (AD.loadTo room fs fs.length).shown,isName q.1 = true) := by
 have hd : ∀ f ∈ fs,f.2.length ≤ 1048576 := fun f hf => by have := sizes_mem hf; have := h.sum; omega
 have hL := fun k hk => loading_to (room := room) hr hl (fun f hf => isName_size (h.names f hf)) hd k hk (fun j hj => load_dup h j (by omega))
 have hu : ∀ k,k ≤ fs.length → (AD.loadTo room fs k).used = sizes (fs.take k) := by
  intro k
  induction k with
  | zero => intro _; rfl
  | succ k ih =>
   intro hk
   rw [loadTo_succ room (by omega),used_add (hL k (by omega)) (load_fresh h (by omega)),ih (by omega),List.take_succ_eq_append_getElem (by omega),sizes_snoc]
 refine ⟨?_,⟨⟨(hL _ (Nat.le_refl _)).row,(hL _ (Nat.le_refl _)).safe,fun q _ => load_things _ (Nat.le_refl _) q.2⟩,(load_rest _ (Nat.le_refl _)).1,0,(hL _ (Nat.le_refl _)).ok⟩,fun q hq => ?_⟩
 ·unfold AD.loadCode
  rw [if_neg (by omega),if_neg (by omega),if_neg,if_neg,if_neg]
  ·rw [hu _ (Nat.le_refl _),List.take_length]; have := h.sum; omega
  ·rw [Bool.not_eq_true,List.any_eq_false]
   intro j hj
   rw [load_dup h j (List.mem_range.1 hj)]; simp
  ·rw [Bool.not_eq_true,List.any_eq_false]
   intro f hf
   rw [h.names f hf]; simp
 ·have := (load_keys (room := room) (fs := fs) _ (Nat.le_refl _) q.1).1 ⟨q.2,hq⟩
  obtain ⟨f,hf,e⟩ := List.mem_map.1 this
  rw [← e]; exact h.names f (List.mem_of_mem_take hf)
end
end Go.Proofs.XDisk
