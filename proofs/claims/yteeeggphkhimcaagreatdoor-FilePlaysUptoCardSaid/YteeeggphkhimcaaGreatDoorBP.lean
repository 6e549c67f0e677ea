/- Whatever the input (where its statement is the second form: of bulk at most 1048576),it answers true and its arguments read as they did; the listed variable is tied to the program's text. -/
import Derived.Test.YteeeggphkhimcaaGreatDoorB18
import Derived.Test.YteeeggphkhimcaaGreatDoorCards
import Derived.Test.YteeeggphkhimcaaGreatDoorB23
set_option linter.unusedVariables false
set_option linter.unusedSimpArgs false
namespace Go.Proofs.YteeeggphkhimcaaGreatDoor
open Go Go.ChangeShapes Go.WideShapes Go.ChangeAt Go.RowKit Go.ChangeMaps Go.Proofs Go.Proofs.XRed Go.Proofs.XHeap Go.Proofs.XSlices Go.Proofs.XRow Go.Proofs.XDisk Tryz
theorem and_t {a b:Bool} (h:a = true) (k:b = true) : (a && b) = true := by rw [h,k]; rfl
set_option maxRecDepth 100000
theorem jf_filePlays_0 : (fun (P:Program) (f:FuncId) (fn:Func) (s:ChangeSpec) (c:OpenClaim) => (c.wf (OpenSpec.ofChange s) : Bool)) pinned.checked.prog 16 f16 ((Rows.OpenSpec.upto Rows.filePlaysSpec).bare) Rows.filePlaysUptoRow = true := by kernel_rfl
theorem jfP_1 : (fun (P:Program) => (laidOutB P:Bool)) pinned.checked.prog = true := by kernel_rfl
theorem jfP_2 : (fun (P:Program) => (mapsRowed P:Bool)) pinned.checked.prog = true := by kernel_rfl
theorem jf_filePlays_3 : (fun (P:Program) (f:FuncId) (fn:Func) (s:ChangeSpec) (c:OpenClaim) => (fn.params.all (P.readableRec ·) : Bool)) pinned.checked.prog 16 f16 ((Rows.OpenSpec.upto Rows.filePlaysSpec).bare) Rows.filePlaysUptoRow = true := by kernel_rfl
theorem jf_filePlays_4 : (fun (P:Program) (f:FuncId) (fn:Func) (s:ChangeSpec) (c:OpenClaim) => (namedTie P c.named s.vars : Bool)) pinned.checked.prog 16 f16 ((Rows.OpenSpec.upto Rows.filePlaysSpec).bare) Rows.filePlaysUptoRow = true := by kernel_rfl
theorem jf_filePlays_5 : (fun (P:Program) (f:FuncId) (fn:Func) (s:ChangeSpec) (c:OpenClaim) => ((c.stops == []) : Bool)) pinned.checked.prog 16 f16 ((Rows.OpenSpec.upto Rows.filePlaysSpec).bare) Rows.filePlaysUptoRow = true := by kernel_rfl
theorem jfP_6 : (fun (P:Program) => ((P.stops == []) : Bool)) pinned.checked.prog = true := by kernel_rfl
theorem jf_filePlays_7 : (fun (P:Program) (f:FuncId) (fn:Func) (s:ChangeSpec) (c:OpenClaim) => ((c.knobs == []) : Bool)) pinned.checked.prog 16 f16 ((Rows.OpenSpec.upto Rows.filePlaysSpec).bare) Rows.filePlaysUptoRow = true := by kernel_rfl
theorem jfP_8 : (fun (P:Program) => ((P.stopKnobs == []) : Bool)) pinned.checked.prog = true := by kernel_rfl
theorem jf_filePlays_9 : (fun (P:Program) (f:FuncId) (fn:Func) (s:ChangeSpec) (c:OpenClaim) => ((c.inPlace == P.inPlace f) : Bool)) pinned.checked.prog 16 f16 ((Rows.OpenSpec.upto Rows.filePlaysSpec).bare) Rows.filePlaysUptoRow = true := by kernel_rfl
theorem jf_filePlays_10 : (fun (P:Program) (f:FuncId) (fn:Func) (s:ChangeSpec) (c:OpenClaim) => ((c.unfollowed == P.unfollowed f) : Bool)) pinned.checked.prog 16 f16 ((Rows.OpenSpec.upto Rows.filePlaysSpec).bare) Rows.filePlaysUptoRow = true := by kernel_rfl
theorem jf_filePlays_11 : (fun (P:Program) (f:FuncId) (fn:Func) (s:ChangeSpec) (c:OpenClaim) => ((c.recurses == P.recurses f) : Bool)) pinned.checked.prog 16 f16 ((Rows.OpenSpec.upto Rows.filePlaysSpec).bare) Rows.filePlaysUptoRow = true := by kernel_rfl
theorem jf_filePlays_12 : (fun (P:Program) (f:FuncId) (fn:Func) (s:ChangeSpec) (c:OpenClaim) => ((c.named == P.varsNamed f) : Bool)) pinned.checked.prog 16 f16 ((Rows.OpenSpec.upto Rows.filePlaysSpec).bare) Rows.filePlaysUptoRow = true := by kernel_rfl
theorem jf_filePlays_13 : (fun (P:Program) (f:FuncId) (fn:Func) (s:ChangeSpec) (c:OpenClaim) => ((c.maps == (fn.params.toList ++ s.plain.varTypes P).any (P.mapsRec ·)) : Bool)) pinned.checked.prog 16 f16 ((Rows.OpenSpec.upto Rows.filePlaysSpec).bare) Rows.filePlaysUptoRow = true := by kernel_rfl
theorem jf_filePlays_14 : (fun (P:Program) (f:FuncId) (fn:Func) (s:ChangeSpec) (c:OpenClaim) => ((c.ifaces == (fn.params.toList ++ s.plain.varTypes P).any (P.ifacesRec ·)) : Bool)) pinned.checked.prog 16 f16 ((Rows.OpenSpec.upto Rows.filePlaysSpec).bare) Rows.filePlaysUptoRow = true := by kernel_rfl
theorem jf_filePlays_15 : (fun (P:Program) (f:FuncId) (fn:Func) (s:ChangeSpec) (c:OpenClaim) => ((c.mapsOut == P.mapsAmong fn.resultTypes.toList) : Bool)) pinned.checked.prog 16 f16 ((Rows.OpenSpec.upto Rows.filePlaysSpec).bare) Rows.filePlaysUptoRow = true := by kernel_rfl
theorem jf_filePlays_16 : (fun (P:Program) (f:FuncId) (fn:Func) (s:ChangeSpec) (c:OpenClaim) => ((c.loops == (fn.params.toList ++ s.plain.varTypes P).any (P.loopsFrom ·)) : Bool)) pinned.checked.prog 16 f16 ((Rows.OpenSpec.upto Rows.filePlaysSpec).bare) Rows.filePlaysUptoRow = true := by kernel_rfl
theorem jf_filePlays_17 : (fun (P:Program) (f:FuncId) (fn:Func) (s:ChangeSpec) (c:OpenClaim) => ((c.wideKeys == (fn.params.toList ++ s.plain.varTypes P ++ fn.resultTypes.toList).any (P.wideKeysFrom ·)) : Bool)) pinned.checked.prog 16 f16 ((Rows.OpenSpec.upto Rows.filePlaysSpec).bare) Rows.filePlaysUptoRow = true := by kernel_rfl
theorem jf_filePlays_18 : (fun (P:Program) (f:FuncId) (fn:Func) (s:ChangeSpec) (c:OpenClaim) => (s.vars.all (P.varReadable ·) : Bool)) pinned.checked.prog 16 f16 ((Rows.OpenSpec.upto Rows.filePlaysSpec).bare) Rows.filePlaysUptoRow = true := by kernel_rfl
theorem jf_filePlays_19 : (fun (P:Program) (f:FuncId) (fn:Func) (s:ChangeSpec) (c:OpenClaim) => (fn.resultTypes.all (fun t => P.readableRec t && decide (t < P.types.size)) : Bool)) pinned.checked.prog 16 f16 ((Rows.OpenSpec.upto Rows.filePlaysSpec).bare) Rows.filePlaysUptoRow = true := by kernel_rfl
theorem jf_filePlays_20 : (fun (P:Program) (f:FuncId) (fn:Func) (s:ChangeSpec) (c:OpenClaim) => ((c.ifacesOut == fn.resultTypes.toList.any (P.ifacesRec ·)) : Bool)) pinned.checked.prog 16 f16 ((Rows.OpenSpec.upto Rows.filePlaysSpec).bare) Rows.filePlaysUptoRow = true := by kernel_rfl
theorem jf_filePlays_21 : (fun (P:Program) (f:FuncId) (fn:Func) (s:ChangeSpec) (c:OpenClaim) => ((c.loopsOut == fn.resultTypes.toList.any (P.loopsFrom ·)) : Bool)) pinned.checked.prog 16 f16 ((Rows.OpenSpec.upto Rows.filePlaysSpec).bare) Rows.filePlaysUptoRow = true := by kernel_rfl
theorem jf_filePlays_22 : (fun (P:Program) (f:FuncId) (fn:Func) (s:ChangeSpec) (c:OpenClaim) => ((c.plainKeys == P.plainKeys) : Bool)) pinned.checked.prog 16 f16 ((Rows.OpenSpec.upto Rows.filePlaysSpec).bare) Rows.filePlaysUptoRow = true := by kernel_rfl
theorem jf_filePlays_23 : (fun (P:Program) (f:FuncId) (fn:Func) (s:ChangeSpec) (c:OpenClaim) => (c.shortTexts.isNone : Bool)) pinned.checked.prog 16 f16 ((Rows.OpenSpec.upto Rows.filePlaysSpec).bare) Rows.filePlaysUptoRow = true := by kernel_rfl
theorem jfP_24 : (fun (P:Program) => (P.stopsHeard : Bool)) pinned.checked.prog = true := by kernel_rfl
theorem jfP_25 : (fun (P:Program) => (P.mayEnter : Bool)) pinned.checked.prog = true := by kernel_rfl
theorem jf_filePlays_26 : (fun (P:Program) (f:FuncId) (fn:Func) (s:ChangeSpec) (c:OpenClaim) => ((c.lifted == P.liftsFinal) : Bool)) pinned.checked.prog 16 f16 ((Rows.OpenSpec.upto Rows.filePlaysSpec).bare) Rows.filePlaysUptoRow = true := by kernel_rfl
theorem jf_filePlays_27 : (fun (P:Program) (f:FuncId) (fn:Func) (s:ChangeSpec) (c:OpenClaim) => ((P.make == some c.make) : Bool)) pinned.checked.prog 16 f16 ((Rows.OpenSpec.upto Rows.filePlaysSpec).bare) Rows.filePlaysUptoRow = true := by kernel_rfl
theorem jf_filePlays_28 : (fun (P:Program) (f:FuncId) (fn:Func) (s:ChangeSpec) (c:OpenClaim) => ((c.kinds == (if c.domain.isEmpty then [] else fn.params.toList.map fun t => match P.underlying t with | some (.int k) => some k | _ => none)) : Bool)) pinned.checked.prog 16 f16 ((Rows.OpenSpec.upto Rows.filePlaysSpec).bare) Rows.filePlaysUptoRow = true := by kernel_rfl
theorem jf_filePlays_29 : (fun (P:Program) (f:FuncId) (fn:Func) (s:ChangeSpec) (c:OpenClaim) => ((c.pinned == c.pinnedBy) : Bool)) pinned.checked.prog 16 f16 ((Rows.OpenSpec.upto Rows.filePlaysSpec).bare) Rows.filePlaysUptoRow = true := by kernel_rfl
theorem jf_filePlays_30 : (fun (P:Program) (f:FuncId) (fn:Func) (s:ChangeSpec) (c:OpenClaim) => ((c.veiled == (fn.params.toList ++ s.plain.varTypes P ++ fn.resultTypes.toList).any (P.veiledRec ·)) : Bool)) pinned.checked.prog 16 f16 ((Rows.OpenSpec.upto Rows.filePlaysSpec).bare) Rows.filePlaysUptoRow = true := by kernel_rfl
theorem jf_filePlays_31 : (fun (P:Program) (f:FuncId) (fn:Func) (s:ChangeSpec) (c:OpenClaim) => (c.veiledFits P fn.params.toList (fn.params.toList ++ s.plain.varTypes P ++ fn.resultTypes.toList) : Bool)) pinned.checked.prog 16 f16 ((Rows.OpenSpec.upto Rows.filePlaysSpec).bare) Rows.filePlaysUptoRow = true := by kernel_rfl
theorem jf_filePlays : joinedFacts pinned.checked.prog 16 f16 ((Rows.OpenSpec.upto Rows.filePlaysSpec).bare) Rows.filePlaysUptoRow = true := by
 unfold joinedFacts
 exact (and_t (and_t (and_t (and_t (and_t (and_t (and_t (and_t (and_t (and_t (and_t (and_t (and_t (and_t (and_t (and_t (and_t (and_t (and_t (and_t (and_t (and_t (and_t (and_t (and_t (and_t (and_t (and_t (and_t (and_t (and_t jf_filePlays_0 jfP_1) jfP_2) jf_filePlays_3) jf_filePlays_4) jf_filePlays_5) jfP_6) jf_filePlays_7) jfP_8) jf_filePlays_9) jf_filePlays_10) jf_filePlays_11) jf_filePlays_12) jf_filePlays_13) jf_filePlays_14) jf_filePlays_15) jf_filePlays_16) jf_filePlays_17) jf_filePlays_18) jf_filePlays_19) jf_filePlays_20) jf_filePlays_21) jf_filePlays_22) jf_filePlays_23) jfP_24) jfP_25) jf_filePlays_26) jf_filePlays_27) jf_filePlays_28) jf_filePlays_29) jf_filePlays_30) jf_filePlays_31)
set_option maxRecDepth 100000 in
theorem filePlays_lifted (os:Os) (started:os.Started) (H:Type) (enc:TypeId × Value → H) (F:Stop.Interp) :
    ReturnsInHanded {} checked os 16 .any (fun w args => ((Rows.OpenSpec.upto Rows.filePlaysSpec).pre enc prog f16 Rows.filePlaysUptoRow.domain false w args ∧ laidMetH prog laidE w) ∧ sizedMet enc prog f16 (Rows.OpenSpec.upto Rows.filePlaysSpec) false w args)
      (((Rows.OpenSpec.upto Rows.filePlaysSpec).at F).post enc prog f16 false true false false) := by
  refine returns_upto_laid (s := Rows.OpenSpec.upto Rows.filePlaysSpec) (k := Rows.uptoSmall) rfl started (by kernel_rfl) func16 (args0 := #[.int .i64 0,.slice none 0 0]) (x := ([.lit (.int .i64 0),.nil],[],[])) (by kernel_rfl) (by kernel_rfl) (by kernel_rfl) (by kernel_rfl) rfl (by kernel_rfl) (by kernel_rfl) ?_
  intro W base args ds gs before hval0 hW _ hk hL _
  have hval : ∀ (j:Nat) t v,f16.params[j]? = some t → args[j]? = some v → Value.okWide prog W .any base t v := hval0
  have hg : ErrT W := errT_of_laid hL
  have hW' := hW
  obtain ⟨p,q,hA0,hV,rfl,hfz,hnd⟩ := hW
  have hA : DataW.TrodAll enc prog W 0 (fun _ => true) true f16.params.toList args.toList ds p := hA0
  rw [params16] at hA hval
  obtain ⟨v0,v1,d0,d1,p0,p1,rfl,rfl,rfl,h0,h1⟩ := trodAll_two hA
  obtain ⟨rfl,rfl⟩ := trodVars_none hV
  have hbulk := bulk_bound hk
  obtain ⟨n0,rfl,rfl,rfl,wr0⟩ := open_int underlying3 (hval 0 3 v0 rfl rfl) h0
  have hb1 : Rows.uptoBulk d1 ≤ 1048576 := Nat.le_trans (bulk_part (l := [.lit (.int .i64 n0),d1] ++ []) (by simp)) hbulk
  obtain ⟨l1,hS1,hB1⟩ := open_script6 hb1 (hval 1 108 v1 rfl rfl) h1
  simp only [List.append_nil] at hW'
  refine (calls_true func16 (by kernel_rfl) (by kernel_rfl) (args := [.int .i64 n0,v1]) (w_plays6S hg (i64_wf wr0) hS1 hB1 (fine fun b hb => hb.elim))).mono fun e W' ⟨he,hb⟩ => ?_
  subst he
  have hlt := hW'.lt
  refine ⟨_,rfl,post_of_below (pa := [] ++ p1) (pv := []) hW' hb (fun _ _ _ => trodAll_mk1 (shut_bool underlying4 true)) (fun sp hsp => ?_) (fun _ _ => rfl) (by simp) (ok_one (by kernel_rfl) rfl (okWide_bool_mk underlying4 true))⟩
  exact trodAll_mk2 (shut_int underlying3 wr0)
    (stays laid1 (by kernel_rfl) (of_decide_eq_true (by kernel_rfl)) h1 hb (fun x hx => by simpa using hlt x (by simp [hx])) (fun x hx => hsp x (by simp [hx])))
theorem filePlays_row : Rows.FilePlaysUptoSaid :=
 OpenClaim.holds_of_cond 16 f16 rfl rfl rfl rfl rfl rfl rfl ⟨rfl,rfl,rfl,rfl,rfl⟩ rfl rfl rfl rfl rfl (by kernel_rfl) func16 jf_filePlays
  (of_decide_eq_true (by kernel_rfl)) (by unfold Func.isWrapper; first | (rw [if_pos (by decide +kernel)]; kernel_rfl) | (rw [if_neg (by decide +kernel)]; exact ⟨rfl,rfl⟩))
  (fun os started H enc _ F => filePlays_lifted os started H enc F)
theorem card_main : pinned.checked.prog.mainIs = some (((true, "e2fd597f68339d58e2cd7402b2b16b88dd1d465b5a0cd4c739323f2d73a7ef6c") : Bool × String).1, ((true, "e2fd597f68339d58e2cd7402b2b16b88dd1d465b5a0cd4c739323f2d73a7ef6c") : Bool × String).2.toList) := by kernel_rfl
theorem card_looks : true = pinned.checked.prog.looks [] := by kernel_rfl
theorem card_wf_filePlays : Rows.filePlaysUptoRow.wfByText (Rows.OpenSpec.upto Rows.filePlaysSpec) = true := by kernel_rfl
theorem card_goes_filePlays : false = Rows.filePlaysUptoRow.goesBy pinned.checked.prog := by kernel_rfl
theorem card_in_filePlays : (f16.params.toList.all fun t => pinned.checked.prog.wantsStandIn t == false) = true := by kernel_rfl
theorem card_name_filePlays : pinned.checked.prog.funcNamed "freight/freightlaw6.FilePlays" = some 16 := by kernel_rfl
theorem filePlays_holds : Rows.FilePlaysUptoCardSaid :=
 Claim7.holds_tied_plain_at .later [] [.handle] true (true, "e2fd597f68339d58e2cd7402b2b16b88dd1d465b5a0cd4c739323f2d73a7ef6c") true
  filePlays_row (fun _ h => by cases h) card_wf_filePlays (fun _ h => by cases h) filePlaysUpto_row_tie rfl ⟨rfl,rfl⟩ card_main rfl
  (fun f fn hf hfn => by
   obtain rfl : f = 16 := Option.some.inj (card_name_filePlays.symm.trans hf) |>.symm
   obtain rfl : fn = f16 := (Option.some.inj (func16.symm.trans hfn)).symm
   refine ⟨card_looks,fun j t ht => ?_⟩
   have hm : t ∈ f16.params.toList := by rw [Array.mem_toList_iff]; exact Array.mem_of_getElem? ht
   exact eq_of_beq (List.all_eq_true.1 card_in_filePlays t hm))
  card_goes_filePlays
#print axioms filePlays_holds
end Go.Proofs.YteeeggphkhimcaaGreatDoor
