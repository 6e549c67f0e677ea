/- Whatever the input (where its statement is the second form: of bulk at most 1048576),it answers true and its arguments read as they did; the listed variable is tied to the program's text. -/
import Derived.Test.YteeeggphkhimcaaGreatDoorA11
import Derived.Test.YteeeggphkhimcaaGreatDoorCards
import Derived.Test.YteeeggphkhimcaaGreatDoorA13
set_option linter.unusedVariables false
set_option linter.unusedSimpArgs false
namespace Go.Proofs.YteeeggphkhimcaaGreatDoor
open Go Go.ChangeShapes Go.WideShapes Go.ChangeAt Go.RowKit Go.ChangeMaps Go.Proofs Go.Proofs.XRed Go.Proofs.XHeap Go.Proofs.XSlices Go.Proofs.XRow Go.Proofs.XDisk Tryz
theorem and_t {a b:Bool} (h:a = true) (k:b = true) : (a && b) = true := by rw [h,k]; rfl
set_option maxRecDepth 100000
theorem jf_fileNothing_0 : (fun (P:Program) (f:FuncId) (fn:Func) (s:ChangeSpec) (c:OpenClaim) => (c.wf (OpenSpec.ofChange s) : Bool)) pinned.checked.prog 11 f11 (Rows.fileNothingSpec) Rows.fileNothingRow = true := by kernel_rfl
theorem jfP_1 : (fun (P:Program) => (laidOutB P:Bool)) pinned.checked.prog = true := by kernel_rfl
theorem jfP_2 : (fun (P:Program) => (mapsRowed P:Bool)) pinned.checked.prog = true := by kernel_rfl
theorem jf_fileNothing_3 : (fun (P:Program) (f:FuncId) (fn:Func) (s:ChangeSpec) (c:OpenClaim) => (fn.params.all (P.readableRec ·) : Bool)) pinned.checked.prog 11 f11 (Rows.fileNothingSpec) Rows.fileNothingRow = true := by kernel_rfl
theorem jf_fileNothing_4 : (fun (P:Program) (f:FuncId) (fn:Func) (s:ChangeSpec) (c:OpenClaim) => (namedTie P c.named s.vars : Bool)) pinned.checked.prog 11 f11 (Rows.fileNothingSpec) Rows.fileNothingRow = true := by kernel_rfl
theorem jf_fileNothing_5 : (fun (P:Program) (f:FuncId) (fn:Func) (s:ChangeSpec) (c:OpenClaim) => ((c.stops == []) : Bool)) pinned.checked.prog 11 f11 (Rows.fileNothingSpec) Rows.fileNothingRow = true := by kernel_rfl
theorem jfP_6 : (fun (P:Program) => ((P.stops == []) : Bool)) pinned.checked.prog = true := by kernel_rfl
theorem jf_fileNothing_7 : (fun (P:Program) (f:FuncId) (fn:Func) (s:ChangeSpec) (c:OpenClaim) => ((c.knobs == []) : Bool)) pinned.checked.prog 11 f11 (Rows.fileNothingSpec) Rows.fileNothingRow = true := by kernel_rfl
theorem jfP_8 : (fun (P:Program) => ((P.stopKnobs == []) : Bool)) pinned.checked.prog = true := by kernel_rfl
theorem jf_fileNothing_9 : (fun (P:Program) (f:FuncId) (fn:Func) (s:ChangeSpec) (c:OpenClaim) => ((c.inPlace == P.inPlace f) : Bool)) pinned.checked.prog 11 f11 (Rows.fileNothingSpec) Rows.fileNothingRow = true := by kernel_rfl
theorem jf_fileNothing_10 : (fun (P:Program) (f:FuncId) (fn:Func) (s:ChangeSpec) (c:OpenClaim) => ((c.unfollowed == P.unfollowed f) : Bool)) pinned.checked.prog 11 f11 (Rows.fileNothingSpec) Rows.fileNothingRow = true := by kernel_rfl
theorem jf_fileNothing_11 : (fun (P:Program) (f:FuncId) (fn:Func) (s:ChangeSpec) (c:OpenClaim) => ((c.recurses == P.recurses f) : Bool)) pinned.checked.prog 11 f11 (Rows.fileNothingSpec) Rows.fileNothingRow = true := by kernel_rfl
theorem jf_fileNothing_12 : (fun (P:Program) (f:FuncId) (fn:Func) (s:ChangeSpec) (c:OpenClaim) => ((c.named == P.varsNamed f) : Bool)) pinned.checked.prog 11 f11 (Rows.fileNothingSpec) Rows.fileNothingRow = true := by kernel_rfl
theorem jf_fileNothing_13 : (fun (P:Program) (f:FuncId) (fn:Func) (s:ChangeSpec) (c:OpenClaim) => ((c.maps == (fn.params.toList ++ s.plain.varTypes P).any (P.mapsRec ·)) : Bool)) pinned.checked.prog 11 f11 (Rows.fileNothingSpec) Rows.fileNothingRow = true := by kernel_rfl
theorem jf_fileNothing_14 : (fun (P:Program) (f:FuncId) (fn:Func) (s:ChangeSpec) (c:OpenClaim) => ((c.ifaces == (fn.params.toList ++ s.plain.varTypes P).any (P.ifacesRec ·)) : Bool)) pinned.checked.prog 11 f11 (Rows.fileNothingSpec) Rows.fileNothingRow = true := by kernel_rfl
theorem jf_fileNothing_15 : (fun (P:Program) (f:FuncId) (fn:Func) (s:ChangeSpec) (c:OpenClaim) => ((c.mapsOut == P.mapsAmong fn.resultTypes.toList) : Bool)) pinned.checked.prog 11 f11 (Rows.fileNothingSpec) Rows.fileNothingRow = true := by kernel_rfl
theorem jf_fileNothing_16 : (fun (P:Program) (f:FuncId) (fn:Func) (s:ChangeSpec) (c:OpenClaim) => ((c.loops == (fn.params.toList ++ s.plain.varTypes P).any (P.loopsFrom ·)) : Bool)) pinned.checked.prog 11 f11 (Rows.fileNothingSpec) Rows.fileNothingRow = true := by kernel_rfl
theorem jf_fileNothing_17 : (fun (P:Program) (f:FuncId) (fn:Func) (s:ChangeSpec) (c:OpenClaim) => ((c.wideKeys == (fn.params.toList ++ s.plain.varTypes P ++ fn.resultTypes.toList).any (P.wideKeysFrom ·)) : Bool)) pinned.checked.prog 11 f11 (Rows.fileNothingSpec) Rows.fileNothingRow = true := by kernel_rfl
theorem jf_fileNothing_18 : (fun (P:Program) (f:FuncId) (fn:Func) (s:ChangeSpec) (c:OpenClaim) => (s.vars.all (P.varReadable ·) : Bool)) pinned.checked.prog 11 f11 (Rows.fileNothingSpec) Rows.fileNothingRow = true := by kernel_rfl
theorem jf_fileNothing_19 : (fun (P:Program) (f:FuncId) (fn:Func) (s:ChangeSpec) (c:OpenClaim) => (fn.resultTypes.all (fun t => P.readableRec t && decide (t < P.types.size)) : Bool)) pinned.checked.prog 11 f11 (Rows.fileNothingSpec) Rows.fileNothingRow = true := by kernel_rfl
theorem jf_fileNothing_20 : (fun (P:Program) (f:FuncId) (fn:Func) (s:ChangeSpec) (c:OpenClaim) => ((c.ifacesOut == fn.resultTypes.toList.any (P.ifacesRec ·)) : Bool)) pinned.checked.prog 11 f11 (Rows.fileNothingSpec) Rows.fileNothingRow = true := by kernel_rfl
theorem jf_fileNothing_21 : (fun (P:Program) (f:FuncId) (fn:Func) (s:ChangeSpec) (c:OpenClaim) => ((c.loopsOut == fn.resultTypes.toList.any (P.loopsFrom ·)) : Bool)) pinned.checked.prog 11 f11 (Rows.fileNothingSpec) Rows.fileNothingRow = true := by kernel_rfl
theorem jf_fileNothing_22 : (fun (P:Program) (f:FuncId) (fn:Func) (s:ChangeSpec) (c:OpenClaim) => ((c.plainKeys == P.plainKeys) : Bool)) pinned.checked.prog 11 f11 (Rows.fileNothingSpec) Rows.fileNothingRow = true := by kernel_rfl
theorem jf_fileNothing_23 : (fun (P:Program) (f:FuncId) (fn:Func) (s:ChangeSpec) (c:OpenClaim) => (c.shortTexts.isNone : Bool)) pinned.checked.prog 11 f11 (Rows.fileNothingSpec) Rows.fileNothingRow = true := by kernel_rfl
theorem jfP_24 : (fun (P:Program) => (P.stopsHeard : Bool)) pinned.checked.prog = true := by kernel_rfl
theorem jfP_25 : (fun (P:Program) => (P.mayEnter : Bool)) pinned.checked.prog = true := by kernel_rfl
theorem jf_fileNothing_26 : (fun (P:Program) (f:FuncId) (fn:Func) (s:ChangeSpec) (c:OpenClaim) => ((c.lifted == P.liftsFinal) : Bool)) pinned.checked.prog 11 f11 (Rows.fileNothingSpec) Rows.fileNothingRow = true := by kernel_rfl
theorem jf_fileNothing_27 : (fun (P:Program) (f:FuncId) (fn:Func) (s:ChangeSpec) (c:OpenClaim) => ((P.make == some c.make) : Bool)) pinned.checked.prog 11 f11 (Rows.fileNothingSpec) Rows.fileNothingRow = true := by kernel_rfl
theorem jf_fileNothing_28 : (fun (P:Program) (f:FuncId) (fn:Func) (s:ChangeSpec) (c:OpenClaim) => ((c.kinds == (if c.domain.isEmpty then [] else fn.params.toList.map fun t => match P.underlying t with | some (.int k) => some k | _ => none)) : Bool)) pinned.checked.prog 11 f11 (Rows.fileNothingSpec) Rows.fileNothingRow = true := by kernel_rfl
theorem jf_fileNothing_29 : (fun (P:Program) (f:FuncId) (fn:Func) (s:ChangeSpec) (c:OpenClaim) => ((c.pinned == c.pinnedBy) : Bool)) pinned.checked.prog 11 f11 (Rows.fileNothingSpec) Rows.fileNothingRow = true := by kernel_rfl
theorem jf_fileNothing_30 : (fun (P:Program) (f:FuncId) (fn:Func) (s:ChangeSpec) (c:OpenClaim) => ((c.veiled == (fn.params.toList ++ s.plain.varTypes P ++ fn.resultTypes.toList).any (P.veiledRec ·)) : Bool)) pinned.checked.prog 11 f11 (Rows.fileNothingSpec) Rows.fileNothingRow = true := by kernel_rfl
theorem jf_fileNothing_31 : (fun (P:Program) (f:FuncId) (fn:Func) (s:ChangeSpec) (c:OpenClaim) => (c.veiledFits P fn.params.toList (fn.params.toList ++ s.plain.varTypes P ++ fn.resultTypes.toList) : Bool)) pinned.checked.prog 11 f11 (Rows.fileNothingSpec) Rows.fileNothingRow = true := by kernel_rfl
theorem jf_fileNothing : joinedFacts pinned.checked.prog 11 f11 (Rows.fileNothingSpec) Rows.fileNothingRow = true := by
 unfold joinedFacts
 exact (and_t (and_t (and_t (and_t (and_t (and_t (and_t (and_t (and_t (and_t (and_t (and_t (and_t (and_t (and_t (and_t (and_t (and_t (and_t (and_t (and_t (and_t (and_t (and_t (and_t (and_t (and_t (and_t (and_t (and_t (and_t jf_fileNothing_0 jfP_1) jfP_2) jf_fileNothing_3) jf_fileNothing_4) jf_fileNothing_5) jfP_6) jf_fileNothing_7) jfP_8) jf_fileNothing_9) jf_fileNothing_10) jf_fileNothing_11) jf_fileNothing_12) jf_fileNothing_13) jf_fileNothing_14) jf_fileNothing_15) jf_fileNothing_16) jf_fileNothing_17) jf_fileNothing_18) jf_fileNothing_19) jf_fileNothing_20) jf_fileNothing_21) jf_fileNothing_22) jf_fileNothing_23) jfP_24) jfP_25) jf_fileNothing_26) jf_fileNothing_27) jf_fileNothing_28) jf_fileNothing_29) jf_fileNothing_30) jf_fileNothing_31)
set_option maxRecDepth 100000 in
theorem fileNothing_lifted (os:Os) (started:os.Started) (H:Type) (enc:TypeId × Value → H) :
    ReturnsInHanded {} checked os 11 .any (fun w args => (Rows.fileNothingSpec.pre enc prog f11 Rows.fileNothingRow.domain false w args ∧ laidMetH prog laidE w) ∧ sizedMet enc prog f11 (OpenSpec.ofChange Rows.fileNothingSpec) false w args)
      (Rows.fileNothingSpec.post enc prog f11 false true false false) := by
  refine returnsInHanded_of_change_and (C := checked) (X := fun w _ => laidMetH prog laidE w) (fun _ _ _ hh h => h.of_heap hh) own1 started (by kernel_rfl) func11
    (ChangeSpec.witness_at (enc := enc) (C := checked) (os := os) (X := fun w _ => laidMetH prog laidE w) false (laidWorld os) #[.string ⟨#[]⟩,.slice none 0 0] 8 rfl (by kernel_rfl) (by kernel_rfl) (by kernel_rfl) (by kernel_rfl) (by kernel_rfl) (laidWorld_met os _)) ?_
  intro W base args ds gs before hval0 hW _ hsz0 hL _
  have hsz : (DataW.weightsEach prog (f11.params.toList ++ Rows.fileNothingSpec.plain.varTypes prog) (ds ++ gs)).all (· ≤ reachBytes) = true := hsz0
  have hval : ∀ (j:Nat) t v,f11.params[j]? = some t → args[j]? = some v → Value.okWide prog W .any base t v := hval0
  have hg : ErrT W := errT_of_laid hL
  have hW' := hW
  obtain ⟨p,q,hA0,hV,rfl,hfz,hnd⟩ := hW
  have hA : DataW.TrodAll enc prog W 0 (fun _ => true) true f11.params.toList args.toList ds p := hA0
  rw [params11] at hA hval hsz
  obtain ⟨v0,v1,d0,d1,p0,p1,rfl,rfl,rfl,h0,h1⟩ := trodAll_two hA
  obtain ⟨rfl,rfl⟩ := trodVars_none hV
  obtain ⟨n0,rfl,rfl,rfl,wr0⟩ := open_string underlying9 (hval 0 9 v0 rfl rfl) h0
  obtain ⟨dd1,hS1,hN1⟩ := open_bytesV (hval 1 23 v1 rfl rfl) h1
  simp only [List.append_nil] at hW'
  refine (calls_true func11 (by kernel_rfl) (by kernel_rfl) (args := [.string n0,v1]) (w_fileNothing hg (small_max wr0) hS1 (fine fun b hb => hb.elim))).mono fun e W' ⟨he,hb⟩ => ?_
  subst he
  have hlt := hW'.lt
  refine ⟨_,rfl,post_of_below (pa := [] ++ p1) (pv := []) hW' hb (fun _ _ _ => trodAll_mk1 (shut_bool underlying4 true)) (fun sp hsp => ?_) (fun _ _ => rfl) (by simp) (ok_one (by kernel_rfl) rfl (okWide_bool_mk underlying4 true))⟩
  exact trodAll_mk2 (shut_string underlying9 wr0)
    (stays laid1 (by kernel_rfl) (of_decide_eq_true (by kernel_rfl)) h1 hb (fun x hx => by simpa using hlt x (by simp [hx])) (fun x hx => hsp x (by simp [hx])))
theorem fileNothing_row : Rows.FileNothingSaid :=
 OpenClaim.holds_of_wide 11 f11 rfl rfl rfl rfl rfl rfl rfl ⟨rfl,rfl,rfl,rfl,rfl⟩ rfl rfl rfl rfl rfl (by kernel_rfl) func11 jf_fileNothing
  (of_decide_eq_true (by kernel_rfl)) (by unfold Func.isWrapper; first | (rw [if_pos (by decide +kernel)]; kernel_rfl) | (rw [if_neg (by decide +kernel)]; exact ⟨rfl,rfl⟩))
  (fun os started H enc _ => fileNothing_lifted os started H enc)
theorem card_main : pinned.checked.prog.mainIs = some (((true, "e2fd597f68339d58e2cd7402b2b16b88dd1d465b5a0cd4c739323f2d73a7ef6c") : Bool × String).1, ((true, "e2fd597f68339d58e2cd7402b2b16b88dd1d465b5a0cd4c739323f2d73a7ef6c") : Bool × String).2.toList) := by kernel_rfl
theorem card_looks : true = pinned.checked.prog.looks [] := by kernel_rfl
theorem card_wf_fileNothing : Rows.fileNothingRow.wfByText (OpenSpec.ofChange Rows.fileNothingSpec) = true := by kernel_rfl
theorem card_goes_fileNothing : false = Rows.fileNothingRow.goesBy pinned.checked.prog := by kernel_rfl
theorem card_in_fileNothing : (f11.params.toList.all fun t => pinned.checked.prog.wantsStandIn t == false) = true := by kernel_rfl
theorem card_name_fileNothing : pinned.checked.prog.funcNamed "freight/freightlaw6.FileNothing" = some 11 := by kernel_rfl
theorem fileNothing_holds : Rows.FileNothingCardSaid :=
 Claim7.holds_tied_plain_at .later [] [.handle] true (true, "e2fd597f68339d58e2cd7402b2b16b88dd1d465b5a0cd4c739323f2d73a7ef6c") true
  fileNothing_row (fun _ h => by cases h) card_wf_fileNothing (fun _ h => by cases h) fileNothing_row_tie rfl ⟨rfl,rfl⟩ card_main rfl
  (fun f fn hf hfn => by
   obtain rfl : f = 11 := Option.some.inj (card_name_fileNothing.symm.trans hf) |>.symm
   obtain rfl : fn = f11 := (Option.some.inj (func11.symm.trans hfn)).symm
   refine ⟨card_looks,fun j t ht => ?_⟩
   have hm : t ∈ f11.params.toList := by rw [Array.mem_toList_iff]; exact Array.mem_of_getElem? ht
   exact eq_of_beq (List.all_eq_true.1 card_in_fileNothing t hm))
  card_goes_fileNothing
#print axioms fileNothing_holds
end Go.Proofs.YteeeggphkhimcaaGreatDoor
