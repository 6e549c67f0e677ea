/- Whatever the input (where its statement is the second form: of bulk at most 1048576),it answers true and its arguments read as they did; the listed variable is tied to the program's text. -/
import Derived.Test.YteeeggphkhimcaaGreatDoorH12
import Derived.Test.YteeeggphkhimcaaGreatDoorCards
import Derived.Test.YteeeggphkhimcaaGreatDoorH17
set_option linter.unusedVariables false
set_option linter.unusedSimpArgs false
namespace Go.Proofs.YteeeggphkhimcaaGreatDoor
open Go Go.ChangeShapes Go.WideShapes Go.ChangeAt Go.RowKit Go.ChangeMaps Go.Proofs Go.Proofs.XRed Go.Proofs.XHeap Go.Proofs.XSlices Go.Proofs.XRow Go.Proofs.XDisk Tryz
theorem and_t {a b:Bool} (h:a = true) (k:b = true) : (a && b) = true := by rw [h,k]; rfl
set_option maxRecDepth 100000
theorem jf_fileKeeps_0 : (fun (P:Program) (f:FuncId) (fn:Func) (s:ChangeSpec) (c:OpenClaim) => (c.wf (OpenSpec.ofChange s) : Bool)) pinned.checked.prog 3 f3 (Rows.fileKeepsSpec) Rows.fileKeepsRow = true := by kernel_rfl
theorem jfP_1 : (fun (P:Program) => (laidOutB P:Bool)) pinned.checked.prog = true := by kernel_rfl
theorem jfP_2 : (fun (P:Program) => (mapsRowed P:Bool)) pinned.checked.prog = true := by kernel_rfl
theorem jf_fileKeeps_3 : (fun (P:Program) (f:FuncId) (fn:Func) (s:ChangeSpec) (c:OpenClaim) => (fn.params.all (P.readableRec ·) : Bool)) pinned.checked.prog 3 f3 (Rows.fileKeepsSpec) Rows.fileKeepsRow = true := by kernel_rfl
theorem jf_fileKeeps_4 : (fun (P:Program) (f:FuncId) (fn:Func) (s:ChangeSpec) (c:OpenClaim) => (namedTie P c.named s.vars : Bool)) pinned.checked.prog 3 f3 (Rows.fileKeepsSpec) Rows.fileKeepsRow = true := by kernel_rfl
theorem jf_fileKeeps_5 : (fun (P:Program) (f:FuncId) (fn:Func) (s:ChangeSpec) (c:OpenClaim) => ((c.stops == []) : Bool)) pinned.checked.prog 3 f3 (Rows.fileKeepsSpec) Rows.fileKeepsRow = true := by kernel_rfl
theorem jfP_6 : (fun (P:Program) => ((P.stops == []) : Bool)) pinned.checked.prog = true := by kernel_rfl
theorem jf_fileKeeps_7 : (fun (P:Program) (f:FuncId) (fn:Func) (s:ChangeSpec) (c:OpenClaim) => ((c.knobs == []) : Bool)) pinned.checked.prog 3 f3 (Rows.fileKeepsSpec) Rows.fileKeepsRow = true := by kernel_rfl
theorem jfP_8 : (fun (P:Program) => ((P.stopKnobs == []) : Bool)) pinned.checked.prog = true := by kernel_rfl
theorem jf_fileKeeps_9 : (fun (P:Program) (f:FuncId) (fn:Func) (s:ChangeSpec) (c:OpenClaim) => ((c.inPlace == P.inPlace f) : Bool)) pinned.checked.prog 3 f3 (Rows.fileKeepsSpec) Rows.fileKeepsRow = true := by kernel_rfl
theorem jf_fileKeeps_10 : (fun (P:Program) (f:FuncId) (fn:Func) (s:ChangeSpec) (c:OpenClaim) => ((c.unfollowed == P.unfollowed f) : Bool)) pinned.checked.prog 3 f3 (Rows.fileKeepsSpec) Rows.fileKeepsRow = true := by kernel_rfl
theorem jf_fileKeeps_11 : (fun (P:Program) (f:FuncId) (fn:Func) (s:ChangeSpec) (c:OpenClaim) => ((c.recurses == P.recurses f) : Bool)) pinned.checked.prog 3 f3 (Rows.fileKeepsSpec) Rows.fileKeepsRow = true := by kernel_rfl
theorem jf_fileKeeps_12 : (fun (P:Program) (f:FuncId) (fn:Func) (s:ChangeSpec) (c:OpenClaim) => ((c.named == P.varsNamed f) : Bool)) pinned.checked.prog 3 f3 (Rows.fileKeepsSpec) Rows.fileKeepsRow = true := by kernel_rfl
theorem jf_fileKeeps_13 : (fun (P:Program) (f:FuncId) (fn:Func) (s:ChangeSpec) (c:OpenClaim) => ((c.maps == (fn.params.toList ++ s.plain.varTypes P).any (P.mapsRec ·)) : Bool)) pinned.checked.prog 3 f3 (Rows.fileKeepsSpec) Rows.fileKeepsRow = true := by kernel_rfl
theorem jf_fileKeeps_14 : (fun (P:Program) (f:FuncId) (fn:Func) (s:ChangeSpec) (c:OpenClaim) => ((c.ifaces == (fn.params.toList ++ s.plain.varTypes P).any (P.ifacesRec ·)) : Bool)) pinned.checked.prog 3 f3 (Rows.fileKeepsSpec) Rows.fileKeepsRow = true := by kernel_rfl
theorem jf_fileKeeps_15 : (fun (P:Program) (f:FuncId) (fn:Func) (s:ChangeSpec) (c:OpenClaim) => ((c.mapsOut == P.mapsAmong fn.resultTypes.toList) : Bool)) pinned.checked.prog 3 f3 (Rows.fileKeepsSpec) Rows.fileKeepsRow = true := by kernel_rfl
theorem jf_fileKeeps_16 : (fun (P:Program) (f:FuncId) (fn:Func) (s:ChangeSpec) (c:OpenClaim) => ((c.loops == (fn.params.toList ++ s.plain.varTypes P).any (P.loopsFrom ·)) : Bool)) pinned.checked.prog 3 f3 (Rows.fileKeepsSpec) Rows.fileKeepsRow = true := by kernel_rfl
theorem jf_fileKeeps_17 : (fun (P:Program) (f:FuncId) (fn:Func) (s:ChangeSpec) (c:OpenClaim) => ((c.wideKeys == (fn.params.toList ++ s.plain.varTypes P ++ fn.resultTypes.toList).any (P.wideKeysFrom ·)) : Bool)) pinned.checked.prog 3 f3 (Rows.fileKeepsSpec) Rows.fileKeepsRow = true := by kernel_rfl
theorem jf_fileKeeps_18 : (fun (P:Program) (f:FuncId) (fn:Func) (s:ChangeSpec) (c:OpenClaim) => (s.vars.all (P.varReadable ·) : Bool)) pinned.checked.prog 3 f3 (Rows.fileKeepsSpec) Rows.fileKeepsRow = true := by kernel_rfl
theorem jf_fileKeeps_19 : (fun (P:Program) (f:FuncId) (fn:Func) (s:ChangeSpec) (c:OpenClaim) => (fn.resultTypes.all (fun t => P.readableRec t && decide (t < P.types.size)) : Bool)) pinned.checked.prog 3 f3 (Rows.fileKeepsSpec) Rows.fileKeepsRow = true := by kernel_rfl
theorem jf_fileKeeps_20 : (fun (P:Program) (f:FuncId) (fn:Func) (s:ChangeSpec) (c:OpenClaim) => ((c.ifacesOut == fn.resultTypes.toList.any (P.ifacesRec ·)) : Bool)) pinned.checked.prog 3 f3 (Rows.fileKeepsSpec) Rows.fileKeepsRow = true := by kernel_rfl
theorem jf_fileKeeps_21 : (fun (P:Program) (f:FuncId) (fn:Func) (s:ChangeSpec) (c:OpenClaim) => ((c.loopsOut == fn.resultTypes.toList.any (P.loopsFrom ·)) : Bool)) pinned.checked.prog 3 f3 (Rows.fileKeepsSpec) Rows.fileKeepsRow = true := by kernel_rfl
theorem jf_fileKeeps_22 : (fun (P:Program) (f:FuncId) (fn:Func) (s:ChangeSpec) (c:OpenClaim) => ((c.plainKeys == P.plainKeys) : Bool)) pinned.checked.prog 3 f3 (Rows.fileKeepsSpec) Rows.fileKeepsRow = true := by kernel_rfl
theorem jf_fileKeeps_23 : (fun (P:Program) (f:FuncId) (fn:Func) (s:ChangeSpec) (c:OpenClaim) => (c.shortTexts.isNone : Bool)) pinned.checked.prog 3 f3 (Rows.fileKeepsSpec) Rows.fileKeepsRow = true := by kernel_rfl
theorem jfP_24 : (fun (P:Program) => (P.stopsHeard : Bool)) pinned.checked.prog = true := by kernel_rfl
theorem jfP_25 : (fun (P:Program) => (P.mayEnter : Bool)) pinned.checked.prog = true := by kernel_rfl
theorem jf_fileKeeps_26 : (fun (P:Program) (f:FuncId) (fn:Func) (s:ChangeSpec) (c:OpenClaim) => ((c.lifted == P.liftsFinal) : Bool)) pinned.checked.prog 3 f3 (Rows.fileKeepsSpec) Rows.fileKeepsRow = true := by kernel_rfl
theorem jf_fileKeeps_27 : (fun (P:Program) (f:FuncId) (fn:Func) (s:ChangeSpec) (c:OpenClaim) => ((P.make == some c.make) : Bool)) pinned.checked.prog 3 f3 (Rows.fileKeepsSpec) Rows.fileKeepsRow = true := by kernel_rfl
theorem jf_fileKeeps_28 : (fun (P:Program) (f:FuncId) (fn:Func) (s:ChangeSpec) (c:OpenClaim) => ((c.kinds == (if c.domain.isEmpty then [] else fn.params.toList.map fun t => match P.underlying t with | some (.int k) => some k | _ => none)) : Bool)) pinned.checked.prog 3 f3 (Rows.fileKeepsSpec) Rows.fileKeepsRow = true := by kernel_rfl
theorem jf_fileKeeps_29 : (fun (P:Program) (f:FuncId) (fn:Func) (s:ChangeSpec) (c:OpenClaim) => ((c.pinned == c.pinnedBy) : Bool)) pinned.checked.prog 3 f3 (Rows.fileKeepsSpec) Rows.fileKeepsRow = true := by kernel_rfl
theorem jf_fileKeeps_30 : (fun (P:Program) (f:FuncId) (fn:Func) (s:ChangeSpec) (c:OpenClaim) => ((c.veiled == (fn.params.toList ++ s.plain.varTypes P ++ fn.resultTypes.toList).any (P.veiledRec ·)) : Bool)) pinned.checked.prog 3 f3 (Rows.fileKeepsSpec) Rows.fileKeepsRow = true := by kernel_rfl
theorem jf_fileKeeps_31 : (fun (P:Program) (f:FuncId) (fn:Func) (s:ChangeSpec) (c:OpenClaim) => (c.veiledFits P fn.params.toList (fn.params.toList ++ s.plain.varTypes P ++ fn.resultTypes.toList) : Bool)) pinned.checked.prog 3 f3 (Rows.fileKeepsSpec) Rows.fileKeepsRow = true := by kernel_rfl
theorem jf_fileKeeps : joinedFacts pinned.checked.prog 3 f3 (Rows.fileKeepsSpec) Rows.fileKeepsRow = true := by
 unfold joinedFacts
 exact (and_t (and_t (and_t (and_t (and_t (and_t (and_t (and_t (and_t (and_t (and_t (and_t (and_t (and_t (and_t (and_t (and_t (and_t (and_t (and_t (and_t (and_t (and_t (and_t (and_t (and_t (and_t (and_t (and_t (and_t (and_t jf_fileKeeps_0 jfP_1) jfP_2) jf_fileKeeps_3) jf_fileKeeps_4) jf_fileKeeps_5) jfP_6) jf_fileKeeps_7) jfP_8) jf_fileKeeps_9) jf_fileKeeps_10) jf_fileKeeps_11) jf_fileKeeps_12) jf_fileKeeps_13) jf_fileKeeps_14) jf_fileKeeps_15) jf_fileKeeps_16) jf_fileKeeps_17) jf_fileKeeps_18) jf_fileKeeps_19) jf_fileKeeps_20) jf_fileKeeps_21) jf_fileKeeps_22) jf_fileKeeps_23) jfP_24) jfP_25) jf_fileKeeps_26) jf_fileKeeps_27) jf_fileKeeps_28) jf_fileKeeps_29) jf_fileKeeps_30) jf_fileKeeps_31)
set_option maxRecDepth 100000 in
theorem fileKeeps_lifted (os:Os) (started:os.Started) (H:Type) (enc:TypeId × Value → H) :
    ReturnsInHanded {} checked os 3 .any (fun w args => (Rows.fileKeepsSpec.pre enc prog f3 Rows.fileKeepsRow.domain false w args ∧ laidMetH prog laidE w) ∧ sizedMet enc prog f3 (OpenSpec.ofChange Rows.fileKeepsSpec) false w args)
      (Rows.fileKeepsSpec.post enc prog f3 false true false false) := by
  refine returnsInHanded_of_change_and (C := checked) (X := fun w _ => laidMetH prog laidE w) (fun _ _ _ hh h => h.of_heap hh) own1 started (by kernel_rfl) func3
    (ChangeSpec.witness_at (enc := enc) (C := checked) (os := os) (X := fun w _ => laidMetH prog laidE w) false (laidWorld os) #[.slice none 0 0,.slice none 0 0] 8 rfl (by kernel_rfl) (by kernel_rfl) (by kernel_rfl) (by kernel_rfl) (by kernel_rfl) (laidWorld_met os _)) ?_
  intro W base args ds gs before hval0 hW _ hsz0 hL _
  have hsz : (DataW.weightsEach prog (f3.params.toList ++ Rows.fileKeepsSpec.plain.varTypes prog) (ds ++ gs)).all (· ≤ reachBytes) = true := hsz0
  have hval : ∀ (j:Nat) t v,f3.params[j]? = some t → args[j]? = some v → Value.okWide prog W .any base t v := hval0
  have hg : ErrT W := errT_of_laid hL
  have hW' := hW
  obtain ⟨p,q,hA0,hV,rfl,hfz,hnd⟩ := hW
  have hA : DataW.TrodAll enc prog W 0 (fun _ => true) true f3.params.toList args.toList ds p := hA0
  rw [params3] at hA hval hsz
  obtain ⟨v0,v1,d0,d1,p0,p1,rfl,rfl,rfl,h0,h1⟩ := trodAll_two hA
  obtain ⟨rfl,rfl⟩ := trodVars_none hV
  obtain ⟨dd0,hS0,hN0⟩ := open_namesV (hval 0 22 v0 rfl rfl) h0
  obtain ⟨dd1,hS1,hN1⟩ := open_bytesV (hval 1 23 v1 rfl rfl) h1
  simp only [List.append_nil] at hW'
  refine (calls_true func3 (by kernel_rfl) (by kernel_rfl) (args := [v0,v1]) (w_filesKeeps hg hS0 hN0.1 hS1 (fine fun b hb => hb.elim))).mono fun e W' ⟨he,hb⟩ => ?_
  subst he
  have hlt := hW'.lt
  refine ⟨_,rfl,post_of_below (pa := p0 ++ p1) (pv := []) hW' hb (fun _ _ _ => trodAll_mk1 (shut_bool underlying4 true)) (fun sp hsp => ?_) (fun _ _ => rfl) (by simp) (ok_one (by kernel_rfl) rfl (okWide_bool_mk underlying4 true))⟩
  exact trodAll_mk2 (stays laid1 (by kernel_rfl) (of_decide_eq_true (by kernel_rfl)) h0 hb (fun x hx => by simpa using hlt x (by simp [hx])) (fun x hx => hsp x (by simp [hx])))
    (stays laid1 (by kernel_rfl) (of_decide_eq_true (by kernel_rfl)) h1 hb (fun x hx => by simpa using hlt x (by simp [hx])) (fun x hx => hsp x (by simp [hx])))
theorem fileKeeps_row : Rows.FileKeepsSaid :=
 OpenClaim.holds_of_wide 3 f3 rfl rfl rfl rfl rfl rfl rfl ⟨rfl,rfl,rfl,rfl,rfl⟩ rfl rfl rfl rfl rfl (by kernel_rfl) func3 jf_fileKeeps
  (of_decide_eq_true (by kernel_rfl)) (by unfold Func.isWrapper; first | (rw [if_pos (by decide +kernel)]; kernel_rfl) | (rw [if_neg (by decide +kernel)]; exact ⟨rfl,rfl⟩))
  (fun os started H enc _ => fileKeeps_lifted os started H enc)
theorem card_main : pinned.checked.prog.mainIs = some (((true, "e2fd597f68339d58e2cd7402b2b16b88dd1d465b5a0cd4c739323f2d73a7ef6c") : Bool × String).1, ((true, "e2fd597f68339d58e2cd7402b2b16b88dd1d465b5a0cd4c739323f2d73a7ef6c") : Bool × String).2.toList) := by kernel_rfl
theorem card_looks : true = pinned.checked.prog.looks [] := by kernel_rfl
theorem card_wf_fileKeeps : Rows.fileKeepsRow.wfByText (OpenSpec.ofChange Rows.fileKeepsSpec) = true := by kernel_rfl
theorem card_goes_fileKeeps : false = Rows.fileKeepsRow.goesBy pinned.checked.prog := by kernel_rfl
theorem card_in_fileKeeps : (f3.params.toList.all fun t => pinned.checked.prog.wantsStandIn t == false) = true := by kernel_rfl
theorem card_name_fileKeeps : pinned.checked.prog.funcNamed "freight/freightlaw6.FileKeeps" = some 3 := by kernel_rfl
theorem fileKeeps_holds : Rows.FileKeepsCardSaid :=
 Claim7.holds_tied_plain_at .later [] [.handle] true (true, "e2fd597f68339d58e2cd7402b2b16b88dd1d465b5a0cd4c739323f2d73a7ef6c") true
  fileKeeps_row (fun _ h => by cases h) card_wf_fileKeeps (fun _ h => by cases h) fileKeeps_row_tie rfl ⟨rfl,rfl⟩ card_main rfl
  (fun f fn hf hfn => by
   obtain rfl : f = 3 := Option.some.inj (card_name_fileKeeps.symm.trans hf) |>.symm
   obtain rfl : fn = f3 := (Option.some.inj (func3.symm.trans hfn)).symm
   refine ⟨card_looks,fun j t ht => ?_⟩
   have hm : t ∈ f3.params.toList := by rw [Array.mem_toList_iff]; exact Array.mem_of_getElem? ht
   exact eq_of_beq (List.all_eq_true.1 card_in_fileKeeps t hm))
  card_goes_fileKeeps
#print axioms fileKeeps_holds
end Go.Proofs.YteeeggphkhimcaaGreatDoor
