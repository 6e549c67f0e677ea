/- Whatever the input (where its statement is the second form: of bulk at most 1048576),it answers true and its arguments read as they did; the listed variable is tied to the program's text. -/
import Derived.Test.YteeeggphkhimcaaGreatDoorD14
import Derived.Test.YteeeggphkhimcaaGreatDoorCards
import Derived.Test.YteeeggphkhimcaaGreatDoorD18
set_option linter.unusedVariables false
set_option linter.unusedSimpArgs false
namespace Go.Proofs.YteeeggphkhimcaaGreatDoor
open Go Go.ChangeShapes Go.WideShapes Go.ChangeAt Go.RowKit Go.ChangeMaps Go.Proofs Go.Proofs.XRed Go.Proofs.XHeap Go.Proofs.XSlices Go.Proofs.XRow Go.Proofs.XDisk Tryz
theorem and_t {a b:Bool} (h:a = true) (k:b = true) : (a && b) = true := by rw [h,k]; rfl
set_option maxRecDepth 100000
theorem jf_fileCleans_0 : (fun (P:Program) (f:FuncId) (fn:Func) (s:ChangeSpec) (c:OpenClaim) => (c.wf (OpenSpec.ofChange s) : Bool)) pinned.checked.prog 15 f15 (Rows.fileCleansSpec) Rows.fileCleansRow = true := by kernel_rfl
theorem jfP_1 : (fun (P:Program) => (laidOutB P:Bool)) pinned.checked.prog = true := by kernel_rfl
theorem jfP_2 : (fun (P:Program) => (mapsRowed P:Bool)) pinned.checked.prog = true := by kernel_rfl
theorem jf_fileCleans_3 : (fun (P:Program) (f:FuncId) (fn:Func) (s:ChangeSpec) (c:OpenClaim) => (fn.params.all (P.readableRec ·) : Bool)) pinned.checked.prog 15 f15 (Rows.fileCleansSpec) Rows.fileCleansRow = true := by kernel_rfl
theorem jf_fileCleans_4 : (fun (P:Program) (f:FuncId) (fn:Func) (s:ChangeSpec) (c:OpenClaim) => (namedTie P c.named s.vars : Bool)) pinned.checked.prog 15 f15 (Rows.fileCleansSpec) Rows.fileCleansRow = true := by kernel_rfl
theorem jf_fileCleans_5 : (fun (P:Program) (f:FuncId) (fn:Func) (s:ChangeSpec) (c:OpenClaim) => ((c.stops == []) : Bool)) pinned.checked.prog 15 f15 (Rows.fileCleansSpec) Rows.fileCleansRow = true := by kernel_rfl
theorem jfP_6 : (fun (P:Program) => ((P.stops == []) : Bool)) pinned.checked.prog = true := by kernel_rfl
theorem jf_fileCleans_7 : (fun (P:Program) (f:FuncId) (fn:Func) (s:ChangeSpec) (c:OpenClaim) => ((c.knobs == []) : Bool)) pinned.checked.prog 15 f15 (Rows.fileCleansSpec) Rows.fileCleansRow = true := by kernel_rfl
theorem jfP_8 : (fun (P:Program) => ((P.stopKnobs == []) : Bool)) pinned.checked.prog = true := by kernel_rfl
theorem jf_fileCleans_9 : (fun (P:Program) (f:FuncId) (fn:Func) (s:ChangeSpec) (c:OpenClaim) => ((c.inPlace == P.inPlace f) : Bool)) pinned.checked.prog 15 f15 (Rows.fileCleansSpec) Rows.fileCleansRow = true := by kernel_rfl
theorem jf_fileCleans_10 : (fun (P:Program) (f:FuncId) (fn:Func) (s:ChangeSpec) (c:OpenClaim) => ((c.unfollowed == P.unfollowed f) : Bool)) pinned.checked.prog 15 f15 (Rows.fileCleansSpec) Rows.fileCleansRow = true := by kernel_rfl
theorem jf_fileCleans_11 : (fun (P:Program) (f:FuncId) (fn:Func) (s:ChangeSpec) (c:OpenClaim) => ((c.recurses == P.recurses f) : Bool)) pinned.checked.prog 15 f15 (Rows.fileCleansSpec) Rows.fileCleansRow = true := by kernel_rfl
theorem jf_fileCleans_12 : (fun (P:Program) (f:FuncId) (fn:Func) (s:ChangeSpec) (c:OpenClaim) => ((c.named == P.varsNamed f) : Bool)) pinned.checked.prog 15 f15 (Rows.fileCleansSpec) Rows.fileCleansRow = true := by kernel_rfl
theorem jf_fileCleans_13 : (fun (P:Program) (f:FuncId) (fn:Func) (s:ChangeSpec) (c:OpenClaim) => ((c.maps == (fn.params.toList ++ s.plain.varTypes P).any (P.mapsRec ·)) : Bool)) pinned.checked.prog 15 f15 (Rows.fileCleansSpec) Rows.fileCleansRow = true := by kernel_rfl
theorem jf_fileCleans_14 : (fun (P:Program) (f:FuncId) (fn:Func) (s:ChangeSpec) (c:OpenClaim) => ((c.ifaces == (fn.params.toList ++ s.plain.varTypes P).any (P.ifacesRec ·)) : Bool)) pinned.checked.prog 15 f15 (Rows.fileCleansSpec) Rows.fileCleansRow = true := by kernel_rfl
theorem jf_fileCleans_15 : (fun (P:Program) (f:FuncId) (fn:Func) (s:ChangeSpec) (c:OpenClaim) => ((c.mapsOut == P.mapsAmong fn.resultTypes.toList) : Bool)) pinned.checked.prog 15 f15 (Rows.fileCleansSpec) Rows.fileCleansRow = true := by kernel_rfl
theorem jf_fileCleans_16 : (fun (P:Program) (f:FuncId) (fn:Func) (s:ChangeSpec) (c:OpenClaim) => ((c.loops == (fn.params.toList ++ s.plain.varTypes P).any (P.loopsFrom ·)) : Bool)) pinned.checked.prog 15 f15 (Rows.fileCleansSpec) Rows.fileCleansRow = true := by kernel_rfl
theorem jf_fileCleans_17 : (fun (P:Program) (f:FuncId) (fn:Func) (s:ChangeSpec) (c:OpenClaim) => ((c.wideKeys == (fn.params.toList ++ s.plain.varTypes P ++ fn.resultTypes.toList).any (P.wideKeysFrom ·)) : Bool)) pinned.checked.prog 15 f15 (Rows.fileCleansSpec) Rows.fileCleansRow = true := by kernel_rfl
theorem jf_fileCleans_18 : (fun (P:Program) (f:FuncId) (fn:Func) (s:ChangeSpec) (c:OpenClaim) => (s.vars.all (P.varReadable ·) : Bool)) pinned.checked.prog 15 f15 (Rows.fileCleansSpec) Rows.fileCleansRow = true := by kernel_rfl
theorem jf_fileCleans_19 : (fun (P:Program) (f:FuncId) (fn:Func) (s:ChangeSpec) (c:OpenClaim) => (fn.resultTypes.all (fun t => P.readableRec t && decide (t < P.types.size)) : Bool)) pinned.checked.prog 15 f15 (Rows.fileCleansSpec) Rows.fileCleansRow = true := by kernel_rfl
theorem jf_fileCleans_20 : (fun (P:Program) (f:FuncId) (fn:Func) (s:ChangeSpec) (c:OpenClaim) => ((c.ifacesOut == fn.resultTypes.toList.any (P.ifacesRec ·)) : Bool)) pinned.checked.prog 15 f15 (Rows.fileCleansSpec) Rows.fileCleansRow = true := by kernel_rfl
theorem jf_fileCleans_21 : (fun (P:Program) (f:FuncId) (fn:Func) (s:ChangeSpec) (c:OpenClaim) => ((c.loopsOut == fn.resultTypes.toList.any (P.loopsFrom ·)) : Bool)) pinned.checked.prog 15 f15 (Rows.fileCleansSpec) Rows.fileCleansRow = true := by kernel_rfl
theorem jf_fileCleans_22 : (fun (P:Program) (f:FuncId) (fn:Func) (s:ChangeSpec) (c:OpenClaim) => ((c.plainKeys == P.plainKeys) : Bool)) pinned.checked.prog 15 f15 (Rows.fileCleansSpec) Rows.fileCleansRow = true := by kernel_rfl
theorem jf_fileCleans_23 : (fun (P:Program) (f:FuncId) (fn:Func) (s:ChangeSpec) (c:OpenClaim) => (c.shortTexts.isNone : Bool)) pinned.checked.prog 15 f15 (Rows.fileCleansSpec) Rows.fileCleansRow = true := by kernel_rfl
theorem jfP_24 : (fun (P:Program) => (P.stopsHeard : Bool)) pinned.checked.prog = true := by kernel_rfl
theorem jfP_25 : (fun (P:Program) => (P.mayEnter : Bool)) pinned.checked.prog = true := by kernel_rfl
theorem jf_fileCleans_26 : (fun (P:Program) (f:FuncId) (fn:Func) (s:ChangeSpec) (c:OpenClaim) => ((c.lifted == P.liftsFinal) : Bool)) pinned.checked.prog 15 f15 (Rows.fileCleansSpec) Rows.fileCleansRow = true := by kernel_rfl
theorem jf_fileCleans_27 : (fun (P:Program) (f:FuncId) (fn:Func) (s:ChangeSpec) (c:OpenClaim) => ((P.make == some c.make) : Bool)) pinned.checked.prog 15 f15 (Rows.fileCleansSpec) Rows.fileCleansRow = true := by kernel_rfl
theorem jf_fileCleans_28 : (fun (P:Program) (f:FuncId) (fn:Func) (s:ChangeSpec) (c:OpenClaim) => ((c.kinds == (if c.domain.isEmpty then [] else fn.params.toList.map fun t => match P.underlying t with | some (.int k) => some k | _ => none)) : Bool)) pinned.checked.prog 15 f15 (Rows.fileCleansSpec) Rows.fileCleansRow = true := by kernel_rfl
theorem jf_fileCleans_29 : (fun (P:Program) (f:FuncId) (fn:Func) (s:ChangeSpec) (c:OpenClaim) => ((c.pinned == c.pinnedBy) : Bool)) pinned.checked.prog 15 f15 (Rows.fileCleansSpec) Rows.fileCleansRow = true := by kernel_rfl
theorem jf_fileCleans_30 : (fun (P:Program) (f:FuncId) (fn:Func) (s:ChangeSpec) (c:OpenClaim) => ((c.veiled == (fn.params.toList ++ s.plain.varTypes P ++ fn.resultTypes.toList).any (P.veiledRec ·)) : Bool)) pinned.checked.prog 15 f15 (Rows.fileCleansSpec) Rows.fileCleansRow = true := by kernel_rfl
theorem jf_fileCleans_31 : (fun (P:Program) (f:FuncId) (fn:Func) (s:ChangeSpec) (c:OpenClaim) => (c.veiledFits P fn.params.toList (fn.params.toList ++ s.plain.varTypes P ++ fn.resultTypes.toList) : Bool)) pinned.checked.prog 15 f15 (Rows.fileCleansSpec) Rows.fileCleansRow = true := by kernel_rfl
theorem jf_fileCleans : joinedFacts pinned.checked.prog 15 f15 (Rows.fileCleansSpec) Rows.fileCleansRow = true := by
 unfold joinedFacts
 exact (and_t (and_t (and_t (and_t (and_t (and_t (and_t (and_t (and_t (and_t (and_t (and_t (and_t (and_t (and_t (and_t (and_t (and_t (and_t (and_t (and_t (and_t (and_t (and_t (and_t (and_t (and_t (and_t (and_t (and_t (and_t jf_fileCleans_0 jfP_1) jfP_2) jf_fileCleans_3) jf_fileCleans_4) jf_fileCleans_5) jfP_6) jf_fileCleans_7) jfP_8) jf_fileCleans_9) jf_fileCleans_10) jf_fileCleans_11) jf_fileCleans_12) jf_fileCleans_13) jf_fileCleans_14) jf_fileCleans_15) jf_fileCleans_16) jf_fileCleans_17) jf_fileCleans_18) jf_fileCleans_19) jf_fileCleans_20) jf_fileCleans_21) jf_fileCleans_22) jf_fileCleans_23) jfP_24) jfP_25) jf_fileCleans_26) jf_fileCleans_27) jf_fileCleans_28) jf_fileCleans_29) jf_fileCleans_30) jf_fileCleans_31)
set_option maxRecDepth 100000 in
theorem fileCleans_lifted (os:Os) (started:os.Started) (H:Type) (enc:TypeId × Value → H) :
    ReturnsInHanded {} checked os 15 .any (fun w args => (Rows.fileCleansSpec.pre enc prog f15 Rows.fileCleansRow.domain false w args ∧ laidMetH prog laidE w) ∧ sizedMet enc prog f15 (OpenSpec.ofChange Rows.fileCleansSpec) false w args)
      (Rows.fileCleansSpec.post enc prog f15 false true false false) := by
  refine returnsInHanded_of_change_and (C := checked) (X := fun w _ => laidMetH prog laidE w) (fun _ _ _ hh h => h.of_heap hh) own1 started (by kernel_rfl) func15
    (ChangeSpec.witness_at (enc := enc) (C := checked) (os := os) (X := fun w _ => laidMetH prog laidE w) false (laidWorld os) #[.slice none 0 0,.string ⟨#[]⟩,.int .i64 0,.slice none 0 0] 8 rfl (by kernel_rfl) (by kernel_rfl) (by kernel_rfl) (by kernel_rfl) (by kernel_rfl) (laidWorld_met os _)) ?_
  intro W base args ds gs before hval0 hW _ hsz0 hL _
  have hsz : (DataW.weightsEach prog (f15.params.toList ++ Rows.fileCleansSpec.plain.varTypes prog) (ds ++ gs)).all (· ≤ reachBytes) = true := hsz0
  have hval : ∀ (j:Nat) t v,f15.params[j]? = some t → args[j]? = some v → Value.okWide prog W .any base t v := hval0
  have hg : ErrT W := errT_of_laid hL
  have hW' := hW
  obtain ⟨p,q,hA0,hV,rfl,hfz,hnd⟩ := hW
  have hA : DataW.TrodAll enc prog W 0 (fun _ => true) true f15.params.toList args.toList ds p := hA0
  rw [params15] at hA hval hsz
  obtain ⟨v0,v1,v2,v3,d0,d1,d2,d3,p0,p1,p2,p3,rfl,rfl,rfl,h0,h1,h2,h3⟩ := trodAll_four hA
  obtain ⟨rfl,rfl⟩ := trodVars_none hV
  have hw0 : ∀ m ∈ d0.weights prog 36,m ≤ reachBytes := fun m hm => of_decide_eq_true (List.all_eq_true.1 hsz m (DataW.weights_mem_each (j := 0) rfl rfl m hm))
  obtain ⟨l0,hS0,hF0,hG0⟩ := open_files (files_weights hw0) (hval 0 36 v0 rfl rfl) h0
  obtain ⟨n1,rfl,rfl,rfl,wr1⟩ := open_string underlying9 (hval 1 9 v1 rfl rfl) h1
  obtain ⟨n2,rfl,rfl,rfl,wr2⟩ := open_int underlying3 (hval 2 3 v2 rfl rfl) h2
  obtain ⟨dd3,hS3,hN3⟩ := open_picksV (hval 3 58 v3 rfl rfl) h3
  have hp3 : dd3.length ≤ 17592186044416 := by
    have := len_weight (b := 8) underlying58 (by kernel_rfl) hN3 (fun m hm => of_decide_eq_true (List.all_eq_true.1 hsz m (DataW.weights_mem_each (j := 3) rfl rfl m hm)))
    have hr : reachBytes ≤ 140737488355328 := by decide
    omega
  simp only [List.append_nil] at hW'
  refine (calls_true func15 (by kernel_rfl) (by kernel_rfl) (args := [v0,.string n1,.int .i64 n2,v3]) (w_filesCleans hg hS0 hF0 (plain_small hG0) (small_max wr1) (i64_wf wr2) hS3 hp3 (fine fun b hb => hb.elim))).mono fun e W' ⟨he,hb⟩ => ?_
  subst he
  have hlt := hW'.lt
  refine ⟨_,rfl,post_of_below (pa := p0 ++ ([] ++ ([] ++ p3))) (pv := []) hW' hb (fun _ _ _ => trodAll_mk1 (shut_bool underlying4 true)) (fun sp hsp => ?_) (fun _ _ => rfl) (by simp) (ok_one (by kernel_rfl) rfl (okWide_bool_mk underlying4 true))⟩
  exact trodAll_mk4 (stays laid1 (by kernel_rfl) (of_decide_eq_true (by kernel_rfl)) h0 hb (fun x hx => by simpa using hlt x (by simp [hx])) (fun x hx => hsp x (by simp [hx])))
    (shut_string underlying9 wr1)
    (shut_int underlying3 wr2)
    (stays laid1 (by kernel_rfl) (of_decide_eq_true (by kernel_rfl)) h3 hb (fun x hx => by simpa using hlt x (by simp [hx])) (fun x hx => hsp x (by simp [hx])))
theorem fileCleans_row : Rows.FileCleansSaid :=
 OpenClaim.holds_of_wide 15 f15 rfl rfl rfl rfl rfl rfl rfl ⟨rfl,rfl,rfl,rfl,rfl⟩ rfl rfl rfl rfl rfl (by kernel_rfl) func15 jf_fileCleans
  (of_decide_eq_true (by kernel_rfl)) (by unfold Func.isWrapper; first | (rw [if_pos (by decide +kernel)]; kernel_rfl) | (rw [if_neg (by decide +kernel)]; exact ⟨rfl,rfl⟩))
  (fun os started H enc _ => fileCleans_lifted os started H enc)
theorem card_main : pinned.checked.prog.mainIs = some (((true, "e2fd597f68339d58e2cd7402b2b16b88dd1d465b5a0cd4c739323f2d73a7ef6c") : Bool × String).1, ((true, "e2fd597f68339d58e2cd7402b2b16b88dd1d465b5a0cd4c739323f2d73a7ef6c") : Bool × String).2.toList) := by kernel_rfl
theorem card_looks : true = pinned.checked.prog.looks [] := by kernel_rfl
theorem card_wf_fileCleans : Rows.fileCleansRow.wfByText (OpenSpec.ofChange Rows.fileCleansSpec) = true := by kernel_rfl
theorem card_goes_fileCleans : false = Rows.fileCleansRow.goesBy pinned.checked.prog := by kernel_rfl
theorem card_in_fileCleans : (f15.params.toList.all fun t => pinned.checked.prog.wantsStandIn t == false) = true := by kernel_rfl
theorem card_name_fileCleans : pinned.checked.prog.funcNamed "freight/freightlaw6.FileCleans" = some 15 := by kernel_rfl
theorem fileCleans_holds : Rows.FileCleansCardSaid :=
 Claim7.holds_tied_plain_at .later [] [.handle] true (true, "e2fd597f68339d58e2cd7402b2b16b88dd1d465b5a0cd4c739323f2d73a7ef6c") true
  fileCleans_row (fun _ h => by cases h) card_wf_fileCleans (fun _ h => by cases h) fileCleans_row_tie rfl ⟨rfl,rfl⟩ card_main rfl
  (fun f fn hf hfn => by
   obtain rfl : f = 15 := Option.some.inj (card_name_fileCleans.symm.trans hf) |>.symm
   obtain rfl : fn = f15 := (Option.some.inj (func15.symm.trans hfn)).symm
   refine ⟨card_looks,fun j t ht => ?_⟩
   have hm : t ∈ f15.params.toList := by rw [Array.mem_toList_iff]; exact Array.mem_of_getElem? ht
   exact eq_of_beq (List.all_eq_true.1 card_in_fileCleans t hm))
  card_goes_fileCleans
#print axioms fileCleans_holds
end Go.Proofs.YteeeggphkhimcaaGreatDoor
