/- Whatever the input (where its statement is the second form: of bulk at most 1048576),it answers true and its arguments read as they did; the listed variable is tied to the program's text. -/
import Derived.Test.YteeeggphkhimcaaGreatDoorE13
import Derived.Test.YteeeggphkhimcaaGreatDoorCards
import Derived.Test.YteeeggphkhimcaaGreatDoorE14
import Derived.Test.YteeeggphkhimcaaGreatDoorE18
set_option linter.unusedVariables false
set_option linter.unusedSimpArgs false
namespace Go.Proofs.YteeeggphkhimcaaGreatDoor
open Go Go.ChangeShapes Go.WideShapes Go.ChangeAt Go.RowKit Go.ChangeMaps Go.Proofs Go.Proofs.XRed Go.Proofs.XHeap Go.Proofs.XSlices Go.Proofs.XRow Go.Proofs.XDisk Tryz
theorem and_t {a b:Bool} (h:a = true) (k:b = true) : (a && b) = true := by rw [h,k]; rfl
set_option maxRecDepth 100000
theorem jf_filePuts_0 : (fun (P:Program) (f:FuncId) (fn:Func) (s:ChangeSpec) (c:OpenClaim) => (c.wf (OpenSpec.ofChange s) : Bool)) pinned.checked.prog 12 f12 ((Rows.OpenSpec.upto Rows.filePutsSpec).bare) Rows.filePutsUptoRow = true := by kernel_rfl
theorem jfP_1 : (fun (P:Program) => (laidOutB P:Bool)) pinned.checked.prog = true := by kernel_rfl
theorem jfP_2 : (fun (P:Program) => (mapsRowed P:Bool)) pinned.checked.prog = true := by kernel_rfl
theorem jf_filePuts_3 : (fun (P:Program) (f:FuncId) (fn:Func) (s:ChangeSpec) (c:OpenClaim) => (fn.params.all (P.readableRec ·) : Bool)) pinned.checked.prog 12 f12 ((Rows.OpenSpec.upto Rows.filePutsSpec).bare) Rows.filePutsUptoRow = true := by kernel_rfl
theorem jf_filePuts_4 : (fun (P:Program) (f:FuncId) (fn:Func) (s:ChangeSpec) (c:OpenClaim) => (namedTie P c.named s.vars : Bool)) pinned.checked.prog 12 f12 ((Rows.OpenSpec.upto Rows.filePutsSpec).bare) Rows.filePutsUptoRow = true := by kernel_rfl
theorem jf_filePuts_5 : (fun (P:Program) (f:FuncId) (fn:Func) (s:ChangeSpec) (c:OpenClaim) => ((c.stops == []) : Bool)) pinned.checked.prog 12 f12 ((Rows.OpenSpec.upto Rows.filePutsSpec).bare) Rows.filePutsUptoRow = true := by kernel_rfl
theorem jfP_6 : (fun (P:Program) => ((P.stops == []) : Bool)) pinned.checked.prog = true := by kernel_rfl
theorem jf_filePuts_7 : (fun (P:Program) (f:FuncId) (fn:Func) (s:ChangeSpec) (c:OpenClaim) => ((c.knobs == []) : Bool)) pinned.checked.prog 12 f12 ((Rows.OpenSpec.upto Rows.filePutsSpec).bare) Rows.filePutsUptoRow = true := by kernel_rfl
theorem jfP_8 : (fun (P:Program) => ((P.stopKnobs == []) : Bool)) pinned.checked.prog = true := by kernel_rfl
theorem jf_filePuts_9 : (fun (P:Program) (f:FuncId) (fn:Func) (s:ChangeSpec) (c:OpenClaim) => ((c.inPlace == P.inPlace f) : Bool)) pinned.checked.prog 12 f12 ((Rows.OpenSpec.upto Rows.filePutsSpec).bare) Rows.filePutsUptoRow = true := by kernel_rfl
theorem jf_filePuts_10 : (fun (P:Program) (f:FuncId) (fn:Func) (s:ChangeSpec) (c:OpenClaim) => ((c.unfollowed == P.unfollowed f) : Bool)) pinned.checked.prog 12 f12 ((Rows.OpenSpec.upto Rows.filePutsSpec).bare) Rows.filePutsUptoRow = true := by kernel_rfl
theorem jf_filePuts_11 : (fun (P:Program) (f:FuncId) (fn:Func) (s:ChangeSpec) (c:OpenClaim) => ((c.recurses == P.recurses f) : Bool)) pinned.checked.prog 12 f12 ((Rows.OpenSpec.upto Rows.filePutsSpec).bare) Rows.filePutsUptoRow = true := by kernel_rfl
theorem jf_filePuts_12 : (fun (P:Program) (f:FuncId) (fn:Func) (s:ChangeSpec) (c:OpenClaim) => ((c.named == P.varsNamed f) : Bool)) pinned.checked.prog 12 f12 ((Rows.OpenSpec.upto Rows.filePutsSpec).bare) Rows.filePutsUptoRow = true := by kernel_rfl
theorem jf_filePuts_13 : (fun (P:Program) (f:FuncId) (fn:Func) (s:ChangeSpec) (c:OpenClaim) => ((c.maps == (fn.params.toList ++ s.plain.varTypes P).any (P.mapsRec ·)) : Bool)) pinned.checked.prog 12 f12 ((Rows.OpenSpec.upto Rows.filePutsSpec).bare) Rows.filePutsUptoRow = true := by kernel_rfl
theorem jf_filePuts_14 : (fun (P:Program) (f:FuncId) (fn:Func) (s:ChangeSpec) (c:OpenClaim) => ((c.ifaces == (fn.params.toList ++ s.plain.varTypes P).any (P.ifacesRec ·)) : Bool)) pinned.checked.prog 12 f12 ((Rows.OpenSpec.upto Rows.filePutsSpec).bare) Rows.filePutsUptoRow = true := by kernel_rfl
theorem jf_filePuts_15 : (fun (P:Program) (f:FuncId) (fn:Func) (s:ChangeSpec) (c:OpenClaim) => ((c.mapsOut == P.mapsAmong fn.resultTypes.toList) : Bool)) pinned.checked.prog 12 f12 ((Rows.OpenSpec.upto Rows.filePutsSpec).bare) Rows.filePutsUptoRow = true := by kernel_rfl
theorem jf_filePuts_16 : (fun (P:Program) (f:FuncId) (fn:Func) (s:ChangeSpec) (c:OpenClaim) => ((c.loops == (fn.params.toList ++ s.plain.varTypes P).any (P.loopsFrom ·)) : Bool)) pinned.checked.prog 12 f12 ((Rows.OpenSpec.upto Rows.filePutsSpec).bare) Rows.filePutsUptoRow = true := by kernel_rfl
theorem jf_filePuts_17 : (fun (P:Program) (f:FuncId) (fn:Func) (s:ChangeSpec) (c:OpenClaim) => ((c.wideKeys == (fn.params.toList ++ s.plain.varTypes P ++ fn.resultTypes.toList).any (P.wideKeysFrom ·)) : Bool)) pinned.checked.prog 12 f12 ((Rows.OpenSpec.upto Rows.filePutsSpec).bare) Rows.filePutsUptoRow = true := by kernel_rfl
theorem jf_filePuts_18 : (fun (P:Program) (f:FuncId) (fn:Func) (s:ChangeSpec) (c:OpenClaim) => (s.vars.all (P.varReadable ·) : Bool)) pinned.checked.prog 12 f12 ((Rows.OpenSpec.upto Rows.filePutsSpec).bare) Rows.filePutsUptoRow = true := by kernel_rfl
theorem jf_filePuts_19 : (fun (P:Program) (f:FuncId) (fn:Func) (s:ChangeSpec) (c:OpenClaim) => (fn.resultTypes.all (fun t => P.readableRec t && decide (t < P.types.size)) : Bool)) pinned.checked.prog 12 f12 ((Rows.OpenSpec.upto Rows.filePutsSpec).bare) Rows.filePutsUptoRow = true := by kernel_rfl
theorem jf_filePuts_20 : (fun (P:Program) (f:FuncId) (fn:Func) (s:ChangeSpec) (c:OpenClaim) => ((c.ifacesOut == fn.resultTypes.toList.any (P.ifacesRec ·)) : Bool)) pinned.checked.prog 12 f12 ((Rows.OpenSpec.upto Rows.filePutsSpec).bare) Rows.filePutsUptoRow = true := by kernel_rfl
theorem jf_filePuts_21 : (fun (P:Program) (f:FuncId) (fn:Func) (s:ChangeSpec) (c:OpenClaim) => ((c.loopsOut == fn.resultTypes.toList.any (P.loopsFrom ·)) : Bool)) pinned.checked.prog 12 f12 ((Rows.OpenSpec.upto Rows.filePutsSpec).bare) Rows.filePutsUptoRow = true := by kernel_rfl
theorem jf_filePuts_22 : (fun (P:Program) (f:FuncId) (fn:Func) (s:ChangeSpec) (c:OpenClaim) => ((c.plainKeys == P.plainKeys) : Bool)) pinned.checked.prog 12 f12 ((Rows.OpenSpec.upto Rows.filePutsSpec).bare) Rows.filePutsUptoRow = true := by kernel_rfl
theorem jf_filePuts_23 : (fun (P:Program) (f:FuncId) (fn:Func) (s:ChangeSpec) (c:OpenClaim) => (c.shortTexts.isNone : Bool)) pinned.checked.prog 12 f12 ((Rows.OpenSpec.upto Rows.filePutsSpec).bare) Rows.filePutsUptoRow = true := by kernel_rfl
theorem jfP_24 : (fun (P:Program) => (P.stopsHeard : Bool)) pinned.checked.prog = true := by kernel_rfl
theorem jfP_25 : (fun (P:Program) => (P.mayEnter : Bool)) pinned.checked.prog = true := by kernel_rfl
theorem jf_filePuts_26 : (fun (P:Program) (f:FuncId) (fn:Func) (s:ChangeSpec) (c:OpenClaim) => ((c.lifted == P.liftsFinal) : Bool)) pinned.checked.prog 12 f12 ((Rows.OpenSpec.upto Rows.filePutsSpec).bare) Rows.filePutsUptoRow = true := by kernel_rfl
theorem jf_filePuts_27 : (fun (P:Program) (f:FuncId) (fn:Func) (s:ChangeSpec) (c:OpenClaim) => ((P.make == some c.make) : Bool)) pinned.checked.prog 12 f12 ((Rows.OpenSpec.upto Rows.filePutsSpec).bare) Rows.filePutsUptoRow = true := by kernel_rfl
theorem jf_filePuts_28 : (fun (P:Program) (f:FuncId) (fn:Func) (s:ChangeSpec) (c:OpenClaim) => ((c.kinds == (if c.domain.isEmpty then [] else fn.params.toList.map fun t => match P.underlying t with | some (.int k) => some k | _ => none)) : Bool)) pinned.checked.prog 12 f12 ((Rows.OpenSpec.upto Rows.filePutsSpec).bare) Rows.filePutsUptoRow = true := by kernel_rfl
theorem jf_filePuts_29 : (fun (P:Program) (f:FuncId) (fn:Func) (s:ChangeSpec) (c:OpenClaim) => ((c.pinned == c.pinnedBy) : Bool)) pinned.checked.prog 12 f12 ((Rows.OpenSpec.upto Rows.filePutsSpec).bare) Rows.filePutsUptoRow = true := by kernel_rfl
theorem jf_filePuts_30 : (fun (P:Program) (f:FuncId) (fn:Func) (s:ChangeSpec) (c:OpenClaim) => ((c.veiled == (fn.params.toList ++ s.plain.varTypes P ++ fn.resultTypes.toList).any (P.veiledRec ·)) : Bool)) pinned.checked.prog 12 f12 ((Rows.OpenSpec.upto Rows.filePutsSpec).bare) Rows.filePutsUptoRow = true := by kernel_rfl
theorem jf_filePuts_31 : (fun (P:Program) (f:FuncId) (fn:Func) (s:ChangeSpec) (c:OpenClaim) => (c.veiledFits P fn.params.toList (fn.params.toList ++ s.plain.varTypes P ++ fn.resultTypes.toList) : Bool)) pinned.checked.prog 12 f12 ((Rows.OpenSpec.upto Rows.filePutsSpec).bare) Rows.filePutsUptoRow = true := by kernel_rfl
theorem jf_filePuts : joinedFacts pinned.checked.prog 12 f12 ((Rows.OpenSpec.upto Rows.filePutsSpec).bare) Rows.filePutsUptoRow = true := by
 unfold joinedFacts
 exact (and_t (and_t (and_t (and_t (and_t (and_t (and_t (and_t (and_t (and_t (and_t (and_t (and_t (and_t (and_t (and_t (and_t (and_t (and_t (and_t (and_t (and_t (and_t (and_t (and_t (and_t (and_t (and_t (and_t (and_t (and_t jf_filePuts_0 jfP_1) jfP_2) jf_filePuts_3) jf_filePuts_4) jf_filePuts_5) jfP_6) jf_filePuts_7) jfP_8) jf_filePuts_9) jf_filePuts_10) jf_filePuts_11) jf_filePuts_12) jf_filePuts_13) jf_filePuts_14) jf_filePuts_15) jf_filePuts_16) jf_filePuts_17) jf_filePuts_18) jf_filePuts_19) jf_filePuts_20) jf_filePuts_21) jf_filePuts_22) jf_filePuts_23) jfP_24) jfP_25) jf_filePuts_26) jf_filePuts_27) jf_filePuts_28) jf_filePuts_29) jf_filePuts_30) jf_filePuts_31)
set_option maxRecDepth 100000 in
theorem filePuts_lifted (os:Os) (started:os.Started) (H:Type) (enc:TypeId × Value → H) (F:Stop.Interp) :
    ReturnsInHanded {} checked os 12 .any (fun w args => ((Rows.OpenSpec.upto Rows.filePutsSpec).pre enc prog f12 Rows.filePutsUptoRow.domain false w args ∧ laidMetH prog laidE w) ∧ sizedMet enc prog f12 (Rows.OpenSpec.upto Rows.filePutsSpec) false w args)
      (((Rows.OpenSpec.upto Rows.filePutsSpec).at F).post enc prog f12 false true false false) := by
  refine returns_upto_laid (s := Rows.OpenSpec.upto Rows.filePutsSpec) (k := Rows.uptoSmall) rfl started (by kernel_rfl) func12 (args0 := #[.int .i64 0,.slice none 0 0,.string ⟨#[]⟩,.slice none 0 0,.int .i64 0,.slice none 0 0]) (x := ([.lit (.int .i64 0),.nil,.lit (.string []),.nil,.lit (.int .i64 0),.nil],[],[])) (by kernel_rfl) (by kernel_rfl) (by kernel_rfl) (by kernel_rfl) rfl (by kernel_rfl) (by kernel_rfl) ?_
  intro W base args ds gs before hval0 hW _ hk hL _
  have hval : ∀ (j:Nat) t v,f12.params[j]? = some t → args[j]? = some v → Value.okWide prog W .any base t v := hval0
  have hg : ErrT W := errT_of_laid hL
  have hW' := hW
  obtain ⟨p,q,hA0,hV,rfl,hfz,hnd⟩ := hW
  have hA : DataW.TrodAll enc prog W 0 (fun _ => true) true f12.params.toList args.toList ds p := hA0
  rw [params12] at hA hval
  obtain ⟨v0,v1,v2,v3,v4,v5,d0,d1,d2,d3,d4,d5,p0,p1,p2,p3,p4,p5,rfl,rfl,rfl,h0,h1,h2,h3,h4,h5⟩ := trodAll_six hA
  obtain ⟨rfl,rfl⟩ := trodVars_none hV
  have hbulk := bulk_bound hk
  obtain ⟨n0,rfl,rfl,rfl,wr0⟩ := open_int underlying3 (hval 0 3 v0 rfl rfl) h0
  obtain ⟨n2,rfl,rfl,rfl,wr2⟩ := open_string underlying9 (hval 2 9 v2 rfl rfl) h2
  obtain ⟨n4,rfl,rfl,rfl,wr4⟩ := open_int underlying3 (hval 4 3 v4 rfl rfl) h4
  have hb1 : Rows.uptoBulk d1 ≤ 1048576 := Nat.le_trans (bulk_part (l := [.lit (.int .i64 n0),d1,.lit (.string n2.data.toList),d3,.lit (.int .i64 n4),d5] ++ []) (by simp)) hbulk
  obtain ⟨l1,hS1,hF1,hG1⟩ := open_files (files_bulk hb1) (hval 1 36 v1 rfl rfl) h1
  have hs2 : n2.size ≤ 1048576 := str_bulk (Nat.le_trans (bulk_part (l := [.lit (.int .i64 n0),d1,.lit (.string n2.data.toList),d3,.lit (.int .i64 n4),d5] ++ []) (by simp)) hbulk)
  have hb3 : Rows.uptoBulk d3 ≤ 1048576 := Nat.le_trans (bulk_part (l := [.lit (.int .i64 n0),d1,.lit (.string n2.data.toList),d3,.lit (.int .i64 n4),d5] ++ []) (by simp)) hbulk
  obtain ⟨dd3,hS3,hN3⟩ := open_bytesV (hval 3 23 v3 rfl rfl) h3
  have hb5 : Rows.uptoBulk d5 ≤ 1048576 := Nat.le_trans (bulk_part (l := [.lit (.int .i64 n0),d1,.lit (.string n2.data.toList),d3,.lit (.int .i64 n4),d5] ++ []) (by simp)) hbulk
  obtain ⟨dd5,hS5,hN5⟩ := open_picksV (hval 5 58 v5 rfl rfl) h5
  simp only [List.append_nil] at hW'
  refine (calls_true func12 (by kernel_rfl) (by kernel_rfl) (args := [.int .i64 n0,v1,.string n2,v3,.int .i64 n4,v5]) (w_filesPuts hg (i64_wf wr0) hS1 hF1 (plain_small hG1) hs2 hS3 (Nat.le_trans hN3.bulk hb3) (i64_wf wr4) hS5 (Nat.le_trans hN5.bulk hb5) (fine fun b hb => hb.elim))).mono fun e W' ⟨he,hb⟩ => ?_
  subst he
  have hlt := hW'.lt
  refine ⟨_,rfl,post_of_below (pa := [] ++ (p1 ++ ([] ++ (p3 ++ ([] ++ p5))))) (pv := []) hW' hb (fun _ _ _ => trodAll_mk1 (shut_bool underlying4 true)) (fun sp hsp => ?_) (fun _ _ => rfl) (by simp) (ok_one (by kernel_rfl) rfl (okWide_bool_mk underlying4 true))⟩
  exact trodAll_mk6 (shut_int underlying3 wr0)
    (stays laid1 (by kernel_rfl) (of_decide_eq_true (by kernel_rfl)) h1 hb (fun x hx => by simpa using hlt x (by simp [hx])) (fun x hx => hsp x (by simp [hx])))
    (shut_string underlying9 wr2)
    (stays laid1 (by kernel_rfl) (of_decide_eq_true (by kernel_rfl)) h3 hb (fun x hx => by simpa using hlt x (by simp [hx])) (fun x hx => hsp x (by simp [hx])))
    (shut_int underlying3 wr4)
    (stays laid1 (by kernel_rfl) (of_decide_eq_true (by kernel_rfl)) h5 hb (fun x hx => by simpa using hlt x (by simp [hx])) (fun x hx => hsp x (by simp [hx])))
theorem filePuts_row : Rows.FilePutsUptoSaid :=
 OpenClaim.holds_of_cond 12 f12 rfl rfl rfl rfl rfl rfl rfl ⟨rfl,rfl,rfl,rfl,rfl⟩ rfl rfl rfl rfl rfl (by kernel_rfl) func12 jf_filePuts
  (of_decide_eq_true (by kernel_rfl)) (by unfold Func.isWrapper; first | (rw [if_pos (by decide +kernel)]; kernel_rfl) | (rw [if_neg (by decide +kernel)]; exact ⟨rfl,rfl⟩))
  (fun os started H enc _ F => filePuts_lifted os started H enc F)
theorem card_main : pinned.checked.prog.mainIs = some (((true, "e2fd597f68339d58e2cd7402b2b16b88dd1d465b5a0cd4c739323f2d73a7ef6c") : Bool × String).1, ((true, "e2fd597f68339d58e2cd7402b2b16b88dd1d465b5a0cd4c739323f2d73a7ef6c") : Bool × String).2.toList) := by kernel_rfl
theorem card_looks : true = pinned.checked.prog.looks [] := by kernel_rfl
theorem card_wf_filePuts : Rows.filePutsUptoRow.wfByText (Rows.OpenSpec.upto Rows.filePutsSpec) = true := by kernel_rfl
theorem card_goes_filePuts : false = Rows.filePutsUptoRow.goesBy pinned.checked.prog := by kernel_rfl
theorem card_in_filePuts : (f12.params.toList.all fun t => pinned.checked.prog.wantsStandIn t == false) = true := by kernel_rfl
theorem card_name_filePuts : pinned.checked.prog.funcNamed "freight/freightlaw6.FilePuts" = some 12 := by kernel_rfl
theorem filePuts_holds : Rows.FilePutsUptoCardSaid :=
 Claim7.holds_tied_plain_at .later [] [.handle] true (true, "e2fd597f68339d58e2cd7402b2b16b88dd1d465b5a0cd4c739323f2d73a7ef6c") true
  filePuts_row (fun _ h => by cases h) card_wf_filePuts (fun _ h => by cases h) filePutsUpto_row_tie rfl ⟨rfl,rfl⟩ card_main rfl
  (fun f fn hf hfn => by
   obtain rfl : f = 12 := Option.some.inj (card_name_filePuts.symm.trans hf) |>.symm
   obtain rfl : fn = f12 := (Option.some.inj (func12.symm.trans hfn)).symm
   refine ⟨card_looks,fun j t ht => ?_⟩
   have hm : t ∈ f12.params.toList := by rw [Array.mem_toList_iff]; exact Array.mem_of_getElem? ht
   exact eq_of_beq (List.all_eq_true.1 card_in_filePuts t hm))
  card_goes_filePuts
#print axioms filePuts_holds
end Go.Proofs.YteeeggphkhimcaaGreatDoor
