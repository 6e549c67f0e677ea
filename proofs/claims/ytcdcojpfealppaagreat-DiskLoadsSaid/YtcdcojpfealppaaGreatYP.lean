/- Whatever the input,it answers true and its arguments read as they did. No conditions. -/
import Derived.Test.YtcdcojpfealppaaGreatY15
import Derived.Test.YtcdcojpfealppaaGreatY28
import Derived.SizedLaws
import Derived.Carry
set_option linter.unusedVariables false
set_option linter.unusedSimpArgs false
namespace Go.Proofs.YtcdcojpfealppaaGreat
open Go Go.ChangeShapes Go.WideShapes Go.ChangeAt Go.RowKit Go.Proofs Go.Proofs.XRed Go.Proofs.XHeap Go.Proofs.XSlices Go.Proofs.XRow Tryz
theorem own1 : ownKnob prog.godebug = none := by kernel_rfl
theorem laid1 : laidOutB prog = true := by kernel_rfl
set_option maxRecDepth 100000 in
theorem diskLoads_lifted (os:Os) (started:os.Started) (H:Type) (enc:TypeId × Value → H) :
    ReturnsInHanded {} checked os 13 .any (Rows.diskLoadsSpec.pre6 enc prog f13 Rows.diskLoadsRow.domain false) (Rows.diskLoadsSpec.post enc prog f13 false true false false) := by
  refine returnsInHanded_of_change_sized (C := checked) own1 started (by kernel_rfl) func13
    (ChangeSpec.witness6 (enc := enc) (C := checked) false ⟨#[],#[.int .i64 0,.slice none 0 0,.slice none 0 0],[]⟩ 8 (by kernel_rfl) (by kernel_rfl) (by kernel_rfl) (by kernel_rfl)) ?_
  intro W base args ds gs before hval0 hW _ hsz0 _
  have hsz : (DataW.weightsEach prog (f13.params.toList ++ Rows.diskLoadsSpec.plain.varTypes prog) (ds ++ gs)).all (· ≤ reachBytes) = true := hsz0
  have hval : ∀ (j:Nat) t v,f13.params[j]? = some t → args[j]? = some v → Value.okWide prog W .any base t v := hval0
  have hW' := hW
  obtain ⟨p,q,hA0,hV,rfl,hfz,hnd⟩ := hW
  have hA : DataW.TrodAll enc prog W 0 (fun _ => true) true f13.params.toList args.toList ds p := hA0
  rw [params13] at hA hval hsz
  obtain ⟨v0,v1,v2,d0,d1,d2,p0,p1,p2,rfl,rfl,rfl,h0,h1,h2⟩ := trodAll_three hA
  obtain ⟨rfl,rfl⟩ := trodVars_none hV
  obtain ⟨n0,rfl,rfl,rfl,wr0⟩ := open_int underlying3 (hval 0 3 v0 rfl rfl) h0
  have hw1 : ∀ m ∈ d1.weights prog 71,m ≤ reachBytes := fun m hm => of_decide_eq_true (List.all_eq_true.1 hsz m (DataW.weights_mem_each (j := 1) rfl rfl m hm))
  obtain ⟨l1,hS1,hF1,hG1⟩ := open_files (files_weights hw1) (hval 1 71 v1 rfl rfl) h1
  have hw2 : ∀ m ∈ d2.weights prog 22,m ≤ reachBytes := fun m hm => of_decide_eq_true (List.all_eq_true.1 hsz m (DataW.weights_mem_each (j := 2) rfl rfl m hm))
  obtain ⟨l2,hS2⟩ := open_script (script_weights hw2) (hval 2 22 v2 rfl rfl) h2
  clear hA0 hval0 hsz hsz0
  simp only [List.append_nil] at hW'
  refine (calls_true func13 (by kernel_rfl) (by kernel_rfl) (args := [.int .i64 n0,v1,v2]) (w_loads hS1 hS2 hF1 (plain_small hG1) (fine fun b hb => hb.elim))).mono fun e W' ⟨he,hb⟩ => ?_
  subst he
  have hlt := hW'.lt
  refine ⟨_,rfl,post_of_below (pa := [] ++ (p1 ++ p2)) (pv := []) hW' hb (fun _ _ _ => trodAll_mk1 (shut_bool underlying4 true)) (fun sp hsp => ?_) (fun _ _ => rfl) (by simp) (ok_one (by kernel_rfl) rfl (okWide_bool_mk underlying4 true))⟩
  exact trodAll_mk3 (shut_int underlying3 wr0)
    (stays laid1 (by kernel_rfl) (of_decide_eq_true (by kernel_rfl)) h1 hb (fun x hx => by simpa using hlt x (by simp [hx])) (fun x hx => hsp x (by simp [hx])))
    (stays laid1 (by kernel_rfl) (of_decide_eq_true (by kernel_rfl)) h2 hb (fun x hx => by simpa using hlt x (by simp [hx])) (fun x hx => hsp x (by simp [hx])))
theorem diskLoads_holds : Rows.DiskLoadsSaid :=
 OpenClaim.holds_of_wide 13 f13 rfl rfl rfl rfl rfl rfl rfl ⟨rfl,rfl,rfl,rfl,rfl⟩ rfl rfl rfl rfl rfl (by kernel_rfl) func13 (by kernel_rfl)
  (of_decide_eq_true (by kernel_rfl)) (by unfold Func.isWrapper; first | (rw [if_pos (by decide +kernel)]; kernel_rfl) | (rw [if_neg (by decide +kernel)]; exact ⟨rfl,rfl⟩))
  (fun os started H enc _ => diskLoads_lifted os started H enc)
#print axioms diskLoads_holds
end Go.Proofs.YtcdcojpfealppaaGreat
