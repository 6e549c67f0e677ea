/- Whatever the input, it answers true and its arguments read as they did. No conditions. -/
import Derived.Test.YtcdcojpfealppaaGreatV14
import Derived.Test.YtcdcojpfealppaaGreatV17
import Derived.SizedLaws
import Derived.Carry
set_option linter.unusedVariables false
set_option linter.unusedSimpArgs false
namespace Go.Proofs.YtcdcojpfealppaaGreat
open Go Go.ChangeShapes Go.WideShapes Go.ChangeAt Go.RowKit Go.Proofs Go.Proofs.XRed Go.Proofs.XHeap Go.Proofs.XSlices Go.Proofs.XRow Tryz
theorem own1 : ownKnob prog.godebug = none := by kernel_rfl
theorem laid1 : laidOutB prog = true := by kernel_rfl
set_option maxRecDepth 100000 in
theorem diskNothing_lifted (os : Os) (started : os.Started) (H : Type) (enc : TypeId × Value → H) :
    ReturnsInHanded {} checked os 11 .any (Rows.diskNothingSpec.pre6 enc prog f11 Rows.diskNothingRow.domain false) (Rows.diskNothingSpec.post enc prog f11 false true false false) := by
  refine returnsInHanded_of_change_sized (C := checked) own1 started (by kernel_rfl) func11
    (ChangeSpec.witness6 (enc := enc) (C := checked) false ⟨#[], #[.slice none 0 0], []⟩ 8 (by kernel_rfl) (by kernel_rfl) (by kernel_rfl) (by kernel_rfl)) ?_
  intro W base args ds gs before hval0 hW _ hsz0 _
  have hsz : (DataW.weightsEach prog (f11.params.toList ++ Rows.diskNothingSpec.plain.varTypes prog) (ds ++ gs)).all (· ≤ reachBytes) = true := hsz0
  have hval : ∀ (j : Nat) t v, f11.params[j]? = some t → args[j]? = some v → Value.okWide prog W .any base t v := hval0
  have hW' := hW
  obtain ⟨p, q, hA0, hV, rfl, hfz, hnd⟩ := hW
  have hA : DataW.TrodAll enc prog W 0 (fun _ => true) true f11.params.toList args.toList ds p := hA0
  rw [params11] at hA hval hsz
  obtain ⟨v0, d0, rfl, rfl, h0⟩ := trodAll_one hA
  obtain ⟨rfl, rfl⟩ := trodVars_none hV
  have hw0 : ∀ m ∈ d0.weights prog 22, m ≤ reachBytes := fun m hm => of_decide_eq_true (List.all_eq_true.1 hsz m (DataW.weights_mem_each (j := 0) rfl rfl m hm))
  obtain ⟨l0, hS0⟩ := open_script (script_weights hw0) (hval 0 22 v0 rfl rfl) h0
  clear hA0 hval0 hsz hsz0
  simp only [List.append_nil] at hW'
  refine (calls_true func11 (by kernel_rfl) (by kernel_rfl) (args := [v0]) (w_nothing hS0 (fine fun b hb => hb.elim))).mono fun e W' ⟨he, hb⟩ => ?_
  subst he
  have hlt := hW'.lt
  refine ⟨_, rfl, post_of_below (pa := p) (pv := []) hW' hb (fun _ _ _ => trodAll_mk1 (shut_bool underlying4 true)) (fun sp hsp => ?_) (fun _ _ => rfl) (by simp) (ok_one (by kernel_rfl) rfl (okWide_bool_mk underlying4 true))⟩
  exact trodAll_mk1 (stays laid1 (by kernel_rfl) (of_decide_eq_true (by kernel_rfl)) h0 hb (fun x hx => hlt x hx) (fun x hx => hsp x hx))
theorem diskNothing_holds : Rows.DiskNothingSaid :=
 OpenClaim.holds_of_wide 11 f11 rfl rfl rfl rfl rfl rfl rfl ⟨rfl, rfl, rfl, rfl, rfl⟩ rfl rfl rfl rfl rfl (by kernel_rfl) func11 (by kernel_rfl)
  (of_decide_eq_true (by kernel_rfl)) (by unfold Func.isWrapper; first | (rw [if_pos (by decide +kernel)]; kernel_rfl) | (rw [if_neg (by decide +kernel)]; exact ⟨rfl, rfl⟩))
  (fun os started H enc _ => diskNothing_lifted os started H enc)
#print axioms diskNothing_holds
end Go.Proofs.YtcdcojpfealppaaGreat
