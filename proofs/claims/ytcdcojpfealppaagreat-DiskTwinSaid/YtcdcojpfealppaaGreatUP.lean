/- Whatever the input, it answers true and its arguments read as they did. No conditions. -/
import Derived.Test.YtcdcojpfealppaaGreatU15
import Derived.Test.YtcdcojpfealppaaGreatU27
import Derived.SizedLaws
import Derived.Carry
set_option linter.unusedVariables false
set_option linter.unusedSimpArgs false
namespace Go.Proofs.YtcdcojpfealppaaGreat
open Go Go.ChangeShapes Go.WideShapes Go.ChangeAt Go.RowKit Go.Proofs Go.Proofs.XRed Go.Proofs.XHeap Go.Proofs.XSlices Go.Proofs.XRow Tryz
theorem own1 : ownKnob prog.godebug = none := by kernel_rfl
theorem laid1 : laidOutB prog = true := by kernel_rfl
set_option maxRecDepth 100000 in
theorem diskTwin_lifted (os : Os) (started : os.Started) (H : Type) (enc : TypeId × Value → H) :
    ReturnsInHanded {} checked os 10 .any (Rows.diskTwinSpec.pre6 enc prog f10 Rows.diskTwinRow.domain false) (Rows.diskTwinSpec.post enc prog f10 false true false false) := by
  refine returnsInHanded_of_change_sized (C := checked) own1 started (by kernel_rfl) func10
    (ChangeSpec.witness6 (enc := enc) (C := checked) false ⟨#[], #[.int .i64 0, .slice none 0 0, .int .i64 0, .slice none 0 0], []⟩ 8 (by kernel_rfl) (by kernel_rfl) (by kernel_rfl) (by kernel_rfl)) ?_
  intro W base args ds gs before hval0 hW _ hsz0 _
  have hsz : (DataW.weightsEach prog (f10.params.toList ++ Rows.diskTwinSpec.plain.varTypes prog) (ds ++ gs)).all (· ≤ reachBytes) = true := hsz0
  have hval : ∀ (j : Nat) t v, f10.params[j]? = some t → args[j]? = some v → Value.okWide prog W .any base t v := hval0
  have hW' := hW
  obtain ⟨p, q, hA0, hV, rfl, hfz, hnd⟩ := hW
  have hA : DataW.TrodAll enc prog W 0 (fun _ => true) true f10.params.toList args.toList ds p := hA0
  rw [params10] at hA hval hsz
  obtain ⟨v0, v1, v2, v3, d0, d1, d2, d3, p0, p1, p2, p3, rfl, rfl, rfl, h0, h1, h2, h3⟩ := trodAll_four hA
  obtain ⟨rfl, rfl⟩ := trodVars_none hV
  obtain ⟨n0, rfl, rfl, rfl, wr0⟩ := open_int underlying3 (hval 0 3 v0 rfl rfl) h0
  have hw1 : ∀ m ∈ d1.weights prog 22, m ≤ reachBytes := fun m hm => of_decide_eq_true (List.all_eq_true.1 hsz m (DataW.weights_mem_each (j := 1) rfl rfl m hm))
  obtain ⟨l1, hS1⟩ := open_script (script_weights hw1) (hval 1 22 v1 rfl rfl) h1
  obtain ⟨n2, rfl, rfl, rfl, wr2⟩ := open_int underlying3 (hval 2 3 v2 rfl rfl) h2
  have hw3 : ∀ m ∈ d3.weights prog 22, m ≤ reachBytes := fun m hm => of_decide_eq_true (List.all_eq_true.1 hsz m (DataW.weights_mem_each (j := 3) rfl rfl m hm))
  obtain ⟨l3, hS3⟩ := open_script (script_weights hw3) (hval 3 22 v3 rfl rfl) h3
  clear hA0 hval0 hsz hsz0
  simp only [List.append_nil] at hW'
  refine (calls_true func10 (by kernel_rfl) (by kernel_rfl) (args := [.int .i64 n0, v1, .int .i64 n2, v3]) (w_twin hS1 hS3 (fine fun b hb => hb.elim))).mono fun e W' ⟨he, hb⟩ => ?_
  subst he
  have hlt := hW'.lt
  refine ⟨_, rfl, post_of_below (pa := [] ++ (p1 ++ ([] ++ p3))) (pv := []) hW' hb (fun _ _ _ => trodAll_mk1 (shut_bool underlying4 true)) (fun sp hsp => ?_) (fun _ _ => rfl) (by simp) (ok_one (by kernel_rfl) rfl (okWide_bool_mk underlying4 true))⟩
  exact trodAll_mk4 (shut_int underlying3 wr0)
    (stays laid1 (by kernel_rfl) (of_decide_eq_true (by kernel_rfl)) h1 hb (fun x hx => by simpa using hlt x (by simp [hx])) (fun x hx => hsp x (by simp [hx])))
    (shut_int underlying3 wr2)
    (stays laid1 (by kernel_rfl) (of_decide_eq_true (by kernel_rfl)) h3 hb (fun x hx => by simpa using hlt x (by simp [hx])) (fun x hx => hsp x (by simp [hx])))
theorem diskTwin_holds : Rows.DiskTwinSaid :=
 OpenClaim.holds_of_wide 10 f10 rfl rfl rfl rfl rfl rfl rfl ⟨rfl, rfl, rfl, rfl, rfl⟩ rfl rfl rfl rfl rfl (by kernel_rfl) func10 (by kernel_rfl)
  (of_decide_eq_true (by kernel_rfl)) (by unfold Func.isWrapper; first | (rw [if_pos (by decide +kernel)]; kernel_rfl) | (rw [if_neg (by decide +kernel)]; exact ⟨rfl, rfl⟩))
  (fun os started H enc _ => diskTwin_lifted os started H enc)
#print axioms diskTwin_holds
end Go.Proofs.YtcdcojpfealppaaGreat
