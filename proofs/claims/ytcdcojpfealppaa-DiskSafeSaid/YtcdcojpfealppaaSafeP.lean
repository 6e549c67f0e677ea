/- DiskSafe: the given row, proved: whatever the input, the law answers true and its arguments read as they did. No conditions. -/
import Derived.Test.YtcdcojpfealppaaScript
import Derived.Test.YtcdcojpfealppaaSafeW
import Derived.SizedLaws
set_option linter.unusedVariables false
set_option linter.unusedSimpArgs false
namespace Go.Proofs.Ytcdcojpfealppaa
open Go Go.ChangeShapes Go.WideShapes Go.ChangeAt Go.RowKit Go.Proofs Go.Proofs.XRed Go.Proofs.XHeap Go.Proofs.XSlices Go.Proofs.XRow
theorem own1 : ownKnob Try.prog.godebug = none := by kernel_rfl
theorem laid1 : laidOutB Try.prog = true := by kernel_rfl
set_option maxRecDepth 100000 in
theorem diskSafe_lifted (os : Os) (started : os.Started) (H : Type) (enc : TypeId × Value → H) :
    ReturnsInHanded {} Try.checked os 6 .any (Rows.diskSafeSpec.pre6 enc Try.prog Try.f6 Rows.diskSafeRow.domain false) (Rows.diskSafeSpec.post enc Try.prog Try.f6 false true false false) := by
  refine returnsInHanded_of_change_sized (C := Try.checked) own1 started (by kernel_rfl) Try.func6
    (ChangeSpec.witness6 (enc := enc) (C := Try.checked) false ⟨#[], #[.int .i64 0, .slice none 0 0, .slice none 0 0], []⟩ 8 (by kernel_rfl) (by kernel_rfl) (by kernel_rfl) (by kernel_rfl)) ?_
  intro W base args ds gs before hval0 hW _ hsz0 _
  have hsz : (DataW.weightsEach Try.prog (Try.f6.params.toList ++ Rows.diskSafeSpec.plain.varTypes Try.prog) (ds ++ gs)).all (· ≤ reachBytes) = true := hsz0
  have hval : ∀ (j : Nat) t v, Try.f6.params[j]? = some t → args[j]? = some v → Value.okWide Try.prog W .any base t v := hval0
  have hW' := hW
  obtain ⟨p, q, hA0, hV, rfl, hfz, hnd⟩ := hW
  have hA : DataW.TrodAll enc Try.prog W 0 (fun _ => true) true Try.f6.params.toList args.toList ds p := hA0
  rw [Try.params6] at hA hval hsz
  obtain ⟨v0, v1, v2, d0, d1, d2, p0, p1, p2, rfl, rfl, rfl, h0, h1, h2⟩ := trodAll_three hA
  obtain ⟨rfl, rfl⟩ := trodVars_none hV
  obtain ⟨room, rfl, rfl, rfl, wr⟩ := open_int Try.underlying3 (hval 0 3 v0 rfl rfl) h0
  have hw1 : ∀ m ∈ d1.weights Try.prog 55, m ≤ reachBytes := fun m hm => of_decide_eq_true (List.all_eq_true.1 hsz m (DataW.weights_mem_each (j := 1) rfl rfl m hm))
  obtain ⟨l, hS⟩ := open_script (script_weights hw1) (hval 1 55 v1 rfl rfl) h1
  obtain ⟨picks, hP⟩ : ∃ picks : List Int, Src W v2 1 picks.length (picks.map fun n => .int .i64 n) := by
    obtain ⟨a0, len, cap, rfl⟩ := okWide_slice Try.underlying57 (hval 2 57 v2 rfl rfl)
    obtain ⟨fuel, hf⟩ := h2
    obtain ⟨dv, d, e, hd, _⟩ := open_intsV hf
    simp [Value.cells] at e
    subst e
    exact ⟨d, hd⟩
  clear hA0 hval0 hsz hsz0
  simp only [List.append_nil] at hW'
  refine (calls_true Try.func6 (by kernel_rfl) (by kernel_rfl) (args := [.int .i64 room, v1, v2]) (w_safe hS hP (fine fun b hb => hb.elim))).mono fun e W' ⟨he, hb⟩ => ?_
  subst he
  have hlt := hW'.lt
  refine ⟨_, rfl, post_of_below (pa := [] ++ (p1 ++ p2)) (pv := []) hW' hb (fun _ _ _ => trodAll_mk1 (shut_bool Try.underlying4 true)) (fun sp hsp => ?_) (fun _ _ => rfl) (by simp) (ok_one (by kernel_rfl) rfl (okWide_bool_mk Try.underlying4 true))⟩
  exact trodAll_mk3 (shut_int Try.underlying3 wr) (stays laid1 (by kernel_rfl) (of_decide_eq_true (by kernel_rfl)) h1 hb (fun x hx => by simpa using hlt x (by simp [hx])) (fun x hx => hsp x (by simp [hx])))
    (stays laid1 (by kernel_rfl) (of_decide_eq_true (by kernel_rfl)) h2 hb (fun x hx => by simpa using hlt x (by simp [hx])) (fun x hx => hsp x (by simp [hx])))
theorem diskSafe_holds : Rows.DiskSafeSaid :=
  OpenClaim.holds_of_wide 6 Try.f6 rfl rfl rfl rfl rfl rfl rfl ⟨rfl, rfl, rfl, rfl, rfl⟩ rfl rfl rfl rfl rfl (by kernel_rfl) Try.func6 (by kernel_rfl)
    (of_decide_eq_true (by kernel_rfl)) (by unfold Func.isWrapper; first | (rw [if_pos (by decide +kernel)]; kernel_rfl) | (rw [if_neg (by decide +kernel)]; exact ⟨rfl, rfl⟩))
    (fun os started H enc _ => diskSafe_lifted os started H enc)
#print axioms diskSafe_holds
end Go.Proofs.Ytcdcojpfealppaa
