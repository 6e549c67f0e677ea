/- DiskRefuses: the given row, proved: where what it reads is of bulk at most 1048576, the law answers true and its arguments read as they did. -/
import Derived.Test.YtcdcojpfealppaaScript
import Derived.Test.YtcdcojpfealppaaRefuseW
set_option linter.unusedVariables false
set_option linter.unusedSimpArgs false
namespace Go.Proofs.Ytcdcojpfealppaa
open Go Go.ChangeShapes Go.WideShapes Go.ChangeAt Go.RowKit Go.Proofs Go.Proofs.XRed Go.Proofs.XHeap Go.Proofs.XSlices Go.Proofs.XRow
theorem own1 : ownKnob Try.prog.godebug = none := by kernel_rfl
theorem laid1 : laidOutB Try.prog = true := by kernel_rfl
theorem bulk_bound {H : Type} {l : List (DataW H)} (hk : Rows.uptoSmall H l = true) : Rows.uptoBulkAll l ≤ 1048576 := of_decide_eq_true hk
set_option maxRecDepth 100000 in
theorem diskRefuses_lifted (os : Os) (started : os.Started) (H : Type) (enc : TypeId × Value → H) (F : Stop.Interp) :
    ReturnsInHanded {} Try.checked os 5 .any ((Rows.OpenSpec.upto Rows.diskRefusesSpec).pre6 enc Try.prog Try.f5 Rows.diskRefusesUptoRow.domain false) (((Rows.OpenSpec.upto Rows.diskRefusesSpec).at F).post enc Try.prog Try.f5 false true false false) := by
  refine returnsInHanded_of_cond (C := Try.checked) (s := Rows.OpenSpec.upto Rows.diskRefusesSpec) (k := Rows.uptoSmall) rfl own1 started (by kernel_rfl) Try.func5
    (OpenSpec.witness (enc := enc) (C := Try.checked) (s := Rows.OpenSpec.upto Rows.diskRefusesSpec) (k := Rows.uptoSmall) rfl false ⟨#[], #[.int .i64 0, .slice none 0 0], []⟩ 8 (by kernel_rfl) (by kernel_rfl) (by kernel_rfl)
      (x := ([.lit (.int .i64 0), .nil], [], [])) (by kernel_rfl) rfl (by kernel_rfl)) ?_
  intro W base args ds gs before hval0 hW _ hk _
  have hval : ∀ (j : Nat) t v, Try.f5.params[j]? = some t → args[j]? = some v → Value.okWide Try.prog W .any base t v := hval0
  have hW' := hW
  obtain ⟨p, q, hA0, hV, rfl, hfz, hnd⟩ := hW
  have hA : DataW.TrodAll enc Try.prog W 0 (fun _ => true) true Try.f5.params.toList args.toList ds p := hA0
  rw [Try.params5] at hA hval
  obtain ⟨v0, v1, d0, d1, p0, p1, rfl, rfl, rfl, h0, h1⟩ := trodAll_two hA
  obtain ⟨rfl, rfl⟩ := trodVars_none hV
  obtain ⟨room, rfl, rfl, rfl, wr⟩ := open_int Try.underlying3 (hval 0 3 v0 rfl rfl) h0
  have hbulk := bulk_bound hk
  have hb1 : Rows.uptoBulk d1 ≤ 1048576 := Nat.le_trans (bulk_part (l := [.lit (.int .i64 room), d1] ++ []) (by simp)) hbulk
  obtain ⟨l, hS⟩ := open_script hb1 (hval 1 55 v1 rfl rfl) h1
  clear hA0 hval0 hbulk hk
  simp only [List.append_nil] at hW'
  refine (calls_true Try.func5 (by kernel_rfl) (by kernel_rfl) (args := [.int .i64 room, v1]) (w_refuses (i64_wf wr) hS (fine fun b hb => hb.elim))).mono fun e W' ⟨he, hb⟩ => ?_
  subst he
  have hlt := hW'.lt
  refine ⟨_, rfl, post_of_below (pa := [] ++ p1) (pv := []) hW' hb (fun _ _ _ => trodAll_mk1 (shut_bool Try.underlying4 true)) (fun sp hsp => ?_) (fun _ _ => rfl) (by simp) (ok_one (by kernel_rfl) rfl (okWide_bool_mk Try.underlying4 true))⟩
  exact trodAll_mk2 (shut_int Try.underlying3 wr) (stays laid1 (by kernel_rfl) (of_decide_eq_true (by kernel_rfl)) h1 hb (fun x hx => by simpa using hlt x (by simp [hx])) (fun x hx => hsp x (by simp [hx])))
theorem diskRefuses_holds : Rows.DiskRefusesUptoSaid :=
  OpenClaim.holds_of_cond 5 Try.f5 rfl rfl rfl rfl rfl rfl rfl ⟨rfl, rfl, rfl, rfl, rfl⟩ rfl rfl rfl rfl rfl (by kernel_rfl) Try.func5 (by kernel_rfl)
    (of_decide_eq_true (by kernel_rfl)) (by unfold Func.isWrapper; first | (rw [if_pos (by decide +kernel)]; kernel_rfl) | (rw [if_neg (by decide +kernel)]; exact ⟨rfl, rfl⟩))
    (fun os started H enc _ F => diskRefuses_lifted os started H enc F)
#print axioms diskRefuses_holds
end Go.Proofs.Ytcdcojpfealppaa
