/- Whatever the input,it answers true and its arguments read as they did. No conditions. -/
import Derived.Test.YtcdcojpfealppaaGreatY15
import Derived.Test.YtcdcojpfealppaaGreatY33
import Derived.SizedLaws
import Derived.Carry
set_option linter.unusedVariables false
set_option linter.unusedSimpArgs false
open Go.Proofs.Tryz renaming prog → Z
open Go renaming Value → V
namespace Go.Proofs.YtcdcojpfealppaaGreat
open Go Go.ChangeShapes Go.WideShapes Go.ChangeAt Go.RowKit Go.Proofs Go.Proofs.XRed Go.Proofs.XHeap Go.Proofs.XSlices Go.Proofs.XRow Tryz
theorem znn:ownKnob prog.godebug=none:=by kernel_rfl
theorem zj4:laidOutB Z=true:=by kernel_rfl
set_option maxRecDepth 100000 in
theorem Jv (os:Os) (started:os.Started) (H:Type) (enc:TypeId×V→H):
   ReturnsInHanded {} checked os 12 .any (Rows.diskOwnSpec.pre6 enc Z f12 Rows.diskOwnRow.domain false) (Rows.diskOwnSpec.post enc Z f12 false true false false):=by
 refine returnsInHanded_of_change_sized (C:=checked) znn started (by kernel_rfl) func12
   (ChangeSpec.witness6 (enc:=enc) (C:=checked) false ⟨#[],#[.int .i64 0,.slice none 0 0],[]⟩ 8 (by kernel_rfl) (by kernel_rfl) (by kernel_rfl) (by kernel_rfl)) ?_
 intro W base args ds gs before hval0 hW _ hsz0 _
 have hsz:(DataW.weightsEach Z (f12.params.toList++Rows.diskOwnSpec.plain.varTypes Z) (ds++gs)).all (· ≤reachBytes)=true:=hsz0
 have hval:∀(j:Nat) t v,f12.params[j]? =some t→args[j]? =some v→Value.okWide Z W .any base t v:=hval0
 have hW':=hW
 obtain⟨p,q,hA0,hV,rfl,hfz,hnd⟩:=hW
 have hA:DataW.TrodAll enc Z W 0 (fun _=>true) true f12.params.toList args.toList ds p:=hA0
 rw[params12] at hA hval hsz
 obtain⟨v0,v1,d0,d1,p0,p1,rfl,rfl,rfl,h0,h1⟩:=trodAll_two hA
 obtain⟨rfl,rfl⟩:=trodVars_none hV
 obtain⟨n0,rfl,rfl,rfl,wr0⟩:=open_int underlying3 (hval 0 3 v0 rfl rfl) h0
 have hw1:∀m∈d1.weights Z 22,m≤reachBytes:=fun m hm=>of_decide_eq_true (List.all_eq_true.1 hsz m (DataW.weights_mem_each (j:=1) rfl rfl m hm))
 obtain⟨l1,hS1⟩:=Cn (Jl hw1) (hval 1 22 v1 rfl rfl) h1
 clear hA0 hval0 hsz hsz0
 simp only[List.append_nil] at hW'
 refine(DT func12 (by kernel_rfl) (by kernel_rfl) (args:=[.int .i64 n0,v1]) (zhi hS1 (zlm fun b hb=>hb.elim))).mono fun e W' ⟨he,hb⟩=> ?_
 subst he
 have hlt:=hW'.lt
 refine⟨_,rfl,JX (pa:=[]++p1) (pv:=[]) hW' hb (fun _ _ _=>trodAll_mk1 (shut_bool underlying4 true)) (fun sp hsp=> ?_) (fun _ _=>rfl) (by simp) (ok_one (by kernel_rfl) rfl (okWide_bool_mk underlying4 true))⟩
 exact trodAll_mk2 (shut_int underlying3 wr0)
   (stays zj4 (by kernel_rfl) (of_decide_eq_true (by kernel_rfl)) h1 hb (fun x hx=>by simpa using hlt x (by simp[hx])) (fun x hx=>hsp x (by simp[hx])))
theorem diskOwn_holds:Rows.DiskOwnSaid:=
 OpenClaim.holds_of_wide 12 f12 rfl rfl rfl rfl rfl rfl rfl ⟨rfl,rfl,rfl,rfl,rfl⟩ rfl rfl rfl rfl rfl (by kernel_rfl) func12 (by kernel_rfl)
  (of_decide_eq_true (by kernel_rfl)) (by unfold Func.isWrapper;first|(rw[if_pos (by decide+kernel)];kernel_rfl)|(rw[if_neg (by decide+kernel)];exact⟨rfl,rfl⟩))
  (fun os started H enc _=>Jv os started H enc)
#print axioms diskOwn_holds
end Go.Proofs.YtcdcojpfealppaaGreat
