/- Put together by a program (wip/tools/shake.py): Cut6. -/
import Derived.Test.YteeeggphkhimcaaGreatDoorG18
set_option linter.unusedVariables false
set_option linter.unusedSimpArgs false
set_option maxRecDepth 100000
namespace Go.Proofs.YteeeggphkhimcaaGreatDoor
open Go Go.Proofs Go.RowKit Go.Proofs.XRed Go.Proofs.XHeap Go.Proofs.XMaps Go.Proofs.XSlices Go.Proofs.XDisk Go.Proofs.XCalls Go.Proofs.XSep Tryz
section
variable {W w:World} {k:KV} {L:List Asrt} {v va pv dv:Value} {l la:FilesL} {S:AD} {E c:Nat} {op name:ByteArray} {e:Int} {picks:List Int} {d:Bytes}
theorem crash_calm (C:AD) (picks:List Int) : ∀ b,(C.crash picks).since ≤ b → outAt (C.crash picks) b = false := fun b hb => by
 have hb : (0 : Int) ≤ b := hb
 unfold outAt
 exact decide_eq_false (by show ¬ b + 1 = 0; omega)
theorem stroke_plan {kind ref:Int} {act:AD → AD} (h:∀ T,(act T).plan = T.plan ∧ (act T).since = T.since) : (S.stroke kind ref act).2.plan = S.plan ∧ S.since ≤ (S.stroke kind ref act).2.since := by
 have key : ∀ (c:Prop) [Decidable c] (T:AD),T.plan = S.plan → T.since = S.since + 1 → (if c then act T else T).plan = S.plan ∧ S.since ≤ (if c then act T else T).since := by
  intro c _ T h1 h2
  by_cases hc : c
  ·rw [if_pos hc,(h T).1,(h T).2]; exact ⟨h1,by omega⟩
  ·rw [if_neg hc]; exact ⟨h1,by omega⟩
 unfold AD.stroke
 exact key _ _ rfl rfl
theorem remove_plan (n:ByteArray) : (S.remove n).2.plan = S.plan ∧ S.since ≤ (S.remove n).2.since := by
 unfold AD.remove
 split
 ·exact ⟨rfl,Int.le_refl _⟩
 ·exact stroke_plan fun T => ⟨rfl,rfl⟩
theorem syncNames_plan : S.syncNames.2.plan = S.plan ∧ S.since ≤ S.syncNames.2.since := by
 unfold AD.syncNames
 split
 ·exact ⟨rfl,Int.le_refl _⟩
 ·exact stroke_plan fun T => ⟨rfl,rfl⟩
theorem removeAll_plan : ∀ (L:List ByteArray) (S:AD),(AD.removeAll L S).2.plan = S.plan ∧ S.since ≤ (AD.removeAll L S).2.since
 | [],S => ⟨rfl,Int.le_refl _⟩
 | n :: L,S => by
  have h1 := remove_plan (S := S) n
  have h2 := removeAll_plan L (S.remove n).2
  unfold AD.removeAll andE
  split
  ·exact h1
  ·exact ⟨h2.1.trans h1.1,Int.le_trans h1.2 h2.2⟩
theorem cleanF_plan (L:List ByteArray) : (S.cleanF L).2.plan = S.plan ∧ S.since ≤ (S.cleanF L).2.since := by
 have h1 := removeAll_plan L S
 unfold AD.cleanF
 split
 ·exact ⟨rfl,Int.le_refl _⟩
 ·unfold andE
  split
  ·exact h1
  ·split
   ·exact h1
   ·have h2 := syncNames_plan (S := (AD.removeAll L S).2)
    exact ⟨h2.1.trans h1.1,Int.le_trans h1.2 h2.2⟩
theorem cut_test {g o dvv:Value} {is had:Bool} {x y:Bytes} {o1 o2:Operand} (hx:SBytes w g x) (hy:SBytes w o y) (hd:SBytes w dvv d) (hl:x.length ≤ 4611686018427387904) (h:(is = had ∧ x = y) ∨ (is = true ∧ x = d))
    {kk:Value → Value → Value → Value → Value → Value → Value → Value → Value → Value → Value → Value → KV} (hk:∀ a b c d e f g h i j k l w',Fr no w w' → kk a b c d e f g h i j k l (.bool false) w') :
    px P (binSem BinOp.eql 4 o1 o2 (.bool is) (.bool had)) w fun v95 w =>
    pG v95 true (fun k => k g w) (w := w) (next := fun v97 w =>
    pG v95 true (fun k => k o w) (w := w) (next := fun v98 w =>
    pG v95 true (fun k => pFn P 21 [v97,v98] w k) (w := w) (next := fun v99 w =>
    px P (pickSem v95 v99 (.bool false)) w fun v100 w =>
    pG (.bool is) true (fun k => k g w) (w := w) (next := fun v103 w =>
    pG (.bool is) true (fun k => k dvv w) (w := w) (next := fun v104 w =>
    pG (.bool is) true (fun k => pFn P 21 [v103,v104] w k) (w := w) (next := fun v105 w =>
    px P (pickSem (.bool is) v105 (.bool false)) w fun v106 w =>
    px P (Op.unary UnOp.not v100) w fun v108 w =>
    pG v108 true (fun k => k v106 w) (w := w) (next := fun v110 w =>
    pG v108 true (fun k => px P (Op.unary UnOp.not v110) w k) (w := w) (next := fun v111 w =>
    px P (pickSem v108 v111 (.bool false)) w fun v112 w => kk v95 v97 v98 v99 v100 v103 v104 v105 v106 v108 v110 v111 v112 w)))))))) := by
  refine s6_eqb2 ?_
  rcases h with ⟨h1,h2⟩ | ⟨h1,h2⟩
  · subst h1
    rw [show (is == is) = true by cases is <;> rfl]
    refine pG_yes rfl (pG_yes rfl (pG_yes rfl (c_bytes hx hy hl fun w1 f1 => ?_)))
    rw [decide_eq_true h2]
    refine s_pick_t ?_
    cases is with
    | false =>
      refine pG_sk (pG_sk (pG_sk (s_pick_f (s_not (pG_sk (pG_sk (s_pick_f ?_)))))))
      exact hk _ _ _ _ _ _ _ _ _ _ _ _ w1 f1
    | true =>
      refine pG_yes rfl (pG_yes rfl (pG_yes rfl (c_bytes (hx.fr f1 fun _ _ h => h) (hd.fr f1 fun _ _ h => h) hl fun w2 f2 => ?_)))
      refine s_pick_t (s_not (pG_sk (pG_sk (s_pick_f ?_))))
      exact hk _ _ _ _ _ _ _ _ _ _ _ _ w2 (f1.trans f2 fun b hb => hb.elim)
  · subst h1
    cases had with
    | false =>
      refine pG_sk (pG_sk (pG_sk (s_pick_f ?_)))
      refine pG_yes rfl (pG_yes rfl (pG_yes rfl (c_bytes hx hd hl fun w1 f1 => ?_)))
      rw [decide_eq_true h2]
      refine s_pick_t (s_not (pG_yes rfl (pG_yes rfl (s_not (s_pick_t ?_)))))
      exact hk _ _ _ _ _ _ _ _ _ _ _ _ w1 f1
    | true =>
      refine pG_yes rfl (pG_yes rfl (pG_yes rfl (c_bytes hx hy hl fun w1 f1 => ?_)))
      refine s_pick_t ?_
      refine pG_yes rfl (pG_yes rfl (pG_yes rfl (c_bytes (hx.fr f1 fun _ _ h => h) (hd.fr f1 fun _ _ h => h) hl fun w2 f2 => ?_)))
      rw [decide_eq_true h2]
      refine s_pick_t (s_not ?_)
      cases decide (x = y) with
      | true => exact pG_sk (pG_sk (s_pick_f (hk _ _ _ _ _ _ _ _ _ _ _ _ w2 (f1.trans f2 fun b hb => hb.elim))))
      | false => exact pG_yes rfl (pG_yes rfl (s_not (s_pick_t (hk _ _ _ _ _ _ _ _ _ _ _ _ w2 (f1.trans f2 fun b hb => hb.elim)))))
theorem cut_test2 {gp op_ dvv:Value} {is had:Bool} {x y:Bytes} (hx:SBytes w gp x) (hy:SBytes w op_ y) (hd:SBytes w dvv d) (hdl:d.length ≤ 4611686018427387904) (hl:x.length ≤ 4611686018427387904) (h:is = true → (∃ m,x = d.take m) ∨ (had = true ∧ x = y))
    {kk:Value → Value → Value → Value → Value → Value → Value → Value → Value → Value → Value → Value → KV} (hk:∀ a b c d e f g h i j k l w',Fr no w w' → kk a b c d e f g h i j k l (.bool false) w') :
    pG (.bool is) true (fun k => k dvv w) (w := w) (next := fun v115 w =>
    pG (.bool is) true (fun k => k gp w) (w := w) (next := fun v116 w =>
    pG (.bool is) true (fun k => pFn P 60 [v115,v116] w k) (w := w) (next := fun v117 w =>
    pG (.bool is) true (fun k => px P (Op.unary UnOp.not v117) w k) (w := w) (next := fun v118 w =>
    px P (pickSem (.bool is) v118 (.bool false)) w fun v119 w =>
    pG v119 true (fun k => k (.bool had) w) (w := w) (next := fun v121 w =>
    pG v119 true (fun k => k v121 w) (w := w) (next := fun v122 w =>
    pG v122 true (fun k => k gp w) (w := w) (next := fun v123 w =>
    pG v122 true (fun k => k op_ w) (w := w) (next := fun v124 w =>
    pG v122 true (fun k => pFn P 21 [v123,v124] w k) (w := w) (next := fun v125 w =>
    pG v119 true (fun k => px P (pickSem v122 v125 (.bool false)) w k) (w := w) (next := fun v126 w =>
    pG v119 true (fun k => px P (Op.unary UnOp.not v126) w k) (w := w) (next := fun v127 w =>
    px P (pickSem v119 v127 (.bool false)) w fun v128 w => kk v115 v116 v117 v118 v119 v121 v122 v123 v124 v125 v126 v127 v128 w))))))))))) := by
  have skip : ∀ {w1:World},Fr no w w1 → ∀ a b c e,pG (.bool false) true (fun k => k (.bool had) w1) (w := w1) (next := fun v121 w =>
    pG (.bool false) true (fun k => k v121 w) (w := w) (next := fun v122 w =>
    pG v122 true (fun k => k gp w) (w := w) (next := fun v123 w =>
    pG v122 true (fun k => k op_ w) (w := w) (next := fun v124 w =>
    pG v122 true (fun k => pFn P 21 [v123,v124] w k) (w := w) (next := fun v125 w =>
    pG (.bool false) true (fun k => px P (pickSem v122 v125 (.bool false)) w k) (w := w) (next := fun v126 w =>
    pG (.bool false) true (fun k => px P (Op.unary UnOp.not v126) w k) (w := w) (next := fun v127 w =>
    px P (pickSem (.bool false) v127 (.bool false)) w fun v128 w => kk a b c e (.bool false) v121 v122 v123 v124 v125 v126 v127 v128 w))))))) := by
    intro w1 f1 a b c e
    exact pG_sk (pG_sk (pG_un (pG_un (pG_un (pG_sk (pG_sk (s_pick_f (hk _ _ _ _ _ _ _ _ _ _ _ _ w1 f1))))))))
  cases is with
  | false => exact pG_sk (pG_sk (pG_sk (pG_sk (s_pick_f (skip (Fr.refl _ _) _ _ _ _)))))
  | true =>
    refine pG_yes rfl (pG_yes rfl (pG_yes rfl (c_begins6 hd hx hdl fun w1 f1 => pG_yes rfl (s_not (s_pick_t ?_)))))
    by_cases hb : x.length ≤ d.length ∧ d.take x.length = x
    · rw [decide_eq_true hb]
      exact skip f1 _ _ _ _
    · rw [decide_eq_false hb]
      rcases h rfl with ⟨m,hm⟩ | ⟨h1,h2⟩
      · exact absurd ⟨by rw [hm,List.length_take]; omega,by rw [hm,List.length_take,← List.take_take,List.take_length]⟩ hb
      · subst h1
        refine pG_yes rfl (pG_yes rfl (pG_yes rfl (pG_yes rfl (pG_yes rfl (c_bytes (hx.fr f1 fun _ _ h => h) (hy.fr f1 fun _ _ h => h) hl fun w2 f2 => ?_)))))
        rw [decide_eq_true h2]
        exact pG_yes rfl (s_pick_t (pG_yes rfl (s_not (s_pick_t (hk _ _ _ _ _ _ _ _ _ _ _ _ w2 (f1.trans f2 fun b hb => hb.elim))))))
theorem cut_names {was now:List FileA} (h:CutOut (plusOf name) name d was now) (hl:lays name = true) (hw:∀ f ∈ was,isName f.1 = true) : ∀ f ∈ now,isName f.1 = true := fun f hf => by
 obtain ⟨hn,hp,hpn⟩ := lays_name hl
 by_cases h1 : f.1 = plusOf name
 ·rw [h1]; exact hp
 ·by_cases h2 : f.1 = name
  ·rw [h2]; exact hn
  ·have : f ∈ rst (plusOf name) name now := List.mem_filter.2 ⟨hf,by rw [decide_eq_true h1,decide_eq_true h2]; rfl⟩
   rw [h.1] at this
   exact hw f (mem_rst this)
set_option maxHeartbeats 4000000 in
theorem w_filesCut {off room:Int} (hg:ErrT W) (_:-9223372036854775808 ≤ room ∧ room ≤ 9223372036854775807) (hv:FilesS W v l) (hdl:∀ p ∈ l,p.1.2.length ≤ 140737488355328) (hfn:∀ f ∈ l.plain,f.1.size ≤ 9223372036854775807) (hns:name.size ≤ 1048576) (hd:SBytes W dv d) (hdd:d.length ≤ 1048576) (hoff:-9223372036854775808 ≤ off ∧ off ≤ 9223372036854775807) (hpv:Src W pv 1 picks.length (picks.map fun n => .int .i64 n)) (hpl:picks.length ≤ 1048576) (hk:∀ w',Fr no W w' → k (.bool true) w') : pFn P 14 [i64 room,v,.string name,dv,i64 off,pv] W k := by
 refine F14_in _ _ _ _ _ _ _ _ ?_
 unfold F14_0
 refine c_round6 rfl (by decide) (by decide) ?_
 have h3 : 0 ≤ room.emod 4000 ∧ room.emod 4000 < 4000 := ⟨Int.emod_nonneg _ (by decide),Int.emod_lt_of_pos _ (by decide)⟩
 refine s_add_in (by omega) ?_
 refine c_loaded6 hv (by omega) (fun p hp => hfn _ (List.mem_map_of_mem hp)) hdl fun w1 E S va la hL hla h1 => ?_
 refine s_ext rfl (s_ext rfl ?_)
 refine c_known6 (errT_base hg (h1.base_at 2 rfl)) fun w2 f2 => s_not (pG_yes rfl (pG_yes rfl ?_))
 unfold ptr
 refine s_eqpn upt24 (s_pick_f (pC_false ?_))
 replace h1 := h1.q f2
 have hlal := fls_len hL.ok hla
 refine s_addS (by show 1 + name.size ≤ _; omega) ?_
 refine c_under6 (Sep.fls h1 0 rfl) (by omega) (s_ext rfl (s_ext rfl ?_))
 refine c_under6 (name := plusOf name) (Sep.fls h1 0 rfl) (by omega) (s_ext rfl (s_ext rfl ?_))
 refine c_round6 rfl (by decide) (by decide) ?_
 have h7 : 0 ≤ off.emod 7 ∧ off.emod 7 < 7 := ⟨Int.emod_nonneg _ (by decide),Int.emod_lt_of_pos _ (by decide)⟩
 refine s_add_in (by omega) ?_
 refine px_ok (w' := w2) (v := planVal ⟨1 + off.emod 7,0,0⟩) (by kernel_rfl) ?_
 refine sd_plan h1 1 rfl hL.ok ⟨1 + off.emod 7,0,0⟩ fun w3 h3 => ?_
 obtain ⟨r1,r2,r3,r4⟩ := hL.rest.plans ⟨1 + off.emod 7,0,0⟩
 have okp : (S.plans ⟨1 + off.emod 7,0,0⟩).Ok 0 := hL.ok.plans _
 have hla' : la.plain = (S.plans ⟨1 + off.emod 7,0,0⟩).files := by rw [r2]; exact hla
 have hwn : ∀ f ∈ la.plain,isName f.1 = true := fun f hf => by
  rw [hla] at hf
  obtain ⟨q,hq,rfl⟩ := List.mem_map.1 hf
  exact hL.names q hq
 replace h3 : Sep [FlsA va la,Dk E (S.plans ⟨1 + off.emod 7,0,0⟩),Base W] w3 := h3
 generalize S.plans ⟨1 + off.emod 7,0,0⟩ = S1 at *
 have h3' : Sep (Dk E S1 :: Base W :: [FlsA va la]) w3 := sep_mv [2,2] 0 h3 rfl
 refine c_fPut (name := name) (holds_base hd) h3' okp (by omega) (by omega) (by omega) fun w4 ev h4 => ?_
 have ok2 : (S1.putF name d).2.Ok (0 + 8) := ok_putF okp (by omega) name d
 have law : lays name = true → _ := cut_law (d := d) (name := name) r1
 have lawn : lays name = false → S1.putF name d = (51,S1) := putF_no
 generalize S1.putF name d = R at *
 obtain ⟨Re,R2⟩ := R
 dsimp only at *
 refine sd_off h4 1 rfl ok2 ?_
 cases ho : R2.off with
 | false =>
  refine s_not (pC_true (sd_code h4 (errT_base hg (h4.base_at 2 rfl)) 0 rfl fun w5 f5 => ?_))
  have he : Re ≠ 50 := by
   cases hl : lays name with
   | false => have := lawn hl; injection this with h _; rw [h]; decide
   | true => have := (law hl).2 ho; omega
  exact s_nei_t he (hk w5 ((h4.base_at 2 rfl).trans f5 fun b hb => hb.elim))
 | true =>
  have hl : lays name = true := by
   cases hl : lays name with
   | true => rfl
   | false => have := lawn hl; injection this with _ h; rw [h,r1.off] at ho; cases ho
  obtain ⟨he,hcut⟩ := (law hl).1 ho
  subst he
  have hcut := hcut picks
  rw [← hla'] at hcut
  refine s_not (pC_false (sd_code h4 (errT_base hg (h4.base_at 2 rfl)) 0 rfl fun w5 f5 => ?_))
  replace h4 := h4.q f5
  refine s_nei_f rfl (pC_false ?_)
  refine sd_crash h4 1 rfl ok2 (by omega) (hpv.fr (by omega) (h4.base_at 2 rfl) fun _ _ h => h) fun w6 h6 => ?_
  replace h6 : Sep [ErrA ev putB name 50,Dk E (R2.crash picks),Base W,FlsA va la] w6 := h6
  have ok3 : (R2.crash picks).Ok (0 + 8) := ok2.crash picks
  have rest3 := AtRest.crash ok2 picks
  have calm3 := crash_calm R2 picks
  generalize R2.crash picks = X at *
  clear law lawn ok2 h3' h3 h1
  refine sd_files h6 1 rfl ok3 fun w7 vn ln hln h7 => ?_
  have hlnl := fls_len ok3 hln
  rw [← hln] at hcut
  have hnn := cut_names hcut hl hwn
  refine c_under6 (Sep.fls h7 0 rfl) (by omega) (s_ext rfl (s_ext rfl ?_))
  refine c_under6 (name := plusOf name) (Sep.fls h7 0 rfl) (by omega) (s_ext rfl (s_ext rfl ?_))
  refine cut_test (x := (alGet ln.plain name).getD []) (y := (alGet la.plain name).getD []) (d := d) (und_bytes (Sep.fls h7 0 rfl) name) (und_bytes (Sep.fls h7 4 rfl) name) (hd.fr (h7.base_at 3 rfl) fun _ _ h => h) (und_len ok3 hln name) ?_ fun _ _ _ _ _ _ _ _ _ _ _ _ w8 f8 => ?_
  ·rcases hcut.2.1 with h | h
   ·left; rw [h]; exact ⟨rfl,rfl⟩
   ·right; rw [h]; exact ⟨rfl,rfl⟩
  replace h7 := h7.q f8
  refine pC_false ?_
  refine cut_test2 (x := (alGet ln.plain (plusOf name)).getD []) (y := (alGet la.plain (plusOf name)).getD []) (d := d) (und_bytes (Sep.fls h7 0 rfl) (plusOf name)) (und_bytes (Sep.fls h7 4 rfl) (plusOf name)) (hd.fr (h7.base_at 3 rfl) fun _ _ h => h) (by omega) (und_len ok3 hln _) ?_ fun _ _ _ _ _ _ _ _ _ _ _ _ w9 f9 => ?_
  ·intro his
   obtain ⟨g,hgp⟩ := Option.isSome_iff_exists.1 his
   rw [hgp]
   rcases hcut.2.2 g hgp with h | h
   ·exact .inl h
   ·right; rw [h]; exact ⟨rfl,rfl⟩
  replace h7 := h7.q f9
  refine pC_false ?_
  refine c_others6 (Sep.fls h7 4 rfl) (Sep.fls h7 0 rfl) (by omega) (by omega) (fun p hp => by have := fls_data hL.ok hla p hp; omega) fun w10 f10 => ?_
  have hx : rst name (plusOf name) la.plain = rst name (plusOf name) ln.plain := by rw [rst_swap name,rst_swap name]; exact hcut.1.symm
  rw [show decide (rst name (ByteArray.mk #[43] ++ name) la.plain = rst name (ByteArray.mk #[43] ++ name) ln.plain) = true from decide_eq_true hx]
  replace h7 := h7.q f10
  refine s_not (pG_yes rfl (pG_yes rfl ?_))
  have h8 : Sep (Dk E X :: [FlsA vn ln,ErrA ev putB name 50,Base W,FlsA va la]) w10 := sep_mv [2] 0 h7 rfl
  have hXn : ∀ q ∈ X.shown,isName q.1 = true := fun q hq => by
   have : (q.1,(X.things q.2).shown) ∈ X.files := List.mem_map.2 ⟨q,hq,rfl⟩
   rw [← hln] at this
   exact hnn _ this
  refine c_fClean (p := plusB) h8 ok3 (by omega) fun w11 cv h8 => ?_
  obtain ⟨hL1,hL2⟩ := list_ok (p := plusB) rest3 hXn
  have claw := clean_law rest3 hL1 hL2
  have cpl := cleanF_plan (S := X) (AD.listA X plusB)
  have ok4 : (X.cleanF (AD.listA X plusB)).2.Ok (0 + 8 + 300) := ok_clean ok3 (by omega) _
  generalize X.cleanF (AD.listA X plusB) = Q at *
  obtain ⟨Qe,Q2⟩ := Q
  dsimp only at *
  rcases claw with ⟨g1,g2,g3,g4,g5⟩ | ⟨g0,g1,⟨b,hb1,hb2⟩,g3,g4⟩
  ·subst g1
   have hcv := errA_nil h8 0 rfl
   subst hcv
   refine pG_yes rfl (s_nenn (s_pick_f (pC_false ?_)))
   have rest4 : AtRest Q2 := ⟨g2,g3,_,ok4⟩
   have calm4 : ∀ b,Q2.since ≤ b → outAt Q2 b = false := fun b hb => by
    have := calm3 b (Int.le_trans cpl.2 hb)
    unfold outAt at this ⊢
    rw [cpl.1]; exact this
   have h9 : Sep (Dk E Q2 :: Base W :: [ErrA .nilIface cleanB plusB 0,FlsA vn ln,ErrA ev putB name 50,FlsA va la]) w11 := sep_mv [4,2] 0 h8 rfl
   refine c_fPut (name := name) (holds_base hd) h9 ok4 (by omega) (by omega) (by omega) fun w12 pv2 h9 => ?_
   have plaw := put_law (d := d) rest4 calm4 hl
   have ok5 : (Q2.putF name d).2.Ok (0 + 8 + 300 + 8) := ok_putF ok4 (by omega) name d
   generalize Q2.putF name d = Z at *
   obtain ⟨Ze,Z2⟩ := Z
   dsimp only at *
   refine sd_code h9 (errT_base hg (h9.base_at 2 rfl)) 0 rfl fun w13 f13 => ?_
   replace h9 := h9.q f13
   rcases plaw with ⟨z1,z2,z3,z4,z5,z6⟩ | ⟨z1,z2,z3,z4,z6⟩
   ·subst z1
    refine s_eqi_t rfl (pC_true ?_)
    refine sd_files h9 1 rfl ok5 fun w14 vz lz hlz h10 => ?_
    have hlzl := fls_len ok5 hlz
    refine c_under6 (Sep.fls h10 0 rfl) (by omega) (s_ext rfl (s_ext rfl ?_))
    have hz : alGet lz.plain name = some d := by rw [hlz]; exact z3
    have bz := und_bytes (Sep.fls h10 0 rfl) name
    rw [hz] at bz ⊢
    have hW := h10.base_at 3 rfl
    refine pG_yes rfl (pG_yes rfl (pG_yes rfl (c_bytes bz (hd.fr hW fun _ _ h => h) (by show d.length ≤ _; omega) fun w15 f15 => ?_)))
    rw [show decide ((some d).getD [] = d) = true from decide_eq_true rfl]
    exact s_pick_t (hk w15 (hW.trans f15 fun b hb => hb.elim))
   ·have hW := h9.base_at 2 rfl
    rcases z1 with z1 | z1
    ·subst z1
     refine s_eqi_f (by decide) (pC_false (s_eqi_t rfl (pC_true ?_)))
     rw [F14_1_eq]
     unfold F14_1
     exact pC_true (hk w13 hW)
    ·subst z1
     refine s_eqi_f (by decide) (pC_false (s_eqi_f (by decide) (pC_false (s_eqi_t rfl ?_))))
     rw [F14_1_eq]
     unfold F14_1
     exact pC_true (hk w13 hW)
  ·rw [calm3 b hb1] at hb2; cases hb2
end
end Go.Proofs.YteeeggphkhimcaaGreatDoor
