/- Put together by a program (wip/tools/shake.py): Puts6. -/
import Derived.Test.YteeeggphkhimcaaGreatDoorE17
set_option linter.unusedVariables false
set_option linter.unusedSimpArgs false
set_option maxRecDepth 100000
namespace Go.Proofs.YteeeggphkhimcaaGreatDoor
open Go Go.Proofs Go.RowKit Go.Proofs.XRed Go.Proofs.XHeap Go.Proofs.XMaps Go.Proofs.XSlices Go.Proofs.XDisk Go.Proofs.XCalls Go.Proofs.XSep Tryz
section
variable {W w:World} {k:KV} {L:List Asrt} {v va pv dv:Value} {l la:FilesL} {S:AD} {E c:Nat} {op name:ByteArray} {e:Int} {picks:List Int} {d:Bytes}
theorem und_len (ok:S.Ok c) (h:la.plain = S.files) (n:ByteArray) : ((alGet la.plain n).getD []).length ≤ 4611686018427387904 := by
 rcases atFrom_get la.plain n 0 with ⟨_,a2⟩ | ⟨j,hj',_,a2⟩
 ·rw [a2]; simp
 ·rw [a2]; exact fls_dataP ok h _ (List.getElem_mem hj')
theorem rst_swap {β:Type} (n m:ByteArray) (x:List (ByteArray × β)) : rst n m x = rst m n x := by
 unfold rst
 congr 1
 funext q
 exact Bool.and_comm _ _
theorem putF_no (hl:lays name = false) : S.putF name d = (51,S) := by unfold AD.putF; rw [hl]; rfl
set_option maxHeartbeats 2000000 in
theorem puts_1 {ρ:Env} (hg:ErrT W) (hS:Sep [FlsA va la,Dk E S,Base W] w) (hr:AtRest S) (hno:∀ b,S.since ≤ b → outAt S b = false) (ok:S.Ok c) (hc:c ≤ 1000) (h0:S.strokes = 0) (hla:la.plain = S.files) (hns:name.size ≤ 1048576) (hd:SBytes W dv d) (hdl:d.length ≤ 1048576) (hpv:Src W pv 1 picks.length (picks.map i64)) (hpl:picks.length ≤ 4611686018427387904)
    (e2:ρ 2 = .string name) (e3:ρ 3 = dv) (e5:ρ 5 = pv) (e13:ρ 13 = ptr E) (e14:ρ 14 = va) (e15:ρ 15 = .string (plusOf name)) (e17:ρ 17 = .bool (alGet la.plain (plusOf name)).isSome) (hk:∀ w',Fr no W w' → k (.bool true) w') : F12_1 k ρ w := by
  unfold F12_1
  rw [e2,e3,e5,e13,e14,e15,e17]
  have h1 : Sep (Dk E S :: Base W :: [FlsA va la]) w := sep_mv [2,2] 0 hS rfl
  refine c_fPut (name := name) (holds_base hd) h1 ok (by omega) (by omega) (by omega) fun w1 ev h1 => ?_
  have ok2 : (S.putF name d).2.Ok (c + 8) := ok_putF ok (by omega) name d
  have law : lays name = true → _ := put_law (d := d) (name := name) hr hno
  have lawn : lays name = false → S.putF name d = (51,S) := putF_no
  generalize S.putF name d = R at *
  obtain ⟨Re,R2⟩ := R
  dsimp only at *
  refine sd_files h1 1 rfl ok2 fun w2 vm lm hlm h2 => ?_
  refine sd_strokes h2 2 rfl ok2 ?_
  refine sd_crash h2 2 rfl ok2 hpl (hpv.fr (by omega) (h2.base_at 3 rfl) fun _ _ h => h) fun w3 h3 => ?_
  replace h3 : Sep [FlsA vm lm,ErrA ev putB name Re,Dk E (R2.crash picks),Base W,FlsA va la] w3 := h3
  have ok3 : (R2.crash picks).Ok (c + 8) := ok2.crash picks
  refine sd_files h3 2 rfl ok3 fun w4 vn ln hln h4 => ?_
  have hlal := fls_len ok hla
  have hlml := fls_len ok2 hlm
  have hlnl := fls_len ok3 hln
  have hset : Settled R2 := by
    cases hl : lays name with
    | false => have := lawn hl; injection this with _ h; rw [h]; exact hr.set
    | true => rcases law hl with h | h <;> exact h.2.1
  have hcr : ln.plain = lm.plain := by rw [hln,hlm,crash_settled hset]
  refine c_files6 (Sep.fls h4 0 rfl) (Sep.fls h4 1 rfl) (by rw [plain_len]; omega) (fls_dataP ok3 hln) fun w5 f5 => ?_
  rw [hcr,decide_eq_true rfl]
  replace h4 := h4.q f5
  refine s_not (pC_false ?_)
  refine c_under6 (Sep.fls h4 1 rfl) (by omega) (s_ext rfl (s_ext rfl ?_))
  refine c_under6 (Sep.fls h4 5 rfl) (by omega) (s_ext rfl (s_ext rfl ?_))
  refine c_under6 (Sep.fls h4 1 rfl) (by omega) (s_ext rfl (s_ext rfl ?_))
  refine sd_code h4 (errT_base hg (h4.base_at 4 rfl)) 2 rfl fun w6 f6 => ?_
  replace h4 := h4.q f6
  have hW := h4.base_at 4 rfl
  have mf := Sep.fls h4 1 rfl
  have af := Sep.fls h4 5 rfl
  have others : ∀ {kk:KV} {w7:World},Fr no w6 w7 → rst (plusOf name) name lm.plain = rst (plusOf name) name la.plain → (∀ w',Fr no W w' → kk (.bool true) w') → pFn P 58 [va,vm,.string name,.string (plusOf name)] w7 kk := by
    intro kk w7 f7 he hkk
    refine c_others6 (af.fr f7) (mf.fr f7) (by omega) (by omega) (fun p hp => by have := fls_data ok hla p hp; omega) fun w8 f8 => ?_
    rw [rst_swap name,rst_swap name,he,decide_eq_true rfl]
    exact hkk w8 ((hW.trans f7 fun b hb => hb.elim).trans f8 fun b hb => hb.elim)
  cases hl : lays name with
  | false =>
    have hx := lawn hl
    injection hx with x1 x2
    subst x1; subst x2
    have hsame : lm.plain = la.plain := by rw [hlm,hla]
    refine s_eqi_f (by decide) (pC_false (s_eqi_f (by decide) (pC_false (s_eqi_f (by decide) ?_))))
    rw [F12_3_eq]
    unfold F12_3
    refine pC_false ?_
    show px P (binSem BinOp.eql 25 _ _ (i64 51) (i64 51)) w6 _
    refine s_eqi_t rfl (pC_true ?_)
    show pFn P _ [ρ 2] w6 _
    rw [e2]
    refine r_lays (s_not ?_)
    rw [hl]
    refine pG_yes rfl (pG_yes rfl (s_eqi_t h0 (s_pick_t ?_)))
    refine pG_yes rfl (pG_yes rfl (pG_yes rfl ?_))
    show pFn P _ [ρ 14,vm] w6 _
    rw [e14]
    refine c_files6 af mf (by rw [plain_len]; omega) (fls_dataP ok hla) fun w7 f7 => ?_
    rw [hsame,decide_eq_true rfl]
    exact s_pick_t (hk w7 (hW.trans f7 fun b hb => hb.elim))
  | true =>
    rcases law hl with ⟨g1,g2,g3,g4,g5,g6⟩ | ⟨g1,g2,g3,g4,g6⟩
    · subst g1
      have k3 : alGet lm.plain name = some d := by rw [hlm]; exact g3
      have k4 : alGet lm.plain (plusOf name) = none := by rw [hlm]; exact g4
      have hrs : rst (plusOf name) name lm.plain = rst (plusOf name) name la.plain := by rw [hlm,hla]; exact g6
      have b1 := und_bytes mf name
      rw [k3] at b1
      rw [h0] at g5
      have fin : ∀ (ρ':Env) (n:Int),ρ' 22 = .bool true → ρ' 21 = undV lm name → ρ' 3 = dv → ρ' 26 = .bool false → ρ' 20 = i64 R2.strokes → ρ' 27 = i64 n → R2.strokes = n → ρ' 2 = .string name → ρ' 14 = va → ρ' 19 = vm → ρ' 15 = .string (plusOf name) → F12A k [1,1,1,1,1,1,1,1,1,1,1,1,1,1,1,0,1,0,1,0,1,1] ρ' w6 := by
        intro ρ' n q22 q21 q3 q26 q20 q27 hn q2 q14 q19 q15
        rw [F12_2_eq]
        unfold F12_2
        rw [q22,q21,q3,q26,q20,q27,q2,q14,q19,q15]
        refine pG_yes rfl (pG_yes rfl (pG_yes rfl (c_bytes b1 (hd.fr hW fun _ _ h => h) (by show d.length ≤ _; omega) fun w7 f7 => ?_)))
        rw [show decide ((some d).getD [] = d) = true from decide_eq_true rfl]
        refine s_pick_t (pG_yes rfl (pG_yes rfl (s_not (s_pick_t ?_))))
        refine pG_yes rfl (pG_yes rfl (pG_yes rfl (s_eqi_t hn (s_pick_t ?_))))
        refine pG_yes rfl (pG_yes rfl (r_lays ?_))
        rw [hl]
        refine s_pick_t (pG_yes rfl (pG_yes rfl (pG_yes rfl (pG_yes rfl (pG_yes rfl (others f7 hrs fun w8 f8 => s_pick_t (hk w8 f8)))))))
      rw [k3,k4]
      refine s_eqi_t rfl (pC_true ?_)
      rw [← hla] at g5
      cases hlay : (alGet la.plain (plusOf name)).isSome with
      | true =>
        rw [hlay,if_pos rfl] at g5
        exact pC_true (fin _ 6 rfl rfl (by exact e3) rfl rfl rfl (by omega) (by exact e2) (by exact e14) rfl (by exact e15))
      | false =>
        rw [hlay,if_neg (by simp)] at g5
        exact pC_false (fin _ 5 rfl rfl (by exact e3) rfl rfl rfl (by omega) (by exact e2) (by exact e14) rfl (by exact e15))
    · have k3 : alGet lm.plain name = alGet la.plain name := by rw [hlm,hla]; exact g3
      have k4 : alGet lm.plain (plusOf name) = none := by rw [hlm]; exact g4
      have hrs : rst (plusOf name) name lm.plain = rst (plusOf name) name la.plain := by rw [hlm,hla]; exact g6
      have b1 := und_bytes mf name
      have b2 := und_bytes af name
      rw [k3] at b1
      have fin : ∀ (ρ':Env),ρ' 123 = .bool true → ρ' 22 = .bool (alGet la.plain name).isSome → ρ' 24 = .bool (alGet la.plain name).isSome → ρ' 21 = undV lm name → ρ' 23 = undV la name → ρ' 26 = .bool false → ρ' 2 = .string name → ρ' 14 = va → ρ' 19 = vm → ρ' 15 = .string (plusOf name) → F12A k [1,1,1,1,1,1,1,1,1,1,1,1,1,1,1,0,1,0,1,1,1] ρ' w6 := by
        intro ρ' q123 q22 q24 q21 q23 q26 q2 q14 q19 q15
        rw [F12_3_eq]
        unfold F12_3
        rw [q123,q22,q24,q21,q23,q26,q2,q14,q19,q15]
        refine pC_true (s6_eqb rfl (pG_yes rfl (pG_yes rfl (pG_yes rfl (c_bytes b1 b2 (und_len ok hla name) fun w7 f7 => ?_)))))
        rw [decide_eq_true rfl]
        refine s_pick_t (pG_yes rfl (pG_yes rfl (s_not (s_pick_t ?_))))
        refine pG_yes rfl (pG_yes rfl (pG_yes rfl (pG_yes rfl (pG_yes rfl (others f7 hrs fun w8 f8 => s_pick_t (hk w8 f8))))))
      rw [k3,k4]
      rcases g1 with g1 | g1
      · subst g1
        refine s_eqi_f (by decide) (pC_false (s_eqi_t rfl (pC_true ?_)))
        exact fin _ rfl rfl rfl rfl rfl rfl (by exact e2) (by exact e14) rfl (by exact e15)
      · subst g1
        refine s_eqi_f (by decide) (pC_false (s_eqi_f (by decide) (pC_false (s_eqi_t rfl ?_))))
        exact fin _ rfl rfl rfl rfl rfl rfl (by exact e2) (by exact e14) rfl (by exact e15)
theorem Loaded.calm (h:Loaded S) : ∀ b,S.since ≤ b → outAt S b = false := fun b hb => by
 unfold outAt
 rw [h.plan]
 rw [h.since] at hb
 exact decide_eq_false (by show ¬ b + 1 = 0; omega)
theorem plans_eq (h:S.off = false) (p:PlanA) : S.plans p = { S with plan := p,since := 0 } := by unfold AD.plans; rw [h]; rfl
theorem w_filesPuts {full room:Int} (hg:ErrT W) (_:-9223372036854775808 ≤ room ∧ room ≤ 9223372036854775807) (hv:FilesS W v l) (hdl:∀ p ∈ l,p.1.2.length ≤ 140737488355328) (hfn:∀ f ∈ l.plain,f.1.size ≤ 9223372036854775807) (hns:name.size ≤ 1048576) (hd:SBytes W dv d) (hdd:d.length ≤ 1048576) (hfull:-9223372036854775808 ≤ full ∧ full ≤ 9223372036854775807) (hpv:Src W pv 1 picks.length (picks.map fun n => .int .i64 n)) (hpl:picks.length ≤ 1048576) (hk:∀ w',Fr no W w' → k (.bool true) w') : pFn P 12 [i64 room,v,.string name,dv,i64 full,pv] W k := by
 refine F12_in _ _ _ _ _ _ _ _ ?_
 unfold F12_0
 refine c_round6 rfl (by decide) (by decide) ?_
 have h3 : 0 ≤ room.emod 4000 ∧ room.emod 4000 < 4000 := ⟨Int.emod_nonneg _ (by decide),Int.emod_lt_of_pos _ (by decide)⟩
 refine s_add_in (by omega) ?_
 refine c_loaded6 hv (by omega) (fun p hp => hfn _ (List.mem_map_of_mem hp)) hdl fun w1 E S va la hL hla h1 => ?_
 refine s_ext rfl (s_ext rfl ?_)
 refine c_known6 (errT_base hg (h1.base_at 2 rfl)) fun w2 f2 => s_not (pG_yes rfl (pG_yes rfl ?_))
 unfold ptr
 refine s_eqpn upt24 (s_pick_f (pC_false ?_))
 replace h1 := h1.q f2
 have hlal := fls_len hL.ok hla
 refine s_addS (by show 1 + name.size ≤ _; omega) ?_
 refine c_under6 (name := plusOf name) (Sep.fls h1 0 rfl) (by omega) (s_ext rfl (s_ext rfl ?_))
 by_cases ho : full > 0
 ·refine s_gt_t ho (pC_true (px_ok (w' := w2) (v := planVal ⟨0,full,full⟩) (by kernel_rfl) ?_))
  refine sd_plan h1 1 rfl hL.ok ⟨0,full,full⟩ fun w3 h3 => ?_
  replace h3 : Sep [FlsA va la,Dk E (S.plans ⟨0,full,full⟩),Base W] w3 := h3
  obtain ⟨r1,r2,r3,r4⟩ := hL.rest.plans ⟨0,full,full⟩
  rw [F12_1_eq]
  refine puts_1 hg h3 r1 (fun b hb => ?_) (hL.ok.plans _) (by omega) (by rw [r4]; exact hL.strokes) (by rw [r2]; exact hla) hns hd hdd hpv (by omega) rfl rfl rfl rfl rfl rfl rfl hk
  rw [plans_eq hL.rest.off] at hb ⊢
  unfold outAt
  have hb : (0 : Int) ≤ b := hb
  exact decide_eq_false (by show ¬ b + 1 = 0; omega)
 ·refine s_gt_f ho (pC_false ?_)
  rw [F12_1_eq]
  exact puts_1 hg h1 hL.rest hL.calm hL.ok (by omega) hL.strokes hla hns hd hdd hpv (by omega) rfl rfl rfl rfl rfl rfl rfl hk
end
end Go.Proofs.YteeeggphkhimcaaGreatDoor
