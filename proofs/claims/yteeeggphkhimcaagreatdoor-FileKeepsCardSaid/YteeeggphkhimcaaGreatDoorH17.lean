/- Put together by a program (wip/tools/shake.py): Keeps6D. -/
import Derived.Test.YteeeggphkhimcaaGreatDoorH16
set_option linter.unusedVariables false
set_option linter.unusedSimpArgs false
set_option maxRecDepth 100000
namespace Go.Proofs.YteeeggphkhimcaaGreatDoor
open Go Go.Proofs Go.RowKit Go.Proofs.XRed Go.Proofs.XHeap Go.Proofs.XMaps Go.Proofs.XSlices Go.Proofs.XDisk Go.Proofs.XCalls Go.Proofs.XSep Tryz
section
variable {W w:World} {k:KV} {l L:List Asrt} {E c n:Nat} {S:AD} {d:Bytes} {ns:List ByteArray} {nv dv vr vw vg:Value} {lw:FilesL}
def tailB (i m:Nat) : Bytes := List.replicate m (UInt8.ofNat (100 + i))
def entM (n i m:Nat) (lv gv:Value) : Asrt := EntA 5 1 lv gv n m (u8s (marks i n 0)) (u8s (tailB i m))
def entG (n:Nat) (q:(Value × Value) × Nat) : Asrt := entM n q.2 70 q.1.1 q.1.2
abbrev KG (W:World) (E:Nat) (n:Nat) (vw:Value) (lw:FilesL) (vr vg:Value) (zs:List (Value × Bytes)) (gs:List (Value × Value)) (rest:List (Value × Bytes)) (S:AD) : List Asrt :=
 [FlsA vw lw,OwnA 23 1 vr zs.length (zs.map (·.1)),OwnA 23 1 vg gs.length (gs.map (·.2)),Bag (gs.zipIdx.map (entG n)),Bag (rest.map rowA),Dk E S,Base W]
theorem entM_one {i m:Nat} {lv gv:Value} {j:Nat} (h:Sep L w) (hj:L[j]? = some (entM n i m lv gv)) : gv.cells = #[gv] ∧ ∀ u ∈ [gv],u.oneCell' = true := by
 obtain ⟨O,I,h,_⟩ := h.get j hj
 have := own_one h
 exact ⟨this.1,by intro u hu; rw [List.mem_singleton.1 hu]; exact this.2⟩
set_option maxHeartbeats 1000000 in
/-- One row is gone on from. -/
theorem keep_8 {ρ:Env} {N7:KE} {i:Nat} {lv:Value} {r:List Asrt} (hn:n ≤ 1000) (hi:i < 36) (hS:Sep (entM n i 0 lv lv :: r) w) (e20:ρ 20 = i64 i) (e21:ρ 21 = lv) (e22:ρ 22 = i64 0)
    (hk:∀ (ρ':Env) w' gv,Sep (entM n i 70 lv gv :: r) w' → (ρ' 1 = ρ 1 ∧ ρ' 5 = ρ 5 ∧ ρ' 7 = ρ 7 ∧ ρ' 15 = ρ 15 ∧ ρ' 19 = ρ 19 ∧ ρ' 20 = ρ 20) → ρ' 21 = gv → F3A7 k N7 [1,0,0,1,1] ρ' w') : F3L8 k N7 ρ w := by
  refine F3L8_inv (m := 70) k N7 (fun m ρ' w' => ∃ (j:Nat) (gv:Value),j + m = 70 ∧ Sep (entM n i j lv gv :: r) w' ∧ ρ' 21 = gv ∧ ρ' 22 = i64 j ∧ (ρ' 1 = ρ 1 ∧ ρ' 5 = ρ 5 ∧ ρ' 7 = ρ 7 ∧ ρ' 15 = ρ 15 ∧ ρ' 19 = ρ 19 ∧ ρ' 20 = ρ 20)) ?_ ⟨0,lv,rfl,hS,e21,e22,rfl,rfl,rfl,rfl,rfl,rfl⟩
  clear hS
  rintro m ρ' w' ⟨j,gv,hjm,hS,q21,q22,a1,a5,a7,a15,a19,a20⟩
  have q20 : ρ' 20 = i64 i := a20.trans e20
  rw [F3_14_eq]
  unfold F3_14
  rw [q20,q21,q22]
  by_cases hj : j < 70
  · refine s_lt_t (by omega) (pC_true (s_add_in (by omega) (k_conv8 ?_)))
    rw [show (100 : Int) + (i:Int) = ((100 + i : Nat) : Int) by omega,u8_of (by omega)]
    refine lit1_23 rfl ?_
    have f1 := Fr.alloc no w' (.cells #[(.int .u8 ((UInt8.ofNat (100 + i)).toNat : Int))] 5)
    have ho := own_lit w' 0 5 1 #[(.int .u8 ((UInt8.ofNat (100 + i)).toNat : Int))] 1 (Nat.zero_le _) (by unfold maxLen; omega) rfl
    have h1 := hS.q f1
    generalize w'.alloc (.cells #[(.int .u8 ((UInt8.ofNat (100 + i)).toNat : Int))] 5) = w1 at *
    have hbb : (t5).bytes = 1 := by kernel_rfl
    refine Sep.grow (P := P) (ix := 0) (i := t5) (z := ((t5).zero).getD undef) (e := 5) (by kernel_rfl) (by kernel_rfl) (by kernel_rfl) (by kernel_rfl) (by kernel_rfl) h1 rfl (Src.of_own ho) (by intro u hu; simp at hu; subst hu; rfl) (by unfold maxLen; omega) (by rw [hbb]; omega) fun gv2 w2 h2 _ => ?_
    refine s_add_in (by omega) ⟨m - 1,by omega,j + 1,gv2,by omega,?_,rfl,?_,a1,a5,a7,a15,a19,a20⟩
    · have e : u8s (tailB i (j + 1)) = u8s (tailB i j) ++ (#[(.int .u8 ((UInt8.ofNat (100 + i)).toNat : Int))] : Array Value).toList := by
        unfold tailB
        rw [List.replicate_succ',u8s_append]; rfl
      show Sep (EntA 5 1 lv gv2 n (j + 1) (u8s (marks i n 0)) (u8s (tailB i (j + 1))) :: r) w2
      rw [e]
      exact h2
    · show i64 _ = i64 _; simp
  · refine s_lt_f (by omega) (pC_false ?_)
    have : j = 70 := by omega
    subst this
    exact hk _ w' gv hS ⟨by exact a1,by exact a5,by exact a7,by exact a15,by exact a19,by exact a20⟩ (by exact q21)
set_option maxHeartbeats 1000000 in
/-- All rows are gone on from. -/
theorem keep_7 {ρ:Env} {zs:List (Value × Bytes)} (hn:n ≤ 1000) (hl:zs.length ≤ 36) (hz:∀ i (h:i < zs.length),zs[i].2 = marks i n 0) (hS:Sep (KG W E n vw lw vr (.slice none 0 0) zs [] zs S) w)
    (e1:ρ 1 = dv) (e5:ρ 5 = ptr E) (e7:ρ 7 = vr) (e15:ρ 15 = vw) (e19:ρ 19 = .slice none 0 0) (e20:ρ 20 = i64 0)
    (hk:∀ (ρ':Env) w' vg gs,Sep (KG W E n vw lw vr vg zs gs [] S) w' → gs.length = zs.length → (∀ i (h:i < gs.length) (h':i < zs.length),gs[i].1 = zs[i].1) → ρ' 1 = dv → ρ' 5 = ptr E → ρ' 7 = vr → ρ' 15 = vw → ρ' 19 = vg → F3_15 k ρ' w') : F3L7 k ρ w := by
  refine F3L7_inv (m := zs.length) k (fun m ρ' w' => ∃ (vg:Value) (gs:List (Value × Value)),gs.length + m = zs.length ∧ Sep (KG W E n vw lw vr vg zs gs (zs.drop gs.length) S) w' ∧ (∀ i (h:i < gs.length) (h':i < zs.length),gs[i].1 = zs[i].1) ∧ ρ' 1 = dv ∧ ρ' 5 = ptr E ∧ ρ' 7 = vr ∧ ρ' 15 = vw ∧ ρ' 19 = vg ∧ ρ' 20 = i64 gs.length) ?_
    ⟨.slice none 0 0,[],by simp,hS,(fun i h => by simp at h),e1,e5,e7,e15,e19,e20⟩
  clear hS e1 e5 e7 e15 e19 e20
  rintro m ρ' w' ⟨vg,gs,hgm,hS,hg,q1,q5,q7,q15,q19,q20⟩
  rw [F3_13_eq]
  unfold F3_13
  rw [q7,q20]
  have hsrc := Src.of_own (hS.own 1 rfl)
  refine s_lenS usl29 hsrc ?_
  by_cases hi : gs.length < zs.length
  · refine s_lt_t (by omega) (pC_true (s_row hsrc hi (u := zs[gs.length].1) (by simp [hi]) fun a => ?_))
    have hd : zs.drop gs.length = zs[gs.length] :: zs.drop (gs.length + 1) := List.drop_eq_getElem_cons hi
    rw [hd] at hS
    have h1 : Sep (Bag ((zs[gs.length] :: zs.drop (gs.length + 1)).map rowA) :: [FlsA vw lw,OwnA 23 1 vr zs.length (zs.map (·.1)),OwnA 23 1 vg gs.length (gs.map (·.2)),Bag (gs.zipIdx.map (entG n)),Dk E S,Base W]) w' := sep_mv [4] 0 hS rfl
    have h2 : Sep (rowA zs[gs.length] :: Bag ((zs.drop (gs.length + 1)).map rowA) :: [FlsA vw lw,OwnA 23 1 vr zs.length (zs.map (·.1)),OwnA 23 1 vg gs.length (gs.map (·.2)),Bag (gs.zipIdx.map (entG n)),Dk E S,Base W]) w' := h1.pick (i := 0) rfl
    have hzn := hz _ hi
    have hml : (marks gs.length n 0).length = n := by rw [marks_len]; rfl
    have h3 : Sep (entM n gs.length 0 zs[gs.length].1 zs[gs.length].1 :: Bag ((zs.drop (gs.length + 1)).map rowA) :: [FlsA vw lw,OwnA 23 1 vr zs.length (zs.map (·.1)),OwnA 23 1 vg gs.length (gs.map (·.2)),Bag (gs.zipIdx.map (entG n)),Dk E S,Base W]) w' := by
      have h3 := h2
      unfold rowA at h3
      rw [hzn,hml] at h3
      exact Sep.ent h3 (by omega)
    refine keep_8 hn (by omega) h3 (by exact q20) rfl rfl fun ρ2 w2 gv h4 ⟨a1,a5,a7,a15,a19,a20⟩ r21 => ?_
    have r1 := a1.trans q1
    have r5 := a5.trans q5
    have r7 := a7.trans q7
    have r15 := a15.trans q15
    have r19 := a19.trans q19
    have r20 := a20.trans q20
    rw [F3_16_eq]
    unfold F3_16
    rw [r19,r20,r21]
    obtain ⟨o1,o2⟩ := entM_one h4 (j := 0) rfl
    refine pl29 (h4.own 4 rfl) o1 o2 (by omega) (Nat.zero_le _) fun u vg2 w3 ho hf hb => ?_
    have h5 := Sep.ownapp2 h4 4 rfl ho hf hb
    have h6 : Sep (entM n gs.length 70 zs[gs.length].1 gv :: Bag (gs.zipIdx.map (entG n)) :: [Bag ((zs.drop (gs.length + 1)).map rowA),FlsA vw lw,OwnA 23 1 vr zs.length (zs.map (·.1)),OwnA 23 1 vg2 (gs.length + 1) (gs.map (·.2) ++ [gv]),Dk E S,Base W]) w3 := sep_mv [5,1] 0 h5 rfl
    have h7 := h6.more
    have e1 : gs.zipIdx.map (entG n) ++ [entM n gs.length 70 zs[gs.length].1 gv] = ((gs ++ [(zs[gs.length].1,gv)]).zipIdx).map (entG n) := by
      rw [List.zipIdx_append]; simp [entG]
    rw [e1] at h7
    refine s_add_in (by omega) ⟨m - 1,by omega,vg2,gs ++ [(zs[gs.length].1,gv)],by simp; omega,?_,fun i h h' => ?_,r1,r5,r7,r15,rfl,?_⟩
    · have e2 : (gs ++ [(zs[gs.length].1,gv)]).length = gs.length + 1 := by simp
      have e3 : (gs ++ [(zs[gs.length].1,gv)]).map (·.2) = gs.map (·.2) ++ [gv] := by simp
      show Sep (KG W E n vw lw vr vg2 zs (gs ++ [(zs[gs.length].1,gv)]) (zs.drop (gs ++ [(zs[gs.length].1,gv)]).length) S) w3
      unfold KG
      rw [e2,e3]
      exact sep_mv [4,4,4] 0 h7 rfl
    · by_cases hig : i < gs.length
      · rw [List.getElem_append_left hig]; exact hg i hig h'
      · have : i = gs.length := by rw [List.length_append] at h; simp at h; omega
        subst this
        simp
    · show i64 _ = i64 _; simp
  · refine s_lt_f (by omega) (pC_false ?_)
    rw [F3_15_eq]
    have hgl : gs.length = zs.length := by omega
    rw [hgl,List.drop_length] at hS
    exact hk _ w' vg gs hS hgl hg (by exact q1) (by exact q5) (by exact q7) (by exact q15) (by exact q19)
theorem bag_ent {gs:List (Value × Value)} {r:List Asrt} {i:Nat} (hS:Sep (Bag (gs.zipIdx.map (entG n)) :: r) w) (hi:i < gs.length) : SBytes w gs[i].1 (marks i n 0) ∧ SBytes w gs[i].2 (marks i n 70) := by
 have h1 := hS.pick (i := i) (a := entG n (gs[i],i)) (by simp [hi])
 obtain ⟨O,I,h⟩ := h1.get 0 rfl
 have g1 : w.ownsRow 0 5 1 gs[i].2 (n + 70) (u8s (marks i n 0) ++ u8s (tailB i 70)) := h.1
 have g2 : Src w gs[i].1 1 n (u8s (marks i n 0)) := h.2.1
 have hl0 : (marks i n 0).length = n := by rw [marks_len]; rfl
 have hl7 : (marks i n 70).length = n + 70 := marks_len i n 70
 have e : u8s (marks i n 0) ++ u8s (tailB i 70) = u8s (marks i n 70) := by
  unfold marks tailB
  rw [← u8s_append]; simp
 refine ⟨?_,?_⟩
 ·show Src w gs[i].1 1 _ _
  rw [hl0]; exact g2
 ·show Src w gs[i].2 1 _ _
  rw [hl7,← e]; exact Src.of_own g1
set_option maxHeartbeats 1000000 in
/-- All are looked at again. -/
theorem keep_9 {ρ:Env} {zs:List (Value × Bytes)} {gs:List (Value × Value)} (hdv:SBytes W dv d) (hn:d.length ≤ 1000) (hl:zs.length ≤ 36) (hgl:gs.length = zs.length) (hg:∀ i (h:i < gs.length) (h':i < zs.length),gs[i].1 = zs[i].1)
    (hS:Sep (KG W E d.length vw lw vr vg zs gs [] S) w) (ok:S.Ok c) (hlw:lw.plain = S.files)
    (e1:ρ 1 = dv) (e5:ρ 5 = ptr E) (e7:ρ 7 = vr) (e15:ρ 15 = vw) (e19:ρ 19 = vg) (e23:ρ 23 = i64 0) (hk:∀ w',Fr no W w' → k (.bool true) w') : F3L9 k ρ w := by
  refine F3L9_inv (m := zs.length) k (fun m ρ' w' => ∃ i : Nat,i + m = zs.length ∧ Sep (KG W E d.length vw lw vr vg zs gs [] S) w' ∧ ρ' 1 = dv ∧ ρ' 5 = ptr E ∧ ρ' 7 = vr ∧ ρ' 15 = vw ∧ ρ' 19 = vg ∧ ρ' 23 = i64 i) ?_ ⟨0,by omega,hS,e1,e5,e7,e15,e19,e23⟩
  clear hS e1 e5 e7 e15 e19 e23
  rintro m ρ' w' ⟨i,him,hS,q1,q5,q7,q15,q19,q23⟩
  rw [F3_17_eq]
  unfold F3_17
  rw [q1,q7,q19,q23]
  have hsrc := Src.of_own (hS.own 1 rfl)
  have hsrg := Src.of_own (hS.own 2 rfl)
  refine s_lenS usl29 hsrc ?_
  by_cases hi : i < zs.length
  · refine s_lt_t (by omega) (pC_true (s_row hsrc hi (u := zs[i].1) (by simp [hi]) fun a => ?_))
    have hdw : SBytes w' dv d := hdv.fr (hS.base_at 6 rfl) fun _ _ h => h
    obtain ⟨b1,b2⟩ := bag_ent (i := i) (sep_mv [3] 0 hS rfl) (by omega)
    rw [hg i (by omega) hi] at b1
    refine s_lenS usl23 hdw (c_rowIs6 b1 (by omega) (by omega) (by omega) (s_not ?_))
    refine pG_yes rfl (pG_yes rfl (pG_yes rfl ?_))
    have hig : i < gs.length := by omega
    refine s_ix_src usl29 (sze29 _) hsrg (by omega) (by omega) fun b o hcell => ?_
    refine pG_yes rfl (s_ld (v := gs[i].2) (isAgg23 _) (hcell 0 _ (by omega) (by simp [hig])) ?_)
    refine pG_yes rfl (pG_yes rfl (pG_yes rfl (s_lenS usl23 hdw (pG_yes rfl (c_rowIs6 b2 (by omega) (by omega) (by omega) ?_)))))
    refine pG_yes rfl (s_not (s_pick_f (pC_false ?_)))
    refine s_add_in (by omega) ⟨m - 1,by omega,i + 1,by omega,hS,q1,q5,q7,q15,q19,?_⟩
    show i64 _ = i64 _; simp
  · refine s_lt_f (by omega) (pC_false ?_)
    rw [F3_18_eq]
    unfold F3_18
    show pFn P _ [ρ' 5] w' _
    rw [q5]
    refine sd_files hS 5 rfl ok fun w2 vn ln hln h2 => ?_
    show pFn P _ [ρ' 15,vn] w2 _
    rw [q15]
    refine c_files6 (Sep.fls h2 1 rfl) (Sep.fls h2 0 rfl) (by rw [hlw]; have := (files_small ok).1; exact this) (fls_dataP ok hlw) fun w3 f3 => ?_
    rw [hlw,hln,decide_eq_true rfl]
    exact hk w3 ((h2.base_at 7 rfl).trans f3 fun b hb => hb.elim)
set_option maxHeartbeats 1000000 in
theorem w_filesKeeps (hg:ErrT W) (hnv:Src W nv 1 ns.length (ns.map .string)) (hsz:∀ n ∈ ns,n.size ≤ maxLen) (hdv:SBytes W dv d) (hk:∀ w',Fr no W w' → k (.bool true) w') : pFn P 3 [nv,dv] W k := by
 have hsz' : ∀ n ∈ ns,n.size ≤ 9223372036854775807 := fun n h => by have := hsz n h; unfold maxLen at this; omega
 refine F3_in _ _ _ _ ?_
 unfold F3_0
 refine sd_new (Sep.base W) (fun h => absurd (show (1 : Int) ≤ 100000 ∧ (100000 : Int) ≤ 1048576 by decide) h) fun _ w1 E h1 => ?_
 refine s_ext rfl (s_ext rfl ?_)
 refine c_known6 (errT_base hg (h1.base_at 1 rfl)) fun w2 f2 => s_not (pG_yes rfl ?_)
 replace h1 := h1.q f2
 refine pG_yes rfl (s_nei_f rfl (s_pick_f (pG_yes rfl (pG_yes rfl ?_))))
 unfold ptr
 refine s_eqpn upt24 (s_pick_f (pC_false ?_))
 have hdw : SBytes w2 dv d := hdv.fr (h1.base_at 1 rfl) fun _ _ h => h
 refine s_lenS usl23 hdw ?_
 by_cases hd : d.length > 1000
 ·exact s_gt_t (by omega) (pC_true (hk w2 (h1.base_at 1 rfl)))
 ·refine s_gt_f (by omega) (pC_false ?_)
  have ok0 : (AD.new 100000).Ok 0 := AD.Ok.new (by decide)
  have h2 : Sep (KL W E (.slice none 0 0) [] (AD.new 100000)) w2 := (Sep.nobag h1).newrow (Fr.refl no _) (fun b hb => hb.elim) ⟨by simp,.inl ⟨rfl,rfl⟩⟩ (fun b hb => by cases hb)
  refine keep_1 hg hsz' hnv hdv (by omega) h2 (kp_new ok0) ok0 (by omega) rfl rfl rfl rfl rfl fun ρ3 w3 vr zs S c h3 ok hl hzd q1 q5 q7 => ?_
  unfold F3_3
  rw [q5]
  refine sd_files h3 2 rfl ok fun w4 vw lw hlw h4 => ?_
  refine keep_3 hdv (by omega) hl hzd h4 (by exact q1) (by exact q5) (by exact q7) rfl rfl fun ρ5 w5 h5 r1 r5 r7 r15 => ?_
  unfold F3_7
  refine keep_5 (by omega) hl hzd h5 (by exact r1) (by exact r5) (by exact r7) (by exact r15) rfl fun ρ6 w6 zs6 h6 hl6 hz6 t1 t5 t7 t15 => ?_
  unfold F3_11
  have h7 : Sep (KG W E d.length vw lw vr (.slice none 0 0) zs6 [] zs6 S) w6 := by
   have a1 : Sep (FlsA vw lw :: OwnA 23 1 vr zs6.length (zs6.map (·.1)) :: Bag (zs6.map rowA) :: [Dk E S,Base W]) w6 := h6
   have a2 := (Sep.nobag a1).newrow (te := 23) (sz := 1) (v := .slice none 0 0) (n := 0) (cs := []) (Fr.refl no _) (fun b hb => hb.elim) ⟨by simp,.inl ⟨rfl,rfl⟩⟩ (fun b hb => by cases hb)
   exact sep_mv [3,3] 0 a2 rfl
  refine keep_7 (by omega) (by omega) hz6 h7 (by exact t1) (by exact t5) (by exact t7) (by exact t15) rfl rfl fun ρ8 w8 vg gs h8 hgl hgg u1 u5 u7 u15 u19 => ?_
  unfold F3_15
  exact keep_9 hdv (by omega) (by omega) hgl hgg h8 ok hlw (by exact u1) (by exact u5) (by exact u7) (by exact u15) (by exact u19) rfl hk
end
end Go.Proofs.YteeeggphkhimcaaGreatDoor
