/- Put together by a program (wip/tools/shake.py): RFile6,Plays6A,Plays6B. -/
import Derived.Test.YteeeggphkhimcaaGreatDoorB21
import Derived.Test.YteeeggphkhimcaaGreatDoorB18
set_option linter.unusedVariables false
set_option linter.unusedSimpArgs false
set_option maxRecDepth 100000
namespace Go.Proofs.YteeeggphkhimcaaGreatDoor
open Go Go.Proofs Go.RowKit Go.Proofs.XRed Go.Proofs.XHeap Go.Proofs.XMaps Go.Proofs.XSlices Go.Proofs.XDisk Go.Proofs.XCalls Go.Proofs.XSep Tryz
section
variable {w:World} {k:KV} {E c:Nat} {S:AD} {l:List Asrt} {name:ByteArray} {dv:Value} {d:Bytes}
theorem sr_remove (hS:Sep l w) (i:Nat) (hi:l[i]? = some (Rk E S)) (ok:S.Ok c) (hk:∀ w',Sep (l.set i (Rk E (S.remove name).2)) w' → k (i64 (S.remove name).1) w') : pFn P 109 [ptr E,.string name] w k := by
 obtain ⟨O,I,L,hd,nx⟩ := Sep.ref hS i hi
 exact r_remove hd ok name fun w1 O1 I1 L1 hx => hk w1 (nx _ _ _ _ _ hx)
theorem sr_create (hS:Sep l w) (i:Nat) (hi:l[i]? = some (Rk E S)) (ok:S.Ok c) (hk:∀ w',Sep (l.set i (Rk E (S.create name).2)) w' → k (i64 (S.create name).1) w') : pFn P 104 [ptr E,.string name] w k := by
 obtain ⟨O,I,L,hd,nx⟩ := Sep.ref hS i hi
 exact r_create hd ok name fun w1 O1 I1 L1 hx => hk w1 (nx _ _ _ _ _ hx)
theorem sr_sync (hS:Sep l w) (i:Nat) (hi:l[i]? = some (Rk E S)) (ok:S.Ok c) (hk:∀ w',Sep (l.set i (Rk E (S.sync name).2)) w' → k (i64 (S.sync name).1) w') : pFn P 110 [ptr E,.string name] w k := by
 obtain ⟨O,I,L,hd,nx⟩ := Sep.ref hS i hi
 exact r_sync hd ok name fun w1 O1 I1 L1 hx => hk w1 (nx _ _ _ _ _ hx)
theorem sr_rename {b:ByteArray} (hS:Sep l w) (i:Nat) (hi:l[i]? = some (Rk E S)) (ok:S.Ok c) (hk:∀ w',Sep (l.set i (Rk E (S.rename name b).2)) w' → k (i64 (S.rename name b).1) w') : pFn P 108 [ptr E,.string name,.string b] w k := by
 obtain ⟨O,I,L,hd,nx⟩ := Sep.ref hS i hi
 exact r_rename hd ok name b fun w1 O1 I1 L1 hx => hk w1 (nx _ _ _ _ _ hx)
theorem sr_syncNames (hS:Sep l w) (i:Nat) (hi:l[i]? = some (Rk E S)) (ok:S.Ok c) (hk:∀ w',Sep (l.set i (Rk E S.syncNames.2)) w' → k (i64 S.syncNames.1) w') : pFn P 111 [ptr E] w k := by
 obtain ⟨O,I,L,hd,nx⟩ := Sep.ref hS i hi
 exact r_syncNames hd ok fun w1 O1 I1 L1 hx => hk w1 (nx _ _ _ _ _ hx)
theorem sr_off (hS:Sep l w) (i:Nat) (hi:l[i]? = some (Rk E S)) (hk:k (.bool S.off) w) : pFn P 114 [ptr E] w k := by
 obtain ⟨O,I,L,hd,nx⟩ := Sep.ref hS i hi
 exact r_off hd hk
theorem sr_strokes (hS:Sep l w) (i:Nat) (hi:l[i]? = some (Rk E S)) (hk:k (i64 S.strokes) w) : pFn P 115 [ptr E] w k := by
 obtain ⟨O,I,L,hd,nx⟩ := Sep.ref hS i hi
 exact r_strokes hd hk
theorem sr_size (hS:Sep l w) (i:Nat) (hi:l[i]? = some (Rk E S)) (ok:S.Ok c) (hk:k (.tuple #[i64 (AD.sizeOf S name),i64 (S.look name)]) w) : pFn P 155 [ptr E,.string name] w k := by
 obtain ⟨O,I,L,hd,nx⟩ := Sep.ref hS i hi
 exact r_size hd ok name hk
theorem sr_append {X:Asrt} (hX:Holds X dv d) (hS:Sep l w) (i j:Nat) (hij:i ≠ j) (hi:l[i]? = some (Rk E S)) (hj:l[j]? = some X) (ok:S.Ok c) (hdl:d.length ≤ 549755813888)
    (hk:∀ w',Sep (l.set i (Rk E (S.append name d).2)) w' → k (i64 (S.append name d).1) w') : pFn P 105 [ptr E,.string name,dv] w k := by
  obtain ⟨O,I,O2,I2,J,⟨L,h1⟩,hx,g1,g2,g3,g4,g5⟩ := hS.at2 i j hij hi hj
  obtain ⟨b1,b2⟩ := hX _ _ _ hx
  exact r_append h1 ok name b1 (fun h0 b hb ho => (b2 h0 b hb).elim (g1 b ho).1 (g1 b ho).2) hdl fun w1 O1 I1 L1 hx => hk w1 (g5 _ w1 O1 I1 ⟨L1,hx.rep⟩ ⟨hx.fr,hx.on,fun b hb => (hx.in_ b hb).imp (g3 b) id⟩)
theorem sr_list {p:ByteArray} (hS:Sep l w) (i:Nat) (hi:l[i]? = some (Rk E S)) (ok:S.Ok c) (hk:∀ w' v,Sep (SrcA 1 v (AD.listA S p).length ((AD.listA S p).map .string) :: l) w' → k v w') : pFn P 157 [ptr E,.string p] w k := by
 obtain ⟨O,I,L,hd,-⟩ := Sep.ref hS i hi
 exact r_list hd ok p fun w' v hv hb f => hk w' v (hS.new (O' := fun _ => False) (I' := fun b => sblk v = some b) f (fun b hb => hb.elim) ⟨hv,by omega,fun _ => Iff.rfl,fun b hb' => (hb b hb').2,fun _ h => h⟩ (fun b hb => hb.elim) fun b hb' => (hb b hb').1)
theorem r6_has (hS:Sep l w) (i:Nat) (hi:l[i]? = some (Rk E S)) (ok:S.Ok c) (hk:k (.bool (S.has name)) w) : pFn P 153 [ptr E,.string name] w k := by
 refine F153_in _ _ _ _ ?_
 unfold F153_0
 refine sr_size hS i hi ok (s_ext rfl (s_ext rfl (s_eqi ?_)))
 rw [show (S.look name == 0) = S.has name by unfold AD.has; by_cases h : S.look name = 0 <;> simp [h]]
 exact hk
theorem r6_away (hS:Sep (Rk E S :: l) w) (ok:S.Ok c) (hc:c + 2 ≤ 1099511627776) (hk:∀ w',Sep (Rk E (S.awayF name).2 :: l) w' → k (i64 (S.awayF name).1) w') : pFn P 154 [ptr E,.string name] w k := by
 refine F154_in _ _ _ _ ?_
 unfold F154_0
 unfold AD.awayF at hk
 refine sr_remove hS 0 rfl ok fun w1 h1 => ?_
 replace h1 : Sep (Rk E (S.remove name).2 :: l) w1 := h1
 have ok1 := ok.remove (by omega) name
 by_cases hz : (S.remove name).1 = 0
 ·rw [andE_f hz] at hk
  exact s_nei_f hz (pC_false (sr_syncNames h1 0 rfl ok1 fun w2 h2 => hk w2 h2))
 ·rw [andE_t hz] at hk
  exact s_nei_t hz (pC_true (hk w1 h1))
theorem r6_drop (hS:Sep (Rk E S :: l) w) (ok:S.Ok c) (hc:c + 2 ≤ 1099511627776) (hk:∀ w',Sep (Rk E (S.dropF name).2 :: l) w' → k (i64 (S.dropF name).1) w') : pFn P 102 [ptr E,.string name] w k := by
 refine F102_in _ _ _ _ ?_
 unfold F102_0
 refine r_isName name (s_not ?_)
 cases hn : isName name with
 | false =>
  rw [show S.dropF name = (51,S) by unfold AD.dropF; rw [hn]; rfl] at hk
  exact pC_true (hk w hS)
 | true =>
  rw [show S.dropF name = S.awayF name by unfold AD.dropF; rw [hn]; rfl] at hk
  exact pC_false (r6_away hS ok hc hk)
theorem r6_get (hS:Sep (Rk E S :: l) w) (ok:S.Ok c) (hk:∀ w' v,Sep (BytesA v (S.getF name).2.1 :: Rk E (S.getF name).2.2 :: l) w' → k (.tuple #[v,i64 (S.getF name).1]) w') : pFn P 101 [ptr E,.string name] w k := by
 refine F101_in _ _ _ _ ?_
 unfold F101_0
 refine r_isName name (s_not ?_)
 cases hn : isName name with
 | false =>
  rw [getF_no hn] at hk
  exact pC_true (hk w _ (Sep.nilBytes hS))
 | true =>
 refine pC_false (sr_size hS 0 rfl ok (s_ext rfl (s_ext rfl ?_)))
 by_cases hl : S.look name = 0
 ·rw [getF_read hn hl] at hk
  refine s_nei_f hl (pC_false ?_)
  have hb := bytes_small ok hl
  rw [show AD.sizeOf S name = (S.bytes name).length by unfold AD.sizeOf; rw [if_pos hl]]
  refine s_rread hS (i := 0) rfl ok name 0 _ (by omega) fun w1 v h1 => ?_
  replace h1 : Sep (Rk E (S.read name 0 (S.bytes name).length).2.2 :: BytesA v (S.read name 0 (S.bytes name).length).2.1 :: l) w1 := Sep.unstar h1
  exact s_ext rfl (s_ext rfl (hk w1 v (sep_mv [1] 0 h1 rfl)))
 ·rw [getF_look hn hl] at hk
  exact s_nei_t hl (pC_true (hk w _ (Sep.nilBytes hS)))
theorem r6_clean {p:ByteArray} (hS:Sep (Rk E S :: l) w) (ok:S.Ok c) (hc:c + 300 ≤ 1099511627776) (hk:∀ w',Sep (Rk E (S.cleanF (AD.listA S p)).2 :: l) w' → k (i64 (S.cleanF (AD.listA S p)).1) w') : pFn P 103 [ptr E,.string p] w k := by
 refine F103_in _ _ _ _ ?_
 unfold F103_0
 refine sr_off hS 0 rfl ?_
 cases ho : S.off with
 | true =>
  rw [show S.cleanF (AD.listA S p) = (50,S) by unfold AD.cleanF; rw [ho]; rfl] at hk
  exact pC_true (hk w hS)
 | false =>
 have hcl : S.cleanF (AD.listA S p) = andE (AD.removeAll (AD.listA S p) S) (fun T e => (e,T)) fun S1 => if AD.listA S p = [] then (0,S1) else S1.syncNames := by unfold AD.cleanF; rw [ho]; rfl
 rw [hcl] at hk
 have hL := listA_len ok p
 refine pC_false (sr_list hS 0 rfl ok fun w1 sv h1 => ?_)
 generalize AD.listA S p = L at *
 obtain ⟨A,cp,esv,hcp,-⟩ := Sep.src h1 0 rfl
 subst esv
 refine F103L1_inv (m := L.length) k (fun m ρ w' => ∃ (i:Nat) (T:AD),i + m = L.length ∧ AD.removeAll (L.take i) S = (0,T) ∧ Sep (SrcA 1 (.slice A L.length cp) L.length (L.map .string) :: Rk E T :: l) w' ∧ ρ 0 = ptr E ∧ ρ 5 = .slice A L.length cp ∧ ρ 6 = i64 i) ?_
  ⟨0,S,by omega,rfl,h1,rfl,rfl,rfl⟩
 rintro m ρ w' ⟨i,T,him,hT,hS',e0,e5,e6⟩
 rw [F103_1_eq]
 unfold F103_1
 rw [e0,e5,e6]
 refine s_len usl22 ?_
 have okT : T.Ok (c + i) := by
  have := ok_removeAll (L.take i) ok (by simp; omega)
  rw [hT] at this
  simpa [List.length_take,Nat.min_eq_left (show i ≤ L.length by omega)] using this
 by_cases hi : i < L.length
 ·refine s_lt_t (by omega) (pC_true (s_nth (Sep.src hS' 0 rfl) hi fun v22 => ?_))
  refine sr_remove hS' 1 rfl okT fun w3 h3 => ?_
  replace h3 : Sep (SrcA 1 (.slice A L.length cp) L.length (L.map .string) :: Rk E (T.remove L[i]).2 :: l) w3 := h3
  have hstep : AD.removeAll (L.take (i + 1)) S = T.remove L[i] := by
   rw [List.take_succ_eq_append_getElem hi,removeAll_app,hT,andE_f rfl]
   unfold AD.removeAll andE AD.removeAll
   split
   ·rfl
   ·rename_i h; simp at h; rw [← h]
  by_cases hz : (T.remove L[i]).1 = 0
  ·refine s_nei_f hz (pC_false (s_add_in (by omega) ?_))
   refine ⟨m - 1,by omega,i + 1,(T.remove L[i]).2,by omega,by rw [hstep]; exact Prod.ext hz rfl,h3,e0,e5,?_⟩
   show i64 _ = i64 _; simp
  ·refine s_nei_t hz (pC_true ?_)
   have hall : AD.removeAll L S = T.remove L[i] := by
    have e := congrArg (fun l => AD.removeAll l S) (List.take_append_drop (i + 1) L)
    rw [← e,removeAll_app,hstep,andE_t hz]
   rw [hall,andE_t hz] at hk
   exact hk w3 h3.drop
 ·refine s_lt_f (by omega) (pC_false ?_)
  have hall : AD.removeAll L S = (0,T) := by rw [← hT,List.take_of_length_le (by omega)]
  rw [hall,andE_f rfl] at hk
  rw [F103_2_eq]
  have fin : ∀ ρ : Env,ρ 0 = ptr E → ρ 5 = .slice A L.length cp → F103_2 k ρ w' := by
   intro ρ e0 e5
   unfold F103_2
   rw [e0,e5]
   refine s_len usl22 ?_
   by_cases hl : L = []
   ·rw [if_pos hl] at hk
    exact s_eqi_t (by subst hl; rfl) (pC_true (hk w' hS'.drop))
   ·rw [if_neg hl] at hk
    refine s_eqi_f (by have := List.length_pos_iff.2 hl; omega) (pC_false (sr_syncNames hS' 1 rfl okT fun w3 h3 => ?_))
    exact hk w3 (Sep.drop h3)
  exact fin _ e0 e5
theorem r6_put1 {X:Asrt} (hX:Holds X dv d) {ρ:Env} {b:Bool} (hS:Sep (Rk E S :: X :: l) w) (ok:S.Ok c) (hc:c + 10 ≤ 1099511627776) (hdl:d.length ≤ 549755813888) (e0:ρ 0 = ptr E) (e1:ρ 1 = .string name) (e2:ρ 2 = dv) (e7:ρ 7 = .string (plusOf name)) (e8:ρ 8 = .bool b)
    (hk:∀ w',Sep (Rk E (andE (S.create (plusOf name)) (fun T e => if e ≠ 50 ∧ b = true then (if T.syncNames.1 ≠ 0 then (50,T.syncNames.2) else (e,T.syncNames.2)) else (e,T)) fun S2 =>
        andE (S2.append (plusOf name) d) (fun T e => if e ≠ 50 then (if (T.awayF (plusOf name)).1 ≠ 0 then (50,(T.awayF (plusOf name)).2) else (e,(T.awayF (plusOf name)).2)) else (e,T)) fun S3 =>
        andE (S3.sync (plusOf name)) (fun T e => (e,T)) fun S4 => andE (S4.rename (plusOf name) name) (fun T e => (e,T)) fun S5 => S5.syncNames).2 :: X :: l) w' →
      k (i64 (andE (S.create (plusOf name)) (fun T e => if e ≠ 50 ∧ b = true then (if T.syncNames.1 ≠ 0 then (50,T.syncNames.2) else (e,T.syncNames.2)) else (e,T)) fun S2 =>
        andE (S2.append (plusOf name) d) (fun T e => if e ≠ 50 then (if (T.awayF (plusOf name)).1 ≠ 0 then (50,(T.awayF (plusOf name)).2) else (e,(T.awayF (plusOf name)).2)) else (e,T)) fun S3 =>
        andE (S3.sync (plusOf name)) (fun T e => (e,T)) fun S4 => andE (S4.rename (plusOf name) name) (fun T e => (e,T)) fun S5 => S5.syncNames).1) w') : F100A k [1,1,1,1,1,1] ρ w := by
  rw [F100_1_eq]
  unfold F100_1
  rw [e0,e1,e2,e7,e8]
  refine sr_create hS 0 rfl ok fun w1 h1 => ?_
  replace h1 : Sep (Rk E (S.create (plusOf name)).2 :: X :: l) w1 := h1
  have ok1 := ok.create (by omega) (plusOf name)
  generalize S.create (plusOf name) = r1 at *
  obtain ⟨x1,S1⟩ := r1
  dsimp only at h1 ok1 ⊢
  by_cases hz1 : x1 = 0
  case neg =>
    rw [andE_t (by exact hz1)] at hk
    dsimp only at hk
    refine s_nei_t hz1 (pC_true ?_)
    by_cases h50 : x1 = 50
    · rw [if_neg (by simp [h50])] at hk
      exact s_nei_f h50 (pG_sk (s_pick_f (pG_sk (pG_sk (pG_sk (s_pick_f (pC_false (hk w1 h1))))))))
    · refine s_nei_t h50 (pG_yes rfl (s_pick_t ?_))
      cases b with
      | false =>
        rw [if_neg (by simp)] at hk
        exact pG_sk (pG_sk (pG_sk (s_pick_f (pC_false (hk w1 h1)))))
      | true =>
        rw [if_pos ⟨h50,rfl⟩] at hk
        refine pG_yes rfl (pG_yes rfl (sr_syncNames h1 0 rfl ok1 fun w2 h2 => pG_yes rfl ?_))
        by_cases hy : S1.syncNames.1 = 0
        · rw [if_neg (by simpa using hy)] at hk
          exact s_nei_f hy (s_pick_t (pC_false (hk w2 h2)))
        · rw [if_pos hy] at hk
          exact s_nei_t hy (s_pick_t (pC_true (hk w2 h2)))
  rw [andE_f (by exact hz1)] at hk
  dsimp only at hk
  refine s_nei_f hz1 (pC_false (sr_append hX h1 0 1 (by decide) rfl rfl ok1 hdl fun w2 h2 => ?_))
  replace h2 : Sep (Rk E (S1.append (plusOf name) d).2 :: X :: l) w2 := h2
  have ok2 := ok1.append (by omega) (plusOf name) d
  generalize S1.append (plusOf name) d = r2 at *
  obtain ⟨x2,S2⟩ := r2
  dsimp only at h2 ok2 ⊢
  by_cases hz2 : x2 = 0
  case neg =>
    rw [andE_t (by exact hz2)] at hk
    dsimp only at hk
    refine s_nei_t hz2 (pC_true ?_)
    by_cases h50 : x2 = 50
    · rw [if_neg (by simp [h50])] at hk
      exact s_nei_f h50 (pG_sk (pG_sk (pG_sk (pG_sk (s_pick_f (pC_false (hk w2 h2)))))))
    · rw [if_pos h50] at hk
      refine s_nei_t h50 (pG_yes rfl (pG_yes rfl (pG_yes rfl (r6_away h2 ok2 (by omega) fun w3 h3 => pG_yes rfl ?_))))
      by_cases hy : (S2.awayF (plusOf name)).1 = 0
      · rw [if_neg (by simpa using hy)] at hk
        exact s_nei_f hy (s_pick_t (pC_false (hk w3 h3)))
      · rw [if_pos hy] at hk
        exact s_nei_t hy (s_pick_t (pC_true (hk w3 h3)))
  rw [andE_f (by exact hz2)] at hk
  dsimp only at hk
  refine s_nei_f hz2 (pC_false (sr_sync h2 0 rfl ok2 fun w3 h3 => ?_))
  replace h3 : Sep (Rk E (S2.sync (plusOf name)).2 :: X :: l) w3 := h3
  have ok3 := ok2.sync (by omega) (plusOf name)
  generalize S2.sync (plusOf name) = r3 at *
  obtain ⟨x3,S3⟩ := r3
  dsimp only at h3 ok3 ⊢
  by_cases hz3 : x3 = 0
  case neg =>
    rw [andE_t (by exact hz3)] at hk
    exact s_nei_t hz3 (pC_true (hk w3 h3))
  rw [andE_f (by exact hz3)] at hk
  dsimp only at hk
  refine s_nei_f hz3 (pC_false (sr_rename h3 0 rfl ok3 fun w4 h4 => ?_))
  replace h4 : Sep (Rk E (S3.rename (plusOf name) name).2 :: X :: l) w4 := h4
  have ok4 := ok3.rename (by omega) (plusOf name) name
  generalize S3.rename (plusOf name) name = r4 at *
  obtain ⟨x4,S4⟩ := r4
  dsimp only at h4 ok4 ⊢
  by_cases hz4 : x4 = 0
  case neg =>
    rw [andE_t (by exact hz4)] at hk
    exact s_nei_t hz4 (pC_true (hk w4 h4))
  rw [andE_f (by exact hz4)] at hk
  dsimp only at hk
  exact s_nei_f hz4 (pC_false (sr_syncNames h4 0 rfl ok4 fun w5 h5 => hk w5 h5))
theorem r6_put {X:Asrt} (hX:Holds X dv d) (hS:Sep (Rk E S :: X :: l) w) (ok:S.Ok c) (hc:c + 11 ≤ 1099511627776) (hdl:d.length ≤ 549755813888)
    (hk:∀ w',Sep (Rk E (S.putF name d).2 :: X :: l) w' → k (i64 (S.putF name d).1) w') : pFn P 100 [ptr E,.string name,dv] w k := by
  rw [putF_eq] at hk
  unfold AD.rputF at hk
  refine F100_in _ _ _ _ _ ?_
  unfold F100_0
  refine r_lays (s_not ?_)
  cases hl : lays name with
  | false => rw [hl] at hk; exact pC_true (hk w hS)
  | true =>
  rw [hl] at hk
  refine pC_false (sr_off hS 0 rfl ?_)
  cases ho : S.off with
  | true => rw [ho] at hk; exact pC_true (hk w hS)
  | false =>
  rw [ho] at hk
  simp only [Bool.not_true,Bool.false_eq_true,if_false] at hk
  have hsz := isName_small (lays_name hl).1
  refine pC_false (s_addS (by show 1 + _ ≤ _; omega) (r6_has (name := plusOf name) hS 0 rfl ok ?_))
  cases hh : S.has (plusOf name) with
  | false =>
    rw [hh] at hk
    simp only [Bool.false_eq_true,if_false] at hk
    rw [andE_f rfl] at hk
    refine pC_false ?_
    exact r6_put1 hX (b := false) hS ok (by omega) hdl rfl rfl rfl rfl rfl (by simpa using hk)
  | true =>
    rw [hh] at hk
    simp only [if_true] at hk
    refine pC_true (sr_remove (name := plusOf name) hS 0 rfl ok fun w1 h1 => ?_)
    replace h1 : Sep (Rk E (S.remove (plusOf name)).2 :: X :: l) w1 := h1
    have ok1 := ok.remove (by omega) (plusOf name)
    generalize S.remove (plusOf name) = r at *
    obtain ⟨x,S1⟩ := r
    dsimp only at h1 ok1 hk ⊢
    by_cases hz : x = 0
    · rw [andE_f (by exact hz)] at hk
      exact s_nei_f hz (pC_false (r6_put1 hX (b := true) h1 ok1 (by omega) hdl rfl rfl rfl rfl rfl (by simpa using hk)))
    · rw [andE_t (by exact hz)] at hk
      exact s_nei_t hz (pC_true (hk w1 h1))
end
def step6Cells (x:StepA) (dv pv:Value) : List Value := [i64 x.kind,.string x.name,.string x.to_,dv,i64 x.n,i64 x.plan.off,i64 x.plan.from_,i64 x.plan.to_,pv]
def step6Val (x:StepA) (dv pv:Value) : Value := .agg #[i64 x.kind,.string x.name,.string x.to_,dv,i64 x.n,i64 x.plan.off,i64 x.plan.from_,i64 x.plan.to_,pv]
section
variable {w:World} {k:KV} {W:World} {xb Pb D E c:Nat} {x:StepA} {dv pv:Value} {S T:AD} {l:List Asrt}
abbrev L6 (W:World) (Pb D E:Nat) (S T:AD) : List Asrt := [Cells Pb #[ptr D,ptr E] 181,Dk D S,Rk E T,Base W]
abbrev S6 (W:World) (xb:Nat) (x:StepA) (dv pv:Value) (Pb D E:Nat) (S T:AD) : List Asrt := Cells xb (step6Cells x dv pv).toArray 113 :: L6 W Pb D E S T
abbrev Pair6 (Pb D E:Nat) (w:World) : Prop := w.heap[Pb]? = some (.cells #[ptr D,ptr E] 181 (0,0))
abbrev Seen6 (xb:Nat) (x:StepA) (dv pv:Value) (Pb D E:Nat) (w:World) : Prop :=
 w.heap[xb]? = some (.cells (step6Cells x dv pv).toArray 113 (0,0)) ∧ Pair6 Pb D E w
theorem Pair6.of {l:List Asrt} (h:Sep (Cells Pb #[ptr D,ptr E] 181 :: l) w) : Pair6 Pb D E w := h.cells 0 rfl
theorem seen6 {l:List Asrt} (h:Sep (Cells xb (step6Cells x dv pv).toArray 113 :: Cells Pb #[ptr D,ptr E] 181 :: l) w) : Seen6 xb x dv pv Pb D E w := ⟨h.cells 0 rfl,h.cells 1 rfl⟩
theorem holds_base {W:World} {dv:Value} {d:Bytes} (h:SBytes W dv d) : Holds (Base W) dv d := fun w O I ⟨h1,h2,h3⟩ =>
 ⟨h.fr h1 fun _ _ h => h,fun h0 b hb => .inr ((h3 b).2 (Src.lt (size := 1) h (by omega) h0 hb))⟩
theorem c_round6 {v:Value} {a n:Int} (hv:v = i64 a) (h0:0 < n) (h1:n ≤ 4611686018427387904) (hk:k (i64 (a.emod n)) w) : pFn P 52 [v,i64 n] w k := by
 subst hv
 refine F52_in _ _ _ _ ?_
 unfold F52_0
 have e : (if a.tmod n < 0 then a.tmod n + n else a.tmod n) = a.emod n := by
  have := Int.tmod_eq_emod (a := a) (b := n)
  have hp := Int.emod_nonneg a (show n ≠ 0 by omega)
  have hl := Int.emod_lt_of_pos a h0
  have hz : (n.natAbs : Int) = n := by omega
  by_cases h : 0 ≤ a ∨ n ∣ a
  ·rw [if_pos h] at this
   rw [if_neg (by simp only [Int.natCast_zero] at this; omega)]; show _ = a % n; simp only [Int.natCast_zero] at this; omega
  ·rw [if_neg h] at this
   have : a % n ≠ 0 := fun h' => h (.inr (Int.dvd_of_emod_eq_zero h'))
   rw [if_pos (by omega)]; show _ = a % n; omega
 have hlt : -n ≤ a.tmod n ∧ a.tmod n < n := by
  have := Int.emod_nonneg a (show n ≠ 0 by omega)
  have hl := Int.emod_lt_of_pos a h0
  have e' : (if a.tmod n < 0 then a.tmod n + n else a.tmod n) = a % n := e
  split at e' <;> omega
 refine s_rem (by omega) (s_lt ?_)
 by_cases h : a.tmod n < 0
 ·rw [if_pos h] at e
  rw [decide_eq_true h]
  refine pC_true (s_add_in (by omega) ?_)
  rw [F52_1_eq]
  unfold F52_1
  show k (i64 (a.tmod n + n)) w
  rw [e]; exact hk
 ·rw [if_neg h] at e
  rw [decide_eq_false h]
  refine pC_false ?_
  rw [F52_1_eq]
  unfold F52_1
  show k (i64 (a.tmod n)) w
  rw [e]; exact hk
theorem st6_made {room:Int} (hr:1 ≤ room ∧ room ≤ 1048576) (hk:∀ w' Pb D E,Sep (L6 W Pb D E (AD.new room) (AD.new room)) w' → k (.tuple #[ptr Pb,.bool true]) w') (hS0:Sep [Base W] w) : pFn P 62 [i64 room] w k := by
 refine F62_in _ _ _ ?_
 unfold F62_0
 refine sd_new hS0 (fun h => absurd hr h) fun _ w1 D hS1 => ?_
 refine s_ext rfl (s_ext rfl ?_)
 refine r_new (fun h => absurd hr h) fun _ w2 L2 d2 f2 hz => ?_
 refine s_ext rfl (s_ext rfl ?_)
 have hS2 : Sep (Rk w1.heap.size (AD.new room) :: Dk D (AD.new room) :: [Base W]) w2 := hS1.new f2 (fun b hb => hb.elim) ⟨L2,d2⟩ (fun b hb => by omega) fun b hb => hb.elim
 generalize w1.heap.size = E at *
 refine px_ok (w' := w2) (v := .agg #[ptr D,ptr E]) (by kernel_rfl) ?_
 refine s_box ?_
 have hS4 : Sep (Cells w2.heap.size #[ptr D,ptr E] 181 :: Rk E (AD.new room) :: Dk D (AD.new room) :: [Base W]) (w2.alloc (.cells #[ptr D,ptr E] 181)) := hS2.cell _ _
 show px P _ (w2.alloc (.cells #[ptr D,ptr E] 181)) _
 generalize w2.alloc (.cells #[ptr D,ptr E] 181) = w4 at *
 have hS5 : Sep (L6 W w2.heap.size D E (AD.new room) (AD.new room)) w4 := sep_mv [2,1] 0 hS4 rfl
 refine s_eqi_t rfl (pG_yes rfl (pG_yes rfl (s_eqi_t rfl (s_pick_t (pG_yes rfl (pG_yes rfl ?_))))))
 unfold ptr
 refine s_nepn upt24 (s_pick_t ?_)
 exact hk _ _ D E hS5
theorem safes_small {c:Nat} {S:AD} (ok:S.Ok c) : S.safes.length ≤ 4611686018427387904 ∧ ∀ f ∈ S.safes,f.2.length ≤ 4611686018427387904 := by
 refine ⟨?_,fun f hf => ?_⟩
 ·have := ok.turns.len.2
  unfold AD.safes
  rw [List.length_map]; omega
 ·obtain ⟨p,hp,rfl⟩ := List.mem_map.1 hf
  have := (ok.thing p.2 (.inr (.inl ⟨p.1,hp⟩))).ok.len.2
  show (S.things p.2).safe.length ≤ _
  omega
theorem files_small {c:Nat} {S:AD} (ok:S.Ok c) : S.files.length ≤ 4611686018427387904 ∧ ∀ f ∈ S.files,f.2.length ≤ 4611686018427387904 := by
 refine ⟨?_,fun f hf => ?_⟩
 ·have := ok.turns.len.1
  unfold AD.files
  rw [List.length_map]; omega
 ·obtain ⟨p,hp,rfl⟩ := List.mem_map.1 hf
  have := (ok.thing p.2 (.inl ⟨p.1,hp⟩)).ok.len.1
  show (S.things p.2).shown.length ≤ _
  omega
theorem shownMax {c:Nat} {S:AD} (ok:S.Ok c) : ∀ p ∈ S.shown,p.1.size ≤ maxLen := fun p hp => by have := ok.shownNames p hp; unfold maxLen; omega
theorem safeMax {c:Nat} {S:AD} (ok:S.Ok c) : ∀ p ∈ S.safe,p.1.size ≤ maxLen := fun p hp => by have := ok.sn p hp; unfold maxLen; omega
theorem g6_disk {rest:Value → Prop} (h:rest (ptr D)) : pGq (.bool true) true (fun k => k (ptr Pb)) fun a => pGq (.bool true) true (fun k => pq P (Pair6 Pb D E) (nilSem a) k) fun b => pGq (.bool true) true (fun k => pq P (Pair6 Pb D E) (Instr.fieldAt 181 b 0) k) fun c => pGq (.bool true) true (fun k => pq P (Pair6 Pb D E) (Instr.loadAt 24 c) k) rest :=
 pGq_yes rfl (pGq_yes rfl (q_of _ (fun w_ hS => s_nil ⟨rfl,rfl⟩) (pGq_yes rfl (q_of _ (fun w_ hS => fa181_0 ⟨rfl,rfl⟩) (pGq_yes rfl (q_of (ptr D) (fun w_ hS => s_ldb (isAgg24 _) hS rfl ⟨rfl,rfl⟩) h))))))
theorem g6_ref {rest:Value → Prop} (h:rest (ptr E)) : pGq (.bool true) true (fun k => k (ptr Pb)) fun a => pGq (.bool true) true (fun k => pq P (Pair6 Pb D E) (nilSem a) k) fun b => pGq (.bool true) true (fun k => pq P (Pair6 Pb D E) (Instr.fieldAt 181 b 1) k) fun c => pGq (.bool true) true (fun k => pq P (Pair6 Pb D E) (Instr.loadAt 177 c) k) rest :=
 pGq_yes rfl (pGq_yes rfl (q_of _ (fun w_ hS => s_nil ⟨rfl,rfl⟩) (pGq_yes rfl (q_of _ (fun w_ hS => fa181_1 ⟨rfl,rfl⟩) (pGq_yes rfl (q_of (ptr E) (fun w_ hS => s_ldb (isAgg177 _) hS rfl ⟨rfl,rfl⟩) h))))))
theorem filesV_fr0 {w w':World} {B:Nat} {v:Value} {fs:List (ByteArray × Bytes)} (h:FilesV w B v fs) (hf:Fr no w w') : FilesV w' B v fs := by
 obtain ⟨ps,h1,h2,h3⟩ := h
 have z := hf.size
 exact ⟨ps,all2_imp h1 fun f p ⟨a,b,c⟩ => ⟨a,b.fr hf fun _ _ h => h,fun x hx => ⟨(c x hx).1,by have := (c x hx).2.1; omega,(c x hx).2.2⟩⟩,own_fr h2 hf fun _ _ h => h,h3⟩
theorem s6_eqb {a b:Bool} {w:World} {x y:Operand} {k:KV} (h:a = b) (hk:k (.bool true) w) : px P (binSem .eql 4 x y (.bool a) (.bool b)) w k := by
 subst h
 exact s_bin (by simp) (by simp) (run_eql_bool w 4 a a underlying4) (by simpa using hk)
set_option maxHeartbeats 1000000 in
theorem st6_stands (hS:Sep (L6 W Pb D E S S) w) (ok:S.Ok c) (hk:∀ w',Sep (L6 W Pb D E S S) w' → k (.bool true) w') : pFn P 65 [ptr Pb] w k := by
 refine F65_in _ _ _ ?_
 unfold F65_0
 replace hS := hS.q (Fr.drew _ _)
 refine ⟨Pair6 Pb D E,.of hS,?_⟩
 refine q_of _ (fun w_ hS => s_nil ⟨rfl,rfl⟩) (q_of _ (fun w_ hS => fa181_0 ⟨rfl,rfl⟩) (q_of (ptr D) (fun w_ hS => s_ldb (isAgg24 _) hS rfl ⟨rfl,rfl⟩) ?_))
 refine q_of _ (fun w_ hS => s_nil ⟨rfl,rfl⟩) (q_of _ (fun w_ hS => fa181_1 ⟨rfl,rfl⟩) (q_of (ptr E) (fun w_ hS => s_ldb (isAgg177 _) hS rfl ⟨rfl,rfl⟩) ?_))
 refine sd_off hS 1 rfl ok ⟨.of hS,?_⟩
 refine sr_off hS 2 rfl ⟨.of hS,q_of (.bool true) (fun w_ hS => s6_eqb rfl ⟨rfl,rfl⟩) ?_⟩
 refine g6_disk (g6_ref ?_)
 refine pG_yes rfl (sd_strokes hS 1 rfl ok ⟨.of hS,?_⟩)
 refine pG_yes rfl (sr_strokes hS 2 rfl ⟨.of hS,pGq_yes rfl (q_of (.bool true) (fun w_ hS => s_eqi_t rfl ⟨rfl,rfl⟩) (q_of (.bool true) (fun w_ hS => s_pick_t ⟨rfl,rfl⟩) ?_))⟩)
 refine g6_disk (g6_ref ?_)
 obtain ⟨O,I,L,d,-⟩ := Sep.disk hS 1 rfl
 refine pG_yes rfl (c_files sortsKeys d ok (shownMax ok) fun w2 v2 g2  f2 => ?_)
 replace hS := hS.q f2
 refine ⟨.of hS,?_⟩
 obtain ⟨O,I,L,r,-⟩ := Sep.ref hS 2 rfl
 refine pG_yes rfl (r_files r ok fun w3 v3 g3  f3 => ?_)
 replace hS := hS.q f3
 refine ⟨.of hS,pG_yes rfl (c_filesEq (filesV_fr0 g2 f3) g3 (files_small ok).1 (files_small ok).2 fun  w4 f4  => ?_)⟩
 rw [decide_eq_true rfl]
 replace hS := hS.q f4
 refine ⟨.of hS,q_of (.bool true) (fun w_ hS => s_pick_t ⟨rfl,rfl⟩) ?_⟩
 refine g6_disk (g6_ref ?_)
 obtain ⟨O,I,L,d,-⟩ := Sep.disk hS 1 rfl
 refine pG_yes rfl (c_safe sortsKeys d ok (safeMax ok) fun w5 v5 g5  f5 => ?_)
 replace hS := hS.q f5
 refine ⟨.of hS,?_⟩
 obtain ⟨O,I,L,r,-⟩ := Sep.ref hS 2 rfl
 refine pG_yes rfl (r_safe r ok fun w6 v6 g6  f6 => ?_)
 replace hS := hS.q f6
 refine ⟨.of hS,pG_yes rfl (c_filesEq (filesV_fr0 g5 f6) g6 (safes_small ok).1 (safes_small ok).2 fun  w7 f7  => ?_)⟩
 rw [decide_eq_true rfl]
 replace hS := hS.q f7
 refine ⟨.of hS,q_of (.bool true) (fun w_ hS => s_pick_t ⟨rfl,rfl⟩) ?_⟩
 exact hk _ hS
end
section
variable {w:World} {k:KV} {W:World} {xb Pb D E c:Nat} {x:StepA} {dv pv:Value} {S T:AD} {l:List Asrt}
theorem sd_truncate (hS:Sep l w) (i:Nat) (hi:l[i]? = some (Dk D S)) (ok:S.Ok c) {name:ByteArray} (hs:name.size ≤ 9223372036854775807) (n:Int) (hk:∀ w',Sep (l.set i (Dk D (S.truncate name n).2)) w' → k (i64 (S.truncate name n).1) w') : pFn P 106 [ptr D,.string name,i64 n] w k := by
 obtain ⟨O,I,L,hd,nx⟩ := Sep.disk hS i hi
 exact c_truncate hd ok name hs n fun w1 O1 I1 L1 hx => hk w1 (nx _ _ _ _ _ hx)
theorem sr_truncate (hS:Sep l w) (i:Nat) (hi:l[i]? = some (Rk E S)) (ok:S.Ok c) {name:ByteArray} (n:Int) (hk:∀ w',Sep (l.set i (Rk E (S.truncate name n).2)) w' → k (i64 (S.truncate name n).1) w') : pFn P 107 [ptr E,.string name,i64 n] w k := by
 obtain ⟨O,I,L,hd,nx⟩ := Sep.ref hS i hi
 exact r_truncate hd ok name n fun w1 O1 I1 L1 hx => hk w1 (nx _ _ _ _ _ hx)
theorem sd_plan (hS:Sep l w) (i:Nat) (hi:l[i]? = some (Dk D S)) (ok:S.Ok c) (p:PlanA) (hk:∀ w',Sep (l.set i (Dk D (S.plans p))) w' → k (.tuple #[]) w') : pFn P 55 [ptr D,planVal p] w k := by
 obtain ⟨O,I,L,hd,nx⟩ := Sep.disk hS i hi
 exact c_plan hd ok.room.1 p fun w1 O1 I1 L1 hx => hk w1 (nx _ _ _ _ _ hx)
theorem sr_plan (hS:Sep l w) (i:Nat) (hi:l[i]? = some (Rk E S)) (p:PlanA) (hk:∀ w',Sep (l.set i (Rk E (S.plans p))) w' → k (.tuple #[]) w') : pFn P 112 [ptr E,planVal p] w k := by
 obtain ⟨O,I,L,hd,nx⟩ := Sep.ref hS i hi
 exact r_plan hd p fun w1 hx => hk w1 (nx _ _ _ _ _ hx)
theorem sd_crash {picks:List Int} {pv:Value} (hS:Sep l w) (i:Nat) (hi:l[i]? = some (Dk D S)) (ok:S.Ok c) (hpl:picks.length ≤ 4611686018427387904) (hp:Src w pv 1 picks.length (picks.map i64)) (hk:∀ w',Sep (l.set i (Dk D (S.crash picks))) w' → k (.tuple #[]) w') : pFn P 57 [ptr D,pv] w k := by
 obtain ⟨O,I,L,hd,nx⟩ := Sep.disk hS i hi
 exact c_crashP sortsKeys hd ok hpl hp (crash_names ok picks) fun w1 O1 I1 L1 hx => hk w1 (nx _ _ _ _ _ hx)
theorem sr_crash {picks:List Int} {pv:Value} (hS:Sep l w) (i:Nat) (hi:l[i]? = some (Rk E S)) (ok:S.Ok c) (hp:Src w pv 1 picks.length (picks.map i64)) (hk:∀ w',Sep (l.set i (Rk E (S.crash picks))) w' → k (.tuple #[]) w') : pFn P 113 [ptr E,pv] w k := by
 obtain ⟨O,I,L,hd,nx⟩ := Sep.ref hS i hi
 exact r_crash hd ok hp fun w1 O1 I1 L1 hx => hk w1 (nx _ _ _ _ _ hx)
theorem s6_create {o1 o2:Operand} (hS:Sep (S6 W xb x dv pv Pb D E S S) w) (ok:S.Ok c) (hv:StepV W x dv pv) (hn:x.name.size ≤ 9223372036854775807) (ht:x.to_.size ≤ 9223372036854775807) (hd:x.data.length ≤ 549755813888) (hk:∀ w',Sep (S6 W xb x dv pv Pb D E (S.create x.name).2 (S.create x.name).2) w' → k (.bool true) w') :
    ∃ S_ : World → Prop,S_ w.drew ∧ (fun w =>
      pq P S_ (nilSem (ptr Pb)) fun v12 =>
      pq P S_ (Instr.fieldAt 181 v12 0) fun v13 =>
      pq P S_ (Instr.loadAt 24 v13) fun v14 =>
      pq P S_ (Instr.fieldAt 113 (ptr xb) 1) fun v15 =>
      pq P S_ (Instr.loadAt 9 v15) fun v16 =>
      pq P S_ (nilSem (ptr Pb)) fun v17 =>
      pq P S_ (Instr.fieldAt 181 v17 1) fun v18 =>
      pq P S_ (Instr.loadAt 177 v18) fun v19 =>
      pq P S_ (Instr.fieldAt 113 (ptr xb) 1) fun v20 =>
      pq P S_ (Instr.loadAt 9 v20) fun v21 =>
      pFn P 73 [v14,v16] w fun v_ w => S_ w ∧ (
      pFn P 104 [v19,v21] w fun u_ w => S_ w ∧ (
      pq P S_ (binSem BinOp.eql 3 o1 o2 v_ u_) fun d_ =>
      k d_ w))) w.drew := by
  replace hS := hS.q (Fr.drew _ _)
  refine ⟨Seen6 xb x dv pv Pb D E,seen6 hS,?_⟩
  refine q_of _ (fun w_ hS => s_nil ⟨rfl,rfl⟩) (q_of _ (fun w_ hS => fa181_0 ⟨rfl,rfl⟩) (q_of (ptr D) (fun w_ hS => s_ldb (isAgg24 _) hS.2 rfl ⟨rfl,rfl⟩) ?_))
  refine q_of _ (fun w_ hS => fa113_1 ⟨rfl,rfl⟩) (q_of (.string x.name) (fun w_ hS => s_ldb (isAgg9 _) hS.1 rfl ⟨rfl,rfl⟩) ?_)
  refine q_of _ (fun w_ hS => s_nil ⟨rfl,rfl⟩) (q_of _ (fun w_ hS => fa181_1 ⟨rfl,rfl⟩) (q_of (ptr E) (fun w_ hS => s_ldb (isAgg177 _) hS.2 rfl ⟨rfl,rfl⟩) ?_))
  refine q_of _ (fun w_ hS => fa113_1 ⟨rfl,rfl⟩) (q_of (.string x.name) (fun w_ hS => s_ldb (isAgg9 _) hS.1 rfl ⟨rfl,rfl⟩) ?_)
  refine sd_create hS 2 rfl ok hn fun w1 hS => ?_
  replace hS : Sep (S6 W xb x dv pv Pb D E (S.create x.name).2 S) w1 := hS
  refine ⟨seen6 hS,?_⟩
  refine sr_create hS 3 rfl ok fun w2 hS => ?_
  replace hS : Sep (S6 W xb x dv pv Pb D E (S.create x.name).2 (S.create x.name).2) w2 := hS
  exact ⟨seen6 hS,q_of (.bool true) (fun w_ hS => s_eqi_t rfl ⟨rfl,rfl⟩) (hk w2 hS)⟩
theorem s6_append {o1 o2:Operand} (hS:Sep (S6 W xb x dv pv Pb D E S S) w) (ok:S.Ok c) (hv:StepV W x dv pv) (hn:x.name.size ≤ 9223372036854775807) (ht:x.to_.size ≤ 9223372036854775807) (hd:x.data.length ≤ 549755813888) (hk:∀ w',Sep (S6 W xb x dv pv Pb D E (S.append x.name x.data).2 (S.append x.name x.data).2) w' → k (.bool true) w') :
    ∃ S_ : World → Prop,S_ w.drew ∧ (fun w =>
      pq P S_ (nilSem (ptr Pb)) fun v12 =>
      pq P S_ (Instr.fieldAt 181 v12 0) fun v13 =>
      pq P S_ (Instr.loadAt 24 v13) fun v14 =>
      pq P S_ (Instr.fieldAt 113 (ptr xb) 1) fun v15 =>
      pq P S_ (Instr.loadAt 9 v15) fun v16 =>
      pq P S_ (Instr.fieldAt 113 (ptr xb) 3) fun v17 =>
      pq P S_ (Instr.loadAt 23 v17) fun v18 =>
      pq P S_ (nilSem (ptr Pb)) fun v19 =>
      pq P S_ (Instr.fieldAt 181 v19 1) fun v20 =>
      pq P S_ (Instr.loadAt 177 v20) fun v21 =>
      pq P S_ (Instr.fieldAt 113 (ptr xb) 1) fun v22 =>
      pq P S_ (Instr.loadAt 9 v22) fun v23 =>
      pq P S_ (Instr.fieldAt 113 (ptr xb) 3) fun v24 =>
      pq P S_ (Instr.loadAt 23 v24) fun v25 =>
      pFn P 74 [v14,v16,v18] w fun v_ w => S_ w ∧ (
      pFn P 105 [v21,v23,v25] w fun u_ w => S_ w ∧ (
      pq P S_ (binSem BinOp.eql 3 o1 o2 v_ u_) fun d_ =>
      k d_ w))) w.drew := by
  replace hS := hS.q (Fr.drew _ _)
  refine ⟨Seen6 xb x dv pv Pb D E,seen6 hS,?_⟩
  refine q_of _ (fun w_ hS => s_nil ⟨rfl,rfl⟩) (q_of _ (fun w_ hS => fa181_0 ⟨rfl,rfl⟩) (q_of (ptr D) (fun w_ hS => s_ldb (isAgg24 _) hS.2 rfl ⟨rfl,rfl⟩) ?_))
  refine q_of _ (fun w_ hS => fa113_1 ⟨rfl,rfl⟩) (q_of (.string x.name) (fun w_ hS => s_ldb (isAgg9 _) hS.1 rfl ⟨rfl,rfl⟩) ?_)
  refine q_of _ (fun w_ hS => fa113_3 ⟨rfl,rfl⟩) (q_of (dv) (fun w_ hS => s_ldb (isAgg23 _) hS.1 rfl ⟨rfl,rfl⟩) ?_)
  refine q_of _ (fun w_ hS => s_nil ⟨rfl,rfl⟩) (q_of _ (fun w_ hS => fa181_1 ⟨rfl,rfl⟩) (q_of (ptr E) (fun w_ hS => s_ldb (isAgg177 _) hS.2 rfl ⟨rfl,rfl⟩) ?_))
  refine q_of _ (fun w_ hS => fa113_1 ⟨rfl,rfl⟩) (q_of (.string x.name) (fun w_ hS => s_ldb (isAgg9 _) hS.1 rfl ⟨rfl,rfl⟩) ?_)
  refine q_of _ (fun w_ hS => fa113_3 ⟨rfl,rfl⟩) (q_of (dv) (fun w_ hS => s_ldb (isAgg23 _) hS.1 rfl ⟨rfl,rfl⟩) ?_)
  refine sd_append (holds_base hv.data) hS 2 4 (by decide) rfl rfl ok hn hd fun w1 hS => ?_
  replace hS : Sep (S6 W xb x dv pv Pb D E (S.append x.name x.data).2 S) w1 := hS
  refine ⟨seen6 hS,?_⟩
  refine sr_append (holds_base hv.data) hS 3 4 (by decide) rfl rfl ok hd fun w2 hS => ?_
  replace hS : Sep (S6 W xb x dv pv Pb D E (S.append x.name x.data).2 (S.append x.name x.data).2) w2 := hS
  exact ⟨seen6 hS,q_of (.bool true) (fun w_ hS => s_eqi_t rfl ⟨rfl,rfl⟩) (hk w2 hS)⟩
theorem s6_truncate {o1 o2:Operand} (hS:Sep (S6 W xb x dv pv Pb D E S S) w) (ok:S.Ok c) (hv:StepV W x dv pv) (hn:x.name.size ≤ 9223372036854775807) (ht:x.to_.size ≤ 9223372036854775807) (hd:x.data.length ≤ 549755813888) (hk:∀ w',Sep (S6 W xb x dv pv Pb D E (S.truncate x.name x.n).2 (S.truncate x.name x.n).2) w' → k (.bool true) w') :
    ∃ S_ : World → Prop,S_ w.drew ∧ (fun w =>
      pq P S_ (nilSem (ptr Pb)) fun v12 =>
      pq P S_ (Instr.fieldAt 181 v12 0) fun v13 =>
      pq P S_ (Instr.loadAt 24 v13) fun v14 =>
      pq P S_ (Instr.fieldAt 113 (ptr xb) 1) fun v15 =>
      pq P S_ (Instr.loadAt 9 v15) fun v16 =>
      pq P S_ (Instr.fieldAt 113 (ptr xb) 4) fun v17 =>
      pq P S_ (Instr.loadAt 3 v17) fun v18 =>
      pq P S_ (nilSem (ptr Pb)) fun v19 =>
      pq P S_ (Instr.fieldAt 181 v19 1) fun v20 =>
      pq P S_ (Instr.loadAt 177 v20) fun v21 =>
      pq P S_ (Instr.fieldAt 113 (ptr xb) 1) fun v22 =>
      pq P S_ (Instr.loadAt 9 v22) fun v23 =>
      pq P S_ (Instr.fieldAt 113 (ptr xb) 4) fun v24 =>
      pq P S_ (Instr.loadAt 3 v24) fun v25 =>
      pFn P 106 [v14,v16,v18] w fun v_ w => S_ w ∧ (
      pFn P 107 [v21,v23,v25] w fun u_ w => S_ w ∧ (
      pq P S_ (binSem BinOp.eql 3 o1 o2 v_ u_) fun d_ =>
      k d_ w))) w.drew := by
  replace hS := hS.q (Fr.drew _ _)
  refine ⟨Seen6 xb x dv pv Pb D E,seen6 hS,?_⟩
  refine q_of _ (fun w_ hS => s_nil ⟨rfl,rfl⟩) (q_of _ (fun w_ hS => fa181_0 ⟨rfl,rfl⟩) (q_of (ptr D) (fun w_ hS => s_ldb (isAgg24 _) hS.2 rfl ⟨rfl,rfl⟩) ?_))
  refine q_of _ (fun w_ hS => fa113_1 ⟨rfl,rfl⟩) (q_of (.string x.name) (fun w_ hS => s_ldb (isAgg9 _) hS.1 rfl ⟨rfl,rfl⟩) ?_)
  refine q_of _ (fun w_ hS => fa113_4 ⟨rfl,rfl⟩) (q_of (i64 x.n) (fun w_ hS => s_ldb (isAgg3 _) hS.1 rfl ⟨rfl,rfl⟩) ?_)
  refine q_of _ (fun w_ hS => s_nil ⟨rfl,rfl⟩) (q_of _ (fun w_ hS => fa181_1 ⟨rfl,rfl⟩) (q_of (ptr E) (fun w_ hS => s_ldb (isAgg177 _) hS.2 rfl ⟨rfl,rfl⟩) ?_))
  refine q_of _ (fun w_ hS => fa113_1 ⟨rfl,rfl⟩) (q_of (.string x.name) (fun w_ hS => s_ldb (isAgg9 _) hS.1 rfl ⟨rfl,rfl⟩) ?_)
  refine q_of _ (fun w_ hS => fa113_4 ⟨rfl,rfl⟩) (q_of (i64 x.n) (fun w_ hS => s_ldb (isAgg3 _) hS.1 rfl ⟨rfl,rfl⟩) ?_)
  refine sd_truncate hS 2 rfl ok hn x.n fun w1 hS => ?_
  replace hS : Sep (S6 W xb x dv pv Pb D E (S.truncate x.name x.n).2 S) w1 := hS
  refine ⟨seen6 hS,?_⟩
  refine sr_truncate hS 3 rfl ok x.n fun w2 hS => ?_
  replace hS : Sep (S6 W xb x dv pv Pb D E (S.truncate x.name x.n).2 (S.truncate x.name x.n).2) w2 := hS
  exact ⟨seen6 hS,q_of (.bool true) (fun w_ hS => s_eqi_t rfl ⟨rfl,rfl⟩) (hk w2 hS)⟩
theorem s6_rename {o1 o2:Operand} (hS:Sep (S6 W xb x dv pv Pb D E S S) w) (ok:S.Ok c) (hv:StepV W x dv pv) (hn:x.name.size ≤ 9223372036854775807) (ht:x.to_.size ≤ 9223372036854775807) (hd:x.data.length ≤ 549755813888) (hk:∀ w',Sep (S6 W xb x dv pv Pb D E (S.rename x.name x.to_).2 (S.rename x.name x.to_).2) w' → k (.bool true) w') :
    ∃ S_ : World → Prop,S_ w.drew ∧ (fun w =>
      pq P S_ (nilSem (ptr Pb)) fun v12 =>
      pq P S_ (Instr.fieldAt 181 v12 0) fun v13 =>
      pq P S_ (Instr.loadAt 24 v13) fun v14 =>
      pq P S_ (Instr.fieldAt 113 (ptr xb) 1) fun v15 =>
      pq P S_ (Instr.loadAt 9 v15) fun v16 =>
      pq P S_ (Instr.fieldAt 113 (ptr xb) 2) fun v17 =>
      pq P S_ (Instr.loadAt 9 v17) fun v18 =>
      pq P S_ (nilSem (ptr Pb)) fun v19 =>
      pq P S_ (Instr.fieldAt 181 v19 1) fun v20 =>
      pq P S_ (Instr.loadAt 177 v20) fun v21 =>
      pq P S_ (Instr.fieldAt 113 (ptr xb) 1) fun v22 =>
      pq P S_ (Instr.loadAt 9 v22) fun v23 =>
      pq P S_ (Instr.fieldAt 113 (ptr xb) 2) fun v24 =>
      pq P S_ (Instr.loadAt 9 v24) fun v25 =>
      pFn P 76 [v14,v16,v18] w fun v_ w => S_ w ∧ (
      pFn P 108 [v21,v23,v25] w fun u_ w => S_ w ∧ (
      pq P S_ (binSem BinOp.eql 3 o1 o2 v_ u_) fun d_ =>
      k d_ w))) w.drew := by
  replace hS := hS.q (Fr.drew _ _)
  refine ⟨Seen6 xb x dv pv Pb D E,seen6 hS,?_⟩
  refine q_of _ (fun w_ hS => s_nil ⟨rfl,rfl⟩) (q_of _ (fun w_ hS => fa181_0 ⟨rfl,rfl⟩) (q_of (ptr D) (fun w_ hS => s_ldb (isAgg24 _) hS.2 rfl ⟨rfl,rfl⟩) ?_))
  refine q_of _ (fun w_ hS => fa113_1 ⟨rfl,rfl⟩) (q_of (.string x.name) (fun w_ hS => s_ldb (isAgg9 _) hS.1 rfl ⟨rfl,rfl⟩) ?_)
  refine q_of _ (fun w_ hS => fa113_2 ⟨rfl,rfl⟩) (q_of (.string x.to_) (fun w_ hS => s_ldb (isAgg9 _) hS.1 rfl ⟨rfl,rfl⟩) ?_)
  refine q_of _ (fun w_ hS => s_nil ⟨rfl,rfl⟩) (q_of _ (fun w_ hS => fa181_1 ⟨rfl,rfl⟩) (q_of (ptr E) (fun w_ hS => s_ldb (isAgg177 _) hS.2 rfl ⟨rfl,rfl⟩) ?_))
  refine q_of _ (fun w_ hS => fa113_1 ⟨rfl,rfl⟩) (q_of (.string x.name) (fun w_ hS => s_ldb (isAgg9 _) hS.1 rfl ⟨rfl,rfl⟩) ?_)
  refine q_of _ (fun w_ hS => fa113_2 ⟨rfl,rfl⟩) (q_of (.string x.to_) (fun w_ hS => s_ldb (isAgg9 _) hS.1 rfl ⟨rfl,rfl⟩) ?_)
  refine sd_rename hS 2 rfl ok hn ht fun w1 hS => ?_
  replace hS : Sep (S6 W xb x dv pv Pb D E (S.rename x.name x.to_).2 S) w1 := hS
  refine ⟨seen6 hS,?_⟩
  refine sr_rename hS 3 rfl ok fun w2 hS => ?_
  replace hS : Sep (S6 W xb x dv pv Pb D E (S.rename x.name x.to_).2 (S.rename x.name x.to_).2) w2 := hS
  exact ⟨seen6 hS,q_of (.bool true) (fun w_ hS => s_eqi_t rfl ⟨rfl,rfl⟩) (hk w2 hS)⟩
theorem s6_remove {o1 o2:Operand} (hS:Sep (S6 W xb x dv pv Pb D E S S) w) (ok:S.Ok c) (hv:StepV W x dv pv) (hn:x.name.size ≤ 9223372036854775807) (ht:x.to_.size ≤ 9223372036854775807) (hd:x.data.length ≤ 549755813888) (hk:∀ w',Sep (S6 W xb x dv pv Pb D E (S.remove x.name).2 (S.remove x.name).2) w' → k (.bool true) w') :
    ∃ S_ : World → Prop,S_ w.drew ∧ (fun w =>
      pq P S_ (nilSem (ptr Pb)) fun v12 =>
      pq P S_ (Instr.fieldAt 181 v12 0) fun v13 =>
      pq P S_ (Instr.loadAt 24 v13) fun v14 =>
      pq P S_ (Instr.fieldAt 113 (ptr xb) 1) fun v15 =>
      pq P S_ (Instr.loadAt 9 v15) fun v16 =>
      pq P S_ (nilSem (ptr Pb)) fun v17 =>
      pq P S_ (Instr.fieldAt 181 v17 1) fun v18 =>
      pq P S_ (Instr.loadAt 177 v18) fun v19 =>
      pq P S_ (Instr.fieldAt 113 (ptr xb) 1) fun v20 =>
      pq P S_ (Instr.loadAt 9 v20) fun v21 =>
      pFn P 70 [v14,v16] w fun v_ w => S_ w ∧ (
      pFn P 109 [v19,v21] w fun u_ w => S_ w ∧ (
      pq P S_ (binSem BinOp.eql 3 o1 o2 v_ u_) fun d_ =>
      k d_ w))) w.drew := by
  replace hS := hS.q (Fr.drew _ _)
  refine ⟨Seen6 xb x dv pv Pb D E,seen6 hS,?_⟩
  refine q_of _ (fun w_ hS => s_nil ⟨rfl,rfl⟩) (q_of _ (fun w_ hS => fa181_0 ⟨rfl,rfl⟩) (q_of (ptr D) (fun w_ hS => s_ldb (isAgg24 _) hS.2 rfl ⟨rfl,rfl⟩) ?_))
  refine q_of _ (fun w_ hS => fa113_1 ⟨rfl,rfl⟩) (q_of (.string x.name) (fun w_ hS => s_ldb (isAgg9 _) hS.1 rfl ⟨rfl,rfl⟩) ?_)
  refine q_of _ (fun w_ hS => s_nil ⟨rfl,rfl⟩) (q_of _ (fun w_ hS => fa181_1 ⟨rfl,rfl⟩) (q_of (ptr E) (fun w_ hS => s_ldb (isAgg177 _) hS.2 rfl ⟨rfl,rfl⟩) ?_))
  refine q_of _ (fun w_ hS => fa113_1 ⟨rfl,rfl⟩) (q_of (.string x.name) (fun w_ hS => s_ldb (isAgg9 _) hS.1 rfl ⟨rfl,rfl⟩) ?_)
  refine sd_remove hS 2 rfl ok hn fun w1 hS => ?_
  replace hS : Sep (S6 W xb x dv pv Pb D E (S.remove x.name).2 S) w1 := hS
  refine ⟨seen6 hS,?_⟩
  refine sr_remove hS 3 rfl ok fun w2 hS => ?_
  replace hS : Sep (S6 W xb x dv pv Pb D E (S.remove x.name).2 (S.remove x.name).2) w2 := hS
  exact ⟨seen6 hS,q_of (.bool true) (fun w_ hS => s_eqi_t rfl ⟨rfl,rfl⟩) (hk w2 hS)⟩
theorem s6_sync {o1 o2:Operand} (hS:Sep (S6 W xb x dv pv Pb D E S S) w) (ok:S.Ok c) (hv:StepV W x dv pv) (hn:x.name.size ≤ 9223372036854775807) (ht:x.to_.size ≤ 9223372036854775807) (hd:x.data.length ≤ 549755813888) (hk:∀ w',Sep (S6 W xb x dv pv Pb D E (S.sync x.name).2 (S.sync x.name).2) w' → k (.bool true) w') :
    ∃ S_ : World → Prop,S_ w.drew ∧ (fun w =>
      pq P S_ (nilSem (ptr Pb)) fun v12 =>
      pq P S_ (Instr.fieldAt 181 v12 0) fun v13 =>
      pq P S_ (Instr.loadAt 24 v13) fun v14 =>
      pq P S_ (Instr.fieldAt 113 (ptr xb) 1) fun v15 =>
      pq P S_ (Instr.loadAt 9 v15) fun v16 =>
      pq P S_ (nilSem (ptr Pb)) fun v17 =>
      pq P S_ (Instr.fieldAt 181 v17 1) fun v18 =>
      pq P S_ (Instr.loadAt 177 v18) fun v19 =>
      pq P S_ (Instr.fieldAt 113 (ptr xb) 1) fun v20 =>
      pq P S_ (Instr.loadAt 9 v20) fun v21 =>
      pFn P 75 [v14,v16] w fun v_ w => S_ w ∧ (
      pFn P 110 [v19,v21] w fun u_ w => S_ w ∧ (
      pq P S_ (binSem BinOp.eql 3 o1 o2 v_ u_) fun d_ =>
      k d_ w))) w.drew := by
  replace hS := hS.q (Fr.drew _ _)
  refine ⟨Seen6 xb x dv pv Pb D E,seen6 hS,?_⟩
  refine q_of _ (fun w_ hS => s_nil ⟨rfl,rfl⟩) (q_of _ (fun w_ hS => fa181_0 ⟨rfl,rfl⟩) (q_of (ptr D) (fun w_ hS => s_ldb (isAgg24 _) hS.2 rfl ⟨rfl,rfl⟩) ?_))
  refine q_of _ (fun w_ hS => fa113_1 ⟨rfl,rfl⟩) (q_of (.string x.name) (fun w_ hS => s_ldb (isAgg9 _) hS.1 rfl ⟨rfl,rfl⟩) ?_)
  refine q_of _ (fun w_ hS => s_nil ⟨rfl,rfl⟩) (q_of _ (fun w_ hS => fa181_1 ⟨rfl,rfl⟩) (q_of (ptr E) (fun w_ hS => s_ldb (isAgg177 _) hS.2 rfl ⟨rfl,rfl⟩) ?_))
  refine q_of _ (fun w_ hS => fa113_1 ⟨rfl,rfl⟩) (q_of (.string x.name) (fun w_ hS => s_ldb (isAgg9 _) hS.1 rfl ⟨rfl,rfl⟩) ?_)
  refine sd_sync hS 2 rfl ok hn fun w1 hS => ?_
  replace hS : Sep (S6 W xb x dv pv Pb D E (S.sync x.name).2 S) w1 := hS
  refine ⟨seen6 hS,?_⟩
  refine sr_sync hS 3 rfl ok fun w2 hS => ?_
  replace hS : Sep (S6 W xb x dv pv Pb D E (S.sync x.name).2 (S.sync x.name).2) w2 := hS
  exact ⟨seen6 hS,q_of (.bool true) (fun w_ hS => s_eqi_t rfl ⟨rfl,rfl⟩) (hk w2 hS)⟩
theorem s6_syncNames {o1 o2:Operand} (hS:Sep (S6 W xb x dv pv Pb D E S S) w) (ok:S.Ok c) (hv:StepV W x dv pv) (hn:x.name.size ≤ 9223372036854775807) (ht:x.to_.size ≤ 9223372036854775807) (hd:x.data.length ≤ 549755813888) (hk:∀ w',Sep (S6 W xb x dv pv Pb D E (S.syncNames).2 (S.syncNames).2) w' → k (.bool true) w') :
    ∃ S_ : World → Prop,S_ w.drew ∧ (fun w =>
      pq P S_ (nilSem (ptr Pb)) fun v12 =>
      pq P S_ (Instr.fieldAt 181 v12 0) fun v13 =>
      pq P S_ (Instr.loadAt 24 v13) fun v14 =>
      pq P S_ (nilSem (ptr Pb)) fun v15 =>
      pq P S_ (Instr.fieldAt 181 v15 1) fun v16 =>
      pq P S_ (Instr.loadAt 177 v16) fun v17 =>
      pFn P 71 [v14] w fun v_ w => S_ w ∧ (
      pFn P 111 [v17] w fun u_ w => S_ w ∧ (
      pq P S_ (binSem BinOp.eql 3 o1 o2 v_ u_) fun d_ =>
      k d_ w))) w.drew := by
  replace hS := hS.q (Fr.drew _ _)
  refine ⟨Seen6 xb x dv pv Pb D E,seen6 hS,?_⟩
  refine q_of _ (fun w_ hS => s_nil ⟨rfl,rfl⟩) (q_of _ (fun w_ hS => fa181_0 ⟨rfl,rfl⟩) (q_of (ptr D) (fun w_ hS => s_ldb (isAgg24 _) hS.2 rfl ⟨rfl,rfl⟩) ?_))
  refine q_of _ (fun w_ hS => s_nil ⟨rfl,rfl⟩) (q_of _ (fun w_ hS => fa181_1 ⟨rfl,rfl⟩) (q_of (ptr E) (fun w_ hS => s_ldb (isAgg177 _) hS.2 rfl ⟨rfl,rfl⟩) ?_))
  refine sd_syncNames hS 2 rfl ok fun w1 hS => ?_
  replace hS : Sep (S6 W xb x dv pv Pb D E (S.syncNames).2 S) w1 := hS
  refine ⟨seen6 hS,?_⟩
  refine sr_syncNames hS 3 rfl ok fun w2 hS => ?_
  replace hS : Sep (S6 W xb x dv pv Pb D E (S.syncNames).2 (S.syncNames).2) w2 := hS
  exact ⟨seen6 hS,q_of (.bool true) (fun w_ hS => s_eqi_t rfl ⟨rfl,rfl⟩) (hk w2 hS)⟩
def manyB : ByteArray := ByteArray.mk #[109,97,110,121]
def manyName (i:Nat) : ByteArray := manyB ++ ByteArray.mk #[UInt8.ofNat (97 + i / 26),UInt8.ofNat (97 + i % 26)]
def manyA (S:AD) : Nat → AD
 | 0 => S
 | i + 1 => ((manyA S i).create (manyName i)).2
theorem ok_many (ok:S.Ok c) : ∀ i : Nat,c + i < 1099511627776 → (manyA S i).Ok (c + i)
 | 0,_ => ok
 | i + 1,h => (ok_many ok i (by omega)).create (by omega) _
theorem s6_conv8 {x:Int} {k:KV} (hk:k (.int .u8 (IntKind.u8.wrap x)) w) : px P (convert 3 5 (i64 x)) w k := px_ok (w' := w) (v := .int .u8 (IntKind.u8.wrap x)) (by kernel_rfl) hk
theorem many_name {i:Nat} (hi:i < 300) {kk:Value → Value → Value → Value → Value → Value → Value → Value → KV} (hk:∀ a b c d e f g h w',Fr no w w' → kk a b c d e f g h (.string (manyName i)) w') {o1 o2 o3 o4 o5 o6 o7 o8:Operand} :
    px P (binSem BinOp.quo 3 o1 o2 (i64 i) (i64 26)) w fun v178 w =>
    px P (binSem BinOp.add 3 o3 o4 (i64 97) v178) w fun v179 w =>
    px P (convert 3 5 v179) w fun v180 w =>
    px P (binSem BinOp.rem 3 o5 o2 (i64 i) (i64 26)) w fun v182 w =>
    px P (binSem BinOp.add 3 o3 o6 (i64 97) v182) w fun v183 w =>
    px P (convert 3 5 v183) w fun v184 w =>
    px P (Instr.buildSlice 23 2 #[(0,v180),(1,v184)]) w fun v185 w =>
    px P (convert 23 9 v185) w fun v186 w =>
    px P (binSem BinOp.add 9 o7 o8 (.string (ByteArray.mk #[109,97,110,121])) v186) w fun v187 w => kk v178 v179 v180 v182 v183 v184 v185 v186 v187 w := by
  have e1 : IntKind.u8.wrap (97 + ((i / 26 : Nat) : Int)) = ((UInt8.ofNat (97 + i / 26)).toNat : Int) := by
    rw [IntKind.wrap_u8,UInt8.toNat_ofNat']; omega
  have e2 : IntKind.u8.wrap (97 + ((i % 26 : Nat) : Int)) = ((UInt8.ofNat (97 + i % 26)).toNat : Int) := by
    rw [IntKind.wrap_u8,UInt8.toNat_ofNat']; omega
  refine s_quo (by decide) ?_
  rw [show (i:Int).tdiv 26 = ((i / 26 : Nat) : Int) from rfl,wrap_in (by omega)]
  refine s_add_in (by omega) (s6_conv8 ?_)
  rw [e1]
  refine s_rem (by decide) ?_
  rw [show (i:Int).tmod 26 = ((i % 26 : Nat) : Int) from rfl]
  refine s_add_in (by omega) (s6_conv8 ?_)
  rw [e2]
  unfold manyName at hk
  generalize UInt8.ofNat (97 + i / 26) = a at *
  generalize UInt8.ofNat (97 + i % 26) = b at *
  refine px_ok (w' := w.alloc (.cells (u8s [a,b]).toArray 5)) (v := .slice (some ⟨w.heap.size,0,none⟩) 2 2) (by unfold u8s; kernel_rfl) ?_
  refine s_conv_str (bs := [a,b]) (SBytes.blk (alloc_new _ _) (Nat.le_refl _)) (by simp) ?_
  refine s_addS (by simp [ByteArray.size]) ?_
  exact hk _ _ _ _ _ _ _ _ _ (Fr.alloc ..)
def belowA (S:AD) (x:StepA) : AD :=
 if x.kind = 5 then (S.create x.name).2 else if x.kind = 6 then (S.append x.name x.data).2 else if x.kind = 7 then (S.truncate x.name x.n).2 else if x.kind = 8 then (S.rename x.name x.to_).2
 else if x.kind = 9 then (S.remove x.name).2 else if x.kind = 10 then (S.sync x.name).2 else if x.kind = 11 then S.syncNames.2 else if x.kind = 12 then S.plans x.plan else if x.kind = 13 then S.crash x.picks
 else if x.kind = 14 then manyA S (x.n.emod 300).toNat else S
set_option maxHeartbeats 4000000 in
theorem c_below6 (hS:Sep (L6 W Pb D E S S) w) (ok:S.Ok c) (hc:c ≤ 100000) (hv:StepV W x dv pv) (hd:x.data.length ≤ 549755813888) (hpk:x.picks.length ≤ 4611686018427387904) (hk:∀ w',Sep (L6 W Pb D E (belowA S x) (belowA S x)) w' → k (.bool true) w') : pFn P 64 [ptr Pb,step6Val x dv pv] w k := by
 have hn : x.name.size ≤ 9223372036854775807 := by have := hv.name; unfold maxLen at this; omega
 have ht : x.to_.size ≤ 9223372036854775807 := by have := hv.to_; unfold maxLen at this; omega
 refine F64_in _ _ _ _ ?_
 unfold F64_0
 refine s_box ?_
 replace hS : Sep (S6 W w.heap.size x dv pv Pb D E S S) (w.alloc (.cells (step6Cells x dv pv).toArray 113)) := hS.cell _ _
 rw [show (step6Val x dv pv).cells = (step6Cells x dv pv).toArray from rfl]
 generalize w.alloc (.cells (step6Cells x dv pv).toArray 113) = w1 at *
 show px P (Instr.fieldAt 113 (ptr w.heap.size) 0) w1 _
 generalize w.heap.size = xb at *
 refine fa113_0 (s_ldb (v := i64 x.kind) (isAgg3 _) (hS.cells 0 rfl) rfl ?_)
 unfold belowA at hk
 by_cases k5 : x.kind = 5
 ·rw [if_pos k5] at hk
  refine s_eqi_t k5 (pC_true ?_)
  exact s6_create hS ok hv hn ht hd fun w' h => hk w' h.drop
 rw [if_neg k5] at hk
 refine s_eqi_f k5 (pC_false ?_)
 by_cases k6 : x.kind = 6
 ·rw [if_pos k6] at hk
  refine s_eqi_t k6 (pC_true ?_)
  exact s6_append hS ok hv hn ht hd fun w' h => hk w' h.drop
 rw [if_neg k6] at hk
 refine s_eqi_f k6 (pC_false ?_)
 by_cases k7 : x.kind = 7
 ·rw [if_pos k7] at hk
  refine s_eqi_t k7 (pC_true ?_)
  exact s6_truncate hS ok hv hn ht hd fun w' h => hk w' h.drop
 rw [if_neg k7] at hk
 refine s_eqi_f k7 (pC_false ?_)
 by_cases k8 : x.kind = 8
 ·rw [if_pos k8] at hk
  refine s_eqi_t k8 (pC_true ?_)
  exact s6_rename hS ok hv hn ht hd fun w' h => hk w' h.drop
 rw [if_neg k8] at hk
 refine s_eqi_f k8 (pC_false ?_)
 by_cases k9 : x.kind = 9
 ·rw [if_pos k9] at hk
  refine s_eqi_t k9 (pC_true ?_)
  exact s6_remove hS ok hv hn ht hd fun w' h => hk w' h.drop
 rw [if_neg k9] at hk
 refine s_eqi_f k9 (pC_false ?_)
 by_cases k10 : x.kind = 10
 ·rw [if_pos k10] at hk
  refine s_eqi_t k10 (pC_true ?_)
  exact s6_sync hS ok hv hn ht hd fun w' h => hk w' h.drop
 rw [if_neg k10] at hk
 refine s_eqi_f k10 (pC_false ?_)
 by_cases k11 : x.kind = 11
 ·rw [if_pos k11] at hk
  refine s_eqi_t k11 (pC_true ?_)
  exact s6_syncNames hS ok hv hn ht hd fun w' h => hk w' h.drop
 rw [if_neg k11] at hk
 refine s_eqi_f k11 (pC_false ?_)
 by_cases k12 : x.kind = 12
 ·rw [if_pos k12] at hk
  refine s_eqi_t k12 (pC_true ?_)
  replace hS := hS.q (Fr.drew _ _)
  refine ⟨Seen6 xb x dv pv Pb D E,seen6 hS,?_⟩
  refine q_of _ (fun w_ hS => s_nil ⟨rfl,rfl⟩) (q_of _ (fun w_ hS => fa181_0 ⟨rfl,rfl⟩) (q_of (ptr D) (fun w_ hS => s_ldb (isAgg24 _) hS.2 rfl ⟨rfl,rfl⟩) ?_))
  refine q_of _ (fun w_ hS => fa113_5 ⟨rfl,rfl⟩) (q_of (planVal x.plan) (fun w_ hS => s_ldAgg (m := 3) (isAgg85 _) (sizeOf85 _) hS.1 (by show 0 + 5 + 3 ≤ 9; decide) ⟨rfl,rfl⟩) ?_)
  refine sd_plan hS 2 rfl ok x.plan fun w2 hS => ?_
  replace hS : Sep (S6 W xb x dv pv Pb D E (S.plans x.plan) S) w2 := hS
  replace hS := hS.q (Fr.drew _ _)
  refine ⟨Seen6 xb x dv pv Pb D E,seen6 hS,?_⟩
  refine q_of _ (fun w_ hS => s_nil ⟨rfl,rfl⟩) (q_of _ (fun w_ hS => fa181_1 ⟨rfl,rfl⟩) (q_of (ptr E) (fun w_ hS => s_ldb (isAgg177 _) hS.2 rfl ⟨rfl,rfl⟩) ?_))
  refine q_of _ (fun w_ hS => fa113_5 ⟨rfl,rfl⟩) (q_of (planVal x.plan) (fun w_ hS => s_ldAgg (m := 3) (isAgg85 _) (sizeOf85 _) hS.1 (by show 0 + 5 + 3 ≤ 9; decide) ⟨rfl,rfl⟩) ?_)
  refine sr_plan hS 3 rfl x.plan fun w3 hS => ?_
  replace hS : Sep (S6 W xb x dv pv Pb D E (S.plans x.plan) (S.plans x.plan)) w3 := hS
  rw [F64_1_eq]
  unfold F64_1
  exact hk w3 hS.drop
 rw [if_neg k12] at hk
 refine s_eqi_f k12 (pC_false ?_)
 by_cases k13 : x.kind = 13
 ·rw [if_pos k13] at hk
  refine s_eqi_t k13 (pC_true ?_)
  replace hS := hS.q (Fr.drew _ _)
  refine ⟨Seen6 xb x dv pv Pb D E,seen6 hS,?_⟩
  refine q_of _ (fun w_ hS => s_nil ⟨rfl,rfl⟩) (q_of _ (fun w_ hS => fa181_0 ⟨rfl,rfl⟩) (q_of (ptr D) (fun w_ hS => s_ldb (isAgg24 _) hS.2 rfl ⟨rfl,rfl⟩) ?_))
  refine q_of _ (fun w_ hS => fa113_6 ⟨rfl,rfl⟩) (q_of (pv) (fun w_ hS => s_ldb (isAgg58 _) hS.1 rfl ⟨rfl,rfl⟩) ?_)
  refine sd_crash hS 2 rfl ok hpk (hv.fr (hS.base_at 4 rfl)).picks fun w2 hS => ?_
  replace hS : Sep (S6 W xb x dv pv Pb D E (S.crash x.picks) S) w2 := hS
  replace hS := hS.q (Fr.drew _ _)
  refine ⟨Seen6 xb x dv pv Pb D E,seen6 hS,?_⟩
  refine q_of _ (fun w_ hS => s_nil ⟨rfl,rfl⟩) (q_of _ (fun w_ hS => fa181_1 ⟨rfl,rfl⟩) (q_of (ptr E) (fun w_ hS => s_ldb (isAgg177 _) hS.2 rfl ⟨rfl,rfl⟩) ?_))
  refine q_of _ (fun w_ hS => fa113_6 ⟨rfl,rfl⟩) (q_of (pv) (fun w_ hS => s_ldb (isAgg58 _) hS.1 rfl ⟨rfl,rfl⟩) ?_)
  refine sr_crash hS 3 rfl ok (hv.fr (hS.base_at 4 rfl)).picks fun w3 hS => ?_
  replace hS : Sep (S6 W xb x dv pv Pb D E (S.crash x.picks) (S.crash x.picks)) w3 := hS
  rw [F64_1_eq]
  unfold F64_1
  exact hk w3 hS.drop
 rw [if_neg k13] at hk
 refine s_eqi_f k13 (pC_false ?_)
 by_cases k14 : x.kind = 14
 ·rw [if_pos k14] at hk
  refine s_eqi_t k14 (pC_true ?_)
  refine F64L1_inv (m := (x.n.emod 300).toNat) k (fun m ρ w' => ∃ i : Nat,i + m = (x.n.emod 300).toNat ∧ Sep (S6 W xb x dv pv Pb D E (manyA S i) (manyA S i)) w' ∧ ρ 0 = ptr Pb ∧ ρ 3 = ptr xb ∧ ρ 5 = i64 i) ?_ ⟨0,by omega,hS,rfl,rfl,rfl⟩
  clear hS
  have ok0 := ok
  clear ok
  have hb3 : (x.n.emod 300).toNat < 300 ∧ ((x.n.emod 300).toNat : Int) = x.n.emod 300 := by
   have h1 := Int.emod_nonneg x.n (show (300 : Int) ≠ 0 by decide)
   have h2 := Int.emod_lt_of_pos x.n (show (0 : Int) < 300 by decide)
   have h3 : x.n.emod 300 = x.n % 300 := rfl
   omega
  rintro m ρ w' ⟨i,him,hS,e0,e3,e5⟩
  have ok := ok_many ok0 i (by omega)
  rw [F64_2_eq]
  unfold F64_2
  rw [e0,e3,e5]
  refine fa113_4 (s_ldb (v := i64 x.n) (isAgg3 _) (hS.cells 0 rfl) rfl ?_)
  refine c_round6 rfl (by decide) (by decide) ?_
  by_cases hi : i < (x.n.emod 300).toNat
  ·refine s_lt_t (by omega) (pC_true ?_)
   refine many_name (i := i) (by omega) fun _ _ _ _ _ _ _ _ w2 f2 => ?_
   replace hS := hS.q f2
   replace hS := hS.q (Fr.drew _ _)
   have hms : (manyName i).size ≤ 9223372036854775807 := by unfold manyName manyB; rw [ByteArray.size_append]; simp [ByteArray.size]
   refine ⟨Seen6 xb x dv pv Pb D E,seen6 hS,?_⟩
   refine q_of _ (fun w_ hS => s_nil ⟨rfl,rfl⟩) (q_of _ (fun w_ hS => fa181_0 ⟨rfl,rfl⟩) (q_of (ptr D) (fun w_ hS => s_ldb (isAgg24 _) hS.2 rfl ⟨rfl,rfl⟩) ?_))
   refine q_of _ (fun w_ hS => s_nil ⟨rfl,rfl⟩) (q_of _ (fun w_ hS => fa181_1 ⟨rfl,rfl⟩) (q_of (ptr E) (fun w_ hS => s_ldb (isAgg177 _) hS.2 rfl ⟨rfl,rfl⟩) ?_))
   refine sd_create hS 2 rfl ok hms fun w3 hS => ?_
   replace hS : Sep (S6 W xb x dv pv Pb D E (manyA S (i + 1)) (manyA S i)) w3 := hS
   refine ⟨seen6 hS,?_⟩
   refine sr_create hS 3 rfl ok fun w4 hS => ?_
   replace hS : Sep (S6 W xb x dv pv Pb D E (manyA S (i + 1)) (manyA S (i + 1))) w4 := hS
   refine ⟨seen6 hS,q_of (.bool false) (fun w_ hS => s_nei_f rfl ⟨rfl,rfl⟩) (pC_false (s_add_in (by omega) ?_))⟩
   refine ⟨m - 1,by omega,i + 1,by omega,hS,e0,e3,?_⟩
   show i64 _ = i64 _; simp
  ·refine s_lt_f (by omega) (pC_false ?_)
   rw [F64_1_eq]
   unfold F64_1
   have hie : i = (x.n.emod 300).toNat := by omega
   subst hie
   exact hk w' hS.drop
 rw [if_neg k14] at hk
 refine s_eqi_f k14 (pC_false ?_)
 rw [F64_1_eq]
 unfold F64_1
 exact hk w1 hS.drop
end
end Go.Proofs.YteeeggphkhimcaaGreatDoor
