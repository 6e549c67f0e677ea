/- DiskTorn, walked: the rest. -/
import Derived.Test.YtcdcojpfealppaaTornW
set_option linter.unusedVariables false
set_option linter.unusedSimpArgs false
set_option maxRecDepth 100000
namespace Go.Proofs.Ytcdcojpfealppaa
open Go Go.Proofs Go.RowKit Go.Proofs.XRed Go.Proofs.XHeap Go.Proofs.XMaps Go.Proofs.XSlices Go.Proofs.XDisk Go.Proofs.XCalls Go.Proofs.XRange Go.Proofs.XKeys
section
variable {W w : World} {D : Nat} {S S' : AD} {O I : Nat → Prop} {L : Lay} {k : Value → World → Prop} {K : Nat → Prop}
theorem gN_small : gN.size ≤ 9223372036854775807 := by decide
theorem hN_small : hN.size ≤ 9223372036854775807 := by decide
/-- Names changed behind the writes. -/
theorem c_away {how : Int} {b0 b : Bytes} {done : List WrA} {c : Nat} (h : Is1 W w D S K) (ok : S.Ok c) (hc : c ≤ 1000) (hT : Torn S b0 done b) (cS : XDisk.Calm S) (hl : b.length ≤ 1000000)
    (hk : ∀ w' T, Is1 W w' D T K → Fr (fun j => ¬ K j) w w' → Kept T b0 done → T.Ok (c + 10) → k (.bool true) w') : pFn P 24 [ptr D, i64 how] w k := by
  refine F24_in _ _ _ _ ?_
  unfold F24_0
  by_cases h1 : how = 1
  · subst h1
    refine s_eqi_t rfl (pC_true ?_)
    obtain ⟨r1, kp⟩ := away1 hT cS
    have ok1 := ok.remove (by omega) fN
    obtain ⟨O, I, L, T⟩ := h
    refine c_remove T.rep ok fN fN_small fun w2 O' I' L' hx => ?_
    obtain ⟨i2, f2⟩ := T.is1 hx
    rw [r1]
    exact s_eqi_t rfl (hk w2 _ i2 f2 kp (ok1.mono (by omega) (by omega)))
  refine s_eqi_f h1 (pC_false ?_)
  by_cases h2 : how = 2
  · subst h2
    refine s_eqi_t rfl (pC_true ?_)
    obtain ⟨r1, r2, r3, r4, kp⟩ := away2 hT cS hl
    have ok1 := ok.create (by omega) gN
    have ok2 := ok1.append (by omega) gN [110, 101, 119]
    have ok3 := ok2.sync (by omega) gN
    have ok4 := ok3.rename (by omega) gN fN
    obtain ⟨O, I, L, T⟩ := h
    refine c_create T.rep ok gN gN_small fun w2 O' I' L' hx => ?_
    obtain ⟨⟨O, I, L, T2⟩, f2⟩ := T.is1 hx
    rw [r1]
    clear T hx
    refine s_eqi_t rfl ?_
    repeat (first | refine pG_sk ?_ | refine pG_skf ?_ | refine pG_un ?_ | refine pG_yes rfl ?_)
    refine px_ok (w' := w2.alloc (.cells (u8s [110, 101, 119]).toArray 5)) (v := .slice (some ⟨w2.heap.size, 0, none⟩) 3 3) (by kernel_rfl) ?_
    repeat (first | refine pG_sk ?_ | refine pG_skf ?_ | refine pG_un ?_ | refine pG_yes rfl ?_)
    refine px_ok (Lib.run_convert_bytes_const w2 30 5 (u8s [110, 101, 119]).toArray _ _ (by kernel_rfl) (by kernel_rfl)) ?_
    have f3 : Fr no w2 (w2.alloc (.cells (u8s [110, 101, 119]).toArray 5 ((u8s [110, 101, 119]).toArray.size, (u8s [110, 101, 119]).toArray.size + 1))) := Fr.alloc ..
    have hd3 : SBytes (w2.alloc (.cells (u8s [110, 101, 119]).toArray 5 ((u8s [110, 101, 119]).toArray.size, (u8s [110, 101, 119]).toArray.size + 1))) (.slice (some ⟨w2.heap.size, 0, none⟩) 3 3) [110, 101, 119] := SBytes.blk (alloc_new _ _) (Nat.le_refl _)
    generalize w2.alloc (.cells (u8s [110, 101, 119]).toArray 5 ((u8s [110, 101, 119]).toArray.size, (u8s [110, 101, 119]).toArray.size + 1)) = w3 at *
    repeat (first | refine pG_sk ?_ | refine pG_skf ?_ | refine pG_un ?_ | refine pG_yes rfl ?_)
    have T3 := T2.by' (K' := K) f3 (fun b hb => hb.elim) (fun b hb => hb.elim) (fun b => .inl) fun j hj => Nat.lt_of_lt_of_le (T2.klt j hj) f3.size
    refine c_append T3.rep ok1 gN gN_small hd3 (fun j hj ho => ?_) (by decide) fun w4 O' I' L' hx => ?_
    · have := T2.rep.lt j (.inl ho)
      injection hj with hj
      have hj' : w2.heap.size = j := hj
      omega
    obtain ⟨⟨O, I, L, T4⟩, f4⟩ := T3.is1 hx
    rw [r2]
    clear T3 T2 hx hd3
    repeat (first | refine pG_sk ?_ | refine pG_skf ?_ | refine pG_un ?_ | refine pG_yes rfl ?_)
    refine s_eqi_t rfl (s_pick_t ?_)
    repeat (first | refine pG_sk ?_ | refine pG_skf ?_ | refine pG_un ?_ | refine pG_yes rfl ?_)
    refine c_sync T4.rep ok2 gN gN_small fun w5 O' I' L' hx => ?_
    obtain ⟨⟨O, I, L, T5⟩, f5⟩ := T4.is1 hx
    rw [r3]
    clear T4 hx
    repeat (first | refine pG_sk ?_ | refine pG_skf ?_ | refine pG_un ?_ | refine pG_yes rfl ?_)
    refine s_eqi_t rfl (s_pick_t ?_)
    repeat (first | refine pG_sk ?_ | refine pG_skf ?_ | refine pG_un ?_ | refine pG_yes rfl ?_)
    refine c_renameF T5.rep ok3 gN fN gN_small fN_small fun w6 O' I' L' hx => ?_
    obtain ⟨i6, f6⟩ := T5.is1 hx
    rw [r4]
    repeat (first | refine pG_sk ?_ | refine pG_skf ?_ | refine pG_un ?_ | refine pG_yes rfl ?_)
    refine s_eqi_t rfl (s_pick_t (hk w6 _ i6 ?_ kp (ok4.mono (by omega) (by omega))))
    exact ((((f2.or f3).or f4).or f5).or f6).mono (by
      rintro b ((((hb | hb) | hb) | hb) | hb)
      · exact .inl hb
      · exact hb.elim
      · exact .inl hb
      · exact .inl hb
      · exact .inl hb)
  refine s_eqi_f h2 (pC_false ?_)
  by_cases h3 : how = 3
  · subst h3
    refine s_eqi_t rfl (pC_true ?_)
    obtain ⟨r1, r2, kp⟩ := away3 hT cS
    have ok1 := ok.rename (by omega) fN hN
    have ok2 := ok1.create (by omega) fN
    obtain ⟨O, I, L, T⟩ := h
    refine c_renameF T.rep ok fN hN fN_small hN_small fun w2 O' I' L' hx => ?_
    obtain ⟨⟨O, I, L, T2⟩, f2⟩ := T.is1 hx
    rw [r1]
    clear T hx
    refine s_eqi_t rfl ?_
    repeat (first | refine pG_sk ?_ | refine pG_skf ?_ | refine pG_un ?_ | refine pG_yes rfl ?_)
    refine c_create T2.rep ok1 fN fN_small fun w3 O' I' L' hx => ?_
    obtain ⟨i3, f3⟩ := T2.is1 hx
    rw [r2]
    repeat (first | refine pG_sk ?_ | refine pG_skf ?_ | refine pG_un ?_ | refine pG_yes rfl ?_)
    refine s_eqi_t rfl (s_pick_t (hk w3 _ i3 ?_ kp (ok2.mono (by omega) (by omega))))
    exact (f2.or f3).mono (by rintro b (hb | hb) <;> exact .inl hb)
  refine s_eqi_f h3 (pC_false ?_)
  exact hk w S h ((Fr.refl no w).mono fun b hb => hb.elim) hT.kept (ok.mono (by omega) (by omega))
/-- The crash, and what it leaves. -/
theorem w_torn11 {bv v wv : Value} {pick off how : Int} {b0 b : Bytes} {done : List WrA} {c : Nat} {K : Nat → Prop} (hk : ∀ w', Fr no W w' → k (.bool true) w')
    {ρ : Env} {w : World} (ha : Args bv v pick off how ρ) (e13 : ρ 13 = ptr D) (e23 : ρ 23 = wv) (h : Is1 W w D S K) (ok : S.Ok c) (hc : c ≤ 500) (hT : Torn S b0 done b) (hl : b.length ≤ 1000000)
    (hw : SBytes w wv (XDisk.leftOf b0 (chgs done) (roundA pick (unitsOf (chgs done))))) (hwK : ∀ j, sblk wv = some j → K j) (hll : (XDisk.leftOf b0 (chgs done) (roundA pick (unitsOf (chgs done)))).length ≤ 4611686018427387904) : F4_11 k ρ w := by
  unfold F4_11
  rw [e13, ha.2.2.1, ha.2.2.2.2, e23]
  refine px_ok (w' := w) (v := planVal .zero) (by kernel_rfl) ?_
  obtain ⟨O, I, L, T⟩ := h
  refine c_plan T.rep ok.room.1 .zero fun w2 O' I' L' hx => ?_
  obtain ⟨⟨O, I, L, T2⟩, f2⟩ := T.is1 hx
  have ok2 := ok.plans .zero
  have hT2 : Torn (S.plans .zero) b0 done b := hT.plans 0
  have hoff := plans_off (S := S) .zero
  have hcalm : S.off = false → XDisk.Calm (S.plans .zero) := plans_calm
  have hw2 := hw.fr f2 fun j hj hn => hn (hwK j hj)
  clear T hx
  generalize S.plans .zero = T at *
  -- the crash
  have crash : ∀ {w4 : World} {T4 : AD}, Is1 W w4 D T4 K → Kept T4 b0 done → T4.Ok (c + 10) → SBytes w4 wv (XDisk.leftOf b0 (chgs done) (roundA pick (unitsOf (chgs done)))) →
      px P (Instr.buildSlice 57 2 #[(0, i64 0), (1, i64 pick)]) w4 (fun v254 w => pFn P 15 [ptr D, v254] w fun v255 w => pFn P 17 [ptr D] w fun v257 w => px P (bSem .len #[37] 3 #[v257]) w fun v259 w => px P (binSem .eql 3 (.tmp 259) (.const (i64 1)) v259 (i64 1)) w fun v260 w =>
        pG v260 true (fun k => k v257 w) (w := w) (next := fun v262 w =>
        pG v260 true (fun k => px P (Instr.indexAt 37 v262 (i64 0)) w k) (w := w) (next := fun v263 w =>
        pG v260 true (fun k => px P (Instr.fieldAt 52 v263 0) w k) (w := w) (next := fun v264 w =>
        pG v260 true (fun k => px P (Instr.loadAt 9 v264) w k) (w := w) (next := fun v265 w =>
        pG v260 true (fun k => px P (binSem .eql 9 (.tmp 265) (.const (.string (ByteArray.mk #[102]))) v265 (.string (ByteArray.mk #[102]))) w k) (w := w) (next := fun v266 w =>
        px P (pickSem v260 v266 (.bool false)) w fun v267 w =>
        pG v267 true (fun k => k v257 w) (w := w) (next := fun v269 w =>
        pG v267 true (fun k => px P (Instr.indexAt 37 v269 (i64 0)) w k) (w := w) (next := fun v270 w =>
        pG v267 true (fun k => px P (Instr.fieldAt 52 v270 1) w k) (w := w) (next := fun v271 w =>
        pG v267 true (fun k => px P (Instr.loadAt 30 v271) w k) (w := w) (next := fun v272 w =>
        pG v267 true (fun k => k wv w) (w := w) (next := fun v273 w =>
        pG v267 true (fun k => pFn P 25 [v272, v273] w k) (w := w) (next := fun v274 w =>
        px P (pickSem v267 v274 (.bool false)) w fun v275 w =>
        pG v275 true (fun k => pFn P 18 [] w k) (w := w) (next := fun v277 w =>
        px P (pickSem v275 v277 (.bool false)) w fun v278 w =>
        k v278 w))))))))))))) := by
    intro w4 T4 hI hkp ok4 hw4
    refine px_ok (w' := w4.alloc (.cells #[i64 0, i64 pick] 3)) (v := .slice (some ⟨w4.heap.size, 0, none⟩) 2 2) (by kernel_rfl) ?_
    have f5 := Fr.alloc no w4 (.cells #[i64 0, i64 pick] 3)
    have hl5 := own_lit w4 0 3 1 #[i64 0, i64 pick] 2 (Nat.zero_le _) (by unfold maxLen; omega) rfl
    show pFn P _ _ (w4.alloc (.cells #[i64 0, i64 pick] 3)) _
    generalize w4.alloc (.cells #[i64 0, i64 pick] 3) = w5 at *
    obtain ⟨O, I, L, T5⟩ := hI.quiet f5
    have hw5 := hw4.fr f5 fun _ _ h => h
    have ef := hkp.crash pick
    have ok6 := ok4.crash [0, pick]
    refine c_crashP (picks := [0, pick]) sortsKeys T5.rep ok4 (by simp) (Src.of_own hl5) (crashMax ok4 _) fun w6 O' I' L' hx => ?_
    obtain ⟨⟨O, I, L, T6⟩, f6⟩ := T5.is1 hx
    have hw6 := hw5.fr f6 fun j hj hn => hn (hwK j hj)
    clear T5 hx
    generalize T4.crash [0, pick] = C at *
    refine c_files sortsKeys T6.rep ok6 (shownMax ok6) fun w7 fv h7 f7 => ?_
    rw [ef] at h7
    have hw7 := hw6.fr f7 fun _ _ h => h
    obtain ⟨b, o, cc', dd, ev, g0, g1, gd⟩ := files_at h7 (i := 0) (by simp)
    have e1 : ([(fN, XDisk.leftOf b0 (chgs done) (roundA pick (unitsOf (chgs done))))] : List (ByteArray × Bytes)).length = 1 := rfl
    rw [e1] at ev
    rw [ev]
    refine s_len usl37 (s_eqi_t rfl ?_)
    repeat (first | refine pG_sk ?_ | refine pG_skf ?_ | refine pG_un ?_ | refine pG_yes rfl ?_)
    refine s_ix (i := (0 : Int)) usl37 (sze37 _) (by omega) (by omega) ?_
    repeat (first | refine pG_sk ?_ | refine pG_skf ?_ | refine pG_un ?_ | refine pG_yes rfl ?_)
    refine fa52_0 ?_
    repeat (first | refine pG_sk ?_ | refine pG_skf ?_ | refine pG_un ?_ | refine pG_yes rfl ?_)
    refine s_ld (v := .string fN) (Try.isAgg9 _) (by simpa using g0) ?_
    repeat (first | refine pG_sk ?_ | refine pG_skf ?_ | refine pG_un ?_ | refine pG_yes rfl ?_)
    refine s_eqs ?_
    rw [show decide (fN = ByteArray.mk #[102]) = true from by decide]
    refine s_pick_t ?_
    repeat (first | refine pG_sk ?_ | refine pG_skf ?_ | refine pG_un ?_ | refine pG_yes rfl ?_)
    refine s_ix (i := (0 : Int)) usl37 (sze37 _) (by omega) (by omega) ?_
    repeat (first | refine pG_sk ?_ | refine pG_skf ?_ | refine pG_un ?_ | refine pG_yes rfl ?_)
    refine fa52_1 ?_
    repeat (first | refine pG_sk ?_ | refine pG_skf ?_ | refine pG_un ?_ | refine pG_yes rfl ?_)
    refine s_ld (v := dd) (Try.isAgg30 _) (by simpa using g1) ?_
    repeat (first | refine pG_sk ?_ | refine pG_skf ?_ | refine pG_un ?_ | refine pG_yes rfl ?_)
    refine c_bytes gd hw7 hll fun w8 f8 => ?_
    simp only [List.getElem_cons_zero]
    rw [decide_eq_true trivial]
    refine s_pick_t ?_
    repeat (first | refine pG_sk ?_ | refine pG_skf ?_ | refine pG_un ?_ | refine pG_yes rfl ?_)
    refine c_known sortsKeys fun w9 f9 => s_pick_t (hk w9 ?_)
    exact fr_up (fr_up (fr_up T6.fr f7 fun b hb => hb.elim) f8 fun b hb => hb.elim) f9 fun b hb => hb.elim
  refine c_off T2.rep.disk ok2.room.1 ?_
  rw [hoff]
  cases ho : S.off with
  | true =>
    refine s_not ?_
    repeat (first | refine pG_sk ?_ | refine pG_skf ?_ | refine pG_un ?_ | refine pG_yes rfl ?_)
    refine s_pick_f (pC_false ?_)
    exact crash ⟨_, _, _, T2⟩ hT2.kept (ok2.mono (by omega) (by have := ok2.small; omega)) hw2
  | false =>
    refine s_not ?_
    repeat (first | refine pG_sk ?_ | refine pG_skf ?_ | refine pG_un ?_ | refine pG_yes rfl ?_)
    refine c_away ⟨_, _, _, T2⟩ ok2 (by omega) hT2 (hcalm ho) hl fun w4 T4 i4 f4 kp ok4 => ?_
    repeat (first | refine pG_sk ?_ | refine pG_skf ?_ | refine pG_un ?_ | refine pG_yes rfl ?_)
    refine s_not (s_pick_t (pC_false ?_))
    exact crash i4 kp ok4 (hw2.fr f4 fun j hj hn => hn (hwK j hj))
theorem left_cons (b : Bytes) (c : Chg) (r : List Chg) (u : Nat) : XDisk.leftOf b (c :: r) u = XDisk.leftOf (c.made b (min u c.units)) r (u - min u c.units) := rfl
theorem made_len {b : Bytes} {x : WrA} {u : Nat} (hb : b.length ≤ 1048576) (h1 : ∀ n, x.chg = .cut n → True) (h2 : ∀ a d, x.chg = .wr a d → a ≤ b.length ∧ a + d.length ≤ 1048576) : (x.chg.made b (min u x.units)).length ≤ 1048576 := by
  unfold WrA.chg WrA.units at *
  cases hc : x.cut with
  | true =>
    simp only [if_true, Chg.made]
    split
    · exact hb
    · have := List.length_take_le x.at_.toNat b
      rw [List.length_take]; omega
  | false =>
    simp only [Bool.false_eq_true, if_false]
    rw [hc] at h2
    obtain ⟨h3, h4⟩ := h2 _ _ rfl
    rw [ovr_made h3 (Nat.min_le_right _ _), ovr_len h3 (Nat.min_le_right _ _)]
    omega
theorem w_torn9 {bv v dv : Value} {pick off how : Int} {b0 b : Bytes} {done : Writes} (hk : ∀ w', Fr no W w' → k (.bool true) w') (hb0 : b0.length ≤ 1048576) (hdl : done.length ≤ 200) (hun : unitsOf (chgs (done.map (·.1))) ≤ 200000) (hbl : b.length ≤ 100000)
    {ρ : Env} {w : World} {wv : Value} (ha : Args bv v pick off how ρ) (e13 : ρ 13 = ptr D) (e15 : ρ 15 = dv) (e22 : ρ 22 = i64 (roundA pick (unitsOf (chgs (done.map (·.1)))))) (e23 : ρ 23 = wv) (e24 : ρ 24 = i64 0)
    (h : Tearing W w D S b0 b done dv 400) (hI : Is1 W w D S (fun j => sblk dv = some j ∨ sblk wv = some j)) (hw : SBytes w wv b0) (hwb : ∀ j, sblk wv = some j → W.heap.size ≤ j ∧ j < w.heap.size) : F4L3 k ρ w := by
  have hrow := (h.ok.thing 0 (.inl ⟨fN, by rw [h.torn.shown]; simp⟩)).ok
  rw [h.torn.thing] at hrow
  have hround : roundA pick (unitsOf (chgs (done.map (·.1)))) ≤ unitsOf (chgs (done.map (·.1))) := by
    show (pick % ((unitsOf (chgs (done.map (·.1))) : Int) + 1)).toNat ≤ _
    have h1 := Int.emod_lt_of_pos pick (show (0 : Int) < (unitsOf (chgs (done.map (·.1))) : Int) + 1 by omega)
    have h2 := Int.emod_nonneg pick (show ((unitsOf (chgs (done.map (·.1))) : Int) + 1) ≠ 0 by omega)
    omega
  refine F4L3_inv (m := done.length) k (fun m ρ w => ∃ (i kk : Nat) (cur : Bytes) (wv : Value), i + m = done.length ∧ kk ≤ 200000 ∧ Args bv v pick off how ρ ∧ ρ 13 = ptr D ∧ ρ 15 = dv ∧ ρ 22 = i64 kk ∧ ρ 23 = wv ∧ ρ 24 = i64 i ∧
      Tearing W w D S b0 b done dv 400 ∧ SBytes w wv cur ∧ (∀ j, sblk wv = some j → W.heap.size ≤ j ∧ j < w.heap.size) ∧ Is1 W w D S (fun j => sblk dv = some j ∨ sblk wv = some j) ∧ cur.length ≤ 1048576 ∧
      XDisk.leftOf cur (chgs ((done.drop i).map (·.1))) kk = XDisk.leftOf b0 (chgs (done.map (·.1))) (roundA pick (unitsOf (chgs (done.map (·.1))))) ∧ (kk = 0 ∨ rowOk cur (chgs ((done.drop i).map (·.1))) b)) ?_
    ⟨0, _, b0, wv, by omega, Nat.le_trans hround hun, ha, e13, e15, e22, e23, e24, h, hw, hwb, ?_, hb0, rfl, .inr hrow⟩
  · rintro m ρ w ⟨i, kk, cur, wv, him, hkk, ha, e13, e15, e22, e23, e24, h, hw, hwb, hI, hcl, hleft, hrow⟩
    rw [F4_9_eq]
    unfold F4_9
    rw [e15, e22, e24]
    have hS := Src.of_own h.row
    refine s_lenS usl41 hS ?_
    -- the end
    have fin : ∀ (ρ' : Env), Args bv v pick off how ρ' → ρ' 13 = ptr D → ρ' 23 = wv → (i = done.length ∨ kk = 0) → F4A k [1, 1, 1, 1, 1, 1, 1, 1, 1, 1, 1, 1, 1, 1, 1] ρ' w := by
      intro ρ' ha e13 e23 hend
      rw [F4_11_eq]
      have ecur : cur = XDisk.leftOf b0 (chgs (done.map (·.1))) (roundA pick (unitsOf (chgs (done.map (·.1))))) := by
        rw [← hleft]
        rcases hend with e | e
        · subst e; rw [List.drop_length]; rfl
        · subst e; rw [leftOf_zero]
      rw [ecur] at hw hcl
      exact w_torn11 (K := fun j => sblk dv = some j ∨ sblk wv = some j) hk ha e13 e23 hI h.ok (by omega) h.torn (by omega) hw (fun j hj => .inr hj) (by omega)
    by_cases hi : i < done.length
    · refine s_lt_t (by omega) ?_
      repeat (first | refine pG_sk ?_ | refine pG_skf ?_ | refine pG_un ?_ | refine pG_yes rfl ?_)
      by_cases hk0 : kk = 0
      · refine s_gt_f (by omega) (s_pick_t (pC_false ?_))
        exact fin _ (by exact ha) (by exact e13) (by exact e23) (.inr hk0)
      refine s_gt_t (by omega) (s_pick_t (pC_true ?_))
      have hrow' := hrow.resolve_left hk0
      obtain ⟨bb, o, c, ev, h0, h1, h2⟩ := writes_at hS hi
      obtain ⟨hxv, hx0, hxd⟩ := h.all _ (List.getElem_mem hi)
      have hd : (done.drop i).map (·.1) = done[i].1 :: (done.drop (i + 1)).map (·.1) := by rw [List.drop_eq_getElem_cons hi]; rfl
      rw [hd] at hleft hrow'
      generalize hx : done[i].1 = x at *
      generalize hxe : done[i].2 = xv at *
      have hch : chgs (x :: (done.drop (i + 1)).map (·.1)) = x.chg :: chgs ((done.drop (i + 1)).map (·.1)) := rfl
      rw [hch] at hleft hrow'
      obtain ⟨g1, g2, g3, g4⟩ := hrow'
      rw [chg_units] at g4
      rw [left_cons, chg_units] at hleft
      obtain ⟨Ad, cd, ed, hcd⟩ := hxv.data.form
      have hbase := h.is1.base
      have hUx : x.units ≤ 100000 := by unfold WrA.units; split <;> omega
      have part12 : ∀ (ρ' : Env), Args bv v pick off how ρ' → ρ' 13 = ptr D → ρ' 15 = dv → ρ' 22 = i64 kk → ρ' 23 = wv → ρ' 24 = i64 i → ρ' 25 = i64 (min kk x.units : Nat) →
          F4A3 k (fun ρ' w' => ∃ m', m' < m ∧ ∃ (i kk : Nat) (cur : Bytes) (wv : Value), i + m' = done.length ∧ kk ≤ 200000 ∧ Args bv v pick off how ρ' ∧ ρ' 13 = ptr D ∧ ρ' 15 = dv ∧ ρ' 22 = i64 kk ∧ ρ' 23 = wv ∧ ρ' 24 = i64 i ∧
            Tearing W w' D S b0 b done dv 400 ∧ SBytes w' wv cur ∧ (∀ j, sblk wv = some j → W.heap.size ≤ j ∧ j < w'.heap.size) ∧ Is1 W w' D S (fun j => sblk dv = some j ∨ sblk wv = some j) ∧ cur.length ≤ 1048576 ∧
            XDisk.leftOf cur (chgs ((done.drop i).map (·.1))) kk = XDisk.leftOf b0 (chgs (done.map (·.1))) (roundA pick (unitsOf (chgs (done.map (·.1))))) ∧ (kk = 0 ∨ rowOk cur (chgs ((done.drop i).map (·.1))) b)) [1, 0, 0, 1, 1, 1] ρ' w := by
        intro ρ' ha e13 e15 e22 e23 e24 e25
        rw [F4_12_eq]
        unfold F4_12
        rw [e15, e22, e23, e24, e25]
        refine s_wr hS hi fun p => ?_
        rw [hx, hxe]
        refine c_written (u := min kk x.units) hw (hxv.fr hbase fun _ _ h => h) (Nat.min_le_right _ _) hx0 (fun hc => ?_) (by omega) (by omega) fun nv w2 f2 hn2 hnb => ?_
        · have := g3 x.at_.toNat x.data (by unfold WrA.chg; rw [hc]; rfl)
          omega
        refine s_sub_in (by omega) (s_add_in (by omega) ?_)
        have hnb2 : ∀ j, sblk nv = some j → W.heap.size ≤ j ∧ j < w2.heap.size := by
          intro j hj
          rcases hnb j hj with e | e
          · have := hwb j e; have := f2.size; omega
          · have := hbase.size; omega
        refine ⟨m - 1, by omega, i + 1, kk - min kk x.units, x.chg.made cur (min kk x.units), nv, by omega, by omega, by exact ha, by exact e13, by exact e15, ?_, rfl, ?_, ?_, hn2, hnb2, ?_, ?_, ?_, ?_⟩
        · show i64 _ = i64 _; congr 1; omega
        · show i64 _ = i64 _; simp
        · exact ⟨h.is1.quiet f2, own_fr h.row f2 fun _ _ h => h, h.torn, h.ok, h.all⟩
        · refine hI.own (f2.mono fun b hb => hb.elim) (fun j hj => hj.elim (fun hj => (own_blk_lt h.row hj).1) fun hj => (hwb j hj).1) ?_ ?_
          · rintro j (hj | hj)
            · exact .inl (.inl hj)
            · rcases hnb j hj with e | e
              · exact .inl (.inr e)
              · exact .inr e.1
          · rintro j (hj | hj)
            · have := (own_blk_lt h.row hj).2; have := f2.size; omega
            · exact (hnb2 j hj).2
        · exact made_len hcl (fun n hn => trivial) fun a d hd => g3 a d hd
        · rw [← hleft]
        · rcases Nat.le_total kk x.units with hle | hle
          · left; omega
          · right; rw [Nat.min_eq_right hle]; exact g4
      have tail : ∀ (ρ' : Env), Args bv v pick off how ρ' → ρ' 13 = ptr D → ρ' 15 = dv → ρ' 22 = i64 kk → ρ' 23 = wv → ρ' 24 = i64 i → ρ' 25 = i64 x.units →
          F4A3 k (fun ρ' w' => ∃ m', m' < m ∧ ∃ (i kk : Nat) (cur : Bytes) (wv : Value), i + m' = done.length ∧ kk ≤ 200000 ∧ Args bv v pick off how ρ' ∧ ρ' 13 = ptr D ∧ ρ' 15 = dv ∧ ρ' 22 = i64 kk ∧ ρ' 23 = wv ∧ ρ' 24 = i64 i ∧
            Tearing W w' D S b0 b done dv 400 ∧ SBytes w' wv cur ∧ (∀ j, sblk wv = some j → W.heap.size ≤ j ∧ j < w'.heap.size) ∧ Is1 W w' D S (fun j => sblk dv = some j ∨ sblk wv = some j) ∧ cur.length ≤ 1048576 ∧
            XDisk.leftOf cur (chgs ((done.drop i).map (·.1))) kk = XDisk.leftOf b0 (chgs (done.map (·.1))) (roundA pick (unitsOf (chgs (done.map (·.1))))) ∧ (kk = 0 ∨ rowOk cur (chgs ((done.drop i).map (·.1))) b)) [1, 0, 0, 1, 1] ρ' w := by
        intro ρ' ha e13 e15 e22 e23 e24 e25
        rw [F4_10_eq]
        unfold F4_10
        rw [e22, e25]
        by_cases hgt : (x.units : Int) > kk
        · refine s_gt_t hgt (pC_true ?_)
          exact part12 _ (by exact ha) (by exact e13) (by exact e15) (by exact e22) (by exact e23) (by exact e24) (by rw [Nat.min_eq_left (by omega)]; rfl)
        · refine s_gt_f hgt (pC_false ?_)
          exact part12 _ (by exact ha) (by exact e13) (by exact e15) (by exact e22) (by exact e23) (by exact e24) (by rw [Nat.min_eq_right (by omega)]; exact e25)
      have hlen : ∀ {w' : World} {K : Value → World → Prop}, K (i64 x.data.length) w' → px P (bSem .len #[30] 3 #[xv]) w' K := by
        intro w' K hK
        rw [ed]
        exact s_len usl30 hK
      have hix : ∀ {w' : World} {K : Value → World → Prop}, K (.pointer (some ⟨bb, o + i * 3, none⟩)) w' → px P (Instr.indexAt 41 dv (i64 i)) w' K := by
        intro w' K hK
        rw [ev]
        exact s_ix (i := (i : Int)) usl41 (sze41 _) (by omega) (by omega) hK
      refine hix (fa43_2 (s_ld (v := xv) (Try.isAgg30 _) h2 (hlen ?_)))
      refine hix (fa43_0 (s_ld (v := .bool x.cut) (Try.isAgg4 _) h0 ?_))
      cases hc : x.cut with
      | true =>
        refine pC_true (tail _ (by exact ha) (by exact e13) (by exact e15) (by exact e22) (by exact e23) (by exact e24) ?_)
        have eu : x.units = 1 := by unfold WrA.units; rw [hc]; rfl
        rw [eu]; rfl
      | false =>
        refine pC_false (tail _ (by exact ha) (by exact e13) (by exact e15) (by exact e22) (by exact e23) (by exact e24) ?_)
        have eu : x.units = x.data.length := by unfold WrA.units; rw [hc]; rfl
        rw [eu]; rfl
    · refine s_lt_f (by omega) ?_
      repeat (first | refine pG_sk ?_ | refine pG_skf ?_ | refine pG_un ?_ | refine pG_yes rfl ?_)
      refine s_pick_f (pC_false ?_)
      exact fin _ (by exact ha) (by exact e13) (by exact e23) (.inl (by omega))
  · exact hI
theorem w_torn5 {bv v dv : Value} {pick off how : Int} {b0 b : Bytes} {done : Writes} (hk : ∀ w', Fr no W w' → k (.bool true) w') (hbv : SBytes W bv b0) (hb0 : b0.length ≤ 1000000) (hdl : done.length ≤ 200) (hun : unitsOf (chgs (done.map (·.1))) ≤ 200000) (hbl : b.length ≤ 100000)
    {ρ : Env} {w : World} (ha : Args bv v pick off how ρ) (e13 : ρ 13 = ptr D) (e15 : ρ 15 = dv) (e16 : ρ 16 = i64 (unitsOf (chgs (done.map (·.1))))) (h : Tearing W w D S b0 b done dv 400) : F4_5 k ρ w := by
  have part8 : ∀ (ρ' : Env), Args bv v pick off how ρ' → ρ' 13 = ptr D → ρ' 15 = dv → ρ' 22 = i64 (roundA pick (unitsOf (chgs (done.map (·.1))))) → F4A k [1, 1, 1, 1, 1, 1, 1, 1, 1, 1, 1, 1, 1] ρ' w := by
    intro ρ' ha e13 e15 e22
    rw [F4_8_eq]
    unfold F4_8
    rw [ha.1]
    refine s_lit0 (Try.runUnderlying30 _) (Try.sizeOf5 _) ?_
    refine s_copyB (hbv.fr h.is1.base fun _ _ h => h) (by omega) fun wv w2 f2 h2 hb2 => ?_
    have hsz := h.is1.base.size
    have hI2 : Is1 W w2 D S (fun j => sblk dv = some j ∨ sblk wv = some j) := by
      refine h.is1.own (f2.mono fun b hb => hb.elim) (fun j hj => (own_blk_lt h.row hj).1) ?_ ?_
      · rintro j (hj | hj)
        · exact .inl hj
        · exact .inr (hb2 j hj).1
      · rintro j (hj | hj)
        · have := (own_blk_lt h.row hj).2; have := f2.size; omega
        · exact (hb2 j hj).2
    exact w_torn9 hk (by omega) hdl hun hbl (by exact ha) (by exact e13) (by exact e15) (by exact e22) rfl rfl ⟨h.is1.quiet f2, own_fr h.row f2 fun _ _ h => h, h.torn, h.ok, h.all⟩ hI2 h2 fun j hj => by have := hb2 j hj; omega
  unfold F4_5
  rw [e16, ha.2.2.1]
  generalize hU : unitsOf (chgs (done.map (·.1))) = U at *
  obtain ⟨er, er2, er3⟩ := tmod_up pick (U + 1) (by omega)
  have hemod : (roundA pick U : Int) = pick.emod (U + 1) := by
    unfold roundA
    have h2 := Int.emod_nonneg pick (show ((U : Int) + 1) ≠ 0 by omega)
    show ((pick % ((U : Int) + 1)).toNat : Int) = pick % ((U : Int) + 1)
    omega
  refine s_add_in (by omega) (s_rem (by omega) ?_)
  by_cases hneg : pick.tmod (U + 1) < 0
  · rw [if_pos hneg] at er
    refine s_lt_t hneg (pC_true (s_add_in (by omega) (s_add_in (by omega) ?_)))
    refine part8 _ (by exact ha) (by exact e13) (by exact e15) ?_
    show i64 _ = i64 _
    rw [hemod, ← er]; congr 1; omega
  · rw [if_neg hneg] at er
    refine s_lt_f hneg (pC_false ?_)
    refine part8 _ (by exact ha) (by exact e13) (by exact e15) ?_
    show i64 _ = i64 _
    rw [hemod, ← er]
theorem w_torn2 {bv v : Value} {pick off how : Int} {b0 : Bytes} {l : Writes} (hv : WritesV W v l) (hbv : SBytes W bv b0) (hb0 : b0.length ≤ 140737488355328) (hk : ∀ w', Fr no W w' → k (.bool true) w')
    {ρ : Env} {w : World} (ha : Args bv v pick off how ρ) (hf : Fr no W w) (e11 : ρ 11 = i64 (b0.length + sumD l : Nat)) (hn : l = [] ∨ b0.length + sumD l ≤ 100000) : F4_2 k ρ w := by
  unfold F4_2
  rw [ha.1, ha.2.1, ha.2.2.2.1, e11]
  have hvw := hv.fr hf
  have hbw := hbv.fr hf fun _ _ h => h
  obtain ⟨Ab, cb, eb, hcb⟩ := hbw.form
  have hlen : ∀ {w' : World} {K : Value → World → Prop}, K (i64 b0.length) w' → px P (bSem .len #[30] 3 #[bv]) w' K := by
    intro w' K hK
    rw [eb]
    exact s_len usl30 hK
  refine s_lenS usl41 hvw.src ?_
  by_cases hl : l.length > 200
  · refine s_gt_t (by omega) ?_
    repeat (first | refine pG_sk ?_ | refine pG_skf ?_ | refine pG_un ?_ | refine pG_yes rfl ?_)
    refine s_pick_t ?_
    repeat (first | refine pG_sk ?_ | refine pG_skf ?_ | refine pG_un ?_ | refine pG_yes rfl ?_)
    exact s_pick_t (pC_true (hk w hf))
  refine s_gt_f (by omega) ?_
  repeat (first | refine pG_sk ?_ | refine pG_skf ?_ | refine pG_un ?_ | refine pG_yes rfl ?_)
  refine hlen ?_
  repeat (first | refine pG_sk ?_ | refine pG_skf ?_ | refine pG_un ?_ | refine pG_yes rfl ?_)
  by_cases hb : b0.length > 100000
  · refine s_gt_t (by omega) (s_pick_f ?_)
    repeat (first | refine pG_sk ?_ | refine pG_skf ?_ | refine pG_un ?_ | refine pG_yes rfl ?_)
    exact s_pick_t (pC_true (hk w hf))
  refine s_gt_f (by omega) (s_pick_f ?_)
  have hsum : b0.length + sumD l ≤ 100000 := by
    rcases hn with rfl | h
    · show b0.length + 0 ≤ 100000; omega
    · exact h
  repeat (first | refine pG_sk ?_ | refine pG_skf ?_ | refine pG_un ?_ | refine pG_yes rfl ?_)
  refine s_lenS usl41 hvw.src ?_
  repeat (first | refine pG_sk ?_ | refine pG_skf ?_ | refine pG_un ?_ | refine pG_yes rfl ?_)
  have hmul : (l.length : Int) * ((b0.length + sumD l : Nat) : Int) ≤ 200 * 100000 := Int.mul_le_mul (by omega) (by omega) (by omega) (by omega)
  have hmul0 : 0 ≤ (l.length : Int) * ((b0.length + sumD l : Nat) : Int) := Int.mul_nonneg (by omega) (by omega)
  refine s_mul ?_
  rw [wrap_in (by omega)]
  repeat (first | refine pG_sk ?_ | refine pG_skf ?_ | refine pG_un ?_ | refine pG_yes rfl ?_)
  by_cases hbig : (l.length : Int) * ((b0.length + sumD l : Nat) : Int) > 3000000
  · exact s_gt_t hbig (s_pick_f (pC_true (hk w hf)))
  refine s_gt_f hbig (s_pick_f (pC_false ?_))
  obtain ⟨r1, r2, r3, r4, cS, hT⟩ := torn_new b0 (by omega)
  have ok0 : (AD.new 1048576).Ok 0 := AD.Ok.new (by decide)
  have ok1 := ok0.create (by decide) fN
  have ok2 := ok1.append (by decide) fN b0
  have ok3 := ok2.sync (by decide) fN
  have ok4 := ok3.syncNames (by decide)
  refine c_new (fun hbad => absurd (show (1 : Int) ≤ 1048576 ∧ (1048576 : Int) ≤ 1048576 by decide) hbad) fun hok w2 L2 d2 f2 => ?_
  have i2 := Is1.new hf d2 f2
  refine s_ext rfl (s_ext rfl (s_nei_f rfl ?_))
  repeat (first | refine pG_sk ?_ | refine pG_skf ?_ | refine pG_un ?_ | refine pG_yes rfl ?_)
  refine s_eqpn upt24 (s_pick_f ?_)
  repeat (first | refine pG_sk ?_ | refine pG_skf ?_ | refine pG_un ?_ | refine pG_yes rfl ?_)
  obtain ⟨O, I, L, T2⟩ := i2
  refine c_create T2.rep ok0 fN fN_small fun w3 O' I' L' hx => ?_
  obtain ⟨i3, -⟩ := T2.is1 hx
  rw [r1]
  clear T2 hx d2
  repeat (first | refine pG_sk ?_ | refine pG_skf ?_ | refine pG_un ?_ | refine pG_yes rfl ?_)
  refine s_nei_f rfl (s_pick_f ?_)
  repeat (first | refine pG_sk ?_ | refine pG_skf ?_ | refine pG_un ?_ | refine pG_yes rfl ?_)
  refine s_lit0 (Try.runUnderlying30 _) (Try.sizeOf5 _) ?_
  repeat (first | refine pG_sk ?_ | refine pG_skf ?_ | refine pG_un ?_ | refine pG_yes rfl ?_)
  refine s_copyB (hbv.fr i3.base fun _ _ h => h) (by omega) fun cv w4 f4 h4 hb4 => ?_
  repeat (first | refine pG_sk ?_ | refine pG_skf ?_ | refine pG_un ?_ | refine pG_yes rfl ?_)
  obtain ⟨O, I, L, T3⟩ := i3
  have T4 := T3.by' (K' := no) f4 (fun b hb => hb.elim) (fun b hb => hb.elim) (fun b => .inl) fun j hj => hj.elim
  refine c_append T4.rep ok1 fN fN_small h4 (fun j hj ho => ?_) (by omega) fun w5 O' I' L' hx => ?_
  · have := T3.rep.lt j (.inl ho)
    have := (hb4 j hj).1
    omega
  obtain ⟨⟨O, I, L, T5⟩, -⟩ := T4.is1 hx
  rw [r2]
  clear T3 T4 hx h4
  repeat (first | refine pG_sk ?_ | refine pG_skf ?_ | refine pG_un ?_ | refine pG_yes rfl ?_)
  refine s_nei_f rfl (s_pick_f ?_)
  repeat (first | refine pG_sk ?_ | refine pG_skf ?_ | refine pG_un ?_ | refine pG_yes rfl ?_)
  refine c_sync T5.rep ok2 fN fN_small fun w6 O' I' L' hx => ?_
  obtain ⟨⟨O, I, L, T6⟩, -⟩ := T5.is1 hx
  rw [r3]
  clear T5 hx
  repeat (first | refine pG_sk ?_ | refine pG_skf ?_ | refine pG_un ?_ | refine pG_yes rfl ?_)
  refine s_nei_f rfl (s_pick_f ?_)
  repeat (first | refine pG_sk ?_ | refine pG_skf ?_ | refine pG_un ?_ | refine pG_yes rfl ?_)
  refine c_syncNames T6.rep ok3 fun w7 O' I' L' hx => ?_
  obtain ⟨⟨O, I, L, T7⟩, -⟩ := T6.is1 hx
  rw [r4]
  clear T6 hx
  repeat (first | refine pG_sk ?_ | refine pG_skf ?_ | refine pG_un ?_ | refine pG_yes rfl ?_)
  refine s_nei_f rfl (s_pick_f (pC_false ?_))
  generalize ((((AD.new 1048576).create fN).2.append fN b0).2.sync fN).2.syncNames.2 = S4 at *
  refine px_ok (w' := w7) (v := planVal ⟨off, 0, 0⟩) (by kernel_rfl) ?_
  refine c_plan T7.rep ok4.room.1 ⟨off, 0, 0⟩ fun w8 O' I' L' hx => ?_
  obtain ⟨i8, -⟩ := T7.is1 hx
  have ok5 := ok4.plans ⟨off, 0, 0⟩
  have hT5 := hT.plans off
  have ho5 : (S4.plans ⟨off, 0, 0⟩).off = false := (plans_off _).trans cS.off
  clear T7 hx
  generalize S4.plans ⟨off, 0, 0⟩ = S5 at *
  refine hlen ?_
  have hl0 : l.length ≤ 200 := by omega
  refine w_torn3 hv hl0 hsum (fun ρ w S b done dv ha e13 e15 e16 h hd hu hb => w_torn5 hk hbv (by omega) hd hu hb ha e13 e15 e16 h) (by exact ha) rfl rfl rfl rfl rfl ho5
    ⟨i8.less (fun j hj => by cases hj), ⟨rfl, .inl ⟨rfl, rfl⟩⟩, hT5, ok5.mono (by omega) (by decide), (fun p hp => by cases hp)⟩
/-- DiskTorn answers true, and what lay there before is as it was. -/
theorem w_torn {bv v : Value} {pick off how : Int} {b0 : Bytes} {l : Writes} (hv : WritesV W v l) (hbv : SBytes W bv b0) (hb0 : b0.length ≤ 140737488355328) (hk : ∀ w', Fr no W w' → k (.bool true) w') : pFn P 4 [bv, v, i64 pick, i64 off, i64 how] W k := by
  refine F4_in _ _ _ _ _ _ _ ?_
  unfold F4_0
  obtain ⟨Ab, cb, eb, hcb⟩ := hbv.form
  have hlen : ∀ {w' : World} {K : Value → World → Prop}, K (i64 b0.length) w' → px P (bSem .len #[30] 3 #[bv]) w' K := by
    intro w' K hK
    rw [eb]
    exact s_len usl30 hK
  refine hlen ?_
  exact w_torn1 (bv := bv) (v := v) (pick := pick) (off := off) (how := how) hv hb0 hk (fun ρ w ha hf e11 hn => w_torn2 hv hbv hb0 hk ha hf e11 hn) ⟨rfl, rfl, rfl, rfl, rfl⟩ rfl rfl
end
end Go.Proofs.Ytcdcojpfealppaa
