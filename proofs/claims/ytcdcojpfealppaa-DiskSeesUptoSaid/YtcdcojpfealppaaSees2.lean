/- DiskSees, walked: the rest. -/
import Derived.Test.YtcdcojpfealppaaSeesW
set_option linter.unusedVariables false
set_option linter.unusedSimpArgs false
set_option maxRecDepth 100000
namespace Go.Proofs.Ytcdcojpfealppaa
open Go Go.Proofs Go.RowKit Go.Proofs.XRed Go.Proofs.XHeap Go.Proofs.XMaps Go.Proofs.XSlices Go.Proofs.XDisk Go.Proofs.XCalls Go.Proofs.XRange Go.Proofs.XKeys
section
variable {W w : World} {D : Nat} {S S' : AD} {O I : Nat → Prop} {L : Lay} {k : Value → World → Prop}
theorem tells_files {S : AD} {R : List SpanA} : (S.tells R).files = S.files := rfl
theorem tells_away {S : AD} {R : List SpanA} : (S.tells R).lookAway = S.tells [] := rfl
theorem w_sees5 {at_ n : Int} {p : ByteArray} {c : Nat} {Kf : Nat → Prop} {lv wv sv : Value} (ho : S.off = false) (hsl : S.shown.length ≤ 256) (hk : ∀ w', Fr no W w' → k (.bool true) w')
    {ρ : Env} {w : World} (e2 : ρ 2 = .string p) (e11 : ρ 11 = ptr D) (e14 : ρ 14 = lv) (e15 : ρ 15 = wv) (e16 : ρ 16 = sv) (h : Seen W w D S p at_ n c S.shown.length Kf lv wv sv) : F8_5 k ρ w := by
  unfold F8_5
  rw [e2, e11, e14, e15, e16]
  have hR := h.want
  have hsm := h.some_
  have hf := h.files
  have hi := h.is1
  have ok := h.ok
  rw [List.take_of_length_le (Nat.le_refl _)] at hR hsm hi ok
  generalize wantOf S at_ n S.shown = R at *
  obtain ⟨O, I, L, T⟩ := hi
  refine c_list T.rep ok p fun w1 v1 h1 hb1 f1 => ?_
  have el : AD.listA (S.tells R) p = (S.shown.map (·.1)).filter (hasP p) := by unfold AD.listA; rw [show (S.tells R).off = false from ho]; rfl
  rw [el] at h1
  have hll : ((S.shown.map (·.1)).filter (hasP p)).length ≤ 4611686018427387904 := by
    have := List.length_filter_le (hasP p) (S.shown.map (·.1))
    rw [List.length_map] at this; omega
  have hsm1 := own_fr hsm f1 fun _ _ h => h
  refine c_namesEq h1 (Src.of_own hsm1) hll fun b w2 f2 hb => ?_
  rw [hb.2 rfl]
  refine s_not (pG_yes rfl (pG_yes rfl ?_))
  have d2 := (T.rep.fr f1 fun b hb => hb.elim).fr f2 fun b hb => hb.elim
  refine c_reads d2 ok fun w3 A cp hreads hrb f3 => ?_
  have f03 : Fr no w w3 := ((f1.or f2).or f3).mono (by rintro b ((hb | hb) | hb) <;> exact hb.elim)
  have hR3 := own_fr hR f03 fun _ _ h => h
  have okr := ok.reads
  have sm := ok.small
  refine pG_yes rfl (pG_yes rfl (c_spansEq hreads (Src.of_own hR3) (by omega) fun b w4 f4 hb => ?_))
  rw [hb.2 rfl]
  refine pG_yes rfl (s_not (s_pick_f (pC_false ?_)))
  have hi4 : Is1 W w4 D (S.tells R) Kf := by
    refine Is1.less ((Is1.quiet ⟨_, _, _, T⟩ f03).quiet f4) fun b hb => .inl hb
  have hf4 := (hf.fr f03 fun _ _ h => h).fr f4 fun _ _ h => h
  clear T hreads hrb d2 h1 hb1
  obtain ⟨O, I, L, T⟩ := hi4
  refine c_lookF T.rep ok.room.1 fun w5 O' I' L' hx => ?_
  obtain ⟨⟨O, I, L, T5⟩, f5⟩ := T.is1 hx
  have ok5 := ok.lookAway
  rw [tells_away] at T5 ok5
  have hf5 := hf4.fr f5 fun b hb hn => hn hb
  clear T hx
  refine c_reads T5.rep ok5 fun w6 A cp hreads hrb f6 => ?_
  refine s_len usl60 (s_eqi_t rfl (pG_yes rfl (pG_yes rfl ?_)))
  have d6 := T5.rep.fr f6 fun b hb => hb.elim
  refine c_files sortsKeys d6 ok5 (shownMax ok5) fun w7 v7 h7 f7 => ?_
  have f57 : Fr no w5 w7 := (f6.or f7).mono (by rintro b (hb | hb) <;> exact hb.elim)
  have hf7 := hf5.fr f57 fun _ _ h => h
  refine pG_yes rfl (pG_yes rfl (c_filesEq h7 hf7.toV (files_small ok5).1 (files_small ok5).2 fun w8 f8 => ?_))
  rw [tells_files, decide_eq_true rfl]
  refine s_pick_t (pG_yes rfl (c_known sortsKeys fun w9 f9 => s_pick_t (hk w9 ?_)))
  have fW := T5.fr
  exact fr_up (fr_up (fr_up fW f57 fun b hb => hb.elim) f8 fun b hb => hb.elim) f9 fun b hb => hb.elim
theorem w_sees2 {p : ByteArray} {room at_ n : Int} (hat : -9223372036854775808 ≤ at_ ∧ at_ ≤ 9223372036854775807) (hk : ∀ w', Fr no W w' → k (.bool true) w')
    {ρ : Env} {w : World} (e0 : ρ 0 = i64 room) (e2 : ρ 2 = .string p) (e3 : ρ 3 = i64 at_) (e4 : ρ 4 = i64 n) (e11 : ρ 11 = ptr D) (h : Is1 W w D S no) (ok : S.Ok 300) (hn : Named S) (hr : S.room = room) : F8_2 k ρ w := by
  unfold F8_2
  rw [e0, e11]
  obtain ⟨O, I, L, T⟩ := h
  refine c_files sortsKeys T.rep ok (shownMax ok) fun w1 lv h1 f1 => ?_
  have d1 := T.rep.fr f1 fun b hb => hb.elim
  have us := used_small ok
  have hfs := files_small ok
  refine c_used d1 ok.room.1 (by omega) fun w2 f2 => ?_
  refine c_total (filesV_fr h1 f2) hfs.1 (by rw [total_files]; omega) ?_
  rw [total_files]
  have d2 := d1.fr f2 fun b hb => hb.elim
  refine s_nei_f rfl (pG_yes rfl (pG_yes rfl (c_room d2.disk ok.room.1 (pG_yes rfl (pG_yes rfl (s_nei_f hr (s_pick_f (pC_false ?_))))))))
  refine c_off d2.disk ok.room.1 ?_
  have f02 : Fr no w w2 := (f1.or f2).mono (by rintro b (hb | hb) <;> exact hb.elim)
  have fW2 : Fr no W w2 := fr_up T.fr f02 fun b hb => hb.elim
  cases ho : S.off with
  | true =>
    refine pC_true (c_list d2 ok _ fun w3 v3 h3 hb3 f3 => ?_)
    have el : AD.listA S (ByteArray.mk #[]) = [] := by unfold AD.listA; rw [ho]; rfl
    rw [el] at h3
    refine s_lenS usl22 h3 (s_eqi_t rfl (pG_yes rfl (c_known sortsKeys fun w4 f4 => s_pick_t (hk w4 ?_))))
    exact fr_up (fr_up fW2 f3 fun b hb => hb.elim) f4 fun b hb => hb.elim
  | false =>
    have hord := ok.shown
    have hnm : ∀ q ∈ S.shown, isName q.1 = true := hn.shown ok
    have hsl := ok.turns.len.1
    have i2 : Is1 W w2 D S (fun b => w.heap.size ≤ b ∧ b < w1.heap.size) := by
      refine Is1.own (K := no) ⟨_, _, _, T⟩ f02 (fun b hb => hb.elim) (fun b hb => .inr hb.1) fun b hb => ?_
      have := f2.size; omega
    have hf2 := (filesIn_of h1).fr f2 fun _ _ h => h
    have zW := T.fr.size
    clear T d1 d2
    obtain ⟨O, I, L, T⟩ := i2
    refine pC_false (c_lookF T.rep ok.room.1 fun w3 O' I' L' hx => ?_)
    obtain ⟨i3, f3⟩ := T.is1 hx
    have hf3 := hf2.fr f3 fun b hb hn => hn hb
    have ok3 := ok.lookAway
    have e : S.lookAway = S.tells [] := rfl
    rw [e] at i3 ok3
    clear T hx
    refine w_sees3 (c := 300) (lv := lv) (Kf := fun b => w.heap.size ≤ b ∧ b < w1.heap.size) ho hnm hord hsl (by omega) (fun q hq => (ok.thing q.2 (.inl ⟨q.1, hq⟩)).ok.len.1) hat
      (fun ρ w' wv sv e2 e11 e14 e15 e16 h => w_sees5 ho hsl hk e2 e11 e14 e15 e16 h) (by exact e2) (by exact e3) (by exact e4) (by exact e11) rfl rfl rfl rfl ?_
    have hnil : wantOf S at_ n (S.shown.take 0) = [] := rfl
    refine ⟨hf3, ⟨rfl, .inl ⟨rfl, rfl⟩⟩, ⟨rfl, .inl ⟨rfl, rfl⟩⟩, ?_, ok3, ?_, (fun b _ h => by cases h), (fun b _ h => by cases h), (fun b h => by cases h)⟩
    · refine i3.less ?_
      rintro b (hb | hb | hb)
      · exact hb
      · cases hb
      · cases hb
    · rintro b (hb | hb | hb)
      · omega
      · cases hb
      · cases hb
/-- DiskSees answers true, and what lay there before is as it was. -/
theorem w_sees {v : Value} {l : Script} {room at_ n : Int} {p : ByteArray} (hat : -9223372036854775808 ≤ at_ ∧ at_ ≤ 9223372036854775807) (hv : ScriptV W v l) (hk : ∀ w', Fr no W w' → k (.bool true) w') : pFn P 8 [i64 room, v, .string p, i64 at_, i64 n] W k := by
  refine F8_in _ _ _ _ _ _ _ ?_
  unfold F8_0
  refine c_long hv fun b w1 f1 hb => ?_
  cases b with
  | true =>
    repeat (first | refine pG_skf ?_ | refine pG_un ?_)
    refine s_pick_t ?_
    repeat (first | refine pG_skf ?_ | refine pG_un ?_)
    exact s_pick_t (pC_true (hk w1 f1))
  | false =>
    obtain ⟨hl, hbd⟩ := hb rfl
    refine pG_yes rfl (pG_yes rfl ?_)
    by_cases h1 : room < 1
    · refine s_lt_t h1 (s_pick_f ?_)
      repeat (first | refine pG_skf ?_ | refine pG_un ?_)
      exact s_pick_t (pC_true (hk w1 f1))
    refine s_lt_f h1 (s_pick_f (pG_yes rfl (pG_yes rfl ?_)))
    by_cases h2 : room > 1048576
    · exact s_gt_t h2 (s_pick_f (pC_true (hk w1 f1)))
    refine s_gt_f h2 (s_pick_f (pC_false ?_))
    refine c_new (fun hbad => absurd (show 1 ≤ room ∧ room ≤ 1048576 by omega) hbad) fun hok w2 L2 d2 f2 => ?_
    refine s_ext rfl (s_ext rfl ?_)
    refine s_nei_f rfl (pG_yes rfl (pG_yes rfl (s_eqpn upt24 (s_pick_f (pC_false ?_)))))
    exact w_sees1 hv hl (fun p hp => (hbd p hp).1) (fun ρ w S e0 e2 e3 e4 e11 h ok hn hr => w_sees2 hat hk e0 e2 e3 e4 e11 h ok hn hr) rfl rfl rfl rfl rfl rfl rfl (Is1.new f1 d2 f2) (AD.Ok.new hok) (named_new room) (new_inj room) rfl
end
end Go.Proofs.Ytcdcojpfealppaa
