/- DiskFront, walked: what the law's code computes is the plain disk's. -/
import Derived.Test.YtcdcojpfealppaaXElem
import Derived.Test.YtcdcojpfealppaaTwo
set_option linter.unusedVariables false
set_option linter.unusedSimpArgs false
set_option maxRecDepth 100000
namespace Go.Proofs.Ytcdcojpfealppaa
open Go Go.Proofs Go.RowKit Go.Proofs.XRed Go.Proofs.XHeap Go.Proofs.XMaps Go.Proofs.XSlices Go.Proofs.XDisk Go.Proofs.XCalls Go.Proofs.XRange Go.Proofs.XKeys
theorem small_name {n : ByteArray} (h : n.size ≤ maxLen) : n.size ≤ 9223372036854775807 := by unfold maxLen at h; omega
/-- What came in is as it was. -/
theorem came {W w : World} {x : Value} {size m : Nat} {cs : List Value} (h : Src W x size m cs) (hs : 0 < size) (hf : Fr no W w) : Src w x size m cs := h.fr hs hf fun _ _ h => h
def pairCells (l : Moves) : List Value := l.flatMap fun m => [.string m.1, .string m.2]
theorem pair_at : ∀ {l : Moves} {i : Nat} {m : ByteArray × ByteArray}, l[i]? = some m → (pairCells l)[i * 2]? = some (.string m.1) ∧ (pairCells l)[i * 2 + 1]? = some (.string m.2)
  | [], i, p, h => by simp at h
  | q :: r, 0, p, h => by simp only [List.getElem?_cons_zero, Option.some.injEq] at h; subst h; exact ⟨rfl, rfl⟩
  | q :: r, i + 1, p, h => by
    have h1 := pair_at (l := r) (i := i) (m := p) (by simpa using h)
    have e : (i + 1) * 2 = i * 2 + 2 := by omega
    rw [e]
    unfold pairCells at *
    simpa [List.flatMap_cons] using h1
section
variable {W : World} {v0 v1 : Value} {names : List ByteArray} {moves : Moves} {pick : Int} {D Dt : Nat} {k : Value → World → Prop}
/-- A literal of one byte. -/
theorem s_byte {w : World} {i : Nat} (hi : i < 256) {kk : Value → Value → World → Prop} (hk : ∀ u v w', Fr no w w' → SBytes w' v [UInt8.ofNat i] → sblk v = some w.heap.size → kk u v w') :
    px P (convert 3 5 (i64 i)) w fun u w => px P (Instr.buildSlice 30 1 #[(0, u)]) w (kk u) := by
  refine s_convi (q' := .u8) (by kernel_rfl) (by kernel_rfl) (by kernel_rfl) ?_
  have e : IntKind.u8.wrap (i : Int) = ((UInt8.ofNat i).toNat : Int) := by
    have h1 : (UInt8.ofNat i).toNat = i % 256 := by simp
    rw [h1]
    unfold IntKind.wrap
    simp [IntKind.signed, IntKind.bits]
    try omega
  rw [e]
  refine lit1_30 rfl ?_
  exact hk _ _ _ (Fr.alloc ..) (SBytes.blk (bs := [UInt8.ofNat i]) (alloc_new _ _) (Nat.le_refl _)) rfl
theorem w_front1 (h0 : Src W v0 1 names.length (names.map .string)) (hs : ∀ n ∈ names, n.size ≤ maxLen) (hl : names.length ≤ 40)
    (hk : ∀ (ρ : Env) w A B, ρ 0 = v0 → ρ 1 = v1 → ρ 2 = i64 pick → ρ 7 = ptr D → ρ 9 = ptr Dt → frontL names 0 (AD.new 1000, AD.new 1000) = (A, B) → A.Ok 200 → B.Ok 200 → Is2 W w D Dt A B no → F3_3 k ρ w)
    {ρ : Env} {w : World} (e0 : ρ 0 = v0) (e1 : ρ 1 = v1) (e2 : ρ 2 = i64 pick) (e7 : ρ 7 = ptr D) (e9 : ρ 9 = ptr Dt) (e11 : ρ 11 = i64 0) (h : Is2 W w D Dt (AD.new 1000) (AD.new 1000) no) : F3L1 k ρ w := by
  refine F3L1_inv (m := names.length) k (fun m ρ w => ∃ (i : Nat) (A B : AD), i + m = names.length ∧ ρ 0 = v0 ∧ ρ 1 = v1 ∧ ρ 2 = i64 pick ∧ ρ 7 = ptr D ∧ ρ 9 = ptr Dt ∧ ρ 11 = i64 i ∧ frontL (names.drop i) i (A, B) = frontL names 0 (AD.new 1000, AD.new 1000) ∧ A.Ok (5 * i) ∧ B.Ok (5 * i) ∧ Is2 W w D Dt A B no) ?_
    ⟨0, _, _, by omega, e0, e1, e2, e7, e9, e11, rfl, AD.Ok.new (by decide), AD.Ok.new (by decide), h⟩
  rintro m ρ w ⟨i, A, B, him, e0, e1, e2, e7, e9, e11, hfold, okA, okB, h⟩
  rw [F3_1_eq]
  unfold F3_1
  rw [e0, e11, e7, e9]
  refine s_lenS usl22 (came h0 (by omega) h.base) ?_
  by_cases hi : i < names.length
  · refine s_lt_t (by omega) (pC_true ?_)
    have hn : names[i]? = some names[i] := by simp [hi]
    have hu : (names.map Value.string)[i]? = some (.string names[i]) := by simp [hi]
    have hsm := small_name (hs _ (List.getElem_mem hi))
    have hdrop : frontL (names.drop i) i (A, B) = frontL (names.drop (i + 1)) (i + 1) (front1 A B names[i] (UInt8.ofNat i)) := by
      rw [List.drop_eq_getElem_cons hi]; rfl
    rw [hdrop] at hfold
    have hbig : 5 * i < 1099511627776 := by omega
    refine s_elem usl22 (sze22 _) (Try.isAgg9 _) (came h0 (by omega) h.base) hi hu fun _ => ?_
    obtain ⟨O, I, O2, I2, L, L2, T⟩ := h
    refine c_create T.one.rep okA names[i] hsm fun w1 O' I' L' hx => ?_
    obtain ⟨h, -⟩ := T.next hx
    have okA1 := okA.create hbig names[i]
    clear hx
    by_cases hc : (A.create names[i]).1 = 0
    · rw [hc]
      refine s_eqi_t rfl (pC_true ?_)
      refine s_elem usl22 (sze22 _) (Try.isAgg9 _) (came h0 (by omega) h.base) hi hu fun _ => ?_
      refine s_byte (by omega) fun _ dv w2 f2 hdv hbv => ?_
      have h2 := h.quiet f2
      obtain ⟨O, I, O2, I2, L, L2, T1⟩ := h
      clear T
      obtain ⟨O, I, O2, I2, L, L2, T⟩ : ∃ O I O2 I2 L L2, Two W w2 D Dt (A.create names[i]).2 B no O I O2 I2 L L2 ∧ (∀ b, O b → b < w1.heap.size) := by
        refine ⟨O, I, O2, I2, L, L2, ⟨T1.one.by' f2 (fun b hb => hb.elim) (fun b hb => hb.elim) (fun b => .inl) fun b hb => hb.elim, T1.two.by' f2 (fun b hb => hb.elim) (fun b hb => hb.elim) (fun b => .inl) fun b hb => hb.elim, T1.ab, T1.ba⟩, fun b hb => T1.one.rep.lt b (.inl hb)⟩
      refine c_append T.1.one.rep okA1 names[i] hsm hdv (fun b hb ho => ?_) (by simp) fun w3 O' I' L' hx => ?_
      · rw [hbv] at hb; injection hb with hb; have := T.2 b ho; omega
      obtain ⟨h, -⟩ := T.1.next hx
      have okA2 := okA1.append (by omega) names[i] [UInt8.ofNat i]
      clear hx T T1 h2
      refine s_elem usl22 (sze22 _) (Try.isAgg9 _) (came h0 (by omega) h.base) hi hu fun _ => ?_
      obtain ⟨O, I, O2, I2, L, L2, T⟩ := h
      refine c_sync T.one.rep okA2 names[i] hsm fun w4 O' I' L' hx => ?_
      obtain ⟨h, -⟩ := T.next hx
      have okA3 := okA2.sync (by omega) names[i]
      clear hx T
      refine s_elem usl22 (sze22 _) (Try.isAgg9 _) (came h0 (by omega) h.base) hi hu fun _ => ?_
      obtain ⟨O, I, O2, I2, L, L2, T⟩ := h
      refine c_create T.two.rep okB names[i] hsm fun w5 O' I' L' hx => ?_
      obtain ⟨h, -⟩ := T.next2 hx
      have okB1 := okB.create hbig names[i]
      clear hx T
      refine s_elem usl22 (sze22 _) (Try.isAgg9 _) (came h0 (by omega) h.base) hi hu fun _ => ?_
      refine s_byte (by omega) fun _ dv w6 f6 hdv hbv => ?_
      obtain ⟨O, I, O2, I2, L, L2, T1⟩ := h
      obtain ⟨O, I, O2, I2, L, L2, T⟩ : ∃ O I O2 I2 L L2, Two W w6 D Dt ((((A.create names[i]).2.append names[i] [UInt8.ofNat i]).2.sync names[i]).2) (B.create names[i]).2 no O I O2 I2 L L2 ∧ (∀ b, O2 b → b < w5.heap.size) := by
        refine ⟨O, I, O2, I2, L, L2, ⟨T1.one.by' f6 (fun b hb => hb.elim) (fun b hb => hb.elim) (fun b => .inl) fun b hb => hb.elim, T1.two.by' f6 (fun b hb => hb.elim) (fun b hb => hb.elim) (fun b => .inl) fun b hb => hb.elim, T1.ab, T1.ba⟩, fun b hb => T1.two.rep.lt b (.inl hb)⟩
      refine c_append T.1.two.rep okB1 names[i] hsm hdv (fun b hb ho => ?_) (by simp) fun w7 O' I' L' hx => ?_
      · rw [hbv] at hb; injection hb with hb; have := T.2 b ho; omega
      obtain ⟨h, -⟩ := T.1.next2 hx
      have okB2 := okB1.append (by omega) names[i] [UInt8.ofNat i]
      clear hx T T1
      rw [F3_2_eq]
      unfold F3_2
      show px P (binSem BinOp.add 3 (Operand.tmp 50) (Operand.const (Value.int IntKind.i64 1)) (ρ 11) (Value.int IntKind.i64 1)) w7 _
      rw [e11]
      refine s_add_in (by omega) ?_
      refine ⟨m - 1, by omega, i + 1, (front1 A B names[i] (UInt8.ofNat i)).1, (front1 A B names[i] (UInt8.ofNat i)).2, by omega, e0, e1, e2, e7, e9, ?_, hfold, ?_, ?_, ?_⟩
      · show i64 _ = i64 _; simp
      · unfold front1; rw [if_pos hc]; exact okA3.mono (by omega) (by omega)
      · unfold front1; rw [if_pos hc]; exact okB2.mono (by omega) (by omega)
      · unfold front1; rw [if_pos hc]; exact h
    · refine s_eqi_f hc (pC_false ?_)
      rw [F3_2_eq]
      unfold F3_2
      show px P (binSem BinOp.add 3 (Operand.tmp 50) (Operand.const (Value.int IntKind.i64 1)) (ρ 11) (Value.int IntKind.i64 1)) w1 _
      rw [e11]
      refine s_add_in (by omega) ?_
      refine ⟨m - 1, by omega, i + 1, (front1 A B names[i] (UInt8.ofNat i)).1, (front1 A B names[i] (UInt8.ofNat i)).2, by omega, e0, e1, e2, e7, e9, ?_, hfold, ?_, ?_, ?_⟩
      · show i64 _ = i64 _; simp
      · unfold front1; rw [if_neg hc]; exact okA1.mono (by omega) (by omega)
      · unfold front1; rw [if_neg hc]; exact okB.mono (by omega) (by omega)
      · unfold front1; rw [if_neg hc]; exact h
  · refine s_lt_f (by omega) (pC_false ?_)
    rw [F3_3_eq]
    have hd : names.drop i = [] := List.drop_eq_nil_of_le (by omega)
    rw [hd] at hfold
    exact hk _ w A B e0 e1 e2 e7 e9 hfold.symm (okA.mono (by omega) (by omega)) (okB.mono (by omega) (by omega)) h
theorem pairs_one (l : Moves) : ∀ u ∈ pairCells l, u.oneCell' = true := by
  intro u hu
  obtain ⟨m, _, hm⟩ := List.mem_flatMap.1 hu
  simp at hm
  rcases hm with rfl | rfl <;> rfl
/-- The second loop. -/
theorem w_front2 {A0 B : AD} {c0 : Nat} (h1 : Src W v1 2 moves.length (pairCells moves)) (hs : ∀ m ∈ moves, m.1.size ≤ maxLen ∧ m.2.size ≤ maxLen) (hl : moves.length ≤ 60)
    (hk : ∀ (ρ : Env) w S d dv (K : Nat → Prop), ρ 2 = i64 pick → ρ 7 = ptr D → ρ 9 = ptr Dt → ρ 12 = dv → frontM moves (A0, []) = (S, d) → S.Ok (c0 + 60) → Is2 W w D Dt S B K → w.ownsRow 0 34 2 dv d.length (pairCells d) → (∀ b, sblk dv = some b → K b) → F3_6 k ρ w)
    (okA : A0.Ok c0) (hc0 : c0 ≤ 1000) {ρ : Env} {w : World} (e1 : ρ 1 = v1) (e2 : ρ 2 = i64 pick) (e7 : ρ 7 = ptr D) (e9 : ρ 9 = ptr Dt) (e12 : ρ 12 = .slice none 0 0) (e13 : ρ 13 = i64 0) (h : Is2 W w D Dt A0 B no) : F3L2 k ρ w := by
  refine F3L2_inv (m := moves.length) k (fun m ρ w => ∃ (i : Nat) (S : AD) (d : Moves) (dv : Value), i + m = moves.length ∧ ρ 1 = v1 ∧ ρ 2 = i64 pick ∧ ρ 7 = ptr D ∧ ρ 9 = ptr Dt ∧ ρ 12 = dv ∧ ρ 13 = i64 i ∧ frontM (moves.drop i) (S, d) = frontM moves (A0, []) ∧ S.Ok (c0 + i) ∧ d.length ≤ i ∧
      Is2 W w D Dt S B (fun b => sblk dv = some b) ∧ w.ownsRow 0 34 2 dv d.length (pairCells d) ∧ (∀ b, sblk dv = some b → W.heap.size ≤ b)) ?_
    ⟨0, _, [], .slice none 0 0, by omega, e1, e2, e7, e9, e12, e13, rfl, okA, Nat.le_refl _, h.own (K' := fun b => sblk (.slice none 0 0) = some b) (Fr.refl _ _) (fun b hb => hb.elim) (fun b hb => by cases hb) (fun b hb => by cases hb), ⟨rfl, .inl ⟨rfl, rfl⟩⟩, fun b hb => by cases hb⟩
  rintro m ρ w ⟨i, S, d, dv, him, e1, e2, e7, e9, e12, e13, hfold, okS, hdl, h, hrow, hlow⟩
  rw [F3_4_eq]
  unfold F3_4
  rw [e1, e13, e7]
  refine s_lenS usl23 (came h1 (by omega) h.base) ?_
  by_cases hi : i < moves.length
  · refine s_lt_t (by omega) (pC_true ?_)
    have hm : moves[i]? = some moves[i] := by simp [hi]
    obtain ⟨hu, hv⟩ := pair_at hm
    have hsm := hs _ (List.getElem_mem hi)
    have hdrop : frontM (moves.drop i) (S, d) = frontM (moves.drop (i + 1)) ((S.move moves[i].1 moves[i].2).2, if (S.move moves[i].1 moves[i].2).1 = 0 ∧ moves[i].1 ≠ moves[i].2 then d ++ [moves[i]] else d) := by
      rw [List.drop_eq_getElem_cons hi]; rfl
    rw [hdrop] at hfold
    have fd : Fr no w w.drew := Fr.drew _ _
    have g := h.quiet fd
    obtain ⟨b1, o1, c1, ev1, hc1⟩ := (came h1 (by omega) g.base).place hi (by omega)
    have hx1 := hc1 0 _ (by omega) (by simpa using hu)
    have hy1 := hc1 1 _ (by omega) (by simpa using hv)
    have hb1 : b1 < W.heap.size := h1.lt (by omega) (by omega) (by rw [ev1]; rfl)
    refine ⟨fun w' => w'.cell? ⟨b1, o1 + i * 2, none⟩ = some (.string moves[i].1) ∧ w'.cell? ⟨b1, o1 + i * 2 + 1, none⟩ = some (.string moves[i].2), ⟨hx1, hy1⟩, ?_⟩
    rw [ev1]
    refine q_of (.pointer (some ⟨b1, o1 + i * 2, none⟩)) (fun w_ hS => s_ix (i := (i : Int)) usl23 (sze23 _) (by omega) (by omega) ⟨by simp, rfl⟩) ?_
    refine q_of (.agg #[.string moves[i].1, .string moves[i].2]) (fun w_ hS => s_ld2 (Try.isAgg34 _) (Try.sizeOf34 _) hS.1 hS.2 ⟨rfl, rfl⟩) ?_
    obtain ⟨O, I, O2, I2, L, L2, T⟩ := g
    refine c_move T.one.rep okS moves[i].1 moves[i].2 (small_name hsm.1) (small_name hsm.2) fun w2 O' I' L' hx => ?_
    obtain ⟨g2, f2⟩ := T.next hx
    have okS2 := okS.move (by omega) moves[i].1 moves[i].2
    clear hx T
    have hcell : w2.cell? ⟨b1, o1 + i * 2, none⟩ = some (.string moves[i].1) ∧ w2.cell? ⟨b1, o1 + i * 2 + 1, none⟩ = some (.string moves[i].2) := by
      obtain ⟨b1', o1', c1', ev1', hc1'⟩ := (came h1 (by omega) g2.base).place hi (by omega)
      rw [ev1] at ev1'
      injection ev1' with q1 q2 q3
      injection q1 with q1
      injection q1 with q1 q4
      subst q1; subst q4
      exact ⟨hc1' 0 _ (by omega) (by simpa using hu), hc1' 1 _ (by omega) (by simpa using hv)⟩
    refine ⟨hcell, ?_⟩
    have f0 : Fr (fun b => ¬ sblk dv = some b) w w2 := (fd.or f2).mono fun b hb => hb.elim (fun h => h.elim) .inl
    have hrow2 := own_fr hrow f0 fun b hb hn => hn hb
    clear hrow
    have nosave : ¬ ((S.move moves[i].1 moves[i].2).1 = 0 ∧ moves[i].1 ≠ moves[i].2) → ∀ (ρ' : Env), ρ' 1 = v1 → ρ' 2 = i64 pick → ρ' 7 = ptr D → ρ' 9 = ptr Dt → ρ' 12 = dv → ρ' 13 = i64 i → F3A2 k (fun ρ' w' => ∃ m', m' < m ∧ ∃ (i : Nat) (S : AD) (d : Moves) (dv : Value), i + m' = moves.length ∧ ρ' 1 = v1 ∧ ρ' 2 = i64 pick ∧ ρ' 7 = ptr D ∧ ρ' 9 = ptr Dt ∧ ρ' 12 = dv ∧ ρ' 13 = i64 i ∧ frontM (moves.drop i) (S, d) = frontM moves (A0, []) ∧ S.Ok (c0 + i) ∧ d.length ≤ i ∧
      Is2 W w' D Dt S B (fun b => sblk dv = some b) ∧ w'.ownsRow 0 34 2 dv d.length (pairCells d) ∧ (∀ b, sblk dv = some b → W.heap.size ≤ b)) [1, 1] ρ' w2 := by
      intro hno ρ' e1 e2 e7 e9 e12 e13
      rw [if_neg hno] at hfold
      rw [F3_5_eq]
      unfold F3_5
      rw [e13]
      refine s_add_in (by omega) ?_
      refine ⟨m - 1, by omega, i + 1, _, d, dv, by omega, e1, e2, e7, e9, e12, ?_, hfold, okS2, by omega, g2, hrow2, hlow⟩
      show i64 _ = i64 _; simp
    by_cases hc : (S.move moves[i].1 moves[i].2).1 = 0
    · refine q_of _ (fun w_ hS => s_eqi_t hc ⟨rfl, rfl⟩) ?_
      refine pGq_yes rfl (pGq_yes rfl (pGq_yes rfl ?_))
      refine q_of (.pointer (some ⟨b1, o1 + i * 2, none⟩)) (fun w_ hS => s_ix (i := (i : Int)) usl23 (sze23 _) (by omega) (by omega) ⟨by simp, rfl⟩) ?_
      refine pGq_yes rfl ?_
      refine q_of (.pointer (some ⟨b1, o1 + i * 2, none⟩)) (fun w_ hS => fa34_0 ⟨rfl, rfl⟩) ?_
      refine pGq_yes rfl ?_
      refine q_of (.string moves[i].1) (fun w_ hS => s_ld (Try.isAgg9 _) hS.1 ⟨rfl, rfl⟩) ?_
      refine pGq_yes rfl (pGq_yes rfl (pGq_yes rfl ?_))
      refine q_of (.pointer (some ⟨b1, o1 + i * 2, none⟩)) (fun w_ hS => s_ix (i := (i : Int)) usl23 (sze23 _) (by omega) (by omega) ⟨by simp, rfl⟩) ?_
      refine pGq_yes rfl ?_
      refine q_of (.pointer (some ⟨b1, o1 + i * 2 + 1, none⟩)) (fun w_ hS => fa34_1 ⟨rfl, rfl⟩) ?_
      refine pGq_yes rfl ?_
      refine q_of (.string moves[i].2) (fun w_ hS => s_ld (Try.isAgg9 _) hS.2 ⟨rfl, rfl⟩) ?_
      refine pGq_yes rfl ?_
      refine q_of _ (fun w_ hS => s_nes ⟨rfl, rfl⟩) ?_
      refine q_of _ (fun w_ hS => s_pick_t ⟨rfl, rfl⟩) ?_
      by_cases hne : moves[i].1 = moves[i].2
      · rw [decide_eq_true hne]
        refine pC_false ?_
        rw [← ev1]
        exact nosave (fun h => h.2 hne) _ (by exact e1) (by exact e2) (by exact e7) (by exact e9) (by exact e12) (by exact e13)
      · rw [decide_eq_false hne]
        refine pC_true ?_
        rw [← ev1]
        refine s_elem2 usl23 (sze23 _) (Try.isAgg34 _) (Try.sizeOf34 _) (came h1 (by omega) g2.base) hi hu hv fun _ => ?_
        refine px_ok (w' := w2.alloc (.cells #[.string moves[i].1, .string moves[i].2] 34)) (v := .slice (some ⟨w2.heap.size, 0, none⟩) 1 1) (by kernel_rfl) ?_
        have f3 := Fr.alloc no w2 (.cells #[.string moves[i].1, .string moves[i].2] 34)
        have hl3 := own_lit w2 0 34 2 #[.string moves[i].1, .string moves[i].2] 1 (Nat.zero_le _) (by unfold maxLen; omega) rfl
        have z3 : (w2.alloc (.cells #[.string moves[i].1, .string moves[i].2] 34)).heap.size = w2.heap.size + 1 := by simp
        show px P _ (w2.alloc (.cells #[.string moves[i].1, .string moves[i].2] 34)) _
        generalize w2.alloc (.cells #[.string moves[i].1, .string moves[i].2] 34) = w3 at *
        have g3 := g2.quiet f3
        have hrow3 := own_fr hrow2 f3 fun _ _ h => h
        rw [show ρ 12 = dv from e12]
        refine ap23 hrow3 (Src.of_own hl3) (by intro u hu; simp at hu; rcases hu with rfl | rfl <;> rfl) (by omega) (Nat.zero_le _) fun dv' w4 hrow4 f4 hb4 => ?_
        rw [if_pos ⟨hc, hne⟩] at hfold
        rw [F3_5_eq]
        unfold F3_5
        show px P (binSem BinOp.add 3 (Operand.tmp 96) (Operand.const (Value.int IntKind.i64 1)) (ρ 13) (Value.int IntKind.i64 1)) w4 _
        rw [e13]
        refine s_add_in (by omega) ?_
        have h63 := g2.base.size
        refine ⟨m - 1, by omega, i + 1, _, d ++ [moves[i]], dv', by omega, e1, e2, e7, e9, rfl, ?_, hfold, okS2, by simp; omega, ?_, ?_, ?_⟩
        · show i64 _ = i64 _; simp
        · refine g3.own (f4.mono fun b hb => .inl hb.symm) hlow ?_ ?_
          · intro b hb
            rcases hb4 with e | e
            · rw [e] at hb; exact .inl hb
            · rw [e] at hb; injection hb with hb; exact .inr (by omega)
          · intro b hb
            exact (own_blk_lt hrow4 hb).2
        · have e5 : pairCells (d ++ [moves[i]]) = pairCells d ++ [.string moves[i].1, .string moves[i].2] := by unfold pairCells; simp
          have e6 : (d ++ [moves[i]]).length = d.length + 1 := by simp
          rw [e5, e6]; exact hrow4
        · intro b hb
          rcases hb4 with e | e
          · rw [e] at hb; exact hlow b hb
          · rw [e] at hb; injection hb with hb; have := f3.size; omega
    · refine q_of _ (fun w_ hS => s_eqi_f hc ⟨rfl, rfl⟩) ?_
      repeat (first | refine pGq_sk ?_ | refine pGq_un ?_)
      refine q_of _ (fun w_ hS => s_pick_f ⟨rfl, rfl⟩) (pC_false ?_)
      rw [← ev1]
      exact nosave (fun h => hc h.1) _ (by exact e1) (by exact e2) (by exact e7) (by exact e9) (by exact e12) (by exact e13)
  · refine s_lt_f (by omega) (pC_false ?_)
    rw [F3_6_eq]
    have hd : moves.drop i = [] := List.drop_eq_nil_of_le (by omega)
    rw [hd] at hfold
    exact hk _ w S d dv _ e2 e7 e9 e12 hfold.symm (okS.mono (by omega) (by omega)) h hrow (fun b hb => hb)
/-- The third loop. -/
theorem w_front3 {A1 B S : AD} {d : Moves} {dv : Value} {K : Nat → Prop} {c0 i0 : Nat} (hsafe : A1.safe = B.shown) (hm : Moved A1 S d) (hs : ∀ m ∈ d, m.1.size ≤ maxLen ∧ m.2.size ≤ maxLen) (hl : d.length ≤ 60) (hi0 : i0 ≤ d.length) (hc0 : c0 ≤ 1000) (okB : B.Ok c0) (cB : XDisk.Calm B)
    (hk : ∀ (ρ : Env) w T, ρ 2 = i64 pick → ρ 7 = ptr D → ρ 9 = ptr Dt → Other B T d i0 → T.Ok (c0 + 60) → Is2 W w D Dt S T K → F3_9 k ρ w)
    {ρ : Env} {w : World} (e2 : ρ 2 = i64 pick) (e7 : ρ 7 = ptr D) (e9 : ρ 9 = ptr Dt) (e12 : ρ 12 = dv) (e14 : ρ 14 = i64 i0) (e15 : ρ 15 = i64 0) (h : Is2 W w D Dt S B K) (hrow : w.ownsRow 0 34 2 dv d.length (pairCells d)) (hK : ∀ b, sblk dv = some b → K b) : F3L3 k ρ w := by
  refine F3L3_inv (m := i0) k (fun m ρ w => ∃ (i : Nat) (T : AD), i + m = i0 ∧ ρ 2 = i64 pick ∧ ρ 7 = ptr D ∧ ρ 9 = ptr Dt ∧ ρ 12 = dv ∧ ρ 14 = i64 i0 ∧ ρ 15 = i64 i ∧ Other B T d i ∧ T.Ok (c0 + i) ∧ Is2 W w D Dt S T K ∧ w.ownsRow 0 34 2 dv d.length (pairCells d)) ?_
    ⟨0, B, by omega, e2, e7, e9, e12, e14, e15, ⟨cB, rfl, rfl⟩, okB, h, hrow⟩
  rintro m ρ w ⟨i, T, him, e2, e7, e9, e12, e14, e15, ho, okT, h, hrow⟩
  rw [F3_8_eq]
  unfold F3_8
  rw [e14, e15, e12, e9]
  by_cases hi : i < i0
  · refine s_lt_t (by omega) (pC_true ?_)
    have hid : i < d.length := by omega
    have hmm : d[i]? = some d[i] := by simp [hid]
    obtain ⟨hu, hv⟩ := pair_at hmm
    have hsm := hs _ (List.getElem_mem hid)
    refine s_elem2 usl23 (sze23 _) (Try.isAgg34 _) (Try.sizeOf34 _) (Src.of_own hrow) hid hu hv fun _ => ?_
    obtain ⟨O, I, O2, I2, L, L2, Tw⟩ := h
    refine c_move Tw.two.rep okT d[i].1 d[i].2 (small_name hsm.1) (small_name hsm.2) fun w2 O' I' L' hx => ?_
    obtain ⟨g2, f2⟩ := Tw.next2 hx
    have okT2 := okT.move (by omega) d[i].1 d[i].2
    clear hx Tw
    obtain ⟨hr, ho2⟩ := ho.step (A := A1) hsafe hm hmm
    rw [hr]
    refine s_nei_f rfl (pC_false ?_)
    refine s_add_in (by omega) ?_
    refine ⟨m - 1, by omega, i + 1, _, by omega, e2, e7, e9, e12, e14, ?_, ho2, okT2, g2, own_fr hrow f2 fun b hb hn => hn (hK b hb)⟩
    show i64 _ = i64 _; simp
  · refine s_lt_f (by omega) (pC_false ?_)
    rw [F3_9_eq]
    have : i = i0 := by omega
    subst this
    exact hk _ w T e2 e7 e9 ho (okT.mono (by omega) (by omega)) h
theorem total_small {c : Nat} {S : AD} (ok : S.Ok c) : S.files.length ≤ 4611686018427387904 ∧ ∀ f ∈ S.files, f.2.length ≤ 4611686018427387904 := by
  refine ⟨?_, fun f hf => ?_⟩
  · have := ok.turns.len.1
    unfold AD.files
    rw [List.length_map]; omega
  · obtain ⟨p, hp, rfl⟩ := List.mem_map.1 hf
    have := (ok.thing p.2 (.inl ⟨p.1, hp⟩)).ok.len.1
    show (S.things p.2).shown.length ≤ _
    omega
/-- The end. -/
theorem w_front4 {A B A1 S T : AD} {d : Moves} {K : Nat → Prop} {c : Nat} (hp : Pair A B) (e1 : A1 = { A.ticked with safe := A.shown, row := [] }) (hm : Moved A1 S d) (ho : Other B T d (roundA pick d.length)) (okS : S.Ok c) (okT : T.Ok c)
    {ρ : Env} {w : World} (e2 : ρ 2 = i64 pick) (e7 : ρ 7 = ptr D) (e9 : ρ 9 = ptr Dt) (h : Is2 W w D Dt S T K) (hk : ∀ w', Fr no W w' → k (.bool true) w') : F3_9 k ρ w := by
  unfold F3_9
  rw [e2, e7, e9]
  refine lit1_57 rfl ?_
  have f1 := Fr.alloc no w (.cells #[i64 pick] 3)
  have hl := own_lit w 0 3 1 #[i64 pick] 1 (Nat.zero_le _) (by unfold maxLen; omega) rfl
  have z1 : (w.alloc (.cells #[i64 pick] 3)).heap.size = w.heap.size + 1 := by simp
  show pFn P _ _ (w.alloc (.cells #[i64 pick] 3)) _
  generalize w.alloc (.cells #[i64 pick] 3) = w1 at *
  obtain ⟨O, I, O2, I2, L, L2, Tw⟩ := h.quiet f1
  refine c_crash (picks := [pick]) sortsKeys Tw.one.rep okS (by simp) (Src.of_own hl) (by intro b hb; injection hb with hb; have hb'' : w.heap.size = b := hb; omega) (fun p hp => by have := okS.crashNames_small [pick] p hp; unfold maxLen; omega) fun w2 O' I' L' hx => ?_
  obtain ⟨⟨O, I, O2, I2, L, L2, Tw⟩, -⟩ := Tw.next hx
  have okC := okS.crash [pick]
  refine c_files sortsKeys Tw.one.rep okC (fun p hp => by have := okC.shownNames p hp; unfold maxLen; omega) fun w3 f1v hf1 f3 => ?_
  have h3 : Is2 W w3 D Dt (S.crash [pick]) T K := Is2.quiet ⟨_, _, _, _, _, _, Tw⟩ f3
  clear Tw hx
  obtain ⟨O, I, O2, I2, L, L2, Tw⟩ := h3
  refine c_files sortsKeys Tw.two.rep okT (fun p hp => by have := okT.shownNames p hp; unfold maxLen; omega) fun w4 f2v hf2 f4 => ?_
  have h4 : Is2 W w4 D Dt (S.crash [pick]) T K := Is2.quiet ⟨_, _, _, _, _, _, Tw⟩ f4
  refine c_filesEq (filesV_fr hf1 f4) hf2 (total_small okC).1 (total_small okC).2 fun w5 f5 => ?_
  rw [decide_eq_true (front_end hp e1 hm ho okS)]
  refine pG_yes rfl (c_known sortsKeys fun w6 f6 => s_pick_t (hk w6 ?_))
  exact fr_up (fr_up h4.base f5 fun b hb => hb.elim) f6 fun b hb => hb.elim
theorem frontM_sub : ∀ (l : Moves) (p : AD × Moves), ∀ m ∈ (frontM l p).2, m ∈ p.2 ∨ m ∈ l
  | [], p, m, h => .inl h
  | x :: r, p, m, h => by
    rcases frontM_sub r _ m h with h' | h'
    · simp only at h'
      split at h'
      · rcases List.mem_append.1 h' with h' | h'
        · exact .inl h'
        · rw [List.mem_singleton] at h'; exact .inr (h' ▸ List.mem_cons_self)
      · exact .inl h'
    · exact .inr (List.mem_cons_of_mem _ h')
/-- DiskFront answers true, and what lay there before is as it was. -/
theorem w_front (h0 : Src W v0 1 names.length (names.map .string)) (hs0 : ∀ n ∈ names, n.size ≤ maxLen) (h1 : Src W v1 2 moves.length (pairCells moves)) (hs1 : ∀ m ∈ moves, m.1.size ≤ maxLen ∧ m.2.size ≤ maxLen)
    (hk : ∀ w', Fr no W w' → k (.bool true) w') : pFn P 3 [v0, v1, i64 pick] W k := by
  refine F3_in _ _ _ _ _ ?_
  unfold F3_0
  refine s_lenS usl22 h0 ?_
  by_cases hl : names.length > 40
  · refine s_gt_t (by omega) ?_
    repeat (first | refine pG_skf ?_ | refine pG_un ?_)
    exact s_pick_t (pC_true (hk W (Fr.refl _ _)))
  refine s_gt_f (by omega) (pG_yes rfl (pG_yes rfl (s_lenS usl23 h1 (pG_yes rfl ?_))))
  by_cases hl1 : moves.length > 60
  · exact s_gt_t (by omega) (s_pick_f (pC_true (hk W (Fr.refl _ _))))
  refine s_gt_f (by omega) (s_pick_f (pC_false ?_))
  refine c_new (fun h => absurd (show (1 : Int) ≤ 1000 ∧ (1000 : Int) ≤ 1048576 by decide) h) fun _ w1 L1 d1 f1 => ?_
  refine s_ext rfl (s_ext rfl ?_)
  have i1 := Is1.new (Fr.refl no W) d1 f1
  refine c_new (fun h => absurd (show (1 : Int) ≤ 1000 ∧ (1000 : Int) ≤ 1048576 by decide) h) fun _ w2 L2 d2 f2 => ?_
  refine s_ext rfl (s_ext rfl ?_)
  have i2 := Is2.new i1 d2 f2
  clear d1 d2 i1
  refine s_nei_f rfl (pG_yes rfl (pG_yes rfl (s_nei_f rfl (s_pick_f (pG_yes rfl (pG_yes rfl (s_eqpn upt24 (s_pick_f ?_))))))))
  refine pG_yes rfl (pG_yes rfl (s_eqpn upt24 (s_pick_f (pC_false ?_))))
  refine w_front1 (pick := pick) (v1 := v1) h0 hs0 (by omega) ?_ rfl rfl rfl rfl rfl rfl i2
  clear i2
  intro ρ w A B e0 e1 e2 e7 e9 hAB okA okB h
  have hp : Pair A B := by have := Pair.loop names 0 (AD.new 1000, AD.new 1000) (Pair.new 1000); rw [hAB] at this; exact this
  unfold F3_3
  rw [e7]
  obtain ⟨O, I, O2, I2, L, L2, T⟩ := h
  refine c_syncNames T.one.rep okA fun w' O' I' L' hx => ?_
  obtain ⟨h, -⟩ := T.next hx
  have okA1 := okA.syncNames (by omega)
  have ec := syncNames_calm hp.ca
  rw [ec] at okA1 h ⊢
  simp only at okA1 h ⊢
  refine s_nei_f rfl (pC_false ?_)
  have hm0 : Moved { A.ticked with safe := A.shown, row := [] } { A.ticked with safe := A.shown, row := [] } [] :=
    ⟨⟨hp.ca.plan, hp.ca.off, hp.ca.ticked.since⟩, rfl, rfl, rfl, rfl, rfl, by intro i m h; simp at h⟩
  clear hx T
  refine w_front2 (c0 := 201) (moves := moves) (pick := pick) h1 hs1 (by omega) ?_ okA1 (by omega) (by exact e1) (by exact e2) (by exact e7) (by exact e9) rfl rfl h
  clear h okA1 e0 e1 e2 e7 e9 ρ w w'
  intro ρ w S d dv K e2 e7 e9 e12 hSd okS h hrow hK
  have hm : Moved { A.ticked with safe := A.shown, row := [] } S d := by have := Moved.loop moves ({ A.ticked with safe := A.shown, row := [] }, []) hm0; rw [hSd] at this; exact this
  have hdl : d.length ≤ 60 := by have := frontM_len moves ({ A.ticked with safe := A.shown, row := [] }, []); rw [hSd] at this; simp at this; omega
  have hds : ∀ m ∈ d, m.1.size ≤ maxLen ∧ m.2.size ≤ maxLen := by
    intro m hmd
    have := frontM_sub moves ({ A.ticked with safe := A.shown, row := [] }, []) m (by rw [hSd]; exact hmd)
    rcases this with h | h
    · cases h
    · exact hs1 m h
  unfold F3_6
  rw [e12, e2]
  have hS := Src.of_own hrow
  refine s_lenS usl23 hS (s_add_in (by omega) (s_rem (by omega) (s_lt ?_)))
  have hr := tmod_up pick (d.length + 1) (by omega)
  obtain ⟨r1, r2, r3⟩ := hr
  have hnn := Int.emod_nonneg pick (show ((d.length : Int) + 1) ≠ 0 by omega)
  have hlt := Int.emod_lt_of_pos pick (show (0 : Int) < (d.length : Int) + 1 by omega)
  have er : roundA pick d.length = (pick.emod ((d.length : Int) + 1)).toNat := rfl
  have hi0 : roundA pick d.length ≤ d.length := by rw [er]; have : pick.emod ((d.length : Int) + 1) < d.length + 1 := hlt; omega
  have ei : (roundA pick d.length : Int) = pick.emod ((d.length : Int) + 1) := by rw [er]; have : 0 ≤ pick.emod ((d.length : Int) + 1) := hnn; omega
  have go : ∀ (ρ' : Env), ρ' 2 = i64 pick → ρ' 7 = ρ 7 → ρ' 9 = ρ 9 → ρ' 12 = dv → ρ' 14 = i64 (roundA pick d.length) → F3A k [1, 1, 1, 1, 1, 1, 1, 1, 1, 1, 1] ρ' w := by
    intro ρ' g2 g7 g9 g12 g14
    rw [F3_7_eq]
    unfold F3_7
    exact w_front3 (pick := pick) (c0 := 200) (A1 := { A.ticked with safe := A.shown, row := [] }) (B := B) (dv := dv) (K := K) hp.shown hm hds hdl hi0 (by omega) okB hp.cb
      (fun ρ3 w3 T q2 q7 q9 ho okT h3 => w_front4 hp rfl hm ho okS (okT.mono (by omega) (by omega)) q2 q7 q9 h3 hk) (by exact g2) (by exact g7.trans e7) (by exact g9.trans e9) (by exact g12) (by exact g14) rfl h hrow hK
  by_cases hneg : pick.tmod (d.length + 1) < 0
  · rw [if_pos hneg] at r1
    rw [decide_eq_true hneg]
    refine pC_true (s_lenS usl23 hS (s_add_in (by omega) (s_add_in (by omega) ?_)))
    refine go _ (by exact e2) rfl rfl (by exact e12) ?_
    show i64 _ = i64 _
    rw [ei, ← r1]
    congr 1
    omega
  · rw [if_neg hneg] at r1
    rw [decide_eq_false hneg]
    refine pC_false (go _ (by exact e2) rfl rfl (by exact e12) ?_)
    show i64 _ = i64 _
    rw [ei, ← r1]
end
end Go.Proofs.Ytcdcojpfealppaa
