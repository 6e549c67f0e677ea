/- DiskSees, walked. -/
import Derived.Test.YtcdcojpfealppaaXSees
import Derived.Test.YtcdcojpfealppaaList
import Derived.Test.YtcdcojpfealppaaSafeW
import Derived.Sort.Walk0
set_option linter.unusedVariables false
set_option linter.unusedSimpArgs false
set_option maxRecDepth 100000
namespace Go.Proofs.Ytcdcojpfealppaa
open Go Go.Proofs Go.RowKit Go.Proofs.XRed Go.Proofs.XHeap Go.Proofs.XMaps Go.Proofs.XSlices Go.Proofs.XDisk Go.Proofs.XCalls Go.Proofs.XRange Go.Proofs.XKeys
section
variable {W w : World} {D : Nat} {S S' : AD} {O I : Nat → Prop} {L : Lay} {k : Value → World → Prop}
theorem s_ges {t : TypeId} {x y : Operand} {a b : ByteArray} (hk : k (.bool (!blt a b)) w) : px P (binSem .geq t x y (.string a) (.string b)) w k := by
  refine s_bin (v := .bool (!blt a b)) (by simp) (by simp) ?_ hk
  simp only [binOp, Op.stringOp, Sem.run_pure]
  congr 3
  unfold blt
  rw [bytesLess_eq, Lib.toList_data, Lib.toList_data]
theorem s_neb_f {a b : Bool} {x y : Operand} (h : a = b) (hk : k (.bool false) w) : px P (binSem .neq 4 x y (.bool a) (.bool b)) w k := by
  subst h
  refine s_bin (by simp) (by simp) (run_neq_bool w 4 a a Try.underlying4) ?_
  simpa using hk
theorem used_small {c : Nat} {S : AD} (ok : S.Ok c) : S.used ≤ 256 * 1048576 := by
  have h1 := ok.turns.len.1
  have h2 : ∀ l : Names, (∀ p ∈ l, (S.things p.2).shown.length ≤ 1048576) → (l.map fun p => (S.things p.2).shown.length).sum ≤ l.length * 1048576 := by
    intro l
    induction l with
    | nil => intro _; exact Nat.zero_le _
    | cons p r ih =>
      intro h
      have a := h p List.mem_cons_self
      have b := ih fun q hq => h q (List.mem_cons_of_mem _ hq)
      simp only [List.map_cons, List.sum_cons, List.length_cons]
      omega
  have h3 := h2 S.shown fun p hp => (ok.thing p.2 (.inl ⟨p.1, hp⟩)).ok.len.1
  exact Nat.le_trans h3 (Nat.mul_le_mul_right _ h1)
theorem total_files (S : AD) : totalOf S.files = S.used := by
  unfold totalOf AD.files AD.used
  rw [List.map_map]; rfl
/-- names: two rows of texts. -/
theorem c_namesEq {v1 v2 : Value} {x y : List ByteArray} (hx : Src W v1 1 x.length (x.map .string)) (hy : Src W v2 1 y.length (y.map .string)) (hl : x.length ≤ 4611686018427387904) (hk : ∀ (b : Bool) w', Fr no W w' → (b = true ↔ x = y) → k (.bool b) w') : pFn P 43 [v1, v2] W k := by
  refine F43_in _ _ _ _ ?_
  unfold F43_0
  refine s_lenS usl22 hx (s_lenS usl22 hy ?_)
  by_cases hlen : x.length = y.length
  · refine s_nei_f (by omega) (pC_false ?_)
    refine F43L1_inv (m := x.length) k (fun m ρ w' => ∃ i : Nat, i + m = x.length ∧ Fr no W w' ∧ ρ 0 = v1 ∧ ρ 1 = v2 ∧ ρ 5 = i64 i ∧ x.take i = y.take i) ?_
      ⟨0, by omega, Fr.refl _ _, rfl, rfl, rfl, rfl⟩
    rintro m ρ w' ⟨i, him, hf, e0, e1, e5, heq⟩
    rw [F43_1_eq]
    unfold F43_1
    rw [e0, e1, e5]
    have hx' := hx.fr (by omega) hf fun _ _ h => h
    have hy' := hy.fr (by omega) hf fun _ _ h => h
    refine s_lenS usl22 hx' ?_
    by_cases hi : i < x.length
    · refine s_lt_t (by omega) (pC_true ?_)
      have fd : Fr no w' w'.drew := Fr.drew _ _
      have ff : Fr no W w'.drew := hf.trans fd fun b hb => .inl hb
      have hiy : i < y.length := by omega
      obtain ⟨b1, o1, c1, f1, g1⟩ := (hx'.fr (by omega) fd fun _ _ h => h).place hi (by omega)
      obtain ⟨b2, o2, c2, f2, g2⟩ := (hy'.fr (by omega) fd fun _ _ h => h).place hiy (by omega)
      have a1 := g1 0 (.string x[i]) (by omega) (by simp [hi])
      have a2 := g2 0 (.string y[i]) (by omega) (by simp [hiy])
      simp only [Nat.mul_one, Nat.add_zero] at a1 a2
      refine ⟨fun w' => w'.cell? ⟨b1, o1 + i, none⟩ = some (.string x[i]) ∧ w'.cell? ⟨b2, o2 + i, none⟩ = some (.string y[i]), ⟨a1, a2⟩, ?_⟩
      rw [f1, f2]
      refine q_of (.pointer (some ⟨b1, o1 + i, none⟩)) (fun w_ hS => s_ix (i := (i : Int)) usl22 (sze22 _) (by omega) (by omega) ⟨by simp, rfl⟩) ?_
      refine q_of (.string x[i]) (fun w_ hS => s_ld (Try.isAgg9 _) hS.1 ⟨rfl, rfl⟩) ?_
      refine q_of (.pointer (some ⟨b2, o2 + i, none⟩)) (fun w_ hS => s_ix (i := (i : Int)) usl22 (sze22 _) (by omega) (by omega) ⟨by simp, rfl⟩) ?_
      refine q_of (.string y[i]) (fun w_ hS => s_ld (Try.isAgg9 _) hS.2 ⟨rfl, rfl⟩) ?_
      refine q_of _ (fun w_ hS => s_nes ⟨rfl, rfl⟩) ?_
      by_cases he : x[i] = y[i]
      · rw [decide_eq_true he]
        refine pC_false (s_add_in (by omega) ?_)
        refine ⟨m - 1, by omega, i + 1, by omega, ff, e0.trans f1, e1.trans f2, ?_, ?_⟩
        · show i64 _ = i64 _; simp
        · rw [List.take_succ_eq_append_getElem hi, List.take_succ_eq_append_getElem hiy, heq, he]
      · rw [decide_eq_false he]
        refine pC_true (hk false _ ff ⟨(fun h => by cases h), fun h => absurd ?_ he⟩)
        subst h; rfl
    · refine s_lt_f (by omega) (pC_false ?_)
      rw [F43_2_eq]
      refine hk true w' hf ⟨fun _ => ?_, fun _ => rfl⟩
      have a1 := List.take_of_length_le (l := x) (i := i) (by omega)
      have a2 := List.take_of_length_le (l := y) (i := i) (by omega)
      rw [← a1, heq, a2]
  · exact s_nei_t (by omega) (pC_true (hk false W (Fr.refl _ _) ⟨(fun h => by cases h), fun h => absurd (by rw [h]) hlen⟩))
theorem w_sees1 {v : Value} {l : Script} {room at_ n : Int} {p : ByteArray} (hv : ScriptV W v l) (hl : l.length ≤ 300) (hbd : ∀ p ∈ l, p.1.data.length ≤ 100000)
    (hk : ∀ (ρ : Env) w S, ρ 0 = i64 room → ρ 2 = .string p → ρ 3 = i64 at_ → ρ 4 = i64 n → ρ 11 = ptr D → Is1 W w D S no → S.Ok 300 → Named S → S.room = room → F8_2 k ρ w)
    {ρ : Env} {w : World} (e0 : ρ 0 = i64 room) (e1 : ρ 1 = v) (e2 : ρ 2 = .string p) (e3 : ρ 3 = i64 at_) (e4 : ρ 4 = i64 n) (e11 : ρ 11 = ptr D) (e13 : ρ 13 = i64 0) (h : Is1 W w D S no) (ok : S.Ok 0) (hn : Named S) (hi : S.Inj) (hr : S.room = room) : F8L1 k ρ w := by
  refine F8L1_inv (m := l.length) k (fun m ρ w => ∃ (i : Nat) (S : AD), i + m = l.length ∧ ρ 0 = i64 room ∧ ρ 1 = v ∧ ρ 2 = .string p ∧ ρ 3 = i64 at_ ∧ ρ 4 = i64 n ∧ ρ 11 = ptr D ∧ ρ 13 = i64 i ∧ Is1 W w D S no ∧ S.Ok i ∧ Named S ∧ S.Inj ∧ S.room = room) ?_
    ⟨0, S, by omega, e0, e1, e2, e3, e4, e11, e13, h, ok, hn, hi, hr⟩
  rintro m ρ w ⟨i, S, him, e0, e1, e2, e3, e4, e11, e13, h, ok, hn, hin, hr⟩
  rw [F8_1_eq]
  unfold F8_1
  have hvw := hv.fr h.base
  rw [e1, e11, e13]
  refine s_lenS usl55 hvw.src ?_
  by_cases hi : i < l.length
  · refine s_lt_t (by omega) (pC_true (s_step hvw hi fun p => ?_))
    have hm : l[i] ∈ l := List.getElem_mem hi
    have okT := ok.doStep (by omega) l[i].1
    have hnT := named_do ok hn l[i].1
    have F := facts_do ok hin l[i].1
    obtain ⟨O, I, L, T⟩ := h
    refine c_do T.rep ok (hvw.all _ hm) (hbd _ hm) fun w2 O' I' L' hx => ?_
    obtain ⟨h2, -⟩ := T.is1 hx
    refine s_add_in (by omega) ?_
    refine ⟨m - 1, by omega, i + 1, _, by omega, e0, e1, e2, e3, e4, e11, ?_, h2, okT, hnT, F.inj, F.room.trans hr⟩
    show i64 _ = i64 _; simp
  · refine s_lt_f (by omega) (pC_false ?_)
    rw [F8_2_eq]
    exact hk _ w S e0 e2 e3 e4 e11 h (ok.mono (by omega) (by omega)) hn hr
/-- The place of one file of a row. -/
theorem FilesIn.at_ {w : World} {K : Nat → Prop} {v : Value} {fs : List (ByteArray × Bytes)} (h : FilesIn w K v fs) {i : Nat} (hi : i < fs.length) : ∃ b o c d, v = .slice (some ⟨b, o, Option.none⟩) fs.length c ∧ w.cell? ⟨b, o + i * 2, Option.none⟩ = some (.string fs[i].1) ∧ w.cell? ⟨b, o + i * 2 + 1, Option.none⟩ = some d ∧ SBytes w d fs[i].2 := files_at h.toV hi
theorem fst_files (S : AD) {i : Nat} (h1 : i < S.files.length) (h2 : i < S.shown.length) : S.files[i].1 = S.shown[i].1 ∧ S.files[i].2 = (S.things S.shown[i].2).shown := by
  have := List.getElem_map (l := S.shown) (i := i) (h := h1) (fun p : ByteArray × Nat => (p.1, (S.things p.2).shown))
  exact ⟨congrArg Prod.fst this, congrArg Prod.snd this⟩
/-- What the loop of DiskSees holds. -/
structure Seen (W w : World) (D : Nat) (S : AD) (p : ByteArray) (at_ n : Int) (c i : Nat) (Kf : Nat → Prop) (lv wv sv : Value) : Prop where
  files : FilesIn w Kf lv S.files
  want : w.ownsRow 0 86 3 wv (wantOf S at_ n (S.shown.take i)).length ((wantOf S at_ n (S.shown.take i)).flatMap spanCells)
  some_ : w.ownsRow 0 9 1 sv (((S.shown.take i).map (·.1)).filter (hasP p)).length ((((S.shown.take i).map (·.1)).filter (hasP p)).map .string)
  is1 : Is1 W w D (S.tells (wantOf S at_ n (S.shown.take i))) (fun b => Kf b ∨ sblk wv = some b ∨ sblk sv = some b)
  ok : (S.tells (wantOf S at_ n (S.shown.take i))).Ok c
  low : ∀ b, (Kf b ∨ sblk wv = some b ∨ sblk sv = some b) → W.heap.size ≤ b
  dw : ∀ b, Kf b → sblk wv ≠ some b
  ds : ∀ b, Kf b → sblk sv ≠ some b
  ws : ∀ b, sblk wv = some b → sblk sv ≠ some b
theorem Seen.lt {at_ n : Int} {p : ByteArray} {c i : Nat} {Kf : Nat → Prop} {lv wv sv : Value} (h : Seen W w D S p at_ n c i Kf lv wv sv) : ∀ b, (Kf b ∨ sblk wv = some b ∨ sblk sv = some b) → b < w.heap.size := by
  obtain ⟨O, I, L, T⟩ := h.is1
  exact T.klt
theorem Seen.quiet {at_ n : Int} {p : ByteArray} {c i : Nat} {Kf : Nat → Prop} {lv wv sv : Value} {w' : World} (h : Seen W w D S p at_ n c i Kf lv wv sv) (hf : Fr no w w') : Seen W w' D S p at_ n c i Kf lv wv sv :=
  { h with
    files := h.files.fr hf fun _ _ h => h
    want := own_fr h.want hf fun _ _ h => h
    some_ := own_fr h.some_ hf fun _ _ h => h
    is1 := h.is1.quiet hf }
theorem one_row {w : World} {base size n : Nat} {e : TypeId} {v : Value} {xs : List Value} (h : w.ownsRow base e size v n xs) : v.oneCell' = true := (own_one h).2
theorem wantOf_take {S : AD} {at_ n : Int} {i : Nat} (hi : i < S.shown.length) : wantOf S at_ n (S.shown.take (i + 1)) = if fits at_ n (S.things S.shown[i].2).shown.length then wantOf S at_ n (S.shown.take i) ++ [⟨S.shown[i].1, at_, n⟩] else wantOf S at_ n (S.shown.take i) := by
  unfold wantOf
  rw [List.take_succ_eq_append_getElem hi, List.filter_append]
  by_cases h : fits at_ n (S.things S.shown[i].2).shown.length
  · rw [if_pos h]; simp [h]
  · rw [if_neg h]; simp [h]
theorem kept_take {S : AD} {p : ByteArray} {i : Nat} (hi : i < S.shown.length) : ((S.shown.take (i + 1)).map (·.1)).filter (hasP p) = if hasP p S.shown[i].1 = true then ((S.shown.take i).map (·.1)).filter (hasP p) ++ [S.shown[i].1] else ((S.shown.take i).map (·.1)).filter (hasP p) := by
  rw [List.take_succ_eq_append_getElem hi, List.map_append, List.filter_append]
  by_cases h : hasP p S.shown[i].1 = true
  · rw [if_pos h]; simp [h]
  · rw [if_neg h]; simp [h]
set_option maxHeartbeats 1000000 in
theorem w_sees3 {at_ n : Int} {p : ByteArray} {c : Nat} {Kf : Nat → Prop} {lv : Value} (ho : S.off = false) (hn : ∀ q ∈ S.shown, isName q.1 = true) (hord : Ordered S.shown) (hsh : S.shown.length ≤ 256) (hc : c ≤ 1000) (hbytes : ∀ q ∈ S.shown, (S.things q.2).shown.length ≤ 1048576)
    (hat : -9223372036854775808 ≤ at_ ∧ at_ ≤ 9223372036854775807)
    (hk : ∀ (ρ : Env) w wv sv, ρ 2 = .string p → ρ 11 = ptr D → ρ 14 = lv → ρ 15 = wv → ρ 16 = sv → Seen W w D S p at_ n (c + S.shown.length) S.shown.length Kf lv wv sv → F8_5 k ρ w)
    {ρ : Env} {w : World} (e2 : ρ 2 = .string p) (e3 : ρ 3 = i64 at_) (e4 : ρ 4 = i64 n) (e11 : ρ 11 = ptr D) (e14 : ρ 14 = lv) (e15 : ρ 15 = .slice none 0 0) (e16 : ρ 16 = .slice none 0 0) (e17 : ρ 17 = i64 0) (h : Seen W w D S p at_ n c 0 Kf lv (.slice none 0 0) (.slice none 0 0)) : F8L2 k ρ w := by
  have hfl : S.files.length = S.shown.length := by unfold AD.files; simp
  refine F8L2_inv (m := S.shown.length) k (fun m ρ w => ∃ (i : Nat) (wv sv : Value), i + m = S.shown.length ∧ ρ 2 = .string p ∧ ρ 3 = i64 at_ ∧ ρ 4 = i64 n ∧ ρ 11 = ptr D ∧ ρ 14 = lv ∧ ρ 15 = wv ∧ ρ 16 = sv ∧ ρ 17 = i64 i ∧ Seen W w D S p at_ n (c + i) i Kf lv wv sv) ?_
    ⟨0, _, _, by omega, e2, e3, e4, e11, e14, e15, e16, e17, h⟩
  rintro m ρ w ⟨i, wv, sv, him, e2, e3, e4, e11, e14, e15, e16, e17, h⟩
  obtain ⟨A, cc, ev⟩ : ∃ A cc, lv = .slice A S.files.length cc := by obtain ⟨ps, _, h, _⟩ := h.files; obtain ⟨A, c, e, _⟩ := Src.of_own h; exact ⟨A, c, e⟩
  rw [F8_3_eq]
  unfold F8_3
  rw [e14, e17, e2, e16]
  have hwl : (wantOf S at_ n (S.shown.take i)).length ≤ 256 := by
    unfold wantOf
    rw [List.length_map]
    have h1 := List.length_filter_le (fun q : ByteArray × Nat => decide (fits at_ n (S.things q.2).shown.length)) (S.shown.take i)
    have h2 : (S.shown.take i).length ≤ 256 := by rw [List.length_take]; omega
    omega
  have hsl : ((((S.shown.take i).map (·.1)).filter (hasP p))).length ≤ 256 := by
    have h1 := List.length_filter_le (hasP p) ((S.shown.take i).map (·.1))
    have h2 : ((S.shown.take i).map (·.1)).length ≤ 256 := by rw [List.length_map, List.length_take]; omega
    omega
  have hlenv : ∀ {w' : World} {K : Value → World → Prop}, K (i64 S.shown.length) w' → px P (bSem .len #[37] 3 #[lv]) w' K := by
    intro w' K hK
    rw [ev, hfl]
    exact s_len usl37 hK
  refine hlenv ?_
  by_cases hi : i < S.shown.length
  · refine s_lt_t (by omega) (pC_true ?_)
    have hif : i < S.files.length := by omega
    have hq : S.shown[i] ∈ S.shown := List.getElem_mem hi
    obtain ⟨hname, hdata⟩ := fst_files S hif hi
    have hlook := look_shown ho hord.nodup hq (hn _ hq)
    have hbl := hbytes _ hq
    -- the end of a round
    have part6 : ∀ (ρ' : Env) w' wv' sv', ρ' 2 = .string p → ρ' 3 = i64 at_ → ρ' 4 = i64 n → ρ' 11 = ptr D → ρ' 14 = lv → ρ' 15 = wv' → ρ' 16 = sv' → ρ' 17 = i64 i → Seen W w' D S p at_ n (c + (i + 1)) (i + 1) Kf lv wv' sv' →
        F8A2 k (fun ρ' w' => ∃ m', m' < m ∧ ∃ (i : Nat) (wv sv : Value), i + m' = S.shown.length ∧ ρ' 2 = .string p ∧ ρ' 3 = i64 at_ ∧ ρ' 4 = i64 n ∧ ρ' 11 = ptr D ∧ ρ' 14 = lv ∧ ρ' 15 = wv ∧ ρ' 16 = sv ∧ ρ' 17 = i64 i ∧ Seen W w' D S p at_ n (c + i) i Kf lv wv sv) [1, 1] ρ' w' := by
      intro ρ' w' wv' sv' e2 e3 e4 e11 e14 e15 e16 e17 h
      rw [F8_6_eq]
      unfold F8_6
      rw [e17]
      refine s_add_in (by omega) ?_
      refine ⟨m - 1, by omega, i + 1, wv', sv', by omega, e2, e3, e4, e11, e14, e15, e16, ?_, h⟩
      show i64 _ = i64 _; simp
    -- the reading
    have part4 : ∀ (ρ' : Env) w' sv', ρ' 2 = .string p → ρ' 3 = i64 at_ → ρ' 4 = i64 n → ρ' 11 = ptr D → ρ' 14 = lv → ρ' 15 = wv → ρ' 16 = sv' → ρ' 17 = i64 i → FilesIn w' Kf lv S.files → w'.ownsRow 0 86 3 wv (wantOf S at_ n (S.shown.take i)).length ((wantOf S at_ n (S.shown.take i)).flatMap spanCells) →
        w'.ownsRow 0 9 1 sv' (((S.shown.take (i + 1)).map (·.1)).filter (hasP p)).length ((((S.shown.take (i + 1)).map (·.1)).filter (hasP p)).map .string) → Is1 W w' D (S.tells (wantOf S at_ n (S.shown.take i))) (fun b => Kf b ∨ sblk wv = some b ∨ sblk sv' = some b) →
        (∀ b, (Kf b ∨ sblk wv = some b ∨ sblk sv' = some b) → W.heap.size ≤ b) → (∀ b, Kf b → sblk sv' ≠ some b) → (∀ b, sblk wv = some b → sblk sv' ≠ some b) →
        F8A2 k (fun ρ' w' => ∃ m', m' < m ∧ ∃ (i : Nat) (wv sv : Value), i + m' = S.shown.length ∧ ρ' 2 = .string p ∧ ρ' 3 = i64 at_ ∧ ρ' 4 = i64 n ∧ ρ' 11 = ptr D ∧ ρ' 14 = lv ∧ ρ' 15 = wv ∧ ρ' 16 = sv ∧ ρ' 17 = i64 i ∧ Seen W w' D S p at_ n (c + i) i Kf lv wv sv) [1, 0, 0, 1, 1] ρ' w' := by
      intro ρ' w' sv' e2 e3 e4 e11 e14 e15 e16 e17 hfiles hwant hsome his1 hlow hds hws
      rw [F8_4_eq]
      unfold F8_4
      rw [e3, e4, e11, e14, e15, e17]
      obtain ⟨b, o, cc', dd, ev', g0, g1, gd⟩ := hfiles.at_ hif
      have evv := ev
      rw [ev'] at evv
      injection evv with q1 q2 q3
      subst q1 q3
      rw [hname] at g0
      rw [hdata] at gd
      have hlk : (S.tells (wantOf S at_ n (S.shown.take i))).look S.shown[i].1 = 0 := hlook.1
      have hsz := isName_small (hn _ hq)
      have g0' : w'.cell? ⟨b, o + (i : Int).toNat * 2 + 0, none⟩ = some (.string S.shown[i].1) := by simpa using g0
      rw [ev]
      refine s_ix (i := (i : Int)) usl37 (sze37 _) (by omega) (by omega) (fa52_0 (s_ld (v := .string S.shown[i].1) (Try.isAgg9 _) g0' ?_))
      obtain ⟨O, I, L, T⟩ := his1
      refine c_size T.rep h.ok _ (by omega) (s_ext rfl (s_ext rfl ?_))
      have hsize : AD.sizeOf (S.tells (wantOf S at_ n (S.shown.take i))) S.shown[i].1 = (S.things S.shown[i].2).shown.length := by
        unfold AD.sizeOf
        rw [if_pos hlk]
        have hb : (S.tells (wantOf S at_ n (S.shown.take i))).bytes S.shown[i].1 = (S.things S.shown[i].2).shown := by
          show (S.things (S.of S.shown[i].1)).shown = _
          rw [hlook.2]
        rw [hb]
      rw [hsize, hlk]
      refine s_ix (i := (i : Int)) usl37 (sze37 _) (by omega) (by omega) (fa52_0 (s_ld (v := .string S.shown[i].1) (Try.isAgg9 _) g0' ?_))
      refine c_read T.rep h.ok _ (by omega) at_ n hat fun w3 O' I' L' rv hx hrv hrb => ?_
      refine s_ext rfl (s_ext rfl ?_)
      have hread := read_shown (R := wantOf S at_ n (S.shown.take i)) ho hord.nodup hq (hn _ hq) at_ n
      obtain ⟨his3, f3⟩ := T.is1 hx
      have okR := h.ok.read (by omega) S.shown[i].1 at_ n
      have hkeep : ∀ b, (Kf b ∨ sblk wv = some b ∨ sblk sv' = some b) → ¬ ¬ (Kf b ∨ sblk wv = some b ∨ sblk sv' = some b) := fun b hb hn => hn hb
      have hfiles3 := hfiles.fr f3 fun b hb => hkeep b (.inl hb)
      have hwant3 := own_fr hwant f3 fun b hb => hkeep b (.inr (.inl hb))
      have hsome3 := own_fr hsome f3 fun b hb => hkeep b (.inr (.inr hb))
      obtain ⟨b', o', cc'', dd3, ev'', _, g13, gd3⟩ := hfiles3.at_ hif
      have evv' := ev
      rw [ev''] at evv'
      injection evv' with q1 q2 q3
      injection q1 with q1
      injection q1 with q1 q4
      subst q1 q4 q3
      rw [hdata] at gd3
      have h3 : w3.cell? ⟨b', o' + (i : Int).toNat * 2 + 1, none⟩ = some dd3 := by simpa using g13
      obtain ⟨Ad, cd, edd, hcd⟩ := gd3.form
      have hld : ∀ {K : Value → World → Prop}, K dd3 w3 → px P (Instr.loadAt 30 (.pointer (some ⟨b', o' + (i : Int).toNat * 2 + 1, none⟩))) w3 K := fun hK => s_ld (Try.isAgg30 _) h3 hK
      have hdl : ∀ {K : Value → World → Prop}, K (i64 (S.things S.shown[i].2).shown.length) w3 → px P (bSem .len #[30] 3 #[dd3]) w3 K := by
        intro K hK
        rw [edd]
        exact s_len usl30 hK
      have hklt : ∀ b, (Kf b ∨ sblk wv = some b ∨ sblk sv' = some b) → b < w3.heap.size := by obtain ⟨O, I, L, T⟩ := his3; exact T.klt
      have htake := wantOf_take (S := S) (at_ := at_) (n := n) hi
      have hdw := h.dw
      clear hx T hfiles hwant hsome hlook hread gd g0 g0' g1
      by_cases hfit : fits at_ n (S.things S.shown[i].2).shown.length
      · rw [if_pos hfit] at htake
        have hread := read_shown (R := wantOf S at_ n (S.shown.take i)) ho hord.nodup hq (hn _ hq) at_ n
        rw [if_pos hfit] at hread
        rw [hread] at hrv his3 okR ⊢
        have hf := hfit
        unfold fits at hf
        obtain ⟨k1, k2, k3, k4⟩ := hf
        refine s_ge_t (by omega) ?_
        repeat (first | refine pG_sk ?_ | refine pG_skf ?_ | refine pG_un ?_ | refine pG_yes rfl ?_)
        refine s_ge_t (by omega) ?_
        repeat (first | refine pG_sk ?_ | refine pG_skf ?_ | refine pG_un ?_ | refine pG_yes rfl ?_)
        refine s_pick_t ?_
        repeat (first | refine pG_sk ?_ | refine pG_skf ?_ | refine pG_un ?_ | refine pG_yes rfl ?_)
        refine s_ix (i := (i : Int)) usl37 (sze37 _) (by omega) (by omega) ?_
        repeat (first | refine pG_sk ?_ | refine pG_skf ?_ | refine pG_un ?_ | refine pG_yes rfl ?_)
        refine fa52_1 ?_
        repeat (first | refine pG_sk ?_ | refine pG_skf ?_ | refine pG_un ?_ | refine pG_yes rfl ?_)
        refine hld ?_
        repeat (first | refine pG_sk ?_ | refine pG_skf ?_ | refine pG_un ?_ | refine pG_yes rfl ?_)
        refine hdl ?_
        repeat (first | refine pG_sk ?_ | refine pG_skf ?_ | refine pG_un ?_ | refine pG_yes rfl ?_)
        refine s_le_t (by omega) ?_
        repeat (first | refine pG_sk ?_ | refine pG_skf ?_ | refine pG_un ?_ | refine pG_yes rfl ?_)
        refine s_pick_t ?_
        repeat (first | refine pG_sk ?_ | refine pG_skf ?_ | refine pG_un ?_ | refine pG_yes rfl ?_)
        refine s_ix (i := (i : Int)) usl37 (sze37 _) (by omega) (by omega) ?_
        repeat (first | refine pG_sk ?_ | refine pG_skf ?_ | refine pG_un ?_ | refine pG_yes rfl ?_)
        refine fa52_1 ?_
        repeat (first | refine pG_sk ?_ | refine pG_skf ?_ | refine pG_un ?_ | refine pG_yes rfl ?_)
        refine hld ?_
        repeat (first | refine pG_sk ?_ | refine pG_skf ?_ | refine pG_un ?_ | refine pG_yes rfl ?_)
        refine hdl ?_
        repeat (first | refine pG_sk ?_ | refine pG_skf ?_ | refine pG_un ?_ | refine pG_yes rfl ?_)
        refine s_sub_in (by omega) ?_
        repeat (first | refine pG_sk ?_ | refine pG_skf ?_ | refine pG_un ?_ | refine pG_yes rfl ?_)
        refine s_le_t (by omega) ?_
        repeat (first | refine pG_sk ?_ | refine pG_skf ?_ | refine pG_un ?_ | refine pG_yes rfl ?_)
        refine s_pick_t ?_
        refine s_nei_f rfl ?_
        repeat (first | refine pG_sk ?_ | refine pG_skf ?_ | refine pG_un ?_ | refine pG_yes rfl ?_)
        refine s_ix (i := (i : Int)) usl37 (sze37 _) (by omega) (by omega) ?_
        repeat (first | refine pG_sk ?_ | refine pG_skf ?_ | refine pG_un ?_ | refine pG_yes rfl ?_)
        refine fa52_1 ?_
        repeat (first | refine pG_sk ?_ | refine pG_skf ?_ | refine pG_un ?_ | refine pG_yes rfl ?_)
        refine hld ?_
        repeat (first | refine pG_sk ?_ | refine pG_skf ?_ | refine pG_un ?_ | refine pG_yes rfl ?_)
        refine hdl ?_
        repeat (first | refine pG_sk ?_ | refine pG_skf ?_ | refine pG_un ?_ | refine pG_yes rfl ?_)
        refine s_nei_f rfl ?_
        repeat (first | refine pG_sk ?_ | refine pG_skf ?_ | refine pG_un ?_ | refine pG_yes rfl ?_)
        refine s_pick_f ?_
        repeat (first | refine pG_sk ?_ | refine pG_skf ?_ | refine pG_un ?_ | refine pG_yes rfl ?_)
        refine s_eqi_t rfl ?_
        repeat (first | refine pG_sk ?_ | refine pG_skf ?_ | refine pG_un ?_ | refine pG_yes rfl ?_)
        refine s_neb_f rfl ?_
        repeat (first | refine pG_sk ?_ | refine pG_skf ?_ | refine pG_un ?_ | refine pG_yes rfl ?_)
        refine s_pick_f ?_
        repeat (first | refine pG_sk ?_ | refine pG_skf ?_ | refine pG_un ?_ | refine pG_yes rfl ?_)
        refine s_not ?_
        repeat (first | refine pG_sk ?_ | refine pG_skf ?_ | refine pG_un ?_ | refine pG_yes rfl ?_)
        refine s_pick_f ?_
        repeat (first | refine pG_sk ?_ | refine pG_skf ?_ | refine pG_un ?_ | refine pG_yes rfl ?_)
        refine s_pick_f ?_
        repeat (first | refine pG_sk ?_ | refine pG_skf ?_ | refine pG_un ?_ | refine pG_yes rfl ?_)
        refine s_ix (i := (i : Int)) usl37 (sze37 _) (by omega) (by omega) ?_
        repeat (first | refine pG_sk ?_ | refine pG_skf ?_ | refine pG_un ?_ | refine pG_yes rfl ?_)
        refine fa52_1 ?_
        repeat (first | refine pG_sk ?_ | refine pG_skf ?_ | refine pG_un ?_ | refine pG_yes rfl ?_)
        refine hld ?_
        repeat (first | refine pG_sk ?_ | refine pG_skf ?_ | refine pG_un ?_ | refine pG_yes rfl ?_)
        refine s_add_in (by omega) ?_
        repeat (first | refine pG_sk ?_ | refine pG_skf ?_ | refine pG_un ?_ | refine pG_yes rfl ?_)
        rw [edd]
        refine s_sl_lh usl30 (sze30 _) (by omega) (by omega) (by omega) ?_
        repeat (first | refine pG_sk ?_ | refine pG_skf ?_ | refine pG_un ?_ | refine pG_yes rfl ?_)
        rw [edd] at gd3
        have hcut := Src.cut (show Src w3 (.slice Ad (S.things S.shown[i].2).shown.length cd) 1 _ _ from gd3) (l := at_.toNat) (h' := (at_ + n).toNat) (by omega) (by omega)
        have e1 : ((u8s (S.things S.shown[i].2).shown).drop (at_.toNat * 1)).take (((at_ + n).toNat - at_.toNat) * 1) = u8s (((S.things S.shown[i].2).shown.drop at_.toNat).take n.toNat) := by
          have : (at_ + n).toNat - at_.toNat = n.toNat := by omega
          rw [this, Nat.mul_one, Nat.mul_one]
          simp [u8s, List.map_take, List.map_drop]
        have e2' : (at_ + n).toNat - at_.toNat = (((S.things S.shown[i].2).shown.drop at_.toNat).take n.toNat).length := by simp; omega
        rw [e1, e2'] at hcut
        refine c_bytes hrv hcut (by have := List.length_take_le n.toNat ((S.things S.shown[i].2).shown.drop at_.toNat); simp; omega) fun w4 f4 => ?_
        repeat (first | refine pG_sk ?_ | refine pG_skf ?_ | refine pG_un ?_ | refine pG_yes rfl ?_)
        rw [decide_eq_true rfl]
        refine s_not ?_
        repeat (first | refine pG_sk ?_ | refine pG_skf ?_ | refine pG_un ?_ | refine pG_yes rfl ?_)
        refine s_pick_t ?_
        repeat (first | refine pG_sk ?_ | refine pG_skf ?_ | refine pG_un ?_ | refine pG_yes rfl ?_)
        refine s_pick_f (pC_false (pC_true ?_))
        have his4 := his3.quiet f4
        have hfiles4 := hfiles3.fr f4 fun _ _ h => h
        have hwant4 := own_fr hwant3 f4 fun _ _ h => h
        have hsome4 := own_fr hsome3 f4 fun _ _ h => h
        obtain ⟨b2, o2, c2, d2, ev2, g02, _, _⟩ := hfiles4.at_ hif
        have evv2 := ev
        rw [ev2] at evv2
        injection evv2 with q1 q2 q3
        injection q1 with q1
        injection q1 with q1 q4
        subst q1 q4 q3
        rw [hname] at g02
        have g02' : w4.cell? ⟨b2, o2 + (i : Int).toNat * 2 + 0, none⟩ = some (.string S.shown[i].1) := by simpa using g02
        refine s_ix (i := (i : Int)) usl37 (sze37 _) (by omega) (by omega) (fa52_0 (s_ld (v := .string S.shown[i].1) (Try.isAgg9 _) g02' ?_))
        refine px_ok (w' := w4) (v := .agg #[.string S.shown[i].1, i64 at_, i64 n]) (by kernel_rfl) ?_
        refine px_ok (w' := w4.alloc (.cells #[.string S.shown[i].1, i64 at_, i64 n] 86)) (v := .slice (some ⟨w4.heap.size, 0, none⟩) 1 1) (by kernel_rfl) ?_
        have f5 := Fr.alloc no w4 (.cells #[.string S.shown[i].1, i64 at_, i64 n] 86)
        have hlit := own_lit w4 0 86 3 #[.string S.shown[i].1, i64 at_, i64 n] 1 (Nat.zero_le _) (by unfold maxLen; omega) rfl
        show px P _ (w4.alloc (.cells #[.string S.shown[i].1, i64 at_, i64 n] 86)) _
        generalize w4.alloc (.cells #[.string S.shown[i].1, i64 at_, i64 n] 86) = w5 at *
        have his5 := his4.quiet f5
        have hfiles5 := hfiles4.fr f5 fun _ _ h => h
        have hwant5 := own_fr hwant4 f5 fun _ _ h => h
        have hsome5 := own_fr hsome4 f5 fun _ _ h => h
        have z35 : w3.heap.size ≤ w5.heap.size := Nat.le_trans f4.size f5.size
        refine ap60 hwant5 (Src.of_own hlit) (by intro u hu; simp at hu; rcases hu with rfl | rfl | rfl <;> rfl) (by omega) (Nat.zero_le _) fun wv' w6 hwant6 f6 hb6 => ?_
        have hnew : ∀ b, sblk wv' = some b → sblk wv = some b ∨ b = w5.heap.size := by
          intro b hb
          rcases hb6 with e | e
          · left; rw [← e]; exact hb
          · right; rw [e] at hb; injection hb with hb; exact hb.symm
        rw [← ev]
        refine part6 _ w6 wv' sv' (by exact e2) (by exact e3) (by exact e4) (by exact e11) (by exact e14) rfl (by exact e16) (by exact e17) ?_
        have hb63 := his5.base.size
        refine ⟨?_, ?_, ?_, ?_, ?_, ?_, ?_, ?_, ?_⟩
        · exact hfiles5.fr f6 fun b hb e => h.dw b hb e.symm
        · rw [htake]
          simp only [List.length_append, List.flatMap_append]
          exact hwant6
        · exact own_fr hsome5 f6 fun b hb e => hws b e.symm hb
        · rw [htake]
          refine his5.own (f6.mono fun b hb => .inl (.inr (.inl hb.symm))) hlow ?_ ?_
          · rintro b (hb | hb | hb)
            · exact .inl (.inl hb)
            · rcases hnew b hb with e | e
              · exact .inl (.inr (.inl e))
              · exact .inr (by omega)
            · exact .inl (.inr (.inr hb))
          · rintro b (hb | hb | hb)
            · have := hklt b (.inl hb); have := f6.size; omega
            · exact (own_blk_lt hwant6 hb).2
            · have := hklt b (.inr (.inr hb)); have := f6.size; omega
        · rw [htake]; exact okR
        · rintro b (hb | hb | hb)
          · exact hlow b (.inl hb)
          · rcases hnew b hb with e | e
            · exact hlow b (.inr (.inl e))
            · omega
          · exact hlow b (.inr (.inr hb))
        · intro b hb e
          rcases hnew b e with e' | e'
          · exact hdw b hb e'
          · have := hklt b (.inl hb); omega
        · exact hds
        · intro b hb e
          rcases hnew b hb with e' | e'
          · exact hws b e' e
          · have := hklt b (.inr (.inr e)); omega
      · rw [if_neg hfit] at htake
        have hread := read_shown (R := wantOf S at_ n (S.shown.take i)) ho hord.nodup hq (hn _ hq) at_ n
        rw [if_neg hfit] at hread
        rw [hread] at hrv his3 okR ⊢
        have fin : ∀ (ρ' : Env), ρ' 2 = .string p → ρ' 3 = i64 at_ → ρ' 4 = i64 n → ρ' 11 = ptr D → ρ' 14 = lv → ρ' 15 = wv → ρ' 16 = sv' → ρ' 17 = i64 i →
            F8A2 k (fun ρ' w' => ∃ m', m' < m ∧ ∃ (i : Nat) (wv sv : Value), i + m' = S.shown.length ∧ ρ' 2 = .string p ∧ ρ' 3 = i64 at_ ∧ ρ' 4 = i64 n ∧ ρ' 11 = ptr D ∧ ρ' 14 = lv ∧ ρ' 15 = wv ∧ ρ' 16 = sv ∧ ρ' 17 = i64 i ∧ Seen W w' D S p at_ n (c + i) i Kf lv wv sv) [1, 1] ρ' w3 := by
          intro ρ' e2 e3 e4 e11 e14 e15 e16 e17
          refine part6 ρ' w3 wv sv' e2 e3 e4 e11 e14 e15 e16 e17 ⟨?_, ?_, hsome3, ?_, ?_, hlow, hdw, hds, hws⟩
          · exact hfiles3
          · rw [htake]; exact hwant3
          · rw [htake]; exact his3
          · rw [htake]; exact okR
        by_cases k1 : at_ ≥ 0
        · refine s_ge_t k1 ?_
          repeat (first | refine pG_sk ?_ | refine pG_skf ?_ | refine pG_un ?_ | refine pG_yes rfl ?_)
          by_cases k2 : n ≥ 0
          · refine s_ge_t k2 ?_
            repeat (first | refine pG_sk ?_ | refine pG_skf ?_ | refine pG_un ?_ | refine pG_yes rfl ?_)
            refine s_pick_t ?_
            repeat (first | refine pG_sk ?_ | refine pG_skf ?_ | refine pG_un ?_ | refine pG_yes rfl ?_)
            refine s_ix (i := (i : Int)) usl37 (sze37 _) (by omega) (by omega) ?_
            repeat (first | refine pG_sk ?_ | refine pG_skf ?_ | refine pG_un ?_ | refine pG_yes rfl ?_)
            refine fa52_1 ?_
            repeat (first | refine pG_sk ?_ | refine pG_skf ?_ | refine pG_un ?_ | refine pG_yes rfl ?_)
            refine hld ?_
            repeat (first | refine pG_sk ?_ | refine pG_skf ?_ | refine pG_un ?_ | refine pG_yes rfl ?_)
            refine hdl ?_
            repeat (first | refine pG_sk ?_ | refine pG_skf ?_ | refine pG_un ?_ | refine pG_yes rfl ?_)
            by_cases k3 : at_ ≤ (S.things S.shown[i].2).shown.length
            · refine s_le_t k3 ?_
              repeat (first | refine pG_sk ?_ | refine pG_skf ?_ | refine pG_un ?_ | refine pG_yes rfl ?_)
              refine s_pick_t ?_
              repeat (first | refine pG_sk ?_ | refine pG_skf ?_ | refine pG_un ?_ | refine pG_yes rfl ?_)
              refine s_ix (i := (i : Int)) usl37 (sze37 _) (by omega) (by omega) ?_
              repeat (first | refine pG_sk ?_ | refine pG_skf ?_ | refine pG_un ?_ | refine pG_yes rfl ?_)
              refine fa52_1 ?_
              repeat (first | refine pG_sk ?_ | refine pG_skf ?_ | refine pG_un ?_ | refine pG_yes rfl ?_)
              refine hld ?_
              repeat (first | refine pG_sk ?_ | refine pG_skf ?_ | refine pG_un ?_ | refine pG_yes rfl ?_)
              refine hdl ?_
              repeat (first | refine pG_sk ?_ | refine pG_skf ?_ | refine pG_un ?_ | refine pG_yes rfl ?_)
              refine s_sub_in (by omega) ?_
              repeat (first | refine pG_sk ?_ | refine pG_skf ?_ | refine pG_un ?_ | refine pG_yes rfl ?_)
              refine s_le_f (fun k4 => hfit ⟨k1, k2, k3, k4⟩) ?_
              repeat (first | refine pG_sk ?_ | refine pG_skf ?_ | refine pG_un ?_ | refine pG_yes rfl ?_)
              refine s_pick_t ?_
              refine s_nei_f rfl ?_
              repeat (first | refine pG_sk ?_ | refine pG_skf ?_ | refine pG_un ?_ | refine pG_yes rfl ?_)
              refine s_ix (i := (i : Int)) usl37 (sze37 _) (by omega) (by omega) ?_
              repeat (first | refine pG_sk ?_ | refine pG_skf ?_ | refine pG_un ?_ | refine pG_yes rfl ?_)
              refine fa52_1 ?_
              repeat (first | refine pG_sk ?_ | refine pG_skf ?_ | refine pG_un ?_ | refine pG_yes rfl ?_)
              refine hld ?_
              repeat (first | refine pG_sk ?_ | refine pG_skf ?_ | refine pG_un ?_ | refine pG_yes rfl ?_)
              refine hdl ?_
              repeat (first | refine pG_sk ?_ | refine pG_skf ?_ | refine pG_un ?_ | refine pG_yes rfl ?_)
              refine s_nei_f rfl ?_
              repeat (first | refine pG_sk ?_ | refine pG_skf ?_ | refine pG_un ?_ | refine pG_yes rfl ?_)
              refine s_pick_f ?_
              repeat (first | refine pG_sk ?_ | refine pG_skf ?_ | refine pG_un ?_ | refine pG_yes rfl ?_)
              refine s_eqi_f (show ¬ (54 : Int) = 0 by decide) ?_
              repeat (first | refine pG_sk ?_ | refine pG_skf ?_ | refine pG_un ?_ | refine pG_yes rfl ?_)
              refine s_neb_f rfl ?_
              repeat (first | refine pG_sk ?_ | refine pG_skf ?_ | refine pG_un ?_ | refine pG_yes rfl ?_)
              refine s_pick_f ?_
              repeat (first | refine pG_sk ?_ | refine pG_skf ?_ | refine pG_un ?_ | refine pG_yes rfl ?_)
              refine s_not ?_
              repeat (first | refine pG_sk ?_ | refine pG_skf ?_ | refine pG_un ?_ | refine pG_yes rfl ?_)
              refine s_nei_f rfl ?_
              repeat (first | refine pG_sk ?_ | refine pG_skf ?_ | refine pG_un ?_ | refine pG_yes rfl ?_)
              refine s_lenS usl30 hrv ?_
              repeat (first | refine pG_sk ?_ | refine pG_skf ?_ | refine pG_un ?_ | refine pG_yes rfl ?_)
              refine s_nei_f rfl ?_
              repeat (first | refine pG_sk ?_ | refine pG_skf ?_ | refine pG_un ?_ | refine pG_yes rfl ?_)
              refine s_pick_f ?_
              repeat (first | refine pG_sk ?_ | refine pG_skf ?_ | refine pG_un ?_ | refine pG_yes rfl ?_)
              refine s_pick_t ?_
              repeat (first | refine pG_sk ?_ | refine pG_skf ?_ | refine pG_un ?_ | refine pG_yes rfl ?_)
              refine s_pick_f ?_
              repeat (first | refine pG_sk ?_ | refine pG_skf ?_ | refine pG_un ?_ | refine pG_yes rfl ?_)
              refine s_pick_f ?_
              repeat (first | refine pG_sk ?_ | refine pG_skf ?_ | refine pG_un ?_ | refine pG_yes rfl ?_)
              refine s_pick_f (pC_false (pC_false ?_))
              rw [← ev]
              exact fin _ (by exact e2) (by exact e3) (by exact e4) (by exact e11) (by exact e14) (by exact e15) (by exact e16) (by exact e17)
            · refine s_le_f k3 ?_
              repeat (first | refine pG_sk ?_ | refine pG_skf ?_ | refine pG_un ?_ | refine pG_yes rfl ?_)
              refine s_pick_t ?_
              repeat (first | refine pG_sk ?_ | refine pG_skf ?_ | refine pG_un ?_ | refine pG_yes rfl ?_)
              refine s_pick_f ?_
              refine s_nei_f rfl ?_
              repeat (first | refine pG_sk ?_ | refine pG_skf ?_ | refine pG_un ?_ | refine pG_yes rfl ?_)
              refine s_ix (i := (i : Int)) usl37 (sze37 _) (by omega) (by omega) ?_
              repeat (first | refine pG_sk ?_ | refine pG_skf ?_ | refine pG_un ?_ | refine pG_yes rfl ?_)
              refine fa52_1 ?_
              repeat (first | refine pG_sk ?_ | refine pG_skf ?_ | refine pG_un ?_ | refine pG_yes rfl ?_)
              refine hld ?_
              repeat (first | refine pG_sk ?_ | refine pG_skf ?_ | refine pG_un ?_ | refine pG_yes rfl ?_)
              refine hdl ?_
              repeat (first | refine pG_sk ?_ | refine pG_skf ?_ | refine pG_un ?_ | refine pG_yes rfl ?_)
              refine s_nei_f rfl ?_
              repeat (first | refine pG_sk ?_ | refine pG_skf ?_ | refine pG_un ?_ | refine pG_yes rfl ?_)
              refine s_pick_f ?_
              repeat (first | refine pG_sk ?_ | refine pG_skf ?_ | refine pG_un ?_ | refine pG_yes rfl ?_)
              refine s_eqi_f (show ¬ (54 : Int) = 0 by decide) ?_
              repeat (first | refine pG_sk ?_ | refine pG_skf ?_ | refine pG_un ?_ | refine pG_yes rfl ?_)
              refine s_neb_f rfl ?_
              repeat (first | refine pG_sk ?_ | refine pG_skf ?_ | refine pG_un ?_ | refine pG_yes rfl ?_)
              refine s_pick_f ?_
              repeat (first | refine pG_sk ?_ | refine pG_skf ?_ | refine pG_un ?_ | refine pG_yes rfl ?_)
              refine s_not ?_
              repeat (first | refine pG_sk ?_ | refine pG_skf ?_ | refine pG_un ?_ | refine pG_yes rfl ?_)
              refine s_nei_f rfl ?_
              repeat (first | refine pG_sk ?_ | refine pG_skf ?_ | refine pG_un ?_ | refine pG_yes rfl ?_)
              refine s_lenS usl30 hrv ?_
              repeat (first | refine pG_sk ?_ | refine pG_skf ?_ | refine pG_un ?_ | refine pG_yes rfl ?_)
              refine s_nei_f rfl ?_
              repeat (first | refine pG_sk ?_ | refine pG_skf ?_ | refine pG_un ?_ | refine pG_yes rfl ?_)
              refine s_pick_f ?_
              repeat (first | refine pG_sk ?_ | refine pG_skf ?_ | refine pG_un ?_ | refine pG_yes rfl ?_)
              refine s_pick_t ?_
              repeat (first | refine pG_sk ?_ | refine pG_skf ?_ | refine pG_un ?_ | refine pG_yes rfl ?_)
              refine s_pick_f ?_
              repeat (first | refine pG_sk ?_ | refine pG_skf ?_ | refine pG_un ?_ | refine pG_yes rfl ?_)
              refine s_pick_f ?_
              repeat (first | refine pG_sk ?_ | refine pG_skf ?_ | refine pG_un ?_ | refine pG_yes rfl ?_)
              refine s_pick_f (pC_false (pC_false ?_))
              rw [← ev]
              exact fin _ (by exact e2) (by exact e3) (by exact e4) (by exact e11) (by exact e14) (by exact e15) (by exact e16) (by exact e17)
          · refine s_ge_f k2 ?_
            repeat (first | refine pG_sk ?_ | refine pG_skf ?_ | refine pG_un ?_ | refine pG_yes rfl ?_)
            refine s_pick_t ?_
            repeat (first | refine pG_sk ?_ | refine pG_skf ?_ | refine pG_un ?_ | refine pG_yes rfl ?_)
            refine s_pick_f ?_
            repeat (first | refine pG_sk ?_ | refine pG_skf ?_ | refine pG_un ?_ | refine pG_yes rfl ?_)
            refine s_pick_f ?_
            refine s_nei_f rfl ?_
            repeat (first | refine pG_sk ?_ | refine pG_skf ?_ | refine pG_un ?_ | refine pG_yes rfl ?_)
            refine s_ix (i := (i : Int)) usl37 (sze37 _) (by omega) (by omega) ?_
            repeat (first | refine pG_sk ?_ | refine pG_skf ?_ | refine pG_un ?_ | refine pG_yes rfl ?_)
            refine fa52_1 ?_
            repeat (first | refine pG_sk ?_ | refine pG_skf ?_ | refine pG_un ?_ | refine pG_yes rfl ?_)
            refine hld ?_
            repeat (first | refine pG_sk ?_ | refine pG_skf ?_ | refine pG_un ?_ | refine pG_yes rfl ?_)
            refine hdl ?_
            repeat (first | refine pG_sk ?_ | refine pG_skf ?_ | refine pG_un ?_ | refine pG_yes rfl ?_)
            refine s_nei_f rfl ?_
            repeat (first | refine pG_sk ?_ | refine pG_skf ?_ | refine pG_un ?_ | refine pG_yes rfl ?_)
            refine s_pick_f ?_
            repeat (first | refine pG_sk ?_ | refine pG_skf ?_ | refine pG_un ?_ | refine pG_yes rfl ?_)
            refine s_eqi_f (show ¬ (54 : Int) = 0 by decide) ?_
            repeat (first | refine pG_sk ?_ | refine pG_skf ?_ | refine pG_un ?_ | refine pG_yes rfl ?_)
            refine s_neb_f rfl ?_
            repeat (first | refine pG_sk ?_ | refine pG_skf ?_ | refine pG_un ?_ | refine pG_yes rfl ?_)
            refine s_pick_f ?_
            repeat (first | refine pG_sk ?_ | refine pG_skf ?_ | refine pG_un ?_ | refine pG_yes rfl ?_)
            refine s_not ?_
            repeat (first | refine pG_sk ?_ | refine pG_skf ?_ | refine pG_un ?_ | refine pG_yes rfl ?_)
            refine s_nei_f rfl ?_
            repeat (first | refine pG_sk ?_ | refine pG_skf ?_ | refine pG_un ?_ | refine pG_yes rfl ?_)
            refine s_lenS usl30 hrv ?_
            repeat (first | refine pG_sk ?_ | refine pG_skf ?_ | refine pG_un ?_ | refine pG_yes rfl ?_)
            refine s_nei_f rfl ?_
            repeat (first | refine pG_sk ?_ | refine pG_skf ?_ | refine pG_un ?_ | refine pG_yes rfl ?_)
            refine s_pick_f ?_
            repeat (first | refine pG_sk ?_ | refine pG_skf ?_ | refine pG_un ?_ | refine pG_yes rfl ?_)
            refine s_pick_t ?_
            repeat (first | refine pG_sk ?_ | refine pG_skf ?_ | refine pG_un ?_ | refine pG_yes rfl ?_)
            refine s_pick_f ?_
            repeat (first | refine pG_sk ?_ | refine pG_skf ?_ | refine pG_un ?_ | refine pG_yes rfl ?_)
            refine s_pick_f ?_
            repeat (first | refine pG_sk ?_ | refine pG_skf ?_ | refine pG_un ?_ | refine pG_yes rfl ?_)
            refine s_pick_f (pC_false (pC_false ?_))
            rw [← ev]
            exact fin _ (by exact e2) (by exact e3) (by exact e4) (by exact e11) (by exact e14) (by exact e15) (by exact e16) (by exact e17)
        · refine s_ge_f k1 ?_
          repeat (first | refine pG_sk ?_ | refine pG_skf ?_ | refine pG_un ?_ | refine pG_yes rfl ?_)
          refine s_pick_f ?_
          repeat (first | refine pG_sk ?_ | refine pG_skf ?_ | refine pG_un ?_ | refine pG_yes rfl ?_)
          refine s_pick_f ?_
          repeat (first | refine pG_sk ?_ | refine pG_skf ?_ | refine pG_un ?_ | refine pG_yes rfl ?_)
          refine s_pick_f ?_
          refine s_nei_f rfl ?_
          repeat (first | refine pG_sk ?_ | refine pG_skf ?_ | refine pG_un ?_ | refine pG_yes rfl ?_)
          refine s_ix (i := (i : Int)) usl37 (sze37 _) (by omega) (by omega) ?_
          repeat (first | refine pG_sk ?_ | refine pG_skf ?_ | refine pG_un ?_ | refine pG_yes rfl ?_)
          refine fa52_1 ?_
          repeat (first | refine pG_sk ?_ | refine pG_skf ?_ | refine pG_un ?_ | refine pG_yes rfl ?_)
          refine hld ?_
          repeat (first | refine pG_sk ?_ | refine pG_skf ?_ | refine pG_un ?_ | refine pG_yes rfl ?_)
          refine hdl ?_
          repeat (first | refine pG_sk ?_ | refine pG_skf ?_ | refine pG_un ?_ | refine pG_yes rfl ?_)
          refine s_nei_f rfl ?_
          repeat (first | refine pG_sk ?_ | refine pG_skf ?_ | refine pG_un ?_ | refine pG_yes rfl ?_)
          refine s_pick_f ?_
          repeat (first | refine pG_sk ?_ | refine pG_skf ?_ | refine pG_un ?_ | refine pG_yes rfl ?_)
          refine s_eqi_f (show ¬ (54 : Int) = 0 by decide) ?_
          repeat (first | refine pG_sk ?_ | refine pG_skf ?_ | refine pG_un ?_ | refine pG_yes rfl ?_)
          refine s_neb_f rfl ?_
          repeat (first | refine pG_sk ?_ | refine pG_skf ?_ | refine pG_un ?_ | refine pG_yes rfl ?_)
          refine s_pick_f ?_
          repeat (first | refine pG_sk ?_ | refine pG_skf ?_ | refine pG_un ?_ | refine pG_yes rfl ?_)
          refine s_not ?_
          repeat (first | refine pG_sk ?_ | refine pG_skf ?_ | refine pG_un ?_ | refine pG_yes rfl ?_)
          refine s_nei_f rfl ?_
          repeat (first | refine pG_sk ?_ | refine pG_skf ?_ | refine pG_un ?_ | refine pG_yes rfl ?_)
          refine s_lenS usl30 hrv ?_
          repeat (first | refine pG_sk ?_ | refine pG_skf ?_ | refine pG_un ?_ | refine pG_yes rfl ?_)
          refine s_nei_f rfl ?_
          repeat (first | refine pG_sk ?_ | refine pG_skf ?_ | refine pG_un ?_ | refine pG_yes rfl ?_)
          refine s_pick_f ?_
          repeat (first | refine pG_sk ?_ | refine pG_skf ?_ | refine pG_un ?_ | refine pG_yes rfl ?_)
          refine s_pick_t ?_
          repeat (first | refine pG_sk ?_ | refine pG_skf ?_ | refine pG_un ?_ | refine pG_yes rfl ?_)
          refine s_pick_f ?_
          repeat (first | refine pG_sk ?_ | refine pG_skf ?_ | refine pG_un ?_ | refine pG_yes rfl ?_)
          refine s_pick_f ?_
          repeat (first | refine pG_sk ?_ | refine pG_skf ?_ | refine pG_un ?_ | refine pG_yes rfl ?_)
          refine s_pick_f (pC_false (pC_false ?_))
          rw [← ev]
          exact fin _ (by exact e2) (by exact e3) (by exact e4) (by exact e11) (by exact e14) (by exact e15) (by exact e16) (by exact e17)
    -- the name
    have part3 : ∀ (ρ' : Env) w', ρ' 2 = .string p → ρ' 3 = i64 at_ → ρ' 4 = i64 n → ρ' 11 = ptr D → ρ' 14 = lv → ρ' 15 = wv → ρ' 16 = sv → ρ' 17 = i64 i → Fr no w w' → hasP p S.shown[i].1 = false →
        F8A2 k (fun ρ' w' => ∃ m', m' < m ∧ ∃ (i : Nat) (wv sv : Value), i + m' = S.shown.length ∧ ρ' 2 = .string p ∧ ρ' 3 = i64 at_ ∧ ρ' 4 = i64 n ∧ ρ' 11 = ptr D ∧ ρ' 14 = lv ∧ ρ' 15 = wv ∧ ρ' 16 = sv ∧ ρ' 17 = i64 i ∧ Seen W w' D S p at_ n (c + i) i Kf lv wv sv) [1, 0, 0, 1, 1] ρ' w' := by
      intro ρ' w' e2 e3 e4 e11 e14 e15 e16 e17 hf hp
      have hq' := h.quiet hf
      refine part4 ρ' w' sv e2 e3 e4 e11 e14 e15 e16 e17 hq'.files hq'.want ?_ hq'.is1 hq'.low hq'.ds hq'.ws
      rw [kept_take hi, if_neg (by rw [hp]; decide)]
      exact hq'.some_
    have fd : Fr no w w.drew := Fr.drew _ _
    have hd := h.quiet fd
    obtain ⟨b, o, cc', dd, ev', g0, _, _⟩ := hd.files.at_ hif
    have evv := ev
    rw [ev'] at evv
    injection evv with q1 q2 q3
    subst q1 q3
    rw [hname] at g0
    have g0' : w.drew.cell? ⟨b, o + (i : Int).toNat * 2 + 0, none⟩ = some (.string S.shown[i].1) := by simpa using g0
    have hsz := isName_small (hn _ hq)
    rw [ev]
    by_cases h0 : i = 0
    · refine ⟨fun _ => True, trivial, ?_⟩
      refine q_of _ (fun w_ hS => s_gt_f (by omega) ⟨rfl, rfl⟩) ?_
      repeat (first | refine pGq_sk ?_ | refine pGq_skf ?_ | refine pGq_un ?_ | refine pGq_yes rfl ?_)
      refine q_of _ (fun w_ hS => s_pick_f ⟨rfl, rfl⟩) (pC_false ?_)
      refine s_ix (i := (i : Int)) usl37 (sze37 _) (by omega) (by omega) (fa52_0 (s_ld (v := .string S.shown[i].1) (Try.isAgg9 _) (g0') ?_))
      refine s_lens Try.underlying9 (s_lens Try.underlying9 ?_)
      by_cases hpl : p.size ≤ S.shown[i].1.size
      · refine s_ge_t (by omega) ?_
        repeat (first | refine pG_sk ?_ | refine pG_skf ?_ | refine pG_un ?_ | refine pG_yes rfl ?_)
        refine s_ix (i := (i : Int)) usl37 (sze37 _) (by omega) (by omega) ?_
        repeat (first | refine pG_sk ?_ | refine pG_skf ?_ | refine pG_un ?_ | refine pG_yes rfl ?_)
        refine fa52_0 ?_
        repeat (first | refine pG_sk ?_ | refine pG_skf ?_ | refine pG_un ?_ | refine pG_yes rfl ?_)
        refine s_ld (v := .string S.shown[i].1) (Try.isAgg9 _) (g0') ?_
        repeat (first | refine pG_sk ?_ | refine pG_skf ?_ | refine pG_un ?_ | refine pG_yes rfl ?_)
        refine s_lens Try.underlying9 ?_
        repeat (first | refine pG_sk ?_ | refine pG_skf ?_ | refine pG_un ?_ | refine pG_yes rfl ?_)
        refine s_cutS (by omega) (by omega) ?_
        repeat (first | refine pG_sk ?_ | refine pG_skf ?_ | refine pG_un ?_ | refine pG_yes rfl ?_)
        refine s_eqs ?_
        refine s_pick_t ?_
        by_cases hpe : S.shown[i].1.extract 0 ((p.size : Int).toNat) = p
        · rw [decide_eq_true hpe]
          have hp : hasP p S.shown[i].1 = true := by
            unfold hasP
            rw [decide_eq_true hpl, decide_eq_true (by simpa using hpe)]; rfl
          refine pC_true ?_
          refine s_ix (i := (i : Int)) usl37 (sze37 _) (by omega) (by omega) (fa52_0 (s_ld (v := .string S.shown[i].1) (Try.isAgg9 _) (g0') ?_))
          refine px_ok (w' := w.drew.alloc (.cells #[.string S.shown[i].1] 9)) (v := .slice (some ⟨w.drew.heap.size, 0, none⟩) 1 1) (by kernel_rfl) ?_
          have f5 := Fr.alloc no w.drew (.cells #[.string S.shown[i].1] 9)
          have hlit := own_lit w.drew 0 9 1 #[.string S.shown[i].1] 1 (Nat.zero_le _) (by unfold maxLen; omega) rfl
          show px P _ (w.drew.alloc (.cells #[.string S.shown[i].1] 9)) _
          generalize w.drew.alloc (.cells #[.string S.shown[i].1] 9) = w5 at *
          have h5 := hd.quiet f5
          refine ap22 h5.some_ (Src.of_own hlit) (by intro u hu; simp at hu; subst hu; rfl) (by omega) (Nat.zero_le _) fun sv' w6 hsome6 f6 hb6 => ?_
          have hnew : ∀ b, sblk sv' = some b → sblk sv = some b ∨ b = w5.heap.size := by
            intro b hb
            rcases hb6 with e | e
            · left; rw [← e]; exact hb
            · right; rw [e] at hb; injection hb with hb; exact hb.symm
          have hb63 := h5.is1.base.size
          have hlt5 := h5.lt
          rw [← ev]
          refine part4 _ w6 sv' (by exact e2) (by exact e3) (by exact e4) (by exact e11) (by exact e14) (by exact e15) rfl (by exact e17) (h5.files.fr f6 fun b hb e => h5.ds b hb e.symm) (own_fr h5.want f6 fun b hb e => h5.ws b hb e.symm) ?_ ?_ ?_ ?_ ?_
          · rw [kept_take hi, if_pos hp]
            simp only [List.length_append, List.map_append]
            exact hsome6
          · refine h5.is1.own (f6.mono fun b hb => .inl (.inr (.inr hb.symm))) h5.low ?_ ?_
            · rintro b (hb | hb | hb)
              · exact .inl (.inl hb)
              · exact .inl (.inr (.inl hb))
              · rcases hnew b hb with e | e
                · exact .inl (.inr (.inr e))
                · exact .inr (by omega)
            · rintro b (hb | hb | hb)
              · have := hlt5 b (.inl hb); have := f6.size; omega
              · have := hlt5 b (.inr (.inl hb)); have := f6.size; omega
              · exact (own_blk_lt hsome6 hb).2
          · rintro b (hb | hb | hb)
            · exact h5.low b (.inl hb)
            · exact h5.low b (.inr (.inl hb))
            · rcases hnew b hb with e | e
              · exact h5.low b (.inr (.inr e))
              · omega
          · intro b hb e
            rcases hnew b e with e' | e'
            · exact h5.ds b hb e'
            · have := hlt5 b (.inl hb); omega
          · intro b hb e
            rcases hnew b e with e' | e'
            · exact h5.ws b hb e'
            · have := hlt5 b (.inr (.inl hb)); omega
        · rw [decide_eq_false hpe]
          refine pC_false ?_
          rw [← ev]
          refine part3 _ w.drew (by exact e2) (by exact e3) (by exact e4) (by exact e11) (by exact e14) (by exact e15) (by exact e16) (by exact e17) fd ?_
          unfold hasP
          rw [decide_eq_false (p := S.shown[i].1.extract 0 p.size = p) (by simpa using hpe), Bool.and_false]
      · refine s_ge_f (by omega) ?_
        repeat (first | refine pG_sk ?_ | refine pG_skf ?_ | refine pG_un ?_ | refine pG_yes rfl ?_)
        refine s_pick_f (pC_false ?_)
        rw [← ev]
        refine part3 _ w.drew (by exact e2) (by exact e3) (by exact e4) (by exact e11) (by exact e14) (by exact e15) (by exact e16) (by exact e17) fd ?_
        unfold hasP
        rw [decide_eq_false hpl, Bool.false_and]
    · obtain ⟨b2, o2, c2, d2, ev2, g2, _, _⟩ := hd.files.at_ (show i - 1 < S.files.length by omega)
      have evv2 := ev
      rw [ev2] at evv2
      injection evv2 with q1 q2 q3
      injection q1 with q1
      injection q1 with q1 q4
      subst q1 q4 q3
      have hi1 : i - 1 < S.shown.length := by omega
      rw [(fst_files S (by omega) hi1).1] at g2
      have ei1 : ((i : Int) - 1).toNat = i - 1 := by omega
      have g2' : w.drew.cell? ⟨b2, o2 + ((i : Int) - 1).toNat * 2 + 0, none⟩ = some (.string S.shown[i - 1].1) := by rw [ei1]; simpa using g2
      have hlt := ordered_at hord (i := i - 1) (by omega)
      have hlt' : blt S.shown[i - 1].1 S.shown[i].1 = true := by
        have e : i - 1 + 1 = i := by omega
        simp only [e] at hlt
        exact hlt
      refine ⟨fun w_ => w_.cell? ⟨b2, o2 + ((i : Int) - 1).toNat * 2 + 0, none⟩ = some (.string S.shown[i - 1].1) ∧ w_.cell? ⟨b2, o2 + (i : Int).toNat * 2 + 0, none⟩ = some (.string S.shown[i].1), ⟨g2', g0'⟩, ?_⟩
      refine q_of _ (fun w_ hS => s_gt_t (by omega) ⟨rfl, rfl⟩) ?_
      repeat (first | refine pGq_sk ?_ | refine pGq_skf ?_ | refine pGq_un ?_ | refine pGq_yes rfl ?_)
      refine q_of (i64 ((i : Int) - 1)) (fun w_ hS => s_sub_in (by omega) ⟨rfl, rfl⟩) ?_
      repeat (first | refine pGq_sk ?_ | refine pGq_skf ?_ | refine pGq_un ?_ | refine pGq_yes rfl ?_)
      refine q_of (.pointer (some ⟨b2, o2 + ((i : Int) - 1).toNat * 2, none⟩)) (fun w_ hS => s_ix (i := ((i : Int) - 1 : Int)) usl37 (sze37 _) (by omega) (by omega) ⟨rfl, rfl⟩) ?_
      repeat (first | refine pGq_sk ?_ | refine pGq_skf ?_ | refine pGq_un ?_ | refine pGq_yes rfl ?_)
      refine q_of (.pointer (some ⟨b2, o2 + ((i : Int) - 1).toNat * 2 + 0, none⟩)) (fun w_ hS => fa52_0 ⟨rfl, rfl⟩) ?_
      repeat (first | refine pGq_sk ?_ | refine pGq_skf ?_ | refine pGq_un ?_ | refine pGq_yes rfl ?_)
      refine q_of (.string S.shown[i - 1].1) (fun w_ hS => s_ld (Try.isAgg9 _) hS.1 ⟨rfl, rfl⟩) ?_
      repeat (first | refine pGq_sk ?_ | refine pGq_skf ?_ | refine pGq_un ?_ | refine pGq_yes rfl ?_)
      refine q_of (.pointer (some ⟨b2, o2 + (i : Int).toNat * 2, none⟩)) (fun w_ hS => s_ix (i := (i : Int)) usl37 (sze37 _) (by omega) (by omega) ⟨rfl, rfl⟩) ?_
      repeat (first | refine pGq_sk ?_ | refine pGq_skf ?_ | refine pGq_un ?_ | refine pGq_yes rfl ?_)
      refine q_of (.pointer (some ⟨b2, o2 + (i : Int).toNat * 2 + 0, none⟩)) (fun w_ hS => fa52_0 ⟨rfl, rfl⟩) ?_
      repeat (first | refine pGq_sk ?_ | refine pGq_skf ?_ | refine pGq_un ?_ | refine pGq_yes rfl ?_)
      refine q_of (.string S.shown[i].1) (fun w_ hS => s_ld (Try.isAgg9 _) hS.2 ⟨rfl, rfl⟩) ?_
      repeat (first | refine pGq_sk ?_ | refine pGq_skf ?_ | refine pGq_un ?_ | refine pGq_yes rfl ?_)
      refine q_of _ (fun w_ hS => s_ges ⟨rfl, rfl⟩) ?_
      rw [hlt']
      refine q_of _ (fun w_ hS => s_pick_t ⟨rfl, rfl⟩) (pC_false ?_)
      refine s_ix (i := (i : Int)) usl37 (sze37 _) (by omega) (by omega) (fa52_0 (s_ld (v := .string S.shown[i].1) (Try.isAgg9 _) (g0') ?_))
      refine s_lens Try.underlying9 (s_lens Try.underlying9 ?_)
      by_cases hpl : p.size ≤ S.shown[i].1.size
      · refine s_ge_t (by omega) ?_
        repeat (first | refine pG_sk ?_ | refine pG_skf ?_ | refine pG_un ?_ | refine pG_yes rfl ?_)
        refine s_ix (i := (i : Int)) usl37 (sze37 _) (by omega) (by omega) ?_
        repeat (first | refine pG_sk ?_ | refine pG_skf ?_ | refine pG_un ?_ | refine pG_yes rfl ?_)
        refine fa52_0 ?_
        repeat (first | refine pG_sk ?_ | refine pG_skf ?_ | refine pG_un ?_ | refine pG_yes rfl ?_)
        refine s_ld (v := .string S.shown[i].1) (Try.isAgg9 _) (g0') ?_
        repeat (first | refine pG_sk ?_ | refine pG_skf ?_ | refine pG_un ?_ | refine pG_yes rfl ?_)
        refine s_lens Try.underlying9 ?_
        repeat (first | refine pG_sk ?_ | refine pG_skf ?_ | refine pG_un ?_ | refine pG_yes rfl ?_)
        refine s_cutS (by omega) (by omega) ?_
        repeat (first | refine pG_sk ?_ | refine pG_skf ?_ | refine pG_un ?_ | refine pG_yes rfl ?_)
        refine s_eqs ?_
        refine s_pick_t ?_
        by_cases hpe : S.shown[i].1.extract 0 ((p.size : Int).toNat) = p
        · rw [decide_eq_true hpe]
          have hp : hasP p S.shown[i].1 = true := by
            unfold hasP
            rw [decide_eq_true hpl, decide_eq_true (by simpa using hpe)]; rfl
          refine pC_true ?_
          refine s_ix (i := (i : Int)) usl37 (sze37 _) (by omega) (by omega) (fa52_0 (s_ld (v := .string S.shown[i].1) (Try.isAgg9 _) (g0') ?_))
          refine px_ok (w' := w.drew.alloc (.cells #[.string S.shown[i].1] 9)) (v := .slice (some ⟨w.drew.heap.size, 0, none⟩) 1 1) (by kernel_rfl) ?_
          have f5 := Fr.alloc no w.drew (.cells #[.string S.shown[i].1] 9)
          have hlit := own_lit w.drew 0 9 1 #[.string S.shown[i].1] 1 (Nat.zero_le _) (by unfold maxLen; omega) rfl
          show px P _ (w.drew.alloc (.cells #[.string S.shown[i].1] 9)) _
          generalize w.drew.alloc (.cells #[.string S.shown[i].1] 9) = w5 at *
          have h5 := hd.quiet f5
          refine ap22 h5.some_ (Src.of_own hlit) (by intro u hu; simp at hu; subst hu; rfl) (by omega) (Nat.zero_le _) fun sv' w6 hsome6 f6 hb6 => ?_
          have hnew : ∀ b, sblk sv' = some b → sblk sv = some b ∨ b = w5.heap.size := by
            intro b hb
            rcases hb6 with e | e
            · left; rw [← e]; exact hb
            · right; rw [e] at hb; injection hb with hb; exact hb.symm
          have hb63 := h5.is1.base.size
          have hlt5 := h5.lt
          rw [← ev]
          refine part4 _ w6 sv' (by exact e2) (by exact e3) (by exact e4) (by exact e11) (by exact e14) (by exact e15) rfl (by exact e17) (h5.files.fr f6 fun b hb e => h5.ds b hb e.symm) (own_fr h5.want f6 fun b hb e => h5.ws b hb e.symm) ?_ ?_ ?_ ?_ ?_
          · rw [kept_take hi, if_pos hp]
            simp only [List.length_append, List.map_append]
            exact hsome6
          · refine h5.is1.own (f6.mono fun b hb => .inl (.inr (.inr hb.symm))) h5.low ?_ ?_
            · rintro b (hb | hb | hb)
              · exact .inl (.inl hb)
              · exact .inl (.inr (.inl hb))
              · rcases hnew b hb with e | e
                · exact .inl (.inr (.inr e))
                · exact .inr (by omega)
            · rintro b (hb | hb | hb)
              · have := hlt5 b (.inl hb); have := f6.size; omega
              · have := hlt5 b (.inr (.inl hb)); have := f6.size; omega
              · exact (own_blk_lt hsome6 hb).2
          · rintro b (hb | hb | hb)
            · exact h5.low b (.inl hb)
            · exact h5.low b (.inr (.inl hb))
            · rcases hnew b hb with e | e
              · exact h5.low b (.inr (.inr e))
              · omega
          · intro b hb e
            rcases hnew b e with e' | e'
            · exact h5.ds b hb e'
            · have := hlt5 b (.inl hb); omega
          · intro b hb e
            rcases hnew b e with e' | e'
            · exact h5.ws b hb e'
            · have := hlt5 b (.inr (.inl hb)); omega
        · rw [decide_eq_false hpe]
          refine pC_false ?_
          rw [← ev]
          refine part3 _ w.drew (by exact e2) (by exact e3) (by exact e4) (by exact e11) (by exact e14) (by exact e15) (by exact e16) (by exact e17) fd ?_
          unfold hasP
          rw [decide_eq_false (p := S.shown[i].1.extract 0 p.size = p) (by simpa using hpe), Bool.and_false]
      · refine s_ge_f (by omega) ?_
        repeat (first | refine pG_sk ?_ | refine pG_skf ?_ | refine pG_un ?_ | refine pG_yes rfl ?_)
        refine s_pick_f (pC_false ?_)
        rw [← ev]
        refine part3 _ w.drew (by exact e2) (by exact e3) (by exact e4) (by exact e11) (by exact e14) (by exact e15) (by exact e16) (by exact e17) fd ?_
        unfold hasP
        rw [decide_eq_false hpl, Bool.false_and]
  · refine s_lt_f (by omega) (pC_false ?_)
    rw [F8_5_eq]
    have e : i = S.shown.length := by omega
    subst e
    exact hk _ w wv sv e2 e11 e14 e15 e16 h
end
end Go.Proofs.Ytcdcojpfealppaa
