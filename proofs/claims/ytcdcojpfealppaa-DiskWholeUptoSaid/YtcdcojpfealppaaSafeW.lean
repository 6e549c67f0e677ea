/- DiskSafe, walked. -/
import Derived.Test.YtcdcojpfealppaaXSafe
import Derived.Test.YtcdcojpfealppaaLong
import Derived.Test.YtcdcojpfealppaaTwin
set_option linter.unusedVariables false
set_option linter.unusedSimpArgs false
set_option maxRecDepth 100000
namespace Go.Proofs.Ytcdcojpfealppaa
open Go Go.Proofs Go.RowKit Go.Proofs.XRed Go.Proofs.XHeap Go.Proofs.XMaps Go.Proofs.XSlices Go.Proofs.XDisk Go.Proofs.XCalls Go.Proofs.XRange Go.Proofs.XKeys
section
variable {W w : World} {D : Nat} {S S' : AD} {O I : Nat → Prop} {L : Lay} {k : Value → World → Prop}
theorem run_ldStep {b o : Nat} {x : StepA} {dv pv : Value} (h : ∀ j u, (stepCells x dv pv)[j]? = some u → w.cell? ⟨b, o + j, none⟩ = some u) : (Instr.loadAt 59 (.pointer (some ⟨b, o, none⟩))).run P w = .ok (stepVal x dv pv) w := by
  have := run_loadCells_list (P := P) w ⟨b, o, none⟩ (stepCells x dv pv) (fun j v hj => by rw [add_at]; exact h j v hj)
  have e : (stepCells x dv pv).length = 10 := rfl
  rw [e] at this
  have hr : (Instr.loadAt 59 (.pointer (some ⟨b, o, none⟩))).run P w = .ok (.agg (stepCells x dv pv).toArray) w := by
    simp [Instr.loadAt, Instr.sureAddr, loadVar, Try.isAgg59, Try.sizeOf59, this, Result.andThen]
  exact hr
/-- Element i of a script. -/
theorem s_step {v : Value} {l : Script} {i : Nat} (h : ScriptV w v l) (hi : i < l.length) {kk : Value → Value → World → Prop} (hk : ∀ p, kk p (stepVal l[i].1 l[i].2.1 l[i].2.2) w) :
    px P (Instr.indexAt 55 v (i64 i)) w fun p w => px P (Instr.loadAt 59 p) w (kk p) := by
  obtain ⟨b, o, c, ev, hc⟩ := h.at_ hi
  rw [ev]
  refine s_ix (i := (i : Int)) usl55 (sze55 _) (by omega) (by omega) ?_
  exact px_ok (run_ldStep (x := l[i].1) (dv := l[i].2.1) (pv := l[i].2.2) (fun j u hj => by have := hc j u hj; simpa using this)) (hk _)
theorem safes_small {c : Nat} {S : AD} (ok : S.Ok c) : S.safes.length ≤ 4611686018427387904 ∧ ∀ f ∈ S.safes, f.2.length ≤ 4611686018427387904 := by
  refine ⟨?_, fun f hf => ?_⟩
  · have := ok.turns.len.2
    unfold AD.safes
    rw [List.length_map]; omega
  · obtain ⟨p, hp, rfl⟩ := List.mem_map.1 hf
    have := (ok.thing p.2 (.inr (.inl ⟨p.1, hp⟩))).ok.len.2
    show (S.things p.2).safe.length ≤ _
    omega
theorem files_small {c : Nat} {S : AD} (ok : S.Ok c) : S.files.length ≤ 4611686018427387904 ∧ ∀ f ∈ S.files, f.2.length ≤ 4611686018427387904 := by
  refine ⟨?_, fun f hf => ?_⟩
  · have := ok.turns.len.1
    unfold AD.files
    rw [List.length_map]; omega
  · obtain ⟨p, hp, rfl⟩ := List.mem_map.1 hf
    have := (ok.thing p.2 (.inl ⟨p.1, hp⟩)).ok.len.1
    show (S.things p.2).shown.length ≤ _
    omega
theorem shownMax {c : Nat} {S : AD} (ok : S.Ok c) : ∀ p ∈ S.shown, p.1.size ≤ maxLen := fun p hp => by have := ok.shownNames p hp; unfold maxLen; omega
theorem safeMax {c : Nat} {S : AD} (ok : S.Ok c) : ∀ p ∈ S.safe, p.1.size ≤ maxLen := fun p hp => by have := ok.sn p hp; unfold maxLen; omega
theorem crashMax {c : Nat} {S : AD} (ok : S.Ok c) (picks : List Int) : ∀ p ∈ S.crashNames picks, p.1.size ≤ maxLen := fun p hp => by have := ok.crashNames_small picks p hp; unfold maxLen; omega
/-- A twin, as one disk. -/
theorem Is1.twin {w w' : World} {D' : Nat} {L' : Lay} (h : DRep w' D' S (fun b => w.heap.size ≤ b ∧ b < w'.heap.size) I L') (hf : Fr no w w') : Is1 w w' D' S no :=
  ⟨_, _, _, h, fun b hb => hb.1, fun b hb => hb.elim, fun b hb => hb.elim, hf⟩
/-- A row of files in the blocks K. -/
def FilesIn (w : World) (K : Nat → Prop) (v : Value) (fs : List (ByteArray × Bytes)) : Prop :=
  ∃ ps : List (ByteArray × Value), All2 (fun f p => f.1 = p.1 ∧ SBytes w p.2 f.2 ∧ ∀ b, sblk p.2 = some b → K b ∧ b < w.heap.size ∧ sblk v ≠ some b) fs ps ∧ w.ownsRow 0 52 2 v fs.length (ps.flatMap fun p => [.string p.1, p.2]) ∧ ∀ b, sblk v = some b → K b
theorem filesIn_of {w : World} {B : Nat} {v : Value} {fs : List (ByteArray × Bytes)} (h : FilesV w B v fs) : FilesIn w (fun b => B ≤ b ∧ b < w.heap.size) v fs := by
  obtain ⟨ps, h1, h2, h3⟩ := h
  exact ⟨ps, all2_imp h1 fun f p ⟨a, b, c⟩ => ⟨a, b, fun i hi => ⟨⟨(c i hi).1, (c i hi).2.1⟩, (c i hi).2⟩⟩, h2, fun i hi => ⟨h3 i hi, (own_blk_lt h2 hi).2⟩⟩
theorem FilesIn.toV {w : World} {K : Nat → Prop} {v : Value} {fs : List (ByteArray × Bytes)} (h : FilesIn w K v fs) : FilesV w 0 v fs := by
  obtain ⟨ps, h1, h2, h3⟩ := h
  exact ⟨ps, all2_imp h1 fun f p ⟨a, b, c⟩ => ⟨a, b, fun i hi => ⟨Nat.zero_le _, (c i hi).2⟩⟩, h2, fun _ _ => Nat.zero_le _⟩
theorem FilesIn.fr {w w' : World} {K M : Nat → Prop} {v : Value} {fs : List (ByteArray × Bytes)} (h : FilesIn w K v fs) (hf : Fr M w w') (hn : ∀ b, K b → ¬ M b) : FilesIn w' K v fs := by
  obtain ⟨ps, h1, h2, h3⟩ := h
  exact ⟨ps, all2_imp h1 fun f p ⟨a, b, c⟩ => ⟨a, b.fr hf fun i hi => hn i (c i hi).1, fun i hi => ⟨(c i hi).1, Nat.lt_of_lt_of_le (c i hi).2.1 hf.size, (c i hi).2.2⟩⟩, own_fr h2 hf fun i hi => hn i (h3 i hi), h3⟩
theorem w_safe1 {v pv : Value} {l : Script} {picks : List Int} (hv : ScriptV W v l) (hl : l.length ≤ 300) (hbd : ∀ p ∈ l, p.1.data.length ≤ 100000)
    (hk : ∀ (ρ : Env) w S, ρ 2 = pv → ρ 7 = ptr D → Is1 W w D S no → S.Ok 300 → Named S → F6_2 k ρ w)
    {ρ : Env} {w : World} (e1 : ρ 1 = v) (e2 : ρ 2 = pv) (e7 : ρ 7 = ptr D) (e9 : ρ 9 = i64 0) (h : Is1 W w D S no) (ok : S.Ok 0) (hn : Named S) : F6L1 k ρ w := by
  refine F6L1_inv (m := l.length) k (fun m ρ w => ∃ (i : Nat) (S : AD), i + m = l.length ∧ ρ 1 = v ∧ ρ 2 = pv ∧ ρ 7 = ptr D ∧ ρ 9 = i64 i ∧ Is1 W w D S no ∧ S.Ok i ∧ Named S) ?_
    ⟨0, S, by omega, e1, e2, e7, e9, h, ok, hn⟩
  rintro m ρ w ⟨i, S, him, e1, e2, e7, e9, h, ok, hn⟩
  rw [F6_1_eq]
  unfold F6_1
  have hvw := hv.fr h.base
  rw [e1, e7, e9]
  refine s_lenS usl55 hvw.src ?_
  by_cases hi : i < l.length
  · refine s_lt_t (by omega) (pC_true (s_step hvw hi fun p => ?_))
    have hm : l[i] ∈ l := List.getElem_mem hi
    have okT := ok.doStep (by omega) l[i].1
    have hnT := named_do ok hn l[i].1
    obtain ⟨O, I, L, T⟩ := h
    refine c_do T.rep ok (hvw.all _ hm) (hbd _ hm) fun w2 O' I' L' hx => ?_
    obtain ⟨h2, -⟩ := T.is1 hx
    refine s_add_in (by omega) ?_
    refine ⟨m - 1, by omega, i + 1, _, by omega, e1, e2, e7, ?_, h2, okT, hnT⟩
    show i64 _ = i64 _; simp
  · refine s_lt_f (by omega) (pC_false ?_)
    rw [F6_2_eq]
    exact hk _ w S e2 e7 h (ok.mono (by omega) (by omega)) hn
theorem w_safe4 {pv v109 : Value} {picks : List Int} {S0 T : AD} {K : Nat → Prop} {c : Nat} (hp : Src W pv 1 picks.length (picks.map i64)) (hpl : picks.length ≤ 400) (hS : Syncing S0 T S0.shown.length) (okT : T.Ok c) (hc : c ≤ 1000)
    (hf : FilesIn w K v109 S0.files) (hk : ∀ w', Fr no W w' → k (.bool true) w')
    {ρ : Env} (e2 : ρ 2 = pv) (e7 : ρ 7 = ptr D) (e13 : ρ 13 = v109) (h : Is1 W w D T K) : F6_4 k ρ w := by
  unfold F6_4
  rw [e2, e7, e13]
  obtain ⟨h1, h2, h3⟩ := hS.all
  have ok1 := okT.syncNames (by omega)
  obtain ⟨O, I, L, Tw⟩ := h
  refine c_syncNames Tw.rep okT fun w2 O' I' L' hx => ?_
  obtain ⟨⟨O, I, L, Tw2⟩, f2⟩ := Tw.is1 hx
  have hf2 := hf.fr f2 fun b hb hn => hn hb
  rw [h1]
  refine s_nei_f rfl (pC_false ?_)
  clear Tw hx
  generalize T.syncNames.2 = T2 at *
  refine c_crashP (picks := picks) sortsKeys Tw2.rep ok1 (by omega) (hp.fr (by omega) Tw2.fr fun _ _ h => h) (crashMax ok1 picks) fun w3 O' I' L' hx => ?_
  obtain ⟨⟨O, I, L, Tw3⟩, f3⟩ := Tw2.is1 hx
  have hf3 := hf2.fr f3 fun b hb hn => hn hb
  have okC := ok1.crash picks
  have ef : (T2.crash picks).files = S0.files := (crash_settled h2 picks).trans h3
  have es : (T2.crash picks).safes = S0.files := (crash_safes picks).trans ef
  clear Tw2 hx
  generalize T2.crash picks = T3 at *
  refine c_files sortsKeys Tw3.rep okC (shownMax okC) fun w4 v4 h4 f4 => ?_
  have d4 := Tw3.rep.fr f4 fun b hb => hb.elim
  refine c_filesEq h4 (filesV_fr hf3.toV f4) (files_small okC).1 (files_small okC).2 fun w5 f5 => ?_
  have d5 := d4.fr f5 fun b hb => hb.elim
  rw [decide_eq_true ef]
  refine pG_yes rfl (pG_yes rfl (c_safe sortsKeys d5 okC (safeMax okC) fun w6 v6 h6 f6 => ?_))
  have f36 : Fr no w3 w6 := ((f4.or f5).or f6).mono (by rintro b ((hb | hb) | hb) <;> exact hb.elim)
  refine pG_yes rfl (pG_yes rfl (c_filesEq h6 (filesV_fr hf3.toV f36) (safes_small okC).1 (safes_small okC).2 fun w7 f7 => ?_))
  rw [decide_eq_true es]
  refine s_pick_t (pG_yes rfl (c_known sortsKeys fun w8 f8 => s_pick_t (hk w8 ?_)))
  exact fr_up (fr_up (fr_up Tw3.fr f36 fun b hb => hb.elim) f7 fun b hb => hb.elim) f8 fun b hb => hb.elim
theorem w_safe3 {pv v109 : Value} {picks : List Int} {S0 T0 : AD} {K : Nat → Prop} {c : Nat} (hp : Src W pv 1 picks.length (picks.map i64)) (hpl : picks.length ≤ 400) (hS : Syncing S0 T0 0) (hnd : (alKeys S0.shown).Nodup) (hnm : ∀ p ∈ S0.shown, isName p.1 = true) (okT : T0.Ok c) (hc : c ≤ 500) (hsl : S0.shown.length ≤ 256)
    (hk : ∀ w', Fr no W w' → k (.bool true) w')
    {ρ : Env} {w : World} (e2 : ρ 2 = pv) (e7 : ρ 7 = ptr D) (e13 : ρ 13 = v109) (e14 : ρ 14 = i64 0) (hf : FilesIn w K v109 S0.files) (h : Is1 W w D T0 K) : F6L2 k ρ w := by
  have hfl : S0.files.length = S0.shown.length := by unfold AD.files; simp
  refine F6L2_inv (m := S0.shown.length) k (fun m ρ w => ∃ (j : Nat) (T : AD), j + m = S0.shown.length ∧ ρ 2 = pv ∧ ρ 7 = ptr D ∧ ρ 13 = v109 ∧ ρ 14 = i64 j ∧ FilesIn w K v109 S0.files ∧ Is1 W w D T K ∧ Syncing S0 T j ∧ T.Ok (c + j)) ?_
    ⟨0, T0, by omega, e2, e7, e13, e14, hf, h, hS, okT⟩
  rintro m ρ w ⟨j, T, hjm, e2, e7, e13, e14, hf, h, hS, okT⟩
  rw [F6_3_eq]
  unfold F6_3
  rw [e7, e13, e14]
  obtain ⟨A, cc, ev⟩ : ∃ A cc, v109 = .slice A S0.files.length cc := by obtain ⟨ps, _, h, _⟩ := hf; obtain ⟨A, c, e, _⟩ := Src.of_own h; exact ⟨A, c, e⟩
  rw [ev, hfl]
  refine s_len usl37 ?_
  by_cases hj : j < S0.shown.length
  · refine s_lt_t (by omega) (pC_true (s_len usl37 (s_sub_in (by omega) (s_sub_in (by omega) ?_))))
    have hi : S0.shown.length - 1 - j < S0.files.length := by omega
    obtain ⟨b, o, c', d, e, g0, _, _⟩ := files_at hf.toV hi
    rw [ev] at e
    injection e with q1 q2 q3
    subst q1
    have hi' : S0.shown[S0.shown.length - 1 - j]? = some (S0.shown[S0.shown.length - 1 - j]'(by omega)) := by simp
    have hname : S0.files[S0.shown.length - 1 - j].1 = (S0.shown[S0.shown.length - 1 - j]'(by omega)).1 := congrArg Prod.fst (List.getElem_map (l := S0.shown) (i := S0.shown.length - 1 - j) (h := hi) (fun p : ByteArray × Nat => (p.1, (S0.things p.2).shown)))
    rw [hname] at g0
    have ei : ((S0.shown.length : Int) - 1 - j).toNat = S0.shown.length - 1 - j := by omega
    refine s_ix usl37 (sze37 _) (by omega) (by omega) ?_
    rw [ei]
    refine fa52_0 (s_ld (v := .string (S0.shown[S0.shown.length - 1 - j]'(by omega)).1) (Try.isAgg9 _) (by simpa using g0) ?_)
    obtain ⟨hr, hS2⟩ := hS.step hnd hnm hi' (by omega)
    have hsz := isName_small (hnm _ (List.mem_of_getElem? hi'))
    obtain ⟨O, I, L, Tw⟩ := h
    refine c_sync Tw.rep okT _ (by omega) fun w2 O' I' L' hx => ?_
    obtain ⟨h2, f2⟩ := Tw.is1 hx
    rw [hr]
    refine s_nei_f rfl (pC_false (s_add_in (by omega) ?_))
    refine ⟨m - 1, by omega, j + 1, _, by omega, e2, e7, e13.trans (ev.trans (by rw [hfl])), ?_, ?_, h2, hS2, okT.sync (by omega) _⟩
    · show i64 _ = i64 _; simp
    · have := hf.fr f2 fun b hb hn => hn hb
      rw [ev, hfl] at this; exact this
  · refine s_lt_f (by omega) (pC_false ?_)
    rw [F6_4_eq]
    have e : j = S0.shown.length := by omega
    subst e
    exact w_safe4 hp hpl hS okT (by omega) hf hk (by exact e2) (by exact e7) (by exact e13) h
theorem w_safe2 {pv : Value} {picks : List Int} (hp : Src W pv 1 picks.length (picks.map i64)) (hpl : picks.length ≤ 400) (hk : ∀ w', Fr no W w' → k (.bool true) w')
    {ρ : Env} {w : World} (e2 : ρ 2 = pv) (e7 : ρ 7 = ptr D) (h : Is1 W w D S no) (ok : S.Ok 300) (hn : Named S) : F6_2 k ρ w := by
  unfold F6_2
  rw [e2, e7]
  obtain ⟨O, I, L, T⟩ := h
  refine c_safe sortsKeys T.rep ok (safeMax ok) fun w1 v1 h1 f1 => ?_
  have d1 := T.rep.fr f1 fun b hb => hb.elim
  -- the first twin
  refine c_twin d1 ok fun w2 D2 L2 d2 f2 => ?_
  have i2 := Is1.twin d2 f2
  refine s_eqpn upt24 (pC_false ?_)
  obtain ⟨O2, I2, L2', T2⟩ := i2
  clear d2
  have okC := ok.crash []
  refine c_crashP (picks := []) sortsKeys T2.rep ok (by simp) (Src.nil w2 1) (crashMax ok []) fun w3 O' I' L' hx => ?_
  obtain ⟨⟨O2, I2, L2', T3⟩, -⟩ := T2.is1 hx
  clear T2 hx
  refine c_files sortsKeys T3.rep okC (shownMax okC) fun w4 v4 h4 f4 => ?_
  have f14 : Fr no w1 w4 := fr_up T3.fr f4 fun b hb => hb.elim
  refine c_filesEq h4 (filesV_fr h1 f14) (files_small okC).1 (files_small okC).2 fun w5 f5 => ?_
  rw [decide_eq_true crash_none]
  have t5 := (T3.rep.fr f4 fun b hb => hb.elim).fr f5 fun b hb => hb.elim
  refine s_not (pG_yes rfl (pG_yes rfl (c_safe sortsKeys t5 okC (safeMax okC) fun w6 v6 h6 f6 => ?_)))
  have t6 := t5.fr f6 fun b hb => hb.elim
  have f16 : Fr no w1 w6 := fr_up (fr_up f14 f5 fun b hb => hb.elim) f6 fun b hb => hb.elim
  refine pG_yes rfl (pG_yes rfl (c_filesEq h6 (filesV_fr h1 f16) (safes_small okC).1 (safes_small okC).2 fun w7 f7 => ?_))
  have t7 := t6.fr f7 fun b hb => hb.elim
  rw [decide_eq_true ((crash_safes []).trans crash_none)]
  refine pG_yes rfl (s_not (s_pick_f (pG_yes rfl (pG_yes rfl (c_off t7.disk okC.room.1 (s_pick_f ?_))))))
  refine pG_yes rfl (pG_yes rfl (c_strokes t7.disk okC.room.1 (pG_yes rfl (s_nei_f rfl (s_pick_f (pC_false ?_))))))
  have f17 : Fr no w1 w7 := fr_up f16 f7 fun b hb => hb.elim
  have d7 := d1.fr f17 fun b hb => hb.elim
  clear t5 t6 t7 T3 h6 h4 h1 okC
  -- the second twin
  refine c_twin d7 ok fun w8 D3 L3 d8 f8 => ?_
  have i8 := Is1.twin d8 f8
  obtain ⟨O2, I2, L2', T8⟩ := i8
  clear d8
  have okC := ok.crash picks
  have fW7 : Fr no W w7 := fr_up (fr_up T.fr f1 fun b hb => hb.elim) f17 fun b hb => hb.elim
  have fW8 : Fr no W w8 := fr_up fW7 f8 fun b hb => hb.elim
  refine c_crashP (picks := picks) sortsKeys T8.rep ok (by omega) (hp.fr (by omega) fW8 fun _ _ h => h) (crashMax ok picks) fun w9 O' I' L' hx => ?_
  obtain ⟨⟨O2, I2, L2', T9⟩, -⟩ := T8.is1 hx
  clear T8 hx
  have hset := settled_crash (S := S) picks
  have esf := crash_safes (S := S) picks
  generalize S.crash picks = C at *
  refine c_files sortsKeys T9.rep okC (shownMax okC) fun w10 v10 h10 f10 => ?_
  have i10 : Is1 w7 w10 D3 C (fun b => w9.heap.size ≤ b ∧ b < w10.heap.size) := Is1.own (K := no) ⟨_, _, _, T9⟩ f10 (fun b hb => hb.elim) (fun b hb => .inr hb.1) fun b hb => hb.2
  have h10' := filesIn_of h10
  clear T9
  obtain ⟨O2, I2, L2', T10⟩ := i10
  refine c_safe sortsKeys T10.rep okC (safeMax okC) fun w11 v11 h11 f11 => ?_
  have i11 : Is1 w7 w11 D3 C (fun b => w9.heap.size ≤ b ∧ b < w10.heap.size) := Is1.quiet ⟨_, _, _, T10⟩ f11
  have h11' := h10'.fr f11 fun _ _ h => h
  refine c_filesEq h11 h11'.toV (safes_small okC).1 (safes_small okC).2 fun w12 f12 => ?_
  rw [decide_eq_true esf]
  have h12' := h11'.fr f12 fun _ _ h => h
  refine s_not (pC_false ?_)
  have i12 := i11.quiet f12
  clear T10 i11
  refine px_ok (w' := w12.alloc (.cells #[i64 7, i64 7, i64 7] 3)) (v := .slice (some ⟨w12.heap.size, 0, none⟩) 3 3) (by kernel_rfl) ?_
  have f13 := Fr.alloc no w12 (.cells #[i64 7, i64 7, i64 7] 3)
  have hl13 := own_lit w12 0 3 1 #[i64 7, i64 7, i64 7] 3 (Nat.zero_le _) (by unfold maxLen; omega) rfl
  show pFn P _ _ (w12.alloc (.cells #[i64 7, i64 7, i64 7] 3)) _
  generalize w12.alloc (.cells #[i64 7, i64 7, i64 7] 3) = w13 at *
  have h13' := h12'.fr f13 fun _ _ h => h
  have i13 := i12.quiet f13
  obtain ⟨O2, I2, L2', T13⟩ := i13
  refine c_crashP (picks := [7, 7, 7]) sortsKeys T13.rep okC (by simp) (Src.of_own hl13) (crashMax okC [7, 7, 7]) fun w14 O' I' L' hx => ?_
  obtain ⟨⟨O2, I2, L2', T14⟩, f14'⟩ := T13.is1 hx
  have h14' := h13'.fr f14' fun b hb hn => hn hb
  have okC2 := okC.crash [7, 7, 7]
  have e7' := crash_settled hset [7, 7, 7]
  clear T13 hx
  refine c_files sortsKeys T14.rep okC2 (shownMax okC2) fun w15 v15 h15 f15 => ?_
  refine c_filesEq h15 (h14'.fr f15 fun _ _ h => h).toV (files_small okC2).1 (files_small okC2).2 fun w16 f16' => ?_
  rw [decide_eq_true e7']
  refine s_not (pC_false ?_)
  have f716 : Fr no w7 w16 := fr_up (fr_up T14.fr f15 fun b hb => hb.elim) f16' fun b hb => hb.elim
  have d16 := d7.fr f716 fun b hb => hb.elim
  have fW16 : Fr no W w16 := fr_up fW7 f716 fun b hb => hb.elim
  have i16 : Is1 W w16 D S no := ⟨_, _, _, d16, T.low, fun b hb => hb.elim, fun b hb => hb.elim, fW16⟩
  clear T14 h15 h14' h13' h12' h11' h10' h11 h10 d7 d1 i12
  refine c_off d16.disk ok.room.1 ?_
  cases ho : S.off with
  | true => exact pC_true (c_known sortsKeys fun w17 f17 => hk w17 (fr_up fW16 f17 fun b hb => hb.elim))
  | false =>
    refine pC_false ?_
    refine px_ok (w' := w16) (v := planVal .zero) (by kernel_rfl) ?_
    obtain ⟨O, I, L, T16⟩ := i16
    refine c_plan T16.rep ok.room.1 .zero fun w17 O' I' L' hx => ?_
    obtain ⟨⟨O, I, L, T17⟩, -⟩ := T16.is1 hx
    have okP := ok.plans .zero
    have hnP : Named (S.plans .zero) := by
      unfold AD.plans
      split
      · exact hn
      · exact ⟨hn.sn, hn.rn⟩
    have eP : S.plans .zero = { S with plan := .zero, since := 0 } := by unfold AD.plans; rw [ho]; rfl
    have cP : XDisk.Calm (S.plans .zero) := by rw [eP]; exact ⟨rfl, ho, Int.le_refl _⟩
    clear T16 hx eP
    generalize S.plans .zero = S1 at *
    refine c_files sortsKeys T17.rep okP (shownMax okP) fun w18 v18 h18 f18 => ?_
    have i18 : Is1 W w18 D S1 (fun b => w17.heap.size ≤ b ∧ b < w18.heap.size) := Is1.own (K := no) ⟨_, _, _, T17⟩ f18 (fun b hb => hb.elim) (fun b hb => .inr hb.1) fun b hb => hb.2
    have hS0 : Syncing S1 S1 0 := ⟨cP, rfl, fun _ => rfl, fun i p hi hle => by
      have := (List.getElem?_eq_some_iff.1 hi).1; omega⟩
    exact w_safe3 hp hpl hS0 okP.shown.nodup (hnP.shown okP) okP (by omega) okP.turns.len.1 hk (by exact e2) (by exact e7) rfl rfl (filesIn_of h18) i18
/-- DiskSafe answers true, and what lay there before is as it was. -/
theorem w_safe {v pv : Value} {l : Script} {picks : List Int} {room : Int} (hv : ScriptV W v l) (hp : Src W pv 1 picks.length (picks.map i64)) (hk : ∀ w', Fr no W w' → k (.bool true) w') : pFn P 6 [i64 room, v, pv] W k := by
  refine F6_in _ _ _ _ _ ?_
  unfold F6_0
  refine c_long hv fun b w1 f1 hb => ?_
  cases b with
  | true =>
    refine pG_skf (pG_skf (pG_skf (s_pick_t ?_)))
    repeat (first | refine pG_skf ?_ | refine pG_un ?_)
    refine s_pick_t ?_
    repeat (first | refine pG_skf ?_ | refine pG_un ?_)
    exact s_pick_t (pC_true (hk w1 f1))
  | false =>
    obtain ⟨hl, hbd⟩ := hb rfl
    refine pG_yes rfl (pG_yes rfl (s_lenS usl57 (hp.fr (by omega) f1 fun _ _ h => h) (pG_yes rfl ?_)))
    by_cases hpl : picks.length > 400
    · refine s_gt_t (by omega) (s_pick_f ?_)
      repeat (first | refine pG_skf ?_ | refine pG_un ?_)
      refine s_pick_t ?_
      repeat (first | refine pG_skf ?_ | refine pG_un ?_)
      exact s_pick_t (pC_true (hk w1 f1))
    refine s_gt_f (by omega) (s_pick_f (pG_yes rfl (pG_yes rfl ?_)))
    by_cases h1 : room < 1
    · refine s_lt_t h1 (s_pick_f ?_)
      repeat (first | refine pG_skf ?_ | refine pG_un ?_)
      exact s_pick_t (pC_true (hk w1 f1))
    refine s_lt_f h1 (s_pick_f (pG_yes rfl (pG_yes rfl ?_)))
    by_cases h2 : room > 1048576
    · exact s_gt_t h2 (s_pick_f (pC_true (hk w1 f1)))
    refine s_gt_f h2 (s_pick_f (pC_false ?_))
    refine c_new (fun hbad => absurd (show 1 ≤ room ∧ room ≤ 1048576 by omega) hbad) fun hok w2 L2 d2 f2 => ?_
    refine s_ext rfl (s_ext rfl ?_)
    refine s_nei_f rfl (pG_yes rfl (pG_yes rfl (s_eqpn upt24 (s_pick_f (pC_false ?_)))))
    exact w_safe1 (picks := picks) hv hl (fun p hp => (hbd p hp).1) (fun ρ w S e2 e7 h ok hn => w_safe2 hp (by omega) hk e2 e7 h ok hn) rfl rfl rfl rfl (Is1.new f1 d2 f2) (AD.Ok.new hok) (named_new room)
end
end Go.Proofs.Ytcdcojpfealppaa
