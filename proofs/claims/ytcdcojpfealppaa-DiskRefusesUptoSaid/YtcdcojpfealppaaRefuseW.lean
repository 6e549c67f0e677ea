/- DiskRefuses, walked. -/
import Derived.Test.YtcdcojpfealppaaXRefuse
import Derived.Test.YtcdcojpfealppaaLong
set_option linter.unusedVariables false
set_option linter.unusedSimpArgs false
set_option maxRecDepth 100000
namespace Go.Proofs.Ytcdcojpfealppaa
open Go Go.Proofs Go.RowKit Go.Proofs.XRed Go.Proofs.XHeap Go.Proofs.XMaps Go.Proofs.XSlices Go.Proofs.XDisk Go.Proofs.XCalls Go.Proofs.XRange Go.Proofs.XKeys
section
variable {W w : World} {D : Nat} {S S' : AD} {O I : Nat → Prop} {L : Lay} {k : Value → World → Prop}
theorem run_ldStep {b o : Nat} {x : StepA} {dv pv : Value} (h : ∀ j u, (stepCells x dv pv)[j]? = some u → w.cell? ⟨b, o + j, none⟩ = some u) : (Instr.loadAt 59 (.pointer (some ⟨b, o, none⟩))).run P w = .ok (stepVal x dv pv) w := by
  have := run_loadCells_list (P := P) w ⟨b, o, none⟩ (stepCells x dv pv) (fun j v hj => by rw [add_at]; exact h j v hj)
  have e : (stepCells x dv pv).length = 10 := rfl
  rw [e] at this
  have hr : (Instr.loadAt 59 (.pointer (some ⟨b, o, none⟩))).run P w = .ok (.agg (stepCells x dv pv).toArray) w := by
    simp [Instr.loadAt, Instr.sureAddr, loadVar, Try.isAgg59, Try.sizeOf59, this, Result.andThen]
  exact hr
/-- The step's own variable. -/
def stepArr (x : StepA) (dv pv : Value) : Array Value := #[i64 x.kind, .string x.name, .string x.to_, i64 x.at_, i64 x.n, dv, i64 x.plan.off, i64 x.plan.from_, i64 x.plan.to_, pv]
/-- Element i of a script, put into a variable of the round's. -/
theorem s_stepVar {v : Value} {l : Script} {i : Nat} (h : ScriptV w v l) (hi : i < l.length) {kk : Value → Value → Value → World → Prop}
    (hk : ∀ p w', Fr no w w' → w'.heap.size = w.heap.size + 1 → w'.heap[w.heap.size]? = some (.cells (stepArr l[i].1 l[i].2.1 l[i].2.2) 59 (0, 0)) → kk p (stepVal l[i].1 l[i].2.1 l[i].2.2) (ptr w.heap.size) w') :
    px P (Instr.indexAt 55 v (i64 i)) w fun p w => px P (Instr.loadAt 59 p) w fun x w => px P (Instr.alloc 59 true (.tuple #[])) w fun a w => pu P (Instr.storeAt 59 a x) w (kk p x a) := by
  obtain ⟨b, o, c, ev, hc⟩ := h.at_ hi
  rw [ev]
  refine s_ix (i := (i : Int)) usl55 (sze55 _) (by omega) (by omega) ?_
  refine px_ok (run_ldStep (x := l[i].1) (dv := l[i].2.1) (pv := l[i].2.2) (fun j u hj => by have := hc j u hj; simpa using this)) ?_
  refine s_alloc (Try.zeroValue59 _) ?_
  generalize hz : (Value.cells _ : Array Value) = zs
  have hzs : zs.size = 10 := by rw [← hz]; rfl
  have f1 : Fr no w (w.alloc (.cells zs 59)) := Fr.alloc ..
  have b1 := alloc_new w (.cells zs 59)
  have z1 : (w.alloc (.cells zs 59)).heap.size = w.heap.size + 1 := by simp
  refine s_stN (vs := stepCells l[i].1 l[i].2.1 l[i].2.2) (Try.sizeOf59 _) rfl ?_ b1 (by omega) fun w2 hb2 f2 z2 => ?_
  · have hs := h.all _ (List.getElem_mem hi)
    obtain ⟨A5, c5, ed, _⟩ := hs.data.form
    obtain ⟨A9, c9, ep, _⟩ : ∃ A c, l[i].2.2 = .slice A l[i].1.picks.length c ∧ l[i].1.picks.length ≤ c := by obtain ⟨A, c, e, hc, _⟩ := hs.picks; exact ⟨A, c, e, hc⟩
    intro u hu
    unfold stepCells at hu
    rw [ed, ep] at hu
    simp only [List.mem_cons, List.not_mem_nil, or_false] at hu
    rcases hu with rfl | rfl | rfl | rfl | rfl | rfl | rfl | rfl | rfl | rfl <;> rfl
  · refine hk _ w2 ((f1.or f2).mono ?_) (by omega) ?_
    · rintro b (hb | hb)
      · exact hb.elim
      · right; omega
    · rw [hb2]
      have e : zs.toList.drop (0 + 10) = [] := List.drop_eq_nil_of_le (by simp; omega)
      rw [e]
      simp [stepCells, stepArr]
/-- b and a test of the step's kind. -/
theorem s_andF {b want : Bool} {n c : Int} {op : BinOp} {x y : Operand} {xb : Nat} {cs : Array Value} (hb : w.heap[xb]? = some (.cells cs 59 (0, 0))) (hc : cs[0]? = some (i64 n)) (hop : ∀ K : Value → World → Prop, K (.bool want) w → px P (binSem op 3 x y (i64 n) (i64 c)) w K)
    {kk : Value → Value → Value → Value → World → Prop} (hk : ∀ v1 v2 v3, kk v1 v2 v3 (.bool (b && want)) w) :
    pG (.bool b) true (fun k => px P (Instr.fieldAt 59 (ptr xb) 0) w k) (fun v1 w => pG (.bool b) true (fun k => px P (Instr.loadAt 3 v1) w k) (fun v2 w => pG (.bool b) true (fun k => px P (binSem op 3 x y v2 (i64 c)) w k) (fun v3 w => px P (pickSem (.bool b) v3 (.bool false)) w (kk v1 v2 v3)) w) w) w := by
  cases b with
  | false => exact pG_sk (pG_sk (pG_sk (s_pick_f (hk _ _ _))))
  | true => exact pG_yes rfl (fa59_0 (pG_yes rfl (s_ldb (v := i64 n) (Try.isAgg3 _) hb hc (pG_yes rfl (hop _ (s_pick_t (by have := hk (.pointer (some ⟨xb, 0 + 0, none⟩)) (i64 n) (.bool want); simpa using this)))))))
/-- b and a test of a value. -/
theorem s_andV {b want : Bool} {u : Value} {c : Int} {op : BinOp} {t : TypeId} {x y : Operand} (hop : ∀ K : Value → World → Prop, K (.bool want) w → px P (binSem op t x y u (i64 c)) w K)
    {kk : Value → Value → Value → World → Prop} (hk : ∀ v1 v2, kk v1 v2 (.bool (b && want)) w) :
    pG (.bool b) true (fun k => k u w) (fun v1 w => pG (.bool b) true (fun k => px P (binSem op t x y v1 (i64 c)) w k) (fun v2 w => px P (pickSem (.bool b) v2 (.bool false)) w (kk v1 v2)) w) w := by
  cases b with
  | false => exact pG_sk (pG_sk (s_pick_f (hk _ _)))
  | true => exact pG_yes rfl (pG_yes rfl (hop _ (s_pick_t (by have := hk u (.bool want); simpa using this))))
/-- b or a test of the step's kind. -/
theorem s_orF {b want : Bool} {n c : Int} {op : BinOp} {x y : Operand} {xb : Nat} {cs : Array Value} (hb : w.heap[xb]? = some (.cells cs 59 (0, 0))) (hc : cs[0]? = some (i64 n)) (hop : ∀ K : Value → World → Prop, K (.bool want) w → px P (binSem op 3 x y (i64 n) (i64 c)) w K)
    {kk : Value → Value → Value → Value → World → Prop} (hk : ∀ v1 v2 v3, kk v1 v2 v3 (.bool (b || want)) w) :
    pG (.bool b) false (fun k => px P (Instr.fieldAt 59 (ptr xb) 0) w k) (fun v1 w => pG (.bool b) false (fun k => px P (Instr.loadAt 3 v1) w k) (fun v2 w => pG (.bool b) false (fun k => px P (binSem op 3 x y v2 (i64 c)) w k) (fun v3 w => px P (pickSem (.bool b) (.bool true) v3) w (kk v1 v2 v3)) w) w) w := by
  cases b with
  | true => exact pG_skf (pG_skf (pG_skf (s_pick_t (hk _ _ _))))
  | false => exact pG_yes rfl (fa59_0 (pG_yes rfl (s_ldb (v := i64 n) (Try.isAgg3 _) hb hc (pG_yes rfl (hop _ (s_pick_f (by have := hk (.pointer (some ⟨xb, 0 + 0, none⟩)) (i64 n) (.bool want); simpa using this)))))))
/-- b or a test of a value. -/
theorem s_orV {b want : Bool} {u : Value} {c : Int} {op : BinOp} {t : TypeId} {x y : Operand} (hop : ∀ K : Value → World → Prop, K (.bool want) w → px P (binSem op t x y u (i64 c)) w K)
    {kk : Value → Value → Value → World → Prop} (hk : ∀ v1 v2, kk v1 v2 (.bool (b || want)) w) :
    pG (.bool b) false (fun k => k u w) (fun v1 w => pG (.bool b) false (fun k => px P (binSem op t x y v1 (i64 c)) w k) (fun v2 w => px P (pickSem (.bool b) (.bool true) v2) w (kk v1 v2)) w) w := by
  cases b with
  | true => exact pG_skf (pG_skf (s_pick_t (hk _ _)))
  | false => exact pG_yes rfl (pG_yes rfl (hop _ (s_pick_f (by have := hk u (.bool want); simpa using this))))
theorem s_neb_f {a b : Bool} {x y : Operand} (h : a = b) (hk : k (.bool false) w) : px P (binSem .neq 4 x y (.bool a) (.bool b)) w k := by
  subst h
  refine s_bin (by simp) (by simp) (run_neq_bool w 4 a a Try.underlying4) ?_
  simpa using hk
theorem used_small {c : Nat} {S : AD} (ok : S.Ok c) : S.used ≤ 256 * 1048576 := by
  have h1 := ok.turns.len.1
  have h2 : ∀ l : Names, (∀ p ∈ l, (S.things p.2).shown.length ≤ 1048576) → (l.map fun p => (S.things p.2).shown.length).sum ≤ l.length * 1048576 := by
    intro l
    induction l with
    | nil => intro _; exact Nat.zero_le _
    | cons p r ih =>
      intro h
      have a := h p List.mem_cons_self
      have b := ih fun q hq => h q (List.mem_cons_of_mem _ hq)
      simp only [List.map_cons, List.sum_cons, List.length_cons]
      omega
  have h3 := h2 S.shown fun p hp => (ok.thing p.2 (.inl ⟨p.1, hp⟩)).ok.len.1
  exact Nat.le_trans h3 (Nat.mul_le_mul_right _ h1)
theorem total_files (S : AD) : totalOf S.files = S.used := by
  unfold totalOf AD.files AD.used
  rw [List.map_map]; rfl
theorem safes_small {c : Nat} {S : AD} (ok : S.Ok c) : S.safes.length ≤ 4611686018427387904 ∧ ∀ f ∈ S.safes, f.2.length ≤ 4611686018427387904 := by
  refine ⟨?_, fun f hf => ?_⟩
  · have := ok.turns.len.2
    unfold AD.safes
    rw [List.length_map]; omega
  · obtain ⟨p, hp, rfl⟩ := List.mem_map.1 hf
    have := (ok.thing p.2 (.inr (.inl ⟨p.1, hp⟩))).ok.len.2
    show (S.things p.2).safe.length ≤ _
    omega
theorem files_small {c : Nat} {S : AD} (ok : S.Ok c) : S.files.length ≤ 4611686018427387904 ∧ ∀ f ∈ S.files, f.2.length ≤ 4611686018427387904 := by
  refine ⟨?_, fun f hf => ?_⟩
  · have := ok.turns.len.1
    unfold AD.files
    rw [List.length_map]; omega
  · obtain ⟨p, hp, rfl⟩ := List.mem_map.1 hf
    have := (ok.thing p.2 (.inl ⟨p.1, hp⟩)).ok.len.1
    show (S.things p.2).shown.length ≤ _
    omega
theorem w_refuses1 {v : Value} {l : Script} {room : Int} (hv : ScriptV W v l) (hl : l.length ≤ 300) (hk : ∀ w', Fr no W w' → k (.bool true) w')
    {ρ : Env} {w : World} (e0 : ρ 0 = i64 room) (e1 : ρ 1 = v) (e5 : ρ 5 = ptr D) (e7 : ρ 7 = i64 0) (h : Is1 W w D S no) (ok : S.Ok 0) (hin : S.Inj) (hroom : S.room = room) : F5L1 k ρ w := by
  refine F5L1_inv (m := l.length) k (fun m ρ w => ∃ (i : Nat) (S : AD), i + m = l.length ∧ ρ 0 = i64 room ∧ ρ 1 = v ∧ ρ 5 = ptr D ∧ ρ 7 = i64 i ∧ Is1 W w D S no ∧ S.Ok i ∧ S.Inj ∧ S.room = room) ?_
    ⟨0, S, by omega, e0, e1, e5, e7, h, ok, hin, hroom⟩
  rintro m ρ w ⟨i, S, him, e0, e1, e5, e7, h, ok, hin, hroom⟩
  rw [F5_1_eq]
  unfold F5_1
  have hvw := hv.fr h.base
  rw [e0, e1, e5, e7]
  refine s_lenS usl55 hvw.src ?_
  by_cases hi : i < l.length
  · refine s_lt_t (by omega) (pC_true ?_)
    refine s_stepVar hvw hi fun p w1 f1 z1 b1 => ?_
    generalize hx : l[i].1 = x at *
    generalize hdv : l[i].2.1 = dv at *
    generalize hpv : l[i].2.2 = pv at *
    have hsv : StepV W x dv pv := by rw [← hx, ← hdv, ← hpv]; exact hv.all _ (List.getElem_mem hi)
    have i1 := h.quiet f1
    obtain ⟨O, I, L, T⟩ := i1
    refine c_files sortsKeys T.rep ok (fun p hp => by have := ok.shownNames p hp; unfold maxLen; omega) fun w2 was hwas f2 => ?_
    have i2 : Is1 W w2 D S no := Is1.quiet ⟨_, _, _, T⟩ f2
    clear T
    obtain ⟨O, I, L, T⟩ := i2
    refine c_safe sortsKeys T.rep ok (fun p hp => by have := ok.sn p hp; unfold maxLen; omega) fun w3 safe hsafe f3 => ?_
    have i3 : Is1 W w3 D S no := Is1.quiet ⟨_, _, _, T⟩ f3
    clear T
    obtain ⟨O, I, L, T⟩ := i3
    refine c_reads T.rep ok fun w4 A cp hreads hrb f4 => ?_
    have i4 : Is1 W w4 D S no := Is1.quiet ⟨_, _, _, T⟩ f4
    have hd4 := T.rep.fr f4 fun b hb => hb.elim
    refine c_strokes hd4.disk ok.room.1 (c_off hd4.disk ok.room.1 ?_)
    have b4 := f4.get (f3.get (f2.get b1 id) id) id
    have hl4 : ∀ {w' : World}, w'.heap[w.heap.size]? = some (.cells (stepArr x dv pv) 59 (0, 0)) → (Instr.loadAt 59 (ptr w.heap.size)).run P w' = .ok (stepVal x dv pv) w' := by
      intro w' hb
      refine run_ldStep fun j u hj => ?_
      have hj' : j < 10 := (List.getElem?_eq_some_iff.1 hj).1
      refine cell_blk hb ?_
      rw [Nat.zero_add]
      have : (stepArr x dv pv).toList = stepCells x dv pv := rfl
      rw [← Array.getElem?_toList, this]; exact hj
    refine px_ok (hl4 b4) ?_
    have zs : w.heap.size < w4.heap.size := lt_of_get b4
    have f04 : Fr no w w4 := ((((f1.or f2).or f3).or f4).mono (by rintro b (((hb | hb) | hb) | hb) <;> exact hb.elim))
    have iK : Is1 W w4 D S (fun b => w.heap.size ≤ b ∧ b < w4.heap.size) := h.own f04 (fun b hb => hb.elim) (fun b hb => .inr hb.1) (fun b hb => hb.2)
    clear T hd4 i4 h
    obtain ⟨O, I, L, T⟩ := iK
    have F := facts_do ok hin x
    have okT := ok.doStep (by omega) x
    refine c_do T.rep ok (hsv.fr T.fr) fun w5 O' I' L' hx5 => ?_
    obtain ⟨⟨O, I, L, T5⟩, fK⟩ := T.is1 hx5
    clear T hx5
    generalize (S.doStep x).1 = r at *
    generalize (S.doStep x).2 = T at *
    have keepB : ∀ b, w.heap.size ≤ b → b < w4.heap.size → ¬ ¬ (w.heap.size ≤ b ∧ b < w4.heap.size) := fun b h1 h2 h3 => h3 ⟨h1, h2⟩
    have b5 := fK.get b4 (keepB _ (Nat.le_refl _) zs)
    have hwas5 : FilesV w5 w1.heap.size was S.files := filesV_keep (filesV_fr (filesV_fr hwas f3) f4) fK fun b h1 h2 => keepB b (by omega) h2
    have hsafe5 : FilesV w5 w2.heap.size safe S.safes := filesV_keep (filesV_fr hsafe f4) fK fun b h1 h2 => keepB b (by have := f2.size; omega) h2
    have hreads5 : Src w5 (.slice A S.reads.length cp) 3 S.reads.length (S.reads.flatMap spanCells) := hreads.fr (by omega) fK fun b hb => keepB b (by have := (hrb b hb).1; have := f2.size; have := f3.size; omega) (hrb b hb).2
    clear hwas hsafe hreads hrb b4 fK
    have hroomT : T.room = room := by rw [F.room, hroom]
    -- the round's end
    have fin : ∀ (ρ' : Env) w', Fr no w5 w' → ρ' 0 = i64 room → ρ' 1 = v → ρ' 5 = ptr D → ρ' 7 = i64 i → F5A1 k (fun ρ' w' => ∃ m', m' < m ∧ ∃ (i : Nat) (S : AD), i + m' = l.length ∧ ρ' 0 = i64 room ∧ ρ' 1 = v ∧ ρ' 5 = ptr D ∧ ρ' 7 = i64 i ∧ Is1 W w' D S no ∧ S.Ok i ∧ S.Inj ∧ S.room = room) [1, 1] ρ' w' := by
      intro ρ' w' hf e0 e1 e5 e7
      rw [F5_2_eq]
      unfold F5_2
      rw [e7]
      refine s_add_in (by omega) ?_
      refine ⟨m - 1, by omega, i + 1, T, by omega, e0, e1, e5, ?_, ?_, okT, F.inj, hroomT⟩
      · show i64 _ = i64 _; simp
      · exact (Is1.less ⟨_, _, _, T5⟩ (fun b hb => hb.elim)).quiet hf
    have dT := T5.rep
    have hrT := okT.room.1
    have usT := used_small okT
    have usS := used_small ok
    have sT := okT.strokes
    have sS := ok.strokes
    have smT := okT.small
    have kc : (stepArr x dv pv)[0]? = some (i64 x.kind) := rfl
    refine s_andF (want := decide (x.kind ≥ 1)) b5 kc (fun K h => s_ge h) fun _ _ _ => ?_
    refine s_andF (want := decide (x.kind ≤ 10)) b5 kc (fun K h => s_le h) fun _ _ _ => ?_
    refine s_andV (want := r != 50) (fun K h => s_nei h) fun _ _ => ?_
    have hpre : (S.off && decide (x.kind ≥ 1) && decide (x.kind ≤ 10) && (r != 50)) = false := by
      cases ho : S.off with
      | false => simp
      | true =>
        by_cases h1 : x.kind ≥ 1
        · by_cases h2 : x.kind ≤ 10
          · have := F.off10 ho h1 h2
            simp [this]
          · simp [h2]
        · simp [h1]
    rw [hpre]
    refine pC_false ?_
    by_cases hr0 : r = 0
    · refine s_eqi_t hr0 (pC_true ?_)
      refine px_ok (hl4 b5) (c_isStroke fun w6 f6 => ?_)
      have b6 := f6.get b5 id
      have d6 := dT.fr f6 fun b hb => hb.elim
      -- the last part, where nothing was written
      by_cases hstr : 1 ≤ x.kind ∧ x.kind ≤ 8
      · rw [decide_eq_true hstr]
        have hs1 := F.okStr hr0 hstr
        refine pG_yes rfl (pG_yes rfl (c_strokes d6.disk hrT (pG_yes rfl (pG_yes rfl (s_add_in (by omega) (pG_yes rfl (s_nei_f (by omega) (s_pick_t ?_))))))))
        refine pG_yes rfl (px_ok (hl4 b6) (pG_yes rfl (c_isStroke fun w7 f7 => ?_)))
        have b7 := f7.get b6 id
        have d7 := d6.fr f7 fun b hb => hb.elim
        rw [decide_eq_true hstr]
        refine pG_yes rfl (s_not (pG_yes rfl (pG_sk (pG_sk (pG_sk (pG_yes rfl (s_pick_f (pG_yes rfl (pG_sk (pG_sk (pG_sk (pG_sk (pG_yes rfl (s_pick_f (s_pick_f (pC_false ?_))))))))))))))))
        refine fa59_0 (s_ldb (v := i64 x.kind) (Try.isAgg3 _) b7 kc (s_eqi_f (by omega) ?_))
        repeat (first | refine pG_sk ?_ | refine pG_un ?_)
        refine s_pick_f (pC_false ?_)
        refine fa59_0 (s_ldb (v := i64 x.kind) (Try.isAgg3 _) b7 kc (s_eqi ?_))
        refine s_orF (want := x.kind == 3) b7 kc (fun K h => s_eqi h) fun _ _ _ => ?_
        by_cases h23 : x.kind = 2 ∨ x.kind = 3
        · have e23 : (x.kind == 2 || x.kind == 3) = true := by rcases h23 with h | h <;> simp [h]
          rw [e23]
          have hw := F.okWr hr0 h23
          refine pG_yes rfl (pG_yes rfl (c_used d7 hrT (by omega) fun w8 f8 => pG_yes rfl (pG_yes rfl ?_)))
          have d8 := d7.fr f8 fun b hb => hb.elim
          have f58 : Fr no w5 w8 := ((f6.or f7).or f8).mono (by rintro b ((hb | hb) | hb) <;> exact hb.elim)
          by_cases hgt : (T.used : Int) > room
          · refine s_gt_t hgt (s_pick_t ?_)
            refine pG_yes rfl (pG_yes rfl (c_used d8 hrT (by omega) fun w9 f9 => pG_yes rfl (pG_yes rfl ?_)))
            have f59 : Fr no w5 w9 := (f58.or f9).mono (by rintro b (hb | hb) <;> exact hb.elim)
            refine c_total (filesV_fr hwas5 f59) (files_small ok).1 (by rw [total_files]; omega) (pG_yes rfl ?_)
            rw [total_files]
            refine s_gt_f (by rw [hroom] at hw; omega) (s_pick_t (pC_false ?_))
            exact fin _ w9 f59 (by exact e0) (by exact e1) (by exact e5) (by exact e7)
          · refine s_gt_f hgt (s_pick_t ?_)
            repeat (first | refine pG_sk ?_ | refine pG_un ?_)
            refine s_pick_f (pC_false ?_)
            exact fin _ w8 f58 (by exact e0) (by exact e1) (by exact e5) (by exact e7)
        · have e23 : (x.kind == 2 || x.kind == 3) = false := by simp; omega
          rw [e23]
          repeat (first | refine pG_sk ?_ | refine pG_un ?_)
          refine s_pick_f ?_
          repeat (first | refine pG_sk ?_ | refine pG_un ?_)
          refine s_pick_f (pC_false ?_)
          exact fin _ w7 ((f6.or f7).mono (by rintro b (hb | hb) <;> exact hb.elim)) (by exact e0) (by exact e1) (by exact e5) (by exact e7)
      · rw [decide_eq_false hstr]
        refine pG_sk (pG_sk (pG_sk (pG_sk (pG_sk (s_pick_f ?_)))))
        refine pG_yes rfl (px_ok (hl4 b6) (pG_yes rfl (c_isStroke fun w7 f7 => ?_)))
        have b7 := f7.get b6 id
        have d7 := d6.fr f7 fun b hb => hb.elim
        have f57 : Fr no w5 w7 := (f6.or f7).mono (by rintro b (hb | hb) <;> exact hb.elim)
        rw [decide_eq_false hstr]
        refine pG_yes rfl (s_not (pG_yes rfl (pG_yes rfl (fa59_0 (pG_yes rfl (s_ldb (v := i64 x.kind) (Try.isAgg3 _) b7 kc (pG_yes rfl ?_)))))))
        by_cases k12 : x.kind = 12
        · obtain ⟨hs0, ho0⟩ := F.okCrash hr0 k12
          refine s_nei_f k12 (pG_yes rfl (s_pick_t (pG_yes rfl (pG_sk (pG_sk (pG_sk (pG_sk (pG_yes rfl (s_pick_f (s_pick_f (pC_false ?_)))))))))))
          refine fa59_0 (s_ldb (v := i64 x.kind) (Try.isAgg3 _) b7 kc (s_eqi_t k12 ?_))
          refine pG_yes rfl (pG_yes rfl (c_strokes d7.disk hrT (pG_yes rfl (s_nei_f hs0 (pG_yes rfl (pG_yes rfl (pG_yes rfl (c_off d7.disk hrT ?_))))))))
          rw [ho0]
          refine pG_yes rfl (s_pick_f (s_pick_t (pC_false ?_)))
          refine fa59_0 (s_ldb (v := i64 x.kind) (Try.isAgg3 _) b7 kc (s_eqi_f (by omega) ?_))
          refine s_orF (want := x.kind == 3) b7 kc (fun K h => s_eqi h) fun _ _ _ => ?_
          have e23 : (false || x.kind == 3) = false := by simp; omega
          rw [e23]
          repeat (first | refine pG_sk ?_ | refine pG_un ?_)
          refine s_pick_f ?_
          repeat (first | refine pG_sk ?_ | refine pG_un ?_)
          refine s_pick_f (pC_false ?_)
          exact fin _ w7 f57 (by exact e0) (by exact e1) (by exact e5) (by exact e7)
        · have hs0 := F.okNo hr0 hstr k12
          refine s_nei_t k12 (pG_yes rfl (s_pick_t (pG_yes rfl (pG_yes rfl (pG_yes rfl (c_strokes d7.disk hrT (pG_yes rfl (pG_yes rfl (s_nei_f hs0 (pG_yes rfl (s_pick_t (s_pick_f (pC_false ?_)))))))))))))
          refine fa59_0 (s_ldb (v := i64 x.kind) (Try.isAgg3 _) b7 kc (s_eqi_f k12 ?_))
          repeat (first | refine pG_sk ?_ | refine pG_un ?_)
          refine s_pick_f (pC_false ?_)
          refine fa59_0 (s_ldb (v := i64 x.kind) (Try.isAgg3 _) b7 kc (s_eqi_f (by omega) ?_))
          refine s_orF (want := x.kind == 3) b7 kc (fun K h => s_eqi h) fun _ _ _ => ?_
          have e23 : (false || x.kind == 3) = false := by simp; omega
          rw [e23]
          repeat (first | refine pG_sk ?_ | refine pG_un ?_)
          refine s_pick_f ?_
          repeat (first | refine pG_sk ?_ | refine pG_un ?_)
          refine s_pick_f (pC_false ?_)
          exact fin _ w7 f57 (by exact e0) (by exact e1) (by exact e5) (by exact e7)
    refine s_eqi_f hr0 (pC_false ?_)
    by_cases hfull : r = 55 ∨ r = 56
    · have hs1 := F.full hfull
      refine s_eqi (s_orV (want := r == 56) (fun K h => s_eqi h) fun _ _ => ?_)
      have ef : (r == 55 || r == 56) = true := by rcases hfull with h | h <;> simp [h]
      have h50 : r ≠ 50 := by rcases hfull with h | h <;> omega
      rw [ef]
      refine pG_yes rfl (pG_yes rfl (c_strokes dT.disk hrT (pG_yes rfl (pG_yes rfl (s_add_in (by omega) (pG_yes rfl (s_nei_f (by omega) (s_pick_t ?_))))))))
      refine pG_yes rfl (pG_yes rfl (s_not (pG_yes rfl (pG_sk (pG_sk (pG_yes rfl (s_pick_f (pG_yes rfl (pG_sk (pG_sk (pG_sk (pG_sk (pG_yes rfl (s_pick_f (s_pick_f (pC_false ?_))))))))))))))))
      refine s_andV (want := r == 50) (fun K h => s_eqi h) fun _ _ => ?_
      have e50 : (S.off && r == 50) = false := by simp [h50]
      rw [e50]
      refine pG_sk (pG_sk (pG_sk (pG_sk (s_pick_f (pC_false (s_eqi_f h50 (pG_sk (pG_sk (s_pick_f (pC_false ?_))))))))))
      obtain ⟨n1, n2, n3, n4⟩ := F.nought hr0 (by intro h; exact absurd h h50)
      refine c_files sortsKeys dT okT (fun p hp => by have := okT.shownNames p hp; unfold maxLen; omega) fun w6 v6 h6 f6 => ?_
      have d6 := dT.fr f6 fun b hb => hb.elim
      refine c_filesEq h6 (filesV_fr hwas5 f6) (files_small okT).1 (files_small okT).2 fun w7 f7 => ?_
      have d7 := d6.fr f7 fun b hb => hb.elim
      rw [decide_eq_true n1]
      refine s_not (pG_yes rfl (pG_yes rfl (c_safe sortsKeys d7 okT (fun p hp => by have := okT.sn p hp; unfold maxLen; omega) fun w8 v8 h8 f8 => ?_)))
      have d8 := d7.fr f8 fun b hb => hb.elim
      have f58 : Fr no w5 w8 := ((f6.or f7).or f8).mono (by rintro b ((hb | hb) | hb) <;> exact hb.elim)
      refine pG_yes rfl (pG_yes rfl (c_filesEq h8 (filesV_fr hsafe5 f58) (safes_small okT).1 (safes_small okT).2 fun w9 f9 => ?_))
      have d9 := d8.fr f9 fun b hb => hb.elim
      rw [decide_eq_true n2]
      refine pG_yes rfl (s_not (s_pick_f (pG_yes rfl (pG_yes rfl (c_reads d9 okT fun w10 A10 cp10 h10 _ f10 => ?_)))))
      have d10 := d9.fr f10 fun b hb => hb.elim
      have f510 : Fr no w5 w10 := ((f58.or f9).or f10).mono (by rintro b ((hb | hb) | hb) <;> exact hb.elim)
      refine pG_yes rfl (pG_yes rfl (c_spansEq h10 (hreads5.fr (by omega) f510 fun _ _ h => h) (by have := okT.reads; omega) fun b11 w11 f11 hb11 => ?_))
      have d11 := d10.fr f11 fun b hb => hb.elim
      have e11 : b11 = true := hb11.2 n3
      subst e11
      refine pG_yes rfl (s_not (s_pick_f (pG_yes rfl (pG_yes rfl (c_off d11.disk hrT (pG_yes rfl ?_))))))
      refine pG_yes rfl (s_neb_f n4 (s_pick_f (pC_false ?_)))
      exact fin _ w11 ((f510.or f11).mono (by rintro b (hb | hb) <;> exact hb.elim)) (by exact e0) (by exact e1) (by exact e5) (by exact e7)
    have n55 : r ≠ 55 := fun h => hfull (.inl h)
    have n56 : r ≠ 56 := fun h => hfull (.inr h)
    refine s_eqi_f n55 (pG_yes rfl (pG_yes rfl (s_eqi_f n56 (s_pick_f ?_))))
    refine pG_sk (pG_sk (pG_sk (pG_sk (pG_sk (s_pick_f ?_)))))
    refine pG_yes rfl (pG_yes rfl (s_not (pG_yes rfl (pG_yes rfl (pG_yes rfl ?_)))))
    by_cases h50 : r = 50
    · refine s_nei_f h50 (pG_yes rfl (s_pick_t (pG_yes rfl (pG_sk (pG_sk (pG_sk (pG_sk (pG_yes rfl (s_pick_f (s_pick_f (pC_false ?_))))))))))) 
      cases ho : S.off with
      | true =>
        have hs0 := F.offOff ho h50
        refine pG_yes rfl (pG_yes rfl (s_eqi_t h50 (s_pick_t (pG_yes rfl (pG_yes rfl (c_strokes dT.disk hrT (pG_yes rfl (pG_yes rfl (s_nei_f hs0 (s_pick_t (pC_false ?_)))))))))))
        refine s_eqi_t h50 (pG_yes rfl (pG_yes rfl (s_not (s_pick_t (pC_false ?_)))))
        obtain ⟨n1, n2, n3, n4⟩ := F.nought hr0 (by intro _; exact ho)
        refine c_files sortsKeys dT okT (fun p hp => by have := okT.shownNames p hp; unfold maxLen; omega) fun w6 v6 h6 f6 => ?_
        have d6 := dT.fr f6 fun b hb => hb.elim
        refine c_filesEq h6 (filesV_fr hwas5 f6) (files_small okT).1 (files_small okT).2 fun w7 f7 => ?_
        have d7 := d6.fr f7 fun b hb => hb.elim
        rw [decide_eq_true n1]
        refine s_not (pG_yes rfl (pG_yes rfl (c_safe sortsKeys d7 okT (fun p hp => by have := okT.sn p hp; unfold maxLen; omega) fun w8 v8 h8 f8 => ?_)))
        have d8 := d7.fr f8 fun b hb => hb.elim
        have f58 : Fr no w5 w8 := ((f6.or f7).or f8).mono (by rintro b ((hb | hb) | hb) <;> exact hb.elim)
        refine pG_yes rfl (pG_yes rfl (c_filesEq h8 (filesV_fr hsafe5 f58) (safes_small okT).1 (safes_small okT).2 fun w9 f9 => ?_))
        have d9 := d8.fr f9 fun b hb => hb.elim
        rw [decide_eq_true n2]
        refine pG_yes rfl (s_not (s_pick_f (pG_yes rfl (pG_yes rfl (c_reads d9 okT fun w10 A10 cp10 h10 _ f10 => ?_)))))
        have d10 := d9.fr f10 fun b hb => hb.elim
        have f510 : Fr no w5 w10 := ((f58.or f9).or f10).mono (by rintro b ((hb | hb) | hb) <;> exact hb.elim)
        refine pG_yes rfl (pG_yes rfl (c_spansEq h10 (hreads5.fr (by omega) f510 fun _ _ h => h) (by have := okT.reads; omega) fun b11 w11 f11 hb11 => ?_))
        have d11 := d10.fr f11 fun b hb => hb.elim
        have e11 : b11 = true := hb11.2 n3
        subst e11
        refine pG_yes rfl (s_not (s_pick_f (pG_yes rfl (pG_yes rfl (c_off d11.disk hrT (pG_yes rfl ?_))))))
        refine pG_yes rfl (s_neb_f (n4.trans ho) (s_pick_f (pC_false ?_)))
        exact fin _ w11 ((f510.or f11).mono (by rintro b (hb | hb) <;> exact hb.elim)) (by exact e0) (by exact e1) (by exact e5) (by exact e7)
      | false =>
        obtain ⟨hs1, hoT, hsf⟩ := F.offNow ho h50
        refine pG_sk (pG_sk (s_pick_f (pG_sk (pG_sk (pG_sk (pG_sk (s_pick_f (pC_false ?_))))))))
        refine s_eqi_t h50 (pG_yes rfl (pG_yes rfl (s_not (s_pick_t (pC_true ?_)))))
        refine c_strokes dT.disk hrT (s_add_in (by omega) (s_nei_f (by omega) (pG_yes rfl (pG_yes rfl (c_off dT.disk hrT ?_)))))
        rw [hoT]
        refine pG_yes rfl (s_not (s_pick_f (pG_yes rfl (pG_yes rfl (c_safe sortsKeys dT okT (fun p hp => by have := okT.sn p hp; unfold maxLen; omega) fun w8 v8 h8 f8 => ?_)))))
        refine pG_yes rfl (pG_yes rfl (c_filesEq h8 (filesV_fr hsafe5 f8) (safes_small okT).1 (safes_small okT).2 fun w9 f9 => ?_))
        rw [decide_eq_true hsf]
        refine pG_yes rfl (s_not (s_pick_f (pC_false ?_)))
        exact fin _ w9 ((f8.or f9).mono (by rintro b (hb | hb) <;> exact hb.elim)) (by exact e0) (by exact e1) (by exact e5) (by exact e7)
    · have hs0 := F.part hr0 n55 n56 h50
      refine s_nei_t h50 (pG_yes rfl (s_pick_t (pG_yes rfl (pG_yes rfl (pG_yes rfl (c_strokes dT.disk hrT (pG_yes rfl (pG_yes rfl (s_nei_f hs0 (pG_yes rfl (s_pick_t (s_pick_f (pC_false ?_)))))))))))))
      refine s_andV (want := r == 50) (fun K h => s_eqi h) fun _ _ => ?_
      have e50 : (S.off && r == 50) = false := by simp [h50]
      rw [e50]
      refine pG_sk (pG_sk (pG_sk (pG_sk (s_pick_f (pC_false (s_eqi_f h50 (pG_sk (pG_sk (s_pick_f (pC_false ?_))))))))))
      obtain ⟨n1, n2, n3, n4⟩ := F.nought hr0 (by intro h; exact absurd h h50)
      refine c_files sortsKeys dT okT (fun p hp => by have := okT.shownNames p hp; unfold maxLen; omega) fun w6 v6 h6 f6 => ?_
      have d6 := dT.fr f6 fun b hb => hb.elim
      refine c_filesEq h6 (filesV_fr hwas5 f6) (files_small okT).1 (files_small okT).2 fun w7 f7 => ?_
      have d7 := d6.fr f7 fun b hb => hb.elim
      rw [decide_eq_true n1]
      refine s_not (pG_yes rfl (pG_yes rfl (c_safe sortsKeys d7 okT (fun p hp => by have := okT.sn p hp; unfold maxLen; omega) fun w8 v8 h8 f8 => ?_)))
      have d8 := d7.fr f8 fun b hb => hb.elim
      have f58 : Fr no w5 w8 := ((f6.or f7).or f8).mono (by rintro b ((hb | hb) | hb) <;> exact hb.elim)
      refine pG_yes rfl (pG_yes rfl (c_filesEq h8 (filesV_fr hsafe5 f58) (safes_small okT).1 (safes_small okT).2 fun w9 f9 => ?_))
      have d9 := d8.fr f9 fun b hb => hb.elim
      rw [decide_eq_true n2]
      refine pG_yes rfl (s_not (s_pick_f (pG_yes rfl (pG_yes rfl (c_reads d9 okT fun w10 A10 cp10 h10 _ f10 => ?_)))))
      have d10 := d9.fr f10 fun b hb => hb.elim
      have f510 : Fr no w5 w10 := ((f58.or f9).or f10).mono (by rintro b ((hb | hb) | hb) <;> exact hb.elim)
      refine pG_yes rfl (pG_yes rfl (c_spansEq h10 (hreads5.fr (by omega) f510 fun _ _ h => h) (by have := okT.reads; omega) fun b11 w11 f11 hb11 => ?_))
      have d11 := d10.fr f11 fun b hb => hb.elim
      have e11 : b11 = true := hb11.2 n3
      subst e11
      refine pG_yes rfl (s_not (s_pick_f (pG_yes rfl (pG_yes rfl (c_off d11.disk hrT (pG_yes rfl ?_))))))
      refine pG_yes rfl (s_neb_f n4 (s_pick_f (pC_false ?_)))
      exact fin _ w11 ((f510.or f11).mono (by rintro b (hb | hb) <;> exact hb.elim)) (by exact e0) (by exact e1) (by exact e5) (by exact e7)
  · refine s_lt_f (by omega) (pC_false ?_)
    rw [F5_3_eq]
    unfold F5_3
    exact c_known sortsKeys fun w6 f6 => hk w6 (fr_up h.base f6 fun b hb => hb.elim)
/-- DiskRefuses answers true, and what lay there before is as it was. -/
theorem w_refuses {v : Value} {l : Script} {room : Int} (hr : -9223372036854775808 ≤ room ∧ room ≤ 9223372036854775807) (hv : ScriptV W v l) (hk : ∀ w', Fr no W w' → k (.bool true) w') : pFn P 5 [i64 room, v] W k := by
  refine F5_in _ _ _ _ ?_
  unfold F5_0
  refine c_long hv fun b w1 f1 hb => ?_
  cases b with
  | true =>
    refine pG_skf (pG_skf (pG_skf (s_pick_t (pC_true (hk w1 f1)))))
  | false =>
    have hl := hb rfl
    refine pG_yes rfl (pG_yes rfl (s_lenS usl55 (hv.fr f1).src (pG_yes rfl ?_)))
    by_cases hl60 : l.length > 60
    · exact s_gt_t (by omega) (s_pick_f (pC_true (hk w1 f1)))
    refine s_gt_f (by omega) (s_pick_f (pC_false ?_))
    refine c_new (fun hbad => ?_) fun hok w2 L2 d2 f2 => ?_
    · refine s_ext rfl (s_ext rfl ?_)
      by_cases h1 : room < 1
      · refine s_lt_t h1 (pG_skf (pG_skf (s_pick_t (pC_true (s_eqi_t rfl (pG_yes rfl (pG_yes rfl (s_eqpn upt24 (s_pick_t (pG_yes rfl (c_known sortsKeys fun w2 f2 => s_pick_t (hk w2 ?_))))))))))))
        exact fr_up f1 f2 fun b hb => hb.elim
      · refine s_lt_f h1 (pG_yes rfl (pG_yes rfl (s_gt_t (by omega) (s_pick_f (pC_true (s_eqi_t rfl (pG_yes rfl (pG_yes rfl (s_eqpn upt24 (s_pick_t (pG_yes rfl (c_known sortsKeys fun w2 f2 => s_pick_t (hk w2 ?_)))))))))))))
        exact fr_up f1 f2 fun b hb => hb.elim
    · refine s_ext rfl (s_ext rfl ?_)
      refine s_lt_f (by omega) (pG_yes rfl (pG_yes rfl (s_gt_f (by omega) (s_pick_f (pC_false ?_)))))
      refine s_nei_f rfl (pG_yes rfl (pG_yes rfl (s_eqpn upt24 (s_pick_f (pC_false ?_)))))
      exact w_refuses1 (room := room) hv hl hk rfl rfl rfl rfl (Is1.new f1 d2 f2) (AD.Ok.new hok) (new_inj room) rfl
end
end Go.Proofs.Ytcdcojpfealppaa
