/- DiskTorn, walked. -/
import Derived.Test.YtcdcojpfealppaaTornL
import Derived.Test.YtcdcojpfealppaaTwo
import Derived.Test.YtcdcojpfealppaaSafeW
set_option linter.unusedVariables false
set_option linter.unusedSimpArgs false
set_option maxRecDepth 100000
namespace Go.Proofs.Ytcdcojpfealppaa
open Go Go.Proofs Go.RowKit Go.Proofs.XRed Go.Proofs.XHeap Go.Proofs.XMaps Go.Proofs.XSlices Go.Proofs.XDisk Go.Proofs.XCalls Go.Proofs.XRange Go.Proofs.XKeys
section
variable {W w : World} {D : Nat} {S S' : AD} {O I : Nat → Prop} {L : Lay} {k : Value → World → Prop}
theorem run_ldWr {b o : Nat} {x : WrA} {dv : Value} (h : ∀ j u, (wrCells x dv)[j]? = some u → w.cell? ⟨b, o + j, none⟩ = some u) : (Instr.loadAt 43 (.pointer (some ⟨b, o, none⟩))).run P w = .ok (wrVal x dv) w := by
  have := run_loadCells_list (P := P) w ⟨b, o, none⟩ (wrCells x dv) (fun j v hj => by rw [add_at]; exact h j v hj)
  have e : (wrCells x dv).length = 3 := rfl
  rw [e] at this
  have hr : (Instr.loadAt 43 (.pointer (some ⟨b, o, none⟩))).run P w = .ok (.agg (wrCells x dv).toArray) w := by
    simp [Instr.loadAt, Instr.sureAddr, loadVar, Try.isAgg43, Try.sizeOf43, this, Result.andThen]
  exact hr
def wrArr (x : WrA) (dv : Value) : Array Value := #[.bool x.cut, i64 x.at_, dv]
/-- Element i of a row of writes. -/
theorem s_wr {v : Value} {l : Writes} {i : Nat} (h : Src w v 3 l.length (writesCells l)) (hi : i < l.length) {kk : Value → Value → World → Prop} (hk : ∀ p, kk p (wrVal l[i].1 l[i].2) w) :
    px P (Instr.indexAt 41 v (i64 i)) w fun p w => px P (Instr.loadAt 43 p) w (kk p) := by
  obtain ⟨b, o, c, ev, h0, h1, h2⟩ := writes_at h hi
  rw [ev]
  refine s_ix (i := (i : Int)) usl41 (sze41 _) (by omega) (by omega) ?_
  have ei : (i : Int).toNat = i := rfl
  rw [ei]
  refine px_ok (run_ldWr (x := l[i].1) (dv := l[i].2) fun j u hj => ?_) (hk _)
  match j, hj with
  | 0, hj => injection hj with hj; rw [← hj]; exact h0
  | 1, hj => injection hj with hj; rw [← hj]; exact h1
  | 2, hj => injection hj with hj; rw [← hj]; exact h2
/-- Element i of a row of writes, put into a variable of the round's. -/
theorem s_wrVar {v : Value} {l : Writes} {i : Nat} (h : WritesV w v l) (hi : i < l.length) {kk : Value → Value → Value → World → Prop}
    (hk : ∀ p w', Fr no w w' → w'.heap.size = w.heap.size + 1 → w'.heap[w.heap.size]? = some (.cells (wrArr l[i].1 l[i].2) 43 (0, 0)) → kk p (wrVal l[i].1 l[i].2) (ptr w.heap.size) w') :
    px P (Instr.indexAt 41 v (i64 i)) w fun p w => px P (Instr.loadAt 43 p) w fun x w => px P (Instr.alloc 43 true (.tuple #[])) w fun a w => pu P (Instr.storeAt 43 a x) w (kk p x a) := by
  refine s_wr h.src hi fun p => ?_
  refine s_alloc (Try.zeroValue43 _) ?_
  generalize hz : (Value.cells _ : Array Value) = zs
  have hzs : zs.size = 3 := by rw [← hz]; rfl
  have f1 : Fr no w (w.alloc (.cells zs 43)) := Fr.alloc ..
  have b1 := alloc_new w (.cells zs 43)
  have z1 : (w.alloc (.cells zs 43)).heap.size = w.heap.size + 1 := by simp
  refine s_stN (vs := wrCells l[i].1 l[i].2) (Try.sizeOf43 _) rfl ?_ b1 (by omega) fun w2 hb2 f2 z2 => ?_
  · have hs := h.all _ (List.getElem_mem hi)
    obtain ⟨A5, c5, ed, _⟩ := hs.data.form
    intro u hu
    unfold wrCells at hu
    rw [ed] at hu
    simp only [List.mem_cons, List.not_mem_nil, or_false] at hu
    rcases hu with rfl | rfl | rfl <;> rfl
  · refine hk _ w2 ((f1.or f2).mono ?_) (by omega) ?_
    · rintro b (hb | hb)
      · exact hb.elim
      · right; omega
    · rw [hb2]
      have e : zs.toList.drop (0 + 3) = [] := List.drop_eq_nil_of_le (by simp; omega)
      rw [e]
      simp [wrCells, wrArr]
def sumD (l : Writes) : Nat := (l.map fun p => p.1.data.length + 1).sum
theorem sumD_take {l : Writes} {i : Nat} (hi : i < l.length) : sumD (l.take (i + 1)) = sumD (l.take i) + (l[i].1.data.length + 1) := by
  unfold sumD
  rw [List.take_succ_eq_append_getElem hi, List.map_append, List.sum_append]; simp
theorem sumD_drop {l : Writes} {i : Nat} (hi : i < l.length) : sumD (l.drop i) = (l[i].1.data.length + 1) + sumD (l.drop (i + 1)) := by
  unfold sumD
  rw [List.drop_eq_getElem_cons hi, List.map_cons, List.sum_cons]
theorem sumD_ge (l : Writes) : ∀ i, i ≤ l.length → i ≤ sumD (l.take i)
  | 0, _ => Nat.zero_le _
  | i + 1, h => by have := sumD_ge l i (by omega); rw [sumD_take (by omega)]; omega
abbrev Args (bv v : Value) (pick off how : Int) (ρ : Env) : Prop := ρ 0 = bv ∧ ρ 1 = v ∧ ρ 2 = i64 pick ∧ ρ 3 = i64 off ∧ ρ 4 = i64 how
theorem w_torn1 {bv v : Value} {pick off how : Int} {b0 : Bytes} {l : Writes} (hv : WritesV W v l) (hb0 : b0.length ≤ 140737488355328) (hk0 : ∀ w', Fr no W w' → k (.bool true) w')
    (hk : ∀ (ρ : Env) (w : World), Args bv v pick off how ρ → Fr no W w → ρ 11 = i64 (b0.length + sumD l : Nat) → (l = [] ∨ b0.length + sumD l ≤ 100000) → F4_2 k ρ w)
    {ρ : Env} (ha : Args bv v pick off how ρ) (e11 : ρ 11 = i64 b0.length) (e12 : ρ 12 = i64 0) : F4L1 k ρ W := by
  refine F4L1_inv (m := l.length) k (fun m ρ w => ∃ i : Nat, i + m = l.length ∧ Args bv v pick off how ρ ∧ Fr no W w ∧ ρ 11 = i64 (b0.length + sumD (l.take i) : Nat) ∧ ρ 12 = i64 i ∧ (i = 0 ∨ b0.length + sumD (l.take i) ≤ 100000)) ?_
    ⟨0, by omega, ha, Fr.refl _ _, by simpa [sumD] using e11, e12, .inl rfl⟩
  rintro m ρ w ⟨i, him, ha, hf, e11, e12, hn⟩
  rw [F4_1_eq]
  unfold F4_1
  have hvw := hv.fr hf
  rw [ha.2.1, e11, e12]
  refine s_lenS usl41 hvw.src ?_
  by_cases hi : i < l.length
  · refine s_lt_t (by omega) (pC_true ?_)
    obtain ⟨b, o, c, ev, h0, h1, h2⟩ := writes_at hvw.src hi
    have hx := hvw.all _ (List.getElem_mem hi)
    have hdl := hx.dlen
    obtain ⟨Ad, cd, ed, hcd⟩ := hx.data.form
    rw [ev]
    refine s_ix (i := (i : Int)) usl41 (sze41 _) (by omega) (by omega) (fa43_2 (s_ld (v := l[i].2) (Try.isAgg30 _) (by simpa using h2) ?_))
    rw [ed]
    have hsum := sumD_take hi
    refine s_len usl30 ?_
    have hsm : (b0.length + sumD (l.take i) : Nat) ≤ 140737488355328 := by
      rcases hn with rfl | hn
      · simpa [sumD] using hb0
      · omega
    refine s_add_in (by omega) (s_add_in (by omega) ?_)
    by_cases hgt : ((b0.length + sumD (l.take i) : Nat) : Int) + l[i].1.data.length + 1 > 100000
    · exact s_gt_t hgt (pC_true (hk0 w hf))
    have hge := sumD_ge l i (by omega)
    refine s_gt_f hgt (pC_false (s_add_in (by omega) ?_))
    rw [← ev]
    refine ⟨m - 1, by omega, i + 1, by omega, by exact ha, hf, ?_, ?_, .inr (by omega)⟩
    · show i64 _ = i64 _
      rw [hsum]; congr 1; omega
    · show i64 _ = i64 _; simp
  · refine s_lt_f (by omega) (pC_false ?_)
    rw [F4_2_eq]
    have e : i = l.length := by omega
    subst e
    rw [List.take_of_length_le (Nat.le_refl _)] at e11 hn
    refine hk _ w (by exact ha) hf (by exact e11) ?_
    rcases hn with h | h
    · exact .inl (List.eq_nil_of_length_eq_zero h)
    · exact .inr h
/-- What the loop of the writes holds. -/
structure Tearing (W w : World) (D : Nat) (S : AD) (b0 b : Bytes) (done : Writes) (dv : Value) (c : Nat) : Prop where
  is1 : Is1 W w D S (fun i => sblk dv = some i)
  row : w.ownsRow W.heap.size 43 3 dv done.length (writesCells done)
  torn : Torn S b0 (done.map (·.1)) b
  ok : S.Ok c
  all : ∀ p ∈ done, WrV W p.1 p.2 ∧ 0 ≤ p.1.at_ ∧ p.1.data.length ≤ 100000
theorem ok_wr {c : Nat} (ok : S.Ok c) (hs : c < 1099511627776) (x : WrA) : (S.wr x).2.Ok (c + 1) := by
  unfold AD.wr
  split
  · exact ok.truncate hs _ _
  · exact ok.writeAt hs _ _ _
theorem fN_small : fN.size ≤ 9223372036854775807 := by decide
theorem wr_one {x : WrA} {dv : Value} (h : WrV w x dv) : ∀ u ∈ wrCells x dv, u.oneCell' = true := by
  obtain ⟨A5, c5, ed, _⟩ := h.data.form
  intro u hu
  unfold wrCells at hu
  rw [ed] at hu
  simp only [List.mem_cons, List.not_mem_nil, or_false] at hu
  rcases hu with rfl | rfl | rfl <;> rfl
/-- Does the write lie in the file? -/
theorem s_fit {xb : Nat} {cs : Array Value} {a n : Int} {x1 x2 y1 y2 : Operand} (hb : w.heap[xb]? = some (.cells cs 43 (0, 0))) (hc : cs[1]? = some (i64 a))
    {kk : Value → Value → Value → Value → Value → Value → Value → Value → World → Prop} (hk : ∀ v1 v2 v3 v4 v5 v6 v7, kk v1 v2 v3 v4 v5 v6 v7 (.bool (decide (0 ≤ a ∧ a ≤ n))) w) :
    px P (Instr.fieldAt 43 (ptr xb) 1) w fun v110 w => px P (Instr.loadAt 3 v110) w fun v111 w => px P (binSem .geq 3 x1 x2 v111 (i64 0)) w fun v112 w =>
      pG v112 true (fun k => px P (Instr.fieldAt 43 (ptr xb) 1) w k) (w := w) (next := fun v114 w => pG v112 true (fun k => px P (Instr.loadAt 3 v114) w k) (w := w) (next := fun v115 w => pG v112 true (fun k => k (i64 n) w) (w := w) (next := fun v116 w =>
      pG v112 true (fun k => px P (binSem .leq 3 y1 y2 v115 v116) w k) (w := w) (next := fun v117 w => px P (pickSem v112 v117 (.bool false)) w (kk v110 v111 v112 v114 v115 v116 v117))))) := by
  refine fa43_1 (s_ldb (v := i64 a) (Try.isAgg3 _) hb hc ?_)
  by_cases h0 : a ≥ 0
  · refine s_ge_t h0 (pG_yes rfl (fa43_1 (pG_yes rfl (s_ldb (v := i64 a) (Try.isAgg3 _) hb hc (pG_yes rfl (pG_yes rfl (s_le (s_pick_t ?_))))))))
    have e : decide (0 ≤ a ∧ a ≤ n) = decide (a ≤ n) := by
      by_cases h : a ≤ n <;> simp [h, h0]
    rw [← e]; exact hk _ _ _ _ _ _ _
  · refine s_ge_f h0 (pG_sk (pG_sk (pG_sk (pG_sk (s_pick_f ?_)))))
    have e : decide (0 ≤ a ∧ a ≤ n) = false := decide_eq_false (by omega)
    rw [← e]; exact hk _ _ _ _ _ _ _
set_option maxHeartbeats 1000000 in
theorem w_torn3 {bv v : Value} {pick off how : Int} {b0 : Bytes} {l : Writes} (hv : WritesV W v l) (hl : l.length ≤ 200) (hsum : b0.length + sumD l ≤ 100000)
    (hk : ∀ (ρ : Env) (w : World) S b done dv, Args bv v pick off how ρ → ρ 13 = ptr D → ρ 15 = dv → ρ 16 = i64 (unitsOf (chgs (done.map (·.1)))) → Tearing W w D S b0 b done dv 400 → done.length ≤ 200 → unitsOf (chgs (done.map (·.1))) ≤ 200000 → b.length ≤ 100000 → F4_5 k ρ w)
    {ρ : Env} {w : World} {dv : Value} (ha : Args bv v pick off how ρ) (e13 : ρ 13 = ptr D) (e15 : ρ 15 = dv) (e16 : ρ 16 = i64 0) (e17 : ρ 17 = i64 b0.length) (e18 : ρ 18 = i64 0) (ho : S.off = false) (h : Tearing W w D S b0 b0 [] dv 10) : F4L2 k ρ w := by
  refine F4L2_inv (m := l.length) k (fun m ρ w => ∃ (i : Nat) (S : AD) (b : Bytes) (done : Writes) (dv : Value), i + m = l.length ∧ Args bv v pick off how ρ ∧ ρ 13 = ptr D ∧ ρ 15 = dv ∧ ρ 16 = i64 (unitsOf (chgs (done.map (·.1)))) ∧ ρ 17 = i64 b.length ∧ ρ 18 = i64 i ∧ S.off = false ∧ Tearing W w D S b0 b done dv (10 + i) ∧ done.length ≤ i ∧ unitsOf (chgs (done.map (·.1))) + sumD (l.drop i) ≤ 100000 ∧ b.length + sumD (l.drop i) ≤ 100000) ?_
    ⟨0, S, b0, [], dv, by omega, ha, e13, e15, e16, e17, e18, ho, h, Nat.zero_le _, by rw [List.drop_zero]; show 0 + _ ≤ _; omega, by rw [List.drop_zero]; exact hsum⟩
  rintro m ρ w ⟨i, S, b, done, dv, him, ha, e13, e15, e16, e17, e18, ho, h, hdi, hun, hbl⟩
  rw [F4_3_eq]
  unfold F4_3
  have hvw := hv.fr h.is1.base
  rw [ha.2.1, e13, e17, e18]
  refine s_lenS usl41 hvw.src ?_
  by_cases hi : i < l.length
  · refine s_lt_t (by omega) (pC_true ?_)
    refine s_wrVar hvw hi fun p w1 f1 z1 b1 => ?_
    have hsd := sumD_drop hi
    have hxv : WrV W l[i].1 l[i].2 := hv.all _ (List.getElem_mem hi)
    generalize hx : l[i].1 = x at *
    generalize hxd : l[i].2 = xv at *
    have hK1 : Is1 W w1 D S (fun j => sblk dv = some j ∨ j = w.heap.size) := by
      refine h.is1.own (K := fun j => sblk dv = some j) (f1.mono fun b hb => hb.elim) (fun j hj => (own_blk_lt h.row hj).1) ?_ ?_
      · rintro j (hj | hj)
        · exact .inl hj
        · exact .inr (by omega)
      · rintro j (hj | hj)
        · have := (own_blk_lt h.row hj).2; omega
        · omega
    have row1 := own_fr h.row f1 fun _ _ h => h
    have hsz := h.is1.base.size
    have hat := hxv.at_
    have kc1 : (wrArr x xv)[1]? = some (i64 x.at_) := rfl
    have kc0 : (wrArr x xv)[0]? = some (.bool x.cut) := rfl
    have kc2 : (wrArr x xv)[2]? = some xv := rfl
    -- behind the call
    have part4 : ∀ (ρ' : Env) w' T r, Args bv v pick off how ρ' → ρ' 13 = ptr D → ρ' 15 = dv → ρ' 16 = i64 (unitsOf (chgs (done.map (·.1)))) → ρ' 17 = i64 b.length → ρ' 18 = i64 i → ρ' 19 = ptr w.heap.size → ρ' 20 = i64 r → ρ' 21 = .bool (decide (x.fit b.length)) → S.wr x = (r, T) →
        Is1 W w' D T (fun j => sblk dv = some j ∨ j = w.heap.size) → Fr (fun j => ¬ (sblk dv = some j ∨ j = w.heap.size)) w1 w' →
        F4A2 k (fun ρ' w' => ∃ m', m' < m ∧ ∃ (i : Nat) (S : AD) (b : Bytes) (done : Writes) (dv : Value), i + m' = l.length ∧ Args bv v pick off how ρ' ∧ ρ' 13 = ptr D ∧ ρ' 15 = dv ∧ ρ' 16 = i64 (unitsOf (chgs (done.map (·.1)))) ∧ ρ' 17 = i64 b.length ∧ ρ' 18 = i64 i ∧ S.off = false ∧ Tearing W w' D S b0 b done dv (10 + i) ∧ done.length ≤ i ∧ unitsOf (chgs (done.map (·.1))) + sumD (l.drop i) ≤ 100000 ∧ b.length + sumD (l.drop i) ≤ 100000) [1, 0, 0, 1, 1, 1, 1] ρ' w' := by
      intro ρ' w' T r ha e13 e15 e16 e17 e18 e19 e20 e21 ewr hI hf
      rw [F4_4_eq]
      unfold F4_4
      rw [e20, e21, e13, e15, e16, e17, e19]
      have okT : T.Ok (10 + (i + 1)) := by have := ok_wr h.ok (by omega) x; rw [ewr] at this; exact this
      have b' : w'.heap[w.heap.size]? = some (.cells (wrArr x xv) 43 (0, 0)) := hf.get b1 fun hn => hn (.inr rfl)
      have row' := own_fr row1 hf fun j hj hn => hn (.inl hj)
      by_cases hfit : x.fit b.length
      · obtain ⟨hr, hT⟩ := h.torn.step ho hfit (by omega)
        rw [ewr] at hr hT
        rw [decide_eq_true hfit]
        simp only at hr hT
        have hlenW := WrA.len hfit
        have hus := unitsOf_snoc (done.map (·.1)) x
        have hUx : x.units ≤ x.data.length + 1 := by unfold WrA.units; split <;> omega
        have hxsz : x.size b.length ≤ b.length + x.data.length := by
          obtain ⟨h0, h1⟩ := hfit
          unfold WrA.size
          split
          · omega
          · split <;> omega
        have htail : ∀ (ρ' : Env) w3 dv' (n' : Int), Args bv v pick off how ρ' → ρ' 13 = ptr D → ρ' 15 = dv' → ρ' 16 = i64 (unitsOf (chgs (done.map (·.1))) + x.units : Nat) → ρ' 17 = i64 n' → n' = x.size b.length → ρ' 18 = i64 i → ρ' 20 = i64 r →
            Is1 W w3 D T (fun j => sblk dv' = some j) → w3.ownsRow W.heap.size 43 3 dv' (done.length + 1) (writesCells done ++ wrCells x xv) →
            F4A2 k (fun ρ' w' => ∃ m', m' < m ∧ ∃ (i : Nat) (S : AD) (b : Bytes) (done : Writes) (dv : Value), i + m' = l.length ∧ Args bv v pick off how ρ' ∧ ρ' 13 = ptr D ∧ ρ' 15 = dv ∧ ρ' 16 = i64 (unitsOf (chgs (done.map (·.1)))) ∧ ρ' 17 = i64 b.length ∧ ρ' 18 = i64 i ∧ S.off = false ∧ Tearing W w' D S b0 b done dv (10 + i) ∧ done.length ≤ i ∧ unitsOf (chgs (done.map (·.1))) + sumD (l.drop i) ≤ 100000 ∧ b.length + sumD (l.drop i) ≤ 100000) [1, 0, 0, 1, 1, 1, 1, 1, 1, 1, 1, 1] ρ' w3 := by
          intro ρ' w3 dv' n' ha e13 e15 e16 e17 en e18 e20 hI3 hrow3
          have hm : (done ++ [(x, xv)]).map (·.1) = done.map (·.1) ++ [x] := by simp
          have hte : Tearing W w3 D T b0 (x.chg.made b x.units) (done ++ [(x, xv)]) dv' (10 + (i + 1)) := by
            refine ⟨hI3, ?_, by rw [hm]; exact hT, okT, ?_⟩
            · have e1 : writesCells (done ++ [(x, xv)]) = writesCells done ++ wrCells x xv := by unfold writesCells; simp
              rw [e1, List.length_append]; exact hrow3
            · intro p hp
              rcases List.mem_append.1 hp with hp | hp
              · exact h.all p hp
              · rw [List.mem_singleton] at hp; subst hp
                exact ⟨hxv, hfit.1, by show x.data.length ≤ 100000; omega⟩
          rw [F4_7_eq]
          unfold F4_7
          rw [e18, e20]
          cases hoT : T.off with
          | true =>
            rw [hoT] at hr
            rw [hr]
            refine s_eqi_t rfl (pC_true ?_)
            rw [F4_5_eq]
            refine hk _ w3 T _ _ dv' (by exact ha) (by exact e13) (by exact e15) (by rw [hm, hus]; exact e16) ⟨hte.is1, hte.row, hte.torn, hte.ok.mono (by omega) (by omega), hte.all⟩ (by simp; omega) (by rw [hm, hus]; omega) (by omega)
          | false =>
            rw [hoT] at hr
            rw [hr]
            refine s_eqi_f (by decide) (pC_false (s_add_in (by omega) ?_))
            refine ⟨m - 1, by omega, i + 1, T, _, _, dv', by omega, by exact ha, by exact e13, by exact e15, by rw [hm, hus]; exact e16, ?_, ?_, hoT, hte, by simp; omega, by rw [hm, hus]; omega, by omega⟩
            · show ρ' 17 = _
              rw [e17, hlenW, en]
            · show i64 _ = i64 _; simp
        -- the row of what was done
        have added : ∀ {kk : Value → Value → Value → World → Prop}, (∀ v1 v2 dv' w3, Is1 W w3 D T (fun j => sblk dv' = some j) → w3.ownsRow W.heap.size 43 3 dv' (done.length + 1) (writesCells done ++ wrCells x xv) → w3.heap[w.heap.size]? = some (.cells (wrArr x xv) 43 (0, 0)) → kk v1 v2 dv' w3) →
            px P (Instr.loadAt 43 (ptr w.heap.size)) w' fun v162 w => px P (Instr.buildSlice 41 1 #[(0, v162)]) w fun v163 w => px P (bSem .append #[41, 41] 41 #[dv, v163]) w (kk v162 v163) := by
          intro kk hkk
          have hld : (Instr.loadAt 43 (ptr w.heap.size)).run P w' = .ok (wrVal x xv) w' := by
            refine run_ldWr fun j u hj => ?_
            have hj' : j < 3 := (List.getElem?_eq_some_iff.1 hj).1
            refine cell_blk b' ?_
            rw [Nat.zero_add]
            have : (wrArr x xv).toList = wrCells x xv := rfl
            rw [← Array.getElem?_toList, this]; exact hj
          refine px_ok hld ?_
          refine px_ok (w' := w'.alloc (.cells (wrArr x xv) 43)) (v := .slice (some ⟨w'.heap.size, 0, none⟩) 1 1) ?_ ?_
          · show (Instr.buildSlice 41 1 #[(0, .agg #[.bool x.cut, i64 x.at_, xv])]).run P w' = .ok _ (w'.alloc (.cells #[.bool x.cut, i64 x.at_, xv] 43))
            kernel_rfl
          have f2 := Fr.alloc no w' (.cells (wrArr x xv) 43)
          have z2 : (w'.alloc (.cells (wrArr x xv) 43)).heap.size = w'.heap.size + 1 := by simp
          have hlit := own_lit w' 0 43 3 (wrArr x xv) 1 (Nat.zero_le _) (by unfold maxLen; omega) rfl
          generalize w'.alloc (.cells (wrArr x xv) 43) = w2 at *
          have row2 := own_fr row' f2 fun _ _ h => h
          have hI2 := hI.quiet f2
          have b2 := f2.get b' id
          have hlt := lt_of_get b'
          have hsz2 := f2.size
          have hdl := h.torn
          refine ap41 row2 (Src.of_own hlit) (wr_one hxv) (by omega) (by have := hI.base.size; omega) fun dv' w3 row3 f3 hb3 => ?_
          have hnew : ∀ j, sblk dv' = some j → sblk dv = some j ∨ j = w2.heap.size := by
            intro j hj
            rcases hb3 with e | e
            · left; rw [← e]; exact hj
            · right; rw [e] at hj; injection hj with hj; exact hj.symm
          refine hkk _ _ dv' w3 ?_ row3 (f3.get b2 fun hb => ?_)
          · refine hI2.own (f3.mono fun j hj => .inl (.inl hj.symm)) ?_ ?_ ?_
            · rintro j (hj | hj)
              · exact (own_blk_lt h.row hj).1
              · omega
            · intro j hj
              rcases hnew j hj with e | e
              · exact .inl (.inl e)
              · exact .inr (by omega)
            · intro j hj
              exact (own_blk_lt row3 hj).2
          · have := (own_blk_lt h.row hb.symm).2; omega
        have hroom := okT.room.1
        cases hoT : T.off with
        | false =>
          rw [hoT] at hr
          rw [hr]
          refine s_nei_f rfl ?_
          repeat (first | refine pG_sk ?_ | refine pG_skf ?_ | refine pG_un ?_ | refine pG_yes rfl ?_)
          refine s_pick_f (pC_false (s_not ?_))
          repeat (first | refine pG_sk ?_ | refine pG_skf ?_ | refine pG_un ?_ | refine pG_yes rfl ?_)
          refine s_pick_f (pC_false (s_not ?_))
          repeat (first | refine pG_sk ?_ | refine pG_skf ?_ | refine pG_un ?_ | refine pG_yes rfl ?_)
          refine s_eqi_f (by decide) ?_
          repeat (first | refine pG_sk ?_ | refine pG_skf ?_ | refine pG_un ?_ | refine pG_yes rfl ?_)
          refine s_pick_f ?_
          repeat (first | refine pG_sk ?_ | refine pG_skf ?_ | refine pG_un ?_ | refine pG_yes rfl ?_)
          refine s_pick_f (pC_false ?_)
          refine added fun v1 v2 dv' w3 hI3 row3 b3 => ?_
          refine fa43_0 (s_ldb (v := .bool x.cut) (Try.isAgg4 _) b3 kc0 ?_)
          have hsz0 : x.size b.length = if x.cut then x.at_ else if x.at_ + x.data.length > b.length then x.at_ + x.data.length else b.length := rfl
          cases hc : x.cut with
          | true =>
            rw [hc] at hsz0
            have eu : x.units = 1 := by unfold WrA.units; rw [hc]; rfl
            refine pC_true (s_add_in (by omega) ?_)
            refine fa43_1 (s_ldb (v := i64 x.at_) (Try.isAgg3 _) b3 kc1 ?_)
            exact htail _ w3 dv' x.at_ (by exact ha) (by exact e13) rfl (by rw [eu]; rfl) rfl hsz0.symm (by exact e18) (by exact e20) hI3 row3
          | false =>
            rw [hc] at hsz0
            simp only [Bool.false_eq_true, if_false] at hsz0
            have eu : x.units = x.data.length := by unfold WrA.units; rw [hc]; rfl
            obtain ⟨Ad, cd, ed, hcd⟩ := hxv.data.form
            have hlen : ∀ {w' : World} {K : Value → World → Prop}, K (i64 x.data.length) w' → px P (bSem .len #[30] 3 #[xv]) w' K := by
              intro w' K hK
              rw [ed]
              exact s_len usl30 hK
            refine pC_false (fa43_2 (s_ldb (v := xv) (Try.isAgg30 _) b3 kc2 (hlen (s_add_in (by omega) ?_))))
            refine fa43_1 (s_ldb (v := i64 x.at_) (Try.isAgg3 _) b3 kc1 ?_)
            refine fa43_2 (s_ldb (v := xv) (Try.isAgg30 _) b3 kc2 (hlen (s_add_in (by omega) ?_)))
            by_cases hgt : x.at_ + x.data.length > b.length
            · rw [if_pos hgt] at hsz0
              refine s_gt_t hgt (pC_true ?_)
              refine fa43_1 (s_ldb (v := i64 x.at_) (Try.isAgg3 _) b3 kc1 ?_)
              refine fa43_2 (s_ldb (v := xv) (Try.isAgg30 _) b3 kc2 (hlen (s_add_in (by omega) ?_)))
              exact htail _ w3 dv' (x.at_ + x.data.length) (by exact ha) (by exact e13) rfl (by rw [eu]; rfl) rfl hsz0.symm (by exact e18) (by exact e20) hI3 row3
            · rw [if_neg hgt] at hsz0
              refine s_gt_f hgt (pC_false ?_)
              exact htail _ w3 dv' b.length (by exact ha) (by exact e13) rfl (by rw [eu]; rfl) (by exact e17) hsz0.symm (by exact e18) (by exact e20) hI3 row3
        | true =>
          rw [hoT] at hr
          rw [hr]
          refine s_nei_t (by decide) ?_
          repeat (first | refine pG_sk ?_ | refine pG_skf ?_ | refine pG_un ?_ | refine pG_yes rfl ?_)
          refine s_nei_f rfl (s_pick_t (pC_false (s_not ?_)))
          repeat (first | refine pG_sk ?_ | refine pG_skf ?_ | refine pG_un ?_ | refine pG_yes rfl ?_)
          refine s_pick_f (pC_false (s_not ?_))
          repeat (first | refine pG_sk ?_ | refine pG_skf ?_ | refine pG_un ?_ | refine pG_yes rfl ?_)
          refine s_eqi_t rfl ?_
          repeat (first | refine pG_sk ?_ | refine pG_skf ?_ | refine pG_un ?_ | refine pG_yes rfl ?_)
          have hdT : w'.heap[D]? = some (.cells (dcells T (Classical.choose (Classical.choose_spec (Classical.choose_spec hI)))) 93 (0, 0)) := (Classical.choose_spec (Classical.choose_spec (Classical.choose_spec hI))).rep.disk
          refine c_off hdT hroom ?_
          rw [hoT]
          repeat (first | refine pG_sk ?_ | refine pG_skf ?_ | refine pG_un ?_ | refine pG_yes rfl ?_)
          refine s_not ?_
          repeat (first | refine pG_sk ?_ | refine pG_skf ?_ | refine pG_un ?_ | refine pG_yes rfl ?_)
          refine s_pick_t ?_
          repeat (first | refine pG_sk ?_ | refine pG_skf ?_ | refine pG_un ?_ | refine pG_yes rfl ?_)
          refine s_pick_f (pC_false ?_)
          refine added fun v1 v2 dv' w3 hI3 row3 b3 => ?_
          refine fa43_0 (s_ldb (v := .bool x.cut) (Try.isAgg4 _) b3 kc0 ?_)
          have hsz0 : x.size b.length = if x.cut then x.at_ else if x.at_ + x.data.length > b.length then x.at_ + x.data.length else b.length := rfl
          cases hc : x.cut with
          | true =>
            rw [hc] at hsz0
            have eu : x.units = 1 := by unfold WrA.units; rw [hc]; rfl
            refine pC_true (s_add_in (by omega) ?_)
            refine fa43_1 (s_ldb (v := i64 x.at_) (Try.isAgg3 _) b3 kc1 ?_)
            exact htail _ w3 dv' x.at_ (by exact ha) (by exact e13) rfl (by rw [eu]; rfl) rfl hsz0.symm (by exact e18) (by exact e20) hI3 row3
          | false =>
            rw [hc] at hsz0
            simp only [Bool.false_eq_true, if_false] at hsz0
            have eu : x.units = x.data.length := by unfold WrA.units; rw [hc]; rfl
            obtain ⟨Ad, cd, ed, hcd⟩ := hxv.data.form
            have hlen : ∀ {w' : World} {K : Value → World → Prop}, K (i64 x.data.length) w' → px P (bSem .len #[30] 3 #[xv]) w' K := by
              intro w' K hK
              rw [ed]
              exact s_len usl30 hK
            refine pC_false (fa43_2 (s_ldb (v := xv) (Try.isAgg30 _) b3 kc2 (hlen (s_add_in (by omega) ?_))))
            refine fa43_1 (s_ldb (v := i64 x.at_) (Try.isAgg3 _) b3 kc1 ?_)
            refine fa43_2 (s_ldb (v := xv) (Try.isAgg30 _) b3 kc2 (hlen (s_add_in (by omega) ?_)))
            by_cases hgt : x.at_ + x.data.length > b.length
            · rw [if_pos hgt] at hsz0
              refine s_gt_t hgt (pC_true ?_)
              refine fa43_1 (s_ldb (v := i64 x.at_) (Try.isAgg3 _) b3 kc1 ?_)
              refine fa43_2 (s_ldb (v := xv) (Try.isAgg30 _) b3 kc2 (hlen (s_add_in (by omega) ?_)))
              exact htail _ w3 dv' (x.at_ + x.data.length) (by exact ha) (by exact e13) rfl (by rw [eu]; rfl) rfl hsz0.symm (by exact e18) (by exact e20) hI3 row3
            · rw [if_neg hgt] at hsz0
              refine s_gt_f hgt (pC_false ?_)
              exact htail _ w3 dv' b.length (by exact ha) (by exact e13) rfl (by rw [eu]; rfl) (by exact e17) hsz0.symm (by exact e18) (by exact e20) hI3 row3
      · have hno := h.torn.nofit ho hfit
        rw [ewr] at hno
        injection hno with q1 q2
        subst q1 q2
        rw [decide_eq_false hfit]
        refine s_nei_t (by decide) ?_
        repeat (first | refine pG_sk ?_ | refine pG_skf ?_ | refine pG_un ?_ | refine pG_yes rfl ?_)
        refine s_nei_t (by decide) (s_pick_t (pC_true ?_))
        repeat (first | refine pG_sk ?_ | refine pG_skf ?_ | refine pG_un ?_ | refine pG_yes rfl ?_)
        refine s_nei_f rfl (s_pick_f (pC_false ?_))
        rw [F4_6_eq]
        unfold F4_6
        show px P (binSem BinOp.add 3 (Operand.tmp 104) (Operand.const (Value.int IntKind.i64 1)) (ρ' 18) (Value.int IntKind.i64 1)) w' _
        rw [e18]
        refine s_add_in (by omega) ?_
        refine ⟨m - 1, by omega, i + 1, T, b, done, dv, by omega, by exact ha, by exact e13, by exact e15, by exact e16, by exact e17, ?_, ho, ⟨hI.less fun j hj => .inl hj, row', h.torn, okT, h.all⟩, by omega, by omega, by omega⟩
        show i64 _ = i64 _; simp
    refine s_fit b1 kc1 fun v1 v2 v3 v4 v5 v6 v7 => ?_
    refine fa43_0 (s_ldb (v := .bool x.cut) (Try.isAgg4 _) b1 kc0 ?_)
    have hwr : S.wr x = if x.cut then S.truncate fN x.at_ else S.writeAt fN x.at_ x.data := rfl
    have hdx : x.data.length ≤ 100000 := by omega
    have h0 := h.ok
    cases hc : x.cut with
    | true =>
      rw [hc] at hwr
      refine pC_true (fa43_1 (s_ldb (v := i64 x.at_) (Try.isAgg3 _) b1 kc1 ?_))
      obtain ⟨O, I, L, T1⟩ := hK1
      refine c_truncate T1.rep h0 fN fN_small x.at_ fun w2 O' I' L' hx2 => ?_
      obtain ⟨h2, f2⟩ := T1.is1 hx2
      exact part4 _ w2 _ _ (by exact ha) (by exact e13) (by exact e15) (by exact e16) (by exact e17) (by exact e18) rfl rfl rfl hwr h2 f2
    | false =>
      rw [hc] at hwr
      refine pC_false ?_
      have fd : Fr no w1 w1.drew := Fr.drew _ _
      have bd := fd.get b1 id
      have hKd := hK1.quiet fd
      refine ⟨fun w_ => w_.heap[w.heap.size]? = some (.cells (wrArr x xv) 43 (0, 0)), bd, ?_⟩
      refine q_of _ (fun w_ hS => fa43_1 ⟨rfl, rfl⟩) ?_
      refine q_of (i64 x.at_) (fun w_ hS => s_ldb (v := i64 x.at_) (Try.isAgg3 _) hS kc1 ⟨rfl, rfl⟩) ?_
      refine q_of _ (fun w_ hS => fa43_2 ⟨rfl, rfl⟩) ?_
      refine q_of xv (fun w_ hS => s_ldb (v := xv) (Try.isAgg30 _) hS kc2 ⟨rfl, rfl⟩) ?_
      refine s_lit0 (Try.runUnderlying30 _) (Try.sizeOf5 _) ⟨(Fr.alloc no w1.drew (.cells #[] 5)).get bd id, ?_⟩
      have hxvd : WrV w1.drew x xv := (((hxv.fr h.is1.base fun _ _ h => h).fr f1 fun _ _ h => h).fr fd fun _ _ h => h)
      refine s_copyB hxvd.data (by omega) fun cv w2 f2 h2 hb2 => ⟨f2.get bd id, ?_⟩
      have hK2 := hKd.quiet f2
      obtain ⟨O, I, L, Td⟩ := hKd
      have T2 := Td.by' (K' := fun j => sblk dv = some j ∨ j = w.heap.size) f2 (fun b hb => hb.elim) (fun b hb => hb.elim) (fun b => .inl) fun j hj => Nat.lt_of_lt_of_le (Td.klt j hj) f2.size
      refine c_writeAt T2.rep h0 fN fN_small x.at_ h2 (fun j hj ho => ?_) (by omega) fun w3 O' I' L' hx3 => ⟨?_, ?_⟩
      · have := Td.rep.lt j (.inl ho)
        have := (hb2 j hj).1
        omega
      · exact hx3.fr.get (f2.get bd id) fun hO => (T2.keep _ (.inr rfl)).1 hO
      · obtain ⟨h3, f3⟩ := T2.is1 hx3
        refine part4 _ w3 _ _ (by exact ha) (by exact e13) (by exact e15) (by exact e16) (by exact e17) (by exact e18) rfl rfl rfl hwr h3 ?_
        exact (fd.trans f2 fun b hb => .inl hb).or f3 |>.mono fun b hb => hb.elim (fun h => h.elim) .inl
  · refine s_lt_f (by omega) (pC_false ?_)
    rw [F4_5_eq]
    have e : i = l.length := by omega
    subst e
    refine hk _ w S b done dv (by exact ha) (by exact e13) (by exact e15) (by exact e16) ⟨h.is1, h.row, h.torn, h.ok.mono (by omega) (by omega), h.all⟩ (by omega) (by omega) (by omega)
end
end Go.Proofs.Ytcdcojpfealppaa
