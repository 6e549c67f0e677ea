/- Put together by a program (wip/tools/shake.py): XSep3, RTwin, RTwin2, RTwin3, RTwin4, RTwin5, Desk, Desk2, Pair, Pair2, Pair3, NmEq, Pair4, Pair5, Pair6, XBig. -/
import Derived.Test.YtcdcojpfealppaaGreatV14
import Derived.Test.YtcdcojpfealppaaGreatV13
import Derived.Test.YtcdcojpfealppaaGreatV3
import Derived.Sort.Walk0
import Derived.Test.YtcdcojpfealppaaGreatV1
set_option linter.unusedVariables false
namespace Go.Proofs.XSep
open Go Go.RowKit Go.Proofs.XRed Go.Proofs.XHeap
theorem perm_front {α : Type} : ∀ {l : List α} {i : Nat} {a : α}, l[i]? = some a → l.Perm (a :: l.eraseIdx i)
 | [], _, _, h => by simp at h
 | x :: l, 0, a, h => by simp at h; subst h; exact .refl _
 | x :: l, i + 1, a, h => (List.Perm.cons x (perm_front (l := l) (i := i) (by simpa using h))).trans (List.Perm.swap _ _ _)
theorem Sep.front {w : World} {l : List Asrt} (h : Sep l w) (i : Nat) {a : Asrt} (hi : l[i]? = some a) : Sep (a :: l.eraseIdx i) w := h.perm (perm_front hi)
end Go.Proofs.XSep

set_option linter.unusedVariables false
set_option linter.unusedSimpArgs false
set_option maxRecDepth 100000
namespace Go.Proofs.YtcdcojpfealppaaGreat
open Go Go.Proofs Go.RowKit Go.Proofs.XRed Go.Proofs.XHeap Go.Proofs.XMaps Go.Proofs.XSlices Go.Proofs.XDisk Go.Proofs.XCalls Go.Proofs.XPtr Go.Proofs.XSep Tryz
section
variable {w w0 : World} {D : Nat} {S S' : AD} {O I : Nat → Prop} {L L' : RLay} {k : Value → World → Prop}
end
end Go.Proofs.YtcdcojpfealppaaGreat

set_option linter.unusedVariables false
set_option linter.unusedSimpArgs false
set_option maxRecDepth 100000
namespace Go.Proofs.YtcdcojpfealppaaGreat
open Go Go.Proofs Go.RowKit Go.Proofs.XRed Go.Proofs.XHeap Go.Proofs.XMaps Go.Proofs.XSlices Go.Proofs.XDisk Go.Proofs.XCalls Go.Proofs.XPtr Go.Proofs.XSep Tryz
section
variable {w w0 : World} {D : Nat} {S S' : AD} {O I : Nat → Prop} {L L' : RLay} {k : Value → World → Prop}
end
end Go.Proofs.YtcdcojpfealppaaGreat

set_option linter.unusedVariables false
set_option linter.unusedSimpArgs false
set_option maxRecDepth 100000
namespace Go.Proofs.YtcdcojpfealppaaGreat
open Go Go.Proofs Go.RowKit Go.Proofs.XRed Go.Proofs.XHeap Go.Proofs.XMaps Go.Proofs.XSlices Go.Proofs.XDisk Go.Proofs.XCalls Go.Proofs.XPtr Go.Proofs.XSep Tryz
section
variable {w w0 : World} {D : Nat} {S S' : AD} {O I : Nat → Prop} {L L' : RLay} {k : Value → World → Prop}
end
end Go.Proofs.YtcdcojpfealppaaGreat

set_option linter.unusedVariables false
set_option linter.unusedSimpArgs false
set_option maxRecDepth 100000
namespace Go.Proofs.YtcdcojpfealppaaGreat
open Go Go.Proofs Go.RowKit Go.Proofs.XRed Go.Proofs.XHeap Go.Proofs.XMaps Go.Proofs.XSlices Go.Proofs.XDisk Go.Proofs.XCalls Go.Proofs.XPtr Go.Proofs.XSep Tryz
section
variable {w w0 : World} {D : Nat} {S S' : AD} {O I : Nat → Prop} {L L' : RLay} {k : Value → World → Prop}
end
end Go.Proofs.YtcdcojpfealppaaGreat

set_option linter.unusedVariables false
set_option linter.unusedSimpArgs false
set_option maxRecDepth 100000
namespace Go.Proofs.YtcdcojpfealppaaGreat
open Go Go.Proofs Go.RowKit Go.Proofs.XRed Go.Proofs.XHeap Go.Proofs.XMaps Go.Proofs.XSlices Go.Proofs.XDisk Go.Proofs.XCalls Go.Proofs.XPtr Go.Proofs.XSep Tryz
section
variable {w w0 : World} {D : Nat} {S S' : AD} {O I : Nat → Prop} {L L' : RLay} {k : Value → World → Prop}
end
end Go.Proofs.YtcdcojpfealppaaGreat

set_option linter.unusedVariables false
set_option linter.unusedSimpArgs false
set_option maxRecDepth 100000
namespace Go.Proofs.YtcdcojpfealppaaGreat
open Go Go.Proofs Go.RowKit Go.Proofs.XRed Go.Proofs.XHeap Go.Proofs.XMaps Go.Proofs.XSlices Go.Proofs.XDisk Go.Proofs.XCalls Go.Proofs.XSep Tryz
section
variable {w w0 : World} {k : Value → World → Prop}
theorem s_ixo {t : TypeId} {g n c i : Nat} (h : P.underlying t = some (.slice (P.elem t))) (hs : (sizeOf (P.elem t)).run P w = .ok 1 w) (hi : i < n) (hk : k (.pointer (some ⟨g, i, none⟩)) w) : px P (Instr.indexAt t (.slice (some ⟨g, 0, none⟩) n c) (i64 i)) w k :=
 s_ix (i := (i : Int)) h hs (by omega) (by omega) (by simpa using hk)
theorem own_copy {base n : Nat} {e : TypeId} {v : Value} {xs cs : List Value} (h : w.ownsRow base e 1 v n xs) (h0 : 0 < n) (hc : cs.length ≤ n) : ∃ g cap cur, v = .slice (some ⟨g, 0, none⟩) n cap ∧ n ≤ cap ∧ base ≤ g ∧ w.heap[g]? = some (.cells cur e (0, 0)) ∧ n ≤ cur.size ∧
    ∀ w' : World, w'.heap[g]? = some (.cells (cur.toList.take 0 ++ cs.take n ++ cur.toList.drop (0 + min cs.length n)).toArray e (0, 0)) → w'.ownsRow base e 1 v n (cs ++ xs.drop cs.length) := by
  obtain ⟨hl, h2⟩ := h
  rcases h2 with ⟨_, h0'⟩ | ⟨g, cap, cur, hv, hb, hg, hnc, hcm, hcs, ht⟩
  · omega
  · refine ⟨g, cap, cur, hv, hnc, hb, hg, by omega, fun w' hw' => ⟨by simp; omega, .inr ⟨g, cap, _, hv, hb, hw', hnc, hcm, ?_, ?_⟩⟩⟩
    · simp; omega
    · rw [List.take_zero, List.nil_append, List.take_of_length_le hc, Nat.min_eq_left hc, Nat.zero_add, Nat.mul_one]
      rw [Nat.mul_one] at ht
      rw [List.toList_toArray, List.take_append, List.take_of_length_le hc, ← ht, List.drop_take]
theorem fill_set_lay (bb : List UInt8) (i : Nat) (hi : i < bb.length) : (List.replicate i (171 : UInt8) ++ bb.drop i).set i 171 = List.replicate (i + 1) 171 ++ bb.drop (i + 1) := by
 rw [List.set_append_right _ _ (by simp), List.length_replicate, Nat.sub_self, List.drop_eq_getElem_cons hi, List.set_cons_zero, List.replicate_succ']
 simp
set_option maxHeartbeats 1000000 in
theorem c_lay2 {K : Nat} {pv bv : Value} {bb d : List UInt8} {dv : Value} (hK : w.heap[K]? = some (.cells #[bv, pv] 51 (0, 0))) (hb : w.ownsRow 0 5 1 bv bb.length (u8s bb)) (hd : SBytes w dv d) (hdn : 0 < d.length → ∀ b, sblk dv = some b → sblk bv ≠ some b) (hl : bb.length ≤ 1099511627776) (h5 : d.length + 5 ≤ bb.length) {ρ : Env} (e0 : ρ 0 = ptr K) (e1 : ρ 1 = dv) (e5 : ρ 5 = i64 0)
    (hk : ∀ w' v, w'.heap[K]? = some (.cells #[bv, pv] 51 (0, 0)) → w'.ownsRow 0 5 1 bv bb.length (u8s (d ++ List.replicate (bb.length - d.length) 171)) → SBytes w' v d → (∀ b, sblk v = some b → sblk bv = some b) → Fr (fun b => sblk bv = some b) w w' → k v w') : F63L1 k ρ w := by
  have hbK : ∀ {w' : World} {n : Nat} {xs : List Value}, w'.heap[K]? = some (.cells #[bv, pv] 51 (0, 0)) → w'.ownsRow 0 5 1 bv n xs → ∀ b, sblk bv = some b → b ≠ K := by
    rintro w' n xs hK' ho b hb rfl
    obtain ⟨c1, h1⟩ := own_obj ho hb
    exact absurd (two_types h1 hK') (by decide)
  refine F63L1_inv (m := bb.length) k (fun m ρ w' => ∃ i : Nat, i + m = bb.length ∧ w'.heap[K]? = some (.cells #[bv, pv] 51 (0, 0)) ∧ w'.ownsRow 0 5 1 bv bb.length (u8s (List.replicate i 171 ++ bb.drop i)) ∧ Fr (fun b => sblk bv = some b) w w' ∧ ρ 0 = ptr K ∧ ρ 1 = dv ∧ ρ 5 = i64 i) ?_
    ⟨0, by omega, hK, by simpa using hb, Fr.refl _ _, e0, e1, e5⟩
  rintro m ρ w' ⟨i, him, hK', ho, hf, e0, e1, e5⟩
  rw [F63_2_eq]
  unfold F63_2
  rw [e0, e5]
  refine s_nil (fa51_0 (s_ldb (v := bv) (isAgg36 _) hK' rfl (s_lenS usl36 (Src.of_own ho) ?_)))
  by_cases hi : i < bb.length
  · refine s_lt_t (by omega) (pC_true (s_nil (fa51_0 (s_ldb (v := bv) (isAgg36 _) hK' rfl ?_))))
    obtain ⟨g, cap, cur, ev, hcap, hbase, hg, hic, hce, hset⟩ := own_at (i := i) ho (by omega)
    have hgb : sblk bv = some g := by rw [ev]; rfl
    have hgK := hbK hK' ho g hgb
    have hn' := hset (.int .u8 (171 : UInt8).toNat)
    rw [u8s_set, fill_set_lay bb i hi] at hn'
    have f2 : Fr (fun b => sblk bv = some b) w' (w'.setCell ⟨g, i, none⟩ (.int .u8 (171 : UInt8).toNat)) := (Fr.setCell w' ⟨g, i, none⟩ _).mono fun b hb' => .inl (by rw [show b = g from hb']; exact hgb)
    rw [ev] at hK' ⊢
    refine s_ixo usl36 (sze36 _) hi (s_st (sizeOf5 _) rfl rfl hg hic (s_add_in (by omega) ⟨m - 1, by omega, i + 1, by omega, set_other i (.int .u8 (171 : UInt8).toNat) (fun e => hgK e.symm) hK', by rw [← ev]; exact hn', by rw [← ev]; exact hf.trans f2 fun b => .inl, e0, e1, ?_⟩))
    show i64 _ = i64 _; simp
  · refine s_lt_f (by omega) (pC_false ?_)
    rw [F63_3_eq]
    suffices hs : ∀ ρ2 : Env, ρ2 0 = ptr K → ρ2 1 = dv → F63_3 k ρ2 w' from hs _ e0 e1
    intro ρ2 a0 a1
    unfold F63_3
    rw [a0, a1]
    have hi' : i = bb.length := by omega
    rw [hi', List.drop_eq_nil_of_le (Nat.le_refl _), List.append_nil] at ho
    obtain ⟨g, cap, cur, ev, hcap, hbase, hg, hcs, hcopy⟩ := own_copy (cs := u8s d) ho (by omega) (by simp [u8s]; omega)
    have hgb : sblk bv = some g := by rw [ev]; rfl
    have hgK := hbK hK' ho g hgb
    have hd' : SBytes w' dv d := SBytes.fr0 hd hf fun h0 b hb' e => hdn h0 b hb' e
    refine s_nil (fa51_0 (s_ldb (v := bv) (isAgg36 _) hK' rfl ?_))
    have hK2 := hK'
    rw [ev] at hK' ⊢
    refine s_copy usl36 (by kernel_rfl) hg hd' u8s_one (by rw [Nat.zero_add]; omega) fun w2 hg2 f2 z2 => ?_
    have hlen : (u8s d).length = d.length := by simp [u8s]
    rw [hlen] at hcopy
    have ho2 := hcopy w2 hg2
    have henc : u8s d ++ (u8s (List.replicate bb.length 171)).drop d.length = u8s (d ++ List.replicate (bb.length - d.length) 171) := by
      simp [u8s]
    rw [henc] at ho2
    have hK3 : w2.heap[K]? = some (.cells #[bv, pv] 51 (0, 0)) := f2.get hK2 fun e => hgK e.symm
    rw [ev] at hK3 ho2
    have hd2 : SBytes w2 dv d := SBytes.fr0 hd' f2 fun h0 b hb' e => hdn h0 b hb' (by rw [ev, show b = g from e]; rfl)
    refine s_nil (fa51_0 (s_ldb (v := .slice (some ⟨g, 0, none⟩) bb.length cap) (isAgg36 _) hK3 rfl (s_lenS usl36 hd2 ?_)))
    refine s_sl_h (i := (d.length : Int)) usl36 (sze36 _) (by omega) (by omega) ?_
    have hfront := Src.front (m := d.length) (Src.of_own ho2) (by omega)
    have htk : (u8s (d ++ List.replicate (bb.length - d.length) 171)).take (d.length * 1) = u8s d := by
      rw [Nat.mul_one]
      have : (d ++ List.replicate (bb.length - d.length) (171 : UInt8)).take d.length = d := by simp
      conv => rhs; rw [← this]
      simp [u8s]
    rw [htk] at hfront
    refine hk w2 _ (by rw [ev]; exact hK3) (by rw [ev]; exact ho2) hfront (fun b hb' => ?_) ?_
    · rw [ev]; exact hb'
    · exact hf.trans f2 fun b hb' => .inl (by rw [show b = g from hb']; exact hgb)
def i64s (l : List Int) : List Value := l.map i64
def SInts (w : World) (v : Value) (l : List Int) : Prop := Src w v 1 l.length (i64s l)
theorem i64s_set (l : List Int) (i : Nat) (x : Int) : (i64s l).set i (.int .i64 x) = i64s (l.set i x) := by unfold i64s; rw [List.map_set]
theorem i64s_one {l : List Int} : ∀ u ∈ i64s l, u.oneCell' = true := by intro u hu; obtain ⟨x, _, rfl⟩ := List.mem_map.1 hu; rfl
theorem SInts.fr0 {O : Nat → Prop} {w w' : World} {v : Value} {l : List Int} (h : SInts w v l) (hf : Fr O w w') (hn : 0 < l.length → ∀ b, sblk v = some b → ¬ O b) : SInts w' v l := Src.fr0 h (by omega) hf hn
theorem SInts.fr {O : Nat → Prop} {w w' : World} {v : Value} {l : List Int} (h : SInts w v l) (hf : Fr O w w') (hn : ∀ b, sblk v = some b → ¬ O b) : SInts w' v l := Src.fr h (by omega) hf hn
theorem fill_set_picks (bb : List Int) (i : Nat) (hi : i < bb.length) : (List.replicate i (77 : Int) ++ bb.drop i).set i 77 = List.replicate (i + 1) 77 ++ bb.drop (i + 1) := by
 rw [List.set_append_right _ _ (by simp), List.length_replicate, Nat.sub_self, List.drop_eq_getElem_cons hi, List.set_cons_zero, List.replicate_succ']
 simp
set_option maxHeartbeats 1000000 in
theorem c_picks2 {K : Nat} {bv pv : Value} {bb d : List Int} {dv : Value} (hK : w.heap[K]? = some (.cells #[bv, pv] 51 (0, 0))) (hb : w.ownsRow 0 3 1 pv bb.length (i64s bb)) (hd : SInts w dv d) (hdn : 0 < d.length → ∀ b, sblk dv = some b → sblk pv ≠ some b) (hl : bb.length ≤ 1099511627776) (h5 : d.length + 3 ≤ bb.length) {ρ : Env} (e0 : ρ 0 = ptr K) (e1 : ρ 1 = dv) (e5 : ρ 5 = i64 0)
    (hk : ∀ w' v, w'.heap[K]? = some (.cells #[bv, pv] 51 (0, 0)) → w'.ownsRow 0 3 1 pv bb.length (i64s (d ++ List.replicate (bb.length - d.length) 77)) → SInts w' v d → (∀ b, sblk v = some b → sblk pv = some b) → Fr (fun b => sblk pv = some b) w w' → k v w') : F122L1 k ρ w := by
  have hbK : ∀ {w' : World} {n : Nat} {xs : List Value}, w'.heap[K]? = some (.cells #[bv, pv] 51 (0, 0)) → w'.ownsRow 0 3 1 pv n xs → ∀ b, sblk pv = some b → b ≠ K := by
    rintro w' n xs hK' ho b hb rfl
    obtain ⟨c1, h1⟩ := own_obj ho hb
    exact absurd (two_types h1 hK') (by decide)
  refine F122L1_inv (m := bb.length) k (fun m ρ w' => ∃ i : Nat, i + m = bb.length ∧ w'.heap[K]? = some (.cells #[bv, pv] 51 (0, 0)) ∧ w'.ownsRow 0 3 1 pv bb.length (i64s (List.replicate i 77 ++ bb.drop i)) ∧ Fr (fun b => sblk pv = some b) w w' ∧ ρ 0 = ptr K ∧ ρ 1 = dv ∧ ρ 5 = i64 i) ?_
    ⟨0, by omega, hK, by simpa using hb, Fr.refl _ _, e0, e1, e5⟩
  rintro m ρ w' ⟨i, him, hK', ho, hf, e0, e1, e5⟩
  rw [F122_1_eq]
  unfold F122_1
  rw [e0, e5]
  refine s_nil (fa51_1 (s_ldb (v := pv) (isAgg39 _) hK' rfl (s_lenS usl39 (Src.of_own ho) ?_)))
  by_cases hi : i < bb.length
  · refine s_lt_t (by omega) (pC_true (s_nil (fa51_1 (s_ldb (v := pv) (isAgg39 _) hK' rfl ?_))))
    obtain ⟨g, cap, cur, ev, hcap, hbase, hg, hic, hce, hset⟩ := own_at (i := i) ho (by omega)
    have hgb : sblk pv = some g := by rw [ev]; rfl
    have hgK := hbK hK' ho g hgb
    have hn' := hset (.int .i64 77)
    rw [i64s_set, fill_set_picks bb i hi] at hn'
    have f2 : Fr (fun b => sblk pv = some b) w' (w'.setCell ⟨g, i, none⟩ (.int .i64 77)) := (Fr.setCell w' ⟨g, i, none⟩ _).mono fun b hb' => .inl (by rw [show b = g from hb']; exact hgb)
    rw [ev] at hK' ⊢
    refine s_ixo usl39 (sze39 _) hi (s_st (sizeOf3 _) rfl rfl hg hic (s_add_in (by omega) ⟨m - 1, by omega, i + 1, by omega, set_other i (.int .i64 77) (fun e => hgK e.symm) hK', by rw [← ev]; exact hn', by rw [← ev]; exact hf.trans f2 fun b => .inl, e0, e1, ?_⟩))
    show i64 _ = i64 _; simp
  · refine s_lt_f (by omega) (pC_false ?_)
    rw [F122_2_eq]
    suffices hs : ∀ ρ2 : Env, ρ2 0 = ptr K → ρ2 1 = dv → F122_2 k ρ2 w' from hs _ e0 e1
    intro ρ2 a0 a1
    unfold F122_2
    rw [a0, a1]
    have hi' : i = bb.length := by omega
    rw [hi', List.drop_eq_nil_of_le (Nat.le_refl _), List.append_nil] at ho
    obtain ⟨g, cap, cur, ev, hcap, hbase, hg, hcs, hcopy⟩ := own_copy (cs := i64s d) ho (by omega) (by simp [i64s]; omega)
    have hgb : sblk pv = some g := by rw [ev]; rfl
    have hgK := hbK hK' ho g hgb
    have hd' : SInts w' dv d := SInts.fr0 hd hf fun h0 b hb' e => hdn h0 b hb' e
    refine s_nil (fa51_1 (s_ldb (v := pv) (isAgg39 _) hK' rfl ?_))
    have hK2 := hK'
    rw [ev] at hK' ⊢
    refine s_copy usl39 (by kernel_rfl) hg hd' i64s_one (by rw [Nat.zero_add]; omega) fun w2 hg2 f2 z2 => ?_
    have hlen : (i64s d).length = d.length := by simp [i64s]
    rw [hlen] at hcopy
    have ho2 := hcopy w2 hg2
    have henc : i64s d ++ (i64s (List.replicate bb.length 77)).drop d.length = i64s (d ++ List.replicate (bb.length - d.length) 77) := by
      simp [i64s]
    rw [henc] at ho2
    have hK3 : w2.heap[K]? = some (.cells #[bv, pv] 51 (0, 0)) := f2.get hK2 fun e => hgK e.symm
    rw [ev] at hK3 ho2
    have hd2 : SInts w2 dv d := SInts.fr0 hd' f2 fun h0 b hb' e => hdn h0 b hb' (by rw [ev, show b = g from e]; rfl)
    refine s_nil (fa51_1 (s_ldb (v := .slice (some ⟨g, 0, none⟩) bb.length cap) (isAgg39 _) hK3 rfl (s_lenS usl39 hd2 ?_)))
    refine s_sl_h (i := (d.length : Int)) usl39 (sze39 _) (by omega) (by omega) ?_
    have hfront := Src.front (m := d.length) (Src.of_own ho2) (by omega)
    have htk : (i64s (d ++ List.replicate (bb.length - d.length) 77)).take (d.length * 1) = i64s d := by
      rw [Nat.mul_one]
      have : (d ++ List.replicate (bb.length - d.length) (77 : Int)).take d.length = d := by simp
      conv => rhs; rw [← this]
      simp [i64s]
    rw [htk] at hfront
    refine hk w2 _ (by rw [ev]; exact hK3) (by rw [ev]; exact ho2) hfront (fun b hb' => ?_) ?_
    · rw [ev]; exact hb'
    · exact hf.trans f2 fun b hb' => .inl (by rw [show b = g from hb']; exact hgb)
theorem c_lay {K : Nat} {bv pv dv : Value} {bb d : Bytes} (hK : w.heap[K]? = some (.cells #[bv, pv] 51 (0, 0))) (hb : w.ownsRow 0 5 1 bv bb.length (u8s bb)) (hd : SBytes w dv d) (hdn : 0 < d.length → ∀ b, sblk dv = some b → sblk bv ≠ some b ∧ b ≠ K) (hl : bb.length ≤ 1099511627776) (hdl : d.length ≤ 274877906944)
    (hk : ∀ w' bv' v bb' n, w'.heap[K]? = some (.cells #[bv', pv] 51 (0, 0)) → bb' = d ++ List.replicate n 171 → bb'.length ≤ max bb.length (2 * d.length + 40) → w'.ownsRow 0 5 1 bv' bb'.length (u8s bb') → SBytes w' v d → (∀ b, sblk v = some b → sblk bv' = some b) → Fr (fun b => b = K ∨ sblk bv = some b) w w' → (∀ b, sblk bv' = some b → sblk bv = some b ∨ w.heap.size ≤ b) → k v w') :
    pFn P 63 [ptr K, dv] w k := by
  refine F63_in _ _ _ _ ?_
  unfold F63_0
  refine s_nil (fa51_0 (s_ldb (v := bv) (isAgg36 _) hK rfl (s_lenS usl36 (Src.of_own hb) (s_lenS usl36 hd (s_add_in (by omega) ?_)))))
  by_cases hs : bb.length < d.length + 5
  · refine s_lt_t (by omega) (pC_true (s_lenS usl36 hd (s_mul ?_)))
    rw [wrap_in (by omega)]
    refine s_add_in (by omega) ?_
    refine s_mks (t := 36) (e := 5) (i := t5) (z := .int .u8 0) (by kernel_rfl) (by kernel_rfl) (by kernel_rfl) (by omega) (by show (1 : Int) * (2 * (d.length : Int) + 40) ≤ _; omega) (by omega) ?_
    have hN : (2 * (d.length : Int) + 40).toNat = 2 * d.length + 40 := by omega
    have hmc : madeCells (Value.int IntKind.u8 0).cells ((2 * (d.length : Int) + 40).toNat * t5.size) = (List.replicate (2 * d.length + 40) (.int .u8 0)).toArray := by
      rw [madeCells_one _ rfl, hN, show t5.size = 1 by kernel_rfl, Nat.mul_one]
    rw [hmc, hN]
    have b1 := alloc_new w (.cells (List.replicate (2 * d.length + 40) (.int .u8 0)).toArray 5)
    have f1 := Fr.alloc no w (.cells (List.replicate (2 * d.length + 40) (.int .u8 0)).toArray 5)
    have z1 : (w.alloc (.cells (List.replicate (2 * d.length + 40) (.int .u8 0)).toArray 5)).heap.size = w.heap.size + 1 := by simp
    generalize w.alloc (.cells (List.replicate (2 * d.length + 40) (.int .u8 0)).toArray 5) = w1 at *
    have ho1 := own_blk (base := 0) (size := 1) (n := 2 * d.length + 40) b1 (Nat.zero_le _) (by unfold maxLen; omega) (by simp)
    have hKw := lt_of_get hK
    refine s_nil (fa51_0 (s_st (sizeOf36 _) rfl rfl (f1.get hK id) (by show 0 < 2; decide) ?_))
    have b2 := set_same (f1.get hK id) 0 (.slice (some ⟨w.heap.size, 0, none⟩) (2 * d.length + 40) (2 * d.length + 40))
    have f2 : Fr (fun b => b = K) w1 (w1.setCell ⟨K, 0, none⟩ (.slice (some ⟨w.heap.size, 0, none⟩) (2 * d.length + 40) (2 * d.length + 40))) := Fr.setCell w1 ⟨K, 0, none⟩ _
    rw [F63_1_eq]
    unfold F63_1
    have ho2 := own_fr ho1 f2 fun b hb' (e : b = K) => by injection hb' with hb'; have : w.heap.size = b := hb'; omega
    have f02 : Fr (fun b => b = K) w (w1.setCell ⟨K, 0, none⟩ (.slice (some ⟨w.heap.size, 0, none⟩) (2 * d.length + 40) (2 * d.length + 40))) := (f1.mono fun b hb' => hb'.elim).trans f2 fun b => .inl
    show F63L1 k _ (w1.setCell ⟨K, 0, none⟩ (.slice (some ⟨w.heap.size, 0, none⟩) (2 * d.length + 40) (2 * d.length + 40)))
    generalize w1.setCell ⟨K, 0, none⟩ (.slice (some ⟨w.heap.size, 0, none⟩) (2 * d.length + 40) (2 * d.length + 40)) = w2 at *
    have hbl : ∀ b, sblk (.slice (some ⟨w.heap.size, 0, none⟩) (2 * d.length + 40) (2 * d.length + 40)) = some b → b = w.heap.size := fun b hb' => by injection hb' with hb'; exact hb'.symm
    refine c_lay2 (bb := List.replicate (2 * d.length + 40) 0) (bv := .slice (some ⟨w.heap.size, 0, none⟩) (2 * d.length + 40) (2 * d.length + 40)) (d := d) (pv := pv) b2 ?_ (SBytes.fr0 hd f02 fun h0 b hb' => (hdn h0 b hb').2) (fun h0 b hb' e => ?_) (by simp; omega) (by simp; omega) rfl rfl rfl fun w' v g1 g2 g3 g4 g5 => ?_
    · simpa [u8s] using ho2
    · have hbw := hbl b e
      have := Src.lt (size := 1) hd (by omega) h0 hb'
      omega
    · rw [List.length_replicate] at g2
      refine hk w' _ v _ (2 * d.length + 40 - d.length) g1 rfl (by simp; omega) ?_ g3 g4 (f02.mono (fun b hb' => .inl (.inl hb')) |>.trans g5 fun b hb' => .inr (Nat.le_of_eq (hbl b hb').symm)) fun b hb' => .inr (Nat.le_of_eq (hbl b hb').symm)
      have : (d ++ List.replicate (2 * d.length + 40 - d.length) (171 : UInt8)).length = 2 * d.length + 40 := by simp; omega
      rw [this]; simpa using g2
  · refine s_lt_f (by omega) (pC_false ?_)
    rw [F63_1_eq]
    unfold F63_1
    refine c_lay2 (bb := bb) (d := d) (bv := bv) (pv := pv) hK hb hd (fun h0 b hb' => (hdn h0 b hb').1) hl (by omega) rfl rfl rfl fun w' v g1 g2 g3 g4 g5 => ?_
    refine hk w' bv v _ (bb.length - d.length) g1 rfl (by simp; omega) ?_ g3 g4 (g5.mono fun b hb' => .inl (.inr hb')) fun b => .inl
    have : (d ++ List.replicate (bb.length - d.length) (171 : UInt8)).length = bb.length := by simp; omega
    rw [this]; exact g2
end
end Go.Proofs.YtcdcojpfealppaaGreat

set_option linter.unusedVariables false
set_option linter.unusedSimpArgs false
set_option maxRecDepth 100000
namespace Go.Proofs.YtcdcojpfealppaaGreat
open Go Go.Proofs Go.RowKit Go.Proofs.XRed Go.Proofs.XHeap Go.Proofs.XMaps Go.Proofs.XSlices Go.Proofs.XDisk Go.Proofs.XCalls Go.Proofs.XSep Tryz
section
variable {w w0 : World} {k : Value → World → Prop}
theorem i64s_at {l : List Int} {i : Nat} (hi : i < l.length) : (i64s l)[i]? = some (i64 l[i]) := by unfold i64s; simp [hi]
set_option maxHeartbeats 1000000 in
theorem c_lies {K n : Nat} {bv pv dv : Value} {d : List UInt8} (hK : w.heap[K]? = some (.cells #[bv, pv] 51 (0, 0))) (hb : w.ownsRow 0 5 1 bv (d.length + n) (u8s (d ++ List.replicate n 171))) (hd : SBytes w dv d) (hl : d.length + n ≤ 1099511627776)
    (hk : ∀ w', Fr no w w' → k (.bool true) w') : pFn P 117 [ptr K, dv] w k := by
  refine F117_in _ _ _ _ ?_
  unfold F117_0
  refine F117L1_inv (m := d.length + n) k (fun m ρ w' => ∃ i : Nat, i + m = d.length + n ∧ Fr no w w' ∧ ρ 0 = ptr K ∧ ρ 1 = dv ∧ ρ 5 = i64 i) ?_ ⟨0, by omega, Fr.refl _ _, rfl, rfl, rfl⟩
  rintro m ρ w' ⟨i, him, hf, e0, e1, e5⟩
  rw [F117_1_eq]
  unfold F117_1
  rw [e0, e1, e5]
  have hK' := hf.get hK id
  have hb' := own_fr hb hf fun _ _ h => h
  have hd' : SBytes w' dv d := hd.fr hf fun _ _ h => h
  obtain ⟨Ad, cd, ed, _⟩ : ∃ A c, dv = .slice A d.length c ∧ d.length ≤ c := by obtain ⟨A, c, e, h, _⟩ := hd; exact ⟨A, c, e, h⟩
  refine s_nil (fa51_0 (s_ldb (v := bv) (isAgg36 _) hK' rfl (s_lenS usl36 (Src.of_own hb') ?_)))
  by_cases hi : i < d.length + n
  · refine s_lt_t (by omega) (pC_true ?_)
    obtain ⟨g, cap, cur, ev, hcap, hbase, hg, hic, hce, hset⟩ := own_at (i := i) hb' (by omega)
    have hcell : w'.cell? ⟨g, i, none⟩ = (u8s (d ++ List.replicate n 171))[i]? := by
      rw [← hce]
      simp [World.cell?, hg]
    have hgw := lt_of_get hg
    have fd : Fr no w' w'.drew := Fr.drew _ _
    by_cases hid : i < d.length
    · obtain ⟨b, o, c2, es, hp⟩ := Src.place (size := 1) hd' hid (by omega)
      have g1 : w'.cell? ⟨b, o + i * 1, none⟩ = some (.int .u8 (d[i]).toNat) := hp 0 _ (by omega) (by simpa using u8s_at hid)
      have g0 : w'.cell? ⟨g, i, none⟩ = some (.int .u8 (d[i]).toNat) := by
        rw [hcell, u8s_at (show i < (d ++ List.replicate n 171).length by simp; omega), List.getElem_append_left hid]
      refine ⟨fun x : World => x.heap[K]? = some (.cells #[bv, pv] 51 (0, 0)) ∧ x.cell? ⟨g, i, none⟩ = some (.int .u8 (d[i]).toNat) ∧ x.cell? ⟨b, o + i * 1, none⟩ = some (.int .u8 (d[i]).toNat), ⟨hK', g0, g1⟩, ?_⟩
      refine q_of (i64 d.length) (fun w_ hS => by rw [ed]; exact s_len usl36 ⟨rfl, rfl⟩) (q_of (.bool true) (fun w_ hS => s_lt_t (by omega) ⟨rfl, rfl⟩) ?_)
      refine pGq_yes rfl (pGq_yes rfl (q_of _ (fun w_ hS => s_nil ⟨rfl, rfl⟩) (pGq_yes rfl (q_of _ (fun w_ hS => fa51_0 ⟨rfl, rfl⟩) (pGq_yes rfl (q_of bv (fun w_ hS => s_ldb (isAgg36 _) hS.1 rfl ⟨rfl, rfl⟩) (pGq_yes rfl (pGq_yes rfl ?_))))))))
      refine q_of (.pointer (some ⟨g, i, none⟩)) (fun w_ hS => by rw [ev]; exact s_ixo usl36 (sze36 _) hi ⟨rfl, rfl⟩) (pGq_yes rfl (q_of (.int .u8 (d[i]).toNat) (fun w_ hS => s_ld (isAgg5 _) hS.2.1 ⟨rfl, rfl⟩) (pGq_yes rfl (pGq_yes rfl (pGq_yes rfl ?_)))))
      refine q_of (.pointer (some ⟨b, o + i * 1, none⟩)) (fun w_ hS => by rw [es]; exact s_ix (i := (i : Int)) usl36 (sze36 _) (by omega) (by omega) ⟨by simp, rfl⟩) (pGq_yes rfl (q_of (.int .u8 (d[i]).toNat) (fun w_ hS => s_ld (isAgg5 _) hS.2.2 ⟨rfl, rfl⟩) (pGq_yes rfl ?_)))
      refine q_of (.bool false) (fun w_ hS => s_nei_f rfl ⟨rfl, rfl⟩) (q_of (.bool false) (fun w_ hS => s_pick_t ⟨rfl, rfl⟩) (pGq_yes rfl (pGq_yes rfl (pGq_yes rfl ?_))))
      refine q_of (i64 d.length) (fun w_ hS => by rw [ed]; exact s_len usl36 ⟨rfl, rfl⟩) (pGq_yes rfl (q_of (.bool false) (fun w_ hS => s_ge_f (by omega) ⟨rfl, rfl⟩) (pGq_yes rfl ?_)))
      repeat (first | refine pGq_sk ?_ | refine pGq_un ?_)
      refine pGq_yes rfl (q_of (.bool false) (fun w_ hS => s_pick_f ⟨rfl, rfl⟩) (q_of (.bool false) (fun w_ hS => s_pick_f ⟨rfl, rfl⟩) (pC_false (s_add_in (by omega) ⟨m - 1, by omega, i + 1, by omega, hf.trans fd fun b => .inl, e0, e1, ?_⟩))))
      show i64 _ = i64 _; simp
    · have g0 : w'.cell? ⟨g, i, none⟩ = some (.int .u8 ((171 : UInt8)).toNat) := by
        rw [hcell, u8s_at (show i < (d ++ List.replicate n 171).length by simp; omega), List.getElem_append_right (by omega), List.getElem_replicate]
      refine ⟨fun x : World => x.heap[K]? = some (.cells #[bv, pv] 51 (0, 0)) ∧ x.cell? ⟨g, i, none⟩ = some (.int .u8 ((171 : UInt8)).toNat), ⟨hK', g0⟩, ?_⟩
      refine q_of (i64 d.length) (fun w_ hS => by rw [ed]; exact s_len usl36 ⟨rfl, rfl⟩) (q_of (.bool false) (fun w_ hS => s_lt_f (by omega) ⟨rfl, rfl⟩) ?_)
      repeat (first | refine pGq_sk ?_ | refine pGq_un ?_)
      refine q_of (.bool false) (fun w_ hS => s_pick_f ⟨rfl, rfl⟩) (pGq_yes rfl (pGq_yes rfl (pGq_yes rfl ?_)))
      refine q_of (i64 d.length) (fun w_ hS => by rw [ed]; exact s_len usl36 ⟨rfl, rfl⟩) (pGq_yes rfl (q_of (.bool true) (fun w_ hS => s_ge_t (by omega) ⟨rfl, rfl⟩) (pGq_yes rfl ?_)))
      refine pGq_yes rfl (pGq_yes rfl (q_of _ (fun w_ hS => s_nil ⟨rfl, rfl⟩) (pGq_yes rfl (q_of _ (fun w_ hS => fa51_0 ⟨rfl, rfl⟩) (pGq_yes rfl (q_of bv (fun w_ hS => s_ldb (isAgg36 _) hS.1 rfl ⟨rfl, rfl⟩) (pGq_yes rfl (pGq_yes rfl ?_))))))))
      refine q_of (.pointer (some ⟨g, i, none⟩)) (fun w_ hS => by rw [ev]; exact s_ixo usl36 (sze36 _) hi ⟨rfl, rfl⟩) (pGq_yes rfl (q_of (.int .u8 ((171 : UInt8)).toNat) (fun w_ hS => s_ld (isAgg5 _) hS.2 ⟨rfl, rfl⟩) (pGq_yes rfl ?_)))
      refine q_of (.bool false) (fun w_ hS => s_nei_f rfl ⟨rfl, rfl⟩) (pGq_yes rfl (q_of (.bool false) (fun w_ hS => s_pick_t ⟨rfl, rfl⟩) (q_of (.bool false) (fun w_ hS => s_pick_f ⟨rfl, rfl⟩) (pC_false (s_add_in (by omega) ⟨m - 1, by omega, i + 1, by omega, hf.trans fd fun b => .inl, e0, e1, ?_⟩)))))
      show i64 _ = i64 _; simp
  · refine s_lt_f (by omega) (pC_false ?_)
    rw [F117_2_eq]
    exact hk w' hf
set_option maxHeartbeats 1000000 in
theorem c_picked {K n : Nat} {bv pv dv : Value} {d : List Int} (hK : w.heap[K]? = some (.cells #[bv, pv] 51 (0, 0))) (hb : w.ownsRow 0 3 1 pv (d.length + n) (i64s (d ++ List.replicate n 77))) (hd : SInts w dv d) (hl : d.length + n ≤ 1099511627776)
    (hk : ∀ w', Fr no w w' → k (.bool true) w') : pFn P 124 [ptr K, dv] w k := by
  refine F124_in _ _ _ _ ?_
  unfold F124_0
  refine F124L1_inv (m := d.length + n) k (fun m ρ w' => ∃ i : Nat, i + m = d.length + n ∧ Fr no w w' ∧ ρ 0 = ptr K ∧ ρ 1 = dv ∧ ρ 5 = i64 i) ?_ ⟨0, by omega, Fr.refl _ _, rfl, rfl, rfl⟩
  rintro m ρ w' ⟨i, him, hf, e0, e1, e5⟩
  rw [F124_1_eq]
  unfold F124_1
  rw [e0, e1, e5]
  have hK' := hf.get hK id
  have hb' := own_fr hb hf fun _ _ h => h
  have hd' : SInts w' dv d := hd.fr hf fun _ _ h => h
  obtain ⟨Ad, cd, ed, _⟩ : ∃ A c, dv = .slice A d.length c ∧ d.length ≤ c := by obtain ⟨A, c, e, h, _⟩ := hd; exact ⟨A, c, e, h⟩
  refine s_nil (fa51_1 (s_ldb (v := pv) (isAgg39 _) hK' rfl (s_lenS usl39 (Src.of_own hb') ?_)))
  by_cases hi : i < d.length + n
  · refine s_lt_t (by omega) (pC_true ?_)
    obtain ⟨g, cap, cur, ev, hcap, hbase, hg, hic, hce, hset⟩ := own_at (i := i) hb' (by omega)
    have hcell : w'.cell? ⟨g, i, none⟩ = (i64s (d ++ List.replicate n 77))[i]? := by
      rw [← hce]
      simp [World.cell?, hg]
    have hgw := lt_of_get hg
    have fd : Fr no w' w'.drew := Fr.drew _ _
    by_cases hid : i < d.length
    · obtain ⟨b, o, c2, es, hp⟩ := Src.place (size := 1) hd' hid (by omega)
      have g1 : w'.cell? ⟨b, o + i * 1, none⟩ = some (i64 d[i]) := hp 0 _ (by omega) (by simpa using i64s_at hid)
      have g0 : w'.cell? ⟨g, i, none⟩ = some (i64 d[i]) := by
        rw [hcell, i64s_at (show i < (d ++ List.replicate n 77).length by simp; omega), List.getElem_append_left hid]
      refine ⟨fun x : World => x.heap[K]? = some (.cells #[bv, pv] 51 (0, 0)) ∧ x.cell? ⟨g, i, none⟩ = some (i64 d[i]) ∧ x.cell? ⟨b, o + i * 1, none⟩ = some (i64 d[i]), ⟨hK', g0, g1⟩, ?_⟩
      refine q_of (i64 d.length) (fun w_ hS => by rw [ed]; exact s_len usl39 ⟨rfl, rfl⟩) (q_of (.bool true) (fun w_ hS => s_lt_t (by omega) ⟨rfl, rfl⟩) ?_)
      refine pGq_yes rfl (pGq_yes rfl (q_of _ (fun w_ hS => s_nil ⟨rfl, rfl⟩) (pGq_yes rfl (q_of _ (fun w_ hS => fa51_1 ⟨rfl, rfl⟩) (pGq_yes rfl (q_of pv (fun w_ hS => s_ldb (isAgg39 _) hS.1 rfl ⟨rfl, rfl⟩) (pGq_yes rfl (pGq_yes rfl ?_))))))))
      refine q_of (.pointer (some ⟨g, i, none⟩)) (fun w_ hS => by rw [ev]; exact s_ixo usl39 (sze39 _) hi ⟨rfl, rfl⟩) (pGq_yes rfl (q_of (i64 d[i]) (fun w_ hS => s_ld (isAgg3 _) hS.2.1 ⟨rfl, rfl⟩) (pGq_yes rfl (pGq_yes rfl (pGq_yes rfl ?_)))))
      refine q_of (.pointer (some ⟨b, o + i * 1, none⟩)) (fun w_ hS => by rw [es]; exact s_ix (i := (i : Int)) usl39 (sze39 _) (by omega) (by omega) ⟨by simp, rfl⟩) (pGq_yes rfl (q_of (i64 d[i]) (fun w_ hS => s_ld (isAgg3 _) hS.2.2 ⟨rfl, rfl⟩) (pGq_yes rfl ?_)))
      refine q_of (.bool false) (fun w_ hS => s_nei_f rfl ⟨rfl, rfl⟩) (q_of (.bool false) (fun w_ hS => s_pick_t ⟨rfl, rfl⟩) (pGq_yes rfl (pGq_yes rfl (pGq_yes rfl ?_))))
      refine q_of (i64 d.length) (fun w_ hS => by rw [ed]; exact s_len usl39 ⟨rfl, rfl⟩) (pGq_yes rfl (q_of (.bool false) (fun w_ hS => s_ge_f (by omega) ⟨rfl, rfl⟩) (pGq_yes rfl ?_)))
      repeat (first | refine pGq_sk ?_ | refine pGq_un ?_)
      refine pGq_yes rfl (q_of (.bool false) (fun w_ hS => s_pick_f ⟨rfl, rfl⟩) (q_of (.bool false) (fun w_ hS => s_pick_f ⟨rfl, rfl⟩) (pC_false (s_add_in (by omega) ⟨m - 1, by omega, i + 1, by omega, hf.trans fd fun b => .inl, e0, e1, ?_⟩))))
      show i64 _ = i64 _; simp
    · have g0 : w'.cell? ⟨g, i, none⟩ = some (i64 (77 : Int)) := by
        rw [hcell, i64s_at (show i < (d ++ List.replicate n 77).length by simp; omega), List.getElem_append_right (by omega), List.getElem_replicate]
      refine ⟨fun x : World => x.heap[K]? = some (.cells #[bv, pv] 51 (0, 0)) ∧ x.cell? ⟨g, i, none⟩ = some (i64 (77 : Int)), ⟨hK', g0⟩, ?_⟩
      refine q_of (i64 d.length) (fun w_ hS => by rw [ed]; exact s_len usl39 ⟨rfl, rfl⟩) (q_of (.bool false) (fun w_ hS => s_lt_f (by omega) ⟨rfl, rfl⟩) ?_)
      repeat (first | refine pGq_sk ?_ | refine pGq_un ?_)
      refine q_of (.bool false) (fun w_ hS => s_pick_f ⟨rfl, rfl⟩) (pGq_yes rfl (pGq_yes rfl (pGq_yes rfl ?_)))
      refine q_of (i64 d.length) (fun w_ hS => by rw [ed]; exact s_len usl39 ⟨rfl, rfl⟩) (pGq_yes rfl (q_of (.bool true) (fun w_ hS => s_ge_t (by omega) ⟨rfl, rfl⟩) (pGq_yes rfl ?_)))
      refine pGq_yes rfl (pGq_yes rfl (q_of _ (fun w_ hS => s_nil ⟨rfl, rfl⟩) (pGq_yes rfl (q_of _ (fun w_ hS => fa51_1 ⟨rfl, rfl⟩) (pGq_yes rfl (q_of pv (fun w_ hS => s_ldb (isAgg39 _) hS.1 rfl ⟨rfl, rfl⟩) (pGq_yes rfl (pGq_yes rfl ?_))))))))
      refine q_of (.pointer (some ⟨g, i, none⟩)) (fun w_ hS => by rw [ev]; exact s_ixo usl39 (sze39 _) hi ⟨rfl, rfl⟩) (pGq_yes rfl (q_of (i64 (77 : Int)) (fun w_ hS => s_ld (isAgg3 _) hS.2 ⟨rfl, rfl⟩) (pGq_yes rfl ?_)))
      refine q_of (.bool false) (fun w_ hS => s_nei_f rfl ⟨rfl, rfl⟩) (pGq_yes rfl (q_of (.bool false) (fun w_ hS => s_pick_t ⟨rfl, rfl⟩) (q_of (.bool false) (fun w_ hS => s_pick_f ⟨rfl, rfl⟩) (pC_false (s_add_in (by omega) ⟨m - 1, by omega, i + 1, by omega, hf.trans fd fun b => .inl, e0, e1, ?_⟩)))))
      show i64 _ = i64 _; simp
  · refine s_lt_f (by omega) (pC_false ?_)
    rw [F124_2_eq]
    exact hk w' hf
theorem c_picks {K : Nat} {bv pv dv : Value} {d : List Int} (hK : w.heap[K]? = some (.cells #[bv, pv] 51 (0, 0))) (hd : SInts w dv d) (hdn : 0 < d.length → ∀ b, sblk dv = some b → b ≠ K) (hdl : d.length ≤ 1099511627)
    (hk : ∀ w' pv' v, w'.heap[K]? = some (.cells #[bv, pv'] 51 (0, 0)) → w'.ownsRow 0 3 1 pv' (d.length + 3) (i64s (d ++ List.replicate 3 77)) → SInts w' v d → (∀ b, sblk v = some b → sblk pv' = some b) → Fr (fun b => b = K) w w' → (∀ b, sblk pv' = some b → w.heap.size ≤ b) → k v w') :
    pFn P 122 [ptr K, dv] w k := by
  refine F122_in _ _ _ _ ?_
  unfold F122_0
  refine s_lenS usl39 hd (s_add_in (by omega) ?_)
  refine s_mks (t := 39) (e := 3) (i := t3) (z := i64 0) (by kernel_rfl) (by kernel_rfl) (by kernel_rfl) (by omega) (by show (8 : Int) * ((d.length : Int) + 3) ≤ _; omega) (by omega) ?_
  have hN : ((d.length : Int) + 3).toNat = d.length + 3 := by omega
  have hmc : madeCells (i64 0).cells (((d.length : Int) + 3).toNat * t3.size) = (List.replicate (d.length + 3) (i64 0)).toArray := by
    rw [madeCells_one _ rfl, hN, show t3.size = 1 by kernel_rfl, Nat.mul_one]
  rw [hmc, hN]
  have b1 := alloc_new w (.cells (List.replicate (d.length + 3) (i64 0)).toArray 3)
  have f1 := Fr.alloc no w (.cells (List.replicate (d.length + 3) (i64 0)).toArray 3)
  have z1 : (w.alloc (.cells (List.replicate (d.length + 3) (i64 0)).toArray 3)).heap.size = w.heap.size + 1 := by simp
  generalize w.alloc (.cells (List.replicate (d.length + 3) (i64 0)).toArray 3) = w1 at *
  have ho1 := own_blk (base := 0) (size := 1) (n := d.length + 3) b1 (Nat.zero_le _) (by unfold maxLen; omega) (by simp)
  have hKw := lt_of_get hK
  refine s_nil (fa51_1 (s_st (sizeOf39 _) rfl rfl (f1.get hK id) (by show 1 < 2; decide) ?_))
  have b2 := set_same (f1.get hK id) 1 (.slice (some ⟨w.heap.size, 0, none⟩) (d.length + 3) (d.length + 3))
  have f2 : Fr (fun b => b = K) w1 (w1.setCell ⟨K, 1, none⟩ (.slice (some ⟨w.heap.size, 0, none⟩) (d.length + 3) (d.length + 3))) := Fr.setCell w1 ⟨K, 1, none⟩ _
  have ho2 := own_fr ho1 f2 fun b hb' (e : b = K) => by injection hb' with hb'; have : w.heap.size = b := hb'; omega
  have f02 : Fr (fun b => b = K) w (w1.setCell ⟨K, 1, none⟩ (.slice (some ⟨w.heap.size, 0, none⟩) (d.length + 3) (d.length + 3))) := (f1.mono fun b hb' => hb'.elim).trans f2 fun b => .inl
  show F122L1 k _ (w1.setCell ⟨K, 1, none⟩ (.slice (some ⟨w.heap.size, 0, none⟩) (d.length + 3) (d.length + 3)))
  generalize w1.setCell ⟨K, 1, none⟩ (.slice (some ⟨w.heap.size, 0, none⟩) (d.length + 3) (d.length + 3)) = w2 at *
  have hbl : ∀ b, sblk (.slice (some ⟨w.heap.size, 0, none⟩) (d.length + 3) (d.length + 3)) = some b → b = w.heap.size := fun b hb' => by injection hb' with hb'; exact hb'.symm
  refine c_picks2 (bb := List.replicate (d.length + 3) 0) (pv := .slice (some ⟨w.heap.size, 0, none⟩) (d.length + 3) (d.length + 3)) (d := d) (bv := bv) b2 ?_ (SInts.fr0 hd f02 hdn) (fun h0 b hb' e => ?_) (by simp; omega) (by simp) rfl rfl rfl fun w' v g1 g2 g3 g4 g5 => ?_
  · simpa [i64s] using ho2
  · have hbw := hbl b e
    have := Src.lt (size := 1) hd (by omega) h0 hb'
    omega
  · rw [List.length_replicate, show d.length + 3 - d.length = 3 by omega] at g2
    refine hk w' _ v g1 (by simpa using g2) g3 g4 (f02.trans g5 fun b hb' => .inr (Nat.le_of_eq (hbl b hb').symm)) fun b hb' => Nat.le_of_eq (hbl b hb').symm
end
end Go.Proofs.YtcdcojpfealppaaGreat

set_option linter.unusedVariables false
set_option linter.unusedSimpArgs false
set_option maxRecDepth 100000
namespace Go.Proofs.YtcdcojpfealppaaGreat
open Go Go.Proofs Go.RowKit Go.Proofs.XRed Go.Proofs.XHeap Go.Proofs.XMaps Go.Proofs.XSlices Go.Proofs.XDisk Go.Proofs.XCalls Go.Proofs.XSep Tryz
def DeskA (K : Nat) (bv pv : Value) (bb : Bytes) (pp : List Int) : Asrt where
 h w O I := w.heap[K]? = some (.cells #[bv, pv] 51 (0, 0)) ∧ w.ownsRow 0 5 1 bv bb.length (u8s bb) ∧ w.ownsRow 0 3 1 pv pp.length (i64s pp) ∧ (∀ b, O b ↔ b = K ∨ sblk bv = some b ∨ sblk pv = some b) ∧ ∀ b, ¬ I b
 fr := fun ⟨h1, h2, h3, h4, h5⟩ hf hm => ⟨hf.get h1 fun e => (hm _ e).1 ((h4 _).2 (.inl rfl)), own_fr h2 hf fun b hb e => (hm b e).1 ((h4 b).2 (.inr (.inl hb))), own_fr h3 hf fun b hb e => (hm b e).1 ((h4 b).2 (.inr (.inr hb))), h4, h5⟩
 lt := fun ⟨h1, h2, h3, h4, h5⟩ b hb => by
  rcases hb with hb | hb
  ·rcases (h4 b).1 hb with rfl | hb | hb
   ·exact lt_of_get h1
   ·exact (own_blk_lt h2 hb).2
   ·exact (own_blk_lt h3 hb).2
  ·exact absurd hb (h5 b)
 ap := fun ⟨h1, h2, h3, h4, h5⟩ b _ => h5 b
section
variable {w w0 : World} {k : Value → World → Prop}
abbrev Seen (xb : Nat) (x : StepA) (dv pv' : Value) (Pb D E K : Nat) (w : World) : Prop :=
 w.heap[xb]? = some (.cells (stepCells x dv pv').toArray 41 (0, 0)) ∧ w.heap[Pb]? = some (.cells #[ptr D, ptr E, ptr K] 33 (0, 0))
theorem seen {xb : Nat} {x : StepA} {dv pv' : Value} {Pb D E K : Nat} {l : List Asrt} (h : Sep (Cells xb (stepCells x dv pv').toArray 41 :: Cells Pb #[ptr D, ptr E, ptr K] 33 :: l) w) : Seen xb x dv pv' Pb D E K w := ⟨h.cells 0 rfl, h.cells 1 rfl⟩
variable {W : World} {xb Pb D E K c : Nat} {x : StepA} {dv pv' bv pv : Value} {S T : AD} {bb : Bytes} {pp : List Int} {l : List Asrt}
theorem base_low {l : List Asrt} (hS : Sep l w) (i j : Nat) {a : Asrt} (hij : i ≠ j) (hi : l[i]? = some a) (hj : l[j]? = some (Base W)) :
    ∃ O I J, a.h w O I ∧ (∀ x, O x → W.heap.size ≤ x) ∧ (∀ b, I b → J b) ∧ (∀ b, O b → ¬ J b) ∧ ∀ c w' O' I', c.h w' O' I' → Nxt w O J w' O' I' → Sep (l.set i c) w' := by
  obtain ⟨O, I, O2, I2, J, h1, ⟨_, _, h2⟩, g1, g2, g3, g4, g5⟩ := hS.at2 i j hij hi hj
  exact ⟨O, I, J, h1, fun x hx => by have := (g1 x hx).2; rw [h2] at this; omega, g3, g4, g5⟩
theorem data_low {dv : Value} {d : Bytes} (h : SBytes W dv d) : 0 < d.length → ∀ b, sblk dv = some b → b < W.heap.size := fun h0 b hb => Src.lt (size := 1) h (by omega) h0 hb
theorem s_lay {l : List Asrt} {i j K : Nat} {bv pv dv : Value} {bb d : Bytes} {pp : List Int} (hS : Sep l w) (hij : i ≠ j) (hi : l[i]? = some (DeskA K bv pv bb pp)) (hj : l[j]? = some (Base W)) (hd : SBytes W dv d) (hl : bb.length ≤ 1099511627776) (hdl : d.length ≤ 274877906944)
    (hk : ∀ w' bv' v n, Sep (l.set i (DeskA K bv' pv (d ++ List.replicate n 171) pp)) w' → (d ++ List.replicate n (171 : UInt8)).length ≤ max bb.length (2 * d.length + 40) → SBytes w' v d → (∀ b, sblk v = some b → sblk bv' = some b) → k v w') : pFn P 63 [ptr K, dv] w k := by
  have hf := hS.base_at j hj
  obtain ⟨O, I, J, ⟨h1, h2, h3, h4, h5⟩, hlow, hIJ, hOJ, nx⟩ := base_low hS i j hij hi hj
  have hlt := fun b hb => (DeskA K bv pv bb pp).lt (w := w) (O := O) (I := I) ⟨h1, h2, h3, h4, h5⟩ b (.inl hb)
  refine c_lay h1 h2 (SBytes.fr0 hd hf fun _ _ _ h => h) (fun h0 b hb => ?_) hl hdl fun w' bv' v bb' n g1 g2 g3 g4 g5 g6 g7 g8 => ?_
  · have hb' := data_low hd h0 b hb
    exact ⟨fun e => by have := hlow b ((h4 b).2 (.inr (.inl e))); omega, fun e => by have := hlow b ((h4 b).2 (.inl e)); omega⟩
  · subst g2
    have hbK : ∀ b, sblk pv = some b → ¬ (b = K ∨ sblk bv = some b) := by
      rintro b hb (rfl | e)
      · obtain ⟨c1, q1⟩ := own_obj h3 hb; exact absurd (two_types q1 h1) (by decide)
      · obtain ⟨c1, q1⟩ := own_obj h3 hb
        obtain ⟨c2, q2⟩ := own_obj h2 e
        exact absurd (two_types q1 q2) (by decide)
    refine hk w' bv' v n (nx _ w' (fun b => b = K ∨ sblk bv' = some b ∨ sblk pv = some b) (fun _ => False) ⟨g1, g4, own_fr h3 g7 hbK, fun _ => Iff.rfl, fun _ h => h⟩ ⟨g7.mono fun b hb => .inl ((h4 b).2 (hb.imp id .inl)), fun b hb => ?_, fun b hb => hb.elim⟩) g3 g5 g6
    rcases hb with hb | hb | hb
    · exact .inl ((h4 b).2 (.inl hb))
    · exact (g8 b hb).imp (fun e => (h4 b).2 (.inr (.inl e))) id
    · exact .inl ((h4 b).2 (.inr (.inr hb)))
theorem s_picks {l : List Asrt} {i j K : Nat} {bv pv dv : Value} {bb : Bytes} {pp d : List Int} (hS : Sep l w) (hij : i ≠ j) (hi : l[i]? = some (DeskA K bv pv bb pp)) (hj : l[j]? = some (Base W)) (hd : SInts W dv d) (hdl : d.length ≤ 1099511627)
    (hk : ∀ w' pv' v, Sep (l.set i (DeskA K bv pv' bb (d ++ List.replicate 3 77))) w' → SInts w' v d → (∀ b, sblk v = some b → sblk pv' = some b) → k v w') : pFn P 122 [ptr K, dv] w k := by
  have hf := hS.base_at j hj
  obtain ⟨O, I, J, ⟨h1, h2, h3, h4, h5⟩, hlow, hIJ, hOJ, nx⟩ := base_low hS i j hij hi hj
  refine c_picks h1 (SInts.fr0 hd hf fun _ _ _ h => h) (fun h0 b hb e => ?_) hdl fun w' pv' v g1 g2 g3 g4 g5 g6 => ?_
  · have hb' : b < W.heap.size := Src.lt (size := 1) hd (by omega) h0 hb
    have := hlow b ((h4 b).2 (.inl e)); omega
  · have hbK : ∀ b, sblk bv = some b → ¬ (b = K) := by
      rintro b hb rfl
      obtain ⟨c1, q1⟩ := own_obj h2 hb; exact absurd (two_types q1 h1) (by decide)
    have e3 : (d ++ List.replicate 3 (77 : Int)).length = d.length + 3 := by simp
    refine hk w' pv' v (nx _ w' (fun b => b = K ∨ sblk bv = some b ∨ sblk pv' = some b) (fun _ => False) ⟨g1, own_fr h2 g5 hbK, by rw [e3]; exact g2, fun _ => Iff.rfl, fun _ h => h⟩ ⟨g5.mono fun b hb => .inl ((h4 b).2 (.inl hb)), fun b hb => ?_, fun b hb => hb.elim⟩) g3 g4
    rcases hb with hb | hb | hb
    · exact .inl ((h4 b).2 (.inl hb))
    · exact .inl ((h4 b).2 (.inr (.inl hb)))
    · exact .inr (g6 b hb)
end
end Go.Proofs.YtcdcojpfealppaaGreat

set_option linter.unusedVariables false
set_option linter.unusedSimpArgs false
set_option maxRecDepth 100000
namespace Go.Proofs.YtcdcojpfealppaaGreat
open Go Go.Proofs Go.RowKit Go.Proofs.XRed Go.Proofs.XHeap Go.Proofs.XMaps Go.Proofs.XSlices Go.Proofs.XDisk Go.Proofs.XCalls Go.Proofs.XSep Tryz
section
variable {w w0 : World} {k : Value → World → Prop}
variable {W : World} {xb Pb D E K c : Nat} {x : StepA} {dv pv' bv pv : Value} {S T : AD} {bb : Bytes} {pp : List Int} {l : List Asrt}
theorem s_ldStep {a : Nat} {w : World} {k : Value → World → Prop} (ha : w.heap[a]? = some (.cells (stepCells x dv pv').toArray 41 (0, 0))) (hk : k (stepVal x dv pv') w) : px P (Instr.loadAt 41 (ptr a)) w k :=
 s_ldAgg (m := 10) (isAgg41 _) (sizeOf41 _) ha (by show 0 + 10 ≤ 10; decide) hk
end
end Go.Proofs.YtcdcojpfealppaaGreat

set_option linter.unusedVariables false
set_option linter.unusedSimpArgs false
set_option maxRecDepth 100000
namespace Go.Proofs.YtcdcojpfealppaaGreat
open Go Go.Proofs Go.RowKit Go.Proofs.XRed Go.Proofs.XHeap Go.Proofs.XMaps Go.Proofs.XSlices Go.Proofs.XDisk Go.Proofs.XCalls Go.Proofs.XSep Tryz
section
variable {w w0 : World} {k : Value → World → Prop}
variable {W : World} {xb Pb D E K c : Nat} {x : StepA} {dv pv' bv pv : Value} {S T : AD} {bb : Bytes} {pp : List Int} {l : List Asrt}
end
end Go.Proofs.YtcdcojpfealppaaGreat

set_option linter.unusedVariables false
set_option linter.unusedSimpArgs false
set_option maxRecDepth 100000
namespace Go.Proofs.YtcdcojpfealppaaGreat
open Go Go.Proofs Go.RowKit Go.Proofs.XRed Go.Proofs.XHeap Go.Proofs.XMaps Go.Proofs.XSlices Go.Proofs.XDisk Go.Proofs.XCalls Tryz
section
variable {W w : World} {D : Nat} {S S' : AD} {O I : Nat → Prop} {L : Lay} {k : Value → World → Prop}
theorem run_ldStep {b o : Nat} {x : StepA} {dv pv : Value} (h : ∀ j u, (stepCells x dv pv)[j]? = some u → w.cell? ⟨b, o + j, none⟩ = some u) : (Instr.loadAt 41 (.pointer (some ⟨b, o, none⟩))).run P w = .ok (stepVal x dv pv) w := by
 have := run_loadCells_list (P := P) w ⟨b, o, none⟩ (stepCells x dv pv) (fun j v hj => by rw [add_at]; exact h j v hj)
 have e : (stepCells x dv pv).length = 10 := rfl
 rw [e] at this
 have hr : (Instr.loadAt 41 (.pointer (some ⟨b, o, none⟩))).run P w = .ok (.agg (stepCells x dv pv).toArray) w := by
  simp [Instr.loadAt, Instr.sureAddr, loadVar, isAgg41, sizeOf41, this, Result.andThen]
 exact hr
theorem s_step {v : Value} {l : Script} {i : Nat} (h : ScriptV w v l) (hi : i < l.length) {kk : Value → Value → World → Prop} (hk : ∀ p, kk p (stepVal l[i].1 l[i].2.1 l[i].2.2) w) :
    px P (Instr.indexAt 22 v (i64 i)) w fun p w => px P (Instr.loadAt 41 p) w (kk p) := by
  obtain ⟨b, o, c, ev, hc⟩ := h.at_ hi
  rw [ev]
  refine s_ix (i := (i : Int)) usl22 (sze22 _) (by omega) (by omega) ?_
  exact px_ok (run_ldStep (x := l[i].1) (dv := l[i].2.1) (pv := l[i].2.2) (fun j u hj => by have := hc j u hj; simpa using this)) (hk _)
theorem c_namesEq {v1 v2 : Value} {x y : List ByteArray} (hx : Src W v1 1 x.length (x.map .string)) (hy : Src W v2 1 y.length (y.map .string)) (hl : x.length ≤ 4611686018427387904) (hk : ∀ (b : Bool) w', Fr no W w' → (b = true ↔ x = y) → k (.bool b) w') : pFn P 43 [v1, v2] W k := by
 refine F43_in _ _ _ _ ?_
 unfold F43_0
 refine s_lenS usl73 hx (s_lenS usl73 hy ?_)
 by_cases hlen : x.length = y.length
 ·refine s_nei_f (by omega) (pC_false ?_)
  refine F43L1_inv (m := x.length) k (fun m ρ w' => ∃ i : Nat, i + m = x.length ∧ Fr no W w' ∧ ρ 0 = v1 ∧ ρ 1 = v2 ∧ ρ 5 = i64 i ∧ x.take i = y.take i) ?_
   ⟨0, by omega, Fr.refl _ _, rfl, rfl, rfl, rfl⟩
  rintro m ρ w' ⟨i, him, hf, e0, e1, e5, heq⟩
  rw [F43_1_eq]
  unfold F43_1
  rw [e0, e1, e5]
  have hx' := hx.fr (by omega) hf fun _ _ h => h
  have hy' := hy.fr (by omega) hf fun _ _ h => h
  refine s_lenS usl73 hx' ?_
  by_cases hi : i < x.length
  ·refine s_lt_t (by omega) (pC_true ?_)
   have fd : Fr no w' w'.drew := Fr.drew _ _
   have ff : Fr no W w'.drew := hf.trans fd fun b hb => .inl hb
   have hiy : i < y.length := by omega
   obtain ⟨b1, o1, c1, f1, g1⟩ := (hx'.fr (by omega) fd fun _ _ h => h).place hi (by omega)
   obtain ⟨b2, o2, c2, f2, g2⟩ := (hy'.fr (by omega) fd fun _ _ h => h).place hiy (by omega)
   have a1 := g1 0 (.string x[i]) (by omega) (by simp [hi])
   have a2 := g2 0 (.string y[i]) (by omega) (by simp [hiy])
   simp only [Nat.mul_one, Nat.add_zero] at a1 a2
   refine ⟨fun w' => w'.cell? ⟨b1, o1 + i, none⟩ = some (.string x[i]) ∧ w'.cell? ⟨b2, o2 + i, none⟩ = some (.string y[i]), ⟨a1, a2⟩, ?_⟩
   rw [f1, f2]
   refine q_of (.pointer (some ⟨b1, o1 + i, none⟩)) (fun w_ hS => s_ix (i := (i : Int)) usl73 (sze73 _) (by omega) (by omega) ⟨by simp, rfl⟩) ?_
   refine q_of (.string x[i]) (fun w_ hS => s_ld (isAgg9 _) hS.1 ⟨rfl, rfl⟩) ?_
   refine q_of (.pointer (some ⟨b2, o2 + i, none⟩)) (fun w_ hS => s_ix (i := (i : Int)) usl73 (sze73 _) (by omega) (by omega) ⟨by simp, rfl⟩) ?_
   refine q_of (.string y[i]) (fun w_ hS => s_ld (isAgg9 _) hS.2 ⟨rfl, rfl⟩) ?_
   refine q_of _ (fun w_ hS => s_nes ⟨rfl, rfl⟩) ?_
   by_cases he : x[i] = y[i]
   ·rw [decide_eq_true he]
    refine pC_false (s_add_in (by omega) ?_)
    refine ⟨m - 1, by omega, i + 1, by omega, ff, e0.trans f1, e1.trans f2, ?_, ?_⟩
    ·show i64 _ = i64 _; simp
    ·rw [List.take_succ_eq_append_getElem hi, List.take_succ_eq_append_getElem hiy, heq, he]
   ·rw [decide_eq_false he]
    refine pC_true (hk false _ ff ⟨(fun h => by cases h), fun h => absurd ?_ he⟩)
    subst h; rfl
  ·refine s_lt_f (by omega) (pC_false ?_)
   rw [F43_2_eq]
   refine hk true w' hf ⟨fun _ => ?_, fun _ => rfl⟩
   have a1 := List.take_of_length_le (l := x) (i := i) (by omega)
   have a2 := List.take_of_length_le (l := y) (i := i) (by omega)
   rw [← a1, heq, a2]
 ·exact s_nei_t (by omega) (pC_true (hk false W (Fr.refl _ _) ⟨(fun h => by cases h), fun h => absurd (by rw [h]) hlen⟩))
end
end Go.Proofs.YtcdcojpfealppaaGreat

set_option linter.unusedVariables false
set_option linter.unusedSimpArgs false
set_option maxRecDepth 100000
namespace Go.Proofs.YtcdcojpfealppaaGreat
open Go Go.Proofs Go.RowKit Go.Proofs.XRed Go.Proofs.XHeap Go.Proofs.XMaps Go.Proofs.XSlices Go.Proofs.XDisk Go.Proofs.XCalls Go.Proofs.XSep Tryz
section
variable {w w0 : World} {k : Value → World → Prop}
variable {W : World} {xb Pb D E K c : Nat} {x : StepA} {dv pv' bv pv : Value} {S T : AD} {bb : Bytes} {pp : List Int} {l : List Asrt}
end
end Go.Proofs.YtcdcojpfealppaaGreat

set_option linter.unusedVariables false
set_option linter.unusedSimpArgs false
set_option maxRecDepth 100000
namespace Go.Proofs.YtcdcojpfealppaaGreat
open Go Go.Proofs Go.RowKit Go.Proofs.XRed Go.Proofs.XHeap Go.Proofs.XMaps Go.Proofs.XSlices Go.Proofs.XDisk Go.Proofs.XCalls Go.Proofs.XSep Tryz
section
variable {w w0 : World} {k : Value → World → Prop}
variable {W : World} {xb Pb D E K c : Nat} {x : StepA} {dv pv' bv pv : Value} {S T : AD} {bb : Bytes} {pp : List Int} {l : List Asrt}
end
end Go.Proofs.YtcdcojpfealppaaGreat

set_option linter.unusedVariables false
set_option linter.unusedSimpArgs false
set_option maxRecDepth 100000
namespace Go.Proofs.YtcdcojpfealppaaGreat
open Go Go.Proofs Go.RowKit Go.Proofs.XRed Go.Proofs.XHeap Go.Proofs.XMaps Go.Proofs.XSlices Go.Proofs.XDisk Go.Proofs.XCalls Go.Proofs.XSep Tryz
section
variable {w w0 : World} {k : Value → World → Prop}
variable {W : World} {xb Pb D E K c : Nat} {x : StepA} {dv pv' bv pv : Value} {S T : AD} {bb : Bytes} {pp : List Int} {l : List Asrt}
theorem DeskA.none {K : Nat} {w : World} (h : w.heap[K]? = some (.cells #[.slice none 0 0, .slice none 0 0] 51 (0, 0))) : (DeskA K (.slice none 0 0) (.slice none 0 0) [] []).h w (fun b => b = K) (fun _ => False) :=
 ⟨h, ⟨rfl, .inl ⟨rfl, rfl⟩⟩, ⟨rfl, .inl ⟨rfl, rfl⟩⟩, fun b => ⟨.inl, fun h => h.elim id fun h => h.elim (fun h => by cases h) fun h => by cases h⟩, fun _ h => h⟩
end
end Go.Proofs.YtcdcojpfealppaaGreat

set_option linter.unusedVariables false
namespace Go.Proofs.XRed
open Go Go.Proofs
def drawPre (ops : Array Oper) : Array Bool → List Nat → Bool
 | _, [] => true
 | listed, i :: rest =>
  (Region.ready .any ops listed).contains i &&
  (if quietOp (ops.getD i default).op then Region.free .any ops listed i else Region.ready .any ops listed == [i]) &&
  drawPre ops (listed.setIfInBounds i true) rest
def listedAt (listed : Array Bool) : List Nat → Array Bool
 | [] => listed
 | i :: r => listedAt (listed.setIfInBounds i true) r
theorem drawOk_pre {ops : Array Oper} : ∀ {o1 : List Nat} {listed : Array Bool} {fuel : Nat} {o2 : List Nat}, drawPre ops listed o1 = true → drawOk ops fuel (listedAt listed o1) o2 = true → drawOk ops (fuel + o1.length) listed (o1 ++ o2) = true
 | [], _, _, _, _, h => h
 | i :: r, listed, fuel, o2, h, h2 => by
  simp only [drawPre, Bool.and_eq_true] at h
  show drawOk ops (fuel + r.length + 1) listed (i :: (r ++ o2)) = true
  simp only [drawOk, Bool.and_eq_true]
  exact ⟨h.1, drawOk_pre h.2 h2⟩
def opsOf : Code → Array Oper
 | .region _ ops _ => ops
 | _ => #[]
def isDrawn : Code → Bool
 | .region _ _ d => d
 | _ => false
def isSeq : Code → Bool
 | .seq _ _ => true
 | _ => false
theorem fits_seq {n : Nat} {B : Code} (hB : isSeq B = true) (h1 : Code.fits n (sub B [0]) = true) (h2 : Code.fits n (sub B [1]) = true) : Code.fits n B = true := by
 cases B with
 | seq x y =>
  have h1' : Code.fits n (sub x []) = true := h1
  have h2' : Code.fits n (sub y []) = true := h2
  have e1 : sub x [] = x := by cases x <;> rfl
  have e2 : sub y [] = y := by cases y <;> rfl
  rw [e1] at h1'; rw [e2] at h2'
  simp only [Code.fits, Bool.and_eq_true]
  exact ⟨h1', h2'⟩
 | _ => cases hB
theorem fits_drawn {n : Nat} {c : Code} (hd : isDrawn c = true) (hw : wfOps n (opsOf c).toList = true) (hs : Region.noSelect (opsOf c) = true) {ord : List Nat}
    (ho : drawOrder (opsOf c) (opsOf c).size (Array.replicate (opsOf c).size false) = ord)
    (hk : drawOk (opsOf c) (opsOf c).size (Array.replicate (opsOf c).size false) ord = true) : Code.fits n c = true := by
  cases c with
  | region id ops draw =>
    have hd' : draw = true := hd
    subst hd'
    have hw' : wfOps n ops.toList = true := hw
    have hs' : Region.noSelect ops = true := hs
    have ho' : drawOrder ops ops.size (Array.replicate ops.size false) = ord := ho
    have hk' : drawOk ops ops.size (Array.replicate ops.size false) ord = true := hk
    simp only [Code.fits, Bool.and_eq_true]
    refine ⟨hw', ?_⟩
    rw [ho']
    simp [hs', hk']
  | _ => cases hd
end Go.Proofs.XRed
