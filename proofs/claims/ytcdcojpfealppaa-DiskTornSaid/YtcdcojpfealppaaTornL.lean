/- DiskTorn's own functions: written, away; rows of writes. -/
import Derived.Test.YtcdcojpfealppaaXTorn
import Derived.Test.YtcdcojpfealppaaDo
set_option linter.unusedVariables false
set_option linter.unusedSimpArgs false
set_option maxRecDepth 100000
namespace Go.Proofs.Ytcdcojpfealppaa
open Go Go.Proofs Go.RowKit Go.Proofs.XRed Go.Proofs.XHeap Go.Proofs.XMaps Go.Proofs.XSlices Go.Proofs.XDisk Go.Proofs.XCalls Go.Proofs.XRange Go.Proofs.XKeys
def wrCells (x : WrA) (dv : Value) : List Value := [.bool x.cut, i64 x.at_, dv]
def wrVal (x : WrA) (dv : Value) : Value := .agg #[.bool x.cut, i64 x.at_, dv]
structure WrV (W : World) (x : WrA) (dv : Value) : Prop where
  data : SBytes W dv x.data
  at_ : -9223372036854775808 ≤ x.at_ ∧ x.at_ ≤ 9223372036854775807
  dlen : x.data.length ≤ 140737488355328
theorem WrV.fr {W w : World} {M : Nat → Prop} {x : WrA} {dv : Value} (h : WrV W x dv) (hf : Fr M W w) (hn : ∀ b, sblk dv = some b → ¬ M b) : WrV w x dv :=
  ⟨h.data.fr hf hn, h.at_, h.dlen⟩
abbrev Writes := List (WrA × Value)
def writesCells (l : Writes) : List Value := l.flatMap fun p => wrCells p.1 p.2
structure WritesV (W : World) (v : Value) (l : Writes) : Prop where
  src : Src W v 3 l.length (writesCells l)
  all : ∀ p ∈ l, WrV W p.1 p.2
theorem WritesV.fr {W w : World} {v : Value} {l : Writes} (h : WritesV W v l) (hf : Fr no W w) : WritesV w v l := ⟨h.src.fr (by omega) hf fun _ _ h => h, fun p hp => (h.all p hp).fr hf fun _ _ h => h⟩
theorem writes_at {W : World} {v : Value} {l : Writes} (h : Src W v 3 l.length (writesCells l)) {i : Nat} (hi : i < l.length) : ∃ b o c, v = .slice (some ⟨b, o, none⟩) l.length c ∧ W.cell? ⟨b, o + i * 3, none⟩ = some (.bool l[i].1.cut) ∧ W.cell? ⟨b, o + i * 3 + 1, none⟩ = some (i64 l[i].1.at_) ∧ W.cell? ⟨b, o + i * 3 + 2, none⟩ = some l[i].2 := by
  obtain ⟨b, o, c, e, hc⟩ := h.place hi (by omega)
  have at_ : ∀ j u, (wrCells l[i].1 l[i].2)[j]? = some u → W.cell? ⟨b, o + i * 3 + j, none⟩ = some u := by
    intro j u hj
    have hlt : j < 3 := (List.getElem?_eq_some_iff.1 hj).1
    refine hc j u hlt ?_
    have := flatAt (f := fun p : WrA × Value => wrCells p.1 p.2) (n := 3) (fun _ => rfl) (l := l) (i := i) (j := j) (a := l[i]) (by simp [hi]) hlt
    unfold writesCells
    rw [this]; exact hj
  exact ⟨b, o, c, e, by simpa using at_ 0 _ rfl, at_ 1 _ rfl, at_ 2 _ rfl⟩
section
variable {W w : World} {D : Nat} {S S' : AD} {O I : Nat → Prop} {L : Lay} {k : Value → World → Prop}
/-- append([]byte{}, data...), as the call's own. -/
theorem s_copyO {dv : Value} {d : Bytes} {kk : Value → World → Prop} (hd : SBytes w dv d) (hl : d.length ≤ 140737488355328) (hk : ∀ v w', Fr no w w' → w'.ownsRow w.heap.size 5 1 v d.length (u8s d) → kk v w') :
    px P (bSem .append #[30, 30] 30 #[.slice (some ⟨w.heap.size, 0, none⟩) 0 0, dv]) (w.alloc (.cells #[] 5)) kk := by
  have f1 := Fr.alloc no w (.cells #[] 5)
  have hl1 := own_lit w w.heap.size 5 1 #[] 0 (Nat.le_refl _) (by unfold maxLen; omega) rfl
  have z1 : (w.alloc (.cells #[] 5)).heap.size = w.heap.size + 1 := by simp
  generalize w.alloc (.cells #[] 5) = w1 at *
  refine ap30 hl1 (hd.fr f1 fun _ _ h => h) u8s_one (by omega) (by omega) fun v w2 h2 f2 hb2 => ?_
  have e : (0 + d.length) = d.length := by omega
  rw [e] at h2
  refine hk v w2 ((f1.or f2).mono ?_) (by simpa using h2)
  · rintro b (hb | hb)
    · exact hb.elim
    · injection hb with hb; have hb' : b = w.heap.size := hb; right; omega
theorem u8s_set (l : Bytes) (i : Nat) (x : UInt8) : u8s (l.set i x) = (u8s l).set i (.int .u8 x.toNat) := by
  unfold u8s
  rw [List.map_set]
theorem own_bytes {base : Nat} {v : Value} {d : Bytes} (h : w.ownsRow base 5 1 v d.length (u8s d)) : SBytes w v d := by
  have := Src.of_own h
  unfold SBytes
  exact this
/-- written: what so many units of a write make of bytes. -/
theorem c_written {bv dv : Value} {b : Bytes} {x : WrA} {u : Nat} (hb : SBytes w bv b) (hx : WrV w x dv) (hu : u ≤ x.units) (ha0 : 0 ≤ x.at_) (ha : x.cut = false → x.at_ ≤ b.length) (hbl : b.length ≤ 4194304) (hdl : x.data.length ≤ 4194304)
    (hk : ∀ v w', Fr no w w' → SBytes w' v (x.chg.made b u) → (∀ i, sblk v = some i → sblk bv = some i ∨ (w.heap.size ≤ i ∧ i < w'.heap.size)) → k v w') : pFn P 23 [bv, wrVal x dv, i64 u] w k := by
  refine F23_in _ _ _ _ _ ?_
  unfold F23_0 wrVal
  refine s_box ?_
  have f1 := Fr.alloc no w (.cells #[.bool x.cut, i64 x.at_, dv] 43)
  have b1 := alloc_new w (.cells #[.bool x.cut, i64 x.at_, dv] 43)
  have z1 : (w.alloc (.cells #[.bool x.cut, i64 x.at_, dv] 43)).heap.size = w.heap.size + 1 := by simp
  show px P _ (w.alloc (.cells #[.bool x.cut, i64 x.at_, dv] 43)) _
  generalize w.alloc (.cells #[.bool x.cut, i64 x.at_, dv] 43) = w1 at *
  have hb1 := hb.fr f1 fun _ _ h => h
  obtain ⟨A, c, eb, hbc⟩ := hb1.form
  refine fa43_0 (s_ldb (v := .bool x.cut) (Try.isAgg4 _) b1 rfl ?_)
  have hdx := hx.data.fr f1 fun _ _ h => h
  cases hc : x.cut with
  | true =>
    have hu1 : u ≤ 1 := by unfold WrA.units at hu; rw [hc] at hu; exact hu
    have hchg : x.chg = .cut x.at_.toNat := by unfold WrA.chg; rw [hc]; rfl
    rw [hchg] at hk
    refine pC_true ?_
    by_cases h0 : u = 0
    · subst h0
      refine s_eqi_t (by omega) ?_
      repeat (first | refine pG_skf ?_ | refine pG_un ?_)
      refine s_pick_t (pC_true (hk bv w1 f1 ?_ fun i hi => .inl hi))
      simp only [Chg.made, if_true]
      exact hb1
    · refine s_eqi_f (by omega) ?_
      refine pG_yes rfl (fa43_1 (pG_yes rfl (s_ldb (v := i64 x.at_) (Try.isAgg3 _) b1 rfl (pG_yes rfl (pG_yes rfl ?_)))))
      rw [eb]
      refine s_len usl30 (pG_yes rfl ?_)
      simp only [Chg.made, if_neg h0] at hk
      by_cases hgt : x.at_ > b.length
      · refine s_gt_t hgt (s_pick_f (pC_true (hk _ w1 f1 ?_ fun i hi => .inl (by rw [eb]; exact hi))))
        rw [List.take_of_length_le (by omega), ← eb]; exact hb1
      · refine s_gt_f hgt (s_pick_f (pC_false ?_))
        refine s_lit0 (Try.runUnderlying30 _) (Try.sizeOf5 _) ?_
        have f2 := Fr.alloc no w1 (.cells #[] 5)
        have b2 := f2.get b1 id
        refine fa43_1 (s_ldb (v := i64 x.at_) (Try.isAgg3 _) b2 rfl ?_)
        refine s_sl_h usl30 (sze30 _) (by omega) (by omega) ?_
        rw [eb] at hb1
        have hcut := Src.cut (show Src w1 (.slice A b.length c) 1 _ _ from hb1) (l := 0) (h' := x.at_.toNat) (by omega) (by omega)
        have e1 : ((u8s b).drop (0 * 1)).take ((x.at_.toNat - 0) * 1) = u8s (b.take x.at_.toNat) := by simp [u8s, List.map_take]
        have e2 : x.at_.toNat - 0 = (b.take x.at_.toNat).length := by simp; omega
        rw [e1, e2] at hcut
        have hcut' : SBytes w1 (.slice A x.at_.toNat c) (b.take x.at_.toNat) := by
          unfold SBytes
          rw [← e2, Nat.sub_zero] at hcut ⊢
          have := hcut
          unfold sliced at this
          have eA : (if c = 0 then A else A.map (fun x => x.add 0)) = A := by
            split
            · rfl
            · cases A <;> simp [Addr.add]
          simp only [Nat.zero_mul, Nat.sub_zero] at this
          rw [eA] at this
          exact this
        refine s_copyB hcut' (by simp; omega) fun v w3 f3 h3 hb3 => ?_
        refine hk v w3 (f1.trans f3 fun b hb => .inl hb) h3 fun i hi => .inr ?_
        have := hb3 i hi; omega
  | false =>
    have hu1 : u ≤ x.data.length := by unfold WrA.units at hu; rw [hc] at hu; exact hu
    have ha' := ha hc
    have hchg : x.chg = .wr x.at_.toNat x.data := by unfold WrA.chg; rw [hc]; rfl
    rw [hchg, ovr_made (by omega) hu1] at hk
    refine pC_false ?_
    refine s_lit0 (Try.runUnderlying30 _) (Try.sizeOf5 _) ?_
    refine s_copyO hb1 (by omega) fun v w2 f2 h2 => ?_
    refine F23L1_inv (m := u) k (fun m ρ w' => ∃ (i : Nat) (ov : Value), i + m = u ∧ Fr no w1 w' ∧ ρ 4 = ptr w.heap.size ∧ ρ 2 = i64 u ∧ ρ 8 = i64 i ∧ ρ 7 = ov ∧ w'.ownsRow w1.heap.size 5 1 ov (ovr b x.at_.toNat x.data i).length (u8s (ovr b x.at_.toNat x.data i))) ?_
      ⟨0, v, by omega, f2, rfl, rfl, rfl, rfl, by rw [ovr_zero]; exact h2⟩
    rintro m ρ w' ⟨i, ov, him, hf, e4, e2, e8, e7, hrow⟩
    rw [F23_1_eq]
    unfold F23_1
    rw [e2, e4, e7, e8]
    have b' := hf.get b1 id
    have hd' := hdx.fr hf fun _ _ h => h
    obtain ⟨Ad, cd, ed, hcd⟩ := hd'.form
    by_cases hi : i < u
    · refine s_lt_t (by omega) ?_
      refine pG_yes rfl (pG_yes rfl (fa43_2 (pG_yes rfl (s_ldb (v := dv) (Try.isAgg30 _) b' rfl (pG_yes rfl ?_)))))
      have hlen : ∀ {w' : World} {K : Value → World → Prop}, K (i64 x.data.length) w' → px P (bSem .len #[30] 3 #[dv]) w' K := by
        intro w' K hK
        rw [ed]
        exact s_len usl30 hK
      refine hlen (pG_yes rfl (s_lt_t (by omega) (s_pick_t (pC_true ?_))))
      refine fa43_1 (s_ldb (v := i64 x.at_) (Try.isAgg3 _) b' rfl (s_add_in (by omega) ?_))
      have hil : i < x.data.length := by omega
      have hov := ovr_len (b := b) (a := x.at_.toNat) (d := x.data) (i := i) (by omega) (by omega)
      obtain ⟨Ao, co, eo, hco⟩ := (own_bytes hrow).form
      have hleno : ∀ {w' : World} {K : Value → World → Prop}, K (i64 (ovr b x.at_.toNat x.data i).length) w' → px P (bSem .len #[30] 3 #[ov]) w' K := by
        intro w' K hK
        rw [eo]
        exact s_len usl30 hK
      refine hleno ?_
      have hdn : ∀ {w'' : World}, SBytes w'' dv x.data → ∃ bd od, Ad = some ⟨bd, od, none⟩ ∧ w''.cell? ⟨bd, od + i, none⟩ = some (.int .u8 x.data[i].toNat) := by
        intro w'' hs
        rw [ed] at hs
        obtain ⟨bd, od, cd', e, hcell⟩ := (show Src w'' (.slice Ad x.data.length cd) 1 _ _ from hs).place hil (by omega)
        injection e with e _ _
        refine ⟨bd, od, e, ?_⟩
        have := hcell 0 (.int .u8 x.data[i].toNat) (by omega) (by simp [u8s, hil])
        simpa using this
      -- the round's end
      have fin : ∀ (ρ' : Env) w3 ov', ρ' 4 = ptr w.heap.size → ρ' 2 = i64 u → ρ' 8 = i64 i → ρ' 7 = ov' → Fr no w1 w3 → w3.ownsRow w1.heap.size 5 1 ov' (ovr b x.at_.toNat x.data (i + 1)).length (u8s (ovr b x.at_.toNat x.data (i + 1))) →
          F23A1 k (fun ρ' w' => ∃ m', m' < m ∧ ∃ (i : Nat) (ov : Value), i + m' = u ∧ Fr no w1 w' ∧ ρ' 4 = ptr w.heap.size ∧ ρ' 2 = i64 u ∧ ρ' 8 = i64 i ∧ ρ' 7 = ov ∧ w'.ownsRow w1.heap.size 5 1 ov (ovr b x.at_.toNat x.data i).length (u8s (ovr b x.at_.toNat x.data i))) [1, 1] ρ' w3 := by
        intro ρ' w3 ov' e4 e2 e8 e7 hf3 hrow3
        rw [F23_2_eq]
        unfold F23_2
        rw [e8]
        refine s_add_in (by omega) ?_
        refine ⟨m - 1, by omega, i + 1, ov', by omega, hf3, e4, e2, ?_, e7, hrow3⟩
        show i64 _ = i64 _; simp
      by_cases hin : x.at_.toNat + i < (ovr b x.at_.toNat x.data i).length
      · refine s_lt_t (by omega) (pC_true ?_)
        have fd : Fr no w' w'.drew := Fr.drew _ _
        have bd' := fd.get b' id
        have hdd := hd'.fr fd fun _ _ h => h
        have hrowd := own_fr hrow fd fun _ _ h => h
        obtain ⟨bd, od, eA, hcell⟩ := hdn hdd
        obtain ⟨g, cap, cur, eov, hg, hgh, hnc, hcs⟩ : ∃ g cap cur, ov = .slice (some ⟨g, 0, none⟩) (ovr b x.at_.toNat x.data i).length cap ∧ w1.heap.size ≤ g ∧ w'.drew.heap[g]? = some (.cells cur 5 (0, 0)) ∧ (ovr b x.at_.toNat x.data i).length ≤ cap ∧ cap ≤ cur.size := by
          rcases hrowd.2 with ⟨_, h0⟩ | ⟨g, cap, cur, e', hg, hh, hnc, h4, h5, h6⟩
          · omega
          · exact ⟨g, cap, cur, e', hg, hh, by omega, by omega⟩
        refine ⟨fun w_ => w_.heap[w.heap.size]? = some (.cells #[.bool x.cut, i64 x.at_, dv] 43 (0, 0)) ∧ w_.cell? ⟨bd, od + i, none⟩ = some (.int .u8 x.data[i].toNat), ⟨bd', hcell⟩, ?_⟩
        refine q_of _ (fun w_ hS => fa43_1 ⟨rfl, rfl⟩) ?_
        refine q_of (i64 x.at_) (fun w_ hS => s_ldb (v := i64 x.at_) (Try.isAgg3 _) hS.1 rfl ⟨rfl, rfl⟩) ?_
        refine q_of (i64 (x.at_ + i)) (fun w_ hS => s_add_in (by omega) ⟨rfl, rfl⟩) ?_
        refine q_of _ (fun w_ hS => fa43_2 ⟨rfl, rfl⟩) ?_
        refine q_of dv (fun w_ hS => s_ldb (v := dv) (Try.isAgg30 _) hS.1 rfl ⟨rfl, rfl⟩) ?_
        rw [ed, eA]
        refine q_of (.pointer (some ⟨bd, od + i, none⟩)) (fun w_ hS => s_ix (i := (i : Int)) usl30 (sze30 _) (by omega) (by omega) ⟨by simp, rfl⟩) ?_
        refine q_of (.int .u8 x.data[i].toNat) (fun w_ hS => s_ld (Try.isAgg5 _) hS.2 ⟨rfl, rfl⟩) ?_
        rw [eov]
        refine q_of (.pointer (some ⟨g, x.at_.toNat + i, none⟩)) (fun w_ hS => s_ix (i := x.at_ + i) usl30 (sze30 _) (by omega) (by omega) ⟨by
          have : (x.at_ + i).toNat = x.at_.toNat + i := by omega
          simp [this], rfl⟩) ?_
        refine s_st (Try.sizeOf5 _) rfl rfl hgh (by omega) ?_
        rw [eov] at hrowd
        obtain ⟨hrow2, hgr⟩ := hrowd.stored (x.at_.toNat + i) (.int .u8 x.data[i].toNat)
        have f2 : Fr (fun b => b = g) w'.drew (w'.drew.setCell ⟨g, x.at_.toNat + i, none⟩ (.int .u8 x.data[i].toNat)) := Fr.setCell w'.drew ⟨g, x.at_.toNat + i, none⟩ _
        have hsetl := ovr_set hil hin (by omega)
        rw [← eov]
        refine fin _ _ (.slice (some ⟨g, 0, none⟩) (ovr b x.at_.toNat x.data i).length cap) (by exact e4) (by exact e2) (by exact e8) (by exact e7.trans eov) ?_ ?_
        · refine (hf.trans fd fun b hb => .inl hb).trans f2 ?_
          rintro b rfl; exact .inr hg
        · rw [hsetl, List.length_set, u8s_set]
          exact hrow2
      · refine s_lt_f (by omega) (pC_false ?_)
        refine fa43_2 (s_ldb (v := dv) (Try.isAgg30 _) b' rfl ?_)
        obtain ⟨bd, od, eA, hcell⟩ := hdn hd'
        rw [ed, eA]
        refine s_ix (i := (i : Int)) usl30 (sze30 _) (by omega) (by omega) ?_
        refine s_ld (v := .int .u8 x.data[i].toNat) (Try.isAgg5 _) (by simpa using hcell) ?_
        refine lit1_30 rfl ?_
        have f5 := Fr.alloc no w' (.cells #[.int .u8 x.data[i].toNat] 5)
        have hlit := own_lit w' 0 5 1 #[.int .u8 x.data[i].toNat] 1 (Nat.zero_le _) (by unfold maxLen; omega) rfl
        show px P _ (w'.alloc (.cells #[.int .u8 x.data[i].toNat] 5)) _
        generalize w'.alloc (.cells #[.int .u8 x.data[i].toNat] 5) = w5 at *
        have hsz := hf.size
        have hsz5 := f5.size
        refine ap30 (own_fr hrow f5 fun _ _ h => h) (Src.of_own hlit) (by intro y hy; simp at hy; subst hy; rfl) (by omega) (by omega) fun ov' w6 h6 f6 hb6 => ?_
        have hsn := ovr_snoc hil hin (by omega)
        refine fin _ w6 ov' (by exact e4) (by exact e2) (by exact e8) rfl ?_ ?_
        · refine (hf.trans f5 fun b hb => .inl hb).trans f6 ?_
          intro b hb
          exact .inr (own_blk_lt hrow hb.symm).1
        · rw [hsn, List.length_append, u8s_append]
          exact h6
    · refine s_lt_f (by omega) ?_
      repeat (first | refine pG_sk ?_ | refine pG_un ?_)
      refine s_pick_f (pC_false ?_)
      rw [F23_3_eq]
      have hiu : i = u := by omega
      subst hiu
      unfold F23_3
      show k (ρ 7) w'
      rw [e7]
      refine hk ov w' (f1.trans hf fun b hb => .inl hb) (own_bytes hrow) fun j hj => .inr ?_
      have := own_blk_lt hrow hj; omega
end
end Go.Proofs.Ytcdcojpfealppaa
