/- Put together by a program (wip/tools/shake.py): RTwin4, RTwin5, Desk, Desk2. -/
import Derived.Test.YtcdcojpfealppaaGreatM17
import Derived.Test.YtcdcojpfealppaaGreatM12
set_option linter.unusedVariables false
set_option linter.unusedSimpArgs false
set_option maxRecDepth 100000
namespace Go.Proofs.YtcdcojpfealppaaGreat
open Go Go.Proofs Go.RowKit Go.Proofs.XRed Go.Proofs.XHeap Go.Proofs.XMaps Go.Proofs.XSlices Go.Proofs.XDisk Go.Proofs.XCalls Go.Proofs.XPtr Go.Proofs.XSep
section
variable {w w0 : World} {D : Nat} {S S' : AD} {O I : Nat → Prop} {L L' : RLay} {k : Value → World → Prop}
def thingV (loc : Nat → Nat) : Turn → Value
  | .mk _ t => ptr (loc t)
  | _ => .pointer none
theorem rturn_3 (loc : Nat → Nat) (c : Turn) : (rturn loc c)[3]? = some (thingV loc c) := by cases c <;> rfl
theorem rturn_set (loc loc' : Nat → Nat) (c : Turn) : (rturn loc c).toArray.setIfInBounds 3 (thingV loc' c) = (rturn loc' c).toArray := by cases c <;> rfl
theorem r_otherC {ov mv dv : Value} {tl : RTwins} {X : Nat} {cs : Array Value} {c : Turn} (h : RRep w0 D S O I L) (m : RTw w0 w S L ov mv tl X cs dv) (hl : tl.length ≤ 4611686018427387904) (hc : ∀ n t, c = .mk n t → L.has t ∧ t ∈ tl.map (·.1)) (hk : k (thingV (locOf tl) c) w) : pFn P 87 [ov, mv, thingV L.loc c] w k := by
  cases c with
  | mk n t =>
    obtain ⟨hhas, hin⟩ := hc n t rfl
    have h' := h.fr m.fr fun b hb => hb.elim
    have hblk : ∀ t, L.has t → Blk w (L.loc t) := fun t ht => by obtain ⟨c, h⟩ := (h'.things t ht).obj; exact ⟨c, _, h⟩
    refine r_other (Src.of_own m.old) (Src.of_own m.made) hl (hblk _ hhas) (fun p hp => hblk _ (m.has p hp)) (fun p hp e => ?_) fun hno => ?_
    · have ep : p.1 = t := h.inj _ _ (m.has p hp) hhas e
      have : locOf tl t = p.2.1 := by rw [← ep]; exact (locOf_mem m.nd hp).1
      rw [← this]; exact hk
    · obtain ⟨p, hp, e⟩ := List.mem_map.1 hin
      exact absurd (by rw [e]) (hno p hp)
  | give a b => exact r_otherNil (Src.of_own m.old) hl hk
  | take n => exact r_otherNil (Src.of_own m.old) hl hk
set_option maxHeartbeats 1000000 in
theorem r_tw6 {ov mv dv nv bv tv : Value} {tl : RTwins} {X i : Nat} {kN : Env → World → Prop} (h : RRep w0 D S O I L) (m : RTw w0 w S L ov mv tl X #[.bool (!S.off), i64 S.room, nv, bv, tv, i64 S.strokes, i64 S.since, i64 S.plan.off, i64 S.plan.from_, i64 S.plan.to_, dv] dv)
    (hin : ∀ n t, Turn.mk n t ∈ S.row → t ∈ tl.map (·.1)) (hl : tl.length ≤ 1099511627776) (hlen : S.row.length ≤ 1099511627776) (hn : w.ownsRow w0.heap.size 146 4 tv i ((S.row.take i).flatMap (rturn (locOf tl)))) {ρ : Env} (e0 : ρ 0 = ptr D) (e3 : ρ 3 = ptr X) (e4 : ρ 4 = ov) (e5 : ρ 5 = mv) (eI : ρ 11 = i64 i)
    (hout : ¬ i < S.row.length → k (ptr X) w)
    (hnext : i < S.row.length → ∀ ρ' w' tv', RTw w0 w' S L ov mv tl X #[.bool (!S.off), i64 S.room, nv, bv, tv', i64 S.strokes, i64 S.since, i64 S.plan.off, i64 S.plan.from_, i64 S.plan.to_, dv] dv → w'.ownsRow w0.heap.size 146 4 tv' (i + 1) ((S.row.take (i + 1)).flatMap (rturn (locOf tl))) →
      Fr (fun b => b = X ∨ sblk tv = some b) w w' → ρ' 0 = ptr D → ρ' 3 = ptr X → ρ' 4 = ov → ρ' 5 = mv → ρ' 11 = i64 (i + 1) → kN ρ' w') : F25_11 k kN ρ w := by
  unfold F25_11
  rw [e0, eI, e4, e5, e3]
  have h' := h.fr m.fr fun b hb => hb.elim
  refine s_nil (fa62_4 (s_ldb (v := L.turnv) (Tryz.isAgg60 _) h'.disk rfl (s_lenS usl60 (Src.of_own h'.turns) ?_)))
  by_cases hi : i < S.row.length
  · refine s_lt_t (by omega) (pC_true (s_nil (fa62_4 (s_ldb (v := L.turnv) (Tryz.isAgg60 _) h'.disk rfl ?_))))
    refine s_elemN (m := 0) (vs := rturn L.loc S.row[i]) usl60 (sze60 _) (Tryz.isAgg146 _) (Tryz.sizeOf146 _) (Src.of_own h'.turns) hi (by omega) (rturn_len _ _) (fun j hj => flatAt (f := rturn L.loc) (rturn_len L.loc) (List.getElem?_eq_getElem hi) hj) fun q3 => ?_
    refine r_turnVar (loc := L.loc) (t := S.row[i]) fun w1 ha f1 z1 => ?_
    have zf := m.fr.size
    have hmk : ∀ n t, S.row[i] = .mk n t → L.has t ∧ t ∈ tl.map (·.1) := fun n t e => by
      have hm : Turn.mk n t ∈ S.row := by rw [← e]; exact List.getElem_mem hi
      exact ⟨h.sub t (.inr (.inr ⟨n, hm⟩)), hin n t hm⟩
    have hta : S.row.take (i + 1) = S.row.take i ++ [S.row[i]] := List.take_succ_eq_append_getElem hi
    generalize S.row[i] = c at *
    have m1 := m.quiet f1
    unfold ptr
    refine fa146_3 (s_ldb (v := thingV L.loc c) (Tryz.isAgg142 _) ha (by simpa using rturn_3 L.loc c) ?_)
    refine r_otherC h m1 (by omega) hmk ?_
    have hone : (thingV (locOf tl) c).cells = #[thingV (locOf tl) c] ∧ (thingV (locOf tl) c).oneCell' = true := by cases c <;> exact ⟨rfl, rfl⟩
    refine fa146_3 (s_st (Tryz.sizeOf142 _) hone.1 hone.2 ha (by simp [rturn_len]) ?_)
    have a2 := set_same ha 3 (thingV (locOf tl) c)
    rw [rturn_set] at a2
    have f2 : Fr (fun b => b = w.heap.size) w1 (w1.setCell ⟨w.heap.size, 0 + 3, none⟩ (thingV (locOf tl) c)) := Fr.setCell w1 ⟨w.heap.size, 3, none⟩ _
    have z2 : (w1.setCell ⟨w.heap.size, 0 + 3, none⟩ (thingV (locOf tl) c)).heap.size = w1.heap.size := by simp [World.setCell]
    replace a2 : (w1.setCell ⟨w.heap.size, 0 + 3, none⟩ (thingV (locOf tl) c)).heap[w.heap.size]? = some (.cells (rturn (locOf tl) c).toArray 146 (0, 0)) := a2
    generalize w1.setCell ⟨w.heap.size, 0 + 3, none⟩ (thingV (locOf tl) c) = w2 at *
    have f02 : Fr no w w2 := f1.trans f2 fun b hb => .inr (by omega)
    have m2 := m.quiet f02
    refine fa62_4 (s_ldb (v := tv) (Tryz.isAgg60 _) m2.xd rfl ?_)
    refine s_ldTurn (a := w.heap.size) a2 ?_
    refine px_ok (w' := w2.alloc (.cells (rturn (locOf tl) c).toArray 146)) (v := .slice (some ⟨w2.heap.size, 0, none⟩) 1 1) (by unfold turnArg; cases c <;> kernel_rfl) ?_
    have f3 := Fr.alloc no w2 (.cells (rturn (locOf tl) c).toArray 146)
    have ho3 := own_lit w2 0 146 4 (rturn (locOf tl) c).toArray 1 (Nat.zero_le _) (by unfold maxLen; omega) (by simp [rturn_len])
    have z3 : (w2.alloc (.cells (rturn (locOf tl) c).toArray 146)).heap.size = w2.heap.size + 1 := by simp
    generalize w2.alloc (.cells (rturn (locOf tl) c).toArray 146) = w3 at *
    have f03 : Fr no w w3 := f02.trans f3 fun b => .inl
    refine ap60 (own_fr hn f03 fun _ _ h => h) (Src.of_own ho3) (by simpa using rturn_one (locOf tl) c) (by omega) (by omega) fun v4 w4 h4 f4 hb4 => ?_
    have hnw : ∀ x, sblk tv = some x → w0.heap.size ≤ x ∧ x < w.heap.size ∧ x ≠ X := fun x hx => ⟨(own_blk_lt hn hx).1, (own_blk_lt hn hx).2, by
      rintro rfl
      obtain ⟨c2, hc2⟩ := own_obj hn hx
      exact absurd (two_types hc2 m.xd) (by decide)⟩
    have hXw := lt_of_get m.xd
    have f04 : Fr (fun x => sblk tv = some x) w w4 := (f03.mono fun b hb => hb.elim).trans f4 fun x hx => .inl hx.symm
    have x4 := f04.get m.xd fun hx => (hnw X hx).2.2 rfl
    have v4o := own_one h4
    refine fa62_4 (s_st (Tryz.sizeOf60 _) v4o.1 v4o.2 x4 (by show 4 < 11; decide) ?_)
    have x5 := set_same x4 4 v4
    have f5 : Fr (fun x => x = X) w4 (w4.setCell ⟨X, 4, none⟩ v4) := Fr.setCell w4 ⟨X, 4, none⟩ _
    have hv4X : ∀ x, sblk v4 = some x → x ≠ X := by
      intro x hx
      rcases hb4 with e | e
      · exact (hnw x (e ▸ hx)).2.2
      · rw [e] at hx; injection hx with hx; omega
    have f05 : Fr (fun x => x = X ∨ sblk tv = some x) w (w4.setCell ⟨X, 4, none⟩ v4) := (f04.mono fun x hx => .inl (.inr hx)).trans f5 fun x hx => .inl (.inl hx)
    refine s_add_in (by omega) (hnext hi _ _ v4 (m.step f05 (fun x hx => ?_) (fun x hx => hx.imp id fun e => .inr (own_obj hn e)) (by rw [show (w4.setCell ⟨X, 0 + 4, none⟩ v4) = w4.setCell ⟨X, 4, none⟩ v4 from rfl, x5]; rfl)) ?_ f05 e0 e3 e4 e5 rfl)
    · rcases hx with rfl | hx
      · exact m.lx
      · exact (hnw x hx).1
    · rw [hta, List.flatMap_append]
      exact own_fr (by simpa using h4) f5 hv4X
  · refine s_lt_f (by omega) (pC_false ?_)
    rw [F25_12_eq]
    suffices hs : ∀ ρ2 : Env, ρ2 3 = ptr X → F25_12 k ρ2 w from hs _ e3
    intro ρ2 a3
    unfold F25_12
    rw [a3]; exact hout hi
theorem r_tw1 {ov mv dv : Value} {tl : RTwins} {X i c : Nat} {cs : Array Value} {kN : Env → World → Prop} (h : RRep w0 D S O I L) (ok : S.Ok c) (m : RTw w0 w S L ov mv tl X cs dv) (hl : tl.length ≤ 1099511627775) {ρ : Env} (e0 : ρ 0 = ptr D) (e3 : ρ 3 = ptr X) (e4 : ρ 4 = ov) (e5 : ρ 5 = mv) (eI : ρ 6 = i64 i)
    (hout : ¬ i < S.shown.length → ∀ ρ', ρ' 0 = ptr D → ρ' 3 = ptr X → ρ' 4 = ov → ρ' 5 = mv → F25_2 k ρ' w)
    (hnext : ∀ (hi : i < S.shown.length), ∀ ρ' w' ov' mv' ext, RTw w0 w' S L ov' mv' (tl ++ ext) X cs dv → S.shown[i].2 ∈ (tl ++ ext).map (·.1) → ext.length ≤ 1 → ρ' 0 = ptr D → ρ' 3 = ptr X → ρ' 4 = ov' → ρ' 5 = mv' → ρ' 6 = i64 (i + 1) → kN ρ' w') : F25_1 k kN ρ w := by
  have hsm := ok.small
  have hlen := ok.turns.len
  unfold F25_1
  rw [e0, eI, e4, e5]
  have h' := h.fr m.fr fun b hb => hb.elim
  refine s_nil (fa62_2 (s_ldb (v := L.nowv) (Tryz.isAgg59 _) h'.disk rfl (s_lenS usl59 h'.now.1 ?_)))
  by_cases hi : i < S.shown.length
  · have hre : reach S S.shown[i].2 := .inl ⟨S.shown[i].1, List.getElem_mem hi⟩
    refine s_lt_t (by omega) (pC_true (s_nil (fa62_2 (s_ldb (v := L.nowv) (Tryz.isAgg59 _) h'.disk rfl (nm_thing h'.now.1 hi fun p q => ?_)))))
    refine r_tw h m (h.sub _ hre) (ok.thing _ hre) hsm (by omega) fun w' ov' mv' ext m' hin he => ?_
    refine s_ext rfl (s_ext rfl (s_add_in (by omega) (hnext hi _ w' ov' mv' ext m' hin he e0 e3 rfl rfl rfl)))
  · refine s_lt_f (by omega) (pC_false ?_)
    rw [F25_2_eq]
    exact hout hi _ e0 e3 e4 e5
theorem r_tw2 {ov mv dv : Value} {tl : RTwins} {X i c : Nat} {cs : Array Value} {kN : Env → World → Prop} (h : RRep w0 D S O I L) (ok : S.Ok c) (m : RTw w0 w S L ov mv tl X cs dv) (hl : tl.length ≤ 1099511627775) {ρ : Env} (e0 : ρ 0 = ptr D) (e3 : ρ 3 = ptr X) (e4 : ρ 4 = ov) (e5 : ρ 5 = mv) (eI : ρ 7 = i64 i)
    (hout : ¬ i < S.safe.length → ∀ ρ', ρ' 0 = ptr D → ρ' 3 = ptr X → ρ' 4 = ov → ρ' 5 = mv → F25_4 k ρ' w)
    (hnext : ∀ (hi : i < S.safe.length), ∀ ρ' w' ov' mv' ext, RTw w0 w' S L ov' mv' (tl ++ ext) X cs dv → S.safe[i].2 ∈ (tl ++ ext).map (·.1) → ext.length ≤ 1 → ρ' 0 = ptr D → ρ' 3 = ptr X → ρ' 4 = ov' → ρ' 5 = mv' → ρ' 7 = i64 (i + 1) → kN ρ' w') : F25_3 k kN ρ w := by
  have hsm := ok.small
  have hlen := ok.turns.len
  unfold F25_3
  rw [e0, eI, e4, e5]
  have h' := h.fr m.fr fun b hb => hb.elim
  refine s_nil (fa62_3 (s_ldb (v := L.befv) (Tryz.isAgg59 _) h'.disk rfl (s_lenS usl59 h'.bef.1 ?_)))
  by_cases hi : i < S.safe.length
  · have hre : reach S S.safe[i].2 := .inr <| .inl ⟨S.safe[i].1, List.getElem_mem hi⟩
    refine s_lt_t (by omega) (pC_true (s_nil (fa62_3 (s_ldb (v := L.befv) (Tryz.isAgg59 _) h'.disk rfl (nm_thing h'.bef.1 hi fun p q => ?_)))))
    refine r_tw h m (h.sub _ hre) (ok.thing _ hre) hsm (by omega) fun w' ov' mv' ext m' hin he => ?_
    refine s_ext rfl (s_ext rfl (s_add_in (by omega) (hnext hi _ w' ov' mv' ext m' hin he e0 e3 rfl rfl rfl)))
  · refine s_lt_f (by omega) (pC_false ?_)
    rw [F25_4_eq]
    exact hout hi _ e0 e3 e4 e5
theorem r_tw3 {ov mv dv : Value} {tl : RTwins} {X i c : Nat} {cs : Array Value} {kN : Env → World → Prop} (h : RRep w0 D S O I L) (ok : S.Ok c) (m : RTw w0 w S L ov mv tl X cs dv) (hl : tl.length ≤ 1099511627775) {ρ : Env} (e0 : ρ 0 = ptr D) (e3 : ρ 3 = ptr X) (e4 : ρ 4 = ov) (e5 : ρ 5 = mv) (eI : ρ 8 = i64 i)
    (hout : ¬ i < S.row.length → ∀ ρ', ρ' 0 = ptr D → ρ' 3 = ptr X → ρ' 4 = ov → ρ' 5 = mv → F25_6 k ρ' w)
    (hnext : ∀ (hi : i < S.row.length), ∀ ρ' w' ov' mv' ext, RTw w0 w' S L ov' mv' (tl ++ ext) X cs dv → (∀ n t, S.row[i] = .mk n t → t ∈ (tl ++ ext).map (·.1)) → ext.length ≤ 1 → ρ' 0 = ptr D → ρ' 3 = ptr X → ρ' 4 = ov' → ρ' 5 = mv' → ρ' 8 = i64 (i + 1) → kN ρ' w') : F25_5 k kN ρ w := by
  have hsm := ok.small
  have hrow := ok.row
  unfold F25_5
  rw [e0, eI, e4, e5]
  have h' := h.fr m.fr fun b hb => hb.elim
  refine s_nil (fa62_4 (s_ldb (v := L.turnv) (Tryz.isAgg60 _) h'.disk rfl (s_lenS usl60 (Src.of_own h'.turns) ?_)))
  by_cases hi : i < S.row.length
  · refine s_lt_t (by omega) (pC_true (s_nil (fa62_4 (s_ldb (v := L.turnv) (Tryz.isAgg60 _) h'.disk rfl ?_))))
    obtain ⟨b, o, cc, ev, hp⟩ := Src.place (size := 4) (Src.of_own h'.turns) hi (by omega)
    have hc3 : w.cell? ⟨b, o + i * 4 + 3, none⟩ = some (thingV L.loc S.row[i]) := hp 3 _ (by omega) (by rw [flatAt (f := rturn L.loc) (rturn_len L.loc) (List.getElem?_eq_getElem hi) (by omega)]; exact rturn_3 _ _)
    rw [ev]
    refine s_ix (i := (i : Int)) usl60 (sze60 _) (by omega) (by omega) (fa146_3 (s_ld (v := thingV L.loc S.row[i]) (Tryz.isAgg142 _) (by simpa using hc3) ?_))
    have next := hnext hi
    have hmem := List.getElem_mem hi
    generalize S.row[i] = cn at *
    cases cn with
    | mk n t =>
      have hre : reach S t := .inr (.inr ⟨n, hmem⟩)
      refine r_tw h m (h.sub _ hre) (ok.thing _ hre) hsm (by omega) fun w' ov' mv' ext m' hin he => ?_
      exact s_ext rfl (s_ext rfl (s_add_in (by omega) (next _ w' ov' mv' ext m' (fun n' t' e => by injection e with e1 e2; subst e2; exact hin) he e0 e3 rfl rfl rfl)))
    | give a' b' => exact r_twinNil (s_ext rfl (s_ext rfl (s_add_in (by omega) (next _ w ov mv [] (by rw [List.append_nil]; exact m) (fun n' t' e => by cases e) (Nat.zero_le _) e0 e3 rfl rfl rfl))))
    | take n' => exact r_twinNil (s_ext rfl (s_ext rfl (s_add_in (by omega) (next _ w ov mv [] (by rw [List.append_nil]; exact m) (fun n' t' e => by cases e) (Nat.zero_le _) e0 e3 rfl rfl rfl))))
  · refine s_lt_f (by omega) (pC_false ?_)
    rw [F25_6_eq]
    exact hout hi _ e0 e3 e4 e5
theorem RTw.disk {ov mv dv nv bv tv : Value} {tl : RTwins} {X : Nat} (h : RRep w0 D S O I L) (m : RTw w0 w S L ov mv tl X #[.bool (!S.off), i64 S.room, nv, bv, tv, i64 S.strokes, i64 S.since, i64 S.plan.off, i64 S.plan.from_, i64 S.plan.to_, dv] dv)
    (hin : ∀ t, reach S t → t ∈ tl.map (·.1)) (h1 : w.ownsRow w0.heap.size 144 2 nv S.shown.length (nmCells (locOf tl) S.shown)) (h2 : w.ownsRow w0.heap.size 144 2 bv S.safe.length (nmCells (locOf tl) S.safe)) (h3 : w.ownsRow w0.heap.size 146 4 tv S.row.length (S.row.flatMap (rturn (locOf tl)))) :
    RRep w X S (fun b => w0.heap.size ≤ b ∧ b < w.heap.size ∧ ∃ c T, w.heap[b]? = some (.cells c T (0, 0)) ∧ (T = 62 ∨ T = 156 ∨ T = 186 ∨ T = 146 ∨ T = 134)) (fun b => w0.heap.size ≤ b ∧ b < w.heap.size ∧ ∃ c T, w.heap[b]? = some (.cells c T (0, 0)) ∧ (T = 144 ∨ T = 5))
      ⟨fun t => t ∈ tl.map (·.1), locOf tl, rowOf tl, nv, bv, tv, dv⟩ := by
  have rowO : ∀ {e : TypeId} {size n : Nat} {v : Value} {xs : List Value}, w.ownsRow w0.heap.size e size v n xs → ∀ b, sblk v = some b → w0.heap.size ≤ b ∧ b < w.heap.size ∧ ∃ c, w.heap[b]? = some (.cells c e (0, 0)) := fun hr b hb =>
    ⟨(own_blk_lt hr hb).1, (own_blk_lt hr hb).2, own_obj hr hb⟩
  have sb : ∀ {v : Value} {bs : Bytes}, NewB w0 w v bs → SB w (fun b => w0.heap.size ≤ b ∧ b < w.heap.size ∧ ∃ c T, w.heap[b]? = some (.cells c T (0, 0)) ∧ (T = 144 ∨ T = 5)) v bs := fun hn => ⟨hn.sb, fun b hb => by
    obtain ⟨a1, a2, c, hc⟩ := rowO hn b hb
    exact ⟨a1, a2, c, _, hc, .inr rfl⟩⟩
  have mem : ∀ t, t ∈ tl.map (·.1) → ∃ p ∈ tl, p.1 = t ∧ locOf tl t = p.2.1 ∧ rowOf tl t = p.2.2 := by
    intro t ht
    obtain ⟨p, hp, rfl⟩ := List.mem_map.1 ht
    exact ⟨p, hp, rfl, locOf_mem m.nd hp⟩
  have pw : ∀ p ∈ tl, ∀ q ∈ tl, p.1 ≠ q.1 → p.2.1 ≠ q.2.1 ∧ ∀ b, sblk p.2.2 = some b → sblk q.2.2 ≠ some b := by
    intro p hp q hq hne
    obtain ⟨i, hi, rfl⟩ := List.getElem_of_mem hp
    obtain ⟨j, hj, rfl⟩ := List.getElem_of_mem hq
    rcases Nat.lt_trichotomy i j with hlt | heq | hgt
    · exact List.pairwise_iff_getElem.1 m.apart i j hi hj hlt
    · subst heq; exact absurd rfl hne
    · have := List.pairwise_iff_getElem.1 m.apart j i hj hi hgt
      exact ⟨fun e => this.1 e.symm, fun b hb hb' => this.2 b hb' hb⟩
  refine ⟨m.xd, ⟨Src.of_own h1, fun b hb => ?_⟩, ⟨Src.of_own h2, fun b hb => ?_⟩, own_less h3 (Nat.zero_le _), own_less m.told (Nat.zero_le _), hin, fun t ht => ?_, fun t ht => ?_, fun t u ht hu e => ?_, fun t u ht hu hne => ?_, ⟨m.lx, lt_of_get m.xd, _, _, m.xd, .inl rfl⟩, fun b hb => ?_, fun b hb => ?_, fun b hb hb' => ?_, fun b hb => hb.elim (fun h => h.2.1) fun h => h.2.1⟩
  · obtain ⟨a1, a2, c, hc⟩ := rowO h1 b hb; exact ⟨a1, a2, c, _, hc, .inl rfl⟩
  · obtain ⟨a1, a2, c, hc⟩ := rowO h2 b hb; exact ⟨a1, a2, c, _, hc, .inl rfl⟩
  · obtain ⟨p, hp, rfl, _⟩ := mem t ht
    exact h.below _ (m.has p hp)
  · obtain ⟨p, hp, rfl, e1, e2⟩ := mem t ht
    show RTRep w _ _ (locOf tl p.1) (rowOf tl p.1) _
    rw [e1, e2]
    obtain ⟨⟨sv, hv, ps, g1, g2, g3, g4, g5, g6⟩, g7⟩ := m.things p hp
    refine ⟨⟨sv, hv, ps, g1, sb g2, sb g3, own_less g4 (Nat.zero_le _), g5, fun q hq => ?_⟩, ⟨g7, lt_of_get g1, _, _, g1, .inr (.inl rfl)⟩, fun b hb => ?_⟩
    · have := g6 q hq
      obtain ⟨cq, sq⟩ := q
      cases cq with
      | wr a d => exact sb (v := sq) this
      | cut n => exact sb (v := sq) this
    · obtain ⟨a1, a2, c, hc⟩ := rowO g4 b hb; exact ⟨a1, a2, c, _, hc, .inr (.inr (.inl rfl))⟩
  · obtain ⟨p, hp, rfl, e1, e2⟩ := mem t ht
    obtain ⟨q, hq, rfl, e3, e4⟩ := mem u hu
    by_cases hne : p.1 = q.1
    · exact hne
    · have e' : locOf tl p.1 = locOf tl q.1 := e
      rw [e1, e3] at e'
      exact absurd e' (pw p hp q hq hne).1
  · obtain ⟨p, hp, rfl, e1, e2⟩ := mem t ht
    obtain ⟨q, hq, rfl, e3, e4⟩ := mem u hu
    show ∀ b, sblk (rowOf tl p.1) = some b → sblk (rowOf tl q.1) ≠ some b
    rw [e2, e4]
    exact (pw p hp q hq hne).2
  · obtain ⟨a1, a2, c, hc⟩ := rowO h3 b hb; exact ⟨a1, a2, c, _, hc, .inr (.inr (.inr (.inl rfl)))⟩
  · obtain ⟨a1, a2, c, hc⟩ := rowO m.told b hb; exact ⟨a1, a2, c, _, hc, .inr (.inr (.inr (.inr rfl)))⟩
  · obtain ⟨_, _, c1, T1, q1, q2⟩ := hb
    obtain ⟨_, _, c2, T2, q3, q4⟩ := hb'
    have := two_types q1 q3
    subst this
    revert q2 q4
    rintro (rfl | rfl | rfl | rfl | rfl) <;> decide
end
end Go.Proofs.YtcdcojpfealppaaGreat

set_option linter.unusedVariables false
set_option linter.unusedSimpArgs false
set_option maxRecDepth 100000
namespace Go.Proofs.YtcdcojpfealppaaGreat
open Go Go.Proofs Go.RowKit Go.Proofs.XRed Go.Proofs.XHeap Go.Proofs.XMaps Go.Proofs.XSlices Go.Proofs.XDisk Go.Proofs.XCalls Go.Proofs.XPtr Go.Proofs.XSep
section
variable {w w0 : World} {D : Nat} {S S' : AD} {O I : Nat → Prop} {L L' : RLay} {k : Value → World → Prop}
abbrev xcs (S : AD) (nv bv tv dv : Value) : Array Value := #[.bool (!S.off), i64 S.room, nv, bv, tv, i64 S.strokes, i64 S.since, i64 S.plan.off, i64 S.plan.from_, i64 S.plan.to_, dv]
abbrev twEnd (w0 : World) (S : AD) (k : Value → World → Prop) : Prop := ∀ w' X O' I' L', RRep w' X S O' I' L' → (∀ b, O' b ∨ I' b → w0.heap.size ≤ b) → Fr no w0 w' → k (ptr X) w'
theorem tw_p6 {ov mv dv nv bv : Value} {tl : RTwins} {X c : Nat} (hk : twEnd w0 S k) (h : RRep w0 D S O I L) (ok : S.Ok c) (m : RTw w0 w S L ov mv tl X (xcs S nv bv (.slice none 0 0) dv) dv) (hin : ∀ t, reach S t → t ∈ tl.map (·.1)) (hl : tl.length ≤ 1099511627776)
    (h1 : w.ownsRow w0.heap.size 144 2 nv S.shown.length (nmCells (locOf tl) S.shown)) (h2 : w.ownsRow w0.heap.size 144 2 bv S.safe.length (nmCells (locOf tl) S.safe)) {ρ : Env} (e0 : ρ 0 = ptr D) (e3 : ρ 3 = ptr X) (e4 : ρ 4 = ov) (e5 : ρ 5 = mv) (e : ρ 11 = i64 0) : F25L6 k ρ w := by
  have hrow := ok.row
  have hsm := ok.small
  refine F25L6_inv (m := S.row.length) k (fun m' ρ w => ∃ (i : Nat) (tv : Value), i + m' = S.row.length ∧ RTw w0 w S L ov mv tl X (xcs S nv bv tv dv) dv ∧ w.ownsRow w0.heap.size 144 2 nv S.shown.length (nmCells (locOf tl) S.shown) ∧ w.ownsRow w0.heap.size 144 2 bv S.safe.length (nmCells (locOf tl) S.safe) ∧
      w.ownsRow w0.heap.size 146 4 tv i ((S.row.take i).flatMap (rturn (locOf tl))) ∧ ρ 0 = ptr D ∧ ρ 3 = ptr X ∧ ρ 4 = ov ∧ ρ 5 = mv ∧ ρ 11 = i64 i) ?_ ⟨0, _, by omega, m, h1, h2, ⟨rfl, .inl ⟨rfl, rfl⟩⟩, e0, e3, e4, e5, e⟩
  rintro m' ρ w ⟨i, tv, him, m, h1, h2, h3, e0, e3, e4, e5, e⟩
  rw [F25_11_eq]
  refine r_tw6 h m (fun n t ht => hin t (.inr (.inr ⟨n, ht⟩))) hl (by omega) h3 e0 e3 e4 e5 e (fun hi => ?_) fun hi ρ' w' tv' m2 h3' f2 a0 a3 a4 a5 aI => ?_
  · rw [List.take_of_length_le (by omega)] at h3
    have hi' : i = S.row.length := by omega
    rw [hi'] at h3
    exact hk w X _ _ _ (m.disk h hin h1 h2 h3) (fun b hb => hb.elim (fun h => h.1) fun h => h.1) m.fr
  · have ne : ∀ {v : Value} {n : Nat} {xs : List Value}, w.ownsRow w0.heap.size 144 2 v n xs → ∀ b, sblk v = some b → ¬ (b = X ∨ sblk tv = some b) := by
      rintro v n xs hr b hb (rfl | e)
      · obtain ⟨c1, q1⟩ := own_obj hr hb; exact absurd (two_types q1 m.xd) (by decide)
      · obtain ⟨c1, q1⟩ := own_obj hr hb
        obtain ⟨c2, q2⟩ := own_obj h3 e
        exact absurd (two_types q1 q2) (by decide)
    exact ⟨m' - 1, by omega, i + 1, tv', by omega, m2, own_fr h1 f2 (ne h1), own_fr h2 f2 (ne h2), h3', a0, a3, a4, a5, by simpa using aI⟩
theorem tw_p5 {ov mv dv nv : Value} {tl : RTwins} {X c : Nat} (hk : twEnd w0 S k) (h : RRep w0 D S O I L) (ok : S.Ok c) (m : RTw w0 w S L ov mv tl X (xcs S nv (.slice none 0 0) (.slice none 0 0) dv) dv) (hin : ∀ t, reach S t → t ∈ tl.map (·.1)) (hl : tl.length ≤ 1099511627776)
    (h1 : w.ownsRow w0.heap.size 144 2 nv S.shown.length (nmCells (locOf tl) S.shown)) {ρ : Env} (e0 : ρ 0 = ptr D) (e3 : ρ 3 = ptr X) (e4 : ρ 4 = ov) (e5 : ρ 5 = mv) (e : ρ 10 = i64 0) : F25L5 k ρ w := by
  have hlen := ok.turns.len
  refine F25L5_inv (m := S.safe.length) k (fun m' ρ w => ∃ (i : Nat) (bv : Value), i + m' = S.safe.length ∧ RTw w0 w S L ov mv tl X (xcs S nv bv (.slice none 0 0) dv) dv ∧ w.ownsRow w0.heap.size 144 2 nv S.shown.length (nmCells (locOf tl) S.shown) ∧ (∀ b, sblk nv = some b → sblk bv ≠ some b) ∧
      w.ownsRow w0.heap.size 144 2 bv i (nmCells (locOf tl) (S.safe.take i)) ∧ ρ 0 = ptr D ∧ ρ 3 = ptr X ∧ ρ 4 = ov ∧ ρ 5 = mv ∧ ρ 10 = i64 i) ?_ ⟨0, _, by omega, m, h1, (by rintro b _ hb; cases hb), ⟨rfl, .inl ⟨rfl, rfl⟩⟩, e0, e3, e4, e5, e⟩
  rintro m' ρ w ⟨i, bv, him, m, h1, hne, h2, e0, e3, e4, e5, e⟩
  rw [F25_9_eq]
  refine r_tw5 (nv := bv) (bv := nv) h m (fun p hp => hin p.2 (.inr (.inl ⟨p.1, hp⟩))) hl (by omega) h2 e0 e3 e4 e5 e (fun hi ρ' a0 a3 a4 a5 => ?_) fun hi ρ' w' bv' m2 h2' f2 hb2 a0 a3 a4 a5 aI => ?_
  · unfold F25_10
    rw [List.take_of_length_le (by omega)] at h2
    have hi' : i = S.safe.length := by omega
    rw [hi'] at h2
    exact tw_p6 hk h ok m hin hl h1 h2 a0 a3 a4 a5 rfl
  · have hnv : ∀ b, sblk nv = some b → b < w.heap.size := fun b hb => (own_blk_lt h1 hb).2
    refine ⟨m' - 1, by omega, i + 1, bv', by omega, m2, own_fr h1 f2 ?_, fun b hb e' => ?_, h2', a0, a3, a4, a5, by simpa using aI⟩
    · rintro b hb (rfl | e)
      · obtain ⟨c1, q1⟩ := own_obj h1 hb; exact absurd (two_types q1 m.xd) (by decide)
      · exact hne b hb e
    · rcases hb2 b e' with h | h
      · exact hne b hb h
      · have := hnv b hb; omega
theorem tw_p4 {ov mv dv : Value} {tl : RTwins} {X c : Nat} (hk : twEnd w0 S k) (h : RRep w0 D S O I L) (ok : S.Ok c) (m : RTw w0 w S L ov mv tl X (xcs S (.slice none 0 0) (.slice none 0 0) (.slice none 0 0) dv) dv) (hin : ∀ t, reach S t → t ∈ tl.map (·.1)) (hl : tl.length ≤ 1099511627776)
    {ρ : Env} (e0 : ρ 0 = ptr D) (e3 : ρ 3 = ptr X) (e4 : ρ 4 = ov) (e5 : ρ 5 = mv) (e : ρ 9 = i64 0) : F25L4 k ρ w := by
  have hlen := ok.turns.len
  refine F25L4_inv (m := S.shown.length) k (fun m' ρ w => ∃ (i : Nat) (nv : Value), i + m' = S.shown.length ∧ RTw w0 w S L ov mv tl X (xcs S nv (.slice none 0 0) (.slice none 0 0) dv) dv ∧
      w.ownsRow w0.heap.size 144 2 nv i (nmCells (locOf tl) (S.shown.take i)) ∧ ρ 0 = ptr D ∧ ρ 3 = ptr X ∧ ρ 4 = ov ∧ ρ 5 = mv ∧ ρ 9 = i64 i) ?_ ⟨0, _, by omega, m, ⟨rfl, .inl ⟨rfl, rfl⟩⟩, e0, e3, e4, e5, e⟩
  rintro m' ρ w ⟨i, nv, him, m, h1, e0, e3, e4, e5, e⟩
  rw [F25_7_eq]
  refine r_tw4 h m (fun p hp => hin p.2 (.inl ⟨p.1, hp⟩)) hl (by omega) h1 e0 e3 e4 e5 e (fun hi ρ' a0 a3 a4 a5 => ?_) fun hi ρ' w' nv' m2 h1' f2 hb2 a0 a3 a4 a5 aI => ?_
  · unfold F25_8
    rw [List.take_of_length_le (by omega)] at h1
    have hi' : i = S.shown.length := by omega
    rw [hi'] at h1
    exact tw_p5 hk h ok m hin hl h1 a0 a3 a4 a5 rfl
  · exact ⟨m' - 1, by omega, i + 1, nv', by omega, m2, h1', a0, a3, a4, a5, by simpa using aI⟩
theorem mem_ext {tl ext : RTwins} {t : Nat} (h : t ∈ tl.map (·.1)) : t ∈ (tl ++ ext).map (·.1) := by rw [List.map_append]; exact List.mem_append_left _ h
theorem tw_p3 {ov mv dv : Value} {tl : RTwins} {X c : Nat} (hk : twEnd w0 S k) (h : RRep w0 D S O I L) (ok : S.Ok c) (hc : c ≤ 1073741824) (m : RTw w0 w S L ov mv tl X (xcs S (.slice none 0 0) (.slice none 0 0) (.slice none 0 0) dv) dv) (hin1 : ∀ p ∈ S.shown, p.2 ∈ tl.map (·.1)) (hin2 : ∀ p ∈ S.safe, p.2 ∈ tl.map (·.1)) (hl : tl.length ≤ 1000)
    {ρ : Env} (e0 : ρ 0 = ptr D) (e3 : ρ 3 = ptr X) (e4 : ρ 4 = ov) (e5 : ρ 5 = mv) (e : ρ 8 = i64 0) : F25L3 k ρ w := by
  have hrow := ok.row
  refine F25L3_inv (m := S.row.length) k (fun m' ρ w => ∃ (i : Nat) (tl : RTwins) (ov mv : Value), i + m' = S.row.length ∧ RTw w0 w S L ov mv tl X (xcs S (.slice none 0 0) (.slice none 0 0) (.slice none 0 0) dv) dv ∧ (∀ p ∈ S.shown, p.2 ∈ tl.map (·.1)) ∧ (∀ p ∈ S.safe, p.2 ∈ tl.map (·.1)) ∧ (∀ n t, Turn.mk n t ∈ S.row.take i → t ∈ tl.map (·.1)) ∧ tl.length ≤ 1000 + i ∧
      ρ 0 = ptr D ∧ ρ 3 = ptr X ∧ ρ 4 = ov ∧ ρ 5 = mv ∧ ρ 8 = i64 i) ?_ ⟨0, tl, ov, mv, by omega, m, hin1, hin2, (fun n t ht => by simp at ht), by omega, e0, e3, e4, e5, e⟩
  rintro m' ρ w ⟨i, tl, ov, mv, him, m, hin1, hin2, hin3, hl, e0, e3, e4, e5, e⟩
  rw [F25_5_eq]
  refine r_tw3 h ok m (by omega) e0 e3 e4 e5 e (fun hi ρ' a0 a3 a4 a5 => ?_) fun hi ρ' w' ov' mv' ext m2 hin he a0 a3 a4 a5 aI => ?_
  · unfold F25_6
    rw [List.take_of_length_le (by omega)] at hin3
    refine tw_p4 hk h ok m (fun t ht => ?_) (by omega) a0 a3 a4 a5 rfl
    rcases ht with ⟨n, ht⟩ | ⟨n, ht⟩ | ⟨n, ht⟩
    · exact hin1 _ ht
    · exact hin2 _ ht
    · exact hin3 n t ht
  · refine ⟨m' - 1, by omega, i + 1, tl ++ ext, ov', mv', by omega, m2, fun p hp => mem_ext (hin1 p hp), fun p hp => mem_ext (hin2 p hp), fun n t ht => ?_, by rw [List.length_append]; omega, a0, a3, a4, a5, by simpa using aI⟩
    rw [List.take_succ_eq_append_getElem hi] at ht
    rcases List.mem_append.1 ht with ht | ht
    · exact mem_ext (hin3 n t ht)
    · rw [List.mem_singleton] at ht; exact hin n t ht.symm
theorem tw_p2 {ov mv dv : Value} {tl : RTwins} {X c : Nat} (hk : twEnd w0 S k) (h : RRep w0 D S O I L) (ok : S.Ok c) (hc : c ≤ 1073741824) (m : RTw w0 w S L ov mv tl X (xcs S (.slice none 0 0) (.slice none 0 0) (.slice none 0 0) dv) dv) (hin1 : ∀ p ∈ S.shown, p.2 ∈ tl.map (·.1)) (hl : tl.length ≤ 500)
    {ρ : Env} (e0 : ρ 0 = ptr D) (e3 : ρ 3 = ptr X) (e4 : ρ 4 = ov) (e5 : ρ 5 = mv) (e : ρ 7 = i64 0) : F25L2 k ρ w := by
  have hlen := ok.turns.len
  refine F25L2_inv (m := S.safe.length) k (fun m' ρ w => ∃ (i : Nat) (tl : RTwins) (ov mv : Value), i + m' = S.safe.length ∧ RTw w0 w S L ov mv tl X (xcs S (.slice none 0 0) (.slice none 0 0) (.slice none 0 0) dv) dv ∧ (∀ p ∈ S.shown, p.2 ∈ tl.map (·.1)) ∧ (∀ p ∈ S.safe.take i, p.2 ∈ tl.map (·.1)) ∧ tl.length ≤ 500 + i ∧
      ρ 0 = ptr D ∧ ρ 3 = ptr X ∧ ρ 4 = ov ∧ ρ 5 = mv ∧ ρ 7 = i64 i) ?_ ⟨0, tl, ov, mv, by omega, m, hin1, (fun p hp => by simp at hp), by omega, e0, e3, e4, e5, e⟩
  rintro m' ρ w ⟨i, tl, ov, mv, him, m, hin1, hin2, hl, e0, e3, e4, e5, e⟩
  rw [F25_3_eq]
  refine r_tw2 h ok m (by omega) e0 e3 e4 e5 e (fun hi ρ' a0 a3 a4 a5 => ?_) fun hi ρ' w' ov' mv' ext m2 hin he a0 a3 a4 a5 aI => ?_
  · unfold F25_4
    rw [List.take_of_length_le (by omega)] at hin2
    exact tw_p3 hk h ok hc m hin1 hin2 (by omega) a0 a3 a4 a5 rfl
  · refine ⟨m' - 1, by omega, i + 1, tl ++ ext, ov', mv', by omega, m2, fun p hp => mem_ext (hin1 p hp), fun p hp => ?_, by rw [List.length_append]; omega, a0, a3, a4, a5, by simpa using aI⟩
    rw [List.take_succ_eq_append_getElem hi] at hp
    rcases List.mem_append.1 hp with hp | hp
    · exact mem_ext (hin2 p hp)
    · rw [List.mem_singleton] at hp; subst hp; exact hin
theorem tw_p1 {ov mv dv : Value} {X c : Nat} (hk : twEnd w0 S k) (h : RRep w0 D S O I L) (ok : S.Ok c) (hc : c ≤ 1073741824) (m : RTw w0 w S L ov mv [] X (xcs S (.slice none 0 0) (.slice none 0 0) (.slice none 0 0) dv) dv)
    {ρ : Env} (e0 : ρ 0 = ptr D) (e3 : ρ 3 = ptr X) (e4 : ρ 4 = ov) (e5 : ρ 5 = mv) (e : ρ 6 = i64 0) : F25L1 k ρ w := by
  have hlen := ok.turns.len
  refine F25L1_inv (m := S.shown.length) k (fun m' ρ w => ∃ (i : Nat) (tl : RTwins) (ov mv : Value), i + m' = S.shown.length ∧ RTw w0 w S L ov mv tl X (xcs S (.slice none 0 0) (.slice none 0 0) (.slice none 0 0) dv) dv ∧ (∀ p ∈ S.shown.take i, p.2 ∈ tl.map (·.1)) ∧ tl.length ≤ i ∧
      ρ 0 = ptr D ∧ ρ 3 = ptr X ∧ ρ 4 = ov ∧ ρ 5 = mv ∧ ρ 6 = i64 i) ?_ ⟨0, [], ov, mv, by omega, m, (fun p hp => by simp at hp), Nat.le_refl _, e0, e3, e4, e5, e⟩
  rintro m' ρ w ⟨i, tl, ov, mv, him, m, hin1, hl, e0, e3, e4, e5, e⟩
  rw [F25_1_eq]
  refine r_tw1 h ok m (by omega) e0 e3 e4 e5 e (fun hi ρ' a0 a3 a4 a5 => ?_) fun hi ρ' w' ov' mv' ext m2 hin he a0 a3 a4 a5 aI => ?_
  · unfold F25_2
    rw [List.take_of_length_le (by omega)] at hin1
    exact tw_p2 hk h ok hc m hin1 (by omega) a0 a3 a4 a5 rfl
  · refine ⟨m' - 1, by omega, i + 1, tl ++ ext, ov', mv', by omega, m2, fun p hp => ?_, by rw [List.length_append]; omega, a0, a3, a4, a5, by simpa using aI⟩
    rw [List.take_succ_eq_append_getElem hi] at hp
    rcases List.mem_append.1 hp with hp | hp
    · exact mem_ext (hin1 p hp)
    · rw [List.mem_singleton] at hp; subst hp; exact hin
set_option maxHeartbeats 1000000 in
theorem r_twin {c : Nat} (h : RRep w D S O I L) (ok : S.Ok c) (hc : c ≤ 1073741824) (hk : twEnd w S k) : pFn P 25 [ptr D] w k := by
  have hroom := ok.room
  have hreads := ok.reads
  refine F25_in _ _ _ ?_
  unfold F25_0
  show px P (binSem BinOp.eql 30 _ _ (ptr D) (.pointer none)) w _
  refine s_eqpn upt30 (pG_yes rfl (pG_yes rfl (s_nil (pG_yes rfl (fa62_1 (pG_yes rfl (s_ldb (v := i64 S.room) (Tryz.isAgg3 _) h.disk rfl (pG_yes rfl (s_eqi_f (by omega) (s_pick_f (pC_false ?_)))))))))))
  refine s_nil (s_ldAgg (m := 11) (Tryz.isAgg62 _) (Tryz.sizeOf62 _) h.disk (by show 0 + 11 ≤ 11; decide) ?_)
  refine s_alloc (Tryz.zeroValue62 _) ?_
  have b1 := alloc_new w (.cells #[.bool false, i64 0, .slice none 0 0, .slice none 0 0, .slice none 0 0, i64 0, i64 0, i64 0, i64 0, i64 0, .slice none 0 0] 62)
  have f1 := Fr.alloc no w (.cells #[.bool false, i64 0, .slice none 0 0, .slice none 0 0, .slice none 0 0, i64 0, i64 0, i64 0, i64 0, i64 0, .slice none 0 0] 62)
  have z1 : (w.alloc (.cells #[.bool false, i64 0, .slice none 0 0, .slice none 0 0, .slice none 0 0, i64 0, i64 0, i64 0, i64 0, i64 0, .slice none 0 0] 62)).heap.size = w.heap.size + 1 := by simp
  show pu P _ (w.alloc (.cells #[.bool false, i64 0, .slice none 0 0, .slice none 0 0, .slice none 0 0, i64 0, i64 0, i64 0, i64 0, i64 0, .slice none 0 0] 62)) _
  generalize w.alloc (.cells #[.bool false, i64 0, .slice none 0 0, .slice none 0 0, .slice none 0 0, i64 0, i64 0, i64 0, i64 0, i64 0, .slice none 0 0] 62) = w1 at *
  have hnv : ∃ A c', L.nowv = .slice A S.shown.length c' := by obtain ⟨A, c', e, _⟩ := h.now.1; exact ⟨A, c', e⟩
  have hbv : ∃ A c', L.befv = .slice A S.safe.length c' := by obtain ⟨A, c', e, _⟩ := h.bef.1; exact ⟨A, c', e⟩
  have ht1 := (own_one h.turns).2
  have ht2 := (own_one h.told).2
  obtain ⟨A1, c1, ev1⟩ := hnv
  obtain ⟨A2, c2, ev2⟩ := hbv
  refine s_stN (n := 11) (vs := (rcells S L).toList) (Tryz.sizeOf62 _) rfl (by
    intro v hv
    simp [rcells, ev1, ev2] at hv
    rcases hv with rfl | rfl | rfl | rfl | rfl | rfl | rfl | rfl | rfl | rfl | rfl <;> first | rfl | exact ht1 | exact ht2) b1 (by show 0 + 11 ≤ 11; decide) fun w2 b2 f2 z2 => ?_
  replace b2 : w2.heap[w.heap.size]? = some (.cells (rcells S L) 62 (0, 0)) := by rw [b2]; rfl
  have f02 : Fr no w w2 := f1.trans f2 fun b hb => .inr (by omega)
  refine fa62_2 (s_st (Tryz.sizeOf59 _) rfl rfl b2 (by show 2 < 11; decide) ?_)
  have b3 := set_same b2 2 (.slice none 0 0)
  have f3 : Fr no w (w2.setCell ⟨w.heap.size, 2, none⟩ (.slice none 0 0)) := f02.trans (Fr.setCell w2 ⟨w.heap.size, 2, none⟩ _) fun b hb => .inr (by have hb' : b = w.heap.size := hb; omega)
  have z3 : (w2.setCell ⟨w.heap.size, 2, none⟩ (.slice none 0 0)).heap.size = w1.heap.size := by rw [← z2]; simp [World.setCell]
  show px P _ (w2.setCell ⟨w.heap.size, 2, none⟩ (.slice none 0 0)) _
  generalize w2.setCell ⟨w.heap.size, 2, none⟩ (.slice none 0 0) = w3 at *
  refine fa62_3 (s_st (Tryz.sizeOf59 _) rfl rfl b3 (by show 3 < 11; decide) ?_)
  have b4 := set_same b3 3 (.slice none 0 0)
  have f4 : Fr no w (w3.setCell ⟨w.heap.size, 3, none⟩ (.slice none 0 0)) := f3.trans (Fr.setCell w3 ⟨w.heap.size, 3, none⟩ _) fun b hb => .inr (by have hb' : b = w.heap.size := hb; omega)
  have z4 : (w3.setCell ⟨w.heap.size, 3, none⟩ (.slice none 0 0)).heap.size = w1.heap.size := by rw [← z3]; simp [World.setCell]
  show px P _ (w3.setCell ⟨w.heap.size, 3, none⟩ (.slice none 0 0)) _
  generalize w3.setCell ⟨w.heap.size, 3, none⟩ (.slice none 0 0) = w4 at *
  refine fa62_4 (s_st (Tryz.sizeOf60 _) rfl rfl b4 (by show 4 < 11; decide) ?_)
  have b5 := set_same b4 4 (.slice none 0 0)
  have f5 : Fr no w (w4.setCell ⟨w.heap.size, 4, none⟩ (.slice none 0 0)) := f4.trans (Fr.setCell w4 ⟨w.heap.size, 4, none⟩ _) fun b hb => .inr (by have hb' : b = w.heap.size := hb; omega)
  have z5 : (w4.setCell ⟨w.heap.size, 4, none⟩ (.slice none 0 0)).heap.size = w1.heap.size := by rw [← z4]; simp [World.setCell]
  show px P _ (w4.setCell ⟨w.heap.size, 4, none⟩ (.slice none 0 0)) _
  generalize w4.setCell ⟨w.heap.size, 4, none⟩ (.slice none 0 0) = w5 at *
  refine lit0_56 ?_
  have f6 := Fr.alloc no w5 (.cells #[] 134)
  have ho := own_lit w5 w.heap.size 134 3 #[] 0 (by omega) (by unfold maxLen; omega) rfl
  have z6 : (w5.alloc (.cells #[] 134)).heap.size = w5.heap.size + 1 := by simp
  show px P _ (w5.alloc (.cells #[] 134)) _
  generalize w5.alloc (.cells #[] 134) = w6 at *
  have f06 : Fr no w w6 := f5.trans f6 fun b => .inl
  have h6 := h.fr f06 fun b hb => hb.elim
  have hDX : D ≠ w.heap.size := fun e => by have := h.lt D (.inl h.oD); omega
  refine s_nil (fa62_8 (s_ldb (v := L.toldv) (Tryz.isAgg56 _) h6.disk rfl ?_))
  refine ap56 ho (Src.of_own h6.told) (by intro u hu; obtain ⟨s, _, hs⟩ := List.mem_flatMap.1 hu; simp [spanCells] at hs; rcases hs with rfl | rfl | rfl <;> rfl) (by omega) (by omega) fun v7 w7 h7 f7 hb7 => ?_
  rw [Nat.zero_add] at h7
  replace h7 : w7.ownsRow w.heap.size 134 3 v7 S.reads.length (S.reads.flatMap spanCells) := h7
  have b7 := f7.get (f6.get b5 id) (fun hb => by injection hb with hb; have hb' : w.heap.size = w5.heap.size := hb; omega)
  have f07 : Fr no w w7 := f06.trans f7 fun b hb => .inr (by injection hb with hb; have hb' : b = w5.heap.size := hb; omega)
  refine fa62_8 (s_st (Tryz.sizeOf56 _) (own_one h7).1 (own_one h7).2 b7 (by show 10 < 11; decide) ?_)
  have b8 := set_same b7 10 v7
  have f8 : Fr (fun b => b = w.heap.size) w7 (w7.setCell ⟨w.heap.size, 10, none⟩ v7) := Fr.setCell w7 ⟨w.heap.size, 10, none⟩ v7
  have hv7 : ∀ b, sblk v7 = some b → ¬ (b = w.heap.size) := by
    rintro b hb rfl
    obtain ⟨c3, h3⟩ := own_obj h7 hb
    exact absurd (two_types h3 b7) (by decide)
  refine tw_p1 (X := w.heap.size) (ov := .slice none 0 0) (mv := .slice none 0 0) (dv := v7) hk h ok hc ⟨f07.trans f8 fun b hb => .inr (by have hb' : b = w.heap.size := hb; omega), by
      show (w7.setCell ⟨w.heap.size, 10, none⟩ v7).heap[w.heap.size]? = _
      rw [b8]; rfl, Nat.le_refl _, own_fr h7 f8 hv7, ⟨rfl, .inl ⟨rfl, rfl⟩⟩, ⟨rfl, .inl ⟨rfl, rfl⟩⟩, (by rintro b hb; cases hb), by simp, by simp, List.Pairwise.nil, List.nodup_nil⟩ rfl rfl rfl rfl rfl
end
end Go.Proofs.YtcdcojpfealppaaGreat

set_option linter.unusedVariables false
set_option linter.unusedSimpArgs false
set_option maxRecDepth 100000
namespace Go.Proofs.YtcdcojpfealppaaGreat
open Go Go.Proofs Go.RowKit Go.Proofs.XRed Go.Proofs.XHeap Go.Proofs.XMaps Go.Proofs.XSlices Go.Proofs.XDisk Go.Proofs.XCalls Go.Proofs.XSep
section
variable {w w0 : World} {k : Value → World → Prop}
theorem s_ixo {t : TypeId} {g n c i : Nat} (h : P.underlying t = some (.slice (P.elem t))) (hs : (sizeOf (P.elem t)).run P w = .ok 1 w) (hi : i < n) (hk : k (.pointer (some ⟨g, i, none⟩)) w) : px P (Instr.indexAt t (.slice (some ⟨g, 0, none⟩) n c) (i64 i)) w k :=
  s_ix (i := (i : Int)) h hs (by omega) (by omega) (by simpa using hk)
theorem own_copy {base n : Nat} {e : TypeId} {v : Value} {xs cs : List Value} (h : w.ownsRow base e 1 v n xs) (h0 : 0 < n) (hc : cs.length ≤ n) : ∃ g cap cur, v = .slice (some ⟨g, 0, none⟩) n cap ∧ n ≤ cap ∧ base ≤ g ∧ w.heap[g]? = some (.cells cur e (0, 0)) ∧ n ≤ cur.size ∧
    ∀ w' : World, w'.heap[g]? = some (.cells (cur.toList.take 0 ++ cs.take n ++ cur.toList.drop (0 + min cs.length n)).toArray e (0, 0)) → w'.ownsRow base e 1 v n (cs ++ xs.drop cs.length) := by
  obtain ⟨hl, h2⟩ := h
  rcases h2 with ⟨_, h0'⟩ | ⟨g, cap, cur, hv, hb, hg, hnc, hcm, hcs, ht⟩
  · omega
  · refine ⟨g, cap, cur, hv, hnc, hb, hg, by omega, fun w' hw' => ⟨by simp; omega, .inr ⟨g, cap, _, hv, hb, hw', hnc, hcm, ?_, ?_⟩⟩⟩
    · simp; omega
    · rw [List.take_zero, List.nil_append, List.take_of_length_le hc, Nat.min_eq_left hc, Nat.zero_add, Nat.mul_one]
      rw [Nat.mul_one] at ht
      rw [List.toList_toArray, List.take_append, List.take_of_length_le hc, ← ht, List.drop_take]
theorem fill_set_lay (bb : List UInt8) (i : Nat) (hi : i < bb.length) : (List.replicate i (171 : UInt8) ++ bb.drop i).set i 171 = List.replicate (i + 1) 171 ++ bb.drop (i + 1) := by
  rw [List.set_append_right _ _ (by simp), List.length_replicate, Nat.sub_self, List.drop_eq_getElem_cons hi, List.set_cons_zero, List.replicate_succ']
  simp
set_option maxHeartbeats 1000000 in
theorem c_lay2 {K : Nat} {pv bv : Value} {bb d : List UInt8} {dv : Value} (hK : w.heap[K]? = some (.cells #[bv, pv] 51 (0, 0))) (hb : w.ownsRow 0 5 1 bv bb.length (u8s bb)) (hd : SBytes w dv d) (hdn : 0 < d.length → ∀ b, sblk dv = some b → sblk bv ≠ some b) (hl : bb.length ≤ 1099511627776) (h5 : d.length + 5 ≤ bb.length) {ρ : Env} (e0 : ρ 0 = ptr K) (e1 : ρ 1 = dv) (e5 : ρ 5 = i64 0)
    (hk : ∀ w' v, w'.heap[K]? = some (.cells #[bv, pv] 51 (0, 0)) → w'.ownsRow 0 5 1 bv bb.length (u8s (d ++ List.replicate (bb.length - d.length) 171)) → SBytes w' v d → (∀ b, sblk v = some b → sblk bv = some b) → Fr (fun b => sblk bv = some b) w w' → k v w') : F63L1 k ρ w := by
  have hbK : ∀ {w' : World} {n : Nat} {xs : List Value}, w'.heap[K]? = some (.cells #[bv, pv] 51 (0, 0)) → w'.ownsRow 0 5 1 bv n xs → ∀ b, sblk bv = some b → b ≠ K := by
    rintro w' n xs hK' ho b hb rfl
    obtain ⟨c1, h1⟩ := own_obj ho hb
    exact absurd (two_types h1 hK') (by decide)
  refine F63L1_inv (m := bb.length) k (fun m ρ w' => ∃ i : Nat, i + m = bb.length ∧ w'.heap[K]? = some (.cells #[bv, pv] 51 (0, 0)) ∧ w'.ownsRow 0 5 1 bv bb.length (u8s (List.replicate i 171 ++ bb.drop i)) ∧ Fr (fun b => sblk bv = some b) w w' ∧ ρ 0 = ptr K ∧ ρ 1 = dv ∧ ρ 5 = i64 i) ?_
    ⟨0, by omega, hK, by simpa using hb, Fr.refl _ _, e0, e1, e5⟩
  rintro m ρ w' ⟨i, him, hK', ho, hf, e0, e1, e5⟩
  rw [F63_2_eq]
  unfold F63_2
  rw [e0, e5]
  refine s_nil (fa51_0 (s_ldb (v := bv) (Tryz.isAgg36 _) hK' rfl (s_lenS usl36 (Src.of_own ho) ?_)))
  by_cases hi : i < bb.length
  · refine s_lt_t (by omega) (pC_true (s_nil (fa51_0 (s_ldb (v := bv) (Tryz.isAgg36 _) hK' rfl ?_))))
    obtain ⟨g, cap, cur, ev, hcap, hbase, hg, hic, hce, hset⟩ := own_at (i := i) ho (by omega)
    have hgb : sblk bv = some g := by rw [ev]; rfl
    have hgK := hbK hK' ho g hgb
    have hn' := hset (.int .u8 (171 : UInt8).toNat)
    rw [u8s_set, fill_set_lay bb i hi] at hn'
    have f2 : Fr (fun b => sblk bv = some b) w' (w'.setCell ⟨g, i, none⟩ (.int .u8 (171 : UInt8).toNat)) := (Fr.setCell w' ⟨g, i, none⟩ _).mono fun b hb' => .inl (by rw [show b = g from hb']; exact hgb)
    rw [ev] at hK' ⊢
    refine s_ixo usl36 (sze36 _) hi (s_st (Tryz.sizeOf5 _) rfl rfl hg hic (s_add_in (by omega) ⟨m - 1, by omega, i + 1, by omega, set_other i (.int .u8 (171 : UInt8).toNat) (fun e => hgK e.symm) hK', by rw [← ev]; exact hn', by rw [← ev]; exact hf.trans f2 fun b => .inl, e0, e1, ?_⟩))
    show i64 _ = i64 _; simp
  · refine s_lt_f (by omega) (pC_false ?_)
    rw [F63_3_eq]
    suffices hs : ∀ ρ2 : Env, ρ2 0 = ptr K → ρ2 1 = dv → F63_3 k ρ2 w' from hs _ e0 e1
    intro ρ2 a0 a1
    unfold F63_3
    rw [a0, a1]
    have hi' : i = bb.length := by omega
    rw [hi', List.drop_eq_nil_of_le (Nat.le_refl _), List.append_nil] at ho
    obtain ⟨g, cap, cur, ev, hcap, hbase, hg, hcs, hcopy⟩ := own_copy (cs := u8s d) ho (by omega) (by simp [u8s]; omega)
    have hgb : sblk bv = some g := by rw [ev]; rfl
    have hgK := hbK hK' ho g hgb
    have hd' : SBytes w' dv d := SBytes.fr0 hd hf fun h0 b hb' e => hdn h0 b hb' e
    refine s_nil (fa51_0 (s_ldb (v := bv) (Tryz.isAgg36 _) hK' rfl ?_))
    have hK2 := hK'
    rw [ev] at hK' ⊢
    refine s_copy usl36 (by kernel_rfl) hg hd' u8s_one (by rw [Nat.zero_add]; omega) fun w2 hg2 f2 z2 => ?_
    have hlen : (u8s d).length = d.length := by simp [u8s]
    rw [hlen] at hcopy
    have ho2 := hcopy w2 hg2
    have henc : u8s d ++ (u8s (List.replicate bb.length 171)).drop d.length = u8s (d ++ List.replicate (bb.length - d.length) 171) := by
      simp [u8s]
    rw [henc] at ho2
    have hK3 : w2.heap[K]? = some (.cells #[bv, pv] 51 (0, 0)) := f2.get hK2 fun e => hgK e.symm
    rw [ev] at hK3 ho2
    have hd2 : SBytes w2 dv d := SBytes.fr0 hd' f2 fun h0 b hb' e => hdn h0 b hb' (by rw [ev, show b = g from e]; rfl)
    refine s_nil (fa51_0 (s_ldb (v := .slice (some ⟨g, 0, none⟩) bb.length cap) (Tryz.isAgg36 _) hK3 rfl (s_lenS usl36 hd2 ?_)))
    refine s_sl_h (i := (d.length : Int)) usl36 (sze36 _) (by omega) (by omega) ?_
    have hfront := Src.front (m := d.length) (Src.of_own ho2) (by omega)
    have htk : (u8s (d ++ List.replicate (bb.length - d.length) 171)).take (d.length * 1) = u8s d := by
      rw [Nat.mul_one]
      have : (d ++ List.replicate (bb.length - d.length) (171 : UInt8)).take d.length = d := by simp
      conv => rhs; rw [← this]
      simp [u8s]
    rw [htk] at hfront
    refine hk w2 _ (by rw [ev]; exact hK3) (by rw [ev]; exact ho2) hfront (fun b hb' => ?_) ?_
    · rw [ev]; exact hb'
    · exact hf.trans f2 fun b hb' => .inl (by rw [show b = g from hb']; exact hgb)
def i64s (l : List Int) : List Value := l.map i64
def SInts (w : World) (v : Value) (l : List Int) : Prop := Src w v 1 l.length (i64s l)
theorem i64s_set (l : List Int) (i : Nat) (x : Int) : (i64s l).set i (.int .i64 x) = i64s (l.set i x) := by unfold i64s; rw [List.map_set]
theorem i64s_one {l : List Int} : ∀ u ∈ i64s l, u.oneCell' = true := by intro u hu; obtain ⟨x, _, rfl⟩ := List.mem_map.1 hu; rfl
theorem SInts.fr0 {O : Nat → Prop} {w w' : World} {v : Value} {l : List Int} (h : SInts w v l) (hf : Fr O w w') (hn : 0 < l.length → ∀ b, sblk v = some b → ¬ O b) : SInts w' v l := Src.fr0 h (by omega) hf hn
theorem SInts.fr {O : Nat → Prop} {w w' : World} {v : Value} {l : List Int} (h : SInts w v l) (hf : Fr O w w') (hn : ∀ b, sblk v = some b → ¬ O b) : SInts w' v l := Src.fr h (by omega) hf hn
theorem fill_set_picks (bb : List Int) (i : Nat) (hi : i < bb.length) : (List.replicate i (77 : Int) ++ bb.drop i).set i 77 = List.replicate (i + 1) 77 ++ bb.drop (i + 1) := by
  rw [List.set_append_right _ _ (by simp), List.length_replicate, Nat.sub_self, List.drop_eq_getElem_cons hi, List.set_cons_zero, List.replicate_succ']
  simp
set_option maxHeartbeats 1000000 in
theorem c_picks2 {K : Nat} {bv pv : Value} {bb d : List Int} {dv : Value} (hK : w.heap[K]? = some (.cells #[bv, pv] 51 (0, 0))) (hb : w.ownsRow 0 3 1 pv bb.length (i64s bb)) (hd : SInts w dv d) (hdn : 0 < d.length → ∀ b, sblk dv = some b → sblk pv ≠ some b) (hl : bb.length ≤ 1099511627776) (h5 : d.length + 3 ≤ bb.length) {ρ : Env} (e0 : ρ 0 = ptr K) (e1 : ρ 1 = dv) (e5 : ρ 5 = i64 0)
    (hk : ∀ w' v, w'.heap[K]? = some (.cells #[bv, pv] 51 (0, 0)) → w'.ownsRow 0 3 1 pv bb.length (i64s (d ++ List.replicate (bb.length - d.length) 77)) → SInts w' v d → (∀ b, sblk v = some b → sblk pv = some b) → Fr (fun b => sblk pv = some b) w w' → k v w') : F122L1 k ρ w := by
  have hbK : ∀ {w' : World} {n : Nat} {xs : List Value}, w'.heap[K]? = some (.cells #[bv, pv] 51 (0, 0)) → w'.ownsRow 0 3 1 pv n xs → ∀ b, sblk pv = some b → b ≠ K := by
    rintro w' n xs hK' ho b hb rfl
    obtain ⟨c1, h1⟩ := own_obj ho hb
    exact absurd (two_types h1 hK') (by decide)
  refine F122L1_inv (m := bb.length) k (fun m ρ w' => ∃ i : Nat, i + m = bb.length ∧ w'.heap[K]? = some (.cells #[bv, pv] 51 (0, 0)) ∧ w'.ownsRow 0 3 1 pv bb.length (i64s (List.replicate i 77 ++ bb.drop i)) ∧ Fr (fun b => sblk pv = some b) w w' ∧ ρ 0 = ptr K ∧ ρ 1 = dv ∧ ρ 5 = i64 i) ?_
    ⟨0, by omega, hK, by simpa using hb, Fr.refl _ _, e0, e1, e5⟩
  rintro m ρ w' ⟨i, him, hK', ho, hf, e0, e1, e5⟩
  rw [F122_1_eq]
  unfold F122_1
  rw [e0, e5]
  refine s_nil (fa51_1 (s_ldb (v := pv) (Tryz.isAgg39 _) hK' rfl (s_lenS usl39 (Src.of_own ho) ?_)))
  by_cases hi : i < bb.length
  · refine s_lt_t (by omega) (pC_true (s_nil (fa51_1 (s_ldb (v := pv) (Tryz.isAgg39 _) hK' rfl ?_))))
    obtain ⟨g, cap, cur, ev, hcap, hbase, hg, hic, hce, hset⟩ := own_at (i := i) ho (by omega)
    have hgb : sblk pv = some g := by rw [ev]; rfl
    have hgK := hbK hK' ho g hgb
    have hn' := hset (.int .i64 77)
    rw [i64s_set, fill_set_picks bb i hi] at hn'
    have f2 : Fr (fun b => sblk pv = some b) w' (w'.setCell ⟨g, i, none⟩ (.int .i64 77)) := (Fr.setCell w' ⟨g, i, none⟩ _).mono fun b hb' => .inl (by rw [show b = g from hb']; exact hgb)
    rw [ev] at hK' ⊢
    refine s_ixo usl39 (sze39 _) hi (s_st (Tryz.sizeOf3 _) rfl rfl hg hic (s_add_in (by omega) ⟨m - 1, by omega, i + 1, by omega, set_other i (.int .i64 77) (fun e => hgK e.symm) hK', by rw [← ev]; exact hn', by rw [← ev]; exact hf.trans f2 fun b => .inl, e0, e1, ?_⟩))
    show i64 _ = i64 _; simp
  · refine s_lt_f (by omega) (pC_false ?_)
    rw [F122_2_eq]
    suffices hs : ∀ ρ2 : Env, ρ2 0 = ptr K → ρ2 1 = dv → F122_2 k ρ2 w' from hs _ e0 e1
    intro ρ2 a0 a1
    unfold F122_2
    rw [a0, a1]
    have hi' : i = bb.length := by omega
    rw [hi', List.drop_eq_nil_of_le (Nat.le_refl _), List.append_nil] at ho
    obtain ⟨g, cap, cur, ev, hcap, hbase, hg, hcs, hcopy⟩ := own_copy (cs := i64s d) ho (by omega) (by simp [i64s]; omega)
    have hgb : sblk pv = some g := by rw [ev]; rfl
    have hgK := hbK hK' ho g hgb
    have hd' : SInts w' dv d := SInts.fr0 hd hf fun h0 b hb' e => hdn h0 b hb' e
    refine s_nil (fa51_1 (s_ldb (v := pv) (Tryz.isAgg39 _) hK' rfl ?_))
    have hK2 := hK'
    rw [ev] at hK' ⊢
    refine s_copy usl39 (by kernel_rfl) hg hd' i64s_one (by rw [Nat.zero_add]; omega) fun w2 hg2 f2 z2 => ?_
    have hlen : (i64s d).length = d.length := by simp [i64s]
    rw [hlen] at hcopy
    have ho2 := hcopy w2 hg2
    have henc : i64s d ++ (i64s (List.replicate bb.length 77)).drop d.length = i64s (d ++ List.replicate (bb.length - d.length) 77) := by
      simp [i64s]
    rw [henc] at ho2
    have hK3 : w2.heap[K]? = some (.cells #[bv, pv] 51 (0, 0)) := f2.get hK2 fun e => hgK e.symm
    rw [ev] at hK3 ho2
    have hd2 : SInts w2 dv d := SInts.fr0 hd' f2 fun h0 b hb' e => hdn h0 b hb' (by rw [ev, show b = g from e]; rfl)
    refine s_nil (fa51_1 (s_ldb (v := .slice (some ⟨g, 0, none⟩) bb.length cap) (Tryz.isAgg39 _) hK3 rfl (s_lenS usl39 hd2 ?_)))
    refine s_sl_h (i := (d.length : Int)) usl39 (sze39 _) (by omega) (by omega) ?_
    have hfront := Src.front (m := d.length) (Src.of_own ho2) (by omega)
    have htk : (i64s (d ++ List.replicate (bb.length - d.length) 77)).take (d.length * 1) = i64s d := by
      rw [Nat.mul_one]
      have : (d ++ List.replicate (bb.length - d.length) (77 : Int)).take d.length = d := by simp
      conv => rhs; rw [← this]
      simp [i64s]
    rw [htk] at hfront
    refine hk w2 _ (by rw [ev]; exact hK3) (by rw [ev]; exact ho2) hfront (fun b hb' => ?_) ?_
    · rw [ev]; exact hb'
    · exact hf.trans f2 fun b hb' => .inl (by rw [show b = g from hb']; exact hgb)
theorem c_lay {K : Nat} {bv pv dv : Value} {bb d : Bytes} (hK : w.heap[K]? = some (.cells #[bv, pv] 51 (0, 0))) (hb : w.ownsRow 0 5 1 bv bb.length (u8s bb)) (hd : SBytes w dv d) (hdn : 0 < d.length → ∀ b, sblk dv = some b → sblk bv ≠ some b ∧ b ≠ K) (hl : bb.length ≤ 1099511627776) (hdl : d.length ≤ 274877906944)
    (hk : ∀ w' bv' v bb' n, w'.heap[K]? = some (.cells #[bv', pv] 51 (0, 0)) → bb' = d ++ List.replicate n 171 → bb'.length ≤ max bb.length (2 * d.length + 40) → w'.ownsRow 0 5 1 bv' bb'.length (u8s bb') → SBytes w' v d → (∀ b, sblk v = some b → sblk bv' = some b) → Fr (fun b => b = K ∨ sblk bv = some b) w w' → (∀ b, sblk bv' = some b → sblk bv = some b ∨ w.heap.size ≤ b) → k v w') :
    pFn P 63 [ptr K, dv] w k := by
  refine F63_in _ _ _ _ ?_
  unfold F63_0
  refine s_nil (fa51_0 (s_ldb (v := bv) (Tryz.isAgg36 _) hK rfl (s_lenS usl36 (Src.of_own hb) (s_lenS usl36 hd (s_add_in (by omega) ?_)))))
  by_cases hs : bb.length < d.length + 5
  · refine s_lt_t (by omega) (pC_true (s_lenS usl36 hd (s_mul ?_)))
    rw [wrap_in (by omega)]
    refine s_add_in (by omega) ?_
    refine s_mks (t := 36) (e := 5) (i := Tryz.t5) (z := .int .u8 0) (by kernel_rfl) (by kernel_rfl) (by kernel_rfl) (by omega) (by show (1 : Int) * (2 * (d.length : Int) + 40) ≤ _; omega) (by omega) ?_
    have hN : (2 * (d.length : Int) + 40).toNat = 2 * d.length + 40 := by omega
    have hmc : madeCells (Value.int IntKind.u8 0).cells ((2 * (d.length : Int) + 40).toNat * Tryz.t5.size) = (List.replicate (2 * d.length + 40) (.int .u8 0)).toArray := by
      rw [madeCells_one _ rfl, hN, show Tryz.t5.size = 1 by kernel_rfl, Nat.mul_one]
    rw [hmc, hN]
    have b1 := alloc_new w (.cells (List.replicate (2 * d.length + 40) (.int .u8 0)).toArray 5)
    have f1 := Fr.alloc no w (.cells (List.replicate (2 * d.length + 40) (.int .u8 0)).toArray 5)
    have z1 : (w.alloc (.cells (List.replicate (2 * d.length + 40) (.int .u8 0)).toArray 5)).heap.size = w.heap.size + 1 := by simp
    generalize w.alloc (.cells (List.replicate (2 * d.length + 40) (.int .u8 0)).toArray 5) = w1 at *
    have ho1 := own_blk (base := 0) (size := 1) (n := 2 * d.length + 40) b1 (Nat.zero_le _) (by unfold maxLen; omega) (by simp)
    have hKw := lt_of_get hK
    refine s_nil (fa51_0 (s_st (Tryz.sizeOf36 _) rfl rfl (f1.get hK id) (by show 0 < 2; decide) ?_))
    have b2 := set_same (f1.get hK id) 0 (.slice (some ⟨w.heap.size, 0, none⟩) (2 * d.length + 40) (2 * d.length + 40))
    have f2 : Fr (fun b => b = K) w1 (w1.setCell ⟨K, 0, none⟩ (.slice (some ⟨w.heap.size, 0, none⟩) (2 * d.length + 40) (2 * d.length + 40))) := Fr.setCell w1 ⟨K, 0, none⟩ _
    rw [F63_1_eq]
    unfold F63_1
    have ho2 := own_fr ho1 f2 fun b hb' (e : b = K) => by injection hb' with hb'; have : w.heap.size = b := hb'; omega
    have f02 : Fr (fun b => b = K) w (w1.setCell ⟨K, 0, none⟩ (.slice (some ⟨w.heap.size, 0, none⟩) (2 * d.length + 40) (2 * d.length + 40))) := (f1.mono fun b hb' => hb'.elim).trans f2 fun b => .inl
    show F63L1 k _ (w1.setCell ⟨K, 0, none⟩ (.slice (some ⟨w.heap.size, 0, none⟩) (2 * d.length + 40) (2 * d.length + 40)))
    generalize w1.setCell ⟨K, 0, none⟩ (.slice (some ⟨w.heap.size, 0, none⟩) (2 * d.length + 40) (2 * d.length + 40)) = w2 at *
    have hbl : ∀ b, sblk (.slice (some ⟨w.heap.size, 0, none⟩) (2 * d.length + 40) (2 * d.length + 40)) = some b → b = w.heap.size := fun b hb' => by injection hb' with hb'; exact hb'.symm
    refine c_lay2 (bb := List.replicate (2 * d.length + 40) 0) (bv := .slice (some ⟨w.heap.size, 0, none⟩) (2 * d.length + 40) (2 * d.length + 40)) (d := d) (pv := pv) b2 ?_ (SBytes.fr0 hd f02 fun h0 b hb' => (hdn h0 b hb').2) (fun h0 b hb' e => ?_) (by simp; omega) (by simp; omega) rfl rfl rfl fun w' v g1 g2 g3 g4 g5 => ?_
    · simpa [u8s] using ho2
    · have hbw := hbl b e
      have := Src.lt (size := 1) hd (by omega) h0 hb'
      omega
    · rw [List.length_replicate] at g2
      refine hk w' _ v _ (2 * d.length + 40 - d.length) g1 rfl (by simp; omega) ?_ g3 g4 (f02.mono (fun b hb' => .inl (.inl hb')) |>.trans g5 fun b hb' => .inr (Nat.le_of_eq (hbl b hb').symm)) fun b hb' => .inr (Nat.le_of_eq (hbl b hb').symm)
      have : (d ++ List.replicate (2 * d.length + 40 - d.length) (171 : UInt8)).length = 2 * d.length + 40 := by simp; omega
      rw [this]; simpa using g2
  · refine s_lt_f (by omega) (pC_false ?_)
    rw [F63_1_eq]
    unfold F63_1
    refine c_lay2 (bb := bb) (d := d) (bv := bv) (pv := pv) hK hb hd (fun h0 b hb' => (hdn h0 b hb').1) hl (by omega) rfl rfl rfl fun w' v g1 g2 g3 g4 g5 => ?_
    refine hk w' bv v _ (bb.length - d.length) g1 rfl (by simp; omega) ?_ g3 g4 (g5.mono fun b hb' => .inl (.inr hb')) fun b => .inl
    have : (d ++ List.replicate (bb.length - d.length) (171 : UInt8)).length = bb.length := by simp; omega
    rw [this]; exact g2
end
end Go.Proofs.YtcdcojpfealppaaGreat

set_option linter.unusedVariables false
set_option linter.unusedSimpArgs false
set_option maxRecDepth 100000
namespace Go.Proofs.YtcdcojpfealppaaGreat
open Go Go.Proofs Go.RowKit Go.Proofs.XRed Go.Proofs.XHeap Go.Proofs.XMaps Go.Proofs.XSlices Go.Proofs.XDisk Go.Proofs.XCalls Go.Proofs.XSep
section
variable {w w0 : World} {k : Value → World → Prop}
theorem i64s_at {l : List Int} {i : Nat} (hi : i < l.length) : (i64s l)[i]? = some (i64 l[i]) := by unfold i64s; simp [hi]
set_option maxHeartbeats 1000000 in
theorem c_lies {K n : Nat} {bv pv dv : Value} {d : List UInt8} (hK : w.heap[K]? = some (.cells #[bv, pv] 51 (0, 0))) (hb : w.ownsRow 0 5 1 bv (d.length + n) (u8s (d ++ List.replicate n 171))) (hd : SBytes w dv d) (hl : d.length + n ≤ 1099511627776)
    (hk : ∀ w', Fr no w w' → k (.bool true) w') : pFn P 117 [ptr K, dv] w k := by
  refine F117_in _ _ _ _ ?_
  unfold F117_0
  refine F117L1_inv (m := d.length + n) k (fun m ρ w' => ∃ i : Nat, i + m = d.length + n ∧ Fr no w w' ∧ ρ 0 = ptr K ∧ ρ 1 = dv ∧ ρ 5 = i64 i) ?_ ⟨0, by omega, Fr.refl _ _, rfl, rfl, rfl⟩
  rintro m ρ w' ⟨i, him, hf, e0, e1, e5⟩
  rw [F117_1_eq]
  unfold F117_1
  rw [e0, e1, e5]
  have hK' := hf.get hK id
  have hb' := own_fr hb hf fun _ _ h => h
  have hd' : SBytes w' dv d := hd.fr hf fun _ _ h => h
  obtain ⟨Ad, cd, ed, _⟩ : ∃ A c, dv = .slice A d.length c ∧ d.length ≤ c := by obtain ⟨A, c, e, h, _⟩ := hd; exact ⟨A, c, e, h⟩
  refine s_nil (fa51_0 (s_ldb (v := bv) (Tryz.isAgg36 _) hK' rfl (s_lenS usl36 (Src.of_own hb') ?_)))
  by_cases hi : i < d.length + n
  · refine s_lt_t (by omega) (pC_true ?_)
    obtain ⟨g, cap, cur, ev, hcap, hbase, hg, hic, hce, hset⟩ := own_at (i := i) hb' (by omega)
    have hcell : w'.cell? ⟨g, i, none⟩ = (u8s (d ++ List.replicate n 171))[i]? := by
      rw [← hce]
      simp [World.cell?, hg]
    have hgw := lt_of_get hg
    have fd : Fr no w' w'.drew := Fr.drew _ _
    by_cases hid : i < d.length
    · obtain ⟨b, o, c2, es, hp⟩ := Src.place (size := 1) hd' hid (by omega)
      have g1 : w'.cell? ⟨b, o + i * 1, none⟩ = some (.int .u8 (d[i]).toNat) := hp 0 _ (by omega) (by simpa using u8s_at hid)
      have g0 : w'.cell? ⟨g, i, none⟩ = some (.int .u8 (d[i]).toNat) := by
        rw [hcell, u8s_at (show i < (d ++ List.replicate n 171).length by simp; omega), List.getElem_append_left hid]
      refine ⟨fun x : World => x.heap[K]? = some (.cells #[bv, pv] 51 (0, 0)) ∧ x.cell? ⟨g, i, none⟩ = some (.int .u8 (d[i]).toNat) ∧ x.cell? ⟨b, o + i * 1, none⟩ = some (.int .u8 (d[i]).toNat), ⟨hK', g0, g1⟩, ?_⟩
      refine q_of (i64 d.length) (fun w_ hS => by rw [ed]; exact s_len usl36 ⟨rfl, rfl⟩) (q_of (.bool true) (fun w_ hS => s_lt_t (by omega) ⟨rfl, rfl⟩) ?_)
      refine pGq_yes rfl (pGq_yes rfl (q_of _ (fun w_ hS => s_nil ⟨rfl, rfl⟩) (pGq_yes rfl (q_of _ (fun w_ hS => fa51_0 ⟨rfl, rfl⟩) (pGq_yes rfl (q_of bv (fun w_ hS => s_ldb (Tryz.isAgg36 _) hS.1 rfl ⟨rfl, rfl⟩) (pGq_yes rfl (pGq_yes rfl ?_))))))))
      refine q_of (.pointer (some ⟨g, i, none⟩)) (fun w_ hS => by rw [ev]; exact s_ixo usl36 (sze36 _) hi ⟨rfl, rfl⟩) (pGq_yes rfl (q_of (.int .u8 (d[i]).toNat) (fun w_ hS => s_ld (Tryz.isAgg5 _) hS.2.1 ⟨rfl, rfl⟩) (pGq_yes rfl (pGq_yes rfl (pGq_yes rfl ?_)))))
      refine q_of (.pointer (some ⟨b, o + i * 1, none⟩)) (fun w_ hS => by rw [es]; exact s_ix (i := (i : Int)) usl36 (sze36 _) (by omega) (by omega) ⟨by simp, rfl⟩) (pGq_yes rfl (q_of (.int .u8 (d[i]).toNat) (fun w_ hS => s_ld (Tryz.isAgg5 _) hS.2.2 ⟨rfl, rfl⟩) (pGq_yes rfl ?_)))
      refine q_of (.bool false) (fun w_ hS => s_nei_f rfl ⟨rfl, rfl⟩) (q_of (.bool false) (fun w_ hS => s_pick_t ⟨rfl, rfl⟩) (pGq_yes rfl (pGq_yes rfl (pGq_yes rfl ?_))))
      refine q_of (i64 d.length) (fun w_ hS => by rw [ed]; exact s_len usl36 ⟨rfl, rfl⟩) (pGq_yes rfl (q_of (.bool false) (fun w_ hS => s_ge_f (by omega) ⟨rfl, rfl⟩) (pGq_yes rfl ?_)))
      repeat (first | refine pGq_sk ?_ | refine pGq_un ?_)
      refine pGq_yes rfl (q_of (.bool false) (fun w_ hS => s_pick_f ⟨rfl, rfl⟩) (q_of (.bool false) (fun w_ hS => s_pick_f ⟨rfl, rfl⟩) (pC_false (s_add_in (by omega) ⟨m - 1, by omega, i + 1, by omega, hf.trans fd fun b => .inl, e0, e1, ?_⟩))))
      show i64 _ = i64 _; simp
    · have g0 : w'.cell? ⟨g, i, none⟩ = some (.int .u8 ((171 : UInt8)).toNat) := by
        rw [hcell, u8s_at (show i < (d ++ List.replicate n 171).length by simp; omega), List.getElem_append_right (by omega), List.getElem_replicate]
      refine ⟨fun x : World => x.heap[K]? = some (.cells #[bv, pv] 51 (0, 0)) ∧ x.cell? ⟨g, i, none⟩ = some (.int .u8 ((171 : UInt8)).toNat), ⟨hK', g0⟩, ?_⟩
      refine q_of (i64 d.length) (fun w_ hS => by rw [ed]; exact s_len usl36 ⟨rfl, rfl⟩) (q_of (.bool false) (fun w_ hS => s_lt_f (by omega) ⟨rfl, rfl⟩) ?_)
      repeat (first | refine pGq_sk ?_ | refine pGq_un ?_)
      refine q_of (.bool false) (fun w_ hS => s_pick_f ⟨rfl, rfl⟩) (pGq_yes rfl (pGq_yes rfl (pGq_yes rfl ?_)))
      refine q_of (i64 d.length) (fun w_ hS => by rw [ed]; exact s_len usl36 ⟨rfl, rfl⟩) (pGq_yes rfl (q_of (.bool true) (fun w_ hS => s_ge_t (by omega) ⟨rfl, rfl⟩) (pGq_yes rfl ?_)))
      refine pGq_yes rfl (pGq_yes rfl (q_of _ (fun w_ hS => s_nil ⟨rfl, rfl⟩) (pGq_yes rfl (q_of _ (fun w_ hS => fa51_0 ⟨rfl, rfl⟩) (pGq_yes rfl (q_of bv (fun w_ hS => s_ldb (Tryz.isAgg36 _) hS.1 rfl ⟨rfl, rfl⟩) (pGq_yes rfl (pGq_yes rfl ?_))))))))
      refine q_of (.pointer (some ⟨g, i, none⟩)) (fun w_ hS => by rw [ev]; exact s_ixo usl36 (sze36 _) hi ⟨rfl, rfl⟩) (pGq_yes rfl (q_of (.int .u8 ((171 : UInt8)).toNat) (fun w_ hS => s_ld (Tryz.isAgg5 _) hS.2 ⟨rfl, rfl⟩) (pGq_yes rfl ?_)))
      refine q_of (.bool false) (fun w_ hS => s_nei_f rfl ⟨rfl, rfl⟩) (pGq_yes rfl (q_of (.bool false) (fun w_ hS => s_pick_t ⟨rfl, rfl⟩) (q_of (.bool false) (fun w_ hS => s_pick_f ⟨rfl, rfl⟩) (pC_false (s_add_in (by omega) ⟨m - 1, by omega, i + 1, by omega, hf.trans fd fun b => .inl, e0, e1, ?_⟩)))))
      show i64 _ = i64 _; simp
  · refine s_lt_f (by omega) (pC_false ?_)
    rw [F117_2_eq]
    exact hk w' hf
set_option maxHeartbeats 1000000 in
theorem c_picked {K n : Nat} {bv pv dv : Value} {d : List Int} (hK : w.heap[K]? = some (.cells #[bv, pv] 51 (0, 0))) (hb : w.ownsRow 0 3 1 pv (d.length + n) (i64s (d ++ List.replicate n 77))) (hd : SInts w dv d) (hl : d.length + n ≤ 1099511627776)
    (hk : ∀ w', Fr no w w' → k (.bool true) w') : pFn P 124 [ptr K, dv] w k := by
  refine F124_in _ _ _ _ ?_
  unfold F124_0
  refine F124L1_inv (m := d.length + n) k (fun m ρ w' => ∃ i : Nat, i + m = d.length + n ∧ Fr no w w' ∧ ρ 0 = ptr K ∧ ρ 1 = dv ∧ ρ 5 = i64 i) ?_ ⟨0, by omega, Fr.refl _ _, rfl, rfl, rfl⟩
  rintro m ρ w' ⟨i, him, hf, e0, e1, e5⟩
  rw [F124_1_eq]
  unfold F124_1
  rw [e0, e1, e5]
  have hK' := hf.get hK id
  have hb' := own_fr hb hf fun _ _ h => h
  have hd' : SInts w' dv d := hd.fr hf fun _ _ h => h
  obtain ⟨Ad, cd, ed, _⟩ : ∃ A c, dv = .slice A d.length c ∧ d.length ≤ c := by obtain ⟨A, c, e, h, _⟩ := hd; exact ⟨A, c, e, h⟩
  refine s_nil (fa51_1 (s_ldb (v := pv) (Tryz.isAgg39 _) hK' rfl (s_lenS usl39 (Src.of_own hb') ?_)))
  by_cases hi : i < d.length + n
  · refine s_lt_t (by omega) (pC_true ?_)
    obtain ⟨g, cap, cur, ev, hcap, hbase, hg, hic, hce, hset⟩ := own_at (i := i) hb' (by omega)
    have hcell : w'.cell? ⟨g, i, none⟩ = (i64s (d ++ List.replicate n 77))[i]? := by
      rw [← hce]
      simp [World.cell?, hg]
    have hgw := lt_of_get hg
    have fd : Fr no w' w'.drew := Fr.drew _ _
    by_cases hid : i < d.length
    · obtain ⟨b, o, c2, es, hp⟩ := Src.place (size := 1) hd' hid (by omega)
      have g1 : w'.cell? ⟨b, o + i * 1, none⟩ = some (i64 d[i]) := hp 0 _ (by omega) (by simpa using i64s_at hid)
      have g0 : w'.cell? ⟨g, i, none⟩ = some (i64 d[i]) := by
        rw [hcell, i64s_at (show i < (d ++ List.replicate n 77).length by simp; omega), List.getElem_append_left hid]
      refine ⟨fun x : World => x.heap[K]? = some (.cells #[bv, pv] 51 (0, 0)) ∧ x.cell? ⟨g, i, none⟩ = some (i64 d[i]) ∧ x.cell? ⟨b, o + i * 1, none⟩ = some (i64 d[i]), ⟨hK', g0, g1⟩, ?_⟩
      refine q_of (i64 d.length) (fun w_ hS => by rw [ed]; exact s_len usl39 ⟨rfl, rfl⟩) (q_of (.bool true) (fun w_ hS => s_lt_t (by omega) ⟨rfl, rfl⟩) ?_)
      refine pGq_yes rfl (pGq_yes rfl (q_of _ (fun w_ hS => s_nil ⟨rfl, rfl⟩) (pGq_yes rfl (q_of _ (fun w_ hS => fa51_1 ⟨rfl, rfl⟩) (pGq_yes rfl (q_of pv (fun w_ hS => s_ldb (Tryz.isAgg39 _) hS.1 rfl ⟨rfl, rfl⟩) (pGq_yes rfl (pGq_yes rfl ?_))))))))
      refine q_of (.pointer (some ⟨g, i, none⟩)) (fun w_ hS => by rw [ev]; exact s_ixo usl39 (sze39 _) hi ⟨rfl, rfl⟩) (pGq_yes rfl (q_of (i64 d[i]) (fun w_ hS => s_ld (Tryz.isAgg3 _) hS.2.1 ⟨rfl, rfl⟩) (pGq_yes rfl (pGq_yes rfl (pGq_yes rfl ?_)))))
      refine q_of (.pointer (some ⟨b, o + i * 1, none⟩)) (fun w_ hS => by rw [es]; exact s_ix (i := (i : Int)) usl39 (sze39 _) (by omega) (by omega) ⟨by simp, rfl⟩) (pGq_yes rfl (q_of (i64 d[i]) (fun w_ hS => s_ld (Tryz.isAgg3 _) hS.2.2 ⟨rfl, rfl⟩) (pGq_yes rfl ?_)))
      refine q_of (.bool false) (fun w_ hS => s_nei_f rfl ⟨rfl, rfl⟩) (q_of (.bool false) (fun w_ hS => s_pick_t ⟨rfl, rfl⟩) (pGq_yes rfl (pGq_yes rfl (pGq_yes rfl ?_))))
      refine q_of (i64 d.length) (fun w_ hS => by rw [ed]; exact s_len usl39 ⟨rfl, rfl⟩) (pGq_yes rfl (q_of (.bool false) (fun w_ hS => s_ge_f (by omega) ⟨rfl, rfl⟩) (pGq_yes rfl ?_)))
      repeat (first | refine pGq_sk ?_ | refine pGq_un ?_)
      refine pGq_yes rfl (q_of (.bool false) (fun w_ hS => s_pick_f ⟨rfl, rfl⟩) (q_of (.bool false) (fun w_ hS => s_pick_f ⟨rfl, rfl⟩) (pC_false (s_add_in (by omega) ⟨m - 1, by omega, i + 1, by omega, hf.trans fd fun b => .inl, e0, e1, ?_⟩))))
      show i64 _ = i64 _; simp
    · have g0 : w'.cell? ⟨g, i, none⟩ = some (i64 (77 : Int)) := by
        rw [hcell, i64s_at (show i < (d ++ List.replicate n 77).length by simp; omega), List.getElem_append_right (by omega), List.getElem_replicate]
      refine ⟨fun x : World => x.heap[K]? = some (.cells #[bv, pv] 51 (0, 0)) ∧ x.cell? ⟨g, i, none⟩ = some (i64 (77 : Int)), ⟨hK', g0⟩, ?_⟩
      refine q_of (i64 d.length) (fun w_ hS => by rw [ed]; exact s_len usl39 ⟨rfl, rfl⟩) (q_of (.bool false) (fun w_ hS => s_lt_f (by omega) ⟨rfl, rfl⟩) ?_)
      repeat (first | refine pGq_sk ?_ | refine pGq_un ?_)
      refine q_of (.bool false) (fun w_ hS => s_pick_f ⟨rfl, rfl⟩) (pGq_yes rfl (pGq_yes rfl (pGq_yes rfl ?_)))
      refine q_of (i64 d.length) (fun w_ hS => by rw [ed]; exact s_len usl39 ⟨rfl, rfl⟩) (pGq_yes rfl (q_of (.bool true) (fun w_ hS => s_ge_t (by omega) ⟨rfl, rfl⟩) (pGq_yes rfl ?_)))
      refine pGq_yes rfl (pGq_yes rfl (q_of _ (fun w_ hS => s_nil ⟨rfl, rfl⟩) (pGq_yes rfl (q_of _ (fun w_ hS => fa51_1 ⟨rfl, rfl⟩) (pGq_yes rfl (q_of pv (fun w_ hS => s_ldb (Tryz.isAgg39 _) hS.1 rfl ⟨rfl, rfl⟩) (pGq_yes rfl (pGq_yes rfl ?_))))))))
      refine q_of (.pointer (some ⟨g, i, none⟩)) (fun w_ hS => by rw [ev]; exact s_ixo usl39 (sze39 _) hi ⟨rfl, rfl⟩) (pGq_yes rfl (q_of (i64 (77 : Int)) (fun w_ hS => s_ld (Tryz.isAgg3 _) hS.2 ⟨rfl, rfl⟩) (pGq_yes rfl ?_)))
      refine q_of (.bool false) (fun w_ hS => s_nei_f rfl ⟨rfl, rfl⟩) (pGq_yes rfl (q_of (.bool false) (fun w_ hS => s_pick_t ⟨rfl, rfl⟩) (q_of (.bool false) (fun w_ hS => s_pick_f ⟨rfl, rfl⟩) (pC_false (s_add_in (by omega) ⟨m - 1, by omega, i + 1, by omega, hf.trans fd fun b => .inl, e0, e1, ?_⟩)))))
      show i64 _ = i64 _; simp
  · refine s_lt_f (by omega) (pC_false ?_)
    rw [F124_2_eq]
    exact hk w' hf
theorem c_picks {K : Nat} {bv pv dv : Value} {d : List Int} (hK : w.heap[K]? = some (.cells #[bv, pv] 51 (0, 0))) (hd : SInts w dv d) (hdn : 0 < d.length → ∀ b, sblk dv = some b → b ≠ K) (hdl : d.length ≤ 1099511627)
    (hk : ∀ w' pv' v, w'.heap[K]? = some (.cells #[bv, pv'] 51 (0, 0)) → w'.ownsRow 0 3 1 pv' (d.length + 3) (i64s (d ++ List.replicate 3 77)) → SInts w' v d → (∀ b, sblk v = some b → sblk pv' = some b) → Fr (fun b => b = K) w w' → (∀ b, sblk pv' = some b → w.heap.size ≤ b) → k v w') :
    pFn P 122 [ptr K, dv] w k := by
  refine F122_in _ _ _ _ ?_
  unfold F122_0
  refine s_lenS usl39 hd (s_add_in (by omega) ?_)
  refine s_mks (t := 39) (e := 3) (i := Tryz.t3) (z := i64 0) (by kernel_rfl) (by kernel_rfl) (by kernel_rfl) (by omega) (by show (8 : Int) * ((d.length : Int) + 3) ≤ _; omega) (by omega) ?_
  have hN : ((d.length : Int) + 3).toNat = d.length + 3 := by omega
  have hmc : madeCells (i64 0).cells (((d.length : Int) + 3).toNat * Tryz.t3.size) = (List.replicate (d.length + 3) (i64 0)).toArray := by
    rw [madeCells_one _ rfl, hN, show Tryz.t3.size = 1 by kernel_rfl, Nat.mul_one]
  rw [hmc, hN]
  have b1 := alloc_new w (.cells (List.replicate (d.length + 3) (i64 0)).toArray 3)
  have f1 := Fr.alloc no w (.cells (List.replicate (d.length + 3) (i64 0)).toArray 3)
  have z1 : (w.alloc (.cells (List.replicate (d.length + 3) (i64 0)).toArray 3)).heap.size = w.heap.size + 1 := by simp
  generalize w.alloc (.cells (List.replicate (d.length + 3) (i64 0)).toArray 3) = w1 at *
  have ho1 := own_blk (base := 0) (size := 1) (n := d.length + 3) b1 (Nat.zero_le _) (by unfold maxLen; omega) (by simp)
  have hKw := lt_of_get hK
  refine s_nil (fa51_1 (s_st (Tryz.sizeOf39 _) rfl rfl (f1.get hK id) (by show 1 < 2; decide) ?_))
  have b2 := set_same (f1.get hK id) 1 (.slice (some ⟨w.heap.size, 0, none⟩) (d.length + 3) (d.length + 3))
  have f2 : Fr (fun b => b = K) w1 (w1.setCell ⟨K, 1, none⟩ (.slice (some ⟨w.heap.size, 0, none⟩) (d.length + 3) (d.length + 3))) := Fr.setCell w1 ⟨K, 1, none⟩ _
  have ho2 := own_fr ho1 f2 fun b hb' (e : b = K) => by injection hb' with hb'; have : w.heap.size = b := hb'; omega
  have f02 : Fr (fun b => b = K) w (w1.setCell ⟨K, 1, none⟩ (.slice (some ⟨w.heap.size, 0, none⟩) (d.length + 3) (d.length + 3))) := (f1.mono fun b hb' => hb'.elim).trans f2 fun b => .inl
  show F122L1 k _ (w1.setCell ⟨K, 1, none⟩ (.slice (some ⟨w.heap.size, 0, none⟩) (d.length + 3) (d.length + 3)))
  generalize w1.setCell ⟨K, 1, none⟩ (.slice (some ⟨w.heap.size, 0, none⟩) (d.length + 3) (d.length + 3)) = w2 at *
  have hbl : ∀ b, sblk (.slice (some ⟨w.heap.size, 0, none⟩) (d.length + 3) (d.length + 3)) = some b → b = w.heap.size := fun b hb' => by injection hb' with hb'; exact hb'.symm
  refine c_picks2 (bb := List.replicate (d.length + 3) 0) (pv := .slice (some ⟨w.heap.size, 0, none⟩) (d.length + 3) (d.length + 3)) (d := d) (bv := bv) b2 ?_ (SInts.fr0 hd f02 hdn) (fun h0 b hb' e => ?_) (by simp; omega) (by simp) rfl rfl rfl fun w' v g1 g2 g3 g4 g5 => ?_
  · simpa [i64s] using ho2
  · have hbw := hbl b e
    have := Src.lt (size := 1) hd (by omega) h0 hb'
    omega
  · rw [List.length_replicate, show d.length + 3 - d.length = 3 by omega] at g2
    refine hk w' _ v g1 (by simpa using g2) g3 g4 (f02.trans g5 fun b hb' => .inr (Nat.le_of_eq (hbl b hb').symm)) fun b hb' => Nat.le_of_eq (hbl b hb').symm
end
end Go.Proofs.YtcdcojpfealppaaGreat
