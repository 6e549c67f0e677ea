/- Put together by a program (wip/tools/shake.py): ROps5,ROps6,ROps7,ROps8. -/
import Derived.Test.YteeeggphkhimcaaGreatDoorB16
set_option linter.unusedVariables false
set_option linter.unusedSimpArgs false
set_option maxRecDepth 100000
namespace Go.Proofs.YteeeggphkhimcaaGreatDoor
open Go Go.Proofs Go.RowKit Go.Proofs.XRed Go.Proofs.XHeap Go.Proofs.XMaps Go.Proofs.XSlices Go.Proofs.XDisk Go.Proofs.XCalls Go.Proofs.XSep Tryz
section
variable {w w0:World} {D:Nat} {S S':AD} {O I:Nat → Prop} {L L':RLay} {k:KV}
theorem r_strokeOk {c:Nat} (h:RRep w D S O I L) (ok:S.Ok c) (hk:∀ w',RNx w D O I w' S.ticked O I L → k (.tuple #[.bool S.lacks,.bool S.out]) w') : pFn P 159 [ptr D] w k := by
 have := ok.small
 have := ok.strokes
 have := ok.since
 exact r_stroke h (by omega) (by omega) hk
theorem shown_len {c:Nat} (ok:S.Ok c) : S.shown.length ≤ 256 := ok.turns.len.1
theorem shown_nd {c:Nat} (ok:S.Ok c) : (alKeys S.shown).Nodup := ok.shown.nodup
theorem r_turnVar {loc:Nat → Nat} {t:Turn} {kk:KV} (hk:∀ w',w'.heap[w.heap.size]? = some (.cells (rturn loc t).toArray 260 (0,0)) → Fr no w w' → w'.heap.size = w.heap.size + 1 → kk (ptr w.heap.size) w') :
    px P (Instr.alloc 260 true (.tuple #[])) w fun v w => pu P (Instr.storeAt 260 v (turnArg loc t)) w (kk v) := by
  refine s_alloc (zeroValue260 _) ?_
  have b1 := alloc_new w (.cells #[i64 0,.string noB,.string noB,.pointer none] 260)
  have f1 := Fr.alloc no w (.cells #[i64 0,.string noB,.string noB,.pointer none] 260)
  have z1 : (w.alloc (.cells #[i64 0,.string noB,.string noB,.pointer none] 260)).heap.size = w.heap.size + 1 := by simp
  show pu P _ (w.alloc (.cells #[i64 0,.string noB,.string noB,.pointer none] 260)) _
  generalize w.alloc (.cells #[i64 0,.string noB,.string noB,.pointer none] 260) = w1 at *
  refine s_stN (n := 4) (sizeOf260 _) (rturn_len loc t) (rturn_one loc t) b1 (by show 0 + 4 ≤ 4; decide) fun w' h1 h2 h3 => ?_
  refine hk w' ?_ (f1.trans h2 fun b hb => .inr (by omega)) (by omega)
  rw [h1]
  simp
set_option maxHeartbeats 1000000 in
theorem r_create {c:Nat} (h:RRep w D S O I L) (ok:S.Ok c) (name:ByteArray) (hk:∀ w' O' I' L',RNx w D O I w' (S.create name).2 O' I' L' → k (i64 (S.create name).1) w') : pFn P 104 [ptr D,.string name] w k := by
 have hsm := ok.small
 have hrow := ok.row
 refine F104_in _ _ _ _ ?_
 unfold F104_0
 have same : ∀ e,S.create name = (e,S) → k (i64 e) w := by
  intro e he
  have := hk w O I L (by rw [he]; exact RNx.refl h)
  rw [he] at this; exact this
 refine r_off h ?_
 cases ho : S.off with
 | true =>
  refine pC_true (same 50 ?_)
  have hl : S.look name = 50 := by unfold AD.look; rw [ho]; rfl
  unfold AD.create; rw [hl]; rfl
 | false =>
  refine pC_false (r_isName name (s_not ?_))
  cases hn : isName name with
  | false =>
   refine pC_true (same 51 ?_)
   have hl : S.look name = 51 := by unfold AD.look; rw [ho,hn]; rfl
   unfold AD.create; rw [hl]; rfl
  | true =>
   refine pC_false (s_nil (fa245_2 (s_ldb (v := L.nowv) (isAgg242 _) h.disk rfl ?_)))
   have hlen := shown_len ok
   refine r_find h.now.1 (by omega) (fun i hi e => ?_) fun hno => ?_
   ·refine s_ge_t (by omega) (pC_true (same 52 ?_))
    have hg : alGet S.shown name = some S.shown[i].2 := by rw [← e]; exact alGet_at (shown_nd ok) (List.getElem?_eq_getElem hi)
    have hl : S.look name = 0 := by unfold AD.look; rw [ho,hn,hg]; rfl
    unfold AD.create; rw [hl]; rfl
   ·refine s_ge_f (by omega) (pC_false ?_)
    have hl : S.look name = 53 := by unfold AD.look; rw [ho,hn,alGet_none_iff.2 hno]; rfl
    have hcr : S.create name = S.stroke 1 (if S.shown.length ≥ 256 then 56 else 0) (fun S => S.made name) := by unfold AD.create; rw [hl]; rfl
    rw [hcr] at hk
    refine r_strokeOk h ok fun w1 hx1 => s_ext rfl (s_ext rfl ?_)
    have h1 := hx1.rep
    refine s_nil (fa245_2 (s_ldb (v := L.nowv) (isAgg242 _) h1.disk rfl (s_lenS usl242 h1.now.1 ?_)))
    by_cases hfull : S.shown.length ≥ 256
    ·rw [if_pos hfull,stroke_ref _ _ _ _ (by omega)] at hk
     refine s_ge_t (by show (256 : Int) ≤ (S.shown.length : Int); omega) (pC_true (r_end h1 ho S.out 56 fun w2 hx2 => ?_))
     exact hk w2 _ _ _ (hx1.trans hx2)
    ·rw [if_neg hfull] at hk
     refine s_ge_f (by show ¬ (S.shown.length : Int) ≥ 256; omega) (pC_false ?_)
     cases hla : S.lacks with
     | true =>
      rw [stroke_lack _ _ hla] at hk
      exact pC_true (r_end h1 ho S.out 55 fun w2 hx2 => hk w2 _ _ _ (hx1.trans hx2))
     | false =>
      rw [stroke_do _ _ hla] at hk
      refine pC_false (px_ok (w' := w1) (v := .agg #[.slice none 0 0,.slice none 0 0,.slice none 0 0]) (by kernel_rfl) (s_box ?_))
      have bT := alloc_new w1 (.cells #[.slice none 0 0,.slice none 0 0,.slice none 0 0] 258)
      have fT := Fr.alloc no w1 (.cells #[.slice none 0 0,.slice none 0 0,.slice none 0 0] 258)
      have zT : (w1.alloc (.cells #[.slice none 0 0,.slice none 0 0,.slice none 0 0] 258)).heap.size = w1.heap.size + 1 := by simp
      show px P _ (w1.alloc (.cells #[.slice none 0 0,.slice none 0 0,.slice none 0 0] 258)) _
      generalize w1.alloc (.cells #[.slice none 0 0,.slice none 0 0,.slice none 0 0] 258) = w2 at *
      refine px_ok (w' := w2) (v := turnArg (fun _ => w1.heap.size) (.mk name 0)) (by unfold turnArg rturn ptr; kernel_rfl) ?_
      refine r_turnVar (loc := fun _ => w1.heap.size) (t := .mk name 0) fun w3 ha f3 z3 => ?_
      have f13 : Fr no w1 w3 := fT.trans f3 fun b => .inl
      have h3 := h1.fr f13 fun b hb => hb.elim
      have hTO : ¬ O w1.heap.size := fun hO => absurd (h1.lt _ (.inl hO)) (Nat.lt_irrefl _)
      have hTI : ¬ I w1.heap.size := fun hO => absurd (h1.lt _ (.inr hO)) (Nat.lt_irrefl _)
      have hnb : ¬ L.has S.next := fun hh => absurd (h.below _ hh) (Nat.lt_irrefl _)
      have hP := h3.place S.next w1.heap.size hnb { S.ticked.setThing S.next Thg.empty with next := S.next + 1 } rfl rfl rfl rfl rfl (fun t ht => by simp [AD.setThing,AD.ticked,ht]) hTO hTI (by omega) (Nat.lt_succ_self _) (Nat.le_succ _) (f3.get bT id) (by simp [AD.setThing])
      refine r_turned (a := w2.heap.size) (c := .mk name S.next) hP (by show S.row.length ≤ _; omega) (by show S.shown.length ≤ _; omega) (show (alKeys S.shown).Nodup from shown_nd ok) (fun a b e => by cases e) (fun n t e => by injection e with e1 e2; exact .inr e2.symm) ?_ ?_ fun w4 O4 I4 L4 hx4 => ?_
      ·rw [ha]; simp [rturn]
      ·rintro (hO | hO)
       ·have := h1.lt _ (.inl hO); omega
       ·omega
      ·intros
       refine r_end hx4.rep ho S.out 0 fun w5 hx5 => ?_
       refine hk w5 O4 I4 L4 ⟨hx5.rep,?_,fun b hb => hx4.oo b (.inl (hx1.oo b hb)),fun b hb => hx4.ii b hb,?_,?_⟩
       ·have g1 : Fr O w1 w4 := (f13.mono (O' := O) fun b hb => hb.elim).trans hx4.fr fun b hb => hb.imp id fun h => by omega
        have g2 : Fr O w1 w5 := g1.trans hx5.fr fun b hb => by
         rcases hx4.on b hb with (hb | hb) | hb
         ·exact .inl hb
         ·exact .inr (by omega)
         ·exact .inr (by omega)
        exact hx1.fr.trans g2 fun b => .inl
       ·intro b hb
        have := hx1.fr.size
        rcases hx4.on b hb with (hb | hb) | hb
        ·exact .inl hb
        ·exact .inr (by omega)
        ·exact .inr (by omega)
       ·intro b hb
        have := hx1.fr.size
        rcases hx4.in_ b hb with hb | hb
        ·exact .inl hb
        ·exact .inr (by omega)
end
section
variable {w w0:World} {D:Nat} {S S':AD} {O I:Nat → Prop} {L L':RLay} {k:KV}
theorem RNx.of0 {w w1 w':World} {O' I':Nat → Prop} (hf:Fr no w w1) (h:RNx w1 D O I w' S' O' I' L') : RNx w D O I w' S' O' I' L' where
 rep := h.rep
 fr := (hf.mono (O' := O) fun b hb => hb.elim).trans h.fr fun b => .inl
 oo := h.oo
 ii := h.ii
 on := fun b hb => (h.on b hb).imp id (Nat.le_trans hf.size)
 in_ := fun b hb => (h.in_ b hb).imp id (Nat.le_trans hf.size)
theorem r_remove {c:Nat} (h:RRep w D S O I L) (ok:S.Ok c) (name:ByteArray) (hk:∀ w' O' I' L',RNx w D O I w' (S.remove name).2 O' I' L' → k (i64 (S.remove name).1) w') : pFn P 109 [ptr D,.string name] w k := by
 have hsm := ok.small
 have hrow := ok.row
 have hlen := shown_len ok
 refine F109_in _ _ _ _ ?_
 unfold F109_0
 refine r_there h (by omega) (shown_nd ok) name (fun hl i => ?_) fun hl i hi he => ?_
 ·have hr : S.remove name = (S.look name,S) := by unfold AD.remove; rw [if_pos hl]
  rw [hr] at hk
  exact s_ext rfl (s_ext rfl (s_nei_t hl (pC_true (hk w O I L (RNx.refl h)))))
 ·have hr : S.remove name = S.stroke 0 0 (fun T => T.turned (.take name)) := by unfold AD.remove; rw [if_neg (by simp [hl])]
  rw [hr,stroke_plain] at hk
  refine s_ext rfl (s_ext rfl (s_nei_f rfl (pC_false ?_)))
  refine r_strokeOk h ok fun w1 hx1 => s_ext rfl (s_ext rfl ?_)
  have h1 := hx1.rep
  have ho := off_of_look2 S name (.inr hl)
  refine px_ok (w' := w1) (v := turnArg L.loc (.take name)) (by unfold turnArg rturn; kernel_rfl) ?_
  refine r_turnVar fun w2 ha f2 z2 => ?_
  have h2 := h1.fr f2 fun b hb => hb.elim
  refine r_turned h2 (by show S.row.length ≤ _; omega) (by show S.shown.length ≤ _; omega) (show (alKeys S.shown).Nodup from shown_nd ok) (fun a b e => by cases e) (fun n t e => by cases e) ha (fun hO => absurd (h1.lt _ (.inl hO)) (Nat.lt_irrefl _)) fun w4 O4 I4 L4 hx4 => ?_
  intros
  exact r_end hx4.rep ho S.out 0 fun w5 hx5 => hk w5 O4 I4 L4 (hx1.trans (RNx.of0 f2 (hx4.trans hx5)))
theorem r_rename {c:Nat} (h:RRep w D S O I L) (ok:S.Ok c) (a b:ByteArray) (hk:∀ w' O' I' L',RNx w D O I w' (S.rename a b).2 O' I' L' → k (i64 (S.rename a b).1) w') : pFn P 108 [ptr D,.string a,.string b] w k := by
 have hsm := ok.small
 have hrow := ok.row
 have hlen := shown_len ok
 refine F108_in _ _ _ _ _ ?_
 unfold F108_0
 have same : ∀ e,S.rename a b = (e,S) → k (i64 e) w := by
  intro e he
  have := hk w O I L (by rw [he]; exact RNx.refl h)
  rw [he] at this; exact this
 refine r_off h ?_
 cases ho : S.off with
 | true => exact pC_true (same 50 (by unfold AD.rename; rw [ho]; rfl))
 | false =>
  refine pC_false (r_isName a (s_not ?_))
  cases ha : isName a with
  | false =>
   simp only [Bool.not_false]
   repeat (first | refine pG_skf ?_ | refine pG_un ?_)
   exact s_pick_t (pC_true (same 51 (by unfold AD.rename; rw [ho,ha]; rfl)))
  | true =>
   simp only [Bool.not_true]
   refine pG_yes rfl (pG_yes rfl (r_isName b (pG_yes rfl (s_not (s_pick_f ?_)))))
   cases hb : isName b with
   | false => exact pC_true (same 51 (by unfold AD.rename; rw [ho,ha,hb]; rfl))
   | true =>
    refine pC_false (s_nil (fa245_2 (s_ldb (v := L.nowv) (isAgg242 _) h.disk rfl ?_)))
    refine r_find h.now.1 (by omega) (fun i hi e => ?_) fun hno => ?_
    ·have hg : alGet S.shown a = some S.shown[i].2 := by rw [← e]; exact alGet_at (shown_nd ok) (List.getElem?_eq_getElem hi)
     have hr : S.rename a b = S.stroke 0 0 (fun T => if a = b then T else T.turned (.give a b)) := by unfold AD.rename; rw [ho,ha,hb,hg]; rfl
     rw [hr,stroke_plain] at hk
     refine s_lt_f (by omega) (pC_false ?_)
     refine r_strokeOk h ok fun w1 hx1 => s_ext rfl (s_ext rfl (s_nes ?_))
     have h1 := hx1.rep
     by_cases hab : a = b
     ·rw [if_pos hab] at hk
      rw [decide_eq_true hab]
      refine pC_false ?_
      rw [F108_1_eq]
      unfold F108_1
      exact r_end h1 ho S.out 0 fun w5 hx5 => hk w5 _ _ _ (hx1.trans hx5)
     ·rw [if_neg hab] at hk
      rw [decide_eq_false hab]
      refine pC_true (px_ok (w' := w1) (v := turnArg L.loc (.give a b)) (by unfold turnArg rturn; kernel_rfl) ?_)
      refine r_turnVar fun w2 ha2 f2 z2 => ?_
      have h2 := h1.fr f2 fun b hb => hb.elim
      refine r_turned h2 (by show S.row.length ≤ _; omega) (by show S.shown.length ≤ _; omega) (show (alKeys S.shown).Nodup from shown_nd ok) (fun a' b' e => by injection e with e1 e2; subst e1; show alGet S.shown a ≠ none; rw [hg]; simp) (fun n t e => by cases e) ha2 (fun hO => absurd (h1.lt _ (.inl hO)) (Nat.lt_irrefl _)) fun w4 O4 I4 L4 hx4 => ?_
      intros
      rw [F108_1_eq]
      unfold F108_1
      exact r_end hx4.rep ho S.out 0 fun w5 hx5 => hk w5 O4 I4 L4 (hx1.trans (RNx.of0 f2 (hx4.trans hx5)))
    ·exact s_lt_t (by omega) (pC_true (same 53 (by unfold AD.rename; rw [ho,ha,hb,alGet_none_iff.2 hno]; rfl)))
theorem r_syncNames {c:Nat} (h:RRep w D S O I L) (ok:S.Ok c) (hk:∀ w' O' I' L',RNx w D O I w' S.syncNames.2 O' I' L' → k (i64 S.syncNames.1) w') : pFn P 111 [ptr D] w k := by
 refine F111_in _ _ _ ?_
 unfold F111_0
 refine r_off h ?_
 cases ho : S.off with
 | true =>
  have hr : S.syncNames = (50,S) := by unfold AD.syncNames; rw [ho]; rfl
  rw [hr] at hk
  exact pC_true (hk w O I L (RNx.refl h))
 | false =>
  have hr : S.syncNames = S.stroke 2 0 (fun T => { T with safe := T.shown,row := [] }) := by unfold AD.syncNames; rw [ho]; rfl
  rw [hr,stroke_settle] at hk
  refine pC_false (r_strokeOk h ok fun w1 hx1 => s_ext rfl (s_ext rfl (s_not ?_)))
  have h1 := hx1.rep
  cases hout : S.out with
  | true =>
   rw [hout] at hk
   refine pC_false ?_
   rw [F111_1_eq]
   unfold F111_1
   exact r_end h1 ho true 0 fun w5 hx5 => hk w5 _ _ _ (hx1.trans hx5)
  | false =>
   rw [hout] at hk
   obtain ⟨A,cc,ev⟩ : ∃ A c',L.nowv = .slice A S.shown.length c' := by obtain ⟨A,c',e,_⟩ := h.now.1; exact ⟨A,c',e⟩
   refine pC_true (s_nil (fa245_2 (s_ldb (v := L.nowv) (isAgg242 _) h1.disk rfl (s_nil (fa245_3 ?_)))))
   rw [ev]
   refine s_st (sizeOf242 _) rfl rfl h1.disk (by show 3 < 11; decide) ?_
   have d2 := set_same h1.disk 3 (.slice A S.shown.length cc)
   have f2 : Fr (fun b => b = D) w1 (w1.setCell ⟨D,3,none⟩ (.slice A S.shown.length cc)) := Fr.setCell w1 ⟨D,3,none⟩ _
   have z2 : (w1.setCell ⟨D,3,none⟩ (.slice A S.shown.length cc)).heap.size = w1.heap.size := by simp [World.setCell]
   show px P _ (w1.setCell ⟨D,3,none⟩ (.slice A S.shown.length cc)) _
   generalize w1.setCell ⟨D,3,none⟩ (.slice A S.shown.length cc) = w2 at *
   refine s_nil (fa245_4 (s_st (sizeOf243 _) rfl rfl d2 (by show 4 < 11; decide) ?_))
   have d3 := set_same d2 4 (.slice none 0 0)
   have f3 : Fr (fun b => b = D) w1 (w2.setCell ⟨D,4,none⟩ (.slice none 0 0)) := f2.trans (Fr.setCell w2 ⟨D,4,none⟩ _) fun b => .inl
   have z3 : (w2.setCell ⟨D,4,none⟩ (.slice none 0 0)).heap.size = w1.heap.size := by rw [← z2]; simp [World.setCell]
   rw [F111_1_eq]
   unfold F111_1
   generalize w2.setCell ⟨D,4,none⟩ (.slice none 0 0) = w3 at *
   have hnI : ∀ b,I b → ¬ (b = D) := fun b hb e => h.apart b (e ▸ h.oD) hb
   have hx3 : RNx w1 D O I w3 { S.ticked with safe := S.shown,row := [] } O I { L with befv := L.nowv,turnv := .slice none 0 0 } := by
    refine ⟨h1.plain (L' := { L with befv := L.nowv,turnv := .slice none 0 0 }) f3 (fun b hb => .inl (.inl hb)) ?_ rfl ?_ rfl rfl rfl (Nat.le_refl _) (h1.now.fr f3 hnI) (h1.now.fr f3 hnI) ⟨rfl,.inl ⟨rfl,rfl⟩⟩ (own_fr h1.told f3 ?_) (fun b => id) (fun b => id) (by rintro b hb; cases hb) h1.otold h1.apart (by rw [z3]; exact h1.lt),f3.mono fun b hb => .inl (hb ▸ h.oD),fun b => id,fun b => id,fun b => .inl,fun b => .inl⟩
    ·rw [d3]; unfold rcells; rw [ev]; rfl
    ·rintro t (ht | ht | ⟨n,ht⟩)
     ·exact h.sub t (.inl ht)
     ·exact h.sub t (.inl ht)
     ·cases ht
    ·rintro b hb rfl
     obtain ⟨c1,h1'⟩ := own_obj h1.told hb
     exact absurd (two_types h1' h1.disk) (by decide)
   exact r_end hx3.rep ho false 0 fun w5 hx5 => hk w5 _ _ _ (hx1.trans (hx3.trans hx5))
theorem r_plan (h:RRep w D S O I L) (p:PlanA) (hk:∀ w',RNx w D O I w' (S.plans p) O I L → k (.tuple #[]) w') : pFn P 112 [ptr D,planVal p] w k := by
 refine F112_in _ _ _ _ ?_
 unfold F112_0
 refine s_box ?_
 have b1 := alloc_new w (.cells #[i64 p.off,i64 p.from_,i64 p.to_] 85)
 have f1 := Fr.alloc no w (.cells #[i64 p.off,i64 p.from_,i64 p.to_] 85)
 show pFn P _ _ (w.alloc (.cells #[i64 p.off,i64 p.from_,i64 p.to_] 85)) _
 generalize w.alloc (.cells #[i64 p.off,i64 p.from_,i64 p.to_] 85) = w1 at *
 have h1 := h.fr f1 fun b hb => hb.elim
 refine r_off h1 (s_not ?_)
 cases ho : S.off with
 | true =>
  have hr : S.plans p = S := by unfold AD.plans; rw [ho]; rfl
  rw [hr] at hk
  exact pC_false (hk w1 (RNx.quiet h f1))
 | false =>
  have hr : S.plans p = { S with plan := p,since := 0 } := by unfold AD.plans; rw [ho]; rfl
  rw [hr] at hk
  refine pC_true (s_ldAgg (m := 3) (isAgg85 _) (sizeOf85 _) b1 (by show 0 + 3 ≤ 3; decide) ?_)
  refine s_nil (fa245_7 (s_stN (n := 3) (vs := [i64 p.off,i64 p.from_,i64 p.to_]) (sizeOf85 _) rfl (by intro v hv; simp at hv; rcases hv with rfl | rfl | rfl <;> rfl) h1.disk (by show 7 + 3 ≤ 11; decide) fun w2 d2 f2 z2 => ?_))
  refine s_nil (fa245_6 (s_st (sizeOf3 _) rfl rfl d2 (by show 6 < 11; decide) ?_))
  have d3 := set_same d2 6 (i64 0)
  have f3 : Fr (fun b => b = D) w1 (w2.setCell ⟨D,6,none⟩ (i64 0)) := f2.trans (Fr.setCell w2 ⟨D,6,none⟩ _) fun b => .inl
  exact hk _ (RNx.of0 f1 (h1.cell (S' := { S with plan := p,since := 0 }) f3 d3 rfl rfl rfl rfl rfl rfl))
theorem r_size {c:Nat} (h:RRep w D S O I L) (ok:S.Ok c) (name:ByteArray) (hk:k (.tuple #[i64 (AD.sizeOf S name),i64 (S.look name)]) w) : pFn P 155 [ptr D,.string name] w k := by
 have hlen := shown_len ok
 refine F155_in _ _ _ _ ?_
 unfold F155_0
 refine r_there h (by omega) (shown_nd ok) name (fun hl i => ?_) fun hl i hi he => ?_
 ·unfold AD.sizeOf at hk
  rw [if_neg hl] at hk
  exact s_ext rfl (s_ext rfl (s_nei_t hl (pC_true hk)))
 ·unfold AD.sizeOf at hk
  rw [if_pos hl,hl] at hk
  refine s_ext rfl (s_ext rfl (s_nei_f rfl (pC_false ?_)))
  refine s_nil (fa245_2 (s_ldb (v := L.nowv) (isAgg242 _) h.disk rfl (nm_thing h.now.1 hi fun p q => ?_)))
  have e2 : S.shown[i].2 = S.of name := by rw [he]
  rw [e2]
  have hr : L.has (S.of name) := h.sub _ (.inl ⟨name,by rw [← he]; exact List.getElem_mem hi⟩)
  obtain ⟨sv,hv,ps,hb,h1,h2,_⟩ := (h.things _ hr).ex
  obtain ⟨A,c',ev,_⟩ := h2.1.form
  subst ev
  exact s_nil (fa258_1 (s_ldb (v := .slice A (S.things (S.of name)).shown.length c') (isAgg23 _) hb rfl (s_len usl23 hk)))
end
section
variable {w w0:World} {D:Nat} {S S':AD} {O I:Nat → Prop} {L L':RLay} {k:KV}
theorem RNx.setThing {w':World} {M O' I':Nat → Prop} {t:Nat} {x':Thg} {rb':Value} (h:RRep w D S O I L) (ht:L.has t) (hf:Fr M w w') (hM:∀ b,M b → b = L.loc t ∨ sblk (L.trow t) = some b ∨ w.heap.size ≤ b)
    (hO:∀ b,O b → O' b) (hI:∀ b,I b → I' b) (hO2:∀ b,O' b → O b ∨ w.heap.size ≤ b) (hI2:∀ b,I' b → I b ∨ w.heap.size ≤ b) (hT:RTRep w' O' I' (L.loc t) rb' x') (hrb:∀ b,sblk rb' = some b → sblk (L.trow t) = some b ∨ w.heap.size ≤ b) (hap:∀ b,O' b → ¬ I' b) (hlt:∀ b,O' b ∨ I' b → b < w'.heap.size) :
    RNx w D O I w' (S.setThing t x') O' I' { L with trow := fun i => if i = t then rb' else L.trow i } :=
  ⟨h.thing ht hf hM hO hI hT hrb hap hlt,hf.mono fun b hb => (hM b hb).elim (fun e => .inl (e ▸ (h.things t ht).own)) fun e => e.elim (fun e => .inl ((h.things t ht).rown b e)) .inr,hO,hI,hO2,hI2⟩
theorem r_sync {c:Nat} (h:RRep w D S O I L) (ok:S.Ok c) (name:ByteArray) (hk:∀ w' O' I' L',RNx w D O I w' (S.sync name).2 O' I' L' → k (i64 (S.sync name).1) w') : pFn P 110 [ptr D,.string name] w k := by
 have hlen := shown_len ok
 refine F110_in _ _ _ _ ?_
 unfold F110_0
 refine r_there h (by omega) (shown_nd ok) name (fun hl i => ?_) fun hl i hi he => ?_
 ·have hr : S.sync name = (S.look name,S) := by unfold AD.sync; rw [if_pos hl]
  rw [hr] at hk
  exact s_ext rfl (s_ext rfl (s_nei_t hl (pC_true (hk w O I L (RNx.refl h)))))
 ·have hr : S.sync name = S.stroke 2 0 (fun T => T.setThing (S.of name) (T.things (S.of name)).settle) := by unfold AD.sync; rw [if_neg (by simp [hl])]
  rw [hr,stroke_settle] at hk
  have ho := off_of_look2 S name (.inr hl)
  refine s_ext rfl (s_ext rfl (s_nei_f rfl (pC_false ?_)))
  refine r_strokeOk h ok fun w1 hx1 => s_ext rfl (s_ext rfl (s_not ?_))
  have h1 := hx1.rep
  cases hout : S.out with
  | true =>
   rw [hout] at hk
   refine pC_false ?_
   rw [F110_1_eq]
   unfold F110_1
   exact r_end h1 ho true 0 fun w5 hx5 => hk w5 _ _ _ (hx1.trans hx5)
  | false =>
   rw [hout] at hk
   refine pC_true (s_nil (fa245_2 (s_ldb (v := L.nowv) (isAgg242 _) h1.disk rfl (nm_thing h1.now.1 hi fun p q => ?_))))
   have e2 : S.ticked.shown[i].2 = S.of name := by show S.shown[i].2 = _; rw [he]
   rw [e2]
   have hreach : reach S (S.of name) := .inl ⟨name,by rw [← he]; exact List.getElem_mem hi⟩
   have hr : L.has (S.of name) := h.sub _ hreach
   have hT0 := h1.things _ hr
   obtain ⟨sv,hv,ps,hb,g1,g2,g3,g4,g5⟩ := hT0.ex
   have hTok := (ok.thing _ hreach).ok.len.1
   refine s_nil (fa258_1 (s_ldb (v := hv) (isAgg23 _) hb rfl (r_copied g2.1 (by show (S.things (S.of name)).shown.length ≤ _; omega) fun v2 w2 n2 f2 => ?_)))
   obtain ⟨A,c',ev,_⟩ := n2.sb.form
   subst ev
   refine s_nil (fa258_0 (s_st (sizeOf23 _) rfl rfl (f2.get hb id) (by show 0 < 3; decide) ?_))
   have b3 := set_same (f2.get hb id) 0 (.slice A (S.ticked.things (S.of name)).shown.length c')
   have f3 : Fr (fun b => b = L.loc (S.of name)) w2 (w2.setCell ⟨L.loc (S.of name),0,none⟩ (.slice A (S.ticked.things (S.of name)).shown.length c')) := Fr.setCell w2 ⟨L.loc (S.of name),0,none⟩ _
   have z3 : (w2.setCell ⟨L.loc (S.of name),0,none⟩ (.slice A (S.ticked.things (S.of name)).shown.length c')).heap.size = w2.heap.size := by simp [World.setCell]
   show px P _ (w2.setCell ⟨L.loc (S.of name),0,none⟩ (.slice A (S.ticked.things (S.of name)).shown.length c')) _
   generalize w2.setCell ⟨L.loc (S.of name),0,none⟩ (.slice A (S.ticked.things (S.of name)).shown.length c') = w3 at *
   refine s_nil (fa258_2 (s_st (sizeOf256 _) rfl rfl b3 (by show 2 < 3; decide) ?_))
   have b4 := set_same b3 2 (.slice none 0 0)
   have f4 : Fr (fun b => b = L.loc (S.of name)) w2 (w3.setCell ⟨L.loc (S.of name),2,none⟩ (.slice none 0 0)) := f3.trans (Fr.setCell w3 ⟨L.loc (S.of name),2,none⟩ _) fun b => .inl
   have z4 : (w3.setCell ⟨L.loc (S.of name),2,none⟩ (.slice none 0 0)).heap.size = w2.heap.size := by rw [← z3]; simp [World.setCell]
   rw [F110_1_eq]
   unfold F110_1
   generalize w3.setCell ⟨L.loc (S.of name),2,none⟩ (.slice none 0 0) = w4 at *
   have f14 : Fr (fun b => b = L.loc (S.of name)) w1 w4 := (f2.mono fun b hb => hb.elim).trans f4 fun b => .inl
   have hnI : ∀ b,I b → ¬ (b = L.loc (S.of name)) := fun b hb e => h1.apart b (e ▸ hT0.own) hb
   have hnew := n2.blk
   have hx4 := RNx.setThing (x' := (S.ticked.things (S.of name)).settle) (rb' := .slice none 0 0) (O' := O) (I' := fun b => I b ∨ sblk (.slice A (S.ticked.things (S.of name)).shown.length c') = some b) h1 hr f14 (fun b => .inl) (fun b => id) (fun b => .inl) (fun b => .inl) (fun b hb => hb.imp id fun hb => (hnew b hb).1)
    ⟨⟨.slice A (S.ticked.things (S.of name)).shown.length c',hv,[],b4,⟨n2.sb.fr f4 fun b hb e => ?_,fun b hb => .inr hb⟩,(g2.fr f14 hnI).mono fun b => .inl,⟨rfl,.inl ⟨rfl,rfl⟩⟩,rfl,by simp⟩,hT0.own,by rintro b hb; cases hb⟩ (by rintro b hb; cases hb) ?_ ?_
   ·exact r_end hx4.rep ho false 0 fun w5 hx5 => hk w5 _ _ _ (hx1.trans (hx4.trans hx5))
   ·have := (hnew b hb).1
    have := h1.lt b (.inl (e ▸ hT0.own)); omega
   ·rintro b hb (hi' | hi')
    ·exact h1.apart b hb hi'
    ·have := (hnew b hi').1
     have := h1.lt b (.inl hb); omega
   ·rintro b (hb | hb | hb)
    ·have := h1.lt b (.inl hb)
     have := f2.size; omega
    ·have := h1.lt b (.inr hb)
     have := f2.size; omega
    ·have := (hnew b hb).2; omega
theorem chCells_len (p:Chg × Value) : (chCells p).length = 3 := by obtain ⟨c,s⟩ := p; cases c <;> rfl
theorem ChgOk.cells {p:Chg × Value} (h:ChgOk w I p) : ∀ u ∈ chCells p,u.oneCell' = true := by
 obtain ⟨c,s⟩ := p
 cases c with
 | wr a d =>
  obtain ⟨A,cp,rfl,_⟩ := SBytes.form (SB.fr h (Fr.refl no w) fun _ _ h => h).1
  intro u hu; simp [chCells] at hu; rcases hu with rfl | rfl | rfl <;> rfl
 | cut n =>
  obtain ⟨A,cp,rfl,_⟩ := SBytes.form (SB.fr h (Fr.refl no w) fun _ _ h => h).1
  intro u hu; simp [chCells] at hu; rcases hu with rfl | rfl | rfl <;> rfl
theorem s_ldChg {p:Chg × Value} {a:Nat} {w:World} {k:KV} (ha:w.heap[a]? = some (.cells (chCells p).toArray 268 (0,0))) (hk:k (.agg (chCells p).toArray) w) : px P (Instr.loadAt 268 (ptr a)) w k := by
 refine s_ldAgg (m := 3) (isAgg268 _) (sizeOf268 _) ha (by simp [chCells_len]) ?_
 have : (((chCells p).toArray.toList.drop 0).take 3).toArray = (chCells p).toArray := by rw [List.drop_zero,List.take_of_length_le (by simp [chCells_len])]
 rw [this]; exact hk
theorem r_chgVar {p:Chg × Value} {kk:KV} (hp:∀ u ∈ chCells p,u.oneCell' = true) (hk:∀ w',w'.heap[w.heap.size]? = some (.cells (chCells p).toArray 268 (0,0)) → Fr no w w' → w'.heap.size = w.heap.size + 1 → kk (ptr w.heap.size) w') :
    px P (Instr.alloc 268 true (.tuple #[])) w fun v w => pu P (Instr.storeAt 268 v (.agg (chCells p).toArray)) w (kk v) := by
  refine s_alloc (zeroValue268 _) ?_
  have b1 := alloc_new w (.cells #[.bool false,i64 0,.slice none 0 0] 268)
  have f1 := Fr.alloc no w (.cells #[.bool false,i64 0,.slice none 0 0] 268)
  have z1 : (w.alloc (.cells #[.bool false,i64 0,.slice none 0 0] 268)).heap.size = w.heap.size + 1 := by simp
  show pu P _ (w.alloc (.cells #[.bool false,i64 0,.slice none 0 0] 268)) _
  generalize w.alloc (.cells #[.bool false,i64 0,.slice none 0 0] 268) = w1 at *
  refine s_stN (n := 3) (sizeOf268 _) (chCells_len p) hp b1 (by show 0 + 3 ≤ 3; decide) fun w' h1 h2 h3 => ?_
  refine hk w' ?_ (f1.trans h2 fun b hb => .inr (by omega)) (by omega)
  rw [h1]
  simp
set_option maxHeartbeats 1000000 in
/-- A change put behind a thing's row,its bytes being changed by now. -/
theorem r_added {w2:World} {t a:Nat} {sv hv2:Value} {p:Chg × Value} {kk:Value → Value → Value → Value → Value → Value → Value → KV} (h:RRep w D S O I L) (ht:L.has t) (hf:Fr (fun b => b = L.loc t) w w2)
    (hrow:(S.things t).row.length ≤ 1099511627776) (hsv:SB w I sv (S.things t).safe) (hb:w2.heap[L.loc t]? = some (.cells #[sv,hv2,L.trow t] 258 (0,0))) (hhv:SBytes w2 hv2 (p.1.made (S.things t).shown p.1.units)) (hhb:∀ b,sblk hv2 = some b → I b ∨ (w.heap.size ≤ b ∧ b < w2.heap.size))
    (ha:w2.heap[a]? = some (.cells (chCells p).toArray 268 (0,0))) (haw:w.heap.size ≤ a) (hp:ChgOk w2 (fun b => w.heap.size ≤ b ∧ b < w2.heap.size ∧ b ≠ a) p)
    (hhva:sblk hv2 ≠ some a)
    (hk:∀ w' O' I' L',RNx w D O I w' (S.setThing t ((S.things t).add p.1)) O' I' L' → ∀ x1 x2 x3 x4 x5 x6 x7 x8,kk x1 x2 x3 x4 x5 x6 x7 x8 w') :
    ∃ S_ : World → Prop,S_ w2.drew ∧ (fun w =>
      pq P S_ (nilSem (ptr (L.loc t))) fun v95 =>
      pq P S_ (Instr.fieldAt 258 v95 2) fun v96 =>
      pq P S_ (Instr.loadAt 256 v96) fun v97 =>
      pq P S_ (Instr.loadAt 268 (ptr a)) fun v98 =>
      px P (Instr.buildSlice 256 1 #[(0,v98)]) w fun v99 w => S_ w ∧ (
      px P (bSem .append #[256,256] 256 #[v97,v99]) w fun v100 w => S_ w ∧ (
      pq P S_ (nilSem (ptr (L.loc t))) fun v101 =>
      pq P S_ (Instr.fieldAt 258 v101 2) fun v102 =>
      pu P (Instr.storeAt 256 v102 v100) w fun w => (
      kk v95 v96 v97 v98 v99 v100 v101 v102 w)))) w2.drew := by
  have hT0 := h.things t ht
  obtain ⟨sv0,hv0,ps,hb0,g1,g2,g3,g4,g5⟩ := hT0.ex
  have hTw : L.loc t < w.heap.size := h.lt _ (.inl hT0.own)
  have hTa : L.loc t ≠ a := by omega
  have hrT : ∀ b,sblk (L.trow t) = some b → b ≠ L.loc t ∧ b < w.heap.size := fun b hb' => by
    refine ⟨?_,h.lt b (.inl (hT0.rown b hb'))⟩
    rintro rfl
    obtain ⟨c1,h1⟩ := hT0.robj hb'
    exact absurd (two_types h1 hb0) (by decide)
  have fd : Fr no w2 w2.drew := Fr.drew _ _
  refine ⟨fun u => u.heap[L.loc t]? = some (.cells #[sv,hv2,L.trow t] 258 (0,0)) ∧ u.heap[a]? = some (.cells (chCells p).toArray 268 (0,0)),⟨hb,ha⟩,?_⟩
  refine q_of _ (fun w_ hS => s_nil ⟨rfl,rfl⟩) (q_of _ (fun w_ hS => fa258_2 ⟨rfl,rfl⟩) (q_of (L.trow t) (fun w_ hS => s_ldb (isAgg256 _) hS.1 rfl ⟨rfl,rfl⟩) (q_of (.agg (chCells p).toArray) (fun w_ hS => s_ldChg hS.2 ⟨rfl,rfl⟩) ?_)))
  refine px_ok (w' := w2.drew.alloc (.cells (chCells p).toArray 268)) (v := .slice (some ⟨w2.drew.heap.size,0,none⟩) 1 1) (by obtain ⟨c,s⟩ := p; cases c <;> kernel_rfl) ?_
  have f3 := Fr.alloc no w2.drew (.cells (chCells p).toArray 268)
  have ho3 := own_lit w2.drew 0 268 3 (chCells p).toArray 1 (Nat.zero_le _) (by unfold maxLen; omega) (by simp [chCells_len])
  have z3 : (w2.drew.alloc (.cells (chCells p).toArray 268)).heap.size = w2.heap.size + 1 := by simp
  generalize w2.drew.alloc (.cells (chCells p).toArray 268) = w3 at *
  have f23 : Fr no w2 w3 := fd.trans f3 fun b => .inl
  refine ⟨⟨f23.get hb id,f23.get ha id⟩,?_⟩
  have own2 : w2.ownsRow 0 268 3 (L.trow t) (S.things t).row.length (ps.flatMap chCells) := own_fr g3 hf fun b hb' => (hrT b hb').1
  refine ap256 (own_fr own2 f23 fun _ _ h => h) (Src.of_own ho3) (by simpa using hp.cells) (by omega) (Nat.zero_le _) fun v4 w4 h4 f4 hb4 => ?_
  have b4 := f4.get (f23.get hb id) fun hb' => (hrT _ hb'.symm).1 rfl
  have a4 := f4.get (f23.get ha id) fun hb' => by have := (hrT _ hb'.symm).2; omega
  refine ⟨⟨b4,a4⟩,?_⟩
  refine q_of _ (fun w_ hS => s_nil ⟨rfl,rfl⟩) (q_of _ (fun w_ hS => fa258_2 ⟨rfl,rfl⟩) ?_)
  have v4o := own_one h4
  refine s_st (sizeOf256 _) v4o.1 v4o.2 b4 (by show 2 < 3; decide) ?_
  have b5 := set_same b4 2 v4
  have f5 : Fr (fun b => b = L.loc t) w4 (w4.setCell ⟨L.loc t,2,none⟩ v4) := Fr.setCell w4 ⟨L.loc t,2,none⟩ _
  have z5 : (w4.setCell ⟨L.loc t,2,none⟩ v4).heap.size = w4.heap.size := by simp [World.setCell]
  have z34 := f4.size
  have zw := hf.size
  have hblk4 : ∀ b,sblk v4 = some b → sblk (L.trow t) = some b ∨ w2.heap.size ≤ b := by
    intro b hb'
    rcases hb4 with e | e
    · exact .inl (e ▸ hb')
    · rw [e] at hb'; injection hb' with hb'; exact .inr (by omega)
  have hv4T : ∀ b,sblk v4 = some b → b ≠ L.loc t := by
    intro b hb'
    rcases hblk4 b hb' with e | e
    · exact (hrT b e).1
    · omega
  have v4lt : ∀ b,sblk v4 = some b → b < w4.heap.size := fun b hb' => (own_blk_lt h4 hb').2
  have hrow5 : w4.ownsRow 0 268 3 v4 ((S.things t).row.length + 1) ((ps ++ [p]).flatMap chCells) := by
    rw [List.flatMap_append]
    simpa using h4
  have hrow6 : (w4.setCell ⟨L.loc t,2,none⟩ v4).ownsRow 0 268 3 v4 ((S.things t).row.length + 1) ((ps ++ [p]).flatMap chCells) := own_fr hrow5 f5 hv4T
  show kk _ _ _ _ _ _ _ _ (w4.setCell ⟨L.loc t,2,none⟩ v4)
  generalize w4.setCell ⟨L.loc t,2,none⟩ v4 = w5 at *
  have g25 : Fr (fun b => b = L.loc t ∨ sblk (L.trow t) = some b) w2 w5 := ((f23.mono fun b hb' => hb'.elim).trans f4 (fun b hb' => .inl (.inr hb'.symm))).trans f5 fun b hb' => .inl (.inl hb')
  have g05 : Fr (fun b => b = L.loc t ∨ sblk (L.trow t) = some b) w w5 := (hf.mono fun b hb' => .inl (.inl hb')).trans g25 fun b => .inl
  have hnI : ∀ b,I b → ¬ (b = L.loc t ∨ sblk (L.trow t) = some b) := by
    rintro b hb' (rfl | e)
    · exact h.apart _ hT0.own hb'
    · exact h.apart b (hT0.rown b e) hb'
  have hnN : ∀ b,w.heap.size ≤ b → ¬ (b = L.loc t ∨ sblk (L.trow t) = some b) := by
    rintro b hb' (rfl | e)
    · omega
    · have := (hrT b e).2; omega
  refine hk w5 (fun b => O b ∨ sblk v4 = some b) (fun b => I b ∨ (w.heap.size ≤ b ∧ b < w2.heap.size ∧ b ≠ a)) _ (RNx.setThing h ht g05 (fun b hb' => hb'.imp id .inl) (fun b => .inl) (fun b => .inl) (fun b hb' => hb'.elim .inl fun e => (hblk4 b e).elim (fun e' => .inl (hT0.rown b e')) fun e' => .inr (Nat.le_trans zw e')) (fun b hb' => hb'.imp id fun e => e.1)
    ⟨⟨sv,hv2,ps ++ [p],b5,(hsv.fr g05 hnI).mono fun b => .inl,⟨hhv.fr g25 fun b hb' => (hhb b hb').elim (hnI b) fun e => hnN b e.1,fun b hb' => (hhb b hb').imp id fun e => ⟨e.1,e.2,fun e' => hhva (e' ▸ hb')⟩⟩,by simpa [Thg.add] using hrow6,by simp [Thg.add,g4],fun q hq => ?_⟩,.inl hT0.own,fun b hb' => .inr hb'⟩ (fun b hb' => (hblk4 b hb').imp id (Nat.le_trans zw)) ?_ ?_) _ _ _ _ _ _ _ _
  · rcases List.mem_append.1 hq with hq | hq
    · exact ((g5 q hq).fr g05 hnI).mono fun b => .inl
    · rw [List.mem_singleton] at hq; subst hq
      exact (hp.fr g25 fun b hb' => hnN b hb'.1).mono fun b => .inr
  · rintro b (hb' | hb') (hi | hi)
    · exact h.apart b hb' hi
    · have := h.lt b (.inl hb'); omega
    · rcases hblk4 b hb' with e | e
      · exact h.apart b (hT0.rown b e) hi
      · have := h.lt b (.inr hi); omega
    · rcases hblk4 b hb' with e | e
      · have := (hrT b e).2; omega
      · omega
  · have z23 := f23.size
    rintro b ((hb' | hb') | (hb' | hb'))
    · have := h.lt b (.inl hb'); omega
    · have := v4lt b hb'; omega
    · have := h.lt b (.inr hb'); omega
    · omega
end
section
variable {w w0:World} {D:Nat} {S S':AD} {O I:Nat → Prop} {L L':RLay} {k:KV}
theorem Src.fr0 {O:Nat → Prop} {w w':World} {x:Value} {size m:Nat} {cs:List Value} (h:Src w x size m cs) (hs:0 < size) (hf:Fr O w w') (hn:0 < m → ∀ b,sblk x = some b → ¬ O b) : Src w' x size m cs := by
 by_cases h0 : 0 < m
 ·exact h.fr hs hf (hn h0)
 ·obtain ⟨A,c,e,hc,hl,_⟩ := h
  exact ⟨A,c,e,hc,hl,fun h1 => absurd h1 h0⟩
theorem SBytes.fr0 {O:Nat → Prop} {w w':World} {x:Value} {bs:Bytes} (h:SBytes w x bs) (hf:Fr O w w') (hn:0 < bs.length → ∀ b,sblk x = some b → ¬ O b) : SBytes w' x bs := Src.fr0 h (by omega) hf hn
set_option maxHeartbeats 1000000 in
theorem r_truncate {c:Nat} (h:RRep w D S O I L) (ok:S.Ok c) (name:ByteArray) (n:Int) (hk:∀ w' O' I' L',RNx w D O I w' (S.truncate name n).2 O' I' L' → k (i64 (S.truncate name n).1) w') : pFn P 107 [ptr D,.string name,i64 n] w k := by
 have hlen := shown_len ok
 have hsm := ok.small
 refine F107_in _ _ _ _ _ ?_
 unfold F107_0
 refine r_there h (by omega) (shown_nd ok) name (fun hl i => ?_) fun hl i hi he => ?_
 ·have hr : S.truncate name n = (S.look name,S) := by unfold AD.truncate; rw [if_pos hl]
  rw [hr] at hk
  exact s_ext rfl (s_ext rfl (s_nei_t hl (pC_true (hk w O I L (RNx.refl h)))))
 ·have ho := off_of_look2 S name (.inr hl)
  refine s_ext rfl (s_ext rfl (s_nei_f rfl (pC_false ?_)))
  refine s_nil (fa245_2 (s_ldb (v := L.nowv) (isAgg242 _) h.disk rfl (nm_thing h.now.1 hi fun p q => ?_)))
  have e2 : S.shown[i].2 = S.of name := by rw [he]
  rw [e2]
  have hreach : reach S (S.of name) := .inl ⟨name,by rw [← he]; exact List.getElem_mem hi⟩
  have hr : L.has (S.of name) := h.sub _ hreach
  have hTok := (ok.thing _ hreach).ok.len.1
  have hTrow := (ok.thing _ hreach).row
  have bad : n < 0 ∨ n > (S.bytes name).length → k (i64 54) w := by
   intro hb
   have hr : S.truncate name n = (54,S) := by unfold AD.truncate; rw [if_neg (by simp [hl]),if_pos hb]
   rw [hr] at hk
   exact hk w O I L (RNx.refl h)
  have eb : S.bytes name = (S.things (S.of name)).shown := rfl
  by_cases n0 : n < 0
  ·refine s_lt_t n0 ?_
   repeat (first | refine pG_skf ?_ | refine pG_un ?_)
   exact s_pick_t (pC_true (bad (.inl n0)))
  obtain ⟨sv,hv,ps,hb,g1,g2,g3,g4,g5⟩ := (h.things _ hr).ex
  obtain ⟨A,c',ev,hc'⟩ := g2.1.form
  subst ev
  refine s_lt_f n0 (pG_yes rfl (pG_yes rfl (pG_yes rfl (s_nil (pG_yes rfl (fa258_1 (pG_yes rfl (s_ldb (v := .slice A (S.things (S.of name)).shown.length c') (isAgg23 _) hb rfl (pG_yes rfl (s_len usl23 (pG_yes rfl ?_)))))))))))
  by_cases n1 : n > (S.things (S.of name)).shown.length
  ·exact s_gt_t n1 (s_pick_f (pC_true (bad (.inr n1))))
  refine s_gt_f n1 (s_pick_f (pC_false ?_))
  have hr2 : S.truncate name n = S.stroke 0 0 (fun T => T.setThing (S.of name) ((T.things (S.of name)).add (.cut n.toNat))) := by unfold AD.truncate; rw [if_neg (by simp [hl]),if_neg (by rw [eb]; omega)]
  rw [hr2,stroke_plain] at hk
  refine r_strokeOk h ok fun w1 hx1 => s_ext rfl (s_ext rfl ?_)
  have h1 := hx1.rep
  have hT0 := h1.things _ hr
  obtain ⟨sv,hv,ps,hb,g1,g2,g3,g4,g5⟩ := hT0.ex
  obtain ⟨m,rfl⟩ : ∃ m : Nat,n = (m:Int) := ⟨n.toNat,by omega⟩
  refine px_ok (w' := w1) (v := .agg (chCells (.cut m,.slice none 0 0)).toArray) (by unfold chCells; kernel_rfl) ?_
  have hp0 : ∀ (u:World) (J:Nat → Prop),ChgOk u J (.cut m,.slice none 0 0) := fun u J => ⟨SBytes.nil u,by rintro b hb; cases hb⟩
  refine r_chgVar (hp0 w1 no).cells fun w2 ha f2 z2 => ?_
  have hb2 := f2.get hb id
  have hg2 : SBytes w2 hv (S.things (S.of name)).shown := g2.1.fr f2 fun _ _ h => h
  have fd : Fr no w2 w2.drew := Fr.drew _ _
  refine ⟨fun u => u.heap[L.loc (S.of name)]? = some (.cells #[sv,hv,L.trow (S.of name)] 258 (0,0)) ∧ u.heap[w1.heap.size]? = some (.cells (chCells (.cut m,.slice none 0 0)).toArray 268 (0,0)),⟨hb2,ha⟩,?_⟩
  refine q_of _ (fun w_ hS => s_nil ⟨rfl,rfl⟩) (q_of _ (fun w_ hS => fa258_1 ⟨rfl,rfl⟩) (q_of hv (fun w_ hS => s_ldb (isAgg23 _) hS.1 rfl ⟨rfl,rfl⟩) (q_of _ (fun w_ hS => s_ldChg hS.2 ⟨rfl,rfl⟩) ?_)))
  refine r_change (p := (.cut m,.slice none 0 0)) (u := 1) (hp0 w2.drew no) (hg2.fr fd fun _ _ h => h) (Nat.le_refl _) (by omega) (fun n e _ => by injection e with e; subst e; omega) (fun a d e => by cases e) fun v3 w3 h3 hb3 f3 => ?_
  have f23 : Fr no w2 w3 := fd.trans f3 fun b => .inl
  refine ⟨⟨f23.get hb2 id,f23.get ha id⟩,?_⟩
  refine q_of _ (fun w_ hS => s_nil ⟨rfl,rfl⟩) (q_of _ (fun w_ hS => fa258_1 ⟨rfl,rfl⟩) ?_)
  obtain ⟨A3,c3,ev3,_⟩ := h3.form
  subst ev3
  refine s_st (sizeOf23 _) rfl rfl (f23.get hb2 id) (by show 1 < 3; decide) ?_
  have b4 := set_same (f23.get hb2 id) 1 (.slice A3 (Chg.made (S.things (S.of name)).shown 1 (.cut m)).length c3)
  have f4 := Fr.setCell w3 ⟨L.loc (S.of name),1,none⟩ (.slice A3 (Chg.made (S.things (S.of name)).shown 1 (.cut m)).length c3)
  have z4 : (w3.setCell ⟨L.loc (S.of name),1,none⟩ (.slice A3 (Chg.made (S.things (S.of name)).shown 1 (.cut m)).length c3)).heap.size = w3.heap.size := by simp [World.setCell]
  have a4 := set_other 1 (.slice A3 (Chg.made (S.things (S.of name)).shown 1 (.cut m)).length c3) (show w1.heap.size ≠ L.loc (S.of name) from fun e => absurd (h1.lt _ (.inl hT0.own)) (by omega)) (f23.get ha id)
  have hTw := h1.lt _ (.inl hT0.own)
  have hIb : ∀ b,sblk (.slice A3 (Chg.made (S.things (S.of name)).shown 1 (.cut m)).length c3) = some b → I b ∨ (w2.heap.size ≤ b ∧ b < w3.heap.size) := fun b hb' => (hb3 b hb').imp (g2.2 b) id
  have h4 : SBytes (w3.setCell ⟨L.loc (S.of name),1,none⟩ (.slice A3 (Chg.made (S.things (S.of name)).shown 1 (.cut m)).length c3)) (.slice A3 (Chg.made (S.things (S.of name)).shown 1 (.cut m)).length c3) (Chg.made (S.things (S.of name)).shown 1 (.cut m)) :=
   h3.fr f4 fun b hb' e => (hIb b hb').elim (fun hi => h1.apart b (by rw [show b = L.loc (S.of name) from e]; exact hT0.own) hi) fun hi => by have : b = L.loc (S.of name) := e; omega
  show ∃ S_ : World → Prop,S_ (w3.setCell ⟨L.loc (S.of name),1,none⟩ (.slice A3 (Chg.made (S.things (S.of name)).shown 1 (.cut m)).length c3)).drew ∧ _
  generalize w3.setCell ⟨L.loc (S.of name),1,none⟩ (.slice A3 (Chg.made (S.things (S.of name)).shown 1 (.cut m)).length c3) = w4 at *
  have f14 : Fr (fun b => b = L.loc (S.of name)) w1 w4 := ((f2.trans f23 fun b => .inl).mono fun b hb' => hb'.elim).trans f4 fun b => .inl
  refine r_added (p := (.cut m,.slice none 0 0)) h1 hr f14 (by show (S.things (S.of name)).row.length ≤ _; omega) g1 b4 h4 (fun b hb' => (hIb b hb').imp id fun e => by omega) a4 (Nat.le_refl _) (hp0 _ _) (fun e => (hIb _ e).elim (fun hi => absurd (h1.lt _ (.inr hi)) (Nat.lt_irrefl _)) fun hi => by omega) fun w5 O5 I5 L5 hx5 => ?_
  intros
  exact r_end hx5.rep ho S.out 0 fun w6 hx6 => hk w6 _ _ _ (hx1.trans (hx5.trans hx6))
set_option maxHeartbeats 1000000 in
/-- Is there no room: by the plan,or by what is used? -/
theorem r_full {lacks:Bool} {more:Int} {o1 o2 o3 o4 o5 o6:Operand} {kk:Value → Value → Value → Value → Value → Value → Value → Value → Value → Value → Value → Value → Value → KV} (h:RRep w D S O I L) (hl:S.shown.length ≤ 1152921504606846976) (hu:S.used ≤ 268435456) (hm:-4611686018427387904 ≤ more ∧ more ≤ 4611686018427387904)
    (hk:∀ x1 x2 x3 x4 x5 x6 x7 x8 x9 x10 x11 x12 x13,kk x1 x2 x3 x4 x5 x6 x7 x8 x9 x10 x11 x12 x13 (.bool (lacks || (decide (more > 0) && decide ((S.used : Int) + more > S.room)))) w.drew) :
    ∃ S_ : World → Prop,S_ w.drew ∧ (fun w =>
      pGq (.bool lacks) false (fun k => k (i64 more)) (next := fun v61 =>
      pGq (.bool lacks) false (fun k => pq P S_ (binSem BinOp.gtr 3 o1 o2 v61 (i64 0)) k) (next := fun v62 =>
      pGq (.bool lacks) false (fun k => k v62) (next := fun v63 =>
      pGq v63 true (fun k => k (ptr D)) (next := fun v64 =>
      pGq v63 true (fun k => k (i64 more)) (next := fun v66 =>
      pGq v63 true (fun k => k (ptr D)) (next := fun v68 =>
      pGq v63 true (fun k => pq P S_ (nilSem v68) k) (next := fun v69 =>
      pGq v63 true (fun k => pq P S_ (Instr.fieldAt 245 v69 1) k) (next := fun v70 =>
      pGq v63 true (fun k => pq P S_ (Instr.loadAt 3 v70) k) (next := fun v71 =>
      pG v63 true (fun k => pFn P 189 [v64] w k) (w := w) (next := fun v65 w => S_ w ∧ (
      pGq v63 true (fun k => pq P S_ (binSem BinOp.add 3 o3 o4 v65 v66) k) (next := fun v67 =>
      pGq v63 true (fun k => pq P S_ (binSem BinOp.gtr 3 o5 o6 v67 v71) k) (next := fun v72 =>
      pGq (.bool lacks) false (fun k => pq P S_ (pickSem v63 v72 (.bool false)) k) (next := fun v73 =>
      pq P S_ (pickSem (.bool lacks) (.bool true) v73) fun v74 =>
      kk v61 v62 v63 v64 v66 v68 v69 v70 v71 v65 v67 v72 v73 v74 w))))))))))))))) w.drew := by
  have hd : RRep w.drew D S O I L := h.fr (Fr.drew no _) fun b hb => hb.elim
  refine ⟨fun u => u.heap[D]? = some (.cells (rcells S L) 245 (0,0)),hd.disk,?_⟩
  cases lacks with
  | true =>
    repeat (first | refine pGq_skf ?_ | refine pGq_un ?_)
    refine pG_un ⟨hd.disk,?_⟩
    repeat (first | refine pGq_skf ?_ | refine pGq_un ?_)
    exact q_of (.bool true) (fun w_ hS => s_pick_t ⟨rfl,rfl⟩) (hk _ _ _ _ _ _ _ _ _ _ _ _ _)
  | false =>
    simp only [Bool.false_or] at hk
    refine pGq_yes rfl (pGq_yes rfl ?_)
    by_cases m0 : more > 0
    · rw [decide_eq_true m0,Bool.true_and] at hk
      refine q_of (.bool true) (fun w_ hS => s_gt_t m0 ⟨rfl,rfl⟩) (pGq_yes rfl (pGq_yes rfl (pGq_yes rfl (pGq_yes rfl (pGq_yes rfl ?_)))))
      refine q_of _ (fun w_ hS => s_nil ⟨rfl,rfl⟩) (pGq_yes rfl (q_of _ (fun w_ hS => fa245_1 ⟨rfl,rfl⟩) (pGq_yes rfl (q_of (i64 S.room) (fun w_ hS => s_ldb (isAgg3 _) hS rfl ⟨rfl,rfl⟩) ?_))))
      refine pG_yes rfl (r_used hd hl (by omega) ⟨hd.disk,?_⟩)
      refine pGq_yes rfl (q_of (i64 ((S.used : Int) + more)) (fun w_ hS => s_add_in (by omega) ⟨rfl,rfl⟩) (pGq_yes rfl (q_of _ (fun w_ hS => s_gt ⟨rfl,rfl⟩) (pGq_yes rfl ?_))))
      exact q_of _ (fun w_ hS => s_pick_t ⟨rfl,rfl⟩) (q_of _ (fun w_ hS => s_pick_f ⟨rfl,rfl⟩) (hk _ _ _ _ _ _ _ _ _ _ _ _ _))
    · rw [decide_eq_false m0,Bool.false_and] at hk
      refine q_of (.bool false) (fun w_ hS => s_gt_f m0 ⟨rfl,rfl⟩) (pGq_yes rfl ?_)
      repeat (first | refine pGq_sk ?_ | refine pGq_un ?_)
      refine pG_sk ⟨hd.disk,?_⟩
      repeat (first | refine pGq_sk ?_ | refine pGq_un ?_)
      exact pGq_yes rfl (q_of _ (fun w_ hS => s_pick_f ⟨rfl,rfl⟩) (q_of _ (fun w_ hS => s_pick_f ⟨rfl,rfl⟩) (hk _ _ _ _ _ _ _ _ _ _ _ _ _)))
set_option maxHeartbeats 2000000 in
theorem r_writeAt {c:Nat} (h:RRep w D S O I L) (ok:S.Ok c) (name:ByteArray) (at_:Int) (hat:-9223372036854775808 ≤ at_ ∧ at_ ≤ 9223372036854775807) {dv:Value} {d:Bytes} (hd:SBytes w dv d) (hdO:0 < d.length → ∀ b,sblk dv = some b → ¬ O b) (hdl:d.length ≤ 549755813888) (hk:∀ w' O' I' L',RNx w D O I w' (S.writeAt name at_ d).2 O' I' L' → k (i64 (S.writeAt name at_ d).1) w') : pFn P 163 [ptr D,.string name,i64 at_,dv] w k := by
  have hlen := shown_len ok
  have hsm := ok.small
  refine F163_in _ _ _ _ _ _ ?_
  unfold F163_0
  refine r_there h (by omega) (shown_nd ok) name (fun hl i => ?_) fun hl i hi he => ?_
  · have hr : S.writeAt name at_ d = (S.look name,S) := by unfold AD.writeAt; rw [if_pos hl]
    rw [hr] at hk
    exact s_ext rfl (s_ext rfl (s_nei_t hl (pC_true (hk w O I L (RNx.refl h)))))
  · have ho := off_of_look2 S name (.inr hl)
    refine s_ext rfl (s_ext rfl (s_nei_f rfl (pC_false ?_)))
    refine s_nil (fa245_2 (s_ldb (v := L.nowv) (isAgg242 _) h.disk rfl (nm_thing h.now.1 hi fun p q => ?_)))
    have e2 : S.shown[i].2 = S.of name := by rw [he]
    rw [e2]
    have hreach : reach S (S.of name) := .inl ⟨name,by rw [← he]; exact List.getElem_mem hi⟩
    have hr : L.has (S.of name) := h.sub _ hreach
    have hTok := (ok.thing _ hreach).ok.len.1
    have hTrow := (ok.thing _ hreach).row
    have hused := used_le ok
    have hroom := ok.room
    have bad : at_ < 0 ∨ at_ > (S.bytes name).length → k (i64 54) w := by
      intro hb
      have hr : S.writeAt name at_ d = (54,S) := by unfold AD.writeAt; rw [if_neg (by simp [hl]),if_pos hb]
      rw [hr] at hk
      exact hk w O I L (RNx.refl h)
    have eb : S.bytes name = (S.things (S.of name)).shown := rfl
    by_cases n0 : at_ < 0
    · refine s_lt_t n0 ?_
      repeat (first | refine pG_skf ?_ | refine pG_un ?_)
      exact s_pick_t (pC_true (bad (.inl n0)))
    obtain ⟨sv0,hv0,ps0,hb0,q1,q2,q3,q4,q5⟩ := (h.things _ hr).ex
    obtain ⟨A,c',ev,hc'⟩ := q2.1.form
    subst ev
    refine s_lt_f n0 (pG_yes rfl (pG_yes rfl (pG_yes rfl (s_nil (pG_yes rfl (fa258_1 (pG_yes rfl (s_ldb (v := .slice A (S.things (S.of name)).shown.length c') (isAgg23 _) hb0 rfl (pG_yes rfl (s_len usl23 (pG_yes rfl ?_)))))))))))
    by_cases n1 : at_ > (S.things (S.of name)).shown.length
    · exact s_gt_t n1 (s_pick_f (pC_true (bad (.inr n1))))
    refine s_gt_f n1 (s_pick_f (pC_false ?_))
    clear q1 q2 q3 q4 q5 hb0
    obtain ⟨a0,rfl⟩ : ∃ m : Nat,at_ = (m:Int) := ⟨at_.toNat,by omega⟩
    have hr2 : S.writeAt name a0 d = S.stroke 1 (if (a0:Int) + d.length - (S.things (S.of name)).shown.length > 0 ∧ S.used + ((a0:Int) + d.length - (S.things (S.of name)).shown.length) > S.room then 55 else 0)
        (fun T => T.setThing (S.of name) ((T.things (S.of name)).add (.wr a0 d))) := by
      unfold AD.writeAt; rw [if_neg (by simp [hl]),if_neg (by rw [eb]; omega)]; rfl
    rw [hr2] at hk
    clear bad
    refine r_strokeOk h ok fun w1 hx1 => s_ext rfl (s_ext rfl ?_)
    have h1 := hx1.rep
    have hT0 := h1.things _ hr
    obtain ⟨sv,hv,ps,hb,g1,g2,g3,g4,g5⟩ := hT0.ex
    have hd1 : SBytes w1 dv d := SBytes.fr0 hd hx1.fr hdO
    refine s_lenS usl23 hd1 (s_add_in (by omega) (s_nil (fa258_1 (s_ldb (v := hv) (isAgg23 _) hb rfl (s_lenS usl23 g2.1 (s_sub_in (by show _ ≤ _ - ((S.things (S.of name)).shown.length : Int) ∧ _ - ((S.things (S.of name)).shown.length : Int) ≤ _; omega) ?_))))))
    refine r_full (lacks := S.lacks) (more := (a0:Int) + d.length - (S.things (S.of name)).shown.length) h1 (by show S.shown.length ≤ _; omega) hused (by omega) ?_
    intros
    have hfull : (S.lacks || (decide ((a0:Int) + d.length - (S.things (S.of name)).shown.length > 0) && decide ((S.used : Int) + ((a0:Int) + d.length - (S.things (S.of name)).shown.length) > S.room))) = true →
        ∀ w',RNx w D O I w' { S.ticked with off := S.out } O I L → k (i64 (if S.out then 50 else 55)) w' := by
      intro hf w' hx
      rw [Bool.or_eq_true,Bool.and_eq_true,decide_eq_true_eq,decide_eq_true_eq] at hf
      by_cases hc : (a0:Int) + d.length - (S.things (S.of name)).shown.length > 0 ∧ (S.used : Int) + ((a0:Int) + d.length - (S.things (S.of name)).shown.length) > S.room
      · rw [if_pos hc,stroke_ref _ _ _ _ (by omega)] at hk
        exact hk w' _ _ _ hx
      · rw [if_neg hc,stroke_lack _ _ (hf.resolve_right hc)] at hk
        exact hk w' _ _ _ hx
    have hfree : (S.lacks || (decide ((a0:Int) + d.length - (S.things (S.of name)).shown.length > 0) && decide ((S.used : Int) + ((a0:Int) + d.length - (S.things (S.of name)).shown.length) > S.room))) = false →
        ∀ w' O' I' L',RNx w D O I w' { (S.ticked.setThing (S.of name) ((S.ticked.things (S.of name)).add (.wr a0 d))) with off := S.out } O' I' L' → k (i64 (if S.out then 50 else 0)) w' := by
      intro hf w' O' I' L' hx
      rw [Bool.or_eq_false_iff,Bool.and_eq_false_iff,decide_eq_false_iff_not,decide_eq_false_iff_not] at hf
      rw [if_neg (fun hc => hf.2.elim (fun h => h hc.1) fun h => h hc.2),stroke_do _ _ hf.1] at hk
      exact hk w' _ _ _ hx
    clear hk hr2
    show pC (.bool (S.lacks || (decide ((a0:Int) + d.length - (S.things (S.of name)).shown.length > 0) && decide ((S.used : Int) + ((a0:Int) + d.length - (S.things (S.of name)).shown.length) > S.room)))) _ _
    have fdr : Fr no w1 w1.drew := Fr.drew _ _
    cases hfl : (S.lacks || (decide ((a0:Int) + d.length - (S.things (S.of name)).shown.length > 0) && decide ((S.used : Int) + ((a0:Int) + d.length - (S.things (S.of name)).shown.length) > S.room))) with
    | true =>
      refine pC_true (r_end (h1.fr fdr fun b hb => hb.elim) ho S.out 55 fun w5 hx5 => hfull hfl w5 (hx1.trans (RNx.of0 fdr hx5)))
    | false =>
      have hfree' := hfree hfl
      clear hfull hfree hfl
      refine pC_false (r_copied (hd1.fr fdr fun _ _ h => h) (by omega) fun v80 w80 n80 f80 => ?_)
      have f1 : Fr no w1 w80 := fdr.trans f80 fun b => .inl
      obtain ⟨A80,c80,ev80,_⟩ := n80.sb.form
      subst ev80
      refine px_ok (w' := w80) (v := .agg (chCells (.wr a0 d,.slice A80 d.length c80)).toArray) (by unfold chCells; kernel_rfl) ?_
      have hn80 := n80.blk
      have z1d : w1.drew.heap.size = w1.heap.size := rfl
      have hp0 : ∀ (u:World),Fr no w80 u → ChgOk u (fun b => w1.heap.size ≤ b ∧ b < w80.heap.size) (.wr a0 d,.slice A80 d.length c80) := fun u fu => ⟨n80.sb.fr fu fun _ _ h => h,fun b hb' => by have := hn80 b hb'; omega⟩
      refine r_chgVar (hp0 w80 (Fr.refl _ _)).cells fun w2 ha f2 z2 => ?_
      have f12 : Fr no w1 w2 := f1.trans f2 fun b => .inl
      have hb2 := f12.get hb id
      have hg2 : SBytes w2 hv (S.things (S.of name)).shown := g2.1.fr f12 fun _ _ h => h
      have fd : Fr no w2 w2.drew := Fr.drew _ _
      refine ⟨fun u => u.heap[L.loc (S.of name)]? = some (.cells #[sv,hv,L.trow (S.of name)] 258 (0,0)) ∧ u.heap[w80.heap.size]? = some (.cells (chCells (.wr a0 d,.slice A80 d.length c80)).toArray 268 (0,0)),⟨hb2,ha⟩,?_⟩
      refine q_of _ (fun w_ hS => s_nil ⟨rfl,rfl⟩) (q_of _ (fun w_ hS => fa258_1 ⟨rfl,rfl⟩) (q_of hv (fun w_ hS => s_ldb (isAgg23 _) hS.1 rfl ⟨rfl,rfl⟩) (q_of _ (fun w_ hS => s_ldChg hS.2 ⟨rfl,rfl⟩) ?_)))
      obtain ⟨Ad,cd,evd,_⟩ := hd.form
      refine q_of (i64 d.length) (fun w_ hS => by rw [evd]; exact s_len usl23 ⟨rfl,rfl⟩) ?_
      refine r_change (p := (.wr a0 d,.slice A80 d.length c80)) (u := d.length) (hp0 w2.drew (f2.trans fd fun b => .inl)) (hg2.fr fd fun _ _ h => h) (Nat.le_refl _) (by omega) (fun n e _ => by cases e) (fun a d' e => by injection e with e1 e2; subst e1; subst e2; omega) fun v3 w3 h3 hb3 f3 => ?_
      have f23 : Fr no w2 w3 := fd.trans f3 fun b => .inl
      refine ⟨⟨f23.get hb2 id,f23.get ha id⟩,?_⟩
      refine q_of _ (fun w_ hS => s_nil ⟨rfl,rfl⟩) (q_of _ (fun w_ hS => fa258_1 ⟨rfl,rfl⟩) ?_)
      obtain ⟨A3,c3,ev3,_⟩ := h3.form
      subst ev3
      refine s_st (sizeOf23 _) rfl rfl (f23.get hb2 id) (by show 1 < 3; decide) ?_
      have b4 := set_same (f23.get hb2 id) 1 (.slice A3 (Chg.made (S.things (S.of name)).shown d.length (.wr a0 d)).length c3)
      have f4 := Fr.setCell w3 ⟨L.loc (S.of name),1,none⟩ (.slice A3 (Chg.made (S.things (S.of name)).shown d.length (.wr a0 d)).length c3)
      have z4 : (w3.setCell ⟨L.loc (S.of name),1,none⟩ (.slice A3 (Chg.made (S.things (S.of name)).shown d.length (.wr a0 d)).length c3)).heap.size = w3.heap.size := by simp [World.setCell]
      have hTw := h1.lt _ (.inl hT0.own)
      have z80 := f1.size
      have a4 := set_other 1 (.slice A3 (Chg.made (S.things (S.of name)).shown d.length (.wr a0 d)).length c3) (show w80.heap.size ≠ L.loc (S.of name) by omega) (f23.get ha id)
      have hIb : ∀ b,sblk (.slice A3 (Chg.made (S.things (S.of name)).shown d.length (.wr a0 d)).length c3) = some b → I b ∨ (w2.heap.size ≤ b ∧ b < w3.heap.size) := fun b hb' => (hb3 b hb').imp (g2.2 b) id
      have z2d : w2.drew.heap.size = w2.heap.size := rfl
      have hloc : ∀ b,I b ∨ w1.heap.size ≤ b → ¬ (b = L.loc (S.of name)) := by
        rintro b (hi | hi) rfl
        · exact h1.apart _ hT0.own hi
        · omega
      have h4 : SBytes (w3.setCell ⟨L.loc (S.of name),1,none⟩ (.slice A3 (Chg.made (S.things (S.of name)).shown d.length (.wr a0 d)).length c3)) (.slice A3 (Chg.made (S.things (S.of name)).shown d.length (.wr a0 d)).length c3) (Chg.made (S.things (S.of name)).shown d.length (.wr a0 d)) :=
        h3.fr f4 fun b hb' e => hloc b ((hIb b hb').imp id fun h => by omega) e
      have hp4 : ChgOk (w3.setCell ⟨L.loc (S.of name),1,none⟩ (.slice A3 (Chg.made (S.things (S.of name)).shown d.length (.wr a0 d)).length c3)) (fun b => w1.heap.size ≤ b ∧ b < w80.heap.size) (.wr a0 d,.slice A80 d.length c80) :=
        (hp0 w3 (f2.trans f23 fun b => .inl)).fr f4 fun b hb' e => hloc b (.inr hb'.1) e
      show ∃ S_ : World → Prop,S_ (w3.setCell ⟨L.loc (S.of name),1,none⟩ (.slice A3 (Chg.made (S.things (S.of name)).shown d.length (.wr a0 d)).length c3)).drew ∧ _
      generalize w3.setCell ⟨L.loc (S.of name),1,none⟩ (.slice A3 (Chg.made (S.things (S.of name)).shown d.length (.wr a0 d)).length c3) = w4 at *
      have f14 : Fr (fun b => b = L.loc (S.of name)) w1 w4 := ((f12.trans f23 fun b => .inl).mono fun b hb' => hb'.elim).trans f4 fun b => .inl
      have z23 := f23.size
      refine r_added (p := (.wr a0 d,.slice A80 d.length c80)) h1 hr f14 (by show (S.things (S.of name)).row.length ≤ _; omega) g1 b4 h4 (fun b hb' => (hIb b hb').imp id fun e => by omega) a4 z80 (hp4.mono fun b hb' => ⟨hb'.1,by omega,by omega⟩) (fun e => (hIb _ e).elim (fun hi => absurd (h1.lt _ (.inr hi)) (by omega)) fun hi => by omega) fun w5 O5 I5 L5 hx5 => ?_
      intros
      exact r_end hx5.rep ho S.out 0 fun w6 hx6 => hfree' w6 _ _ _ (hx1.trans (hx5.trans hx6))
theorem r_append {c:Nat} (h:RRep w D S O I L) (ok:S.Ok c) (name:ByteArray) {dv:Value} {d:Bytes} (hd:SBytes w dv d) (hdO:0 < d.length → ∀ b,sblk dv = some b → ¬ O b) (hdl:d.length ≤ 549755813888) (hk:∀ w' O' I' L',RNx w D O I w' (S.append name d).2 O' I' L' → k (i64 (S.append name d).1) w') : pFn P 105 [ptr D,.string name,dv] w k := by
 have hlen := shown_len ok
 refine F105_in _ _ _ _ _ ?_
 unfold F105_0
 refine r_there h (by omega) (shown_nd ok) name (fun hl i => ?_) fun hl i hi he => ?_
 ·have hr : S.append name d = (S.look name,S) := by unfold AD.append; rw [if_pos hl]
  rw [hr] at hk
  exact s_ext rfl (s_ext rfl (s_nei_t hl (pC_true (hk w O I L (RNx.refl h)))))
 ·have hr : S.append name d = S.writeAt name (S.bytes name).length d := by unfold AD.append; rw [if_neg (by simp [hl])]
  rw [hr] at hk
  refine s_ext rfl (s_ext rfl (s_nei_f rfl (pC_false ?_)))
  refine s_nil (fa245_2 (s_ldb (v := L.nowv) (isAgg242 _) h.disk rfl (nm_thing h.now.1 hi fun p q => ?_)))
  have e2 : S.shown[i].2 = S.of name := by rw [he]
  rw [e2]
  have hreach : reach S (S.of name) := .inl ⟨name,by rw [← he]; exact List.getElem_mem hi⟩
  have hr : L.has (S.of name) := h.sub _ hreach
  have hTok := (ok.thing _ hreach).ok.len.1
  obtain ⟨sv,hv,ps,hb,g1,g2,g3,g4,g5⟩ := (h.things _ hr).ex
  refine s_nil (fa258_1 (s_ldb (v := hv) (isAgg23 _) hb rfl (s_lenS usl23 g2.1 ?_)))
  exact r_writeAt h ok name (S.bytes name).length (by show _ ≤ ((S.things (S.of name)).shown.length : Int) ∧ ((S.things (S.of name)).shown.length : Int) ≤ _; omega) hd hdO hdl hk
end
end Go.Proofs.YteeeggphkhimcaaGreatDoor
