/- Things: add, settle. -/
import Derived.Test.YtcdcojpfealppaaThings
set_option linter.unusedVariables false
set_option linter.unusedSimpArgs false
set_option maxRecDepth 100000
namespace Go.Proofs.Ytcdcojpfealppaa
open Go Go.Proofs Go.RowKit Go.Proofs.XRed Go.Proofs.XHeap Go.Proofs.XMaps Go.Proofs.XSlices Go.Proofs.XDisk Go.Proofs.XCalls
section
variable {w : World} {D : Nat} {S S' : AD} {O I : Nat → Prop} {L : Lay} {k : Value → World → Prop}
theorem reach_setThing {t : Nat} {x : Thg} {u : Nat} : reach (S.setThing t x) u ↔ reach S u := Iff.rfl
/-- One thing is changed. -/
theorem DRep.thing {w' : World} {M O' I' : Nat → Prop} {t : Nat} {x' : Thg} {rb' : Value} (h : DRep w D S O I L) (ht : reach S t) (hf : Fr M w w') (hM : ∀ b, M b → b = L.loc t ∨ sblk (L.trow t) = some b ∨ w.heap.size ≤ b)
    (hO : ∀ b, O b → O' b) (hI : ∀ b, I b → I' b) (hT : TRep w' O' I' (L.loc t) rb' x') (hrb : ∀ b, sblk rb' = some b → sblk (L.trow t) = some b ∨ w.heap.size ≤ b) (hap : ∀ b, O' b → ¬ I' b) (hlt : ∀ b, O' b ∨ I' b → b < w'.heap.size) :
    DRep w' D (S.setThing t x') O' I' { L with trow := fun i => if i = t then rb' else L.trow i } := by
  have hT0 := h.things t ht
  have hOwn : ∀ b, Own L D b → ¬ M b := by
    intro b hb hm
    rcases hM b hm with e | e | e
    · obtain ⟨c, hc⟩ := hT0.obj; rw [← e] at hc; exact h.notT hb (.inl rfl) hc
    · obtain ⟨c, hc⟩ := hT0.robj e; exact h.notT hb (.inr (.inl rfl)) hc
    · have := h.lt b (.inl (h.own hb)); omega
  have hnI : ∀ b, I b → ¬ M b := by
    intro b hb hm
    rcases hM b hm with e | e | e
    · exact h.apart b (e ▸ hT0.own) hb
    · exact h.apart b (hT0.rown b e) hb
    · have := h.lt b (.inr hb); omega
  have hth : ∀ u, reach S u → u ≠ t → TRep w' O I (L.loc u) (L.trow u) (S.things u) := by
    intro u hu hne
    have hU := h.things u hu
    refine hU.fr (O' := O) hf ?_ ?_ hnI
    · intro hm
      rcases hM _ hm with e | e | e
      · exact hne (h.inj u t hu ht e)
      · obtain ⟨c, hc⟩ := hT0.robj e
        obtain ⟨c', hc'⟩ := hU.obj
        exact absurd (two_types hc hc') (by decide)
      · have := h.lt _ (.inl hU.own); omega
    · intro b hb hm
      rcases hM _ hm with e | e | e
      · obtain ⟨c, hc⟩ := hU.robj hb
        obtain ⟨c', hc'⟩ := hT0.obj
        rw [e] at hc
        exact absurd (two_types hc hc') (by decide)
      · exact h.rows u t hu ht hne b hb e
      · have := h.lt _ (.inl (hU.rown b hb)); omega
  have hrow : ∀ u, reach S u → u ≠ t → ∀ b, sblk (L.trow u) = some b → sblk rb' ≠ some b := by
    intro u hu hne b hb hb'
    rcases hrb b hb' with e | e
    · exact h.rows u t hu ht hne b hb e
    · have := h.lt _ (.inl ((h.things u hu).rown b hb)); omega
  exact {
    disk := hf.get h.disk (hOwn _ (.inl rfl))
    sh := h.sh.fr hf (hOwn _ (.inr (.inl rfl)))
    shp := h.shp
    sf := h.sf.fr hf (hOwn _ (.inr (.inr (.inl rfl))))
    sfp := h.sfp
    ne := h.ne
    row := own_fr h.row hf fun b hb => hOwn b (.inr (.inr (.inr (.inl hb))))
    reads := own_fr h.reads hf fun b hb => hOwn b (.inr (.inr (.inr (.inr hb))))
    things := fun u hu => by
      have hu' : reach S u := hu
      by_cases e : u = t
      · subst e
        simp only [AD.setThing, if_true]
        exact hT
      · simp only [AD.setThing, if_neg e]
        exact (hth u hu' e).mono (O := O) hO hI
    inj := h.inj
    rows := fun u v hu hv hne => by
      have hu' : reach S u := hu
      have hv' : reach S v := hv
      by_cases e : u = t <;> by_cases e' : v = t
      · exact absurd (e.trans e'.symm) hne
      · simp only [if_pos e, if_neg e']
        intro b hb hb'; exact hrow v hv' e' b hb' hb
      · simp only [if_neg e, if_pos e']; exact hrow u hu' e
      · simp only [if_neg e, if_neg e']; exact h.rows u v hu' hv' hne
    oD := hO _ h.oD
    osh := hO _ h.osh
    osf := hO _ h.osf
    orow := fun b hb => hO _ (h.orow b hb)
    oreads := fun b hb => hO _ (h.oreads b hb)
    apart := hap
    lt := hlt }
theorem c_settle {t : Nat} (h : DRep w D S O I L) (ht : reach S t) (hk : ∀ w' O' I' L', Nx w D O I w' (S.setThing t (S.things t).settle) O' I' L' → k (.tuple #[]) w') : pFn P 48 [ptr (L.loc t)] w k := by
  have hT0 := h.things t ht
  obtain ⟨sv, hv, cs, hb, h1, h2, h3, h4⟩ := hT0.ex
  refine F48_in _ _ _ ?_
  unfold F48_0
  refine s_nil (fa101_1 (s_ldb (v := hv) (Try.isAgg30 _) hb rfl ?_))
  obtain ⟨A, c, rfl, hc⟩ := h2.1.form
  refine s_nil (fa101_0 (s_st (Try.sizeOf30 _) rfl rfl hb (by show 0 < 3; decide) ?_))
  have hb1 := set_same hb 0 (.slice A (S.things t).shown.length c)
  have f1 : Fr (fun b => b = L.loc t) w (w.setCell ⟨L.loc t, 0, none⟩ (.slice A (S.things t).shown.length c)) := Fr.setCell w ⟨L.loc t, 0, none⟩ _
  refine s_nil (fa101_2 (s_st (Try.sizeOf99 _) rfl rfl hb1 (by show 2 < 3; decide) ?_))
  have hb2 := set_same hb1 2 (.slice none 0 0)
  have f2 : Fr (fun b => b = L.loc t) w ((w.setCell ⟨L.loc t, 0, none⟩ (.slice A (S.things t).shown.length c)).setCell ⟨L.loc t, 2, none⟩ (.slice none 0 0)) := (f1.or (Fr.setCell _ ⟨L.loc t, 2, none⟩ _)).mono fun b hb => hb.elim .inl .inl
  have hz : ((w.setCell ⟨L.loc t, 0, none⟩ (.slice A (S.things t).shown.length c)).setCell ⟨L.loc t, 2, none⟩ (.slice none 0 0)).heap.size = w.heap.size := by simp [World.setCell]
  have h2' := h2.fr f2 (fun b hb e => h.apart b (e ▸ hT0.own) hb)
  have hT : TRep _ O I (L.loc t) (.slice none 0 0) (S.things t).settle := ⟨⟨_, _, [], hb2, h2', h2', ⟨rfl, .inl ⟨rfl, rfl⟩⟩, .nil⟩, hT0.own, by rintro b hb; cases hb⟩
  have hR := h.thing ht f2 (fun b hb => .inl hb) (fun b => id) (fun b => id) hT (by rintro b hb; cases hb) h.apart (by rw [hz]; exact h.lt)
  exact hk _ O I _ ⟨hR, f2.mono fun b hb => .inl (hb ▸ hT0.own), fun b => id, fun b => id, fun b => .inl, fun b => .inl⟩
theorem ChgV.one {c : Chg} {v : Value} (h : ChgV w I c v) : v.cells = #[v] ∧ v.oneCell' = true := by
  cases c with
  | wr a d => obtain ⟨s, rfl, _⟩ := h; exact ⟨rfl, rfl⟩
  | cut n => subst h; exact ⟨rfl, rfl⟩
theorem c_nilmade {c : Chg} {v : Value} (h : ChgV w I c v) (w' : World) (hk : k (.func (.method "freight/disk.made") #[v] #[]) w') : px P (nilSem (.func (.method "freight/disk.made") #[v] #[])) w' k := by
  cases c with
  | wr a d => obtain ⟨s, rfl, _⟩ := h; exact s_nil_meth (f := 127) (by kernel_rfl) Try.underlying118 (fun e h => by cases h) hk
  | cut n => subst h; exact s_nil_meth (f := 125) (by kernel_rfl) Try.underlying116 (fun e h => by cases h) hk
theorem sbytes_one {v : Value} {bs : Bytes} (h : SBytes w v bs) : v.cells = #[v] ∧ v.oneCell' = true := by obtain ⟨A, c, rfl, _⟩ := h.form; exact ⟨rfl, rfl⟩
theorem c_add {t : Nat} {c : Chg} {v : Value} (h : DRep w D S O I L) (ht : reach S t) (hv : ChgV w I c v) (hl : (S.things t).row.length ≤ 1099511627776) (hb0 : (S.things t).shown.length ≤ 1099511627776)
    (hcut : ∀ n, c = .cut n → n ≤ (S.things t).shown.length) (hwr : ∀ a d, c = .wr a d → a + d.length ≤ 1099511627776)
    (hk : ∀ w' O' I' L', Nx w D O I w' (S.setThing t ((S.things t).add c)) O' I' L' → k (.tuple #[]) w') : pFn P 62 [ptr (L.loc t), v] w k := by
  have hT0 := h.things t ht
  obtain ⟨sv, hv0, cs, hb, h1, h2, h3, h4⟩ := hT0.ex
  generalize hx : S.things t = x at *
  refine F62_in _ _ _ _ ?_
  unfold F62_0
  refine s_nil (fa101_2 (s_ldb (v := L.trow t) (Try.isAgg99 _) hb rfl ?_))
  refine lit1_99 hv.one.1 ?_
  have fA := Fr.alloc no w (.cells #[v] 123)
  have hLit := own_lit w 0 123 1 #[v] 1 (Nat.zero_le _) (by unfold maxLen; omega) rfl
  have zA : (w.alloc (.cells #[v] 123)).heap.size = w.heap.size + 1 := by simp
  show px P _ (w.alloc (.cells #[v] 123)) _
  generalize w.alloc (.cells #[v] 123) = w1 at *
  refine ap99 (own_fr h3 fA fun _ _ => id) (Src.of_own hLit) (by intro u hu; rw [List.mem_singleton.1 hu]; exact hv.one.2) (by omega) (Nat.zero_le _) ?_
  intro v' w2 ho2 fB hb2
  have hTr : ∀ {b}, sblk (L.trow t) = some b → b ≠ L.loc t := by
    rintro b hb' rfl
    obtain ⟨c1, hc1⟩ := hT0.robj hb'
    exact absurd (two_types hc1 hb) (by decide)
  have hbB := fB.get (fA.get hb id) (fun hb' => hTr hb'.symm rfl)
  refine s_nil (fa101_2 (s_st (Try.sizeOf99 _) (own_one ho2).1 (own_one ho2).2 hbB (by show 2 < 3; decide) ?_))
  have hbC := set_same hbB 2 v'
  have fC : Fr (fun b => b = L.loc t) w2 (w2.setCell ⟨L.loc t, 2, none⟩ v') := Fr.setCell w2 ⟨L.loc t, 2, none⟩ _
  have zC : (w2.setCell ⟨L.loc t, 2, none⟩ v').heap.size = w2.heap.size := by simp [World.setCell]
  show ∃ S : World → Prop, _
  generalize hwC : w2.setCell ⟨L.loc t, 0 + 2, none⟩ v' = w3 at *
  have hv'T : ∀ b, sblk v' = some b → b ≠ L.loc t := by
    rintro b hb' rfl
    obtain ⟨c1, hc1⟩ := own_obj ho2 hb'
    exact absurd (two_types hc1 hbB) (by decide)
  have hnew : ∀ b, sblk v' = some b → sblk (L.trow t) = some b ∨ w.heap.size < b := by
    intro b hb'
    rcases hb2 with e | e
    · left; rw [← e]; exact hb'
    · right; rw [e] at hb'; injection hb' with hb'; omega
  have hv'lt : ∀ b, sblk v' = some b → b < w3.heap.size := by
    intro b hb'
    have := (own_blk_lt ho2 hb').2
    omega
  have fABC : Fr (fun b => b = L.loc t ∨ sblk (L.trow t) = some b) w w3 := ((fA.or fB).or fC).mono (by
    rintro b ((hb' | hb') | hb')
    · exact hb'.elim
    · exact .inl (.inr hb'.symm)
    · exact .inl (.inl hb'))
  have hIM : ∀ b, I b → ¬ (b = L.loc t ∨ sblk (L.trow t) = some b) := by
    rintro b hi (e | e)
    · exact h.apart b (e ▸ hT0.own) hi
    · exact h.apart b (hT0.rown b e) hi
  have hv3 : ChgV w3 I c v := hv.fr fABC hIM
  have h23 : SB w3 I hv0 x.shown := h2.fr fABC hIM
  have h13 : SB w3 I sv x.safe := h1.fr fABC hIM
  have h43 : All2 (ChgV w3 I) x.row cs := all2_imp h4 fun a b hab => hab.fr fABC hIM
  have ho3 : w3.ownsRow 0 123 1 v' (x.row.length + 1) (cs ++ [v]) := own_fr ho2 fC hv'T
  have hbD : w3.drew.heap[L.loc t]? = some (.cells #[sv, hv0, v'] 101 (0, 0)) := hbC
  refine ⟨fun w' => w'.heap[L.loc t]? = some (.cells #[sv, hv0, v'] 101 (0, 0)), hbD, ?_⟩
  refine q_of _ (fun w_ hS => s_nil ⟨rfl, rfl⟩) ?_
  refine q_of _ (fun w_ hS => fa101_1 ⟨rfl, rfl⟩) ?_
  refine q_of hv0 (fun w_ hS => s_ldb (Try.isAgg30 _) hS rfl ⟨rfl, rfl⟩) ?_
  refine q_of _ (fun w_ hS => s_mkf ⟨rfl, rfl⟩) ?_
  refine q_of _ (fun w_ hS => c_nilmade hv w_ ⟨rfl, rfl⟩) ?_
  have hv3d : ChgV w3.drew I c v := hv3
  refine c_units hv3d fun w4 f4 => ?_
  have hb4 := f4.get hbD id
  refine ⟨hb4, ?_⟩
  refine c_made (hv3d.fr f4 fun _ _ => id) (SB.fr (O := no) (show SB w3.drew I hv0 x.shown from h23) f4 fun _ _ => id) (Nat.le_refl _) hb0 (fun n e _ => hcut n e) (fun a d e _ => by subst e; exact hwr a d rfl) fun w5 v5 h5 hi5 f5 => ?_
  have hb5 := f5.get hb4 id
  refine ⟨hb5, ?_⟩
  refine q_of _ (fun w_ hS => s_nil ⟨rfl, rfl⟩) ?_
  refine q_of _ (fun w_ hS => fa101_1 ⟨rfl, rfl⟩) ?_
  refine s_st (Try.sizeOf30 _) (sbytes_one h5).1 (sbytes_one h5).2 hb5 (by show 1 < 3; decide) ?_
  have hb6 := set_same hb5 1 v5
  have f6 : Fr (fun b => b = L.loc t) w5 (w5.setCell ⟨L.loc t, 1, none⟩ v5) := Fr.setCell w5 ⟨L.loc t, 1, none⟩ _
  have z6 : (w5.setCell ⟨L.loc t, 1, none⟩ v5).heap.size = w5.heap.size := by simp [World.setCell]
  show k _ (w5.setCell ⟨L.loc t, 1, none⟩ v5)
  generalize w5.setCell ⟨L.loc t, 1, none⟩ v5 = w6 at *
  have f36 : Fr (fun b => b = L.loc t) w3 w6 := ((((Fr.drew no w3).or f4).or f5).or f6).mono (by
    rintro b (((hb' | hb') | hb') | hb')
    · exact hb'.elim
    · exact hb'.elim
    · exact hb'.elim
    · exact .inl hb')
  have z35 : w3.heap.size ≤ w4.heap.size := f4.size
  have z45 := f5.size
  have hTO := hT0.own
  have hTlt := h.lt _ (.inl hTO)
  have hI3 : ∀ b, I b → b ≠ L.loc t := fun b hi e => h.apart b (e ▸ hTO) hi
  have h5blk : ∀ b, sblk v5 = some b → I b ∨ (w4.heap.size ≤ b ∧ b < w5.heap.size) := hi5
  have z03 : w.heap.size ≤ w3.heap.size := fABC.size
  have h56 : SBytes w6 v5 (c.made x.shown c.units) := h5.fr f6 (by
    intro b hb' e
    rcases h5blk b hb' with hi | hi
    · exact hI3 b hi e
    · omega)
  -- the disk behind it
  let O' : Nat → Prop := fun b => O b ∨ sblk v' = some b
  let I' : Nat → Prop := fun b => I b ∨ sblk v5 = some b
  have hT : TRep w6 O' I' (L.loc t) v' (x.add c) :=
    ⟨⟨sv, v5, cs ++ [v], hb6, (h13.fr f36 hI3).mono fun b hi => .inl hi, ⟨h56, fun b hb' => .inr hb'⟩, by
        have := own_fr ho3 f36 hv'T
        simpa [Thg.add] using this,
      All2.snoc (all2_imp h43 fun a b hab => (hab.fr f36 hI3).mono fun b hi => .inl hi) ((hv3.fr f36 hI3).mono fun b hi => .inl hi)⟩, .inl hTO, fun b hb' => .inr hb'⟩
  have hfr : Fr (fun b => b = L.loc t ∨ sblk (L.trow t) = some b) w w6 := (fABC.or f36).mono (by rintro b (hb' | hb'); exact .inl hb'; exact .inl (.inl hb'))
  have hv'3 : ∀ b, sblk v' = some b → b < w4.heap.size := fun b hb' => by have := hv'lt b hb'; omega
  have hR := h.thing (x' := x.add c) (rb' := v') (O' := O') (I' := I') ht hfr (by rintro b (e | e); exact .inl e; exact .inr (.inl e)) (fun b => .inl) (fun b => .inl) hT (fun b hb' => (hnew b hb').imp id (by omega)) (by
    rintro b (ho | ho) (hi | hi)
    · exact h.apart b ho hi
    · rcases h5blk b hi with hi' | hi'
      · exact h.apart b ho hi'
      · have := h.lt b (.inl ho); omega
    · rcases hnew b ho with e | e
      · exact h.apart b (hT0.rown b e) hi
      · have := h.lt b (.inr hi); omega
    · have h1 := hv'3 b ho
      rcases h5blk b hi with hi' | hi'
      · rcases hnew b ho with e | e
        · exact h.apart b (hT0.rown b e) hi'
        · have := h.lt b (.inr hi'); omega
      · omega) (by
    rintro b ((ho | ho) | (hi | hi))
    · have := h.lt b (.inl ho); omega
    · have := hv'3 b ho; omega
    · have := h.lt b (.inr hi); omega
    · rcases h5blk b hi with hi' | hi'
      · have := h.lt b (.inr hi'); omega
      · omega)
  refine hk w6 O' I' _ ⟨hR, hfr.mono ?_, fun b => .inl, fun b => .inl, ?_, ?_⟩
  · rintro b (e | e)
    · exact .inl (e ▸ hTO)
    · exact .inl (hT0.rown b e)
  · rintro b (ho | ho)
    · exact .inl ho
    · rcases hnew b ho with e | e
      · exact .inl (hT0.rown b e)
      · exact .inr (by omega)
  · rintro b (hi | hi)
    · exact .inl hi
    · rcases h5blk b hi with hi' | hi'
      · exact .inl hi'
      · exact .inr (by omega)
end
end Go.Proofs.Ytcdcojpfealppaa
