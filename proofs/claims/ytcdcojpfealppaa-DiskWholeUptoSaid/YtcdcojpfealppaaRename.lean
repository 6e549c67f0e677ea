/- rename: a change of names made. -/
import Derived.Test.YtcdcojpfealppaaTurns
set_option linter.unusedVariables false
set_option linter.unusedSimpArgs false
set_option maxRecDepth 100000
namespace Go.Proofs.Ytcdcojpfealppaa
open Go Go.Proofs Go.RowKit Go.Proofs.XRed Go.Proofs.XHeap Go.Proofs.XMaps Go.Proofs.XSlices Go.Proofs.XDisk Go.Proofs.XCalls
/-- What a call on a disk leaves. -/
structure Nx (w : World) (D : Nat) (O I : Nat → Prop) (w' : World) (S' : AD) (O' I' : Nat → Prop) (L' : Lay) : Prop where
  rep : DRep w' D S' O' I' L'
  fr : Fr O w w'
  oo : ∀ b, O b → O' b
  ii : ∀ b, I b → I' b
  on : ∀ b, O' b → O b ∨ w.heap.size ≤ b
  in_ : ∀ b, I' b → I b ∨ w.heap.size ≤ b
theorem own_one {w : World} {base size n : Nat} {e : TypeId} {v : Value} {xs : List Value} (h : w.ownsRow base e size v n xs) : v.cells = #[v] ∧ v.oneCell' = true := by
  rcases h.2 with ⟨rfl, _⟩ | ⟨g, cap, cur, rfl, _⟩ <;> exact ⟨rfl, rfl⟩
theorem turn_one (loc : Nat → Nat) (c : Turn) : (turnVal loc c).cells = #[turnVal loc c] ∧ (turnVal loc c).oneCell' = true := by cases c <;> exact ⟨rfl, rfl⟩
section
variable {w : World} {D : Nat} {S : AD} {O I : Nat → Prop} {L : Lay} {k : Value → World → Prop}
theorem c_nilon (loc : Nat → Nat) (c : Turn) (hk : k (.func (.method "freight/disk.on") #[turnVal loc c] #[]) w) : px P (nilSem (.func (.method "freight/disk.on") #[turnVal loc c] #[])) w k := by
  cases c with
  | mk n t => exact s_nil_meth (f := 123) (by kernel_rfl) Try.underlying103 (fun e h => by cases h) hk
  | give a b => exact s_nil_meth (f := 131) (by kernel_rfl) Try.underlying135 (fun e h => by cases h) hk
  | take n => exact s_nil_meth (f := 129) (by kernel_rfl) Try.underlying133 (fun e h => by cases h) hk
theorem reach_turned {c : Turn} (hc : ∀ a b, c = .give a b → alGet S.shown a ≠ none) {t : Nat} (h : reach (S.turned c) t) : reach S t ∨ ∃ n, c = .mk n t := by
  rcases h with ⟨n, h⟩ | ⟨n, h⟩ | ⟨n, h⟩
  · cases c with
    | mk m u =>
      rcases mem_setN.1 h with h | h
      · injection h with h1 h2; subst h2; exact .inr ⟨m, rfl⟩
      · exact .inl (.inl ⟨n, h.1⟩)
    | give a b =>
      rcases mem_setN.1 h with h | h
      · injection h with h1 h2
        cases hg : alGet S.shown a with
        | none => exact absurd hg (hc a b rfl)
        | some u => rw [hg] at h2; subst h2; exact .inl (.inl ⟨a, mem_of_alGet hg⟩)
      · exact .inl (.inl ⟨n, (mem_alDel.1 h.1).1⟩)
    | take m => exact .inl (.inl ⟨n, (mem_alDel.1 h).1⟩)
  · exact .inl (.inr (.inl ⟨n, h⟩))
  · rcases List.mem_append.1 h with h | h
    · exact .inl (.inr (.inr ⟨n, h⟩))
    · rw [List.mem_singleton] at h; exact .inr ⟨n, h.symm⟩
theorem c_rename (h : DRep w D S O I L) (c : Turn) (hl : S.row.length ≤ 1099511627776) (hc : ∀ a b, c = .give a b → alGet S.shown a ≠ none)
    (ht : ∀ n t, c = .mk n t → ¬ reach S t → TRep w O I (L.loc t) (L.trow t) (S.things t) ∧ ∀ u, reach S u → L.loc u ≠ L.loc t ∧ ∀ b, sblk (L.trow u) = some b → sblk (L.trow t) ≠ some b)
    (hk : ∀ w' O' L', Nx w D O I w' (S.turned c) O' I L' → k (.tuple #[]) w') : pFn P 47 [ptr D, turnVal L.loc c] w k := by
  refine F47_in _ _ _ _ ?_
  unfold F47_0
  refine s_nil (fa93_3 (s_ldb (v := L.rowv) (Try.isAgg91 _) h.disk rfl ?_))
  refine lit1_91 (turn_one L.loc c).1 ?_
  have fA := Fr.alloc (fun _ => False) w (.cells #[turnVal L.loc c] 109)
  have hOwn1 := own_lit w 0 109 1 #[turnVal L.loc c] 1 (Nat.zero_le _) (by unfold maxLen; omega) rfl
  generalize hw1 : w.alloc (.cells #[turnVal L.loc c] 109) = w1 at *
  have hz1 : w.heap.size < w1.heap.size := by rw [← hw1]; simp
  refine ap91 (own_fr h.row fA fun _ _ => id) (Src.of_own hOwn1) (by intro u hu; rw [List.mem_singleton.1 hu]; exact (turn_one _ _).2) (by omega) (Nat.zero_le _) ?_
  intro v' w2 h2 fB hb2
  have hD : ∀ {b}, sblk L.rowv = some b → b ≠ D := by
    rintro b hb rfl
    obtain ⟨c1, h1⟩ := own_obj h.row hb
    exact absurd (two_types h1 h.disk) (by decide)
  have hd2 := fB.get (fA.get h.disk id) (fun hb => hD hb.symm rfl)
  refine s_nil (fa93_3 ?_)
  refine s_st (Try.sizeOf91 _) (own_one h2).1 (own_one h2).2 hd2 (by show 3 < 11; decide) ?_
  have hd3 := set_same hd2 3 v'
  have fC : Fr (fun b => b = D) w2 (w2.setCell ⟨D, 3, none⟩ v') := Fr.setCell w2 ⟨D, 3, none⟩ v'
  generalize hw3 : w2.setCell ⟨D, 0 + 3, none⟩ v' = w3 at *
  have hz3 : w3.heap.size = w2.heap.size := by rw [← hw3]; simp [World.setCell]
  have hshD : L.sh ≠ D := by
    intro e; obtain ⟨es, c1, h1⟩ := SMap.obj h.sh
    rw [e, h.disk] at h1; cases h1
  have hshR : ∀ {b}, sblk L.rowv = some b → b ≠ L.sh := by
    rintro b hb rfl
    obtain ⟨c1, h1⟩ := own_obj h.row hb
    obtain ⟨es, c2, h3⟩ := SMap.obj h.sh
    rw [h1] at h3; cases h3
  refine ⟨fun w => ∃ cs, w.heap[D]? = some (.cells cs 93 (0, 0)) ∧ cs[1]? = some (.map (some L.sh)), ⟨_, hd3, rfl⟩, ?_⟩
  refine q_of _ (fun w_ hS => s_nil ⟨rfl, rfl⟩) ?_
  refine q_of _ (fun w_ hS => fa93_1 ⟨rfl, rfl⟩) ?_
  refine q_of (.map (some L.sh)) (fun w_ hS => by obtain ⟨cs, h1, h2⟩ := hS; exact s_ldb (Try.isAgg90 _) h1 h2 ⟨rfl, rfl⟩) ?_
  refine q_of _ (fun w_ hS => s_mkf ⟨rfl, rfl⟩) ?_
  refine q_of _ (fun w_ hS => c_nilon L.loc c ⟨rfl, rfl⟩) ?_
  have hsh3' : SMap w3 L.sh (mapVals L L.lsh) := ((h.sh.fr fA id).fr fB fun hb => hshR hb.symm rfl).fr fC hshD
  have hsh3 : SMap w3.drew L.sh (mapVals L L.lsh) := hsh3'
  refine c_on c (fun a b e => by rw [alGet_perm h.shp h.lshn]; exact hc a b e) hsh3 fun w4 h4 fD => ?_
  have hd4 := fD.get (w' := w4) (show w3.drew.heap[D]? = _ from hd3) (fun e => hshD e.symm)
  -- the whole frame
  have hM : Fr (fun b => b = D ∨ b = L.sh ∨ sblk L.rowv = some b) w w4 := by
    refine ((((fA.or fB).or fC).or (Fr.drew (fun _ => False) w3)).or fD).mono ?_
    rintro b ((((hb | hb) | hb) | hb) | hb)
    · exact hb.elim
    · exact .inl (.inr (.inr hb.symm))
    · exact .inl (.inl hb)
    · exact hb.elim
    · exact .inl (.inr (.inl hb))
  have hOwn : ∀ b, (b = D ∨ b = L.sh ∨ sblk L.rowv = some b) → Own L D b := by
    rintro b (hb | hb | hb)
    · exact .inl hb
    · exact .inr (.inl hb)
    · exact .inr (.inr (.inr (.inl hb)))
  have hnew : ∀ b, sblk v' = some b → sblk L.rowv = some b ∨ w.heap.size < b := by
    intro b hb
    rcases hb2 with e | e
    · left; rw [← e]; exact hb
    · right; rw [e] at hb; injection hb with hb; omega
  have hv4 : ∀ b, sblk v' = some b → b < w4.heap.size := by
    intro b hb
    have h1 := (own_blk_lt h2 hb).2
    have h3 := fD.size
    have : w3.drew.heap.size = w3.heap.size := rfl
    omega
  have hv'D : ∀ b, sblk v' = some b → b ≠ D := by
    rintro b hb rfl
    obtain ⟨c1, h1⟩ := own_obj h2 hb
    exact absurd (two_types h1 hd2) (by decide)
  have hv'sh : ∀ b, sblk v' = some b → b ≠ L.sh := by
    intro b hb e
    rcases hnew b hb with h1 | h1
    · exact hshR h1 e
    · have := h.lt _ (.inl h.osh); omega
  have hTf : ∀ {T rb x}, TRep w O I T rb x → TRep w4 O I T rb x := fun ht => ht.stay h hM fun b hb => .inl (hOwn b hb)
  have hTm : ∀ {T rb x}, TRep w4 O I T rb x → TRep w4 (fun b => O b ∨ sblk v' = some b) I T rb x := fun ht => ht.mono (O := O) (fun b => .inl) fun b => id
  have hth : ∀ t, reach (S.turned c) t → TRep w O I (L.loc t) (L.trow t) (S.things t) := by
    intro t hr
    by_cases hs : reach S t
    · exact h.things t hs
    · rcases reach_turned hc hr with hr | ⟨n, e⟩
      · exact absurd hr hs
      · exact (ht n t e hs).1
  have hpair : ∀ t u, reach (S.turned c) t → reach (S.turned c) u → t ≠ u → L.loc t ≠ L.loc u ∧ ∀ b, sblk (L.trow t) = some b → sblk (L.trow u) ≠ some b := by
    intro t u h1 h2 hne
    by_cases a1 : reach S t <;> by_cases a2 : reach S u
    · exact ⟨fun e => hne (h.inj t u a1 a2 e), h.rows t u a1 a2 hne⟩
    · rcases reach_turned hc h2 with hr | ⟨n, e⟩
      · exact absurd hr a2
      · exact (ht n u e a2).2 t a1
    · rcases reach_turned hc h1 with hr | ⟨n, e⟩
      · exact absurd hr a1
      · have := (ht n t e a1).2 u a2
        exact ⟨fun e => this.1 e.symm, fun b hb hb' => this.2 b hb' hb⟩
    · rcases reach_turned hc h1 with hr | ⟨n, e⟩
      · exact absurd hr a1
      · rcases reach_turned hc h2 with hr | ⟨m, e'⟩
        · exact absurd hr a2
        · rw [e] at e'; injection e' with e1 e2; exact absurd e2 hne
  have hz : w.heap.size ≤ w4.heap.size := hM.size
  refine hk w4 (fun b => O b ∨ sblk v' = some b) { L with rowv := v', lsh := c.onL L.lsh } ⟨?_, hM.mono fun b hb => .inl (h.own (hOwn b hb)), fun b => .inl, fun b => id, ?_, fun b => .inl⟩
  · exact {
      disk := hd4
      sh := h4
      shp := c.onL_perm h.shp h.lshn
      sf := h.sf.fr hM (by
        rintro (e | e | e)
        · obtain ⟨es, c1, h1⟩ := SMap.obj h.sf
          rw [e, h.disk] at h1; cases h1
        · exact h.ne e.symm
        · obtain ⟨c1, h1⟩ := own_obj h.row e
          obtain ⟨es, c2, h3⟩ := SMap.obj h.sf
          rw [h1] at h3; cases h3)
      sfp := h.sfp
      ne := h.ne
      row := by
        have h5 := own_fr (own_fr h2 fC hv'D) ((Fr.drew (fun _ => False) w3).or fD) (by rintro b hb (h' | h'); exact h'.elim; exact hv'sh b hb h')
        simpa [AD.turned] using h5
      reads := own_fr h.reads hM (by
        rintro b hb (e | e | e)
        · obtain ⟨c1, h1⟩ := own_obj h.reads hb
          rw [e] at h1; exact absurd (two_types h1 h.disk) (by decide)
        · obtain ⟨c1, h1⟩ := own_obj h.reads hb
          obtain ⟨es, c2, h3⟩ := SMap.obj h.sh
          rw [e, h3] at h1; cases h1
        · obtain ⟨c1, h1⟩ := own_obj h.reads hb
          obtain ⟨c2, h3⟩ := own_obj h.row e
          exact absurd (two_types h1 h3) (by decide))
      things := fun t hr => hTm (hTf (hth t hr))
      inj := fun t u h1 h2 e => Classical.byContradiction fun hne => (hpair t u h1 h2 hne).1 e
      rows := fun t u h1 h2 hne => (hpair t u h1 h2 hne).2
      oD := .inl h.oD
      osh := .inl h.osh
      osf := .inl h.osf
      orow := fun b hb => .inr hb
      oreads := fun b hb => .inl (h.oreads b hb)
      apart := by
        rintro b (hb | hb) hi
        · exact h.apart b hb hi
        · rcases hnew b hb with h1 | h1
          · exact h.apart b (h.orow b h1) hi
          · have := h.lt b (.inr hi); omega
      lt := by
        rintro b ((hb | hb) | hb)
        · have := h.lt b (.inl hb); omega
        · exact hv4 b hb
        · have := h.lt b (.inr hb); omega }
  · rintro b (hb | hb)
    · exact .inl hb
    · rcases hnew b hb with h1 | h1
      · exact .inl (h.orow b h1)
      · exact .inr (by omega)
end
end Go.Proofs.Ytcdcojpfealppaa
