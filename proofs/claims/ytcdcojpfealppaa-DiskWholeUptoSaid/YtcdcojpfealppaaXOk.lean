/- Each call keeps what holds of a disk. -/
import Derived.Test.YtcdcojpfealppaaXAbs
set_option linter.unusedVariables false
set_option linter.unusedSimpArgs false
namespace Go.Proofs.XDisk
open Go.Proofs.XMaps
theorem Thg.Ok.mono {x : Thg} {c c' : Nat} (h : x.Ok c) (hc : c ≤ c') : x.Ok c' := ⟨Nat.le_trans h.row hc, h.ok⟩
theorem AD.Ok.mono {S : AD} {c c' : Nat} (h : S.Ok c) (hc : c ≤ c') (hs : c' ≤ 1099511627776) : S.Ok c' where
  room := h.room
  small := hs
  strokes := ⟨h.strokes.1, by have := h.strokes.2; omega⟩
  since := ⟨h.since.1, by have := h.since.2; omega⟩
  row := Nat.le_trans h.row hc
  reads := Nat.le_trans h.reads hc
  next := h.next
  thing := fun t ht => (h.thing t ht).mono hc
  turns := h.turns
  sn := h.sn
  rn := h.rn
  safe := h.safe
theorem nm_on {c : Turn} {l : Names} (hl : ∀ p ∈ l, p.1.size ≤ 112) (hc : Turn.nm c) : ∀ p ∈ c.on l, p.1.size ≤ 112 := by
  intro p hp
  cases c with
  | mk n t =>
    rcases mem_setN.1 hp with rfl | h
    · exact hc
    · exact hl p h.1
  | give a b =>
    rcases mem_setN.1 hp with rfl | h
    · exact hc
    · exact hl p (mem_alDel.1 h.1).1
  | take n => exact hl p (mem_alDel.1 hp).1
theorem nm_fold {r : List Turn} : ∀ {l : Names}, (∀ p ∈ l, p.1.size ≤ 112) → (∀ c ∈ r, Turn.nm c) → ∀ p ∈ r.foldl (fun l c => c.on l) l, p.1.size ≤ 112 := by
  induction r with
  | nil => intro l hl _; exact hl
  | cons c r ih => intro l hl hr; exact ih (nm_on hl (hr c List.mem_cons_self)) fun d hd => hr d (List.mem_cons_of_mem _ hd)
theorem AD.Ok.shownNames {S : AD} {c : Nat} (h : S.Ok c) : ∀ p ∈ S.shown, p.1.size ≤ 112 := by rw [h.turns.eq]; exact nm_fold h.sn h.rn
theorem AD.Ok.crashNames_small {S : AD} {c : Nat} (h : S.Ok c) (picks : List Int) : ∀ p ∈ S.crashNames picks, p.1.size ≤ 112 := nm_fold h.sn fun d hd => h.rn d (List.mem_of_mem_take hd)
theorem AD.Ok.new {room : Int} (h : 1 ≤ room ∧ room ≤ 1048576) : (AD.new room).Ok 0 where
  room := h
  small := by omega
  strokes := ⟨Int.le_refl _, Int.le_refl _⟩
  since := ⟨Int.le_refl _, Int.le_refl _⟩
  row := Nat.le_refl _
  reads := Nat.le_refl _
  next := by rintro t (⟨n, h⟩ | ⟨n, h⟩ | ⟨n, h⟩) <;> cases h
  thing := by rintro t (⟨n, h⟩ | ⟨n, h⟩ | ⟨n, h⟩) <;> cases h
  turns := ⟨rfl, Nat.zero_le _⟩
  sn := by rintro p hp; cases hp
  rn := by rintro p hp; cases hp
  safe := List.Pairwise.nil
theorem AD.Ok.ticked {S : AD} {c : Nat} (h : S.Ok c) (o : Bool) (hs : c < 1099511627776) : AD.Ok { S.ticked with off := o } (c + 1) :=
  { h.mono (Nat.le_succ c) hs with
    strokes := ⟨by have := h.strokes.1; show 0 ≤ S.strokes + 1; omega, by have := h.strokes.2; show S.strokes + 1 ≤ _; omega⟩
    since := ⟨by have := h.since.1; show 0 ≤ S.since + 1; omega, by have := h.since.2; show S.since + 1 ≤ _; omega⟩ }
theorem AD.Ok.stroke {S : AD} {c : Nat} (h : S.Ok c) (hs : c < 1099511627776) (kind refused : Int) (act : AD → AD) (ha : refused = 0 → ∀ o, AD.Ok (act { S.ticked with off := o }) (c + 1)) : (S.stroke kind refused act).2.Ok (c + 1) := by
  unfold AD.stroke
  simp only
  generalize hr : (if refused = 0 ∧ kind = 1 ∧ S.ticked.since ≥ S.ticked.plan.from_ ∧ S.ticked.since ≤ S.ticked.plan.to_ then (55 : Int) else refused) = r
  by_cases hc : r = 0 ∧ ¬ (decide (S.ticked.since = S.ticked.plan.off) = true ∧ kind = 2)
  · rw [if_pos hc]
    refine ha ?_ _
    have := hc.1
    rw [← hr] at this
    split at this
    · cases this
    · exact this
  · rw [if_neg hc]
    exact h.ticked _ hs
/-- A change of names. -/
theorem AD.Ok.turned {S : AD} {c : Nat} {t : Turn} (h : S.Ok c) (hrow : S.row.length + 1 ≤ c) (h1 : ∀ a b, t = .give a b → alGet S.shown a ≠ none) (h2 : (t.on S.shown).length ≤ 256) (h3 : ∀ n i, t = .mk n i → i < S.next ∧ (S.things i).Ok c) (h4 : Turn.nm t) : (S.turned t).Ok c := by
  have hr : ∀ i, reach (S.turned t) i → reach S i ∨ ∃ n, t = .mk n i := by
    rintro i (⟨n, h'⟩ | ⟨n, h'⟩ | ⟨n, h'⟩)
    · cases t with
      | mk m u =>
        rcases mem_setN.1 h' with h' | h'
        · injection h' with e1 e2; subst e2; exact .inr ⟨m, rfl⟩
        · exact .inl (.inl ⟨n, h'.1⟩)
      | give a b =>
        rcases mem_setN.1 h' with h' | h'
        · injection h' with e1 e2
          cases hg : alGet S.shown a with
          | none => exact absurd hg (h1 a b rfl)
          | some u => rw [hg] at e2; subst e2; exact .inl (.inl ⟨a, mem_of_alGet hg⟩)
        · exact .inl (.inl ⟨n, (mem_alDel.1 h'.1).1⟩)
      | take m => exact .inl (.inl ⟨n, (mem_alDel.1 h').1⟩)
    · exact .inl (.inr (.inl ⟨n, h'⟩))
    · rcases List.mem_append.1 h' with h' | h'
      · exact .inl (.inr (.inr ⟨n, h'⟩))
      · rw [List.mem_singleton] at h'; exact .inr ⟨n, h'.symm⟩
  exact { h with
    row := by show (S.row ++ [t]).length ≤ c; simpa using hrow
    next := fun i hi => by
      rcases hr i hi with h' | ⟨n, e⟩
      · exact h.next i h'
      · exact (h3 n i e).1
    thing := fun i hi => by
      rcases hr i hi with h' | ⟨n, e⟩
      · exact h.thing i h'
      · exact (h3 n i e).2
    turns := turnsOk.snoc h1 h2 h.turns
    rn := fun d hd => by
      rcases List.mem_append.1 hd with h' | h'
      · exact h.rn d h'
      · rw [List.mem_singleton] at h'; exact h' ▸ h4 }
theorem look_cases (S : AD) (name : ByteArray) : S.look name = 50 ∨ S.look name = 51 ∨ (S.look name = 53 ∧ isName name = true ∧ alGet S.shown name = none) ∨ (S.look name = 0 ∧ isName name = true ∧ alGet S.shown name = some (S.of name)) := by
  unfold AD.look AD.of
  cases ho : S.off with
  | true => exact .inl rfl
  | false =>
    simp only [Bool.false_eq_true, if_false]
    cases hn : isName name with
    | false => exact .inr (.inl rfl)
    | true =>
      simp only [Bool.not_true, Bool.false_eq_true, if_false]
      cases hg : alGet S.shown name with
      | none => exact .inr (.inr (.inl ⟨rfl, trivial, rfl⟩))
      | some t => exact .inr (.inr (.inr ⟨rfl, trivial, rfl⟩))
theorem isName_small {s : ByteArray} (h : isName s = true) : s.size ≤ 112 := by
  unfold isName at h
  simp only [Bool.and_eq_true, decide_eq_true_eq] at h
  exact h.2
theorem look0 {S : AD} {name : ByteArray} (h : S.look name = 0) : isName name = true ∧ alGet S.shown name = some (S.of name) := by
  rcases look_cases S name with h' | h' | h' | h'
  · rw [h] at h'; cases h'
  · rw [h] at h'; cases h'
  · rw [h] at h'; cases h'.1
  · exact h'.2
theorem reach_of {S : AD} {name : ByteArray} {t : Nat} (h : alGet S.shown name = some t) : reach S t := .inl ⟨name, mem_of_alGet h⟩
theorem AD.Ok.create {S : AD} {c : Nat} (h : S.Ok c) (hs : c < 1099511627776) (name : ByteArray) : (S.create name).2.Ok (c + 1) := by
  have hm := h.mono (Nat.le_succ c) hs
  unfold AD.create
  rcases look_cases S name with h' | h' | h' | h'
  · rw [h']; exact hm
  · rw [h']; exact hm
  · rw [h'.1, if_neg (by decide), if_pos rfl]
    refine h.stroke hs _ _ _ fun hr o => ?_
    have hlen : S.shown.length < 256 := by
      rcases Nat.lt_or_ge S.shown.length 256 with h'' | h''
      · exact h''
      · rw [if_pos h''] at hr; cases hr
    have hT := h.ticked o hs
    have hB : AD.Ok { ({ S.ticked with off := o } : AD).setThing S.next Thg.empty with next := S.next + 1 } (c + 1) :=
      { hT with
        next := fun t ht => Nat.lt_succ_of_lt (hT.next t ht)
        thing := fun t ht => by
          have h1 := hT.next t ht
          have h2 := hT.thing t ht
          show Thg.Ok (if t = S.next then Thg.empty else S.things t) (c + 1)
          have h3 : t < S.next := h1
          rw [if_neg (by omega)]; exact h2 }
    refine AD.Ok.turned (t := .mk name S.next) hB (by have := h.row; show S.row.length + 1 ≤ _; omega) (by intro a b e; cases e) ?_ ?_ (isName_small h'.2.1)
    · show (setN S.shown name S.next).length ≤ 256
      rw [(setN_perm S.shown name S.next).length_eq]
      have : (alDel S.shown name).length ≤ S.shown.length := List.length_filter_le _ _
      simp only [List.length_cons]; omega
    · intro n i e
      injection e with e1 e2
      subst e2
      refine ⟨Nat.lt_succ_self _, ?_⟩
      show Thg.Ok (if S.next = S.next then Thg.empty else _) (c + 1)
      rw [if_pos rfl]
      exact ⟨Nat.zero_le _, rfl, Nat.zero_le _⟩
  · rw [h'.1]; exact hm
theorem alGet_del_len {l : Names} {a : ByteArray} {t : Nat} (h : alGet l a = some t) : (alDel l a).length + 1 ≤ l.length := by
  have hm := mem_of_alGet h
  unfold alDel
  have : (l.filter fun p => !decide (p.1 = a)).length < l.length := by
    rcases Nat.lt_or_ge (l.filter fun p => !decide (p.1 = a)).length l.length with h' | h'
    · exact h'
    · have e := List.Sublist.eq_of_length (List.filter_sublist (l := l) (p := fun p => !decide (p.1 = a))) (Nat.le_antisymm (List.length_filter_le _ _) h')
      rw [← e] at hm
      have := (List.mem_filter.1 hm).2
      simp at this
  omega
theorem AD.Ok.rename {S : AD} {c : Nat} (h : S.Ok c) (hs : c < 1099511627776) (a b : ByteArray) : (S.rename a b).2.Ok (c + 1) := by
  have hm := h.mono (Nat.le_succ c) hs
  unfold AD.rename
  cases ho : S.off with
  | true => exact hm
  | false =>
    simp only [Bool.false_eq_true, if_false]
    cases hn : (!isName a || !isName b) with
    | true => exact hm
    | false =>
      simp only [Bool.false_eq_true, if_false]
      simp only [Bool.or_eq_false_iff, Bool.not_eq_false'] at hn
      cases hg : alGet S.shown a with
      | none => exact hm
      | some t =>
        refine h.stroke hs _ _ _ fun hr o => ?_
        have hT := h.ticked o hs
        by_cases e : a = b
        · simp only [if_pos e]; exact hT
        · simp only [if_neg e]
          refine AD.Ok.turned (t := .give a b) hT (by have := h.row; show S.row.length + 1 ≤ _; omega) (by intro a' b' e; injection e with e1 e2; subst e1; show alGet S.shown a ≠ none; rw [hg]; simp) ?_ (by intro n i e; cases e) (isName_small hn.2)
          show (setN (alDel S.shown a) b _).length ≤ 256
          rw [(setN_perm _ b _).length_eq]
          have h1 := alGet_del_len hg
          have h2 : (alDel (alDel S.shown a) b).length ≤ (alDel S.shown a).length := List.length_filter_le _ _
          have h3 := h.turns.len.1
          simp only [List.length_cons]; omega
theorem AD.Ok.remove {S : AD} {c : Nat} (h : S.Ok c) (hs : c < 1099511627776) (name : ByteArray) : (S.remove name).2.Ok (c + 1) := by
  unfold AD.remove
  split
  · exact h.mono (Nat.le_succ c) hs
  · refine h.stroke hs _ _ _ fun hr o => ?_
    refine AD.Ok.turned (t := .take name) (h.ticked o hs) (by have := h.row; show S.row.length + 1 ≤ _; omega) (by intro a b e; cases e) ?_ (by intro n i e; cases e) trivial
    have h3 := h.turns.len.1
    have : (alDel S.shown name).length ≤ S.shown.length := List.length_filter_le _ _
    show (alDel S.shown name).length ≤ 256
    omega
theorem AD.Ok.setThing {S : AD} {c t : Nat} {x : Thg} (h : S.Ok c) (hx : x.Ok c) : (S.setThing t x).Ok c :=
  { h with
    thing := fun u hu => by
      show Thg.Ok (if u = t then x else S.things u) c
      split
      · exact hx
      · exact h.thing u hu }
theorem AD.Ok.sync {S : AD} {c : Nat} (h : S.Ok c) (hs : c < 1099511627776) (name : ByteArray) : (S.sync name).2.Ok (c + 1) := by
  unfold AD.sync
  split
  · exact h.mono (Nat.le_succ c) hs
  · rename_i hl
    have h0 := look0 (show S.look name = 0 by omega)
    refine h.stroke hs _ _ _ fun hr o => (h.ticked o hs).setThing ?_
    have := (h.thing _ (reach_of h0.2)).ok.len
    exact ⟨Nat.zero_le _, rfl, this.1⟩
theorem AD.Ok.syncNames {S : AD} {c : Nat} (h : S.Ok c) (hs : c < 1099511627776) : S.syncNames.2.Ok (c + 1) := by
  unfold AD.syncNames
  split
  · exact h.mono (Nat.le_succ c) hs
  · refine h.stroke hs _ _ _ fun hr o => ?_
    have hT := h.ticked o hs
    have hr : ∀ t, reach ({ ({ S.ticked with off := o } : AD) with safe := S.shown, row := [] }) t → reach S t := by
      rintro t (⟨n, h'⟩ | ⟨n, h'⟩ | ⟨n, h'⟩)
      · exact .inl ⟨n, h'⟩
      · exact .inl ⟨n, h'⟩
      · cases h'
    exact { hT with
      row := Nat.zero_le _
      next := fun t ht => hT.next t (hr t ht)
      thing := fun t ht => hT.thing t (hr t ht)
      turns := ⟨rfl, h.turns.len.1⟩
      sn := h.shownNames
      rn := by intro d hd; cases hd
      safe := h.shown }
theorem AD.Ok.plans {S : AD} {c : Nat} (h : S.Ok c) (p : PlanA) : (S.plans p).Ok c := by
  unfold AD.plans
  split
  · exact h
  · exact { h with since := ⟨Int.le_refl _, by show (0 : Int) ≤ c; omega⟩ }
theorem sum_mem_le {l : List Nat} {x : Nat} (h : x ∈ l) : x ≤ l.sum := by
  induction l with
  | nil => cases h
  | cons a r ih =>
    simp only [List.sum_cons]
    cases h with
    | head => omega
    | tail _ h => have := ih h; omega
theorem used_ge {S : AD} {name : ByteArray} {t : Nat} (h : alGet S.shown name = some t) : (S.things t).shown.length ≤ S.used :=
  sum_mem_le (List.mem_map_of_mem (f := fun p : ByteArray × Nat => (S.things p.2).shown.length) (mem_of_alGet h))
theorem AD.Ok.addTo {S : AD} {c t : Nat} {ch : Chg} (h : S.Ok c) (hr : (S.things t).Ok c) (hrow : (S.things t).row.length + 1 ≤ c) (h1 : ∀ n, ch = .cut n → n ≤ (S.things t).shown.length) (h2 : ∀ a d, ch = .wr a d → a ≤ (S.things t).shown.length ∧ a + d.length ≤ 1048576) :
    (S.setThing t ((S.things t).add ch)).Ok c := by
  refine h.setThing ⟨by show ((S.things t).row ++ [ch]).length ≤ c; simpa using hrow, rowOk.snoc h1 h2 ?_ hr.ok⟩
  have hl := hr.ok.len.1
  cases ch with
  | cut n =>
    show (if 1 = 0 then (S.things t).shown else List.take n (S.things t).shown).length ≤ _
    rw [if_neg (by decide), List.length_take]; omega
  | wr a d =>
    have := h2 a d rfl
    by_cases h0 : d.length = 0
    · show (if d.length = 0 then (S.things t).shown else _).length ≤ _
      rw [if_pos h0]; exact hl
    · show (if d.length = 0 then (S.things t).shown else _).length ≤ _
      rw [if_neg h0, show (Chg.wr a d).units = d.length from rfl, made_len]
      omega
theorem AD.Ok.writeAt {S : AD} {c : Nat} (h : S.Ok c) (hs : c < 1099511627776) (name : ByteArray) (a : Int) (d : Bytes) : (S.writeAt name a d).2.Ok (c + 1) := by
  unfold AD.writeAt
  split
  · exact h.mono (Nat.le_succ c) hs
  · rename_i hl
    have h0 := look0 (show S.look name = 0 by omega)
    have hu := used_ge h0.2
    have hb : S.bytes name = (S.things (S.of name)).shown := rfl
    rw [hb]
    split
    · exact h.mono (Nat.le_succ c) hs
    · rename_i ha
      refine h.stroke hs _ _ _ fun hr o => ?_
      have hT := h.ticked o hs
      have hthing := hT.thing (S.of name) (reach_of h0.2)
      have hroom := h.room
      have hlen := (h.thing _ (reach_of h0.2)).ok.len.1
      have hfit : ¬ (a + d.length - (S.things (S.of name)).shown.length > 0 ∧ S.used + (a + d.length - (S.things (S.of name)).shown.length) > S.room) := by
        intro hc; rw [if_pos hc] at hr; cases hr
      refine hT.addTo hthing (by have := (h.thing _ (reach_of h0.2)).row; show (S.things (S.of name)).row.length + 1 ≤ _; omega) (by intro n e; cases e) ?_
      intro a' d' e
      injection e with e1 e2
      subst e1 e2
      show a.toNat ≤ (S.things (S.of name)).shown.length ∧ a.toNat + d.length ≤ 1048576
      by_cases hmore : a + d.length - (S.things (S.of name)).shown.length > 0
      · have : ¬ (S.used + (a + d.length - (S.things (S.of name)).shown.length) > S.room) := fun hc => hfit ⟨hmore, hc⟩
        omega
      · omega
theorem AD.Ok.append {S : AD} {c : Nat} (h : S.Ok c) (hs : c < 1099511627776) (name : ByteArray) (d : Bytes) : (S.append name d).2.Ok (c + 1) := by
  unfold AD.append
  split
  · exact h.mono (Nat.le_succ c) hs
  · exact h.writeAt hs _ _ _
theorem AD.Ok.truncate {S : AD} {c : Nat} (h : S.Ok c) (hs : c < 1099511627776) (name : ByteArray) (n : Int) : (S.truncate name n).2.Ok (c + 1) := by
  unfold AD.truncate
  split
  · exact h.mono (Nat.le_succ c) hs
  · rename_i hl
    have h0 := look0 (show S.look name = 0 by omega)
    have hb : S.bytes name = (S.things (S.of name)).shown := rfl
    rw [hb]
    split
    · exact h.mono (Nat.le_succ c) hs
    · rename_i ha
      refine h.stroke hs _ _ _ fun hr o => ?_
      have hT := h.ticked o hs
      have hthing := hT.thing (S.of name) (reach_of h0.2)
      refine hT.addTo hthing (by have := (h.thing _ (reach_of h0.2)).row; show (S.things (S.of name)).row.length + 1 ≤ _; omega) ?_ (by intro a d e; cases e)
      intro m e
      injection e with e
      subst e
      show n.toNat ≤ (S.things (S.of name)).shown.length
      omega
theorem leftOf_len {s : Bytes} : ∀ {r : List Chg} {b : Bytes} {u : Nat}, midOk b r u s → (leftOf b r u).length ≤ 1048576
  | [], b, u, h => h.len
  | c :: r, b, u, h => leftOf_len (r := r) h.step.1
theorem from_fold {s : Names} : ∀ {r : List Turn} {l : Names}, turnsOk l r s → ∀ {n : ByteArray} {t : Nat}, (n, t) ∈ s → (∃ n', (n', t) ∈ l) ∨ ∃ n', Turn.mk n' t ∈ r
  | [], l, h, n, t, hm => by rw [h.1] at hm; exact .inl ⟨n, hm⟩
  | c :: r, l, h, n, t, hm => by
    rcases from_fold (r := r) (l := c.on l) h.2.2 hm with ⟨n', h1⟩ | ⟨n', h1⟩
    · cases c with
      | mk m u =>
        rcases mem_setN.1 h1 with h' | h'
        · injection h' with e1 e2; subst e2; exact .inr ⟨m, List.mem_cons_self⟩
        · exact .inl ⟨n', h'.1⟩
      | give a b =>
        rcases mem_setN.1 h1 with h' | h'
        · injection h' with e1 e2
          cases hg : alGet l a with
          | none => exact absurd hg (h.2.1 a b rfl)
          | some u => rw [hg] at e2; subst e2; exact .inl ⟨a, mem_of_alGet hg⟩
        · exact .inl ⟨n', (mem_alDel.1 h'.1).1⟩
      | take m => exact .inl ⟨n', (mem_alDel.1 h1).1⟩
    · exact .inr ⟨n', List.mem_cons_of_mem _ h1⟩
theorem AD.Ok.crash_reach {S : AD} {c : Nat} (h : S.Ok c) (picks : List Int) : ∀ p ∈ S.crashNames picks, reach S p.2 := by
  intro p hp
  rcases from_fold (h.turns.take (pickA picks 0 S.row.length)) (n := p.1) (t := p.2) hp with ⟨n, h'⟩ | ⟨n, h'⟩
  · exact .inr (.inl ⟨n, h'⟩)
  · exact .inr (.inr ⟨n, List.mem_of_mem_take h'⟩)
theorem zip_now (l : Names) (next : Nat) : alKeys (l.zipIdx.map fun (p, i) => (p.1, next + i)) = alKeys l := by
  unfold alKeys
  rw [List.map_map]
  have : ((fun p : ByteArray × Nat => p.1) ∘ fun q : (ByteArray × Nat) × Nat => (q.1.1, next + q.2)) = (fun p : ByteArray × Nat => p.1) ∘ Prod.fst := rfl
  show l.zipIdx.map ((fun p : ByteArray × Nat => p.1) ∘ fun q : (ByteArray × Nat) × Nat => (q.1.1, next + q.2)) = _
  rw [this, ← List.map_map, List.zipIdx_map_fst]
theorem Ordered.of_keys {l l' : Names} (h : Ordered l) (e : alKeys l' = alKeys l) : Ordered l' := by
  unfold Ordered at *
  have h1 : (alKeys l).Pairwise fun a b => blt a b = true := by unfold alKeys; rw [List.pairwise_map]; exact h
  rw [← e] at h1
  unfold alKeys at h1
  rw [List.pairwise_map] at h1
  exact h1
theorem AD.Ok.crash {S : AD} {c : Nat} (h : S.Ok c) (picks : List Int) : (S.crash picks).Ok c := by
  have hord : Ordered (S.crashNames picks) := h.safe.fold
  have hlen : (S.crashNames picks).length ≤ 256 := (h.turns.take (pickA picks 0 S.row.length)).len.1
  have hkeys := zip_now (S.crashNames picks) S.next
  have hr : ∀ t, reach (S.crash picks) t → ∃ i p, (S.crashNames picks)[i]? = some p ∧ t = S.next + i := by
    have : ∀ n t, (n, t) ∈ (S.crashNames picks).zipIdx.map (fun (p, i) => (p.1, S.next + i)) → ∃ i p, (S.crashNames picks)[i]? = some p ∧ t = S.next + i := by
      intro n t hm
      obtain ⟨q, hq, e⟩ := List.mem_map.1 hm
      injection e with e1 e2
      have hq' := List.mem_zipIdx hq
      exact ⟨q.2, q.1, by rw [hq'.2.2]; simp, e2.symm⟩
    rintro t (⟨n, h'⟩ | ⟨n, h'⟩ | ⟨n, h'⟩)
    · exact this n t h'
    · exact this n t h'
    · cases h'
  have hz : (0 : Int) ≤ c := by omega
  exact { h with
    strokes := ⟨Int.le_refl _, hz⟩
    since := ⟨Int.le_refl _, hz⟩
    row := Nat.zero_le _
    next := fun t ht => by
      obtain ⟨i, p, hp, rfl⟩ := hr t ht
      have : i < (S.crashNames picks).length := (List.getElem?_eq_some_iff.1 hp).1
      show S.next + i < S.next + (S.crashNames picks).length
      omega
    thing := fun t ht => by
      obtain ⟨i, p, hp, rfl⟩ := hr t ht
      have hth := h.thing _ (h.crash_reach picks p (List.mem_of_getElem? hp))
      have e : (S.crash picks).things (S.next + i) = ⟨S.crashBytes picks i p.2, S.crashBytes picks i p.2, []⟩ := by
        show (if S.next + i < S.next then S.things (S.next + i) else match (S.crashNames picks)[S.next + i - S.next]? with | some p => _ | none => _) = _
        have e1 : S.next + i - S.next = i := by omega
        rw [if_neg (by omega), e1, hp]
      rw [e]
      exact ⟨Nat.zero_le _, rfl, leftOf_len (.inl hth.ok)⟩
    turns := ⟨rfl, by show ((S.crashNames picks).zipIdx.map _).length ≤ 256; simpa using hlen⟩
    sn := by
      intro p hp
      have : p.1 ∈ alKeys ((S.crashNames picks).zipIdx.map fun (p, i) => (p.1, S.next + i)) := List.mem_map_of_mem (f := (·.1)) hp
      rw [hkeys] at this
      obtain ⟨q, hq, e⟩ := List.mem_map.1 this
      rw [← e]; exact h.crashNames_small picks q hq
    rn := by intro d hd; cases hd
    safe := hord.of_keys hkeys }
theorem AD.Ok.read {S : AD} {c : Nat} (h : S.Ok c) (hs : c < 1099511627776) (name : ByteArray) (a n : Int) : (S.read name a n).2.2.Ok (c + 1) := by
  have hm := h.mono (Nat.le_succ c) hs
  unfold AD.read
  split
  · exact hm
  · split
    · exact hm
    · exact { hm with reads := by have := h.reads; show (S.reads ++ _).length ≤ c + 1; simp; omega }
end Go.Proofs.XDisk
