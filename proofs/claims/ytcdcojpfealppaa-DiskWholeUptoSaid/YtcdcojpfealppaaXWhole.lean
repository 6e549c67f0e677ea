/- The plain law of DiskWhole. -/
import Derived.Test.YtcdcojpfealppaaXSafe
set_option linter.unusedVariables false
set_option linter.unusedSimpArgs false
namespace Go.Proofs.XDisk
open Go.Proofs.XMaps
section
variable {β : Type}
theorem alGet_cons (s : ByteArray) (v : β) (l : List (ByteArray × β)) (n : ByteArray) : alGet ((s, v) :: l) n = if s = n then some v else alGet l n := by
  unfold alGet
  by_cases h : s = n
  · rw [if_pos h, List.find?_cons_of_pos (by simp [h])]; rfl
  · rw [if_neg h, List.find?_cons_of_neg (by simp [h])]
theorem alGet_del (l : List (ByteArray × β)) (s n : ByteArray) : alGet (alDel l s) n = if s = n then none else alGet l n := by
  induction l with
  | nil => unfold alDel alGet; simp
  | cons p r ih =>
    obtain ⟨a, b⟩ := p
    by_cases h : a = s
    · have e : alDel ((a, b) :: r) s = alDel r s := by unfold alDel; rw [List.filter_cons_of_neg (by simp [h])]
      rw [e, ih, alGet_cons]
      by_cases h2 : s = n
      · rw [if_pos h2, if_pos h2]
      · rw [if_neg h2, if_neg h2, if_neg (by rw [h]; exact h2)]
    · have e : alDel ((a, b) :: r) s = (a, b) :: alDel r s := by unfold alDel; rw [List.filter_cons_of_pos (by simp [h])]
      rw [e, alGet_cons, ih, alGet_cons]
      by_cases h2 : s = n
      · rw [if_pos h2, if_pos h2, if_neg (by rw [← h2]; exact h)]
      · rw [if_neg h2, if_neg h2]
theorem alGet_set {l : List (ByteArray × β)} (hn : (alKeys l).Nodup) (s : ByteArray) (v : β) (n : ByteArray) : alGet (alSet l s v) n = if s = n then some v else alGet l n := by
  have hp := alSet_perm hn s v
  have hnd : (alKeys (alSet l s v)).Nodup := (alKeys_perm hp).nodup_iff.2 (by
    show (s :: alKeys (alDel l s)).Nodup
    rw [List.nodup_cons]
    refine ⟨fun h => ?_, alDel_keys_nodup hn s⟩
    obtain ⟨p, hp, he⟩ := List.mem_map.1 h
    exact (mem_alDel.1 hp).2 he)
  rw [alGet_perm hp hnd, alGet_cons, alGet_del]
  by_cases h : s = n
  · rw [if_pos h, if_pos h]
  · rw [if_neg h, if_neg h, if_neg h]
theorem alSet_nodup {l : List (ByteArray × β)} (hn : (alKeys l).Nodup) (s : ByteArray) (v : β) : (alKeys (alSet l s v)).Nodup :=
  (alKeys_perm (alSet_perm hn s v)).nodup_iff.2 (by
    show (s :: alKeys (alDel l s)).Nodup
    rw [List.nodup_cons]
    refine ⟨fun h => ?_, alDel_keys_nodup hn s⟩
    obtain ⟨p, hp, he⟩ := List.mem_map.1 h
    exact (mem_alDel.1 hp).2 he)
theorem app_nodup {l : List (ByteArray × β)} (hn : (alKeys l).Nodup) {s : ByteArray} (hs : alGet l s = none) (v : β) : (alKeys (l ++ [(s, v)])).Nodup := by
  refine (alKeys_perm (List.perm_append_singleton (s, v) l)).nodup_iff.2 ?_
  show (s :: alKeys l).Nodup
  rw [List.nodup_cons]
  refine ⟨fun h => ?_, hn⟩
  obtain ⟨p, hp, he⟩ := List.mem_map.1 h
  exact alGet_none_iff.1 hs p hp he
theorem alGet_app {l : List (ByteArray × β)} (hn : (alKeys l).Nodup) {s : ByteArray} (hs : alGet l s = none) (v : β) (n : ByteArray) : alGet (l ++ [(s, v)]) n = if s = n then some v else alGet l n := by
  rw [alGet_perm (List.perm_append_singleton (s, v) l) (app_nodup hn hs v), alGet_cons]
theorem alGet_at' {l : List (ByteArray × β)} (hn : (alKeys l).Nodup) {i : Nat} (hi : i < l.length) : alGet l l[i].1 = some l[i].2 := alGet_at hn (List.getElem?_eq_getElem hi)
/-- The place of a name: put anew. -/
theorem set_at {l : List (ByteArray × β)} (hn : (alKeys l).Nodup) {i : Nat} (hi : i < l.length) (v : β) : l.set i (l[i].1, v) = alSet l l[i].1 v := by
  unfold alSet
  rw [if_pos (any_true (List.getElem_mem hi))]
  refine List.ext_getElem (by simp) fun j h1 h2 => ?_
  rw [List.getElem_set, List.getElem_map]
  have hj : j < l.length := by simpa using h1
  by_cases e : i = j
  · subst e; rw [if_pos rfl, if_pos rfl]
  · rw [if_neg e]
    have : l[j].1 ≠ l[i].1 := by
      intro he
      have hk := List.pairwise_iff_getElem.1 hn
      rcases Nat.lt_or_ge i j with h | h
      · exact hk i j (by simpa [alKeys] using hi) (by simpa [alKeys] using hj) h (by simpa [alKeys] using he.symm)
      · exact hk j i (by simpa [alKeys] using hj) (by simpa [alKeys] using hi) (by omega) (by simpa [alKeys] using he)
    rw [if_neg this]
/-- The place of a name: taken away. -/
theorem del_at {l : List (ByteArray × β)} (hn : (alKeys l).Nodup) {i : Nat} (hi : i < l.length) : l.take i ++ l.drop (i + 1) = alDel l l[i].1 := by
  have hk := List.pairwise_iff_getElem.1 hn
  have hne : ∀ j (hj : j < l.length), j ≠ i → l[j].1 ≠ l[i].1 := by
    intro j hj hji he
    rcases Nat.lt_or_ge i j with h | h
    · exact hk i j (by simpa [alKeys] using hi) (by simpa [alKeys] using hj) h (by simpa [alKeys] using he.symm)
    · exact hk j i (by simpa [alKeys] using hj) (by simpa [alKeys] using hi) (by omega) (by simpa [alKeys] using he)
  have e : l = l.take i ++ l[i] :: l.drop (i + 1) := by rw [← List.drop_eq_getElem_cons hi, List.take_append_drop]
  have h1 : alDel (l.take i) l[i].1 = l.take i := alDel_none fun p hp => by
    obtain ⟨j, hj, rfl⟩ := List.getElem_of_mem hp
    rw [List.getElem_take]
    have := List.length_take_le i l
    exact hne j (by simp at hj; omega) (by simp at hj; omega)
  have h2 : alDel (l.drop (i + 1)) l[i].1 = l.drop (i + 1) := alDel_none fun p hp => by
    obtain ⟨j, hj, rfl⟩ := List.getElem_of_mem hp
    rw [List.getElem_drop]
    exact hne _ (by simp at hj; omega) (by omega)
  have h3 : alDel l l[i].1 = alDel (l.take i) l[i].1 ++ alDel (l[i] :: l.drop (i + 1)) l[i].1 := by
    unfold alDel
    rw [← List.filter_append, ← e]
  have h4 : alDel (l[i] :: l.drop (i + 1)) l[i].1 = alDel (l.drop (i + 1)) l[i].1 := by
    unfold alDel
    rw [List.filter_cons_of_neg (by simp)]
  rw [h3, h4, h1, h2]
end
theorem alGet_setN' {l : Names} (hn : (alKeys l).Nodup) (s : ByteArray) (t : Nat) (n : ByteArray) : alGet (setN l s t) n = if s = n then some t else alGet l n := by
  rw [alGet_perm (setN_perm l s t) (setN_nodup hn s t), alGet_cons, alGet_del]
  by_cases h : s = n
  · rw [if_pos h, if_pos h]
  · rw [if_neg h, if_neg h, if_neg h]
abbrev Helds := List (ByteArray × Nat)
/-- What the statement counts by hand. -/
def madeH (hl : Helds) (k : Nat) (x : StepA) : Helds × Nat :=
  if x.kind = 1 then (hl ++ [(x.name, 0)], k + 1)
  else if x.kind = 2 ∨ x.kind = 3 then (match alGet hl x.name with | some u => alSet hl x.name (u + x.data.length) | none => hl, k)
  else if x.kind = 4 then (match alGet hl x.name with | some u => alSet hl x.name (u + 1) | none => hl, k)
  else if x.kind = 5 then (if x.name = x.to_ then (hl, k) else match alGet hl x.name with | some u => (alDel (alDel hl x.name) x.to_ ++ [(x.to_, u)], k + 1) | none => (hl, k))
  else if x.kind = 6 then (alDel hl x.name, k + 1)
  else if x.kind = 7 then (match alGet hl x.name with | some u => alSet hl x.name 0 | none => hl, k)
  else if x.kind = 8 then (hl, 0)
  else (hl, k)
/-- The counts are right. -/
structure Counts (S : AD) (hl : Helds) (k : Nat) : Prop where
  nd : (alKeys hl).Nodup
  get : ∀ n, alGet hl n = (alGet S.shown n).map fun t => unitsOf (S.things t).row
  turns : k = S.row.length
section
variable {S T : AD} {hl : Helds} {k c : Nat}
theorem Counts.same (h : Counts S hl k) (h1 : T.shown = S.shown) (h2 : T.things = S.things) (h3 : T.row = S.row) : Counts T hl k := ⟨h.nd, by rw [h1, h2]; exact h.get, by rw [h3]; exact h.turns⟩
theorem Counts.of (h : Counts S hl k) {n : ByteArray} {t : Nat} (hn : alGet S.shown n = some t) : alGet hl n = some (unitsOf (S.things t).row) := by rw [h.get, hn]; rfl
theorem Counts.thing (h : Counts S hl k) (hi : S.Inj) {n : ByteArray} {t : Nat} (hn : alGet S.shown n = some t) (X : Thg) : Counts (S.setThing t X) (alSet hl n (unitsOf X.row)) k := by
  refine ⟨alSet_nodup h.nd _ _, fun m => ?_, h.turns⟩
  rw [alGet_set h.nd]
  show _ = (alGet S.shown m).map fun t' => unitsOf (if t' = t then X else S.things t').row
  by_cases e : n = m
  · subst e
    rw [if_pos rfl, hn]
    simp
  · rw [if_neg e, h.get]
    cases hg : alGet S.shown m with
    | none => rfl
    | some t' =>
      have : t' ≠ t := by
        rintro rfl
        exact e (congrArg Prod.fst (snd_inj hi (mem_of_alGet hn) (mem_of_alGet hg) rfl))
      simp [this]
theorem Counts.made (h : Counts S hl k) (hnd : (alKeys S.shown).Nodup) (hnx : ∀ p ∈ S.shown, p.2 < S.next) {n : ByteArray} (hn : alGet S.shown n = none) : Counts (S.made n) (hl ++ [(n, 0)]) (k + 1) := by
  have hn' : alGet hl n = none := by rw [h.get, hn]; rfl
  refine ⟨app_nodup h.nd hn' 0, fun m => ?_, ?_⟩
  · rw [alGet_app h.nd hn']
    show _ = (alGet (setN S.shown n S.next) m).map fun t' => unitsOf (if t' = S.next then Thg.empty else S.things t').row
    rw [alGet_setN' hnd]
    by_cases e : n = m
    · rw [if_pos e, if_pos e]
      simp [Thg.empty, unitsOf]
    · rw [if_neg e, if_neg e, h.get]
      cases hg : alGet S.shown m with
      | none => rfl
      | some t' =>
        have := hnx _ (mem_of_alGet hg)
        have h' : t' ≠ S.next := by have : t' < S.next := this; omega
        simp [h']
  · show k + 1 = (S.row ++ [_]).length
    rw [List.length_append, h.turns]; rfl
theorem Counts.take (h : Counts S hl k) (n : ByteArray) : Counts (S.turned (.take n)) (alDel hl n) (k + 1) := by
  refine ⟨alDel_keys_nodup h.nd n, fun m => ?_, ?_⟩
  · rw [alGet_del]
    show _ = (alGet (alDel S.shown n) m).map _
    rw [alGet_del]
    by_cases e : n = m
    · rw [if_pos e, if_pos e]; rfl
    · rw [if_neg e, if_neg e]; exact h.get m
  · show k + 1 = (S.row ++ [_]).length
    rw [List.length_append, h.turns]; rfl
theorem Counts.give (h : Counts S hl k) (hnd : (alKeys S.shown).Nodup) {a b : ByteArray} {t : Nat} (hab : a ≠ b) (ha : alGet S.shown a = some t) : Counts (S.turned (.give a b)) (alDel (alDel hl a) b ++ [(b, unitsOf (S.things t).row)]) (k + 1) := by
  have hb : alGet (alDel (alDel hl a) b) b = none := by rw [alGet_del, if_pos rfl]
  have nd1 := alDel_keys_nodup (alDel_keys_nodup h.nd a) b
  refine ⟨app_nodup nd1 hb _, fun m => ?_, ?_⟩
  · rw [alGet_app nd1 hb]
    show _ = (alGet (setN (alDel S.shown a) b ((alGet S.shown a).getD 0)) m).map _
    rw [alGet_setN' (alDel_keys_nodup hnd a), ha]
    by_cases e : b = m
    · rw [if_pos e, if_pos e]; rfl
    · rw [if_neg e, if_neg e, alGet_del, if_neg e, alGet_del, alGet_del]
      by_cases e2 : a = m
      · rw [if_pos e2, if_pos e2]; rfl
      · rw [if_neg e2, if_neg e2]; exact h.get m
  · show k + 1 = (S.row ++ [_]).length
    rw [List.length_append, h.turns]; rfl
/-- What the statement counts behind one call. -/
def nextH (S T : AD) (r : Int) (x : StepA) (hl : Helds) (k : Nat) : Helds × Nat :=
  if (r = 50 ∧ S.off = false ∧ T.off = true ∧ x.kind ≠ 7 ∧ x.kind ≠ 8 ∧ (x.kind ≠ 1 ∨ T.shown.length > S.shown.length)) ∨ (r = 0 ∧ 1 ≤ x.kind ∧ x.kind ≤ 8) then madeH hl k x else (hl, k)
/-- Nothing is claimed behind it. -/
def loose (S T : AD) (r : Int) (x : StepA) : Prop := r = 50 ∧ S.off = false ∧ T.off = true ∧ (x.kind = 2 ∨ x.kind = 3) ∧ x.data.length > 0 ∧ T.files = S.files
def Next (S T : AD) (r : Int) (x : StepA) (hl : Helds) (k : Nat) : Prop := ¬ loose S T r x → Counts T (nextH S T r x hl k).1 (nextH S T r x hl k).2
theorem next_no {r : Int} {x : StepA} (h : Counts T hl k) (h0 : r ≠ 0) (h1 : r = 50 → S.off = true) : Next S T r x hl k := by
  intro _
  unfold nextH
  rw [if_neg]
  · exact h
  · rintro (⟨h2, h3, _⟩ | ⟨h2, _⟩)
    · rw [h1 h2] at h3; cases h3
    · exact h0 h2
theorem next_made {r : Int} {x : StepA} (h : Counts T (madeH hl k x).1 (madeH hl k x).2) (h0 : (r = 50 ∧ S.off = false ∧ T.off = true ∧ x.kind ≠ 7 ∧ x.kind ≠ 8 ∧ (x.kind ≠ 1 ∨ T.shown.length > S.shown.length)) ∨ (r = 0 ∧ 1 ≤ x.kind ∧ x.kind ≤ 8)) : Next S T r x hl k := by
  intro _
  unfold nextH
  rw [if_pos h0]
  exact h
theorem next_not {r : Int} {x : StepA} (h : Counts T hl k) (h0 : ¬ ((r = 50 ∧ S.off = false ∧ T.off = true ∧ x.kind ≠ 7 ∧ x.kind ≠ 8 ∧ (x.kind ≠ 1 ∨ T.shown.length > S.shown.length)) ∨ (r = 0 ∧ 1 ≤ x.kind ∧ x.kind ≤ 8))) : Next S T r x hl k := by
  intro _
  unfold nextH
  rw [if_neg h0]
  exact h
/-- A stroke does what it does, or not. -/
theorem stroke_two (S : AD) (kind : Int) {refused : Int} (act : AD → AD) (hr : refused = 0 ∨ refused = 55 ∨ refused = 56) :
    ∃ o : Bool, (S.stroke kind refused act = (if o then 50 else 0, act { S.ticked with off := o }) ∧ (o = true → kind ≠ 2) ∧ refused = 0) ∨
      ∃ r, S.stroke kind refused act = (r, { S.ticked with off := o }) ∧ (o = true ∧ r = 50 ∨ o = false ∧ r ≠ 0 ∧ r ≠ 50) ∧ (kind = 0 → refused ≠ 0) := by
  refine ⟨decide (S.ticked.since = S.ticked.plan.off), ?_⟩
  unfold AD.stroke
  simp only
  generalize decide (S.ticked.since = S.ticked.plan.off) = o
  by_cases c1 : refused = 0 ∧ kind = 1 ∧ S.ticked.since ≥ S.ticked.plan.from_ ∧ S.ticked.since ≤ S.ticked.plan.to_
  · rw [if_pos c1]
    right
    refine ⟨_, by rw [if_neg (show ¬ ((55 : Int) = 0 ∧ ¬ (o = true ∧ kind = 2)) from fun h => absurd h.1 (by decide))], ?_, by omega⟩
    cases o
    · right; exact ⟨rfl, by decide, by decide⟩
    · left; exact ⟨rfl, rfl⟩
  · rw [if_neg c1]
    by_cases c2 : refused = 0 ∧ ¬ (o = true ∧ kind = 2)
    · rw [if_pos c2]
      left
      rw [c2.1]
      exact ⟨rfl, fun h h2 => c2.2 ⟨h, h2⟩, rfl⟩
    · rw [if_neg c2]
      right
      refine ⟨_, rfl, ?_, fun hk h0 => c2 ⟨h0, fun hh => by omega⟩⟩
      cases o
      · right
        have : refused ≠ 0 := fun h0 => c2 ⟨h0, by simp⟩
        refine ⟨rfl, ?_, ?_⟩ <;> simp only [Bool.false_eq_true, if_false] <;> omega
      · left; exact ⟨rfl, rfl⟩
theorem off_lk {n : ByteArray} (h : S.look n = 0 ∨ S.look n = 53) : S.off = false := by
  cases ho : S.off with
  | false => rfl
  | true => have := (look_off S n).2 ho; omega
theorem tick_same (h : Counts S hl k) (o : Bool) : Counts ({ S.ticked with off := o } : AD) hl k := h.same rfl rfl rfl
theorem inj_tick (h : S.Inj) (o : Bool) : ({ S.ticked with off := o } : AD).Inj := h
theorem next_create (ok : S.Ok c) (h : Counts S hl k) {x : StepA} (hx : x.kind = 1) : Next S (S.create x.name).2 (S.create x.name).1 x hl k := by
  unfold AD.create
  rcases look_cases S x.name with hl0 | hl0 | ⟨hl0, _, hg⟩ | ⟨hl0, _, hg⟩
  · rw [hl0, if_neg (by decide), if_neg (by decide)]
    exact next_no h (by simp) fun _ => (look_off S x.name).1 hl0
  · rw [hl0, if_neg (by decide), if_neg (by decide)]
    exact next_no h (by simp) fun e => absurd e (by simp)
  · have ho := off_lk (.inr hl0)
    rw [hl0, if_neg (by decide), if_pos rfl]
    obtain ⟨o, ⟨e, h2, h3⟩ | ⟨r, e, h2, h3⟩⟩ := stroke_two S 1 (refused := if S.shown.length ≥ 256 then 56 else 0) (fun S => S.made x.name) (by split <;> simp)
    · rw [e]
      have hC := (tick_same h o).made (S := { S.ticked with off := o }) ok.shown.nodup (fun p hp => ok.next p.2 (.inl ⟨p.1, hp⟩)) (n := x.name) hg
      refine next_made (by unfold madeH; rw [if_pos hx]; exact hC) ?_
      have hlen : (AD.made { S.ticked with off := o } x.name).shown.length > S.shown.length := by
        show (setN S.shown x.name S.next).length > _
        rw [(setN_perm S.shown x.name S.next).length_eq, alDel_none (alGet_none_iff.1 hg)]
        simp
      cases o
      · right; exact ⟨rfl, by omega, by omega⟩
      · left; exact ⟨rfl, ho, rfl, by omega, by omega, .inr hlen⟩
    · rw [e]
      refine next_not (tick_same h o) ?_
      rintro (⟨_, _, _, _, _, h6⟩ | ⟨h6, _⟩)
      · rcases h6 with h6 | h6
        · exact h6 hx
        · exact absurd h6 (Nat.lt_irrefl _)
      · rcases h2 with ⟨_, h2⟩ | ⟨_, h2, _⟩
        · simp only at h6; omega
        · exact h2 h6
  · rw [hl0, if_pos rfl]
    exact next_no h (by simp) fun e => absurd e (by simp)
theorem next_write (ok : S.Ok c) (hi : S.Inj) (h : Counts S hl k) {x : StepA} (hx : x.kind = 2 ∨ x.kind = 3) (a : Int) : Next S (S.writeAt x.name a x.data).2 (S.writeAt x.name a x.data).1 x hl k := by
  unfold AD.writeAt
  by_cases hl0 : S.look x.name = 0
  · rw [if_neg (by rw [hl0]; decide)]
    have ho := off_lk (.inl hl0)
    have hg := (look0 hl0).2
    have hu := h.of hg
    by_cases hb : a < 0 ∨ a > (S.bytes x.name).length
    · rw [if_pos hb]
      exact next_no h (by simp) fun e => absurd e (by simp)
    · rw [if_neg hb]
      have hm : ∀ {u}, unitsOf ((S.things (S.of x.name)).row) = u → madeH hl k x = (alSet hl x.name (u + x.data.length), k) := by
        rintro u rfl
        unfold madeH
        rw [if_neg (by omega), if_pos hx, hu]
      obtain ⟨o, ⟨e, h2, h3⟩ | ⟨r, e, h2, h3⟩⟩ := stroke_two S 1 (refused := if a + x.data.length - (S.bytes x.name).length > 0 ∧ S.used + (a + x.data.length - (S.bytes x.name).length) > S.room then 55 else 0) (fun T => T.setThing (S.of x.name) ((T.things (S.of x.name)).add (.wr a.toNat x.data))) (by split <;> simp)
      · rw [e]
        refine next_made ?_ ?_
        · rw [hm rfl]
          have hC := (tick_same h o).thing (S := { S.ticked with off := o }) (inj_tick hi o) hg ((S.things (S.of x.name)).add (.wr a.toNat x.data))
          have eu : unitsOf ((S.things (S.of x.name)).add (.wr a.toNat x.data)).row = unitsOf (S.things (S.of x.name)).row + x.data.length := by
            unfold Thg.add unitsOf
            rw [List.map_append, List.sum_append]; simp [Chg.units]
          rw [eu] at hC
          exact hC
        · cases o
          · right; exact ⟨rfl, by omega, by omega⟩
          · left; exact ⟨rfl, ho, rfl, by omega, by omega, .inl (by omega)⟩
      · rw [e]
        rcases h2 with ⟨rfl, rfl⟩ | ⟨rfl, h4, h5⟩
        · intro hloose
          have hd : x.data.length = 0 := by
            rcases Nat.eq_zero_or_pos x.data.length with h0 | h0
            · exact h0
            · exact absurd ⟨rfl, ho, rfl, hx, h0, rfl⟩ hloose
          refine next_made ?_ (.inl ⟨rfl, ho, rfl, by omega, by omega, .inl (by omega)⟩) hloose
          rw [hm rfl, hd]
          have hC := (tick_same h true).thing (S := { S.ticked with off := true }) (inj_tick hi true) hg (S.things (S.of x.name))
          refine hC.same rfl ?_ rfl
          funext i
          show S.things i = if i = S.of x.name then S.things (S.of x.name) else S.things i
          split
          · rename_i e; rw [e]
          · rfl
        · exact next_no (tick_same h false) h4 fun e => absurd e h5
  · rw [if_pos hl0]
    exact next_no h hl0 fun e => (look_off S x.name).1 e
theorem next_do (ok : S.Ok c) (hi : S.Inj) (h : Counts S hl k) {x : StepA} (hx : x.kind ≠ 12) : Next S (S.doStep x).2 (S.doStep x).1 x hl k := by
  unfold AD.doStep
  by_cases k1 : x.kind = 1
  · rw [if_pos k1]; exact next_create ok h k1
  rw [if_neg k1]
  by_cases k2 : x.kind = 2
  · rw [if_pos k2]; exact next_write ok hi h (.inl k2) _
  rw [if_neg k2]
  by_cases k3 : x.kind = 3
  · rw [if_pos k3]
    unfold AD.append
    by_cases hl0 : S.look x.name = 0
    · rw [if_neg (by rw [hl0]; decide)]; exact next_write ok hi h (.inr k3) _
    · rw [if_pos hl0]; exact next_no h hl0 fun e => (look_off S x.name).1 e
  rw [if_neg k3]
  by_cases k4 : x.kind = 4
  · rw [if_pos k4]
    unfold AD.truncate
    by_cases hl0 : S.look x.name = 0
    · rw [if_neg (by rw [hl0]; decide)]
      have ho := off_lk (.inl hl0)
      have hg := (look0 hl0).2
      have hu := h.of hg
      by_cases hb : x.n < 0 ∨ x.n > (S.bytes x.name).length
      · rw [if_pos hb]
        exact next_no h (by simp) fun e => absurd e (by simp)
      rw [if_neg hb]
      obtain ⟨o, ⟨e, h2, h3⟩ | ⟨r, e, h2, h3⟩⟩ := stroke_two S 0 (refused := 0) (fun T => T.setThing (S.of x.name) ((T.things (S.of x.name)).add (.cut x.n.toNat))) (.inl rfl)
      · rw [e]
        refine next_made ?_ ?_
        · have hC := (tick_same h o).thing (S := { S.ticked with off := o }) (inj_tick hi o) hg ((S.things (S.of x.name)).add (.cut x.n.toNat))
          have eu : unitsOf ((S.things (S.of x.name)).add (.cut x.n.toNat)).row = unitsOf (S.things (S.of x.name)).row + 1 := by
            unfold Thg.add unitsOf
            rw [List.map_append, List.sum_append]; simp [Chg.units]
          rw [eu] at hC
          have hm : madeH hl k x = (alSet hl x.name (unitsOf (S.things (S.of x.name)).row + 1), k) := by
            unfold madeH
            rw [if_neg k1, if_neg (by omega), if_pos k4, hu]
          rw [hm]; exact hC
        · cases o
          · right; exact ⟨rfl, by omega, by omega⟩
          · left; exact ⟨rfl, ho, rfl, by omega, by omega, .inl (by omega)⟩
      · exact absurd rfl (h3 rfl)
    · rw [if_pos hl0]; exact next_no h hl0 fun e => (look_off S x.name).1 e
  rw [if_neg k4]
  by_cases k5 : x.kind = 5
  · rw [if_pos k5]
    unfold AD.rename
    cases ho : S.off with
    | true =>
      rw [if_pos rfl]
      exact next_no h (by simp) fun _ => ho
    | false =>
      simp only [Bool.false_eq_true, if_false]
      by_cases hb : (!isName x.name || !isName x.to_) = true
      · rw [if_pos hb]; exact next_no h (by simp) fun e => absurd e (by simp)
      rw [if_neg hb]
      cases hg : alGet S.shown x.name with
      | none => exact next_no h (by simp) fun e => absurd e (by simp)
      | some t =>
        have hu := h.of hg
        show Next S (S.stroke 0 0 _).2 (S.stroke 0 0 _).1 x hl k
        obtain ⟨o, ⟨e, h2, h3⟩ | ⟨r, e, h2, h3⟩⟩ := stroke_two S 0 (refused := 0) (fun T => if x.name = x.to_ then T else T.turned (.give x.name x.to_)) (.inl rfl)
        · rw [e]
          have hcond : ∀ T : AD, T.off = o → (((if o then (50 : Int) else 0) = 50 ∧ S.off = false ∧ T.off = true ∧ x.kind ≠ 7 ∧ x.kind ≠ 8 ∧ (x.kind ≠ 1 ∨ T.shown.length > S.shown.length)) ∨ ((if o then (50 : Int) else 0) = 0 ∧ 1 ≤ x.kind ∧ x.kind ≤ 8)) := by
            intro T hT
            cases o
            · right; exact ⟨rfl, by omega, by omega⟩
            · left; exact ⟨rfl, ho, hT, by omega, by omega, .inl (by omega)⟩
          have hm : madeH hl k x = if x.name = x.to_ then (hl, k) else (alDel (alDel hl x.name) x.to_ ++ [(x.to_, unitsOf (S.things t).row)], k + 1) := by
            unfold madeH
            rw [if_neg k1, if_neg (by omega), if_neg k4, if_pos k5, hu]
          by_cases hab : x.name = x.to_
          · simp only [if_pos hab] at hm ⊢
            refine next_made ?_ (hcond _ rfl)
            rw [hm]; exact tick_same h o
          · simp only [if_neg hab] at hm ⊢
            refine next_made ?_ (hcond _ rfl)
            rw [hm]
            exact (tick_same h o).give (S := { S.ticked with off := o }) ok.shown.nodup hab hg
        · exact absurd rfl (h3 rfl)
  rw [if_neg k5]
  by_cases k6 : x.kind = 6
  · rw [if_pos k6]
    unfold AD.remove
    by_cases hl0 : S.look x.name = 0
    · rw [if_neg (by rw [hl0]; decide)]
      have ho := off_lk (.inl hl0)
      obtain ⟨o, ⟨e, h2, h3⟩ | ⟨r, e, h2, h3⟩⟩ := stroke_two S 0 (refused := 0) (fun T => T.turned (.take x.name)) (.inl rfl)
      · rw [e]
        refine next_made ?_ ?_
        · have hm : madeH hl k x = (alDel hl x.name, k + 1) := by
            unfold madeH
            rw [if_neg k1, if_neg (by omega), if_neg k4, if_neg k5, if_pos k6]
          rw [hm]; exact (tick_same h o).take (S := { S.ticked with off := o }) x.name
        · cases o
          · right; exact ⟨rfl, by omega, by omega⟩
          · left; exact ⟨rfl, ho, rfl, by omega, by omega, .inl (by omega)⟩
      · exact absurd rfl (h3 rfl)
    · rw [if_pos hl0]; exact next_no h hl0 fun e => (look_off S x.name).1 e
  rw [if_neg k6]
  by_cases k7 : x.kind = 7
  · rw [if_pos k7]
    unfold AD.sync
    by_cases hl0 : S.look x.name = 0
    · rw [if_neg (by rw [hl0]; decide)]
      have ho := off_lk (.inl hl0)
      have hg := (look0 hl0).2
      have hu := h.of hg
      obtain ⟨o, ⟨e, h2, h3⟩ | ⟨r, e, h2, h3⟩⟩ := stroke_two S 2 (refused := 0) (fun T => T.setThing (S.of x.name) (T.things (S.of x.name)).settle) (.inl rfl)
      · rw [e]
        cases o with
        | true => exact absurd rfl (h2 rfl)
        | false =>
          refine next_made ?_ (.inr ⟨rfl, by omega, by omega⟩)
          have hm : madeH hl k x = (alSet hl x.name 0, k) := by
            unfold madeH
            rw [if_neg k1, if_neg (by omega), if_neg k4, if_neg k5, if_neg k6, if_pos k7, hu]
          rw [hm]
          exact (tick_same h false).thing (S := { S.ticked with off := false }) (inj_tick hi false) hg (S.things (S.of x.name)).settle
      · rw [e]
        refine next_not (tick_same h o) ?_
        rintro (⟨_, _, _, h6, _⟩ | ⟨h6, _⟩)
        · exact h6 k7
        · rcases h2 with ⟨_, h2⟩ | ⟨_, h2, _⟩
          · simp only at h6; omega
          · exact h2 h6
    · rw [if_pos hl0]; exact next_no h hl0 fun e => (look_off S x.name).1 e
  rw [if_neg k7]
  by_cases k8 : x.kind = 8
  · rw [if_pos k8]
    unfold AD.syncNames
    cases ho : S.off with
    | true =>
      rw [if_pos rfl]
      exact next_no h (by simp) fun _ => ho
    | false =>
      simp only [Bool.false_eq_true, if_false]
      obtain ⟨o, ⟨e, h2, h3⟩ | ⟨r, e, h2, h3⟩⟩ := stroke_two S 2 (refused := 0) (fun S => { S with safe := S.shown, row := [] }) (.inl rfl)
      · rw [e]
        cases o with
        | true => exact absurd rfl (h2 rfl)
        | false =>
          refine next_made ?_ (.inr ⟨rfl, by omega, by omega⟩)
          have hm : madeH hl k x = (hl, 0) := by
            unfold madeH
            rw [if_neg k1, if_neg (by omega), if_neg k4, if_neg k5, if_neg k6, if_neg k7, if_pos k8]
          rw [hm]
          exact ⟨h.nd, h.get, rfl⟩
      · rw [e]
        refine next_not (tick_same h o) ?_
        rintro (⟨_, _, _, _, h6, _⟩ | ⟨h6, _⟩)
        · exact h6 k8
        · rcases h2 with ⟨_, h2⟩ | ⟨_, h2, _⟩
          · simp only at h6; omega
          · exact h2 h6
  rw [if_neg k8]
  have rest : ∀ {r : Int} {T : AD}, Counts T hl k → (r = 50 → S.off = true) → Next S T r x hl k := by
    intro r T hT hr
    by_cases h0 : r = 0
    · refine next_not hT ?_
      rintro (⟨h6, _⟩ | ⟨_, h6, h7⟩) <;> omega
    · exact next_no hT h0 hr
  by_cases k9 : x.kind = 9
  · rw [if_pos k9]
    unfold AD.read
    by_cases hl0 : S.look x.name = 0
    · rw [if_neg (by rw [hl0]; decide)]
      split
      · exact rest h fun e => absurd e (by simp)
      · exact rest (h.same rfl rfl rfl) fun e => absurd e (by simp)
    · rw [if_pos hl0]; exact rest h fun e => (look_off S x.name).1 e
  rw [if_neg k9]
  by_cases k10 : x.kind = 10
  · rw [if_pos k10]; exact rest h fun e => (look_off S x.name).1 e
  rw [if_neg k10]
  by_cases k11 : x.kind = 11
  · rw [if_pos k11]
    refine rest ?_ fun e => absurd e (by simp)
    show Counts (S.plans x.plan) hl k
    unfold AD.plans
    split
    · exact h
    · exact h.same rfl rfl rfl
  rw [if_neg k11, if_neg hx]
  by_cases k13 : x.kind = 13
  · rw [if_pos k13]; exact rest (h.same rfl rfl rfl) fun e => absurd e (by simp)
  · rw [if_neg k13]; exact rest h fun e => absurd e (by simp)
theorem Counts.new (room : Int) : Counts (AD.new room) [] 0 := ⟨List.nodup_nil, fun _ => rfl, rfl⟩
/-- Behind a crash. -/
theorem Counts.crash {picks : List Int} (ok : (S.crash picks).Ok c) : Counts (S.crash picks) ((S.crash picks).shown.map fun p => (p.1, 0)) 0 := by
  have hk : alKeys ((S.crash picks).shown.map fun p => (p.1, 0)) = alKeys (S.crash picks).shown := by unfold alKeys; rw [List.map_map]; rfl
  refine ⟨by rw [hk]; exact ok.shown.nodup, fun n => ?_, rfl⟩
  have e : ∀ l : Names, alGet (l.map fun p => (p.1, 0)) n = (alGet l n).map fun _ => 0 := by
    intro l
    induction l with
    | nil => rfl
    | cons p r ih =>
      rw [List.map_cons, alGet_cons, ih]
      show _ = Option.map _ (alGet ((p.1, p.2) :: r) n)
      rw [alGet_cons]
      split <;> rfl
  rw [e]
  cases hg : alGet (S.crash picks).shown n with
  | none => rfl
  | some t =>
    obtain ⟨b, eb⟩ := crash_thing picks (mem_of_alGet hg)
    simp only [Option.map_some]
    rw [eb]; rfl
/-- All changes, gone round some times more. -/
theorem round_all (n : Nat) (times : Int) : roundA (n + times * (n + 1)) n = n := by
  unfold roundA
  show ((((n : Int) + times * (n + 1)) % ((n : Int) + 1))).toNat = n
  rw [Int.add_mul_emod_self_right, Int.emod_eq_of_lt (by omega) (by omega)]
  omega
theorem leftOf_all : ∀ {r : List Chg} {b s : Bytes}, rowOk b r s → XDisk.leftOf b r (unitsOf r) = s
  | [], b, s, h => h.1.symm
  | c :: r, b, s, h => by
    have e : unitsOf (c :: r) = c.units + unitsOf r := by unfold unitsOf; simp
    show XDisk.leftOf (c.made b (min (unitsOf (c :: r)) c.units)) r (unitsOf (c :: r) - min (unitsOf (c :: r)) c.units) = s
    rw [e, Nat.min_eq_right (by omega), Nat.add_sub_cancel_left]
    exact leftOf_all h.2.2.2
theorem turns_all : ∀ {r : List Turn} {l s : Names}, turnsOk l r s → r.foldl (fun l c => c.on l) l = s
  | [], l, s, h => h.1.symm
  | c :: r, l, s, h => turns_all (r := r) (l := c.on l) h.2.2
/-- The picks. -/
def allPicks (S : AD) (hl : Helds) (k : Nat) (times : Int) : List Int := ((k : Int) + times * (k + 1)) :: S.shown.map fun p => (((alGet hl p.1).getD 0 : Nat) : Int) + times * (((alGet hl p.1).getD 0 : Nat) + 1)
theorem crash_all (ok : S.Ok c) (h : Counts S hl k) (times : Int) : (S.crash (allPicks S hl k times)).files = S.files := by
  rw [crash_files]
  have e : S.crashNames (allPicks S hl k times) = S.shown := by
    unfold AD.crashNames
    have : pickA (allPicks S hl k times) 0 S.row.length = S.row.length := by
      show roundA ((k : Int) + times * (k + 1)) S.row.length = _
      rw [h.turns]; exact round_all _ _
    rw [this, List.take_length]
    exact turns_all ok.turns
  rw [e]
  unfold AD.files
  have hz : ∀ (l : Names) (j : Nat), (∀ i p, l[i]? = some p → S.shown[j + i]? = some p) → (l.zipIdx j).map (fun q => (q.1.1, S.crashBytes (allPicks S hl k times) q.2 q.1.2)) = l.map fun p => (p.1, (S.things p.2).shown) := by
    intro l
    induction l with
    | nil => intro j _; rfl
    | cons p r ih =>
      intro j hl'
      rw [List.zipIdx_cons, List.map_cons, List.map_cons, ih (j + 1) fun i q hq => by have := hl' (i + 1) q (by simpa using hq); rwa [show j + 1 + i = j + (i + 1) by omega]]
      have hp := hl' 0 p rfl
      rw [Nat.add_zero] at hp
      congr 2
      show S.crashBytes (allPicks S hl k times) j p.2 = _
      have hm : p ∈ S.shown := List.mem_of_getElem? hp
      have hg := h.of (alGet_mem ok.shown.nodup hm)
      unfold AD.crashBytes Thg.left
      have : pickA (allPicks S hl k times) (j + 1) (unitsOf (S.things p.2).row) = unitsOf (S.things p.2).row := by
        unfold pickA allPicks
        rw [List.getElem?_cons_succ, List.getElem?_map, hp]
        simp only [Option.map_some]
        rw [hg]
        exact round_all _ _
      rw [this]
      exact leftOf_all (ok.thing p.2 (.inl ⟨p.1, hm⟩)).ok
  exact hz _ 0 fun i p hp => by rwa [Nat.zero_add]
theorem Counts.len (h : Counts S hl k) (hnd : (alKeys S.shown).Nodup) : hl.length = S.shown.length := by
  have h1 : (alKeys hl).Perm (alKeys S.shown) := by
    refine (List.perm_ext_iff_of_nodup h.nd hnd).2 fun n => ?_
    have e : ∀ {β : Type} (l : List (ByteArray × β)), n ∈ alKeys l ↔ alGet l n ≠ none := by
      intro β l
      rw [ne_eq, alGet_none_iff]
      unfold alKeys
      rw [List.mem_map]
      constructor
      · rintro ⟨p, hp, he⟩ hh; exact hh p hp he
      · intro hh
        simp only [Classical.not_forall] at hh
        obtain ⟨p, hp, he⟩ := hh
        exact ⟨p, hp, Classical.not_not.1 he⟩
    rw [e, e, h.get]
    simp
  have := h1.length_eq
  simpa [alKeys] using this
end
end Go.Proofs.XDisk
