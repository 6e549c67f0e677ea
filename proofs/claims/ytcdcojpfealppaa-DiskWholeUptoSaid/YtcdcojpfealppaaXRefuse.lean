/- The plain law of DiskRefuses: what one step answers and leaves. -/
import Derived.Test.YtcdcojpfealppaaXStep
set_option linter.unusedVariables false
set_option linter.unusedSimpArgs false
namespace Go.Proofs.XDisk
open Go.Proofs.XMaps
/-- No thing is shown under two names. -/
def AD.Inj (S : AD) : Prop := (S.shown.map (·.2)).Nodup
theorem snd_inj : ∀ {l : Names}, (l.map (·.2)).Nodup → ∀ {p q : ByteArray × Nat}, p ∈ l → q ∈ l → p.2 = q.2 → p = q
  | [], _, p, q, hp, _, _ => by cases hp
  | a :: r, hn, p, q, hp, hq, e => by
    rw [List.map_cons, List.nodup_cons] at hn
    rcases List.mem_cons.1 hp with ep | hp'
    · rcases List.mem_cons.1 hq with eq | hq'
      · rw [ep, eq]
      · have h1 := List.mem_map_of_mem (f := fun x : ByteArray × Nat => x.2) hq'
        rw [← e, ep] at h1; exact absurd h1 hn.1
    · rcases List.mem_cons.1 hq with eq | hq'
      · have h1 := List.mem_map_of_mem (f := fun x : ByteArray × Nat => x.2) hp'
        rw [e, eq] at h1; exact absurd h1 hn.1
      · exact snd_inj hn.2 hp' hq' e
theorem Inj.turned {S : AD} {t : Turn} (h : S.Inj) (hn : (alKeys S.shown).Nodup) (h3 : ∀ n i, t = .mk n i → ∀ p ∈ S.shown, p.2 ≠ i) (h4 : ∀ a b, t = .give a b → alGet S.shown a ≠ none) : (S.turned t).Inj := by
  have del : ∀ (l : Names) (s : ByteArray), (l.map (·.2)).Nodup → ((alDel l s).map (·.2)).Nodup := fun l s h => h.sublist (List.Sublist.map _ List.filter_sublist)
  have set : ∀ (l : Names) (s : ByteArray) (t : Nat), (l.map (·.2)).Nodup → (∀ p ∈ alDel l s, p.2 ≠ t) → ((setN l s t).map (·.2)).Nodup := by
    intro l s t h hne
    refine ((setN_perm l s t).map _).nodup_iff.2 ?_
    show (t :: (alDel l s).map (·.2)).Nodup
    rw [List.nodup_cons]
    refine ⟨fun hm => ?_, del l s h⟩
    obtain ⟨p, hp, he⟩ := List.mem_map.1 hm
    exact hne p hp he
  unfold AD.Inj AD.turned
  cases t with
  | mk n i => exact set _ _ _ h fun p hp => h3 n i rfl p (mem_alDel.1 hp).1
  | give a b =>
    refine set _ _ _ (del _ _ h) fun p hp he => ?_
    have hp1 := mem_alDel.1 (mem_alDel.1 hp).1
    cases hg : alGet S.shown a with
    | none => exact h4 a b rfl hg
    | some u =>
      rw [hg] at he
      have hm := mem_of_alGet hg
      have : p = (a, u) := snd_inj h hp1.1 hm he
      exact hp1.2 (by rw [this])
  | take n => exact del _ _ h
theorem sum_upd {g : Nat → Nat} {t v : Nat} : ∀ {l : List Nat}, l.Nodup → t ∈ l → (l.map fun i => if i = t then v else g i).sum + g t = (l.map g).sum + v
  | [], _, h => by cases h
  | a :: r, hn, h => by
    rw [List.nodup_cons] at hn
    simp only [List.map_cons, List.sum_cons]
    by_cases e : a = t
    · subst e
      have : (r.map fun i => if i = a then v else g i) = r.map g := List.map_congr_left fun i hi => by rw [if_neg (by rintro rfl; exact hn.1 hi)]
      rw [this, if_pos rfl]; omega
    · rw [if_neg e]
      have := sum_upd (g := g) (v := v) hn.2 ((List.mem_cons.1 h).resolve_left (fun h' => e h'.symm))
      omega
theorem sum_same {g : Nat → Nat} {t v : Nat} {l : List Nat} (h : t ∉ l) : (l.map fun i => if i = t then v else g i).sum = (l.map g).sum := by
  congr 1
  exact List.map_congr_left fun i hi => by rw [if_neg (by rintro rfl; exact h hi)]
/-- What one step answers and leaves. -/
structure DoFacts (S T : AD) (r : Int) (x : StepA) : Prop where
  room : T.room = S.room
  inj : T.Inj
  off10 : S.off = true → 1 ≤ x.kind → x.kind ≤ 10 → r = 50
  okStr : r = 0 → (1 ≤ x.kind ∧ x.kind ≤ 8) → T.strokes = S.strokes + 1
  okNo : r = 0 → ¬ (1 ≤ x.kind ∧ x.kind ≤ 8) → x.kind ≠ 12 → T.strokes = S.strokes
  okCrash : r = 0 → x.kind = 12 → T.strokes = 0 ∧ T.off = false
  okWr : r = 0 → (x.kind = 2 ∨ x.kind = 3) → (T.used : Int) ≤ S.room ∨ T.used ≤ S.used
  full : r = 55 ∨ r = 56 → T.strokes = S.strokes + 1
  part : r ≠ 0 → r ≠ 55 → r ≠ 56 → r ≠ 50 → T.strokes = S.strokes
  offOff : S.off = true → r = 50 → T.strokes = S.strokes
  offNow : S.off = false → r = 50 → T.strokes = S.strokes + 1 ∧ T.off = true ∧ T.safes = S.safes
  nought : r ≠ 0 → (r = 50 → S.off = true) → T.files = S.files ∧ T.safes = S.safes ∧ T.reads = S.reads ∧ T.off = S.off
theorem facts_same {S : AD} {r : Int} {x : StepA} (hi : S.Inj) (h0 : r ≠ 0) (h1 : r ≠ 55) (h2 : r ≠ 56) (h3 : r = 50 ↔ S.off = true) : DoFacts S S r x where
  room := rfl
  inj := hi
  off10 := fun h _ _ => h3.2 h
  okStr := fun h => absurd h h0
  okNo := fun h => absurd h h0
  okCrash := fun h => absurd h h0
  okWr := fun h => absurd h h0
  full := fun h => (h.elim h1 h2).elim
  part := fun _ _ _ _ => rfl
  offOff := fun _ _ => rfl
  offNow := fun h h' => by rw [h3.1 h'] at h; cases h
  nought := fun _ _ => ⟨rfl, rfl, rfl, rfl⟩
theorem look_off (S : AD) (n : ByteArray) : S.look n = 50 ↔ S.off = true := by
  unfold AD.look
  cases S.off with
  | true => simp
  | false =>
    simp only [Bool.false_eq_true, if_false, iff_false]
    cases isName n with
    | false => simp
    | true =>
      simp only [Bool.not_true, Bool.false_eq_true, if_false]
      cases alGet S.shown n <;> simp
theorem look_not (S : AD) (n : ByteArray) : S.look n ≠ 55 ∧ S.look n ≠ 56 := by
  rcases look_cases S n with h | h | h | h
  · rw [h]; exact ⟨by decide, by decide⟩
  · rw [h]; exact ⟨by decide, by decide⟩
  · rw [h.1]; exact ⟨by decide, by decide⟩
  · rw [h.1]; exact ⟨by decide, by decide⟩
theorem facts_stroke {S : AD} {kind ref : Int} {act : AD → AD} {x : StepA} (hoff : S.off = false) (hx : 1 ≤ x.kind ∧ x.kind ≤ 8) (href : ref = 0 ∨ ref = 55 ∨ ref = 56) (hi : S.Inj)
    (ha : ref = 0 → ∀ o, (act { S.ticked with off := o }).strokes = S.strokes + 1 ∧ (act { S.ticked with off := o }).off = o ∧ (act { S.ticked with off := o }).room = S.room ∧ (act { S.ticked with off := o }).Inj)
    (hs : ref = 0 → kind ≠ 2 → ∀ o, (act { S.ticked with off := o }).safes = S.safes)
    (hw : ref = 0 → (x.kind = 2 ∨ x.kind = 3) → ((act { S.ticked with off := false }).used : Int) ≤ S.room ∨ (act { S.ticked with off := false }).used ≤ S.used) : DoFacts S (S.stroke kind ref act).2 (S.stroke kind ref act).1 x := by
  unfold AD.stroke
  simp only
  have href' : ∀ q : Int, q = 55 → q ≠ 0 ∧ q ≠ 50 := by intro q h; subst h; exact ⟨by decide, by decide⟩
  generalize hr : (if ref = 0 ∧ kind = 1 ∧ S.ticked.since ≥ S.ticked.plan.from_ ∧ S.ticked.since ≤ S.ticked.plan.to_ then (55 : Int) else ref) = r
  have hr0 : r = 0 → ref = 0 := by
    intro h
    rw [← hr] at h
    split at h
    · cases h
    · exact h
  have hrc : r = 0 ∨ r = 55 ∨ r = 56 := by
    rw [← hr]
    split
    · exact .inr (.inl rfl)
    · exact href
  generalize decide (S.ticked.since = S.ticked.plan.off) = out
  cases out with
  | false =>
    simp only [Bool.false_eq_true, if_false, false_and, not_false_eq_true, and_true]
    by_cases h0 : r = 0
    · rw [if_pos h0]
      obtain ⟨a1, a2, a3, a4⟩ := ha (hr0 h0) false
      subst h0
      exact {
        room := a3, inj := a4
        off10 := fun h => by rw [hoff] at h; cases h
        okStr := fun _ _ => a1
        okNo := fun _ h => absurd hx h
        okCrash := fun _ h => by rw [h] at hx; omega
        okWr := fun _ h => hw (hr0 rfl) h
        full := fun h => by rcases h with h | h <;> cases h
        part := fun h => absurd rfl h
        offOff := fun h => by rw [hoff] at h; cases h
        offNow := fun _ h => by cases h
        nought := fun h => absurd rfl h }
    · rw [if_neg h0]
      have h5 : r ≠ 50 := by rcases hrc with h | h | h <;> omega
      exact {
        room := rfl, inj := hi
        off10 := fun h => by rw [hoff] at h; cases h
        okStr := fun h => absurd h h0
        okNo := fun h => absurd h h0
        okCrash := fun h => absurd h h0
        okWr := fun h => absurd h h0
        full := fun _ => rfl
        part := fun _ h1 h2 _ => by rcases hrc with h | h | h <;> contradiction
        offOff := fun h => by rw [hoff] at h; cases h
        offNow := fun _ h => absurd h h5
        nought := fun _ _ => ⟨rfl, rfl, rfl, hoff.symm⟩ }
  | true =>
    simp only [if_true, true_and]
    have key : ∀ T : AD, T.strokes = S.strokes + 1 → T.off = true → T.room = S.room → T.Inj → T.safes = S.safes → DoFacts S T 50 x := fun T a1 a2 a3 a4 a5 => {
      room := a3, inj := a4
      off10 := fun h => by rw [hoff] at h; cases h
      okStr := fun h => by cases h
      okNo := fun h => by cases h
      okCrash := fun h => by cases h
      okWr := fun h => by cases h
      full := fun h => by rcases h with h | h <;> cases h
      part := fun _ _ _ h => absurd rfl h
      offOff := fun h => by rw [hoff] at h; cases h
      offNow := fun _ _ => ⟨a1, a2, a5⟩
      nought := fun _ h => by rw [h rfl] at hoff; cases hoff }
    by_cases h0 : r = 0 ∧ ¬ kind = 2
    · rw [if_pos h0]
      obtain ⟨a1, a2, a3, a4⟩ := ha (hr0 h0.1) true
      exact key _ a1 a2 a3 a4 (hs (hr0 h0.1) h0.2 true)
    · rw [if_neg h0]
      exact key _ rfl rfl rfl hi rfl
theorem safes_of {S T : AD} (h1 : T.safe = S.safe) (h2 : ∀ p ∈ S.safe, (T.things p.2).safe = (S.things p.2).safe) : T.safes = S.safes := by
  unfold AD.safes
  rw [h1]
  exact List.map_congr_left fun p hp => by rw [h2 p hp]
theorem facts_create {S : AD} {c : Nat} (ok : S.Ok c) (hi : S.Inj) {x : StepA} (hx : 1 ≤ x.kind ∧ x.kind ≤ 8) (hx2 : x.kind ≠ 2 ∧ x.kind ≠ 3) (n : ByteArray) : DoFacts S (S.create n).2 (S.create n).1 x := by
  have hl := look_off S n
  have hl' := look_not S n
  unfold AD.create
  by_cases h0 : S.look n = 0
  · rw [if_pos h0]
    refine facts_same (r := 52) hi (by decide) (by decide) (by decide) ⟨(fun h => by cases h), fun h => ?_⟩
    rw [hl.2 h] at h0; cases h0
  · rw [if_neg h0]
    by_cases h1 : S.look n = 53
    · rw [if_pos h1]
      have hoff : S.off = false := by
        cases ho : S.off with
        | false => rfl
        | true => rw [hl.2 ho] at h1; cases h1
      have hfresh : ∀ p ∈ S.shown, p.2 ≠ S.next := fun p hp e => absurd (ok.next p.2 (.inl ⟨p.1, hp⟩)) (by omega)
      refine facts_stroke hoff hx (by split; exact .inr (.inr rfl); exact .inl rfl) hi (fun _ o => ⟨rfl, rfl, rfl, ?_⟩) (fun _ _ o => ?_) fun _ h => absurd h (by rintro (h | h); exact hx2.1 h; exact hx2.2 h)
      · exact Inj.turned (S := { ({ S.ticked with off := o } : AD).setThing S.next Thg.empty with next := S.next + 1 }) hi ok.shown.nodup (fun n' i e p hp => by injection e with e1 e2; subst e2; exact hfresh p hp) (fun a b e => by cases e)
      · refine safes_of rfl fun p hp => ?_
        show (if p.2 = S.next then Thg.empty else S.things p.2).safe = _
        rw [if_neg]
        intro e
        exact absurd (ok.next p.2 (.inr (.inl ⟨p.1, hp⟩))) (by omega)
    · rw [if_neg h1]
      exact facts_same hi h0 hl'.1 hl'.2 hl
theorem setThing_inj {S : AD} {t : Nat} {y : Thg} (h : S.Inj) : (S.setThing t y).Inj := h
theorem add_safes {S : AD} {t : Nat} {ch : Chg} : (S.setThing t ((S.things t).add ch)).safes = S.safes := by
  refine safes_of rfl fun p hp => ?_
  show (if p.2 = t then (S.things t).add ch else S.things p.2).safe = _
  by_cases e : p.2 = t
  · rw [if_pos e, e]; rfl
  · rw [if_neg e]
theorem used_setThing {S : AD} {t : Nat} {y : Thg} (hi : S.Inj) {n : ByteArray} (h : alGet S.shown n = some t) : (S.setThing t y).used + (S.things t).shown.length = S.used + y.shown.length := by
  have h1 := sum_upd (g := fun i => (S.things i).shown.length) (t := t) (v := y.shown.length) hi (List.mem_map_of_mem (f := (·.2)) (mem_of_alGet h))
  rw [List.map_map, List.map_map] at h1
  have e1 : (S.setThing t y).used = (S.shown.map ((fun i => if i = t then y.shown.length else (S.things i).shown.length) ∘ fun p => p.2)).sum := by
    unfold AD.used
    congr 1
    refine List.map_congr_left fun p _ => ?_
    show (if p.2 = t then y else S.things p.2).shown.length = if p.2 = t then y.shown.length else (S.things p.2).shown.length
    by_cases e : p.2 = t
    · rw [if_pos e, if_pos e]
    · rw [if_neg e, if_neg e]
  rw [e1]
  exact h1
theorem facts_writeAt {S : AD} {c : Nat} (ok : S.Ok c) (hi : S.Inj) {x : StepA} (hx : 1 ≤ x.kind ∧ x.kind ≤ 8) (n : ByteArray) (a : Int) (d : Bytes) : DoFacts S (S.writeAt n a d).2 (S.writeAt n a d).1 x := by
  have hl := look_off S n
  have hl' := look_not S n
  unfold AD.writeAt
  by_cases h0 : S.look n = 0
  · rw [if_neg (by simpa using h0)]
    have hoff : S.off = false := by
      cases ho : S.off with
      | false => rfl
      | true => rw [hl.2 ho] at h0; cases h0
    have hg := (look0 h0).2
    by_cases h1 : a < 0 ∨ a > (S.bytes n).length
    · rw [if_pos h1]
      refine facts_same (r := 54) hi (by decide) (by decide) (by decide) ⟨(fun h => by cases h), fun h => ?_⟩
      rw [hoff] at h; cases h
    · rw [if_neg h1]
      refine facts_stroke hoff hx (by split; exact .inr (.inl rfl); exact .inl rfl) hi (fun _ o => ⟨rfl, rfl, rfl, hi⟩) (fun _ _ o => add_safes (S := { S.ticked with off := o })) fun href _ => ?_
      have hu := used_setThing (S := { S.ticked with off := false }) (t := S.of n) (y := ((S.things (S.of n)).add (.wr a.toNat d))) hi hg
      have hfit : ¬ (a + d.length - (S.bytes n).length > 0 ∧ S.used + (a + d.length - (S.bytes n).length) > S.room) := by
        intro hc; rw [if_pos hc] at href; cases href
      have eb : S.bytes n = (S.things (S.of n)).shown := rfl
      rw [eb] at hfit h1
      have e0 : ({ S.ticked with off := false } : AD).used = S.used := rfl
      have e1 : ({ S.ticked with off := false } : AD).things = S.things := rfl
      rw [e0, e1] at hu
      have hlen : ((S.things (S.of n)).add (.wr a.toNat d)).shown.length = max (S.things (S.of n)).shown.length (a.toNat + d.length) ∨ d.length = 0 ∧ ((S.things (S.of n)).add (.wr a.toNat d)).shown.length = (S.things (S.of n)).shown.length := by
        show (if d.length = 0 then (S.things (S.of n)).shown else _).length = _ ∨ _ ∧ (if d.length = 0 then (S.things (S.of n)).shown else _).length = _
        by_cases hd : d.length = 0
        · rw [if_pos hd]; exact .inr ⟨hd, rfl⟩
        · rw [if_neg hd, show (Chg.wr a.toNat d).units = d.length from rfl]
          left
          rw [made_len]; omega
      show ((({ S.ticked with off := false } : AD).setThing (S.of n) ((S.things (S.of n)).add (.wr a.toNat d))).used : Int) ≤ _ ∨ (({ S.ticked with off := false } : AD).setThing (S.of n) ((S.things (S.of n)).add (.wr a.toNat d))).used ≤ _
      rcases hlen with hlen | ⟨_, hlen⟩ <;> omega
  · rw [if_pos (by simpa using h0)]
    exact facts_same hi h0 hl'.1 hl'.2 hl
theorem facts_append {S : AD} {c : Nat} (ok : S.Ok c) (hi : S.Inj) {x : StepA} (hx : 1 ≤ x.kind ∧ x.kind ≤ 8) (n : ByteArray) (d : Bytes) : DoFacts S (S.append n d).2 (S.append n d).1 x := by
  unfold AD.append
  by_cases h0 : S.look n = 0
  · rw [if_neg (by simpa using h0)]
    exact facts_writeAt ok hi hx _ _ _
  · rw [if_pos (by simpa using h0)]
    exact facts_same hi h0 (look_not S n).1 (look_not S n).2 (look_off S n)
theorem off_of_look {S : AD} {n : ByteArray} (h0 : S.look n = 0) : S.off = false := by
  cases ho : S.off with
  | false => rfl
  | true => rw [(look_off S n).2 ho] at h0; cases h0
theorem facts_truncate {S : AD} {c : Nat} (ok : S.Ok c) (hi : S.Inj) {x : StepA} (hx : 1 ≤ x.kind ∧ x.kind ≤ 8) (hx2 : x.kind ≠ 2 ∧ x.kind ≠ 3) (n : ByteArray) (m : Int) : DoFacts S (S.truncate n m).2 (S.truncate n m).1 x := by
  unfold AD.truncate
  by_cases h0 : S.look n = 0
  · rw [if_neg (by simpa using h0)]
    have hoff := off_of_look h0
    by_cases h1 : m < 0 ∨ m > (S.bytes n).length
    · rw [if_pos h1]
      refine facts_same (r := 54) hi (by decide) (by decide) (by decide) ⟨(fun h => by cases h), fun h => ?_⟩
      rw [hoff] at h; cases h
    · rw [if_neg h1]
      exact facts_stroke hoff hx (.inl rfl) hi (fun _ o => ⟨rfl, rfl, rfl, hi⟩) (fun _ _ o => add_safes (S := { S.ticked with off := o })) fun _ h => absurd h (by rintro (h | h); exact hx2.1 h; exact hx2.2 h)
  · rw [if_pos (by simpa using h0)]
    exact facts_same hi h0 (look_not S n).1 (look_not S n).2 (look_off S n)
theorem facts_rename {S : AD} {c : Nat} (ok : S.Ok c) (hi : S.Inj) {x : StepA} (hx : 1 ≤ x.kind ∧ x.kind ≤ 8) (hx2 : x.kind ≠ 2 ∧ x.kind ≠ 3) (a b : ByteArray) : DoFacts S (S.rename a b).2 (S.rename a b).1 x := by
  unfold AD.rename
  cases ho : S.off with
  | true => exact facts_same (r := 50) hi (by decide) (by decide) (by decide) ⟨fun _ => ho, fun _ => rfl⟩
  | false =>
    simp only [Bool.false_eq_true, if_false]
    have no : ∀ r : Int, r ≠ 50 → (r = 50 ↔ S.off = true) := fun r h => ⟨fun h' => absurd h' h, fun h' => by rw [ho] at h'; cases h'⟩
    cases hn : (!isName a || !isName b) with
    | true => exact facts_same (r := 51) hi (by decide) (by decide) (by decide) (no _ (by decide))
    | false =>
      simp only [Bool.false_eq_true, if_false]
      cases hg : alGet S.shown a with
      | none => exact facts_same (r := 53) hi (by decide) (by decide) (by decide) (no _ (by decide))
      | some t =>
        have hact : ∀ o, (if a = b then ({ S.ticked with off := o } : AD) else ({ S.ticked with off := o } : AD).turned (.give a b)).strokes = S.strokes + 1 ∧ (if a = b then ({ S.ticked with off := o } : AD) else ({ S.ticked with off := o } : AD).turned (.give a b)).off = o ∧
            (if a = b then ({ S.ticked with off := o } : AD) else ({ S.ticked with off := o } : AD).turned (.give a b)).room = S.room ∧ (if a = b then ({ S.ticked with off := o } : AD) else ({ S.ticked with off := o } : AD).turned (.give a b)).Inj ∧ (if a = b then ({ S.ticked with off := o } : AD) else ({ S.ticked with off := o } : AD).turned (.give a b)).safes = S.safes := by
          intro o
          by_cases e : a = b
          · rw [if_pos e]; exact ⟨rfl, rfl, rfl, hi, rfl⟩
          · rw [if_neg e]
            exact ⟨rfl, rfl, rfl, Inj.turned (S := { S.ticked with off := o }) hi ok.shown.nodup (fun n i e => by cases e) (fun a' b' e' => by injection e' with e1 e2; subst e1; show alGet S.shown a ≠ none; rw [hg]; simp), rfl⟩
        exact facts_stroke ho hx (.inl rfl) hi (fun _ o => ⟨(hact o).1, (hact o).2.1, (hact o).2.2.1, (hact o).2.2.2.1⟩) (fun _ _ o => (hact o).2.2.2.2) fun _ h => absurd h (by rintro (h | h); exact hx2.1 h; exact hx2.2 h)
theorem facts_remove {S : AD} {c : Nat} (ok : S.Ok c) (hi : S.Inj) {x : StepA} (hx : 1 ≤ x.kind ∧ x.kind ≤ 8) (hx2 : x.kind ≠ 2 ∧ x.kind ≠ 3) (n : ByteArray) : DoFacts S (S.remove n).2 (S.remove n).1 x := by
  unfold AD.remove
  by_cases h0 : S.look n = 0
  · rw [if_neg (by simpa using h0)]
    exact facts_stroke (off_of_look h0) hx (.inl rfl) hi (fun _ o => ⟨rfl, rfl, rfl, Inj.turned (S := { S.ticked with off := o }) hi ok.shown.nodup (fun n i e => by cases e) (fun a b e => by cases e)⟩) (fun _ _ o => rfl) fun _ h => absurd h (by rintro (h | h); exact hx2.1 h; exact hx2.2 h)
  · rw [if_pos (by simpa using h0)]
    exact facts_same hi h0 (look_not S n).1 (look_not S n).2 (look_off S n)
theorem facts_sync {S : AD} {c : Nat} (ok : S.Ok c) (hi : S.Inj) {x : StepA} (hx : 1 ≤ x.kind ∧ x.kind ≤ 8) (hx2 : x.kind ≠ 2 ∧ x.kind ≠ 3) (n : ByteArray) : DoFacts S (S.sync n).2 (S.sync n).1 x := by
  unfold AD.sync
  by_cases h0 : S.look n = 0
  · rw [if_neg (by simpa using h0)]
    exact facts_stroke (off_of_look h0) hx (.inl rfl) hi (fun _ o => ⟨rfl, rfl, rfl, hi⟩) (fun _ h o => absurd rfl h) fun _ h => absurd h (by rintro (h | h); exact hx2.1 h; exact hx2.2 h)
  · rw [if_pos (by simpa using h0)]
    exact facts_same hi h0 (look_not S n).1 (look_not S n).2 (look_off S n)
theorem facts_syncNames {S : AD} {c : Nat} (ok : S.Ok c) (hi : S.Inj) {x : StepA} (hx : 1 ≤ x.kind ∧ x.kind ≤ 8) (hx2 : x.kind ≠ 2 ∧ x.kind ≠ 3) : DoFacts S S.syncNames.2 S.syncNames.1 x := by
  unfold AD.syncNames
  cases ho : S.off with
  | true => exact facts_same (r := 50) hi (by decide) (by decide) (by decide) ⟨fun _ => ho, fun _ => rfl⟩
  | false =>
    simp only [Bool.false_eq_true, if_false]
    exact facts_stroke ho hx (.inl rfl) hi (fun _ o => ⟨rfl, rfl, rfl, hi⟩) (fun _ h o => absurd rfl h) fun _ h => absurd h (by rintro (h | h); exact hx2.1 h; exact hx2.2 h)
/-- A call that is no stroke, answered 0. -/
theorem facts_quiet {S T : AD} {x : StepA} (hx : ¬ (1 ≤ x.kind ∧ x.kind ≤ 8)) (h1 : T.room = S.room) (h2 : T.Inj) (h3 : x.kind ≠ 12 → T.strokes = S.strokes) (h4 : x.kind = 12 → T.strokes = 0 ∧ T.off = false) (h5 : S.off = true → ¬ (1 ≤ x.kind ∧ x.kind ≤ 10)) : DoFacts S T 0 x where
  room := h1
  inj := h2
  off10 := fun h a b => absurd ⟨a, b⟩ (h5 h)
  okStr := fun _ h => absurd h hx
  okNo := fun _ _ h => h3 h
  okCrash := fun _ h => h4 h
  okWr := fun _ h => absurd (by rcases h with h | h <;> omega) hx
  full := fun h => by rcases h with h | h <;> cases h
  part := fun h => absurd rfl h
  offOff := fun _ h => by cases h
  offNow := fun _ h => by cases h
  nought := fun h => absurd rfl h
theorem crash_inj {S : AD} (picks : List Int) : (S.crash picks).Inj := by
  unfold AD.Inj
  show (((S.crashNames picks).zipIdx.map fun (p, i) => (p.1, S.next + i)).map (·.2)).Nodup
  rw [List.map_map]
  have : ((fun p : ByteArray × Nat => p.2) ∘ fun (q : (ByteArray × Nat) × Nat) => (q.1.1, S.next + q.2)) = (fun i => S.next + i) ∘ Prod.snd := rfl
  show ((S.crashNames picks).zipIdx.map ((fun p : ByteArray × Nat => p.2) ∘ fun (q : (ByteArray × Nat) × Nat) => (q.1.1, S.next + q.2))).Nodup
  rw [this, ← List.map_map, List.zipIdx_map_snd]
  rw [List.Nodup, List.pairwise_map]
  refine (List.nodup_range' (s := 0) (n := (S.crashNames picks).length)).imp fun {a b} h h' => h ?_
  have h'' : S.next + a = S.next + b := h'
  omega
theorem facts_do {S : AD} {c : Nat} (ok : S.Ok c) (hi : S.Inj) (x : StepA) : DoFacts S (S.doStep x).2 (S.doStep x).1 x := by
  unfold AD.doStep
  by_cases k1 : x.kind = 1
  · rw [if_pos k1]; exact facts_create ok hi (by omega) (by omega) _
  rw [if_neg k1]
  by_cases k2 : x.kind = 2
  · rw [if_pos k2]; exact facts_writeAt ok hi (by omega) _ _ _
  rw [if_neg k2]
  by_cases k3 : x.kind = 3
  · rw [if_pos k3]; exact facts_append ok hi (by omega) _ _
  rw [if_neg k3]
  by_cases k4 : x.kind = 4
  · rw [if_pos k4]; exact facts_truncate ok hi (by omega) (by omega) _ _
  rw [if_neg k4]
  by_cases k5 : x.kind = 5
  · rw [if_pos k5]; exact facts_rename ok hi (by omega) (by omega) _ _
  rw [if_neg k5]
  by_cases k6 : x.kind = 6
  · rw [if_pos k6]; exact facts_remove ok hi (by omega) (by omega) _
  rw [if_neg k6]
  by_cases k7 : x.kind = 7
  · rw [if_pos k7]; exact facts_sync ok hi (by omega) (by omega) _
  rw [if_neg k7]
  by_cases k8 : x.kind = 8
  · rw [if_pos k8]; exact facts_syncNames ok hi (by omega) (by omega)
  rw [if_neg k8]
  by_cases k9 : x.kind = 9
  · rw [if_pos k9]
    unfold AD.read
    by_cases h0 : S.look x.name = 0
    · rw [if_neg (by simpa using h0)]
      have hoff := off_of_look h0
      split
      · refine facts_same (r := 54) hi (by decide) (by decide) (by decide) ⟨(fun h => by cases h), fun h => ?_⟩
        rw [hoff] at h; cases h
      · exact facts_quiet (by omega) rfl hi (fun _ => rfl) (fun h => by omega) (fun h => by rw [hoff] at h; cases h)
    · rw [if_pos (by simpa using h0)]
      exact facts_same hi h0 (look_not S _).1 (look_not S _).2 (look_off S _)
  rw [if_neg k9]
  by_cases k10 : x.kind = 10
  · rw [if_pos k10]
    by_cases h0 : S.look x.name = 0
    · have hoff := off_of_look h0
      simp only [h0]
      exact facts_quiet (by omega) rfl hi (fun _ => rfl) (fun h => by omega) (fun h => by rw [hoff] at h; cases h)
    · exact facts_same hi h0 (look_not S _).1 (look_not S _).2 (look_off S _)
  rw [if_neg k10]
  have k110 : ¬ (1 ≤ x.kind ∧ x.kind ≤ 10) := by omega
  by_cases k11 : x.kind = 11
  · rw [if_pos k11]
    unfold AD.plans
    split
    · exact facts_quiet (by omega) rfl hi (fun _ => rfl) (fun h => by omega) (fun _ => k110)
    · exact facts_quiet (by omega) rfl hi (fun _ => rfl) (fun h => by omega) (fun _ => k110)
  rw [if_neg k11]
  by_cases k12 : x.kind = 12
  · rw [if_pos k12]
    exact facts_quiet (by omega) rfl (crash_inj _) (fun h => absurd k12 h) (fun _ => ⟨rfl, rfl⟩) (fun _ => k110)
  rw [if_neg k12]
  by_cases k13 : x.kind = 13
  · rw [if_pos k13]
    exact facts_quiet (by omega) rfl hi (fun _ => rfl) (fun h => absurd h k12) (fun _ => k110)
  rw [if_neg k13]
  exact facts_quiet (by omega) rfl hi (fun _ => rfl) (fun h => absurd h k12) (fun _ => k110)
theorem new_inj (room : Int) : (AD.new room).Inj := List.nodup_nil
end Go.Proofs.XDisk
