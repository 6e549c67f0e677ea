/- The plain law of DiskFront. -/
import Derived.Test.YtcdcojpfealppaaXOk
set_option linter.unusedVariables false
set_option linter.unusedSimpArgs false
namespace Go.Proofs.XDisk
open Go.Proofs.XMaps
def AD.move (S : AD) (a b : ByteArray) : Int × AD := if b = ByteArray.mk #[] then S.remove a else S.rename a b
theorem AD.Ok.move {S : AD} {c : Nat} (h : S.Ok c) (hs : c < 1099511627776) (a b : ByteArray) : (S.move a b).2.Ok (c + 1) := by
  unfold AD.move
  split
  · exact h.remove hs a
  · exact h.rename hs a b
/-- No plan, the power on. -/
structure Calm (S : AD) : Prop where
  plan : S.plan = .zero
  off : S.off = false
  since : 0 ≤ S.since
theorem Calm.ticked {S : AD} (h : Calm S) : Calm S.ticked := ⟨h.plan, h.off, by have := h.since; show 0 ≤ S.since + 1; omega⟩
theorem Calm.stroke {S : AD} (h : Calm S) (kind r : Int) (act : AD → AD) : S.stroke kind r act = (r, if r = 0 then act S.ticked else S.ticked) := by
  have h1 := h.since
  have e2 : S.ticked.since = S.since + 1 := rfl
  have e4 : S.ticked.plan.to_ = 0 := by show S.plan.to_ = 0; rw [h.plan]; rfl
  have e5 : S.ticked.plan.off = 0 := by show S.plan.off = 0; rw [h.plan]; rfl
  have c1 : ¬ (r = 0 ∧ kind = 1 ∧ S.ticked.since ≥ S.ticked.plan.from_ ∧ S.ticked.since ≤ S.ticked.plan.to_) := by
    rintro ⟨_, _, _, h4⟩
    omega
  have c2 : decide (S.ticked.since = S.ticked.plan.off) = false := decide_eq_false (by omega)
  unfold AD.stroke
  simp only
  rw [if_neg c1, c2]
  simp only [Bool.false_eq_true, if_false, false_and, not_false_eq_true, and_true]
  congr 1
  have e3 : (⟨S.ticked.room, S.ticked.things, S.ticked.next, S.ticked.shown, S.ticked.safe, S.ticked.row, S.ticked.strokes, S.ticked.plan, S.ticked.since, false, S.ticked.reads⟩ : AD) = S.ticked := by
    have : S.ticked.off = false := h.off
    rw [← this]
  rw [e3]
theorem Calm.look {S : AD} (h : Calm S) (n : ByteArray) : S.look n = if isName n then (match alGet S.shown n with | none => 53 | some _ => 0) else 51 := by
  unfold AD.look
  rw [h.off]
  simp only [Bool.false_eq_true, if_false]
  cases isName n
  · rfl
  · simp only [Bool.not_true, Bool.false_eq_true, if_false, if_true]
    cases alGet S.shown n <;> rfl
theorem calm_new (room : Int) : Calm (AD.new room) := ⟨rfl, rfl, Int.le_refl _⟩
/-- Two disks that show the same; the first one's bytes are safe. -/
structure Pair (A B : AD) : Prop where
  ca : Calm A
  cb : Calm B
  shown : A.shown = B.shown
  next : A.next = B.next
  room : A.room = B.room
  bytes : ∀ t, t < A.next → (A.things t).shown = (B.things t).shown
  safe : ∀ t, t < A.next → (A.things t).safe = (A.things t).shown ∧ (A.things t).row = []
  names : ∀ p ∈ A.shown, p.2 < A.next
theorem Pair.new (room : Int) : Pair (AD.new room) (AD.new room) := ⟨calm_new _, calm_new _, rfl, rfl, rfl, fun _ _ => rfl, fun _ _ => ⟨rfl, rfl⟩, fun p hp => by cases hp⟩
theorem Pair.used {A B : AD} (hs : A.shown = B.shown) (hb : ∀ t, t < A.next → (A.things t).shown = (B.things t).shown) (hn : ∀ p ∈ A.shown, p.2 < A.next) : A.used = B.used := by
  unfold AD.used
  rw [← hs]
  congr 1
  exact List.map_congr_left fun p hp => by rw [hb p.2 (hn p hp)]
/-- One name of the first loop. -/
def front1 (A B : AD) (n : ByteArray) (x : UInt8) : AD × AD :=
  if (A.create n).1 = 0 then ((((A.create n).2.append n [x]).2.sync n).2, ((B.create n).2.append n [x]).2) else ((A.create n).2, B)
theorem Pair.tick {A B : AD} (h : Pair A B) : Pair A.ticked B := ⟨h.ca.ticked, h.cb, h.shown, h.next, h.room, h.bytes, h.safe, h.names⟩
theorem alGet_insN {n : ByteArray} {t : Nat} : ∀ {l : Names}, (∀ p ∈ l, p.1 ≠ n) → alGet (insN l n t) n = some t
  | [], _ => by simp [insN, alGet]
  | p :: r, hl => by
    unfold insN
    split
    · simp [alGet]
    · unfold alGet at *
      rw [List.find?_cons_of_neg (by simp [hl p List.mem_cons_self])]
      exact alGet_insN fun q hq => hl q (List.mem_cons_of_mem _ hq)
theorem alGet_setN (l : Names) (n : ByteArray) (t : Nat) : alGet (setN l n t) n = some t := alGet_insN fun p hp => (mem_alDel.1 hp).2
/-- A disk just behind Create, Append of one byte. -/
theorem append_new {A : AD} {n : ByteArray} {x : UInt8} (hc : Calm A) (hn : isName n = true) :
    Calm ((A.ticked.made n).append n [x]).2 ∧ ((A.ticked.made n).append n [x]).2.shown = (A.ticked.made n).shown ∧ ((A.ticked.made n).append n [x]).2.next = A.next + 1 ∧ ((A.ticked.made n).append n [x]).2.room = A.room ∧
    (∀ t, t ≠ A.next → ((A.ticked.made n).append n [x]).2.things t = A.things t) ∧ (((A.ticked.made n).append n [x]).2.things A.next).shown = if ((A.ticked.made n).used : Int) + 1 > A.room then [] else [x] := by
  have hg : alGet (A.ticked.made n).shown n = some A.next := alGet_setN _ _ _
  have hcm : Calm (A.ticked.made n) := ⟨hc.plan, hc.off, hc.ticked.since⟩
  have hl : (A.ticked.made n).look n = 0 := by rw [hcm.look, hn, hg]; rfl
  have ho : (A.ticked.made n).of n = A.next := by unfold AD.of; rw [hg]; rfl
  have ht : (A.ticked.made n).things A.next = Thg.empty := by
    show (if A.next = A.next then Thg.empty else A.things A.next) = _
    rw [if_pos rfl]
  have hb : (A.ticked.made n).bytes n = [] := by unfold AD.bytes; rw [ho, ht]; rfl
  have e1 : ((([] : Bytes).length : Nat) : Int) = 0 := rfl
  have e2 : ((([x] : Bytes).length : Nat) : Int) = 1 := rfl
  have e3 : (A.ticked.made n).room = A.room := rfl
  have e4 : (A.ticked.made n).ticked.things A.next = Thg.empty := ht
  have hother : ∀ t, t ≠ A.next → (A.ticked.made n).things t = A.things t := by
    intro t h
    show (if t = A.next then Thg.empty else A.things t) = _
    rw [if_neg h]
  have key : ((A.ticked.made n).append n [x]).2 = if ((A.ticked.made n).used : Int) + 1 > A.room then (A.ticked.made n).ticked else (A.ticked.made n).ticked.setThing A.next ((Thg.empty).add (.wr 0 [x])) := by
    unfold AD.append
    rw [hl, if_neg (by simp)]
    unfold AD.writeAt
    rw [hl, if_neg (by simp), hb, hcm.stroke, ho, e1, e2, if_neg (by simp), e3, e4]
    by_cases h : ((A.ticked.made n).used : Int) + 1 > A.room
    · rw [if_pos h, if_pos ⟨by decide, by omega⟩]; rfl
    · rw [if_neg h, if_neg (fun h' => h (by have := h'.2; omega))]; rfl
  rw [key]
  by_cases h : ((A.ticked.made n).used : Int) + 1 > A.room
  · rw [if_pos h, if_pos h]
    exact ⟨hcm.ticked, rfl, rfl, rfl, hother, by rw [e4]; rfl⟩
  · rw [if_neg h, if_neg h]
    refine ⟨⟨hc.plan, hc.off, hcm.ticked.since⟩, rfl, rfl, rfl, fun t ht' => ?_, ?_⟩
    · show (if t = A.next then _ else (A.ticked.made n).things t) = _
      rw [if_neg ht']; exact hother t ht'
    · show (if A.next = A.next then (Thg.empty).add (.wr 0 [x]) else _).shown = _
      rw [if_pos rfl]; rfl
theorem sync_calm {A : AD} {n : ByteArray} (hc : Calm A) (hl : A.look n = 0) : (A.sync n).2 = A.ticked.setThing (A.of n) (A.things (A.of n)).settle := by
  unfold AD.sync
  rw [hl, if_neg (by simp), hc.stroke]; rfl
theorem Pair.step {A B : AD} (h : Pair A B) (n : ByteArray) (x : UInt8) : Pair (front1 A B n x).1 (front1 A B n x).2 := by
  unfold front1
  have hlk : B.look n = A.look n := by rw [h.ca.look, h.cb.look, h.shown]
  have hca := h.ca; have hcb := h.cb
  by_cases hc : (A.create n).1 = 0
  · rw [if_pos hc]
    have hl : A.look n = 53 := by
      rcases look_cases A n with h' | h' | h' | h'
      · unfold AD.create at hc; rw [h'] at hc; cases hc
      · unfold AD.create at hc; rw [h'] at hc; cases hc
      · exact h'.1
      · unfold AD.create at hc; rw [h'.1] at hc; cases hc
    have hn : isName n = true := by
      rcases look_cases A n with h' | h' | h' | h'
      · rw [hl] at h'; cases h'
      · rw [hl] at h'; cases h'
      · exact h'.2.1
      · rw [hl] at h'; cases h'.1
    have ea : A.create n = (if A.shown.length ≥ 256 then 56 else 0, if (if A.shown.length ≥ 256 then (56 : Int) else 0) = 0 then A.ticked.made n else A.ticked) := by
      unfold AD.create; rw [hl, if_neg (by decide), if_pos rfl, hca.stroke]
    have hlen : ¬ A.shown.length ≥ 256 := by
      intro h'; rw [ea, if_pos h'] at hc; cases hc
    rw [if_neg hlen] at ea
    have eb : B.create n = (0, B.ticked.made n) := by
      unfold AD.create; rw [hlk, hl, if_neg (by decide), if_pos rfl, hcb.stroke, ← h.shown, if_neg hlen]; rfl
    have ea' : A.create n = (0, A.ticked.made n) := ea
    rw [ea', eb]
    simp only
    have hnames : ∀ p ∈ (A.ticked.made n).shown, p.2 < A.next + 1 := by
      intro p hp
      rcases mem_setN.1 hp with rfl | h'
      · exact Nat.lt_succ_self _
      · exact Nat.lt_succ_of_lt (h.names p h'.1)
    have hbyt : ∀ t, t < A.next + 1 → ((A.ticked.made n).things t).shown = ((B.ticked.made n).things t).shown := by
      intro t ht
      show (if t = A.next then Thg.empty else A.things t).shown = (if t = B.next then Thg.empty else B.things t).shown
      rw [← h.next]
      by_cases e : t = A.next
      · rw [if_pos e, if_pos e]
      · rw [if_neg e, if_neg e]; exact h.bytes t (by omega)
    have hsh : (A.ticked.made n).shown = (B.ticked.made n).shown := by
      show setN A.shown n A.next = setN B.shown n B.next
      rw [h.shown, h.next]
    have hu : (A.ticked.made n).used = (B.ticked.made n).used := Pair.used hsh hbyt hnames
    obtain ⟨a1, a2, a3, a4, a5, a6⟩ := append_new (x := x) hca hn
    obtain ⟨b1, b2, b3, b4, b5, b6⟩ := append_new (x := x) hcb hn
    have hgA : alGet ((A.ticked.made n).append n [x]).2.shown n = some A.next := by rw [a2]; exact alGet_setN _ _ _
    have hlA : ((A.ticked.made n).append n [x]).2.look n = 0 := by rw [a1.look, hn, hgA]; rfl
    have hoA : ((A.ticked.made n).append n [x]).2.of n = A.next := by unfold AD.of; rw [hgA]; rfl
    rw [sync_calm a1 hlA, hoA]
    generalize ((A.ticked.made n).append n [x]).2 = A2 at *
    generalize ((B.ticked.made n).append n [x]).2 = B2 at *
    have ht : ∀ t, (A2.ticked.setThing A.next (A2.things A.next).settle).things t = if t = A.next then (A2.things A.next).settle else A2.things t := fun t => rfl
    refine ⟨⟨a1.plan, a1.off, a1.ticked.since⟩, b1, ?_, ?_, ?_, ?_, ?_, ?_⟩
    · show A2.shown = _; rw [a2, b2, hsh]
    · show A2.next = _; rw [a3, b3, h.next]
    · show A2.room = _; rw [a4, b4, h.room]
    · intro t hlt
      have hlt' : t < A.next + 1 := by rw [← a3]; exact hlt
      rw [ht]
      by_cases e : t = A.next
      · rw [if_pos e, e]
        show (A2.things A.next).shown = (B2.things A.next).shown
        rw [a6, h.next, b6, ← hu, h.room]
      · rw [if_neg e, a5 t e, b5 t (by rw [← h.next]; exact e)]
        exact h.bytes t (by omega)
    · intro t hlt
      have hlt' : t < A.next + 1 := by rw [← a3]; exact hlt
      rw [ht]
      by_cases e : t = A.next
      · rw [if_pos e]; exact ⟨rfl, rfl⟩
      · rw [if_neg e, a5 t e]; exact h.safe t (by omega)
    · intro p hp
      show p.2 < A2.next
      rw [a3]
      exact hnames p (by rw [← a2]; exact hp)
  · rw [if_neg hc]
    have hA : (A.create n).2 = A ∨ (A.create n).2 = A.ticked := by
      unfold AD.create
      split
      · exact .inl rfl
      · split
        · rw [hca.stroke]
          rename_i h1 h2
          right
          unfold AD.create at hc
          rw [if_neg h1, if_pos h2, hca.stroke] at hc
          simp only at hc ⊢
          rw [if_neg hc]
        · exact .inl rfl
    rcases hA with e | e
    · rw [e]; exact h
    · rw [e]; exact h.tick
/-- The first loop. -/
def frontL : List ByteArray → Nat → AD × AD → AD × AD
  | [], _, p => p
  | n :: r, i, p => frontL r (i + 1) (front1 p.1 p.2 n (UInt8.ofNat i))
theorem Pair.loop : ∀ (l : List ByteArray) (i : Nat) (p : AD × AD), Pair p.1 p.2 → Pair (frontL l i p).1 (frontL l i p).2
  | [], _, _, h => h
  | n :: r, i, p, h => Pair.loop r (i + 1) _ (h.step n _)
theorem syncNames_calm {A : AD} (h : Calm A) : A.syncNames = (0, { A.ticked with safe := A.shown, row := [] }) := by
  unfold AD.syncNames
  rw [h.off, h.stroke]; rfl
/-! Moves -/
def turnOf (m : ByteArray × ByteArray) : Turn := if m.2 = ByteArray.mk #[] then .take m.1 else .give m.1 m.2
/-- May it be done on these names? -/
def canMove (l : Names) (m : ByteArray × ByteArray) : Prop := isName m.1 = true ∧ alGet l m.1 ≠ none ∧ m.1 ≠ m.2 ∧ (m.2 = ByteArray.mk #[] ∨ isName m.2 = true)
theorem not_name_empty : isName (ByteArray.mk #[]) = false := by decide
/-- A move of a calm disk. -/
theorem move_calm {S : AD} (h : Calm S) (m : ByteArray × ByteArray) : Calm (S.move m.1 m.2).2 ∧ ((S.move m.1 m.2).1 = 0 ∧ m.1 ≠ m.2 ↔ canMove S.shown m) ∧
    (S.move m.1 m.2).2.things = S.things ∧ (S.move m.1 m.2).2.next = S.next ∧ (S.move m.1 m.2).2.safe = S.safe ∧
    (S.move m.1 m.2).2.row = (if (S.move m.1 m.2).1 = 0 ∧ m.1 ≠ m.2 then S.row ++ [turnOf m] else S.row) ∧ (S.move m.1 m.2).2.shown = (if (S.move m.1 m.2).1 = 0 ∧ m.1 ≠ m.2 then (turnOf m).on S.shown else S.shown) := by
  obtain ⟨a, b⟩ := m
  simp only
  unfold AD.move turnOf canMove
  simp only
  by_cases e : b = ByteArray.mk #[]
  · rw [if_pos e, if_pos e]
    unfold AD.remove
    have hl := h.look a
    rw [h.stroke]
    by_cases h0 : S.look a = 0
    · have h1 := look0 h0
      have hab : a ≠ b := by rintro rfl; rw [e, not_name_empty] at h1; cases h1.1
      rw [if_neg (by simpa using h0), if_pos rfl]
      refine ⟨⟨h.plan, h.off, h.ticked.since⟩, ⟨fun _ => ⟨h1.1, by rw [h1.2]; simp, hab, .inl e⟩, fun _ => ⟨rfl, hab⟩⟩, rfl, rfl, rfl, ?_, ?_⟩
      · rw [if_pos ⟨rfl, hab⟩]; rfl
      · rw [if_pos ⟨rfl, hab⟩]; rfl
    · rw [if_pos (by simpa using h0)]
      simp only [h0, false_and, if_false]
      refine ⟨h, ⟨fun h' => h'.elim, ?_⟩, trivial, trivial, trivial, trivial, trivial⟩
      rintro ⟨h1, h2, _⟩
      refine h0 ?_
      rw [hl, h1]
      cases hg : alGet S.shown a with
      | none => exact absurd hg h2
      | some t => rfl
  · rw [if_neg e, if_neg e]
    unfold AD.rename
    rw [h.off]
    simp only [Bool.false_eq_true, if_false]
    cases hn : (!isName a || !isName b) with
    | true =>
      simp only [if_true]
      have hx : ¬ (isName a = true ∧ isName b = true) := by
        rintro ⟨h1, h2⟩; rw [h1, h2] at hn; cases hn
      refine ⟨h, ⟨fun h' => absurd h'.1 (by decide), fun h' => absurd ⟨h'.1, h'.2.2.2.resolve_left e⟩ hx⟩, trivial, trivial, trivial, ?_, ?_⟩
      · rw [if_neg (fun h' => absurd h'.1 (by decide))]
      · rw [if_neg (fun h' => absurd h'.1 (by decide))]
    | false =>
      simp only [Bool.false_eq_true, if_false]
      simp only [Bool.or_eq_false_iff, Bool.not_eq_false'] at hn
      cases hg : alGet S.shown a with
      | none =>
        simp only
        refine ⟨h, ⟨fun h' => absurd h'.1 (by decide), fun h' => absurd rfl h'.2.1⟩, trivial, trivial, trivial, ?_, ?_⟩
        · rw [if_neg (fun h' => absurd h'.1 (by decide))]
        · rw [if_neg (fun h' => absurd h'.1 (by decide))]
      | some t =>
        simp only
        rw [h.stroke, if_pos rfl]
        by_cases hab : a = b
        · simp only [if_pos hab]
          refine ⟨h.ticked, ⟨fun h' => absurd hab h'.2, fun h' => absurd hab h'.2.2.1⟩, rfl, rfl, rfl, ?_, ?_⟩
          · rw [if_neg (fun h' => h'.2 hab)]; rfl
          · rw [if_neg (fun h' => h'.2 hab)]; rfl
        · simp only [if_neg hab]
          refine ⟨⟨h.plan, h.off, h.ticked.since⟩, ⟨fun _ => ⟨hn.1, by simp, hab, .inr hn.2⟩, fun _ => ⟨trivial, hab⟩⟩, rfl, rfl, rfl, ?_, ?_⟩
          · rw [if_pos ⟨trivial, hab⟩]; rfl
          · rw [if_pos ⟨trivial, hab⟩]; rfl
abbrev Moves := List (ByteArray × ByteArray)
def foldM (l : Names) (d : Moves) : Names := (d.map turnOf).foldl (fun l c => c.on l) l
/-- The second loop. -/
def frontM : Moves → AD × Moves → AD × Moves
  | [], p => p
  | m :: r, p => frontM r ((p.1.move m.1 m.2).2, if (p.1.move m.1 m.2).1 = 0 ∧ m.1 ≠ m.2 then p.2 ++ [m] else p.2)
structure Moved (A S : AD) (d : Moves) : Prop where
  calm : Calm S
  things : S.things = A.things
  next : S.next = A.next
  safe : S.safe = A.safe
  row : S.row = d.map turnOf
  shown : S.shown = foldM A.safe d
  can : ∀ i m, d[i]? = some m → canMove (foldM A.safe (d.take i)) m
theorem Moved.step {A S : AD} {d : Moves} (h : Moved A S d) (m : ByteArray × ByteArray) : Moved A (S.move m.1 m.2).2 (if (S.move m.1 m.2).1 = 0 ∧ m.1 ≠ m.2 then d ++ [m] else d) := by
  obtain ⟨h1, h2, h3, h4, h5, h6, h7⟩ := move_calm h.calm m
  refine ⟨h1, h3.trans h.things, h4.trans h.next, h5.trans h.safe, ?_, ?_, ?_⟩
  · rw [h6]
    split
    · rw [h.row]; simp
    · exact h.row
  · rw [h7]
    split
    · rw [h.shown]; unfold foldM; simp
    · exact h.shown
  · split
    · rename_i hc
      intro i m' hi
      rcases Nat.lt_or_ge i d.length with hlt | hge
      · rw [List.getElem?_append_left hlt] at hi
        rw [List.take_append_of_le_length (by omega)]
        exact h.can i m' hi
      · rw [List.getElem?_append_right hge] at hi
        have : i - d.length = 0 := by
          rcases Nat.eq_zero_or_pos (i - d.length) with h' | h'
          · exact h'
          · rw [List.getElem?_eq_none (show 1 ≤ i - d.length from h')] at hi; cases hi
        rw [this] at hi
        simp only [List.getElem?_cons_zero, Option.some.injEq] at hi
        subst hi
        have e : i = d.length := by omega
        rw [e, List.take_left', ← h.shown]
        · exact h2.1 hc
        · rfl
    · exact h.can
theorem Moved.loop {A : AD} : ∀ (l : Moves) (p : AD × Moves), Moved A p.1 p.2 → Moved A (frontM l p).1 (frontM l p).2
  | [], _, h => h
  | m :: r, p, h => Moved.loop r _ (h.step m)
theorem frontM_len : ∀ (l : Moves) (p : AD × Moves), (frontM l p).2.length ≤ p.2.length + l.length
  | [], p => by show p.2.length ≤ _; omega
  | m :: r, p => by
    have h1 := frontM_len r ((p.1.move m.1 m.2).2, if (p.1.move m.1 m.2).1 = 0 ∧ m.1 ≠ m.2 then p.2 ++ [m] else p.2)
    have h2 : (if (p.1.move m.1 m.2).1 = 0 ∧ m.1 ≠ m.2 then p.2 ++ [m] else p.2).length ≤ p.2.length + 1 := by
      split <;> simp
    show (frontM r ((p.1.move m.1 m.2).2, if (p.1.move m.1 m.2).1 = 0 ∧ m.1 ≠ m.2 then p.2 ++ [m] else p.2)).2.length ≤ _
    simp only [List.length_cons] at *
    omega
/-- The third loop: the other disk, behind the first i of them. -/
structure Other (B T : AD) (d : Moves) (i : Nat) : Prop where
  calm : Calm T
  things : T.things = B.things
  shown : T.shown = foldM B.shown (d.take i)
theorem Other.step {A B S T : AD} {d : Moves} {i : Nat} (hs : A.safe = B.shown) (h : Moved A S d) (o : Other B T d i) {m : ByteArray × ByteArray} (hm : d[i]? = some m) : (T.move m.1 m.2).1 = 0 ∧ Other B (T.move m.1 m.2).2 d (i + 1) := by
  obtain ⟨h1, h2, h3, h4, h5, h6, h7⟩ := move_calm o.calm m
  have hc := h2.2 (by rw [o.shown, ← hs]; exact h.can i m hm)
  refine ⟨hc.1, h1, h3.trans o.things, ?_⟩
  rw [h7, if_pos hc, o.shown]
  have hi : i < d.length := (List.getElem?_eq_some_iff.1 hm).1
  rw [List.take_add_one, hm]
  unfold foldM; simp
/-- What a crash leaves is what the other shows. -/
theorem front_end {A B A1 S T : AD} {d : Moves} {pick : Int} {c : Nat} (h : Pair A B) (e1 : A1 = { A.ticked with safe := A.shown, row := [] }) (hm : Moved A1 S d) (o : Other B T d (roundA pick d.length)) (ok : S.Ok c) : (S.crash [pick]).files = T.files := by
  have hsafe : A1.safe = B.shown := by rw [e1]; exact h.shown
  have hnm : S.crashNames [pick] = T.shown := by
    unfold AD.crashNames
    rw [hm.safe, hm.row, o.shown, ← hsafe]
    unfold foldM
    have : pickA [pick] 0 (d.map turnOf).length = roundA pick d.length := by
      show roundA pick (d.map turnOf).length = _
      rw [List.length_map]
    rw [this, List.map_take]
  have hth : ∀ p ∈ S.crashNames [pick], ∀ i, S.crashBytes [pick] i p.2 = (T.things p.2).shown := by
    intro p hp i
    have hlt : p.2 < A.next := by
      have := ok.next _ (ok.crash_reach [pick] p hp)
      rw [hm.next, e1] at this; exact this
    have hst : S.things p.2 = A.things p.2 := by rw [hm.things, e1]; rfl
    have h1 := h.safe _ hlt
    unfold AD.crashBytes Thg.left
    rw [hst, h1.2, o.things, ← h.bytes _ hlt]
    exact h1.1
  have hgen : (S.crash [pick]).files = (S.crashNames [pick]).zipIdx.map fun q => (q.1.1, S.crashBytes [pick] q.2 q.1.2) := by
    unfold AD.files
    show ((S.crashNames [pick]).zipIdx.map fun q => (q.1.1, S.next + q.2)).map _ = _
    rw [List.map_map]
    refine List.map_congr_left fun q hq => ?_
    have hq' := List.mem_zipIdx hq
    have hp : (S.crashNames [pick])[q.2]? = some q.1 := by rw [hq'.2.2]; simp
    show (q.1.1, ((S.crash [pick]).things (S.next + q.2)).shown) = _
    have e : (S.crash [pick]).things (S.next + q.2) = ⟨S.crashBytes [pick] q.2 q.1.2, S.crashBytes [pick] q.2 q.1.2, []⟩ := by
      show (if S.next + q.2 < S.next then S.things (S.next + q.2) else match (S.crashNames [pick])[S.next + q.2 - S.next]? with | some p => _ | none => _) = _
      have e1 : S.next + q.2 - S.next = q.2 := by omega
      rw [if_neg (by omega), e1, hp]
    rw [e]
  rw [hgen]
  unfold AD.files
  rw [← hnm]
  have : ∀ (l : Names) (j : Nat), (∀ p ∈ l, ∀ i, S.crashBytes [pick] i p.2 = (T.things p.2).shown) → (l.zipIdx j).map (fun q => (q.1.1, S.crashBytes [pick] q.2 q.1.2)) = l.map fun p => (p.1, (T.things p.2).shown) := by
    intro l
    induction l with
    | nil => intro j _; rfl
    | cons p r ih =>
      intro j hl
      rw [List.zipIdx_cons, List.map_cons, List.map_cons, ih (j + 1) fun q hq => hl q (List.mem_cons_of_mem _ hq)]
      simp only
      rw [hl p List.mem_cons_self]
  exact this _ 0 hth
end Go.Proofs.XDisk
