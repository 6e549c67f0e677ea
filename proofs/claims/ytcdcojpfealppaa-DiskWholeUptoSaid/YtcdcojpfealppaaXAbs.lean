/- The disk as plain data: its laws. -/
import Derived.Test.YtcdcojpfealppaaXDisk
set_option linter.unusedVariables false
set_option linter.unusedSimpArgs false
namespace Go.Proofs.XDisk
open Go.Proofs.XMaps

section
variable {β : Type}
theorem alGet_mem {l : List (ByteArray × β)} (hn : (alKeys l).Nodup) {p : ByteArray × β} (h : p ∈ l) : alGet l p.1 = some p.2 := by
  obtain ⟨j, hj⟩ := List.getElem?_of_mem h
  exact alGet_at hn hj
theorem mem_of_alGet {l : List (ByteArray × β)} {s : ByteArray} {v : β} (h : alGet l s = some v) : (s, v) ∈ l := by
  unfold alGet at h
  obtain ⟨p, hp, rfl⟩ := Option.map_eq_some_iff.1 h
  have h1 := List.mem_of_find?_eq_some hp
  have h2 := List.find?_some hp
  simp only [decide_eq_true_eq] at h2
  subst h2; exact h1
theorem alGet_iff {l : List (ByteArray × β)} (hn : (alKeys l).Nodup) {s : ByteArray} {v : β} : alGet l s = some v ↔ (s, v) ∈ l := ⟨mem_of_alGet, fun h => alGet_mem hn h⟩
theorem alKeys_perm {l l' : List (ByteArray × β)} (h : l.Perm l') : (alKeys l).Perm (alKeys l') := h.map _
theorem alGet_perm {l l' : List (ByteArray × β)} (h : l.Perm l') (hn : (alKeys l).Nodup) (s : ByteArray) : alGet l s = alGet l' s := by
  have hn' : (alKeys l').Nodup := (alKeys_perm h).nodup_iff.1 hn
  apply Option.ext
  intro v
  rw [alGet_iff hn, alGet_iff hn', h.mem_iff]
theorem alDel_perm {l l' : List (ByteArray × β)} (h : l.Perm l') (s : ByteArray) : (alDel l s).Perm (alDel l' s) := h.filter _
theorem alDel_keys_nodup {l : List (ByteArray × β)} (hn : (alKeys l).Nodup) (s : ByteArray) : (alKeys (alDel l s)).Nodup := hn.sublist (List.Sublist.map _ List.filter_sublist)
theorem mem_alDel {l : List (ByteArray × β)} {s : ByteArray} {p : ByteArray × β} : p ∈ alDel l s ↔ p ∈ l ∧ p.1 ≠ s := by simp [alDel, List.mem_filter]
theorem alGet_none_iff {l : List (ByteArray × β)} {s : ByteArray} : alGet l s = none ↔ ∀ p ∈ l, p.1 ≠ s := by
  unfold alGet
  simp [List.find?_eq_none]
theorem alDel_none {l : List (ByteArray × β)} {s : ByteArray} (h : ∀ p ∈ l, p.1 ≠ s) : alDel l s = l := by
  unfold alDel
  rw [List.filter_eq_self]
  intro p hp; simp [h p hp]
theorem map_set_perm (s : ByteArray) (v : β) : ∀ {l : List (ByteArray × β)}, (alKeys l).Nodup → (∃ p ∈ l, p.1 = s) → (l.map fun p => if p.1 = s then (s, v) else p).Perm ((s, v) :: alDel l s)
  | [], _, h => by obtain ⟨p, hp, _⟩ := h; cases hp
  | p :: r, hn, h => by
    simp only [alKeys, List.map_cons, List.nodup_cons] at hn
    by_cases e : p.1 = s
    · have hr : ∀ q ∈ r, q.1 ≠ s := fun q hq he => hn.1 (by rw [e, ← he]; exact List.mem_map_of_mem hq)
      have e1 : alDel (p :: r) s = r := by
        have := alDel_none hr
        unfold alDel at *
        rw [List.filter_cons_of_neg (by simp [e]), this]
      have e2 : (r.map fun p => if p.1 = s then (s, v) else p) = r := by
        rw [List.map_congr_left (g := id) (fun q hq => by simp [hr q hq])]; simp
      rw [e1, List.map_cons, e2, if_pos e]
    · have e1 : alDel (p :: r) s = p :: alDel r s := by
        unfold alDel
        rw [List.filter_cons_of_pos (by simp [e])]
      rw [e1, List.map_cons, if_neg e]
      have ih := map_set_perm s v (l := r) hn.2 (by
        obtain ⟨q, hq, hs⟩ := h
        cases hq with
        | head => exact absurd hs e
        | tail _ hq => exact ⟨q, hq, hs⟩)
      exact (List.Perm.cons p ih).trans (List.Perm.swap ..)
theorem alSet_perm {l : List (ByteArray × β)} (hn : (alKeys l).Nodup) (s : ByteArray) (v : β) : (alSet l s v).Perm ((s, v) :: alDel l s) := by
  unfold alSet
  split
  · rename_i h
    obtain ⟨p, hp, he⟩ := List.any_eq_true.1 h
    exact map_set_perm s v hn ⟨p, hp, by simpa using he⟩
  · rename_i h
    have : ∀ p ∈ l, p.1 ≠ s := by
      intro p hp he
      exact h (List.any_eq_true.2 ⟨p, hp, by simp [he]⟩)
    rw [alDel_none this]
    exact List.perm_append_singleton _ _
end
/-! Names in order -/
theorem insN_perm (s : ByteArray) (t : Nat) : ∀ l : Names, (insN l s t).Perm ((s, t) :: l)
  | [] => .refl _
  | p :: r => by
    unfold insN
    split
    · exact .refl _
    · exact (List.Perm.cons p (insN_perm s t r)).trans (List.Perm.swap ..)
theorem setN_perm (l : Names) (s : ByteArray) (t : Nat) : (setN l s t).Perm ((s, t) :: alDel l s) := insN_perm s t _
theorem cons_keys_nodup {l : Names} (hn : (alKeys l).Nodup) (s : ByteArray) (t : Nat) : (alKeys ((s, t) :: alDel l s)).Nodup := by
  show (s :: alKeys (alDel l s)).Nodup
  rw [List.nodup_cons]
  refine ⟨?_, alDel_keys_nodup hn s⟩
  intro h
  obtain ⟨p, hp, he⟩ := List.mem_map.1 h
  exact (mem_alDel.1 hp).2 he
theorem setN_nodup {l : Names} (hn : (alKeys l).Nodup) (s : ByteArray) (t : Nat) : (alKeys (setN l s t)).Nodup :=
  (alKeys_perm (setN_perm l s t)).nodup_iff.2 (cons_keys_nodup hn s t)
/-- A change of names on the entries of a map, in their order. -/
def Turn.onL : Turn → Names → Names
  | .mk n t, l => alSet l n t
  | .give a b, l => alSet (alDel l a) b ((alGet l a).getD 0)
  | .take n, l => alDel l n
theorem Turn.onL_perm (c : Turn) {l l' : Names} (h : l.Perm l') (hn : (alKeys l).Nodup) : (c.onL l).Perm (c.on l') := by
  cases c with
  | mk n t => exact (alSet_perm hn n t).trans ((List.Perm.cons _ (alDel_perm h n)).trans (setN_perm l' n t).symm)
  | give a b =>
    show (alSet (alDel l a) b ((alGet l a).getD 0)).Perm (setN (alDel l' a) b ((alGet l' a).getD 0))
    rw [alGet_perm h hn a]
    exact (alSet_perm (alDel_keys_nodup hn a) b _).trans ((List.Perm.cons _ (alDel_perm (alDel_perm h a) b)).trans (setN_perm _ b _).symm)
  | take n => exact alDel_perm h n
theorem Turn.on_nodup (c : Turn) {l : Names} (hn : (alKeys l).Nodup) : (alKeys (c.on l)).Nodup := by
  cases c with
  | mk n t => exact setN_nodup hn n t
  | give a b => exact setN_nodup (alDel_keys_nodup hn a) b _
  | take n => exact alDel_keys_nodup hn n
theorem mem_setN {l : Names} {s : ByteArray} {t : Nat} {p : ByteArray × Nat} : p ∈ setN l s t ↔ p = (s, t) ∨ (p ∈ l ∧ p.1 ≠ s) := by
  rw [(setN_perm l s t).mem_iff, List.mem_cons, mem_alDel]
def reach (S : AD) (t : Nat) : Prop := (∃ n, (n, t) ∈ S.shown) ∨ (∃ n, (n, t) ∈ S.safe) ∨ ∃ n, Turn.mk n t ∈ S.row
/-- A row of changes of bytes that leads from b to s, no step longer than it may be. -/
def rowOk : Bytes → List Chg → Bytes → Prop
  | b, [], s => s = b ∧ b.length ≤ 1048576
  | b, c :: r, s => b.length ≤ 1048576 ∧ (∀ n, c = .cut n → n ≤ b.length) ∧ (∀ a d, c = .wr a d → a ≤ b.length ∧ a + d.length ≤ 1048576) ∧ rowOk (c.made b c.units) r s
/-- A row of changes of names that leads from l to s. -/
def turnsOk : Names → List Turn → Names → Prop
  | l, [], s => s = l ∧ l.length ≤ 256
  | l, c :: r, s => l.length ≤ 256 ∧ (∀ a b, c = .give a b → alGet l a ≠ none) ∧ turnsOk (c.on l) r s
/-- Names in order. -/
def Ordered (l : Names) : Prop := l.Pairwise fun p q => blt p.1 q.1 = true
structure Thg.Ok (x : Thg) (c : Nat) : Prop where
  row : x.row.length ≤ c
  ok : rowOk x.safe x.row x.shown
/-- The name that a change brings is short. -/
def Turn.nm : Turn → Prop
  | .mk n _ => n.size ≤ 112
  | .give _ b => b.size ≤ 112
  | .take _ => True
structure AD.Ok (S : AD) (c : Nat) : Prop where
  room : 1 ≤ S.room ∧ S.room ≤ 1048576
  small : c ≤ 1099511627776
  strokes : 0 ≤ S.strokes ∧ S.strokes ≤ c
  since : 0 ≤ S.since ∧ S.since ≤ c
  row : S.row.length ≤ c
  reads : S.reads.length ≤ c
  next : ∀ t, reach S t → t < S.next
  thing : ∀ t, reach S t → (S.things t).Ok c
  turns : turnsOk S.safe S.row S.shown
  sn : ∀ p ∈ S.safe, p.1.size ≤ 112
  rn : ∀ c ∈ S.row, Turn.nm c
  safe : Ordered S.safe
theorem rowOk.len {b s : Bytes} : ∀ {r : List Chg}, rowOk b r s → s.length ≤ 1048576 ∧ b.length ≤ 1048576
  | [], h => ⟨h.1 ▸ h.2, h.2⟩
  | c :: r, h => ⟨(rowOk.len h.2.2.2).1, h.1⟩
theorem turnsOk.len {l s : Names} : ∀ {r : List Turn}, turnsOk l r s → s.length ≤ 256 ∧ l.length ≤ 256
  | [], h => ⟨h.1 ▸ h.2, h.2⟩
  | c :: r, h => ⟨(turnsOk.len h.2.2).1, h.1⟩
theorem rowOk.snoc {s : Bytes} {c : Chg} (h1 : ∀ n, c = .cut n → n ≤ s.length) (h2 : ∀ a d, c = .wr a d → a ≤ s.length ∧ a + d.length ≤ 1048576) (h3 : (c.made s c.units).length ≤ 1048576) :
    ∀ {r : List Chg} {b : Bytes}, rowOk b r s → rowOk b (r ++ [c]) (c.made s c.units)
  | [], b, h => by
    obtain ⟨rfl, hb⟩ := h
    exact ⟨hb, h1, h2, rfl, h3⟩
  | d :: r, b, h => ⟨h.1, h.2.1, h.2.2.1, rowOk.snoc h1 h2 h3 h.2.2.2⟩
theorem turnsOk.snoc {s : Names} {c : Turn} (h1 : ∀ a b, c = .give a b → alGet s a ≠ none) (h3 : (c.on s).length ≤ 256) :
    ∀ {r : List Turn} {l : Names}, turnsOk l r s → turnsOk l (r ++ [c]) (c.on s)
  | [], l, h => by
    obtain ⟨rfl, hb⟩ := h
    exact ⟨hb, h1, rfl, h3⟩
  | d :: r, l, h => ⟨h.1, h.2.1, turnsOk.snoc h1 h3 h.2.2⟩
theorem turnsOk.eq {s : Names} : ∀ {r : List Turn} {l : Names}, turnsOk l r s → s = r.foldl (fun l c => c.on l) l
  | [], l, h => h.1
  | c :: r, l, h => turnsOk.eq (r := r) (l := c.on l) h.2.2
theorem turnsOk.take {s : Names} (i : Nat) : ∀ {r : List Turn} {l : Names}, turnsOk l r s → turnsOk l (r.take i) ((r.take i).foldl (fun l c => c.on l) l) := by
  induction i with
  | zero => intro r l h; exact ⟨rfl, h.len.2⟩
  | succ i ih =>
    intro r l h
    cases r with
    | nil => exact ⟨rfl, h.len.2⟩
    | cons c r => exact ⟨h.1, h.2.1, ih h.2.2⟩
/-! Order -/
theorem blt_trans {a b c : ByteArray} (h : blt a b = true) (k : blt b c = true) : blt a c = true := by
  unfold blt at *
  simp only [decide_eq_true_eq] at *
  exact List.lt_trans h k
theorem blt_irrefl (a : ByteArray) : blt a a = false := by
  unfold blt
  simp only [decide_eq_false_iff_not]
  exact List.lt_irrefl _
theorem blt_total {a b : ByteArray} (h : blt a b = false) (hne : a ≠ b) : blt b a = true := by
  unfold blt at *
  simp only [decide_eq_false_iff_not, decide_eq_true_eq] at *
  by_cases h' : b.data.toList < a.data.toList
  · exact h'
  · exact absurd (ByteArray.ext (Array.toList_inj.1 (List.le_antisymm (List.not_lt.1 h') (List.not_lt.1 h)))) hne
theorem Ordered.nodup {l : Names} (h : Ordered l) : (alKeys l).Nodup := by
  unfold alKeys
  rw [List.Nodup, List.pairwise_map]
  refine h.imp fun {p q} hpq e => ?_
  rw [e, blt_irrefl] at hpq; cases hpq
theorem Ordered.del {l : Names} (h : Ordered l) (s : ByteArray) : Ordered (alDel l s) := h.filter _
theorem Ordered.ins {s : ByteArray} {t : Nat} : ∀ {l : Names}, Ordered l → (∀ p ∈ l, p.1 ≠ s) → Ordered (insN l s t)
  | [], _, _ => List.pairwise_singleton _ _
  | p :: r, h, hn => by
    obtain ⟨h1, h2⟩ := List.pairwise_cons.1 h
    unfold insN
    split
    · rename_i hs
      refine List.pairwise_cons.2 ⟨?_, h⟩
      intro q hq
      cases hq with
      | head => exact hs
      | tail _ hq => exact blt_trans hs (h1 q hq)
    · rename_i hs
      refine List.pairwise_cons.2 ⟨?_, Ordered.ins h2 fun q hq => hn q (List.mem_cons_of_mem _ hq)⟩
      intro q hq
      rcases List.mem_cons.1 ((insN_perm s t r).mem_iff.1 hq) with rfl | hq
      · exact blt_total (by simpa using hs) (fun e => hn p List.mem_cons_self e.symm)
      · exact h1 q hq
theorem Ordered.set {l : Names} (h : Ordered l) (s : ByteArray) (t : Nat) : Ordered (setN l s t) := (h.del s).ins fun p hp => (mem_alDel.1 hp).2
theorem Ordered.on {l : Names} (h : Ordered l) (c : Turn) : Ordered (c.on l) := by
  cases c with
  | mk n t => exact h.set n t
  | give a b => exact (h.del a).set b _
  | take n => exact h.del n
theorem Ordered.fold {r : List Turn} : ∀ {l : Names}, Ordered l → Ordered (r.foldl (fun l c => c.on l) l) := by
  induction r with
  | nil => intro l h; exact h
  | cons c r ih => intro l h; exact ih (h.on c)
theorem AD.Ok.shown {S : AD} {c : Nat} (h : S.Ok c) : Ordered S.shown := by rw [h.turns.eq]; exact h.safe.fold
theorem made_len {a u : Nat} {b d : Bytes} : (((b ++ List.replicate (a + u - b.length) 0).take a) ++ d.take u ++ ((b ++ List.replicate (a + u - b.length) 0).drop (a + u)) : Bytes).length = min a (max b.length (a + u)) + min u d.length + (max b.length (a + u) - (a + u)) := by
  simp only [List.length_append, List.length_take, List.length_drop, List.length_replicate]
  omega
theorem units_le {c : Chg} {b : Bytes} (h1 : ∀ a d, c = .wr a d → a ≤ b.length ∧ a + d.length ≤ 1048576) : c.units ≤ 1048576 := by
  cases c with
  | cut n => show 1 ≤ _; omega
  | wr a d => have := (h1 a d rfl).2; show d.length ≤ _; omega
theorem rowOk.units_at {s : Bytes} : ∀ {r : List Chg} {b : Bytes}, rowOk b r s → ∀ c ∈ r, c.units ≤ 1048576
  | [], b, _, c, hc => by cases hc
  | d :: r, b, h, c, hc => by
    cases hc with
    | head => exact units_le h.2.2.1
    | tail _ hc => exact rowOk.units_at h.2.2.2 c hc
theorem unitsOf_le {l : List Chg} (h : ∀ c ∈ l, c.units ≤ 1048576) : unitsOf l ≤ l.length * 1048576 := by
  unfold unitsOf
  induction l with
  | nil => simp
  | cons c l ih =>
    have h1 := h c List.mem_cons_self
    have h2 := ih fun d hd => h d (List.mem_cons_of_mem _ hd)
    simp only [List.map_cons, List.sum_cons, List.length_cons]
    omega
/-- Where a row of changes stands: all made so far, or none to come. -/
def midOk (b : Bytes) (r : List Chg) (u : Nat) (s : Bytes) : Prop := rowOk b r s ∨ (u = 0 ∧ b.length ≤ 1048576 ∧ ∀ c ∈ r, c.units ≤ 1048576)
theorem midOk.step {b : Bytes} {c : Chg} {r : List Chg} {u : Nat} {s : Bytes} (h : midOk b (c :: r) u s) : midOk (c.made b (min u c.units)) r (u - min u c.units) s ∧ b.length ≤ 1048576 ∧ c.units ≤ 1048576 ∧ (∀ n, c = .cut n → min u c.units ≠ 0 → n ≤ b.length) ∧ (∀ a d, c = .wr a d → min u c.units ≠ 0 → a + min u c.units ≤ 1048576) := by
  have zero : ∀ b : Bytes, c.made b 0 = b := by intro b; cases c <;> simp [Chg.made]
  rcases h with h | ⟨rfl, hb, hu⟩
  · have hcu := units_le h.2.2.1
    refine ⟨?_, h.1, hcu, fun n e _ => h.2.1 n e, fun a d e _ => ?_⟩
    · by_cases hle : c.units ≤ u
      · rw [Nat.min_eq_right hle]; exact .inl h.2.2.2
      · rw [Nat.min_eq_left (by omega)]
        refine .inr ⟨by omega, ?_, fun c hc => rowOk.units_at h.2.2.2 c hc⟩
        cases c with
        | cut n =>
          have : u = 0 := by have : (Chg.cut n).units = 1 := rfl; omega
          subst this; rw [zero]; exact h.1
        | wr a d =>
          by_cases h0 : u = 0
          · subst h0; rw [zero]; exact h.1
          · have h2 := h.2.2.1 a d rfl
            have h3 : (Chg.wr a d).units = d.length := rfl
            simp only [Chg.made, if_neg h0]
            rw [made_len]
            have := h.1
            omega
    · subst e
      have h2 := (h.2.2.1 a d rfl).2
      have h3 : (Chg.wr a d).units = d.length := rfl
      have := Nat.min_le_right u (Chg.wr a d).units
      omega
  · rw [Nat.zero_min, zero]
    exact ⟨.inr ⟨rfl, hb, fun c hc => hu c (List.mem_cons_of_mem _ hc)⟩, hb, hu c List.mem_cons_self, fun n _ h => absurd rfl h, fun a d _ h => absurd rfl h⟩
theorem midOk.len {b : Bytes} {r : List Chg} {u : Nat} {s : Bytes} (h : midOk b r u s) : b.length ≤ 1048576 := by
  rcases h with h | h
  · exact h.len.2
  · exact h.2.1
end Go.Proofs.XDisk
