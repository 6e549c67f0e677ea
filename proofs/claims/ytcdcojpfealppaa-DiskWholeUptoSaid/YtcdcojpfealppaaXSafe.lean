/- The plain law of DiskSafe. -/
import Derived.Test.YtcdcojpfealppaaXRefuse
set_option linter.unusedVariables false
set_option linter.unusedSimpArgs false
namespace Go.Proofs.XDisk
open Go.Proofs.XMaps
theorem leftOf_zero : ∀ (r : List Chg) (b : Bytes), XDisk.leftOf b r 0 = b
  | [], b => rfl
  | c :: r, b => by
    have zero : ∀ b : Bytes, c.made b 0 = b := by intro b; cases c <;> simp [Chg.made]
    unfold XDisk.leftOf
    rw [Nat.zero_min, zero, Nat.zero_sub]
    exact leftOf_zero r b
theorem crash_files {S : AD} (picks : List Int) : (S.crash picks).files = (S.crashNames picks).zipIdx.map fun q => (q.1.1, S.crashBytes picks q.2 q.1.2) := by
  unfold AD.files
  show ((S.crashNames picks).zipIdx.map fun q => (q.1.1, S.next + q.2)).map _ = _
  rw [List.map_map]
  refine List.map_congr_left fun q hq => ?_
  have hq' := List.mem_zipIdx hq
  have hp : (S.crashNames picks)[q.2]? = some q.1 := by rw [hq'.2.2]; simp
  show (q.1.1, ((S.crash picks).things (S.next + q.2)).shown) = _
  have e : (S.crash picks).things (S.next + q.2) = ⟨S.crashBytes picks q.2 q.1.2, S.crashBytes picks q.2 q.1.2, []⟩ := by
    show (if S.next + q.2 < S.next then S.things (S.next + q.2) else match (S.crashNames picks)[S.next + q.2 - S.next]? with | some p => _ | none => _) = _
    have e1 : S.next + q.2 - S.next = q.2 := by omega
    rw [if_neg (by omega), e1, hp]
  rw [e]
theorem crash_thing {S : AD} (picks : List Int) {p : ByteArray × Nat} (hp : p ∈ (S.crash picks).shown) : ∃ b, (S.crash picks).things p.2 = ⟨b, b, []⟩ := by
  have hp' : p ∈ (S.crashNames picks).zipIdx.map fun q => (q.1.1, S.next + q.2) := hp
  obtain ⟨q, hq, rfl⟩ := List.mem_map.1 hp'
  have hq' := List.mem_zipIdx hq
  have hp : (S.crashNames picks)[q.2]? = some q.1 := by rw [hq'.2.2]; simp
  refine ⟨S.crashBytes picks q.2 q.1.2, ?_⟩
  show (if S.next + q.2 < S.next then S.things (S.next + q.2) else match (S.crashNames picks)[S.next + q.2 - S.next]? with | some p => _ | none => _) = _
  have e1 : S.next + q.2 - S.next = q.2 := by omega
  rw [if_neg (by omega), e1, hp]
/-- Behind a crash all is safe. -/
theorem crash_safes {S : AD} (picks : List Int) : (S.crash picks).safes = (S.crash picks).files := by
  unfold AD.safes AD.files
  show ((S.crash picks).shown).map _ = _
  refine List.map_congr_left fun p hp => ?_
  obtain ⟨b, e⟩ := crash_thing picks hp
  rw [e]
theorem zip_map {f : Nat → Nat → Bytes} {g : Nat → Bytes} : ∀ (l : Names) (j : Nat), (∀ p ∈ l, ∀ i, f i p.2 = g p.2) → (l.zipIdx j).map (fun q => (q.1.1, f q.2 q.1.2)) = l.map fun p => (p.1, g p.2) := by
  intro l
  induction l with
  | nil => intro j _; rfl
  | cons p r ih =>
    intro j hl
    rw [List.zipIdx_cons, List.map_cons, List.map_cons, ih (j + 1) fun q hq => hl q (List.mem_cons_of_mem _ hq)]
    simp only
    rw [hl p List.mem_cons_self]
/-- A crash without picks leaves what is safe. -/
theorem crash_none {S : AD} : (S.crash []).files = S.safes := by
  rw [crash_files]
  have e : S.crashNames [] = S.safe := by
    unfold AD.crashNames
    have : pickA [] 0 S.row.length = 0 := rfl
    rw [this]; rfl
  rw [e]
  unfold AD.safes
  refine zip_map (f := S.crashBytes []) (g := fun t => (S.things t).safe) _ 0 fun p hp i => ?_
  unfold AD.crashBytes Thg.left
  have : pickA [] (i + 1) (unitsOf (S.things p.2).row) = 0 := rfl
  rw [this, leftOf_zero]
/-- What is settled is left by every crash. -/
structure Settled (S : AD) : Prop where
  row : S.row = []
  safe : S.safe = S.shown
  things : ∀ p ∈ S.shown, (S.things p.2).row = [] ∧ (S.things p.2).safe = (S.things p.2).shown
theorem crash_settled {S : AD} (h : Settled S) (picks : List Int) : (S.crash picks).files = S.files := by
  rw [crash_files]
  have e : S.crashNames picks = S.shown := by
    unfold AD.crashNames
    rw [h.row]; simp [h.safe]
  rw [e]
  unfold AD.files
  refine zip_map (f := S.crashBytes picks) (g := fun t => (S.things t).shown) _ 0 fun p hp i => ?_
  unfold AD.crashBytes Thg.left
  rw [(h.things p hp).1]
  exact (h.things p hp).2
theorem settled_crash {S : AD} (picks : List Int) : Settled (S.crash picks) where
  row := rfl
  safe := rfl
  things := fun p hp => by
    obtain ⟨b, e⟩ := crash_thing picks hp
    rw [e]; exact ⟨rfl, rfl⟩
/-- Names are made safe one by one, from the last. -/
structure Syncing (S T : AD) (j : Nat) : Prop where
  calm : Calm T
  shown : T.shown = S.shown
  bytes : ∀ t, (T.things t).shown = (S.things t).shown
  done : ∀ i p, T.shown[i]? = some p → T.shown.length ≤ i + j → (T.things p.2).row = [] ∧ (T.things p.2).safe = (T.things p.2).shown
theorem Syncing.step {S T : AD} {j : Nat} (h : Syncing S T j) (hnd : (alKeys S.shown).Nodup) (hnm : ∀ p ∈ S.shown, isName p.1 = true) {i : Nat} {p : ByteArray × Nat} (hi : S.shown[i]? = some p) (hij : i + j + 1 = S.shown.length) : (T.sync p.1).1 = 0 ∧ Syncing S (T.sync p.1).2 (j + 1) := by
  have hm : p ∈ T.shown := by rw [h.shown]; exact List.mem_of_getElem? hi
  have hnd' : (alKeys T.shown).Nodup := by rw [h.shown]; exact hnd
  have hg : alGet T.shown p.1 = some p.2 := alGet_mem hnd' hm
  have hl : T.look p.1 = 0 := by rw [h.calm.look, hnm p (h.shown ▸ hm), hg]; rfl
  have ho : T.of p.1 = p.2 := by unfold AD.of; rw [hg]; rfl
  have hr : (T.sync p.1).1 = 0 := by
    unfold AD.sync
    rw [hl, if_neg (by simp), h.calm.stroke]
  refine ⟨hr, ?_⟩
  rw [sync_calm h.calm hl, ho]
  have ht : ∀ t, (T.ticked.setThing p.2 (T.things p.2).settle).things t = if t = p.2 then (T.things p.2).settle else T.things t := fun t => rfl
  refine ⟨⟨h.calm.plan, h.calm.off, h.calm.ticked.since⟩, h.shown, fun t => ?_, fun i' p' hi' hle => ?_⟩
  · rw [ht]
    by_cases e : t = p.2
    · rw [if_pos e, e]; exact h.bytes p.2
    · rw [if_neg e]; exact h.bytes t
  · rw [ht]
    by_cases e : p'.2 = p.2
    · rw [if_pos e]; exact ⟨rfl, rfl⟩
    · rw [if_neg e]
      have hi'' : T.shown[i']? = some p' := hi'
      have hle' : T.shown.length ≤ i' + (j + 1) := hle
      refine h.done i' p' hi'' ?_
      rcases Nat.lt_or_ge i' (i + 1) with h' | h'
      · have : i' = i := by rw [h.shown] at hle'; omega
        subst this
        rw [h.shown, hi] at hi''
        injection hi'' with hi''
        exact absurd (by rw [← hi'']) e
      · rw [h.shown] at hle' ⊢; omega
/-- All bytes and all names made safe. -/
theorem Syncing.all {S T : AD} (h : Syncing S T S.shown.length) : T.syncNames.1 = 0 ∧ Settled T.syncNames.2 ∧ T.syncNames.2.files = S.files := by
  rw [syncNames_calm h.calm]
  refine ⟨rfl, ⟨rfl, rfl, fun p hp => ?_⟩, ?_⟩
  · have hp' : p ∈ T.shown := hp
    obtain ⟨i, hi⟩ := List.getElem?_of_mem hp'
    exact h.done i p hi (by rw [h.shown]; omega)
  · unfold AD.files
    show T.shown.map (fun p => (p.1, (T.things p.2).shown)) = _
    rw [h.shown]
    exact List.map_congr_left fun p _ => by rw [h.bytes]
/-- The name that a change brings is a name. -/
def Turn.isNm : Turn → Prop
  | .mk n _ => isName n = true
  | .give _ b => isName b = true
  | .take _ => True
structure Named (S : AD) : Prop where
  sn : ∀ p ∈ S.safe, isName p.1 = true
  rn : ∀ c ∈ S.row, Turn.isNm c
theorem isNm_on {c : Turn} {l : Names} (hl : ∀ p ∈ l, isName p.1 = true) (hc : Turn.isNm c) : ∀ p ∈ c.on l, isName p.1 = true := by
  intro p hp
  cases c with
  | mk n t =>
    rcases mem_setN.1 hp with rfl | h
    · exact hc
    · exact hl p h.1
  | give a b =>
    rcases mem_setN.1 hp with rfl | h
    · exact hc
    · exact hl p (mem_alDel.1 h.1).1
  | take n => exact hl p (mem_alDel.1 hp).1
theorem isNm_fold {r : List Turn} : ∀ {l : Names}, (∀ p ∈ l, isName p.1 = true) → (∀ c ∈ r, Turn.isNm c) → ∀ p ∈ r.foldl (fun l c => c.on l) l, isName p.1 = true := by
  induction r with
  | nil => intro l hl _; exact hl
  | cons c r ih => intro l hl hr; exact ih (isNm_on hl (hr c List.mem_cons_self)) fun d hd => hr d (List.mem_cons_of_mem _ hd)
theorem Named.shown {S : AD} {c : Nat} (h : Named S) (ok : S.Ok c) : ∀ p ∈ S.shown, isName p.1 = true := by rw [ok.turns.eq]; exact isNm_fold h.sn h.rn
theorem named_new (room : Int) : Named (AD.new room) := ⟨(fun p hp => by cases hp), (fun c hc => by cases hc)⟩
theorem Named.turned {S : AD} {t : Turn} (h : Named S) (ht : Turn.isNm t) : Named (S.turned t) := ⟨h.sn, fun c hc => by
  rcases List.mem_append.1 hc with h' | h'
  · exact h.rn c h'
  · rw [List.mem_singleton] at h'; exact h' ▸ ht⟩
theorem named_stroke {S : AD} {kind ref : Int} {act : AD → AD} (h : Named S) (ha : ref = 0 → ∀ o, Named (act { S.ticked with off := o })) : Named (S.stroke kind ref act).2 := by
  unfold AD.stroke
  simp only
  generalize hr : (if ref = 0 ∧ kind = 1 ∧ S.ticked.since ≥ S.ticked.plan.from_ ∧ S.ticked.since ≤ S.ticked.plan.to_ then (55 : Int) else ref) = r
  by_cases hc : r = 0 ∧ ¬ (decide (S.ticked.since = S.ticked.plan.off) = true ∧ kind = 2)
  · rw [if_pos hc]
    refine ha ?_ _
    have := hc.1
    rw [← hr] at this
    split at this
    · cases this
    · exact this
  · rw [if_neg hc]
    exact ⟨h.sn, h.rn⟩
theorem named_do {S : AD} {c : Nat} (ok : S.Ok c) (h : Named S) (x : StepA) : Named (S.doStep x).2 := by
  have ite : ∀ {p : Prop} [Decidable p] {a b : Int × AD}, (p → Named a.2) → (¬ p → Named b.2) → Named (if p then a else b).2 := by
    intro p _ a b h1 h2
    by_cases hp : p
    · rw [if_pos hp]; exact h1 hp
    · rw [if_neg hp]; exact h2 hp
  unfold AD.doStep
  refine ite (fun _ => ?_) fun _ => ite (fun _ => ?_) fun _ => ite (fun _ => ?_) fun _ => ite (fun _ => ?_) fun _ => ite (fun _ => ?_) fun _ => ite (fun _ => ?_) fun _ => ite (fun _ => ?_) fun _ => ite (fun _ => ?_) fun _ => ite (fun _ => ?_) fun _ => ite (fun _ => h) fun _ => ite (fun _ => ?_) fun _ => ite (fun _ => ?_) fun _ => ite (fun _ => ⟨h.sn, h.rn⟩) fun _ => h
  · unfold AD.create
    refine ite (fun _ => h) fun _ => ite (fun h53 => ?_) fun _ => h
    refine named_stroke h fun _ o => ?_
    have hn : isName x.name = true := by
      rcases look_cases S x.name with h' | h' | h' | h'
      · rw [h53] at h'; cases h'
      · rw [h53] at h'; cases h'
      · exact h'.2.1
      · rw [h53] at h'; cases h'.1
    exact Named.turned (S := { ({ S.ticked with off := o } : AD).setThing S.next Thg.empty with next := S.next + 1 }) ⟨h.sn, h.rn⟩ hn
  · unfold AD.writeAt
    exact ite (fun _ => h) fun _ => ite (fun _ => h) fun _ => named_stroke h fun _ o => ⟨h.sn, h.rn⟩
  · unfold AD.append
    refine ite (fun _ => h) fun _ => ?_
    unfold AD.writeAt
    exact ite (fun _ => h) fun _ => ite (fun _ => h) fun _ => named_stroke h fun _ o => ⟨h.sn, h.rn⟩
  · unfold AD.truncate
    exact ite (fun _ => h) fun _ => ite (fun _ => h) fun _ => named_stroke h fun _ o => ⟨h.sn, h.rn⟩
  · unfold AD.rename
    refine ite (fun _ => h) fun _ => ite (fun _ => h) fun hn => ?_
    have hb : isName x.to_ = true := by
      cases hb : isName x.to_ with
      | true => rfl
      | false => rw [hb] at hn; simp at hn
    cases alGet S.shown x.name with
    | none => exact h
    | some t =>
      refine named_stroke h fun _ o => ?_
      by_cases e : x.name = x.to_
      · simp only [if_pos e]; exact ⟨h.sn, h.rn⟩
      · simp only [if_neg e]
        exact Named.turned (S := { S.ticked with off := o }) ⟨h.sn, h.rn⟩ hb
  · unfold AD.remove
    exact ite (fun _ => h) fun _ => named_stroke h fun _ o => Named.turned (S := { S.ticked with off := o }) (t := .take x.name) ⟨h.sn, h.rn⟩ trivial
  · unfold AD.sync
    exact ite (fun _ => h) fun _ => named_stroke h fun _ o => ⟨h.sn, h.rn⟩
  · unfold AD.syncNames
    refine ite (fun _ => h) fun _ => named_stroke h fun _ o => ⟨h.shown ok, fun c hc => by cases hc⟩
  · unfold AD.read
    by_cases h1 : S.look x.name ≠ 0
    · rw [if_pos h1]; exact h
    · rw [if_neg h1]
      split
      · exact h
      · exact ⟨h.sn, h.rn⟩
  · unfold AD.plans
    split
    · exact h
    · exact ⟨h.sn, h.rn⟩
  · refine ⟨fun p hp => ?_, fun c hc => by cases hc⟩
    have : p.1 ∈ alKeys ((S.crashNames x.picks).zipIdx.map fun (p, i) => (p.1, S.next + i)) := List.mem_map_of_mem (f := (·.1)) hp
    rw [zip_now] at this
    obtain ⟨q, hq, e⟩ := List.mem_map.1 this
    rw [← e]
    exact isNm_fold h.sn (fun d hd => h.rn d (List.mem_of_mem_take hd)) q hq
end Go.Proofs.XDisk
