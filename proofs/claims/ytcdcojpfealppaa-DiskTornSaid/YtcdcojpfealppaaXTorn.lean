/- The plain law of DiskTorn. -/
import Derived.Test.YtcdcojpfealppaaXSafe
set_option linter.unusedVariables false
set_option linter.unusedSimpArgs false
namespace Go.Proofs.XDisk
open Go.Proofs.XMaps
structure WrA where
  cut : Bool
  at_ : Int
  data : Bytes
def WrA.chg (x : WrA) : Chg := if x.cut then .cut x.at_.toNat else .wr x.at_.toNat x.data
def WrA.units (x : WrA) : Nat := if x.cut then 1 else x.data.length
theorem chg_units (x : WrA) : x.chg.units = x.units := by
  unfold WrA.chg WrA.units
  cases x.cut <;> rfl
def chgs (l : List WrA) : List Chg := l.map WrA.chg
theorem unitsOf_snoc (l : List WrA) (x : WrA) : unitsOf (chgs (l ++ [x])) = unitsOf (chgs l) + x.units := by
  unfold unitsOf chgs
  rw [List.map_append, List.map_append, List.sum_append]
  simp [chg_units]
def fN : ByteArray := ByteArray.mk #[102]
def gN : ByteArray := ByteArray.mk #[103]
def hN : ByteArray := ByteArray.mk #[104]
/-- The bytes b with the first i of d laid from a on. -/
def ovr (b : Bytes) (a : Nat) (d : Bytes) (i : Nat) : Bytes := b.take a ++ d.take i ++ b.drop (a + i)
theorem ovr_zero (b : Bytes) (a : Nat) (d : Bytes) : ovr b a d 0 = b := by simp [ovr]
theorem ovr_len {b : Bytes} {a : Nat} {d : Bytes} {i : Nat} (ha : a ≤ b.length) (hi : i ≤ d.length) : (ovr b a d i).length = max b.length (a + i) := by
  unfold ovr
  simp only [List.length_append, List.length_take, List.length_drop]
  omega
theorem ovr_made {b : Bytes} {a : Nat} {d : Bytes} {u : Nat} (ha : a ≤ b.length) (hu : u ≤ d.length) : (Chg.wr a d).made b u = ovr b a d u := by
  simp only [Chg.made]
  by_cases h0 : u = 0
  · rw [if_pos h0, h0, ovr_zero]
  · rw [if_neg h0]
    unfold ovr
    congr 1
    · congr 1
      rw [List.take_append_of_le_length ha]
    · by_cases h : a + u ≤ b.length
      · have e : a + u - b.length = 0 := by omega
        rw [e]; simp
      · rw [List.drop_eq_nil_of_le (by simp; omega), List.drop_eq_nil_of_le (by omega)]
theorem ovr_set {b : Bytes} {a : Nat} {d : Bytes} {i : Nat} (hi : i < d.length) (h : a + i < (ovr b a d i).length) (ha : a ≤ b.length) : ovr b a d (i + 1) = (ovr b a d i).set (a + i) d[i] := by
  rw [ovr_len ha (by omega)] at h
  have hb : a + i < b.length := by omega
  unfold ovr
  have e1 : (b.take a ++ d.take i).length = a + i := by simp; omega
  rw [List.set_append_right (a + i) _ (by omega), e1, Nat.sub_self, List.drop_eq_getElem_cons hb, List.set_cons_zero]
  have e2 : a + (i + 1) = a + i + 1 := by omega
  rw [e2, List.take_succ_eq_append_getElem (l := d) hi]
  simp only [List.append_assoc, List.cons_append, List.nil_append]
theorem ovr_snoc {b : Bytes} {a : Nat} {d : Bytes} {i : Nat} (hi : i < d.length) (h : ¬ a + i < (ovr b a d i).length) (ha : a ≤ b.length) : ovr b a d (i + 1) = ovr b a d i ++ [d[i]] := by
  rw [ovr_len ha (by omega)] at h
  unfold ovr
  rw [List.drop_eq_nil_of_le (by omega), List.drop_eq_nil_of_le (by omega), List.take_succ_eq_append_getElem hi]
  simp
/-- One file that is safe, and writes behind that. -/
structure Torn (S : AD) (b0 : Bytes) (done : List WrA) (b : Bytes) : Prop where
  shown : S.shown = [(fN, 0)]
  safe : S.safe = [(fN, 0)]
  row : S.row = []
  next : S.next = 1
  room : S.room = 1048576
  plan : S.plan.from_ = 0 ∧ S.plan.to_ = 0
  since : 0 ≤ S.since
  thing : S.things 0 = ⟨b0, b, chgs done⟩
theorem Torn.get {S : AD} {b0 b : Bytes} {done : List WrA} (h : Torn S b0 done b) : alGet S.shown fN = some 0 := by rw [h.shown]; simp [alGet]
theorem Torn.of {S : AD} {b0 b : Bytes} {done : List WrA} (h : Torn S b0 done b) : S.of fN = 0 := by unfold AD.of; rw [h.get]; rfl
theorem Torn.look {S : AD} {b0 b : Bytes} {done : List WrA} (h : Torn S b0 done b) (ho : S.off = false) : S.look fN = 0 := by
  unfold AD.look
  rw [ho, h.get]; decide
theorem Torn.bytes {S : AD} {b0 b : Bytes} {done : List WrA} (h : Torn S b0 done b) : S.bytes fN = b := by
  unfold AD.bytes
  rw [h.of, h.thing]
theorem Torn.used {S : AD} {b0 b : Bytes} {done : List WrA} (h : Torn S b0 done b) : S.used = b.length := by
  unfold AD.used
  rw [h.shown]
  simp [h.thing]
def AD.wr (S : AD) (x : WrA) : Int × AD := if x.cut then S.truncate fN x.at_ else S.writeAt fN x.at_ x.data
/-- Does it lie in so many bytes? -/
def WrA.fit (x : WrA) (n : Nat) : Prop := 0 ≤ x.at_ ∧ x.at_ ≤ n
instance (x : WrA) (n : Nat) : Decidable (x.fit n) := by unfold WrA.fit; infer_instance
def WrA.size (x : WrA) (n : Nat) : Int := if x.cut then x.at_ else if x.at_ + x.data.length > n then x.at_ + x.data.length else n
theorem WrA.len {x : WrA} {b : Bytes} (h : x.fit b.length) : ((x.chg.made b x.units).length : Int) = x.size b.length := by
  obtain ⟨h0, h1⟩ := h
  unfold WrA.chg WrA.size WrA.units
  cases hc : x.cut with
  | true =>
    simp only [if_true]
    simp only [Chg.made]
    rw [if_neg (by decide), List.length_take]
    omega
  | false =>
    simp only [Bool.false_eq_true, if_false]
    rw [ovr_made (by omega) (Nat.le_refl _), ovr_len (by omega) (Nat.le_refl _)]
    split <;> omega
theorem Torn.nofit {S : AD} {b0 b : Bytes} {done : List WrA} (h : Torn S b0 done b) (ho : S.off = false) {x : WrA} (hf : ¬ x.fit b.length) : S.wr x = (54, S) := by
  unfold WrA.fit at hf
  unfold AD.wr AD.truncate AD.writeAt
  rw [h.look ho, h.bytes]
  simp only [ne_eq, not_true, if_false]
  have hb : x.at_ < 0 ∨ x.at_ > b.length := by omega
  cases x.cut
  · rw [if_neg (by decide), if_pos hb]
  · rw [if_pos rfl, if_pos hb]
theorem Torn.acted {S : AD} {b0 b : Bytes} {done : List WrA} (h : Torn S b0 done b) (o : Bool) (x : WrA) :
    Torn (({ S.ticked with off := o }).setThing 0 (({ S.ticked with off := o }).things 0 |>.add x.chg)) b0 (done ++ [x]) (x.chg.made b x.units) where
  shown := h.shown
  safe := h.safe
  row := h.row
  next := h.next
  room := h.room
  plan := h.plan
  since := by have := h.since; show 0 ≤ S.since + 1; omega
  thing := by
    show (if (0 : Nat) = 0 then (S.things 0).add x.chg else S.things 0) = _
    rw [if_pos rfl, h.thing]
    unfold Thg.add chgs
    rw [chg_units]; simp
theorem Torn.stroke {S : AD} {b0 b : Bytes} {done : List WrA} (h : Torn S b0 done b) {kind : Int} (hk : kind ≠ 2) {x : WrA} {act : AD → AD} (ha : ∀ T, act T = T.setThing 0 ((T.things 0).add x.chg)) :
    (S.stroke kind 0 act).1 = (if (S.stroke kind 0 act).2.off then 50 else 0) ∧ Torn (S.stroke kind 0 act).2 b0 (done ++ [x]) (x.chg.made b x.units) := by
  have hs := h.since
  have hp := h.plan.2
  have e1 : S.ticked.since = S.since + 1 := rfl
  have e2 : S.ticked.plan.to_ = S.plan.to_ := rfl
  have c1 : ¬ (True ∧ kind = 1 ∧ S.ticked.since ≥ S.ticked.plan.from_ ∧ S.ticked.since ≤ S.ticked.plan.to_) := by
    rintro ⟨_, _, _, h4⟩
    omega
  unfold AD.stroke
  simp only
  have c2 : (0 : Int) = 0 ∧ ¬ (decide (S.ticked.since = S.ticked.plan.off) = true ∧ kind = 2) := ⟨rfl, fun hh => hk hh.2⟩
  rw [if_neg c1, if_pos c2, ha]
  exact ⟨rfl, h.acted _ x⟩
theorem Torn.step {S : AD} {b0 b : Bytes} {done : List WrA} (h : Torn S b0 done b) (ho : S.off = false) {x : WrA} (hf : x.fit b.length) (hl : b.length + x.data.length ≤ 1048576) :
    (S.wr x).1 = (if (S.wr x).2.off then 50 else 0) ∧ Torn (S.wr x).2 b0 (done ++ [x]) (x.chg.made b x.units) := by
  obtain ⟨h0, h1⟩ := hf
  have hr := h.room
  have hu := h.used
  unfold AD.wr
  cases hc : x.cut with
  | true =>
    simp only [if_true]
    unfold AD.truncate
    rw [h.look ho, h.bytes, h.of]
    simp only [ne_eq, not_true, if_false]
    rw [if_neg (by omega)]
    refine h.stroke (by decide) fun T => ?_
    unfold WrA.chg; rw [hc]; rfl
  | false =>
    simp only [Bool.false_eq_true, if_false]
    unfold AD.writeAt
    rw [h.look ho, h.bytes, h.of]
    simp only [ne_eq, not_true, if_false]
    rw [if_neg (by omega), if_neg (by rw [hu, hr]; omega)]
    refine h.stroke (by decide) fun T => ?_
    unfold WrA.chg; rw [hc]; rfl
/-- Of the first file so much is left. -/
structure Kept (S : AD) (b0 : Bytes) (done : List WrA) : Prop where
  safe : S.safe = [(fN, 0)]
  bytes : (S.things 0).safe = b0
  row : (S.things 0).row = chgs done
theorem Torn.kept {S : AD} {b0 b : Bytes} {done : List WrA} (h : Torn S b0 done b) : Kept S b0 done := ⟨h.safe, by rw [h.thing], by rw [h.thing]⟩
theorem Kept.crash {S : AD} {b0 : Bytes} {done : List WrA} (h : Kept S b0 done) (pick : Int) : (S.crash [0, pick]).files = [(fN, leftOf b0 (chgs done) (roundA pick (unitsOf (chgs done))))] := by
  rw [crash_files]
  have e : S.crashNames [0, pick] = [(fN, 0)] := by
    unfold AD.crashNames
    have e0 : pickA [0, pick] 0 S.row.length = 0 := by
      show roundA 0 S.row.length = 0
      unfold roundA
      rw [show Int.emod 0 ((S.row.length : Int) + 1) = 0 from Int.zero_emod _]; rfl
    rw [e0, List.take_zero]
    exact h.safe
  rw [e]
  show [(fN, S.crashBytes [0, pick] 0 0)] = _
  unfold AD.crashBytes Thg.left
  rw [h.bytes, h.row]
  rfl
/-- Names changed behind that. -/
theorem away1 {S : AD} {b0 b : Bytes} {done : List WrA} (h : Torn S b0 done b) (hc : Calm S) : (S.remove fN).1 = 0 ∧ Kept (S.remove fN).2 b0 done := by
  have hl := h.look hc.off
  unfold AD.remove
  rw [hl]
  simp only [ne_eq, not_true, if_false]
  rw [hc.stroke]
  exact ⟨rfl, h.safe, by show (S.things 0).safe = _; rw [h.thing], by show (S.things 0).row = _; rw [h.thing]⟩
theorem away3 {S : AD} {b0 b : Bytes} {done : List WrA} (h : Torn S b0 done b) (hc : Calm S) : (S.rename fN hN).1 = 0 ∧ ((S.rename fN hN).2.create fN).1 = 0 ∧ Kept ((S.rename fN hN).2.create fN).2 b0 done := by
  have hg := h.get
  have e1 : S.rename fN hN = (0, S.ticked.turned (.give fN hN)) := by
    unfold AD.rename
    rw [hc.off, hg]
    simp only [Bool.false_eq_true, if_false]
    rw [if_neg (by decide)]
    show S.stroke 0 0 _ = _
    rw [hc.stroke, if_pos rfl, if_neg (by decide)]
  rw [e1]
  have hT : (S.ticked.turned (.give fN hN)).shown = [(hN, 0)] := by
    show Turn.on (.give fN hN) S.shown = _
    rw [h.shown]; decide
  have cT : Calm (S.ticked.turned (.give fN hN)) := ⟨hc.plan, hc.off, hc.ticked.since⟩
  have hlk : (S.ticked.turned (.give fN hN)).look fN = 53 := by
    rw [cT.look, hT]; decide
  have e2 : (S.ticked.turned (.give fN hN)).create fN = (0, ((S.ticked.turned (.give fN hN)).ticked.made fN)) := by
    unfold AD.create
    rw [hlk, if_neg (by decide), if_pos rfl, hT, if_neg (by decide), cT.stroke, if_pos rfl]
  rw [e2]
  have hne : ∀ t, t ≠ S.next → ((S.ticked.turned (.give fN hN)).ticked.made fN).things t = S.things t := fun t ht => if_neg ht
  have h0 : (0 : Nat) ≠ S.next := by rw [h.next]; decide
  exact ⟨rfl, rfl, h.safe, by rw [hne 0 h0, h.thing], by rw [hne 0 h0, h.thing]⟩
theorem away2 {S : AD} {b0 b : Bytes} {done : List WrA} (h : Torn S b0 done b) (hc : Calm S) (hl : b.length ≤ 1000000) :
    (S.create gN).1 = 0 ∧ ((S.create gN).2.append gN [110, 101, 119]).1 = 0 ∧ (((S.create gN).2.append gN [110, 101, 119]).2.sync gN).1 = 0 ∧
      ((((S.create gN).2.append gN [110, 101, 119]).2.sync gN).2.rename gN fN).1 = 0 ∧ Kept ((((S.create gN).2.append gN [110, 101, 119]).2.sync gN).2.rename gN fN).2 b0 done := by
  have hnx := h.next
  have hlk : S.look gN = 53 := by rw [hc.look, h.shown]; decide
  have e1 : S.create gN = (0, S.ticked.made gN) := by
    unfold AD.create
    rw [hlk, if_neg (by decide), if_pos rfl, h.shown, if_neg (by decide), hc.stroke, if_pos rfl]
  rw [e1]
  generalize hA : S.ticked.made gN = A
  have sA : A.shown = [(fN, 0), (gN, 1)] := by
    rw [← hA]
    show Turn.on (.mk gN S.next) S.shown = _
    rw [h.shown, hnx]; decide
  have cA : Calm A := by rw [← hA]; exact ⟨hc.plan, hc.off, hc.ticked.since⟩
  have tA0 : A.things 0 = ⟨b0, b, chgs done⟩ := by
    rw [← hA]
    show (if (0 : Nat) = S.next then Thg.empty else S.things 0) = _
    rw [hnx, if_neg (by decide), h.thing]
  have tA1 : A.things 1 = Thg.empty := by
    rw [← hA]
    show (if (1 : Nat) = S.next then Thg.empty else S.things 1) = _
    rw [hnx, if_pos rfl]
  have fA : A.safe = [(fN, 0)] := by rw [← hA]; exact h.safe
  have rA : A.room = 1048576 := by rw [← hA]; exact h.room
  have lA : A.look gN = 0 := by rw [cA.look, sA]; decide
  have oA : A.of gN = 1 := by unfold AD.of; rw [sA]; decide
  have bA : A.bytes gN = [] := by unfold AD.bytes; rw [oA, tA1]; rfl
  have uA : A.used = b.length := by unfold AD.used; rw [sA]; simp [tA0, tA1, Thg.empty]
  have e2 : A.append gN [110, 101, 119] = (0, A.ticked.setThing 1 ((A.things 1).add (.wr 0 [110, 101, 119]))) := by
    unfold AD.append AD.writeAt
    rw [lA, bA, uA, rA, oA]
    simp only [ne_eq, not_true, if_false]
    rw [if_neg (by simp), if_neg (by simp; omega), cA.stroke, if_pos rfl]
    rfl
  rw [e2]
  simp only
  generalize hB : A.ticked.setThing 1 ((A.things 1).add (.wr 0 [110, 101, 119])) = B
  have sB : B.shown = [(fN, 0), (gN, 1)] := by rw [← hB]; exact sA
  have cB : Calm B := by rw [← hB]; exact ⟨cA.plan, cA.off, cA.ticked.since⟩
  have tB0 : B.things 0 = ⟨b0, b, chgs done⟩ := by rw [← hB]; exact tA0
  have fB : B.safe = [(fN, 0)] := by rw [← hB]; exact fA
  have lB : B.look gN = 0 := by rw [cB.look, sB]; decide
  have oB : B.of gN = 1 := by unfold AD.of; rw [sB]; decide
  have e3 : B.sync gN = (0, B.ticked.setThing 1 (B.things 1).settle) := by
    unfold AD.sync
    rw [lB, oB]
    simp only [ne_eq, not_true, if_false]
    rw [cB.stroke, if_pos rfl]
    rfl
  rw [e3]
  simp only
  generalize hC : B.ticked.setThing 1 (B.things 1).settle = C
  have sC : C.shown = [(fN, 0), (gN, 1)] := by rw [← hC]; exact sB
  have cC : Calm C := by rw [← hC]; exact ⟨cB.plan, cB.off, cB.ticked.since⟩
  have tC0 : C.things 0 = ⟨b0, b, chgs done⟩ := by rw [← hC]; exact tB0
  have fC : C.safe = [(fN, 0)] := by rw [← hC]; exact fB
  have gC : alGet C.shown gN = some 1 := by rw [sC]; decide
  have e4 : C.rename gN fN = (0, C.ticked.turned (.give gN fN)) := by
    unfold AD.rename
    rw [cC.off, gC]
    simp only [Bool.false_eq_true, if_false]
    rw [if_neg (by decide)]
    show C.stroke 0 0 _ = _
    rw [cC.stroke, if_pos rfl, if_neg (by decide)]
  rw [e4]
  exact ⟨trivial, trivial, trivial, rfl, fC, by show (C.things 0).safe = _; rw [tC0], by show (C.things 0).row = _; rw [tC0]⟩
/-- The beginning. -/
theorem torn_new (b0 : Bytes) (hl : b0.length ≤ 1000000) :
    ((AD.new 1048576).create fN).1 = 0 ∧ (((AD.new 1048576).create fN).2.append fN b0).1 = 0 ∧ ((((AD.new 1048576).create fN).2.append fN b0).2.sync fN).1 = 0 ∧
      ((((AD.new 1048576).create fN).2.append fN b0).2.sync fN).2.syncNames.1 = 0 ∧ Calm ((((AD.new 1048576).create fN).2.append fN b0).2.sync fN).2.syncNames.2 ∧ Torn ((((AD.new 1048576).create fN).2.append fN b0).2.sync fN).2.syncNames.2 b0 [] b0 := by
  have e1 : (AD.new 1048576).create fN = (0, (AD.new 1048576).ticked.made fN) := by
    unfold AD.create
    rw [show (AD.new 1048576).look fN = 53 by decide, if_neg (by decide), if_pos rfl, (calm_new _).stroke]; rfl
  rw [e1]
  simp only
  generalize hA : (AD.new 1048576).ticked.made fN = A
  have sA : A.shown = [(fN, 0)] := by rw [← hA]; rfl
  have cA : Calm A := by rw [← hA]; exact ⟨rfl, rfl, by decide⟩
  have tA : A.things 0 = Thg.empty := by rw [← hA]; rfl
  have rA : A.room = 1048576 := by rw [← hA]; rfl
  have nA : A.next = 1 := by rw [← hA]; rfl
  have lA : A.look fN = 0 := by rw [cA.look, sA]; decide
  have oA : A.of fN = 0 := by unfold AD.of; rw [sA]; decide
  have bA : A.bytes fN = [] := by unfold AD.bytes; rw [oA, tA]; rfl
  have uA : A.used = 0 := by unfold AD.used; rw [sA]; simp [tA, Thg.empty]
  have e2 : A.append fN b0 = (0, A.ticked.setThing 0 ((A.things 0).add (.wr 0 b0))) := by
    unfold AD.append AD.writeAt
    rw [lA, bA, uA, rA, oA]
    simp only [ne_eq, not_true, if_false]
    rw [if_neg (by simp), if_neg (by simp; omega), cA.stroke, if_pos rfl]
    rfl
  rw [e2]
  simp only
  generalize hB : A.ticked.setThing 0 ((A.things 0).add (.wr 0 b0)) = B
  have sB : B.shown = [(fN, 0)] := by rw [← hB]; exact sA
  have cB : Calm B := by rw [← hB]; exact ⟨cA.plan, cA.off, cA.ticked.since⟩
  have tB : (B.things 0).shown = b0 := by
    rw [← hB]
    show ((A.things 0).add (.wr 0 b0)).shown = b0
    rw [tA]
    show (Chg.wr 0 b0).made [] b0.length = b0
    rw [ovr_made (Nat.zero_le _) (Nat.le_refl _)]
    simp [ovr]
  have rB : B.room = 1048576 := by rw [← hB]; exact rA
  have nB : B.next = 1 := by rw [← hB]; exact nA
  have lB : B.look fN = 0 := by rw [cB.look, sB]; decide
  have oB : B.of fN = 0 := by unfold AD.of; rw [sB]; decide
  have e3 : B.sync fN = (0, B.ticked.setThing 0 (B.things 0).settle) := by
    unfold AD.sync
    rw [lB, oB]
    simp only [ne_eq, not_true, if_false]
    rw [cB.stroke, if_pos rfl]
    rfl
  rw [e3]
  simp only
  generalize hC : B.ticked.setThing 0 (B.things 0).settle = C
  have sC : C.shown = [(fN, 0)] := by rw [← hC]; exact sB
  have cC : Calm C := by rw [← hC]; exact ⟨cB.plan, cB.off, cB.ticked.since⟩
  have tC : C.things 0 = ⟨b0, b0, []⟩ := by
    rw [← hC]
    show (B.things 0).settle = _
    unfold Thg.settle
    rw [tB]
  have rC : C.room = 1048576 := by rw [← hC]; exact rB
  have nC : C.next = 1 := by rw [← hC]; exact nB
  rw [syncNames_calm cC]
  refine ⟨trivial, trivial, trivial, rfl, ⟨cC.plan, cC.off, cC.ticked.since⟩, ⟨sC, sC, rfl, nC, rC, ?_, cC.ticked.since, tC⟩⟩
  show C.plan.from_ = 0 ∧ C.plan.to_ = 0
  rw [cC.plan]; exact ⟨rfl, rfl⟩
theorem Torn.plans {S : AD} {b0 b : Bytes} {done : List WrA} (h : Torn S b0 done b) (off : Int) : Torn (S.plans ⟨off, 0, 0⟩) b0 done b := by
  unfold AD.plans
  split
  · exact h
  · exact ⟨h.shown, h.safe, h.row, h.next, h.room, ⟨rfl, rfl⟩, Int.le_refl _, h.thing⟩
theorem plans_off {S : AD} (p : PlanA) : (S.plans p).off = S.off := by
  unfold AD.plans
  split <;> rfl
theorem plans_calm {S : AD} (ho : S.off = false) : Calm (S.plans .zero) := by
  unfold AD.plans
  rw [ho]
  exact ⟨rfl, rfl, Int.le_refl _⟩
end Go.Proofs.XDisk
