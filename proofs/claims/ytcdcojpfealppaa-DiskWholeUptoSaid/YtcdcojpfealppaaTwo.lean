/- Two disks at once, and what else the walk keeps. -/
import Derived.Test.YtcdcojpfealppaaKnown
import Derived.Test.YtcdcojpfealppaaShelf
set_option linter.unusedVariables false
set_option linter.unusedSimpArgs false
set_option maxRecDepth 100000
namespace Go.Proofs.Ytcdcojpfealppaa
open Go Go.Proofs Go.RowKit Go.Proofs.XRed Go.Proofs.XHeap Go.Proofs.XMaps Go.Proofs.XSlices Go.Proofs.XDisk Go.Proofs.XCalls Go.Proofs.XRange Go.Proofs.XKeys
/-- One disk in the call's own memory; the blocks K are not its own. -/
structure One (W w : World) (D : Nat) (A : AD) (K : Nat → Prop) (O I : Nat → Prop) (L : Lay) : Prop where
  rep : DRep w D A O I L
  low : ∀ b, O b → W.heap.size ≤ b
  keep : ∀ b, K b → ¬ O b ∧ ¬ I b
  klt : ∀ b, K b → b < w.heap.size
  fr : Fr no W w
/-- Two disks. -/
structure Two (W w : World) (D Dt : Nat) (A B : AD) (K : Nat → Prop) (O I O2 I2 : Nat → Prop) (L L2 : Lay) : Prop where
  one : One W w D A K O I L
  two : One W w Dt B K O2 I2 L2
  ab : ∀ b, O b → ¬ O2 b ∧ ¬ I2 b
  ba : ∀ b, O2 b → ¬ O b ∧ ¬ I b
def Is1 (W w : World) (D : Nat) (A : AD) (K : Nat → Prop) : Prop := ∃ O I L, One W w D A K O I L
def Is2 (W w : World) (D Dt : Nat) (A B : AD) (K : Nat → Prop) : Prop := ∃ O I O2 I2 L L2, Two W w D Dt A B K O I O2 I2 L L2
theorem fr_up {O : Nat → Prop} {W w w' : World} (h : Fr no W w) (k : Fr O w w') (ho : ∀ b, O b → W.heap.size ≤ b) : Fr no W w' :=
  h.trans k fun b hb => .inr (ho b hb)
section
variable {W w w' : World} {D Dt : Nat} {A B A' B' : AD} {K K' O I O2 I2 O' I' : Nat → Prop} {L L2 L' : Lay}
theorem One.next (h : One W w D A K O I L) (hx : Nx w D O I w' A' O' I' L') : One W w' D A' K O' I' L' where
  rep := hx.rep
  low := fun b hb => (hx.on b hb).elim (h.low b) (Nat.le_trans h.fr.size)
  keep := fun b hb => ⟨fun ho => (hx.on b ho).elim (h.keep b hb).1 fun h' => absurd (h.klt b hb) (by omega), fun ho => (hx.in_ b ho).elim (h.keep b hb).2 fun h' => absurd (h.klt b hb) (by omega)⟩
  klt := fun b hb => Nat.lt_of_lt_of_le (h.klt b hb) hx.fr.size
  fr := fr_up h.fr hx.fr h.low
theorem One.kept (h : One W w D A K O I L) (hx : Nx w D O I w' A' O' I' L') : Fr (fun b => ¬ K b) w w' :=
  hx.fr.mono fun b hb => .inl fun hk => (h.keep b hk).1 hb
/-- Other blocks are written. -/
theorem One.by' {M : Nat → Prop} (h : One W w D A K O I L) (hf : Fr M w w') (hm : ∀ b, M b → ¬ O b ∧ ¬ I b) (hM : ∀ b, M b → W.heap.size ≤ b) (hK : ∀ b, K' b → K b ∨ w.heap.size ≤ b) (hl : ∀ b, K' b → b < w'.heap.size) : One W w' D A K' O I L where
  rep := h.rep.fr hf hm
  low := h.low
  keep := fun b hb => (hK b hb).elim (h.keep b) fun h' => ⟨fun ho => absurd (h.rep.lt b (.inl ho)) (by omega), fun ho => absurd (h.rep.lt b (.inr ho)) (by omega)⟩
  klt := hl
  fr := fr_up h.fr hf hM
theorem One.is1 (h : One W w D A K O I L) (hx : Nx w D O I w' A' O' I' L') : Is1 W w' D A' K ∧ Fr (fun b => ¬ K b) w w' := ⟨⟨O', I', L', h.next hx⟩, h.kept hx⟩
theorem Is1.new {w1 : World} (hf0 : Fr no W w) (h : DRep w1 (w.heap.size + 2) A (fun b => w.heap.size ≤ b ∧ b < w1.heap.size) no L) (hf : Fr no w w1) : Is1 W w1 (w.heap.size + 2) A no :=
  ⟨_, _, _, h, fun b hb => Nat.le_trans hf0.size hb.1, fun b hb => hb.elim, fun b hb => hb.elim, fr_up hf0 hf fun b hb => hb.elim⟩
theorem Is1.quiet (h : Is1 W w D A K) (hf : Fr no w w') : Is1 W w' D A K := by
  obtain ⟨O, I, L, h1⟩ := h
  exact ⟨O, I, L, h1.by' hf (fun b hb => hb.elim) (fun b hb => hb.elim) (fun b => .inl) fun b hb => Nat.lt_of_lt_of_le (h1.klt b hb) hf.size⟩
theorem Is1.base (h : Is1 W w D A K) : Fr no W w := by obtain ⟨O, I, L, h1⟩ := h; exact h1.fr
/-- The caller writes its own blocks K; K' it holds behind that. -/
theorem Is1.own (h : Is1 W w D A K) (hf : Fr K w w') (hM : ∀ b, K b → W.heap.size ≤ b) (hK : ∀ b, K' b → K b ∨ w.heap.size ≤ b) (hl : ∀ b, K' b → b < w'.heap.size) : Is1 W w' D A K' := by
  obtain ⟨O, I, L, h1⟩ := h
  exact ⟨O, I, L, h1.by' hf h1.keep hM hK hl⟩
theorem Is1.less (h : Is1 W w D A K) (hK : ∀ b, K' b → K b) : Is1 W w D A K' := by
  obtain ⟨O, I, L, h1⟩ := h
  exact ⟨O, I, L, h1.rep, h1.low, fun b hb => h1.keep b (hK b hb), fun b hb => h1.klt b (hK b hb), h1.fr⟩
theorem Is2.base (h : Is2 W w D Dt A B K) : Fr no W w := by obtain ⟨O, I, O2, I2, L, L2, h1⟩ := h; exact h1.one.fr
theorem Is2.klt (h : Is2 W w D Dt A B K) : ∀ b, K b → b < w.heap.size := by obtain ⟨O, I, O2, I2, L, L2, h1⟩ := h; exact h1.one.klt
theorem Is2.left (h : Is2 W w D Dt A B K) : Is1 W w D A K := by
  obtain ⟨O, I, O2, I2, L, L2, h1⟩ := h
  exact ⟨O, I, L, h1.one⟩
theorem Is2.swap (h : Is2 W w D Dt A B K) : Is2 W w Dt D B A K := by
  obtain ⟨O, I, O2, I2, L, L2, h1⟩ := h
  exact ⟨O2, I2, O, I, L2, L, h1.two, h1.one, h1.ba, h1.ab⟩
theorem Is2.own (h : Is2 W w D Dt A B K) (hf : Fr K w w') (hM : ∀ b, K b → W.heap.size ≤ b) (hK : ∀ b, K' b → K b ∨ w.heap.size ≤ b) (hl : ∀ b, K' b → b < w'.heap.size) : Is2 W w' D Dt A B K' := by
  obtain ⟨O, I, O2, I2, L, L2, h1⟩ := h
  exact ⟨O, I, O2, I2, L, L2, h1.one.by' hf h1.one.keep hM hK hl, h1.two.by' hf h1.two.keep hM hK hl, h1.ab, h1.ba⟩
theorem Is2.quiet (h : Is2 W w D Dt A B K) (hf : Fr no w w') : Is2 W w' D Dt A B K := by
  obtain ⟨O, I, O2, I2, L, L2, h1⟩ := h
  exact ⟨O, I, O2, I2, L, L2, h1.one.by' hf (fun b hb => hb.elim) (fun b hb => hb.elim) (fun b => .inl) fun b hb => Nat.lt_of_lt_of_le (h1.one.klt b hb) hf.size,
    h1.two.by' hf (fun b hb => hb.elim) (fun b hb => hb.elim) (fun b => .inl) fun b hb => Nat.lt_of_lt_of_le (h1.two.klt b hb) hf.size, h1.ab, h1.ba⟩
theorem Two.next (h1 : Two W w D Dt A B K O I O2 I2 L L2) (hx : Nx w D O I w' A' O' I' L') : Is2 W w' D Dt A' B K ∧ Fr (fun b => ¬ K b) w w' := by
  refine ⟨⟨O', I', O2, I2, L', L2, h1.one.next hx, ?_, ?_, ?_⟩, h1.one.kept hx⟩
  · exact h1.two.by' hx.fr h1.ab h1.one.low (fun b => .inl) fun b hb => Nat.lt_of_lt_of_le (h1.two.klt b hb) hx.fr.size
  · intro b hb
    rcases hx.on b hb with h' | h'
    · exact h1.ab b h'
    · exact ⟨fun h2 => absurd (h1.two.rep.lt b (.inl h2)) (by omega), fun h2 => absurd (h1.two.rep.lt b (.inr h2)) (by omega)⟩
  · intro b hb
    have hlt := h1.two.rep.lt b (.inl hb)
    refine ⟨fun h2 => ?_, fun h2 => ?_⟩
    · rcases hx.on b h2 with h' | h'
      · exact (h1.ba b hb).1 h'
      · omega
    · rcases hx.in_ b h2 with h' | h'
      · exact (h1.ba b hb).2 h'
      · omega
theorem Two.swap (h1 : Two W w D Dt A B K O I O2 I2 L L2) : Two W w Dt D B A K O2 I2 O I L2 L := ⟨h1.two, h1.one, h1.ba, h1.ab⟩
theorem Two.next2 (h1 : Two W w D Dt A B K O I O2 I2 L L2) (hx : Nx w Dt O2 I2 w' B' O' I' L') : Is2 W w' D Dt A B' K ∧ Fr (fun b => ¬ K b) w w' :=
  ⟨(h1.swap.next hx).1.swap, (h1.swap.next hx).2⟩
/-- The second disk is made. -/
theorem Is2.new {w1 : World} (h : Is1 W w D A no) (hn : DRep w1 (w.heap.size + 2) B (fun b => w.heap.size ≤ b ∧ b < w1.heap.size) no L) (hf : Fr no w w1) : Is2 W w1 D (w.heap.size + 2) A B no := by
  obtain ⟨O, I, L1, h1⟩ := h
  refine ⟨O, I, _, _, L1, L, h1.by' hf (fun b hb => hb.elim) (fun b hb => hb.elim) (fun b => .inl) (fun b hb => hb.elim), ⟨hn, fun b hb => Nat.le_trans h1.fr.size hb.1, fun b hb => hb.elim, fun b hb => hb.elim, fr_up h1.fr hf fun b hb => hb.elim⟩, ?_, ?_⟩
  · intro b hb
    have := h1.rep.lt b (.inl hb)
    exact ⟨fun h' => by have := h'.1; omega, fun h' => h'.elim⟩
  · intro b hb
    exact ⟨fun h' => by have := h1.rep.lt b (.inl h'); have := hb.1; omega, fun h' => by have := h1.rep.lt b (.inr h'); have := hb.1; omega⟩
end
theorem small_name {n : ByteArray} (h : n.size ≤ maxLen) : n.size ≤ 9223372036854775807 := by unfold maxLen at h; omega
/-- What came in is as it was. -/
theorem came {W w : World} {x : Value} {size m : Nat} {cs : List Value} (h : Src W x size m cs) (hs : 0 < size) (hf : Fr no W w) : Src w x size m cs := h.fr hs hf fun _ _ h => h
end Go.Proofs.Ytcdcojpfealppaa
