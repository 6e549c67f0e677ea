/- The plain law of DiskSees. -/
import Derived.Test.YtcdcojpfealppaaXSafe
set_option linter.unusedVariables false
set_option linter.unusedSimpArgs false
namespace Go.Proofs.XDisk
open Go.Proofs.XMaps
/-- The disk S, of which R is told. -/
def AD.tells (S : AD) (R : List SpanA) : AD := { S with reads := R }
theorem ordered_at {l : Names} (h : Ordered l) {i : Nat} (hi : i + 1 < l.length) : blt (l[i]'(by omega)).1 l[i + 1].1 = true := (List.pairwise_iff_getElem.1 h) i (i + 1) (by omega) hi (by omega)
theorem tells_look {S : AD} {R : List SpanA} (n : ByteArray) : (S.tells R).look n = S.look n := rfl
theorem look_shown {S : AD} (ho : S.off = false) (hn : (alKeys S.shown).Nodup) {p : ByteArray × Nat} (hp : p ∈ S.shown) (hnm : isName p.1 = true) : S.look p.1 = 0 ∧ S.of p.1 = p.2 := by
  have hg : alGet S.shown p.1 = some p.2 := alGet_mem hn hp
  refine ⟨?_, by unfold AD.of; rw [hg]; rfl⟩
  unfold AD.look
  rw [ho, hnm, hg]; rfl
/-- Do so many bytes from there lie in it? -/
def fits (a n : Int) (len : Nat) : Prop := 0 ≤ a ∧ 0 ≤ n ∧ a ≤ len ∧ n ≤ len - a
instance (a n : Int) (len : Nat) : Decidable (fits a n len) := by unfold fits; infer_instance
theorem read_shown {S : AD} {R : List SpanA} (ho : S.off = false) (hn : (alKeys S.shown).Nodup) {p : ByteArray × Nat} (hp : p ∈ S.shown) (hnm : isName p.1 = true) (a n : Int) :
    (S.tells R).read p.1 a n = if fits a n (S.things p.2).shown.length then (0, ((S.things p.2).shown.drop a.toNat).take n.toNat, S.tells (R ++ [⟨p.1, a, n⟩])) else (54, [], S.tells R) := by
  obtain ⟨hl, ho'⟩ := look_shown ho hn hp hnm
  have hb : (S.tells R).bytes p.1 = (S.things p.2).shown := by
    show (S.things (S.of p.1)).shown = _
    rw [ho']
  unfold AD.read
  rw [tells_look, hl, if_neg (by simp), hb]
  by_cases h : fits a n (S.things p.2).shown.length
  · rw [if_pos h, if_neg (by unfold fits at h; omega)]; rfl
  · rw [if_neg h, if_pos (by unfold fits at h; omega)]
/-- The spans that reading each of these names tells. -/
def wantOf (S : AD) (a n : Int) (l : Names) : List SpanA := (l.filter fun p => decide (fits a n (S.things p.2).shown.length)).map fun p => ⟨p.1, a, n⟩
end Go.Proofs.XDisk
