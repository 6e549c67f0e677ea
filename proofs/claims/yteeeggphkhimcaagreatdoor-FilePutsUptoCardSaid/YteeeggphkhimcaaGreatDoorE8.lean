/- Put together by a program (wip/tools/shake.py): XSep,XKeys,XRange,Turns,Rename,Stroke. -/
import Derived.Test.YteeeggphkhimcaaGreatDoorE2
import Derived.Test.YteeeggphkhimcaaGreatDoorE3
import Derived.Maps.Own
import Derived.StringKeys
import Derived.WideShapes
import Derived.Sort.KeysCollected
import Derived.Maps.RangeRun
import Derived.Test.YteeeggphkhimcaaGreatDoorE5
set_option linter.unusedVariables false
namespace Go.Proofs.XSep
open Go Go.RowKit Go.Proofs.XRed Go.Proofs.XHeap
abbrev Blks := Nat → Prop
structure Asrt where
 h : World → Blks → Blks → Prop
 fr : ∀ {w w':World} {O I M:Blks},h w O I → Fr M w w' → (∀ b,M b → ¬ O b ∧ ¬ I b) → h w' O I
 lt : ∀ {w:World} {O I:Blks},h w O I → ∀ b,O b ∨ I b → b < w.heap.size
 ap : ∀ {w:World} {O I:Blks},h w O I → ∀ b,O b → ¬ I b
structure Nxt (w:World) (O J:Blks) (w':World) (O' I':Blks) : Prop where
 fr : Fr O w w'
 on : ∀ b,O' b → O b ∨ w.heap.size ≤ b
 in_ : ∀ b,I' b → J b ∨ w.heap.size ≤ b
def Apart (O1 I1 O2 I2:Blks) : Prop := (∀ b,O1 b → ¬ O2 b ∧ ¬ I2 b) ∧ ∀ b,O2 b → ¬ O1 b ∧ ¬ I1 b
def Seps : List Asrt → World → Blks → Blks → Prop
 | [],_,O,I => (∀ b,¬ O b) ∧ ∀ b,¬ I b
 | a :: l,w,O,I => ∃ O1 I1 O2 I2,a.h w O1 I1 ∧ Seps l w O2 I2 ∧ Apart O1 I1 O2 I2 ∧ (∀ b,O b ↔ O1 b ∨ O2 b) ∧ ∀ b,I b ↔ I1 b ∨ I2 b
def Sep (l:List Asrt) (w:World) : Prop := ∃ O I,Seps l w O I
theorem Seps.fr {w w':World} {M:Blks} (hf:Fr M w w') : ∀ {l:List Asrt} {O I:Blks},Seps l w O I → (∀ b,M b → ¬ O b ∧ ¬ I b) → Seps l w' O I
  | [],_,_,h,_ => h
  | a :: l,O,I,⟨O1,I1,O2,I2,h1,h2,h3,h4,h5⟩,hm => ⟨O1,I1,O2,I2,a.fr h1 hf fun b hb => ⟨fun h => (hm b hb).1 ((h4 b).2 (.inl h)),fun h => (hm b hb).2 ((h5 b).2 (.inl h))⟩,
      Seps.fr hf h2 (fun b hb => ⟨fun h => (hm b hb).1 ((h4 b).2 (.inr h)),fun h => (hm b hb).2 ((h5 b).2 (.inr h))⟩),h3,h4,h5⟩
theorem Seps.lt {w:World} : ∀ {l:List Asrt} {O I:Blks},Seps l w O I → ∀ b,O b ∨ I b → b < w.heap.size
 | [],_,_,h,b,hb => hb.elim (fun h' => absurd h' (h.1 b)) fun h' => absurd h' (h.2 b)
 | a :: l,O,I,⟨O1,I1,O2,I2,h1,h2,h3,h4,h5⟩,b,hb => by
  rcases hb with hb | hb
  ·exact ((h4 b).1 hb).elim (fun h => a.lt h1 b (.inl h)) fun h => Seps.lt h2 b (.inl h)
  ·exact ((h5 b).1 hb).elim (fun h => a.lt h1 b (.inr h)) fun h => Seps.lt h2 b (.inr h)
theorem Seps.ap {w:World} : ∀ {l:List Asrt} {O I:Blks},Seps l w O I → ∀ b,O b → ¬ I b
 | [],_,_,h,b,hb => absurd hb (h.1 b)
 | a :: l,O,I,⟨O1,I1,O2,I2,h1,h2,h3,h4,h5⟩,b,hb => fun hi => by
  rcases (h4 b).1 hb with h | h <;> rcases (h5 b).1 hi with k | k
  ·exact a.ap h1 b h k
  ·exact (h3.1 b h).2 k
  ·exact (h3.2 b h).2 k
  ·exact Seps.ap h2 b h k
theorem Seps.at_ {w:World} {J:Blks} {a:Asrt} : ∀ {l:List Asrt} {i:Nat} {O I:Blks},Seps l w O I → (∀ b,O b → ¬ J b) → l[i]? = some a →
    ∃ O1 I1,a.h w O1 I1 ∧ (∀ b,O1 b → O b) ∧ (∀ b,I1 b → I b) ∧ ∀ c w' O' I',c.h w' O' I' → Nxt w O1 J w' O' I' → ∃ O2 I2,Seps (l.set i c) w' O2 I2 ∧ Fr O w w' ∧ (∀ b,O2 b → O b ∨ w.heap.size ≤ b) ∧ ∀ b,I2 b → I b ∨ J b ∨ w.heap.size ≤ b
  | [],_,_,_,_,_,h => by simp at h
  | x :: l,0,O,I,⟨O1,I1,O2,I2,h1,h2,h3,h4,h5⟩,hJ,hi => by
    simp at hi; subst hi
    refine ⟨O1,I1,h1,fun b hb => (h4 b).2 (.inl hb),fun b hb => (h5 b).2 (.inl hb),fun c w' O' I' hc hn => ?_⟩
    refine ⟨fun b => O' b ∨ O2 b,fun b => I' b ∨ I2 b,⟨O',I',O2,I2,hc,Seps.fr hn.fr h2 h3.1,⟨fun b hb => ?_,fun b hb => ?_⟩,fun _ => Iff.rfl,fun _ => Iff.rfl⟩,?_,?_,?_⟩
    · rcases hn.on b hb with h | h
      · exact h3.1 b h
      · exact ⟨fun h' => absurd (h2.lt b (.inl h')) (by omega),fun h' => absurd (h2.lt b (.inr h')) (by omega)⟩
    · have hlt := h2.lt b (.inl hb)
      refine ⟨fun h => ?_,fun h => ?_⟩
      · rcases hn.on b h with h | h
        · exact (h3.1 b h).1 hb
        · omega
      · rcases hn.in_ b h with h | h
        · exact hJ b ((h4 b).2 (.inr hb)) h
        · omega
    · exact hn.fr.mono fun b hb => .inl ((h4 b).2 (.inl hb))
    · rintro b (hb | hb)
      · exact (hn.on b hb).imp (fun h => (h4 b).2 (.inl h)) id
      · exact .inl ((h4 b).2 (.inr hb))
    · rintro b (hb | hb)
      · exact .inr (hn.in_ b hb)
      · exact .inl ((h5 b).2 (.inr hb))
  | x :: l,i + 1,O,I,⟨O1,I1,O2,I2,h1,h2,h3,h4,h5⟩,hJ,hi => by
    obtain ⟨Oa,Ia,ha,ho,hi2,hs⟩ := Seps.at_ (J := J) (i := i) h2 (fun b hb => hJ b ((h4 b).2 (.inr hb))) (by simpa using hi)
    refine ⟨Oa,Ia,ha,fun b hb => (h4 b).2 (.inr (ho b hb)),fun b hb => (h5 b).2 (.inr (hi2 b hb)),fun c w' O' I' hc hn => ?_⟩
    obtain ⟨O3,I3,hs3,hf,hon,hin⟩ := hs c w' O' I' hc hn
    refine ⟨fun b => O1 b ∨ O3 b,fun b => I1 b ∨ I3 b,⟨O1,I1,O3,I3,x.fr h1 hf h3.2,hs3,⟨fun b hb => ?_,fun b hb => ?_⟩,fun _ => Iff.rfl,fun _ => Iff.rfl⟩,?_,?_,?_⟩
    · have hlt := x.lt h1 b (.inl hb)
      refine ⟨fun h => ?_,fun h => ?_⟩
      · rcases hon b h with h | h
        · exact (h3.1 b hb).1 h
        · omega
      · rcases hin b h with h | h | h
        · exact (h3.1 b hb).2 h
        · exact hJ b ((h4 b).2 (.inl hb)) h
        · omega
    · rcases hon b hb with h | h
      · exact h3.2 b h
      · exact ⟨fun h' => absurd (x.lt h1 b (.inl h')) (by omega),fun h' => absurd (x.lt h1 b (.inr h')) (by omega)⟩
    · exact hf.mono fun b hb => .inl ((h4 b).2 (.inr hb))
    · rintro b (hb | hb)
      · exact .inl ((h4 b).2 (.inl hb))
      · exact (hon b hb).imp (fun h => (h4 b).2 (.inr h)) id
    · rintro b (hb | hb)
      · exact .inl ((h5 b).2 (.inl hb))
      · rcases hin b hb with h | h
        · exact .inl ((h5 b).2 (.inr h))
        · exact .inr h
theorem Sep.at_ {l:List Asrt} {w:World} (h:Sep l w) (i:Nat) {a:Asrt} (hi:l[i]? = some a) :
    ∃ O I J,a.h w O I ∧ (∀ b,I b → J b) ∧ (∀ b,O b → ¬ J b) ∧ ∀ c w' O' I',c.h w' O' I' → Nxt w O J w' O' I' → Sep (l.set i c) w' := by
  obtain ⟨O,I,hs⟩ := h
  obtain ⟨O1,I1,h1,h2,h3,h4⟩ := hs.at_ (J := I) hs.ap hi
  refine ⟨O1,I1,I,h1,h3,fun b hb => hs.ap b (h2 b hb),fun c w' O' I' hc hn => ?_⟩
  obtain ⟨O2,I2,h5,-⟩ := h4 c w' O' I' hc hn
  exact ⟨O2,I2,h5⟩
theorem Sep.get {l:List Asrt} {w:World} (h:Sep l w) (i:Nat) {a:Asrt} (hi:l[i]? = some a) : ∃ O I,a.h w O I := by
 obtain ⟨O,I,J,h,-⟩ := h.at_ i hi; exact ⟨O,I,h⟩
theorem Sep.quiet {l:List Asrt} {w w':World} {M:Blks} (h:Sep l w) (hf:Fr M w w') (hm:∀ b,M b → w.heap.size ≤ b) : Sep l w' := by
 obtain ⟨O,I,hs⟩ := h
 exact ⟨O,I,hs.fr hf fun b hb => ⟨fun h' => absurd (hs.lt b (.inl h')) (by have := hm b hb; omega),fun h' => absurd (hs.lt b (.inr h')) (by have := hm b hb; omega)⟩⟩
theorem Sep.q {l:List Asrt} {w w':World} (h:Sep l w) (hf:Fr (fun _ => False) w w') : Sep l w' := h.quiet hf fun b hb => hb.elim
theorem Sep.new {l:List Asrt} {w w':World} {M:Blks} {a:Asrt} {O' I':Blks} (h:Sep l w) (hf:Fr M w w') (hm:∀ b,M b → w.heap.size ≤ b) (ha:a.h w' O' I') (ho:∀ b,O' b → w.heap.size ≤ b) (hi:∀ b,I' b → w.heap.size ≤ b) : Sep (a :: l) w' := by
 obtain ⟨O,I,hs⟩ := h
 refine ⟨_,_,O',I',O,I,ha,hs.fr hf fun b hb => ⟨fun h' => absurd (hs.lt b (.inl h')) (by have := hm b hb; omega),fun h' => absurd (hs.lt b (.inr h')) (by have := hm b hb; omega)⟩,⟨fun b hb => ?_,fun b hb => ?_⟩,fun _ => Iff.rfl,fun _ => Iff.rfl⟩
 ·have := ho b hb
  exact ⟨fun h' => absurd (hs.lt b (.inl h')) (by omega),fun h' => absurd (hs.lt b (.inr h')) (by omega)⟩
 ·have := hs.lt b (.inl hb)
  exact ⟨fun h' => absurd (ho b h') (by omega),fun h' => absurd (hi b h') (by omega)⟩
theorem Seps.perm {w:World} {l l':List Asrt} (hp:l.Perm l') : ∀ {O I:Blks},Seps l w O I → Seps l' w O I := by
 induction hp with
 | nil => exact fun h => h
 | cons a _ ih => exact fun ⟨O1,I1,O2,I2,h1,h2,h3⟩ => ⟨O1,I1,O2,I2,h1,ih h2,h3⟩
 | trans _ _ ih1 ih2 => exact fun h => ih2 (ih1 h)
 | swap a b l =>
  rintro O I ⟨O1,I1,O2,I2,h1,⟨O3,I3,O4,I4,k1,k2,k3,k4,k5⟩,h3,h4,h5⟩
  refine ⟨O3,I3,fun b => O1 b ∨ O4 b,fun b => I1 b ∨ I4 b,k1,⟨O1,I1,O4,I4,h1,k2,⟨fun b hb => ?_,fun b hb => ?_⟩,fun _ => Iff.rfl,fun _ => Iff.rfl⟩,⟨fun b hb => ?_,fun b hb => ?_⟩,fun b => ?_,fun b => ?_⟩
  ·exact ⟨fun h => (h3.1 b hb).1 ((k4 b).2 (.inr h)),fun h => (h3.1 b hb).2 ((k5 b).2 (.inr h))⟩
  ·exact h3.2 b ((k4 b).2 (.inr hb))
  ·have e := h3.2 b ((k4 b).2 (.inl hb))
   exact ⟨fun h => h.elim e.1 (k3.1 b hb).1,fun h => h.elim e.2 (k3.1 b hb).2⟩
  ·rcases hb with hb | hb
   ·exact ⟨fun h => (h3.1 b hb).1 ((k4 b).2 (.inl h)),fun h => (h3.1 b hb).2 ((k5 b).2 (.inl h))⟩
   ·exact k3.2 b hb
  ·rw [h4,k4]; exact ⟨fun h => h.elim (fun h => .inr (.inl h)) fun h => h.elim .inl fun h => .inr (.inr h),fun h => h.elim (fun h => .inr (.inl h)) fun h => h.elim .inl fun h => .inr (.inr h)⟩
  ·rw [h5,k5]; exact ⟨fun h => h.elim (fun h => .inr (.inl h)) fun h => h.elim .inl fun h => .inr (.inr h),fun h => h.elim (fun h => .inr (.inl h)) fun h => h.elim .inl fun h => .inr (.inr h)⟩
theorem Sep.perm {w:World} {l l':List Asrt} (h:Sep l w) (hp:l.Perm l') : Sep l' w := by obtain ⟨O,I,h⟩ := h; exact ⟨O,I,h.perm hp⟩
theorem Sep.drop {w:World} {l:List Asrt} {a:Asrt} (h:Sep (a :: l) w) : Sep l w := by obtain ⟨O,I,O1,I1,O2,I2,h1,h2,_⟩ := h; exact ⟨_,_,h2⟩
def star (a b:Asrt) : Asrt where
 h w O I := ∃ O1 I1 O2 I2,a.h w O1 I1 ∧ b.h w O2 I2 ∧ Apart O1 I1 O2 I2 ∧ (∀ b,O b ↔ O1 b ∨ O2 b) ∧ ∀ b,I b ↔ I1 b ∨ I2 b
 fr := fun ⟨O1,I1,O2,I2,h1,h2,h3,h4,h5⟩ hf hm => ⟨O1,I1,O2,I2,a.fr h1 hf fun b hb => ⟨fun h => (hm b hb).1 ((h4 b).2 (.inl h)),fun h => (hm b hb).2 ((h5 b).2 (.inl h))⟩,
  b.fr h2 hf (fun b hb => ⟨fun h => (hm b hb).1 ((h4 b).2 (.inr h)),fun h => (hm b hb).2 ((h5 b).2 (.inr h))⟩),h3,h4,h5⟩
 lt := fun ⟨O1,I1,O2,I2,h1,h2,h3,h4,h5⟩ x hx => by
  rcases hx with hx | hx
  ·exact ((h4 x).1 hx).elim (fun h => a.lt h1 x (.inl h)) fun h => b.lt h2 x (.inl h)
  ·exact ((h5 x).1 hx).elim (fun h => a.lt h1 x (.inr h)) fun h => b.lt h2 x (.inr h)
 ap := fun ⟨O1,I1,O2,I2,h1,h2,h3,h4,h5⟩ x hx hi => by
  rcases (h4 x).1 hx with h | h <;> rcases (h5 x).1 hi with k | k
  ·exact a.ap h1 x h k
  ·exact (h3.1 x h).2 k
  ·exact (h3.2 x h).2 k
  ·exact b.ap h2 x h k
theorem Sep.unstar {w:World} {l:List Asrt} {a b:Asrt} (h:Sep (star a b :: l) w) : Sep (a :: b :: l) w := by
 obtain ⟨O,I,O1,I1,O2,I2,⟨O3,I3,O4,I4,k1,k2,k3,k4,k5⟩,h2,h3,h4,h5⟩ := h
 refine ⟨O,I,O3,I3,fun x => O4 x ∨ O2 x,fun x => I4 x ∨ I2 x,k1,⟨O4,I4,O2,I2,k2,h2,⟨fun x hx => h3.1 x ((k4 x).2 (.inr hx)),fun x hx => ⟨fun h => (h3.2 x hx).1 ((k4 x).2 (.inr h)),fun h => (h3.2 x hx).2 ((k5 x).2 (.inr h))⟩⟩,fun _ => Iff.rfl,fun _ => Iff.rfl⟩,⟨fun x hx => ?_,fun x hx => ?_⟩,fun x => ?_,fun x => ?_⟩
 ·have e := h3.1 x ((k4 x).2 (.inl hx))
  exact ⟨fun h => h.elim (k3.1 x hx).1 e.1,fun h => h.elim (k3.1 x hx).2 e.2⟩
 ·rcases hx with hx | hx
  ·exact k3.2 x hx
  ·exact ⟨fun h => (h3.2 x hx).1 ((k4 x).2 (.inl h)),fun h => (h3.2 x hx).2 ((k5 x).2 (.inl h))⟩
 ·rw [h4,k4]; exact or_assoc
 ·rw [h5,k5]; exact or_assoc
def Base (W:World) : Asrt where
 h w O I := Fr (fun _ => False) W w ∧ (∀ b,¬ O b) ∧ ∀ b,I b ↔ b < W.heap.size
 fr := fun ⟨h1,h2,h3⟩ hf hm => ⟨h1.trans hf fun b hb => .inr (by have := (hm b hb).2; rw [h3] at this; omega),h2,h3⟩
 lt := fun ⟨h1,h2,h3⟩ b hb => hb.elim (fun h => absurd h (h2 b)) fun h => Nat.lt_of_lt_of_le ((h3 b).1 h) h1.size
 ap := fun ⟨h1,h2,h3⟩ b hb => absurd hb (h2 b)
theorem Sep.base (W:World) : Sep [Base W] W :=
 ⟨fun _ => False,fun b => b < W.heap.size,fun _ => False,fun b => b < W.heap.size,fun _ => False,fun _ => False,⟨Fr.refl _ _,fun _ h => h,fun _ => Iff.rfl⟩,⟨fun _ h => h,fun _ h => h⟩,⟨fun b h => h.elim,fun b h => h.elim⟩,fun b => by simp,fun b => by simp⟩
theorem Sep.base_at {W w:World} {l:List Asrt} (h:Sep l w) (i:Nat) (hi:l[i]? = some (Base W)) : Fr (fun _ => False) W w := by
 obtain ⟨O,I,h⟩ := h.get i hi; exact h.1
def Cells (b:Nat) (cs:Array Value) (t:TypeId) : Asrt where
 h w O I := w.heap[b]? = some (.cells cs t (0,0)) ∧ (∀ x,O x ↔ x = b) ∧ ∀ x,¬ I x
 fr := fun ⟨h1,h2,h3⟩ hf hm => ⟨hf.get h1 fun h => (hm b h).1 ((h2 b).2 rfl),h2,h3⟩
 lt := fun ⟨h1,h2,h3⟩ x hx => hx.elim (fun h => (h2 x).1 h ▸ lt_of_get h1) fun h => absurd h (h3 x)
 ap := fun ⟨h1,h2,h3⟩ x _ => h3 x
theorem Sep.cells {w:World} {l:List Asrt} (h:Sep l w) (i:Nat) {b:Nat} {cs:Array Value} {t:TypeId} (hi:l[i]? = some (Cells b cs t)) : w.heap[b]? = some (.cells cs t (0,0)) := by
 obtain ⟨O,I,h,_⟩ := h.get i hi; exact h
theorem Sep.set {w:World} {l:List Asrt} (h:Sep l w) (i:Nat) {b:Nat} {cs:Array Value} {t:TypeId} (hi:l[i]? = some (Cells b cs t)) (j:Nat) (u:Value) : Sep (l.set i (Cells b (cs.setIfInBounds j u) t)) (w.setCell ⟨b,j,none⟩ u) := by
 obtain ⟨O,I,J,⟨h1,h2,h3⟩,-,-,hs⟩ := h.at_ i hi
 exact hs _ _ O I ⟨set_same h1 j u,h2,h3⟩ ⟨(Fr.setCell w ⟨b,j,none⟩ u).mono fun x hx => .inl ((h2 x).2 hx),fun x => .inl,fun x hx => absurd hx (h3 x)⟩
theorem Sep.cell {w:World} {l:List Asrt} (h:Sep l w) (cs:Array Value) (t:TypeId) : Sep (Cells w.heap.size cs t :: l) (w.alloc (.cells cs t)) :=
 h.new (Fr.alloc (fun _ => False) w _) (fun b hb => hb.elim) (O' := fun x => x = w.heap.size) (I' := fun _ => False) ⟨alloc_new _ _,fun _ => Iff.rfl,fun _ h => h⟩ (fun b hb => by omega) fun b hb => hb.elim
end Go.Proofs.XSep

set_option linter.unusedSimpArgs false
namespace Go.Proofs.XKeys
open Go Go.RowKit Go.Proofs Go.Proofs.XRed Go.Proofs.XHeap Go.Proofs.XMaps Go.Proofs.XDisk Go.WideElems
def R0 : Value → Option (DataW Unit × List MemPlace) := fun _ => some (.nil,[])
theorem owns_of {P:Program} {kt:TypeId} (hk:P.underlying kt = some .string) {w:World} {m:Nat} {l:List (ByteArray × Value)} (h:SMap w m l) (hs:∀ p ∈ l,p.1.size ≤ maxLen) (hl:l.length ≤ maxLen) :
    ∃ D : DataW Unit,w.ownsMap P kt R0 m l.length D ∧ Maps.size D = l.length ∧ (strKeys D).Perm (l.map fun p => p.1.data.toList) := by
  obtain ⟨es,clock,hm,hst,he⟩ := h
  have hlen : es.size = l.length := by have := congrArg List.length he; simpa using this
  have hread : ∀ x ∈ es.toList,∃ s : ByteArray,x.key = .string s ∧ s.size ≤ maxLen ∧ rd P kt R0 x = some (.string s.data.toList,.nil) := by
    intro x hx
    have : (x.key,x.val) ∈ l.map fun p => (Value.string p.1,p.2) := by rw [← he]; exact List.mem_map_of_mem (f := fun e : MapEntry => (e.key,e.val)) hx
    obtain ⟨p,hp,e⟩ := List.mem_map.1 this
    simp only [Prod.mk.injEq] at e
    refine ⟨p.1,e.1.symm,hs p hp,?_⟩
    unfold WideElems.rd
    rw [← e.1,WideMaps.keyOf_string_mk hk (hs p hp)]
    rfl
  refine ⟨.map ((es.toList.map (rg P kt R0)).foldr DataW.insert []),⟨es,clock,hm,⟨by omega,hst,fun x hx => by obtain ⟨s,_,_,h⟩ := hread x hx; exact ⟨_,h⟩⟩,by omega,rfl⟩,?_,?_⟩
  · have := (WideShapes.sorted_perm (es.toList.map (rg P kt R0))).length_eq
    rw [Maps.size_eq,this]; simpa using hlen
  · have h1 := (WideShapes.sorted_perm (es.toList.map (rg P kt R0))).map fun p => strOf p.1
    refine h1.trans ?_
    have : (es.toList.map (rg P kt R0)).map (fun p => strOf p.1) = (es.toList.map fun e => (e.key,e.val)).map fun q => match q.1 with | .string s => s.data.toList | _ => [] := by
      rw [List.map_map,List.map_map]
      refine List.map_congr_left fun x hx => ?_
      obtain ⟨s,h1,_,h2⟩ := hread x hx
      simp only [Function.comp,rg,h2,Option.getD_some,strOf,h1]
    rw [this,he,List.map_map]
    exact .refl _
theorem sorted_keys {l l':Names} (hp:l.Perm l') (ho:Ordered l') {ss:List (List UInt8)} (h:ss.Perm (l.map fun p => p.1.data.toList)) :
    (ss.mergeSort fun x y => decide (x ≤ y)).map encStr = l'.map fun p => Value.string p.1 := by
  have e : ss.mergeSort (fun x y => decide (x ≤ y)) = l'.map fun p => p.1.data.toList := by
    have tr : ∀ a b c : List UInt8,decide (a ≤ b) = true → decide (b ≤ c) = true → decide (a ≤ c) = true := by
      intro a b c h1 h2
      simp only [decide_eq_true_eq] at *
      exact List.le_trans h1 h2
    have to : ∀ a b : List UInt8,(decide (a ≤ b) || decide (b ≤ a)) = true := by
      intro a b
      simp only [Bool.or_eq_true,decide_eq_true_eq]
      exact List.le_total a b
    refine List.Perm.eq_of_pairwise (le := fun a b => decide (a ≤ b) = true) (fun a b _ _ h1 h2 => ?_) (List.pairwise_mergeSort tr to ss) ?_ ((List.mergeSort_perm ss _).trans (h.trans (hp.map _)))
    · simp only [decide_eq_true_eq] at h1 h2
      exact List.le_antisymm h1 h2
    · rw [List.pairwise_map]
      refine ho.imp fun {p q} hpq => ?_
      unfold blt at hpq
      simp only [decide_eq_true_eq] at *
      exact List.le_of_lt hpq
  rw [e,List.map_map]
  rfl
end Go.Proofs.XKeys

namespace Go.Proofs.XRange
open Go Go.RowKit Go.Proofs.XRed Go.Proofs.XHeap Go.Proofs.XMaps Go.MapKept
def kv (p:ByteArray × Value) : Value × Value := (.string p.1,p.2)
def Iter (w:World) (r m:Nat) (l rest:List (ByteArray × Value)) : Prop :=
 ∃ es clock seen since c0,w.heap[r]? = some (.mapIter (some m) since seen c0) ∧ w.heap[m]? = some (.map es clock) ∧ Stamped es clock ∧ (∀ x ∈ es.toList,x.born < since) ∧ since ≤ c0 ∧ since ≤ clock ∧ es.toList.map (fun e => (e.key,e.val)) = l.map kv ∧ (leftOf es seen).toList.map (fun e => (e.key,e.val)) = rest.map kv
theorem Iter.ne {w:World} {r m:Nat} {l rest:List (ByteArray × Value)} (h:Iter w r m l rest) : r ≠ m := by
 obtain ⟨es,clock,seen,since,c0,hr,hm,_⟩ := h
 rintro rfl; rw [hr] at hm; cases hm
section
variable {P:Program} {w:World} {k:KV}
theorem s_range {t kt et:TypeId} {m:Nat} {l:List (ByteArray × Value)} (h:SMap w m l) (ht:P.underlying t = some (.map kt et)) (hk:∀ w',Iter w' w.heap.size m l l → Fr (fun _ => False) w w' → w'.heap.size = w.heap.size + 1 → k (.pointer (some ⟨w.heap.size,0,none⟩)) w') : px P (Instr.range t (.map (some m))) w k := by
 obtain ⟨es,clock,hm,hs,hl⟩ := h
 refine px_ok (run_range_map w t kt et m es clock ht hm) (hk _ ⟨es,clock,#[],clock,clock,alloc_new _ _,alloc_old _ hm,hs,hs.1,Nat.le_refl _,Nat.le_refl _,hl,?_⟩ (Fr.alloc _ _ _) (by simp))
 have : leftOf es #[] = es := by unfold leftOf; simp
 rw [this]; exact hl
theorem s_next {r m:Nat} {ty:TypeId} {l rest:List (ByteArray × Value)} (h:Iter w r m l rest) (h0:rest = [] → k (.tuple #[.bool false]) w)
    (h1:∀ p rest' w',rest.Perm (p :: rest') → Iter w' r m l rest' → Fr (fun b => b = r) w w' → w'.heap.size = w.heap.size → (∀ kk : KV,kk (.tuple #[.string p.1,p.2]) w' → px P (Instr.entry (.pointer (some ⟨r,0,none⟩))) w' kk) → k (.tuple #[.bool true,.string p.1,p.2]) w') :
    px P (Instr.next (.pointer (some ⟨r,0,none⟩)) false ty) w k := by
  have hne := h.ne
  obtain ⟨es,clock,seen,since,c0,hr,hm,hs,hold,hsc,hsk,hl,hrest⟩ := h
  rcases run_next_at (P := P) w ty r m since c0 seen es clock hr hm hold hsc with ⟨hz,hrun⟩ | ⟨e,he,w1,hw1,hrun⟩
  · refine px_ok hrun (h0 ?_)
    have : (leftOf es seen).toList = [] := List.eq_nil_of_length_eq_zero (by simpa using hz)
    rw [this] at hrest
    simp only [List.map_nil] at hrest
    exact List.map_eq_nil_iff.1 hrest.symm
  · have hmem := mem_left he
    -- which of the pairs it is
    have hin : (e.key,e.val) ∈ rest.map kv := by rw [← hrest]; exact List.mem_map_of_mem he
    obtain ⟨p,hp,hpe⟩ := List.mem_map.1 hin
    have hpk : e.key = .string p.1 ∧ e.val = p.2 := by
      have := hpe.symm
      simp only [kv,Prod.mk.injEq] at this
      exact this
    have hw1h : w1.heap = w.heap := by rcases hw1 with rfl | rfl <;> rfl
    have hl1 : r < w1.heap.size := by rw [hw1h]; exact lt_of_get hr
    have hg : (ChangeMaps.setBlock w1 r (.mapIter (some m) since (seen.push e.born) clock)).heap[r]? = some (.mapIter (some m) since (seen.push e.born) clock) := by
      simp [ChangeMaps.setBlock,hl1]
    have f1 : Fr (fun b => b = r) w (ChangeMaps.setBlock w1 r (.mapIter (some m) since (seen.push e.born) clock)) := by
      have f0 : Fr (fun _ => False) w w1 := by rcases hw1 with rfl | rfl; exact Fr.refl _ _; exact Fr.drew _ _
      exact (f0.or (Fr.setBlock w1 r _)).mono fun b hb => hb.elim (fun h => h.elim) .inl
    have hm1 := f1.get hm (fun e => hne e.symm)
    rw [hpk.1,hpk.2] at hrun
    -- the entries that are left
    have hnb : (es.toList.map (·.born)).Nodup := hs.2.1
    have hleft : (leftOf es (seen.push e.born)).toList = (leftOf es seen).toList.filter fun x => !(x.born == e.born) := by
      unfold leftOf
      simp only [Array.toList_filter,List.filter_filter]
      refine List.filter_congr fun x _ => ?_
      rw [contains_push,Bool.not_or,Bool.and_comm]
    have hnl : ((leftOf es seen).toList.map (·.born)).Nodup := by
      unfold leftOf
      rw [Array.toList_filter]
      exact hnb.sublist (List.Sublist.map _ List.filter_sublist)
    have hperm : (leftOf es seen).toList.Perm (e :: (leftOf es (seen.push e.born)).toList) := by
      rw [hleft]
      generalize (leftOf es seen).toList = L at he hnl
      clear hrest hin hleft hrun
      induction L with
      | nil => cases he
      | cons x L ih =>
        simp only [List.map_cons,List.nodup_cons] at hnl
        by_cases hx : x.born = e.born
        · have hxe : x = e := by
            cases he with
            | head => rfl
            | tail _ hm' => exact absurd (List.mem_map_of_mem (f := (·.born)) hm') (by rw [← hx]; exact hnl.1)
          subst hxe
          rw [List.filter_cons_of_neg (by simp)]
          have : L.filter (fun y => !(y.born == x.born)) = L := by
            rw [List.filter_eq_self]
            intro y hy
            have : y.born ≠ x.born := fun h => hnl.1 (by rw [← h]; exact List.mem_map_of_mem hy)
            simp [this]
          rw [this]
        · rw [List.filter_cons_of_pos (by simp [hx])]
          have he' : e ∈ L := by
            cases he with
            | head => exact absurd rfl hx
            | tail _ h => exact h
          exact (List.Perm.cons x (ih he' hnl.2)).trans (List.Perm.swap ..)
    have hperm2 := hperm.map fun e => (e.key,e.val)
    rw [hrest,List.map_cons,hpk.1,hpk.2] at hperm2
    -- .. as pairs
    let back : Value × Value → ByteArray × Value := fun q => (match q.1 with | .string s => s | _ => ByteArray.empty,q.2)
    have hback : ∀ q,back (kv q) = q := fun q => rfl
    have hall : ∀ x ∈ (leftOf es (seen.push e.born)).toList,kv (back (x.key,x.val)) = (x.key,x.val) := by
      intro x hx
      have hx' : x ∈ (leftOf es seen).toList := by rw [hleft] at hx; exact (List.mem_filter.1 hx).1
      have : (x.key,x.val) ∈ rest.map kv := by rw [← hrest]; exact List.mem_map_of_mem (f := fun e : MapEntry => (e.key,e.val)) hx'
      obtain ⟨q,_,hq⟩ := List.mem_map.1 this
      rw [← hq,hback]
    have hr2 : (leftOf es (seen.push e.born)).toList.map (fun e => (e.key,e.val)) = ((leftOf es (seen.push e.born)).toList.map fun e => back (e.key,e.val)).map kv := by
      rw [List.map_map]
      exact List.map_congr_left fun x hx => (hall x hx).symm
    refine px_ok hrun (h1 p ((leftOf es (seen.push e.born)).toList.map fun e => back (e.key,e.val)) _ ?_ ⟨es,clock,seen.push e.born,since,clock,hg,hm1,hs,hold,hsk,hsk,hl,hr2⟩ f1 (by simp [ChangeMaps.setBlock,hw1h]) ?_)
    · have h3 := hperm2.map back
      simp only [List.map_map,List.map_cons] at h3
      have h4 : rest.map (back ∘ kv) = rest := (List.map_congr_left (g := id) (fun q _ => hback q)).trans (List.map_id _)
      rw [h4] at h3
      exact h3
    · intro kk hkk
      have := run_entry_at (P := P) _ r m since seen es clock e hg hm1 hmem.1 hnb
      rw [hpk.1,hpk.2] at this
      exact px_ok this hkk
end
end Go.Proofs.XRange

set_option maxRecDepth 100000
namespace Go.Proofs.YteeeggphkhimcaaGreatDoor
open Go Go.Proofs Go.RowKit Go.Proofs.XRed Go.Proofs.XHeap Go.Proofs.XMaps Go.Proofs.XSlices Go.Proofs.XDisk Go.Proofs.XCalls Tryz
theorem own_obj {w:World} {base size n:Nat} {e:TypeId} {v:Value} {xs:List Value} (h:w.ownsRow base e size v n xs) {b:Nat} (hb:sblk v = some b) : ∃ cur,w.heap[b]? = some (.cells cur e (0,0)) := by
 rcases h.2 with ⟨rfl,_⟩ | ⟨g,cap,cur,rfl,_,hh,_⟩
 ·cases hb
 ·simp only [sblk,Option.some.injEq] at hb
  subst hb; exact ⟨cur,hh⟩
theorem two_types {w:World} {b:Nat} {c c':Array Value} {T T':TypeId} {f f':Nat × Nat} (h:w.heap[b]? = some (.cells c T f)) (h':w.heap[b]? = some (.cells c' T' f')) : T = T' := by
 rw [h] at h'; injection h' with h'; injection h'
theorem SMap.obj {w:World} {m:Nat} {l:List (ByteArray × Value)} (h:SMap w m l) : ∃ es c,w.heap[m]? = some (.map es c) := by obtain ⟨es,c,h,_⟩ := h; exact ⟨es,c,h⟩
section
variable {w:World} {D:Nat} {S:AD} {O I:Nat → Prop} {L:Lay}
def Own (L:Lay) (D b:Nat) : Prop := b = D ∨ b = L.sh ∨ b = L.sf ∨ sblk L.rowv = some b ∨ sblk L.readsv = some b
theorem DRep.own (h:DRep w D S O I L) {b:Nat} (hb:Own L D b) : O b := by
 rcases hb with rfl | rfl | rfl | hb | hb
 ·exact h.oD
 ·exact h.osh
 ·exact h.osf
 ·exact h.orow _ hb
 ·exact h.oreads _ hb
theorem DRep.notT (h:DRep w D S O I L) {b:Nat} (hb:Own L D b) {c:Array Value} {T:TypeId} {f:Nat × Nat} (hT:T = 131 ∨ T = 240 ∨ T = 5) : w.heap[b]? ≠ some (.cells c T f) := by
 intro hc
 have key : ∀ (T':TypeId),T' = 88 ∨ T' = 174 ∨ T' = 209 → T = T' → False := by
  intro T' h1 h2
  subst h2
  rcases hT with rfl | rfl | rfl <;> rcases h1 with h1 | h1 | h1 <;> exact absurd h1 (by decide)
 rcases hb with rfl | rfl | rfl | hb | hb
 ·exact key _ (.inl rfl) (two_types hc h.disk)
 ·obtain ⟨_,_,hm⟩ := SMap.obj h.sh; rw [hm] at hc; cases hc
 ·obtain ⟨_,_,hm⟩ := SMap.obj h.sf; rw [hm] at hc; cases hc
 ·obtain ⟨_,hm⟩ := own_obj h.row hb; exact key _ (.inr (.inl rfl)) (two_types hc hm)
 ·obtain ⟨_,hm⟩ := own_obj h.reads hb; exact key _ (.inr (.inr rfl)) (two_types hc hm)
theorem TRep.obj {T:Nat} {rb:Value} {x:Thg} (h:TRep w O I T rb x) : ∃ c,w.heap[T]? = some (.cells c 131 (0,0)) := by obtain ⟨⟨_,_,_,h,_⟩,_⟩ := h; exact ⟨_,h⟩
theorem TRep.robj {T:Nat} {rb:Value} {x:Thg} (h:TRep w O I T rb x) {b:Nat} (hb:sblk rb = some b) : ∃ c,w.heap[b]? = some (.cells c 240 (0,0)) := by obtain ⟨⟨_,_,_,_,_,_,h,_⟩,_⟩ := h; exact own_obj h hb
theorem TRep.stay {w':World} {T:Nat} {rb:Value} {x:Thg} {M:Nat → Prop} (h:DRep w D S O I L) (ht:TRep w O I T rb x) (hf:Fr M w w') (hM:∀ b,M b → Own L D b ∨ w.heap.size ≤ b) : TRep w' O I T rb x := by
 refine ht.fr (O' := O) (hf.mono (O' := Own L D) hM) ?_ ?_ ?_
 ·intro hm; obtain ⟨c,hc⟩ := ht.obj; exact h.notT hm (.inl rfl) hc
 ·intro b hb hm; obtain ⟨c,hc⟩ := ht.robj hb; exact h.notT hm (.inr (.inl rfl)) hc
 ·intro b hi hm; exact h.apart b (h.own hm) hi
theorem mapVals_get (L:Lay) (l:Names) (s:ByteArray) : alGet (mapVals L l) s = (alGet l s).map fun t => ptr (L.loc t) := by
 unfold alGet mapVals
 rw [List.find?_map]
 cases h : List.find? ((fun p => decide (p.1 = s)) ∘ fun p : ByteArray × Nat => (p.1,ptr (L.loc p.2))) l with
 | none =>
  have : List.find? (fun p => decide (p.1 = s)) l = none := h
  rw [this]; rfl
 | some p =>
  have : List.find? (fun p => decide (p.1 = s)) l = some p := h
  rw [this]; rfl
theorem mapVals_keys (L:Lay) (l:Names) : alKeys (mapVals L l) = alKeys l := by simp [alKeys,mapVals,Function.comp_def]
theorem DRep.lshn (h:DRep w D S O I L) : (alKeys L.lsh).Nodup := by have := h.sh.nodup; rwa [mapVals_keys] at this
theorem DRep.lsfn (h:DRep w D S O I L) : (alKeys L.lsf).Nodup := by have := h.sf.nodup; rwa [mapVals_keys] at this
theorem DRep.get (h:DRep w D S O I L) (s:ByteArray) : alGet (mapVals L L.lsh) s = (alGet S.shown s).map fun t => ptr (L.loc t) := by rw [mapVals_get,alGet_perm h.shp h.lshn]
variable {k:KV}
theorem c_look (h:DRep w D S O I L) (hr:1 ≤ S.room) (s:ByteArray) (hs:s.size ≤ 9223372036854775807)
    (hk:k (.tuple #[if S.look s = 0 then ptr (L.loc (S.of s)) else .pointer none,i64 (S.look s)]) w) : pFn P 122 [ptr D,.string s] w k := by
  refine F122_in _ _ _ _ ?_
  unfold F122_0
  refine c_off h.disk hr ?_
  unfold AD.look AD.of at hk
  cases ho : S.off with
  | true => simp only [ho,if_true] at hk; exact pC_true hk
  | false =>
    refine pC_false (c_isName s hs (s_not ?_))
    simp only [ho,Bool.false_eq_true,if_false] at hk
    cases hn : isName s with
    | false => simp only [hn,Bool.not_false,if_true] at hk; exact pC_true hk
    | true =>
      simp only [hn,Bool.not_true,Bool.false_eq_true,if_false] at hk
      refine pC_false (s_nil (fa88_1 (s_ldb (isAgg82 _) h.disk rfl ?_)))
      refine lk82 h.sh s (zeroValue132 _) ?_
      rw [h.get]
      cases hg : alGet S.shown s with
      | none =>
        simp only [hg] at hk
        exact s_eqpn upt132 (pC_true hk)
      | some t =>
        simp only [hg] at hk
        refine s_eqpn upt132 (pC_false ?_)
        refine s_nil (fa88_1 (s_ldb (isAgg82 _) h.disk rfl ?_))
        refine lk82 h.sh s (zeroValue132 _) ?_
        rw [h.get,hg]
        exact hk
theorem c_makingOn {m:Nat} {l:List (ByteArray × Value)} {n:ByteArray} {v:Value} (h:SMap w m l) (hk:∀ w',SMap w' m (alSet l n v) → Fr (fun b => b = m) w w' → k (.tuple #[]) w') : pFn P 274 [.agg #[.string n,v],.map (some m)] w k := by
 refine F274_in _ _ _ _ ?_
 unfold F274_0
 refine s_box ?_
 have hb := alloc_new w (.cells #[.string n,v] 204)
 refine fa204_0 (s_ldb (isAgg9 _) hb rfl ?_)
 refine fa204_1 (s_ldb (isAgg132 _) hb rfl ?_)
 refine up82 (h.alloc _) n v fun w' h' hf _ => hk w' h' ((Fr.alloc _ w _).trans hf fun b hb => .inl hb)
theorem c_takingOn {m:Nat} {l:List (ByteArray × Value)} {n:ByteArray} (h:SMap w m l) (hk:∀ w',SMap w' m (alDel l n) → Fr (fun b => b = m) w w' → k (.tuple #[]) w') : pFn P 272 [.string n,.map (some m)] w k := by
 refine F272_in _ _ _ _ ?_
 unfold F272_0
 exact de82 h n fun w' h' hf _ => hk w' h' hf
theorem c_givingOn {m:Nat} {l:List (ByteArray × Value)} {a b:ByteArray} {v:Value} (h:SMap w m l) (hv:alGet l a = some v) (hk:∀ w',SMap w' m (alSet (alDel l a) b v) → Fr (fun b => b = m) w w' → k (.tuple #[]) w') : pFn P 276 [.agg #[.string a,.string b],.map (some m)] w k := by
 refine F276_in _ _ _ _ ?_
 unfold F276_0
 refine s_box ?_
 have hb := alloc_new w (.cells #[.string a,.string b] 207)
 refine fa207_0 (s_ldb (isAgg9 _) hb rfl ?_)
 have hA := h.alloc (.cells #[.string a,.string b] 207)
 refine lk82 hA a (zeroValue132 _) ?_
 rw [hv]
 refine fa207_0 (s_ldb (isAgg9 _) hb rfl ?_)
 refine de82 hA a fun w1 h1 hf1 hz1 => ?_
 have hne : w.heap.size ≠ m := Nat.ne_of_gt h.lt
 have hb1 := hf1.get hb hne
 refine fa207_1 (s_ldb (isAgg9 _) hb1 rfl ?_)
 refine up82 h1 b v fun w' h' hf _ => hk w' h' (((Fr.alloc _ w _).trans hf1 fun b hb => .inl hb).trans hf fun b hb => .inl hb)
theorem mapVals_set (L:Lay) (l:Names) (s:ByteArray) (t:Nat) : alSet (mapVals L l) s (ptr (L.loc t)) = mapVals L (alSet l s t) := by
 have e : ((mapVals L l).any fun p => decide (p.1 = s)) = (l.any fun p => decide (p.1 = s)) := by simp [mapVals,List.any_map,Function.comp_def]
 unfold alSet
 rw [e]
 split
 ·simp only [mapVals,List.map_map]
  refine List.map_congr_left fun p _ => ?_
  simp only [Function.comp]
  split <;> rfl
 ·simp [mapVals]
theorem mapVals_del (L:Lay) (l:Names) (s:ByteArray) : alDel (mapVals L l) s = mapVals L (alDel l s) := by
 simp [alDel,mapVals,List.filter_map,Function.comp_def]
theorem c_on {m:Nat} {l:Names} (c:Turn) (hc:∀ a b,c = .give a b → alGet l a ≠ none) (h:SMap w m (mapVals L l)) (hk:∀ w',SMap w' m (mapVals L (c.onL l)) → Fr (fun b => b = m) w w' → k (.tuple #[]) w') :
    pInv P (turnVal L.loc c) "freight/disk.on" [.map (some m)] w k := by
  cases c with
  | mk n t =>
    refine s_inv (f := 274) (by kernel_rfl) underlying204 (fun e h => by cases h) (c_makingOn h fun w' h' hf => hk w' ?_ hf)
    rw [mapVals_set] at h'; exact h'
  | give a b =>
    cases hg : alGet l a with
    | none => exact absurd hg (hc a b rfl)
    | some t =>
      refine s_inv (f := 276) (by kernel_rfl) underlying207 (fun e h => by cases h) (c_givingOn (v := ptr (L.loc t)) h (by rw [mapVals_get,hg]; rfl) fun w' h' hf => hk w' ?_ hf)
      rw [mapVals_del,mapVals_set] at h'
      unfold Turn.onL
      simp only [hg,Option.getD_some]; exact h'
  | take n =>
    refine s_inv (f := 272) (by kernel_rfl) underlying202 (fun e h => by cases h) (c_takingOn h fun w' h' hf => hk w' ?_ hf)
    rw [mapVals_del] at h'; exact h'
end
structure Nx (w:World) (D:Nat) (O I:Nat → Prop) (w':World) (S':AD) (O' I':Nat → Prop) (L':Lay) : Prop where
 rep : DRep w' D S' O' I' L'
 fr : Fr O w w'
 oo : ∀ b,O b → O' b
 ii : ∀ b,I b → I' b
 on : ∀ b,O' b → O b ∨ w.heap.size ≤ b
 in_ : ∀ b,I' b → I b ∨ w.heap.size ≤ b
theorem own_one {w:World} {base size n:Nat} {e:TypeId} {v:Value} {xs:List Value} (h:w.ownsRow base e size v n xs) : v.cells = #[v] ∧ v.oneCell' = true := by
 rcases h.2 with ⟨rfl,_⟩ | ⟨g,cap,cur,rfl,_⟩ <;> exact ⟨rfl,rfl⟩
theorem turn_one (loc:Nat → Nat) (c:Turn) : (turnVal loc c).cells = #[turnVal loc c] ∧ (turnVal loc c).oneCell' = true := by cases c <;> exact ⟨rfl,rfl⟩
section
variable {w:World} {D:Nat} {S:AD} {O I:Nat → Prop} {L:Lay} {k:KV}
theorem c_nilon (loc : Nat → Nat) (c : Turn) (hk : k (.func (.method "freight/disk.on") #[turnVal loc c] #[]) w) : px P (nilSem (.func (.method "freight/disk.on") #[turnVal loc c] #[])) w k := by
 cases c with
 | mk n t => exact s_nil_meth (f := 274) (by kernel_rfl) underlying204 (fun e h => by cases h) hk
 | give a b => exact s_nil_meth (f := 276) (by kernel_rfl) underlying207 (fun e h => by cases h) hk
 | take n => exact s_nil_meth (f := 272) (by kernel_rfl) underlying202 (fun e h => by cases h) hk
theorem reach_turned {c:Turn} (hc:∀ a b,c = .give a b → alGet S.shown a ≠ none) {t:Nat} (h:reach (S.turned c) t) : reach S t ∨ ∃ n,c = .mk n t := by
 rcases h with ⟨n,h⟩ | ⟨n,h⟩ | ⟨n,h⟩
 ·cases c with
  | mk m u =>
   rcases mem_setN.1 h with h | h
   ·injection h with h1 h2; subst h2; exact .inr ⟨m,rfl⟩
   ·exact .inl (.inl ⟨n,h.1⟩)
  | give a b =>
   rcases mem_setN.1 h with h | h
   ·injection h with h1 h2
    cases hg : alGet S.shown a with
    | none => exact absurd hg (hc a b rfl)
    | some u => rw [hg] at h2; subst h2; exact .inl (.inl ⟨a,mem_of_alGet hg⟩)
   ·exact .inl (.inl ⟨n,(mem_alDel.1 h.1).1⟩)
  | take m => exact .inl (.inl ⟨n,(mem_alDel.1 h).1⟩)
 ·exact .inl (.inr (.inl ⟨n,h⟩))
 ·rcases List.mem_append.1 h with h | h
  ·exact .inl (.inr (.inr ⟨n,h⟩))
  ·rw [List.mem_singleton] at h; exact .inr ⟨n,h.symm⟩
theorem c_rename (h:DRep w D S O I L) (c:Turn) (hl:S.row.length ≤ 1099511627776) (hc:∀ a b,c = .give a b → alGet S.shown a ≠ none)
    (ht:∀ n t,c = .mk n t → ¬ reach S t → TRep w O I (L.loc t) (L.trow t) (S.things t) ∧ ∀ u,reach S u → L.loc u ≠ L.loc t ∧ ∀ b,sblk (L.trow u) = some b → sblk (L.trow t) ≠ some b)
    (hk:∀ w' O' L',Nx w D O I w' (S.turned c) O' I L' → k (.tuple #[]) w') : pFn P 125 [ptr D,turnVal L.loc c] w k := by
  refine F125_in _ _ _ _ ?_
  unfold F125_0
  refine s_nil (fa88_3 (s_ldb (v := L.rowv) (isAgg83 _) h.disk rfl ?_))
  refine lit1_83 (turn_one L.loc c).1 ?_
  have fA := Fr.alloc (fun _ => False) w (.cells #[turnVal L.loc c] 174)
  have hOwn1 := own_lit w 0 174 1 #[turnVal L.loc c] 1 (Nat.zero_le _) (by unfold maxLen; omega) rfl
  generalize hw1 : w.alloc (.cells #[turnVal L.loc c] 174) = w1 at *
  have hz1 : w.heap.size < w1.heap.size := by rw [← hw1]; simp
  refine ap83 (own_fr h.row fA fun _ _ => id) (Src.of_own hOwn1) (by intro u hu; rw [List.mem_singleton.1 hu]; exact (turn_one _ _).2) (by omega) (Nat.zero_le _) ?_
  intro v' w2 h2 fB hb2
  have hD : ∀ {b},sblk L.rowv = some b → b ≠ D := by
    rintro b hb rfl
    obtain ⟨c1,h1⟩ := own_obj h.row hb
    exact absurd (two_types h1 h.disk) (by decide)
  have hd2 := fB.get (fA.get h.disk id) (fun hb => hD hb.symm rfl)
  refine s_nil (fa88_3 ?_)
  refine s_st (sizeOf83 _) (own_one h2).1 (own_one h2).2 hd2 (by show 3 < 11; decide) ?_
  have hd3 := set_same hd2 3 v'
  have fC : Fr (fun b => b = D) w2 (w2.setCell ⟨D,3,none⟩ v') := Fr.setCell w2 ⟨D,3,none⟩ v'
  generalize hw3 : w2.setCell ⟨D,0 + 3,none⟩ v' = w3 at *
  have hz3 : w3.heap.size = w2.heap.size := by rw [← hw3]; simp [World.setCell]
  have hshD : L.sh ≠ D := by
    intro e; obtain ⟨es,c1,h1⟩ := SMap.obj h.sh
    rw [e,h.disk] at h1; cases h1
  have hshR : ∀ {b},sblk L.rowv = some b → b ≠ L.sh := by
    rintro b hb rfl
    obtain ⟨c1,h1⟩ := own_obj h.row hb
    obtain ⟨es,c2,h3⟩ := SMap.obj h.sh
    rw [h1] at h3; cases h3
  refine ⟨fun w => ∃ cs,w.heap[D]? = some (.cells cs 88 (0,0)) ∧ cs[1]? = some (.map (some L.sh)),⟨_,hd3,rfl⟩,?_⟩
  refine q_of _ (fun w_ hS => s_nil ⟨rfl,rfl⟩) ?_
  refine q_of _ (fun w_ hS => fa88_1 ⟨rfl,rfl⟩) ?_
  refine q_of (.map (some L.sh)) (fun w_ hS => by obtain ⟨cs,h1,h2⟩ := hS; exact s_ldb (isAgg82 _) h1 h2 ⟨rfl,rfl⟩) ?_
  refine q_of _ (fun w_ hS => s_mkf ⟨rfl,rfl⟩) ?_
  refine q_of _ (fun w_ hS => c_nilon L.loc c ⟨rfl,rfl⟩) ?_
  have hsh3' : SMap w3 L.sh (mapVals L L.lsh) := ((h.sh.fr fA id).fr fB fun hb => hshR hb.symm rfl).fr fC hshD
  have hsh3 : SMap w3.drew L.sh (mapVals L L.lsh) := hsh3'
  refine c_on c (fun a b e => by rw [alGet_perm h.shp h.lshn]; exact hc a b e) hsh3 fun w4 h4 fD => ?_
  have hd4 := fD.get (w' := w4) (show w3.drew.heap[D]? = _ from hd3) (fun e => hshD e.symm)
  -- the whole frame
  have hM : Fr (fun b => b = D ∨ b = L.sh ∨ sblk L.rowv = some b) w w4 := by
    refine ((((fA.or fB).or fC).or (Fr.drew (fun _ => False) w3)).or fD).mono ?_
    rintro b ((((hb | hb) | hb) | hb) | hb)
    · exact hb.elim
    · exact .inl (.inr (.inr hb.symm))
    · exact .inl (.inl hb)
    · exact hb.elim
    · exact .inl (.inr (.inl hb))
  have hOwn : ∀ b,(b = D ∨ b = L.sh ∨ sblk L.rowv = some b) → Own L D b := by
    rintro b (hb | hb | hb)
    · exact .inl hb
    · exact .inr (.inl hb)
    · exact .inr (.inr (.inr (.inl hb)))
  have hnew : ∀ b,sblk v' = some b → sblk L.rowv = some b ∨ w.heap.size < b := by
    intro b hb
    rcases hb2 with e | e
    · left; rw [← e]; exact hb
    · right; rw [e] at hb; injection hb with hb; omega
  have hv4 : ∀ b,sblk v' = some b → b < w4.heap.size := by
    intro b hb
    have h1 := (own_blk_lt h2 hb).2
    have h3 := fD.size
    have : w3.drew.heap.size = w3.heap.size := rfl
    omega
  have hv'D : ∀ b,sblk v' = some b → b ≠ D := by
    rintro b hb rfl
    obtain ⟨c1,h1⟩ := own_obj h2 hb
    exact absurd (two_types h1 hd2) (by decide)
  have hv'sh : ∀ b,sblk v' = some b → b ≠ L.sh := by
    intro b hb e
    rcases hnew b hb with h1 | h1
    · exact hshR h1 e
    · have := h.lt _ (.inl h.osh); omega
  have hTf : ∀ {T rb x},TRep w O I T rb x → TRep w4 O I T rb x := fun ht => ht.stay h hM fun b hb => .inl (hOwn b hb)
  have hTm : ∀ {T rb x},TRep w4 O I T rb x → TRep w4 (fun b => O b ∨ sblk v' = some b) I T rb x := fun ht => ht.mono (O := O) (fun b => .inl) fun b => id
  have hth : ∀ t,reach (S.turned c) t → TRep w O I (L.loc t) (L.trow t) (S.things t) := by
    intro t hr
    by_cases hs : reach S t
    · exact h.things t hs
    · rcases reach_turned hc hr with hr | ⟨n,e⟩
      · exact absurd hr hs
      · exact (ht n t e hs).1
  have hpair : ∀ t u,reach (S.turned c) t → reach (S.turned c) u → t ≠ u → L.loc t ≠ L.loc u ∧ ∀ b,sblk (L.trow t) = some b → sblk (L.trow u) ≠ some b := by
    intro t u h1 h2 hne
    by_cases a1 : reach S t <;> by_cases a2 : reach S u
    · exact ⟨fun e => hne (h.inj t u a1 a2 e),h.rows t u a1 a2 hne⟩
    · rcases reach_turned hc h2 with hr | ⟨n,e⟩
      · exact absurd hr a2
      · exact (ht n u e a2).2 t a1
    · rcases reach_turned hc h1 with hr | ⟨n,e⟩
      · exact absurd hr a1
      · have := (ht n t e a1).2 u a2
        exact ⟨fun e => this.1 e.symm,fun b hb hb' => this.2 b hb' hb⟩
    · rcases reach_turned hc h1 with hr | ⟨n,e⟩
      · exact absurd hr a1
      · rcases reach_turned hc h2 with hr | ⟨m,e'⟩
        · exact absurd hr a2
        · rw [e] at e'; injection e' with e1 e2; exact absurd e2 hne
  have hz : w.heap.size ≤ w4.heap.size := hM.size
  refine hk w4 (fun b => O b ∨ sblk v' = some b) { L with rowv := v',lsh := c.onL L.lsh } ⟨?_,hM.mono fun b hb => .inl (h.own (hOwn b hb)),fun b => .inl,fun b => id,?_,fun b => .inl⟩
  · exact {
      disk := hd4
      sh := h4
      shp := c.onL_perm h.shp h.lshn
      sf := h.sf.fr hM (by
        rintro (e | e | e)
        · obtain ⟨es,c1,h1⟩ := SMap.obj h.sf
          rw [e,h.disk] at h1; cases h1
        · exact h.ne e.symm
        · obtain ⟨c1,h1⟩ := own_obj h.row e
          obtain ⟨es,c2,h3⟩ := SMap.obj h.sf
          rw [h1] at h3; cases h3)
      sfp := h.sfp
      ne := h.ne
      row := by
        have h5 := own_fr (own_fr h2 fC hv'D) ((Fr.drew (fun _ => False) w3).or fD) (by rintro b hb (h' | h'); exact h'.elim; exact hv'sh b hb h')
        simpa [AD.turned] using h5
      reads := own_fr h.reads hM (by
        rintro b hb (e | e | e)
        · obtain ⟨c1,h1⟩ := own_obj h.reads hb
          rw [e] at h1; exact absurd (two_types h1 h.disk) (by decide)
        · obtain ⟨c1,h1⟩ := own_obj h.reads hb
          obtain ⟨es,c2,h3⟩ := SMap.obj h.sh
          rw [e,h3] at h1; cases h1
        · obtain ⟨c1,h1⟩ := own_obj h.reads hb
          obtain ⟨c2,h3⟩ := own_obj h.row e
          exact absurd (two_types h1 h3) (by decide))
      things := fun t hr => hTm (hTf (hth t hr))
      inj := fun t u h1 h2 e => Classical.byContradiction fun hne => (hpair t u h1 h2 hne).1 e
      rows := fun t u h1 h2 hne => (hpair t u h1 h2 hne).2
      oD := .inl h.oD
      osh := .inl h.osh
      osf := .inl h.osf
      orow := fun b hb => .inr hb
      oreads := fun b hb => .inl (h.oreads b hb)
      apart := by
        rintro b (hb | hb) hi
        · exact h.apart b hb hi
        · rcases hnew b hb with h1 | h1
          · exact h.apart b (h.orow b h1) hi
          · have := h.lt b (.inr hi); omega
      lt := by
        rintro b ((hb | hb) | hb)
        · have := h.lt b (.inl hb); omega
        · exact hv4 b hb
        · have := h.lt b (.inr hb); omega }
  · rintro b (hb | hb)
    · exact .inl hb
    · rcases hnew b hb with h1 | h1
      · exact .inl (h.orow b h1)
      · exact .inr (by omega)
end
theorem Nx.trans {w w1 w2:World} {D:Nat} {O I O1 I1 O2 I2:Nat → Prop} {S1 S2:AD} {L1 L2:Lay} (h:Nx w D O I w1 S1 O1 I1 L1) (k:Nx w1 D O1 I1 w2 S2 O2 I2 L2) : Nx w D O I w2 S2 O2 I2 L2 where
 rep := k.rep
 fr := h.fr.trans k.fr h.on
 oo := fun b hb => k.oo b (h.oo b hb)
 ii := fun b hb => k.ii b (h.ii b hb)
 on := fun b hb => (k.on b hb).elim (h.on b) fun hb => .inr (Nat.le_trans h.fr.size hb)
 in_ := fun b hb => (k.in_ b hb).elim (h.in_ b) fun hb => .inr (Nat.le_trans h.fr.size hb)
theorem Nx.refl {w:World} {D:Nat} {O I:Nat → Prop} {S:AD} {L:Lay} (h:DRep w D S O I L) : Nx w D O I w S O I L := ⟨h,Fr.refl _ _,fun b => id,fun b => id,fun b => .inl,fun b => .inl⟩
section
variable {w:World} {D:Nat} {S S':AD} {O I:Nat → Prop} {L:Lay} {k:KV}
theorem DRep.plain {w':World} (h:DRep w D S O I L) (hf:Fr (fun b => b = D) w w') (hd:w'.heap[D]? = some (.cells (dcells S' L) 88 (0,0))) (h1:S'.shown = S.shown) (h2:S'.safe = S.safe) (h3:S'.row = S.row) (h4:S'.reads = S.reads) (h5:S'.things = S.things) :
    DRep w' D S' O I L where
  disk := hd
  sh := h.sh.fr hf (by rintro e; obtain ⟨es,c1,h1⟩ := SMap.obj h.sh; rw [e,h.disk] at h1; cases h1)
  shp := by rw [h1]; exact h.shp
  sf := h.sf.fr hf (by rintro e; obtain ⟨es,c1,h1⟩ := SMap.obj h.sf; rw [e,h.disk] at h1; cases h1)
  sfp := by rw [h2]; exact h.sfp
  ne := h.ne
  row := by rw [h3]; exact own_fr h.row hf (by rintro b hb e; obtain ⟨c1,h1⟩ := own_obj h.row hb; rw [e] at h1; exact absurd (two_types h1 h.disk) (by decide))
  reads := by rw [h4]; exact own_fr h.reads hf (by rintro b hb e; obtain ⟨c1,h1⟩ := own_obj h.reads hb; rw [e] at h1; exact absurd (two_types h1 h.disk) (by decide))
  things := fun t ht => by
    have ht' : reach S t := by unfold reach at *; rwa [h1,h2,h3] at ht
    rw [h5]
    exact (h.things t ht').stay h hf fun b hb => .inl (.inl hb)
  inj := by unfold reach; rw [h1,h2,h3]; exact h.inj
  rows := by unfold reach; rw [h1,h2,h3]; exact h.rows
  oD := h.oD
  osh := h.osh
  osf := h.osf
  orow := h.orow
  oreads := h.oreads
  apart := h.apart
  lt := fun b hb => Nat.lt_of_lt_of_le (h.lt b hb) hf.size
theorem Nx.plain {w':World} (h:DRep w D S O I L) (hf:Fr (fun b => b = D) w w') (hd:w'.heap[D]? = some (.cells (dcells S' L) 88 (0,0))) (h1:S'.shown = S.shown) (h2:S'.safe = S.safe) (h3:S'.row = S.row) (h4:S'.reads = S.reads) (h5:S'.things = S.things) :
    Nx w D O I w' S' O I L := ⟨h.plain hf hd h1 h2 h3 h4 h5,hf.mono fun b hb => .inl (hb ▸ h.oD),fun b => id,fun b => id,fun b => .inl,fun b => .inl⟩
theorem c_stroke1 {act:AD → AD} (ρ:Env) (kind r:Int) (f:Value) (h0:ρ 0 = ptr D) (h1:ρ 1 = i64 kind) (h2:ρ 2 = i64 r) (h3:ρ 3 = f) (h:DRep w D S O I L)
    (hoff:∀ T,(act T).off = T.off)
    (hdo:r = 0 → ¬ (S.since = S.plan.off ∧ kind = 2) → ∀ w1,DRep w1 D { S with off := decide (S.since = S.plan.off) } O I L → Fr (fun b => b = D) w w1 → ∀ K : KV,(∀ v w' O' I' L',Nx w1 D O I w' (act { S with off := decide (S.since = S.plan.off) }) O' I' L' → K v w') → pVal P f [] w1 K)
    (hk:∀ w' O' I' L',Nx w D O I w' (if r = 0 ∧ ¬ (S.since = S.plan.off ∧ kind = 2) then act { S with off := decide (S.since = S.plan.off) } else { S with off := decide (S.since = S.plan.off) }) O' I' L' → k (i64 (if S.since = S.plan.off then 50 else r)) w') : F123_1 k ρ w := by
  unfold F123_1
  rw [h0,h1,h2,h3]
  have hd : w.drew.heap[D]? = some (.cells (dcells S L) 88 (0,0)) := h.disk
  refine ⟨fun w => ∃ o,w.heap[D]? = some (.cells (dcells { S with off := o } L) 88 (0,0)),⟨S.off,hd⟩,?_⟩
  refine q_of _ (fun w_ hS => s_nil ⟨rfl,rfl⟩) ?_
  refine q_of _ (fun w_ hS => fa88_6 ⟨rfl,rfl⟩) ?_
  refine q_of (i64 S.since) (fun w_ hS => by obtain ⟨o,h⟩ := hS; exact s_ldb (isAgg3 _) h rfl ⟨rfl,rfl⟩) ?_
  refine q_of _ (fun w_ hS => s_nil ⟨rfl,rfl⟩) ?_
  refine q_of _ (fun w_ hS => fa88_5 ⟨rfl,rfl⟩) ?_
  refine q_of _ (fun w_ hS => fa85_0 ⟨rfl,rfl⟩) ?_
  refine q_of (i64 S.plan.off) (fun w_ hS => by obtain ⟨o,h⟩ := hS; exact s_ldb (isAgg3 _) h rfl ⟨rfl,rfl⟩) ?_
  refine q_of _ (fun w_ hS => s_eqi ⟨rfl,rfl⟩) ?_
  refine q_of _ (fun w_ hS => s_nil ⟨rfl,rfl⟩) ?_
  refine q_of _ (fun w_ hS => fa88_7 ⟨rfl,rfl⟩) ?_
  have eo : (S.since == S.plan.off) = decide (S.since = S.plan.off) := by rw [Bool.eq_iff_iff]; simp
  rw [eo]
  refine s_st (sizeOf4 _) rfl rfl hd (by show 9 < 11; decide) ?_
  have hd1 := set_same hd 9 (.bool (decide (S.since = S.plan.off)))
  have fr1 : Fr (fun b => b = D) w (w.drew.setCell ⟨D,9,none⟩ (.bool (decide (S.since = S.plan.off)))) := ((Fr.drew (fun _ => False) w).or (Fr.setCell w.drew ⟨D,9,none⟩ _)).mono fun b hb => hb.elim (fun h => h.elim) .inl
  have hR : DRep _ D { S with off := decide (S.since = S.plan.off) } O I L := h.plain fr1 hd1 rfl rfl rfl rfl rfl
  have hN : Nx w D O I _ { S with off := decide (S.since = S.plan.off) } O I L := .plain h fr1 hd1 rfl rfl rfl rfl rfl
  show px P _ _ _
  generalize w.drew.setCell ⟨D,0 + 9,none⟩ (.bool (decide (S.since = S.plan.off))) = w1 at *
  -- the last part
  have fin : ∀ {w2:World} {S2:AD} {O2 I2:Nat → Prop} {L2:Lay} (ρ':Env),ρ' 0 = ptr D → ρ' 2 = i64 r → DRep w2 D S2 O2 I2 L2 → S2.off = decide (S.since = S.plan.off) → k (i64 (if S.since = S.plan.off then 50 else r)) w2 → F123_2 k ρ' w2 := by
    intro w2 S2 O2 I2 L2 ρ' e0 e2 hR2 hoff2 hk2
    unfold F123_2
    rw [e0,e2]
    refine s_nil (fa88_7 (s_ldb (v := .bool S2.off) (isAgg4 _) hR2.disk rfl ?_))
    rw [hoff2]
    by_cases ho : S.since = S.plan.off
    · rw [if_pos ho] at hk2; rw [decide_eq_true ho]; exact hk2
    · rw [if_neg ho] at hk2; rw [decide_eq_false ho]; exact hk2
  by_cases r0 : r = 0
  · refine s_eqi_t r0 (pG_yes rfl (pG_yes rfl (s_nil (pG_yes rfl (fa88_7 (pG_yes rfl (s_ldb (v := .bool (decide (S.since = S.plan.off))) (isAgg4 _) hd1 rfl (pG_yes rfl ?_))))))))
    by_cases ho : S.since = S.plan.off
    · rw [decide_eq_true ho] at *
      refine pG_yes rfl (pG_yes rfl (s_eqi (pG_yes rfl (s_pick_t (pG_yes rfl (s_not (s_pick_t ?_)))))))
      by_cases k2 : kind = 2
      · have e2 : (kind == 2) = true := by simp [k2]
        rw [e2]
        refine pC_false ?_
        rw [F123_2_eq]
        refine fin _ h0 h2 hR rfl ?_
        refine hk _ O I L ?_
        rw [if_neg (by simp [ho,k2])]; exact hN
      · have e2 : (kind == 2) = false := by simp [k2]
        rw [e2]
        refine pC_true ?_
        refine hdo r0 (by simp [k2]) _ hR fr1 _ fun v w' O' I' L' hx => ?_
        rw [F123_2_eq]
        refine fin _ h0 h2 hx.rep (hoff _) ?_
        refine hk _ O' I' L' ?_
        rw [if_pos ⟨r0,by simp [k2]⟩]; exact hN.trans hx
    · rw [decide_eq_false ho] at *
      refine pG_sk ?_
      refine pG_sk ?_
      refine pG_yes rfl ?_
      refine s_pick_f ?_
      refine pG_yes rfl ?_
      refine s_not ?_
      refine s_pick_t ?_
      refine pC_true ?_
      refine hdo r0 (by simp [ho]) _ hR fr1 _ fun v w' O' I' L' hx => ?_
      rw [F123_2_eq]
      refine fin _ h0 h2 hx.rep (hoff _) ?_
      refine hk _ O' I' L' ?_
      rw [if_pos ⟨r0,by simp [ho]⟩]; exact hN.trans hx
  · refine s_eqi_f r0 ?_
    repeat (first | refine pG_sk ?_ | refine pG_un ?_)
    refine s_pick_f ?_
    refine pC_false ?_
    rw [F123_2_eq]
    refine fin _ h0 h2 hR rfl ?_
    refine hk _ O I L ?_
    rw [if_neg (by simp [r0])]; exact hN
theorem c_stroke {act:AD → AD} (kind refused:Int) (f:Value) (h:DRep w D S O I L) (hb1:0 ≤ S.strokes ∧ S.strokes ≤ 4611686018427387904) (hb2:0 ≤ S.since ∧ S.since ≤ 4611686018427387904)
    (hoff:∀ T,(act T).off = T.off)
    (hdo:refused = 0 → ∀ w1,DRep w1 D { S.ticked with off := decide (S.since + 1 = S.plan.off) } O I L → Fr (fun b => b = D) w w1 → ∀ K : KV,(∀ v w' O' I' L',Nx w1 D O I w' (act { S.ticked with off := decide (S.since + 1 = S.plan.off) }) O' I' L' → K v w') → pVal P f [] w1 K)
    (hk:∀ w' O' I' L',Nx w D O I w' (S.stroke kind refused act).2 O' I' L' → k (i64 (S.stroke kind refused act).1) w') : pFn P 123 [ptr D,i64 kind,i64 refused,f] w k := by
  refine F123_in _ _ _ _ _ _ ?_
  unfold F123_0
  refine s_nil (fa88_4 (s_ldb (v := i64 S.strokes) (isAgg3 _) h.disk rfl (s_add_in (by omega) ?_)))
  refine s_nil (fa88_4 (s_st (sizeOf3 _) rfl rfl h.disk (by show 4 < 11; decide) ?_))
  have hd1 := set_same h.disk 4 (i64 (S.strokes + 1))
  have f1 : Fr (fun b => b = D) w (w.setCell ⟨D,4,none⟩ (i64 (S.strokes + 1))) := Fr.setCell w ⟨D,4,none⟩ _
  refine s_nil (fa88_6 (s_ldb (v := i64 S.since) (isAgg3 _) hd1 rfl (s_add_in (by omega) ?_)))
  refine s_nil (fa88_6 (s_st (sizeOf3 _) rfl rfl hd1 (by show 8 < 11; decide) ?_))
  have hd2 := set_same hd1 8 (i64 (S.since + 1))
  have f2 : Fr (fun b => b = D) w ((w.setCell ⟨D,4,none⟩ (i64 (S.strokes + 1))).setCell ⟨D,8,none⟩ (i64 (S.since + 1))) := (f1.or (Fr.setCell _ ⟨D,8,none⟩ _)).mono fun b hb => hb.elim .inl .inl
  have hd3 : ((w.setCell ⟨D,4,none⟩ (i64 (S.strokes + 1))).setCell ⟨D,8,none⟩ (i64 (S.since + 1))).drew.heap[D]? = some (.cells (dcells S.ticked L) 88 (0,0)) := hd2
  have f3 := (f2.or (Fr.drew (fun _ => False) _)).mono (O' := fun b => b = D) fun b hb => hb.elim .inl fun h => h.elim
  show ∃ S : World → Prop,_
  generalize hw : ((w.setCell ⟨D,0 + 4,none⟩ (i64 (S.strokes + 1))).setCell ⟨D,0 + 8,none⟩ (i64 (S.since + 1))).drew = w2 at *
  have hN : Nx w D O I w2 S.ticked O I L := Nx.plain h f3 hd3 rfl rfl rfl rfl rfl
  -- what the refusal is
  have go : ∀ (ρ:Env) (r:Int),ρ 0 = ptr D → ρ 1 = i64 kind → ρ 2 = i64 r → ρ 3 = f → r = (if refused = 0 ∧ kind = 1 ∧ S.ticked.since ≥ S.ticked.plan.from_ ∧ S.ticked.since ≤ S.ticked.plan.to_ then 55 else refused) → F123A k [1,1,1,1] ρ w2 := by
    intro ρ r e0 e1 e2 e3 er
    rw [F123_1_eq]
    refine c_stroke1 (act := act) ρ kind r f e0 e1 e2 e3 hN.rep hoff ?_ ?_
    · intro hr _ w1 hR hf K hK
      have h0 : refused = 0 := by
        rw [hr] at er
        split at er
        · cases er
        · exact er.symm
      exact hdo h0 w1 hR ((f3.or hf).mono fun b hb => hb.elim .inl .inl) K hK
    · intro w' O' I' L' hx
      have e1 : (S.stroke kind refused act).1 = (if S.ticked.since = S.ticked.plan.off then 50 else r) := by
        unfold AD.stroke
        simp only [← er,decide_eq_true_eq]
      have e2 : (S.stroke kind refused act).2 = (if r = 0 ∧ ¬ (S.ticked.since = S.ticked.plan.off ∧ kind = 2) then act { S.ticked with off := decide (S.ticked.since = S.ticked.plan.off) } else { S.ticked with off := decide (S.ticked.since = S.ticked.plan.off) }) := by
        unfold AD.stroke
        simp only [← er,decide_eq_true_eq]
      rw [← e1]
      exact hk w' O' I' L' (by rw [e2]; exact hN.trans hx)
  refine ⟨fun w => w.heap[D]? = some (.cells (dcells S.ticked L) 88 (0,0)),hd3,?_⟩
  by_cases r0 : refused = 0
  · refine q_of _ (fun w_ hS => s_eqi_t r0 ⟨rfl,rfl⟩) ?_
    refine pGq_yes rfl ?_
    refine pGq_yes rfl ?_
    by_cases k1 : kind = 1
    · refine q_of _ (fun w_ hS => s_eqi_t k1 ⟨rfl,rfl⟩) ?_
      refine q_of _ (fun w_ hS => s_pick_t ⟨rfl,rfl⟩) ?_
      refine pGq_yes rfl (pGq_yes rfl ?_)
      refine q_of _ (fun w_ hS => s_nil ⟨rfl,rfl⟩) ?_
      refine pGq_yes rfl ?_
      refine q_of _ (fun w_ hS => fa88_6 ⟨rfl,rfl⟩) ?_
      refine pGq_yes rfl ?_
      refine q_of (i64 S.ticked.since) (fun w_ hS => s_ldb (isAgg3 _) hS rfl ⟨rfl,rfl⟩) ?_
      refine pGq_yes rfl (pGq_yes rfl ?_)
      refine q_of _ (fun w_ hS => s_nil ⟨rfl,rfl⟩) ?_
      refine pGq_yes rfl ?_
      refine q_of _ (fun w_ hS => fa88_5 ⟨rfl,rfl⟩) ?_
      refine pGq_yes rfl ?_
      refine q_of _ (fun w_ hS => fa85_1 ⟨rfl,rfl⟩) ?_
      refine pGq_yes rfl ?_
      refine q_of (i64 S.ticked.plan.from_) (fun w_ hS => s_ldb (isAgg3 _) hS rfl ⟨rfl,rfl⟩) ?_
      refine pGq_yes rfl ?_
      by_cases c1 : S.ticked.since ≥ S.ticked.plan.from_
      · refine q_of _ (fun w_ hS => s_ge_t c1 ⟨rfl,rfl⟩) ?_
        refine q_of _ (fun w_ hS => s_pick_t ⟨rfl,rfl⟩) ?_
        refine pGq_yes rfl (pGq_yes rfl ?_)
        refine q_of _ (fun w_ hS => s_nil ⟨rfl,rfl⟩) ?_
        refine pGq_yes rfl ?_
        refine q_of _ (fun w_ hS => fa88_6 ⟨rfl,rfl⟩) ?_
        refine pGq_yes rfl ?_
        refine q_of (i64 S.ticked.since) (fun w_ hS => s_ldb (isAgg3 _) hS rfl ⟨rfl,rfl⟩) ?_
        refine pGq_yes rfl (pGq_yes rfl ?_)
        refine q_of _ (fun w_ hS => s_nil ⟨rfl,rfl⟩) ?_
        refine pGq_yes rfl ?_
        refine q_of _ (fun w_ hS => fa88_5 ⟨rfl,rfl⟩) ?_
        refine pGq_yes rfl ?_
        refine q_of _ (fun w_ hS => fa85_2 ⟨rfl,rfl⟩) ?_
        refine pGq_yes rfl ?_
        refine q_of (i64 S.ticked.plan.to_) (fun w_ hS => s_ldb (isAgg3 _) hS rfl ⟨rfl,rfl⟩) ?_
        refine pGq_yes rfl ?_
        by_cases c2 : S.ticked.since ≤ S.ticked.plan.to_
        · refine q_of _ (fun w_ hS => s_le_t c2 ⟨rfl,rfl⟩) ?_
          refine q_of _ (fun w_ hS => s_pick_t ⟨rfl,rfl⟩) (pC_true ?_)
          exact go _ 55 rfl rfl rfl rfl (by rw [if_pos ⟨r0,k1,c1,c2⟩])
        · refine q_of _ (fun w_ hS => s_le_f c2 ⟨rfl,rfl⟩) ?_
          refine q_of _ (fun w_ hS => s_pick_t ⟨rfl,rfl⟩) (pC_false ?_)
          exact go _ refused rfl rfl rfl rfl (by rw [if_neg (fun h => c2 h.2.2.2)])
      · refine q_of _ (fun w_ hS => s_ge_f c1 ⟨rfl,rfl⟩) ?_
        refine q_of _ (fun w_ hS => s_pick_t ⟨rfl,rfl⟩) ?_
        repeat (first | refine pGq_sk ?_ | refine pGq_un ?_)
        refine q_of _ (fun w_ hS => s_pick_f ⟨rfl,rfl⟩) (pC_false ?_)
        exact go _ refused rfl rfl rfl rfl (by rw [if_neg (fun h => c1 h.2.2.1)])
    · refine q_of _ (fun w_ hS => s_eqi_f k1 ⟨rfl,rfl⟩) ?_
      refine q_of _ (fun w_ hS => s_pick_t ⟨rfl,rfl⟩) ?_
      repeat (first | refine pGq_sk ?_ | refine pGq_un ?_)
      refine q_of _ (fun w_ hS => s_pick_f ⟨rfl,rfl⟩) ?_
      repeat (first | refine pGq_sk ?_ | refine pGq_un ?_)
      refine q_of _ (fun w_ hS => s_pick_f ⟨rfl,rfl⟩) (pC_false ?_)
      exact go _ refused rfl rfl rfl rfl (by rw [if_neg (fun h => k1 h.2.1)])
  · refine q_of _ (fun w_ hS => s_eqi_f r0 ⟨rfl,rfl⟩) ?_
    repeat (first | refine pGq_sk ?_ | refine pGq_un ?_)
    refine q_of _ (fun w_ hS => s_pick_f ⟨rfl,rfl⟩) ?_
    repeat (first | refine pGq_sk ?_ | refine pGq_un ?_)
    refine q_of _ (fun w_ hS => s_pick_f ⟨rfl,rfl⟩) ?_
    repeat (first | refine pGq_sk ?_ | refine pGq_un ?_)
    refine q_of _ (fun w_ hS => s_pick_f ⟨rfl,rfl⟩) (pC_false ?_)
    exact go _ refused rfl rfl rfl rfl (by rw [if_neg (fun h => r0 h.1)])
end
end Go.Proofs.YteeeggphkhimcaaGreatDoor
