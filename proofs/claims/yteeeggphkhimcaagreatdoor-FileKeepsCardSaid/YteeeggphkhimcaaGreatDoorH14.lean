/- Put together by a program (wip/tools/shake.py): XBag,XBag2,XMove,XDefer,File,Pair0,R6,File2. -/
import Derived.Test.YteeeggphkhimcaaGreatDoorH13
import Derived.Test.YteeeggphkhimcaaGreatDoorH7
import Derived.Test.YteeeggphkhimcaaGreatDoorH2
import Derived.Test.YteeeggphkhimcaaGreatDoorH1
import Derived.Defers
import Derived.Test.YteeeggphkhimcaaGreatDoorH12
import Derived.Laws.Tables
import Derived.Test.YteeeggphkhimcaaGreatDoorProg
import Derived.Test.YteeeggphkhimcaaGreatDoorMix
set_option linter.unusedVariables false
set_option linter.unusedSimpArgs false
namespace Go.Proofs.XSep
open Go Go.RowKit Go.Proofs.XRed Go.Proofs.XHeap Go.Proofs.XSlices
def Bag (l:List Asrt) : Asrt where
 h w O I := Seps l w O I
 fr := fun h hf hm => h.fr hf hm
 lt := fun h => h.lt
 ap := fun h => h.ap
theorem Seps.app {w:World} {r:List Asrt} : ∀ {l:List Asrt} {O1 I1 O2 I2 O I:Blks},Seps l w O1 I1 → Seps r w O2 I2 → Apart O1 I1 O2 I2 → (∀ b,O b ↔ O1 b ∨ O2 b) → (∀ b,I b ↔ I1 b ∨ I2 b) → Seps (l ++ r) w O I
 | [],O1,I1,O2,I2,O,I,h1,h2,h3,h4,h5 => by
  have e1 : O = O2 := by funext b; exact propext ((h4 b).trans ⟨fun h => h.elim (fun h => absurd h (h1.1 b)) id,.inr⟩)
  have e2 : I = I2 := by funext b; exact propext ((h5 b).trans ⟨fun h => h.elim (fun h => absurd h (h1.2 b)) id,.inr⟩)
  subst e1 e2; exact h2
 | a :: l,O1,I1,O2,I2,O,I,⟨Oa,Ia,Ob,Ib,g1,g2,g3,g4,g5⟩,h2,h3,h4,h5 => by
  refine ⟨Oa,Ia,fun b => Ob b ∨ O2 b,fun b => Ib b ∨ I2 b,g1,Seps.app (l := l) g2 h2 ⟨fun b hb => h3.1 b ((g4 b).2 (.inr hb)),fun b hb => ⟨fun h => (h3.2 b hb).1 ((g4 b).2 (.inr h)),fun h => (h3.2 b hb).2 ((g5 b).2 (.inr h))⟩⟩ (fun _ => Iff.rfl) fun _ => Iff.rfl,⟨fun b hb => ⟨fun h => ?_,fun h => ?_⟩,fun b hb => ?_⟩,fun b => ?_,fun b => ?_⟩
  ·rcases h with h | h
   ·exact (g3.1 b hb).1 h
   ·exact (h3.1 b ((g4 b).2 (.inl hb))).1 h
  ·rcases h with h | h
   ·exact (g3.1 b hb).2 h
   ·exact (h3.1 b ((g4 b).2 (.inl hb))).2 h
  ·rcases hb with hb | hb
   ·exact g3.2 b hb
   ·exact ⟨fun h => (h3.2 b hb).1 ((g4 b).2 (.inl h)),fun h => (h3.2 b hb).2 ((g5 b).2 (.inl h))⟩
  ·rw [h4,g4]; exact or_assoc
  ·rw [h5,g5]; exact or_assoc
theorem Seps.split {w:World} {r:List Asrt} : ∀ {l:List Asrt} {O I:Blks},Seps (l ++ r) w O I → ∃ O1 I1 O2 I2,Seps l w O1 I1 ∧ Seps r w O2 I2 ∧ Apart O1 I1 O2 I2 ∧ (∀ b,O b ↔ O1 b ∨ O2 b) ∧ ∀ b,I b ↔ I1 b ∨ I2 b
 | [],O,I,h => ⟨fun _ => False,fun _ => False,O,I,⟨fun _ h => h,fun _ h => h⟩,h,⟨fun b h => h.elim,fun b hb => ⟨fun h => h,fun h => h⟩⟩,fun b => by simp,fun b => by simp⟩
 | a :: l,O,I,⟨Oa,Ia,Ob,Ib,g1,g2,g3,g4,g5⟩ => by
  obtain ⟨O1,I1,O2,I2,h1,h2,h3,h4,h5⟩ := Seps.split (l := l) g2
  refine ⟨fun b => Oa b ∨ O1 b,fun b => Ia b ∨ I1 b,O2,I2,⟨Oa,Ia,O1,I1,g1,h1,⟨fun b hb => ⟨fun h => (g3.1 b hb).1 ((h4 b).2 (.inl h)),fun h => (g3.1 b hb).2 ((h5 b).2 (.inl h))⟩,fun b hb => g3.2 b ((h4 b).2 (.inl hb))⟩,fun _ => Iff.rfl,fun _ => Iff.rfl⟩,h2,⟨fun b hb => ?_,fun b hb => ⟨fun h => ?_,fun h => ?_⟩⟩,fun b => ?_,fun b => ?_⟩
  ·rcases hb with hb | hb
   ·exact ⟨fun h => (g3.1 b hb).1 ((h4 b).2 (.inr h)),fun h => (g3.1 b hb).2 ((h5 b).2 (.inr h))⟩
   ·exact h3.1 b hb
  ·rcases h with h | h
   ·exact (g3.2 b ((h4 b).2 (.inr hb))).1 h
   ·exact (h3.2 b hb).1 h
  ·rcases h with h | h
   ·exact (g3.2 b ((h4 b).2 (.inr hb))).2 h
   ·exact (h3.2 b hb).2 h
  ·rw [g4,h4]; exact or_assoc.symm
  ·rw [g5,h5]; exact or_assoc.symm
theorem Sep.unbag {w:World} {l r:List Asrt} (h:Sep (Bag l :: r) w) : Sep (l ++ r) w := by
 obtain ⟨O,I,O1,I1,O2,I2,h1,h2,h3,h4,h5⟩ := h
 exact ⟨O,I,Seps.app h1 h2 h3 h4 h5⟩
theorem Sep.bag {w:World} {l r:List Asrt} (h:Sep (l ++ r) w) : Sep (Bag l :: r) w := by
 obtain ⟨O,I,h⟩ := h
 obtain ⟨O1,I1,O2,I2,h1,h2,h3,h4,h5⟩ := h.split
 exact ⟨O,I,O1,I1,O2,I2,h1,h2,h3,h4,h5⟩
theorem set_perm {α:Type} : ∀ {l:List α} {i:Nat} (a:α),i < l.length → (l.set i a).Perm (a :: l.eraseIdx i)
 | [],_,_,h => by simp at h
 | x :: l,0,a,_ => .refl _
 | x :: l,i + 1,a,h => (List.Perm.cons x (set_perm (l := l) (i := i) a (by simpa using h))).trans (List.Perm.swap _ _ _)
theorem Sep.pick {w:World} {l r:List Asrt} {i:Nat} {a:Asrt} (h:Sep (Bag l :: r) w) (hi:l[i]? = some a) : Sep (a :: Bag (l.eraseIdx i) :: r) w := by
 have h1 := h.unbag
 have h2 : Sep (l.eraseIdx i ++ (a :: r)) w := h1.perm (((perm_front hi).append_right r).trans List.perm_middle.symm)
 exact (h2.bag).perm (List.Perm.swap _ _ _)
theorem Sep.unpick {w:World} {l r:List Asrt} {i:Nat} {a:Asrt} (hi:i < l.length) (h:Sep (a :: Bag (l.eraseIdx i) :: r) w) : Sep (Bag (l.set i a) :: r) w := by
 have h1 : Sep (Bag (l.eraseIdx i) :: a :: r) w := h.perm (List.Perm.swap _ _ _)
 have h2 := h1.unbag
 exact (h2.perm (List.perm_middle.trans ((set_perm a hi).symm.append_right r))).bag
theorem Sep.more {w:World} {l r:List Asrt} {a:Asrt} (h:Sep (a :: Bag l :: r) w) : Sep (Bag (l ++ [a]) :: r) w := by
 have h1 : Sep (Bag l :: a :: r) w := h.perm (List.Perm.swap _ _ _)
 have h2 := h1.unbag
 have : Sep ((l ++ [a]) ++ r) w := by simpa using h2
 exact this.bag
theorem Sep.nobag {w:World} {r:List Asrt} (h:Sep r w) : Sep (Bag [] :: r) w := Sep.bag (l := []) h
def OwnA (te sz:Nat) (v:Value) (n:Nat) (cs:List Value) : Asrt where
 h w O I := w.ownsRow 0 te sz v n cs ∧ (∀ b,O b ↔ sblk v = some b) ∧ ∀ b,¬ I b
 fr := fun ⟨h1,h2,h3⟩ hf hm => ⟨own_fr h1 hf fun b hb h => (hm b h).1 ((h2 b).2 hb),h2,h3⟩
 lt := fun ⟨h1,h2,h3⟩ b hb => hb.elim (fun h => (own_blk_lt h1 ((h2 b).1 h)).2) fun h => absurd h (h3 b)
 ap := fun ⟨_,_,h3⟩ b _ => h3 b
def RowV (v:Value) (n:Nat) : Prop := (v = .slice none 0 0 ∧ n = 0) ∨ ∃ b c,v = .slice (some ⟨b,0,none⟩) n c ∧ n ≤ c
theorem RowV.of_own {w:World} {base te sz n:Nat} {v:Value} {cs:List Value} (h:w.ownsRow base te sz v n cs) : RowV v n := by
 rcases h.2 with ⟨rfl,rfl⟩ | ⟨g,cap,cur,rfl,_,_,hn,_⟩
 ·exact .inl ⟨rfl,rfl⟩
 ·exact .inr ⟨g,cap,rfl,hn⟩
def EntA (te sz:Nat) (lv gv:Value) (n m:Nat) (cl cg:List Value) : Asrt where
 h w O I := w.ownsRow 0 te sz gv (n + m) (cl ++ cg) ∧ Src w lv sz n cl ∧ RowV lv n ∧ (∀ b,O b ↔ sblk gv = some b ∨ sblk lv = some b) ∧ (∀ b,sblk lv = some b → b < w.heap.size) ∧ (0 < sz) ∧ ∀ b,¬ I b
 fr := fun ⟨h1,h2,h3,h4,h5,h6,h7⟩ hf hm => ⟨own_fr h1 hf fun b hb h => (hm b h).1 ((h4 b).2 (.inl hb)),h2.fr h6 hf fun b hb h => (hm b h).1 ((h4 b).2 (.inr hb)),h3,h4,fun b hb => Nat.lt_of_lt_of_le (h5 b hb) hf.size,h6,h7⟩
 lt := fun ⟨h1,h2,h3,h4,h5,h6,h7⟩ b hb => hb.elim (fun h => ((h4 b).1 h).elim (fun h => (own_blk_lt h1 h).2) (h5 b)) fun h => absurd h (h7 b)
 ap := fun ⟨_,_,_,_,_,_,h7⟩ b _ => h7 b
theorem EntA.of_own {te sz n:Nat} {v:Value} {cs:List Value} {w:World} {O I:Blks} (h:(OwnA te sz v n cs).h w O I) (hs:0 < sz) : (EntA te sz v v n 0 cs []).h w O I := by
 obtain ⟨h1,h2,h3⟩ := h
 exact ⟨by rw [List.append_nil]; exact h1,Src.of_own h1,RowV.of_own h1,fun b => (h2 b).trans ⟨.inl,fun h => h.elim id id⟩,fun b hb => (own_blk_lt h1 hb).2,hs,h3⟩
theorem Sep.ent {te sz n:Nat} {v:Value} {cs:List Value} {w:World} {l:List Asrt} (h:Sep (OwnA te sz v n cs :: l) w) (hs:0 < sz) : Sep (EntA te sz v v n 0 cs [] :: l) w := by
 obtain ⟨O,I,O1,I1,O2,I2,h1,h2⟩ := h
 exact ⟨O,I,O1,I1,O2,I2,EntA.of_own h1 hs,h2⟩
theorem run_append_two {P:Program} {w:World} {t ty e:TypeId} {i:TypeInfo} {z:Value} (ht:P.underlying t = some (.slice e)) (hi:P.info? e = some i) (hz:i.zero = some z)
    (hzs:z.cells.size = i.size) {v:Value} {n m c:Nat} {xs news:List Value} {a:Addr} (hown:w.ownsRow 0 e i.size v n xs)
    (hl:news.length = m * i.size) (hnews:∀ j u,news[j]? = some u → w.cell? (a.add j) = some u) (h1:∀ u ∈ news,u.oneCell' = true) (h0:0 < m)
    (h63:n + m ≤ maxLen) (hbytes:(n + m) * i.bytes ≤ 140737488355328) :
    ∃ v' w',(Builtin.append_ #[t,t] ty #[v,.slice (some a) m c]).run P w = .ok v' w' ∧ w'.ownsRow 0 e i.size v' (n + m) (xs ++ news) ∧
      ((sblk v' = sblk v ∧ Fr (fun b => some b = sblk v) w w') ∨ (sblk v' = some w.heap.size ∧ Fr (fun _ => False) w w')) := by
  have hlen : (xs ++ news).length = (n + m) * i.size := by rw [List.length_append,hown.1,hl,Nat.add_mul]
  have hsm : n + m ≤ 9223372036854775807 := by unfold maxLen at h63; omega
  have fresh : ∀ old : Nat,let cells := xs.toArray ++ news.toArray ++ Builtin.zeroCells z.cells (grownCap w (n + m) old e - (n + m))
      (w.drew.alloc (.cells cells e)).ownsRow 0 e i.size (.slice (some ⟨w.heap.size,0,none⟩) (n + m) (grownCap w (n + m) old e)) (n + m) (xs ++ news) ∧ Fr (fun _ => False) w (w.drew.alloc (.cells cells e)) := by
    intro old
    have hge := grownCap_ge w (n + m) old e
    refine ⟨⟨hlen,.inr ⟨w.heap.size,_,_,rfl,Nat.zero_le _,heap_alloc_new w.drew _,hge,grownCap_le_maxLen w (n + m) old e h63,?_,?_⟩⟩,(Fr.drew _ w).trans (Fr.alloc _ w.drew _) fun b hb => .inl hb⟩
    · simp only [Array.size_append,List.size_toArray,size_zeroCells,hzs,hown.1,hl,← Nat.add_mul]
      congr 1; omega
    · simp only [Array.toList_append,List.append_assoc]
      rw [← List.append_assoc,← hlen]; exact List.take_left
  rcases hown.2 with ⟨rfl,rfl⟩ | ⟨g,cap,cur,rfl,hbg,hg,hnc,hcm,hcs,htake⟩
  · have hx : xs = [] := List.eq_nil_of_length_eq_zero (by simpa using hown.1)
    subst hx
    have hf := fresh 0
    simp only [Nat.zero_add,List.nil_append,Array.empty_append] at hf hbytes hsm ⊢
    exact ⟨_,_,run_append_nil (P := P) w t ty e i z ht hi hz a m c news hl hnews h0 (by omega) (by omega),hf.1,.inr ⟨rfl,hf.2⟩⟩
  · by_cases hroom : n + m ≤ cap
    · have hfit : n * i.size + news.length ≤ cur.size := by rw [hl,hcs,← Nat.add_mul]; exact Nat.mul_le_mul_right _ hroom
      refine ⟨_,_,run_append_room (P := P) w t ty e i ht hi g n cap cur hg a m c news hl hnews h1 hroom hfit,⟨hlen,.inr ⟨g,cap,_,rfl,hbg,setRow_heap w g cur _ e _ hg,hroom,hcm,?_,?_⟩⟩,.inl ⟨rfl,?_⟩⟩
      · simp only [List.size_toArray,List.length_append,List.length_take,List.length_drop,Array.length_toList]; omega
      · rw [htake,← hlen]; exact List.take_left
      · exact (Go.Proofs.XCalls.Fr.setRow hg).mono fun b hb => .inl (by show some b = some g; rw [show b = g from hb])
    · have holds : ∀ j u,xs[j]? = some u → w.cell? ((⟨g,0,none⟩ : Addr).add j) = some u := hown.cells (g := g) rfl
      exact ⟨_,_,run_append_grow (P := P) w t ty e i z ht hi hz ⟨g,0,none⟩ n cap xs hown.1 holds a m c news hl hnews (by omega) (by omega) (growslice_fits (by omega) hbytes),(fresh cap).1,.inr ⟨rfl,(fresh cap).2⟩⟩
theorem Sep.grow {P:Program} {w:World} {t ty e:TypeId} {i:TypeInfo} {z:Value} {sz:Nat} (ht:P.underlying t = some (.slice e)) (hi:P.info? e = some i) (hz:i.zero = some z) (hzs:z.cells.size = i.size) (hsz:i.size = sz)
    {l:List Asrt} {ix:Nat} {lv gv x:Value} {n m:Nat} {cl cg new:List Value} (hS:Sep l w) (hix:l[ix]? = some (EntA e sz lv gv n m cl cg)) (hx:Src w x sz 1 new) (h1:∀ u ∈ new,u.oneCell' = true)
    (h63:n + m + 1 ≤ maxLen) (hbytes:(n + m + 1) * i.bytes ≤ 140737488355328) {k:KV}
    (hk:∀ gv' w',Sep (l.set ix (EntA e sz lv gv' n (m + 1) cl (cg ++ new))) w' → (∀ O I,(EntA e sz lv gv n m cl cg).h w O I → Fr O w w') → k gv' w') : px P (bSem .append #[t,t] ty #[gv,x]) w k := by
  subst hsz
  obtain ⟨O,I,J,hA,hI,hOJ,hs⟩ := hS.at_ ix hix
  obtain ⟨g1,g2,g3,g4,g5,g6,g7⟩ := hA
  obtain ⟨A,c,rfl,hc,hl,hr⟩ := hx
  obtain ⟨b,o,rfl,hcell⟩ := hr (by omega)
  obtain ⟨gv',w',hrun,ho,hcase⟩ := run_append_two (P := P) (ty := ty) (c := c) (m := 1) ht hi hz hzs g1 (by simpa using hl) (fun j u hu => by rw [add_at]; exact hcell j u hu) h1 (by omega) (by omega) (by omega)
  have ho' : w'.ownsRow 0 e i.size gv' (n + (m + 1)) (cl ++ (cg ++ new)) := by rw [← List.append_assoc]; exact ho
  have hz' : w.heap.size ≤ w'.heap.size := by rcases hcase with ⟨_,h⟩ | ⟨_,h⟩ <;> exact h.size
  have hlen : cl.length = n * i.size := by obtain ⟨A,c,_,_,h,_⟩ := g2; exact h
  have hfr : Fr O w w' := by
    rcases hcase with ⟨_,h⟩ | ⟨_,h⟩
    · exact h.mono fun b hb => .inl ((g4 b).2 (.inl hb.symm))
    · exact h.mono fun b hb => hb.elim
  have hsrc : Src w' lv i.size n cl := by
    rcases hcase with ⟨he,hf⟩ | ⟨_,hf⟩
    · by_cases hb : sblk lv = sblk gv ∧ 0 < n
      · rcases g3 with ⟨rfl,h0⟩ | ⟨b,c,rfl,hnc⟩
        · omega
        · refine ⟨_,c,rfl,hnc,hlen,fun _ => ⟨b,0,rfl,fun j u hj => ?_⟩⟩
          have hgb : sblk gv' = some b := by rw [he,← hb.1]; rfl
          rcases ho'.2 with ⟨rfl,_⟩ | ⟨g,cap,cur,rfl,_⟩
          · cases hgb
          · injection hgb with hgb
            have hgb : g = b := hgb
            subst hgb
            have hjl : j < cl.length := (List.getElem?_eq_some_iff.1 hj).1
            have := ho'.cells (g := g) rfl j u (by rw [List.getElem?_append_left hjl]; exact hj)
            rwa [add_at] at this
      · by_cases hn : 0 < n
        · exact g2.fr g6 hf fun b hb' e => hb ⟨hb'.trans e,hn⟩
        · obtain ⟨A,c,rfl,hc,hl,hr⟩ := g2
          exact ⟨A,c,rfl,hc,hl,fun h => absurd h hn⟩
    · exact g2.fr g6 hf fun b _ h => h
  refine px_ok hrun (hk gv' w' (hs _ w' (fun b => sblk gv' = some b ∨ sblk lv = some b) I ⟨ho',hsrc,g3,fun _ => Iff.rfl,fun b hb => Nat.lt_of_lt_of_le (g5 b hb) hz',g6,g7⟩ ⟨hfr,?_,fun b hb => absurd hb (g7 b)⟩) ?_)
  · rintro b (hb | hb)
    · rcases hcase with ⟨he,_⟩ | ⟨he,_⟩
      · exact .inl ((g4 b).2 (.inl (he ▸ hb)))
      · rw [he] at hb; injection hb with hb; exact .inr (by omega)
    · exact .inl ((g4 b).2 (.inr hb))
  · rintro O2 I2 ⟨_,_,_,q4,_⟩
    have : O2 = O := by funext b; exact propext ((q4 b).trans (g4 b).symm)
    subst this; exact hfr
variable {w:World} {l:List Asrt} {ix:Nat} {te sz n:Nat} {v:Value} {cs:List Value}
theorem Sep.own (h:Sep l w) (ix:Nat) (hix:l[ix]? = some (OwnA te sz v n cs)) : w.ownsRow 0 te sz v n cs := by
 obtain ⟨O,I,h,_⟩ := h.get ix hix; exact h
theorem Sep.ownset (h:Sep l w) (ix:Nat) (hix:l[ix]? = some (OwnA te 1 v n cs)) {i:Nat} (hi:i < n) : ∃ g cap cur,v = .slice (some ⟨g,0,none⟩) n cap ∧ w.heap[g]? = some (.cells cur te (0,0)) ∧ i < cur.size ∧ ∀ u,Sep (l.set ix (OwnA te 1 v n (cs.set i u))) (w.setCell ⟨g,i,none⟩ u) := by
 obtain ⟨O,I,J,⟨h1,h2,h3⟩,-,-,hs⟩ := h.at_ ix hix
 obtain ⟨g,cap,cur,hv,hnc,-,hg,hi',-,hset⟩ := own_at h1 (i := i) (by omega)
 refine ⟨g,cap,cur,hv,hg,hi',fun u => hs _ _ O I ⟨hset u,h2,h3⟩ ⟨(Fr.setCell w ⟨g,i,none⟩ u).mono fun b hb => .inl ((h2 b).2 (by rw [hv,show b = g from hb]; rfl)),fun b => .inl,fun b hb => absurd hb (h3 b)⟩⟩
theorem Sep.ownapp {w':World} {v':Value} {m:Nat} {new:List Value} (h:Sep l w) (ix:Nat) (hix:l[ix]? = some (OwnA te sz v n cs)) (ho:w'.ownsRow 0 te sz v' (n + m) (cs ++ new)) (hf:Fr (fun b => some b = sblk v) w w') (hb:sblk v' = sblk v ∨ sblk v' = some w.heap.size) :
    Sep (l.set ix (OwnA te sz v' (n + m) (cs ++ new))) w' := by
  obtain ⟨O,I,J,⟨h1,h2,h3⟩,-,-,hs⟩ := h.at_ ix hix
  refine hs _ w' (fun b => sblk v' = some b) I ⟨ho,fun _ => Iff.rfl,h3⟩ ⟨hf.mono fun b hb => .inl ((h2 b).2 hb.symm),fun b hb' => ?_,fun b hb => absurd hb (h3 b)⟩
  rcases hb with e | e
  · exact .inl ((h2 b).2 (e ▸ hb'))
  · rw [e] at hb'; injection hb' with hb'; exact .inr (by omega)
theorem Sep.newrow {w':World} {M:Blks} (h:Sep l w) (hf:Fr M w w') (hm:∀ b,M b → w.heap.size ≤ b) (ho:w'.ownsRow 0 te sz v n cs) (hb:∀ b,sblk v = some b → w.heap.size ≤ b) : Sep (OwnA te sz v n cs :: l) w' :=
 h.new (O' := fun b => sblk v = some b) (I' := fun _ => False) hf hm ⟨ho,fun _ => Iff.rfl,fun _ h => h⟩ hb fun b hb => hb.elim
end Go.Proofs.XSep

namespace Go.Proofs.XSep
open Go Go.RowKit Go.Proofs.XRed Go.Proofs.XHeap
def mvs : List Nat → List Asrt → List Asrt
 | [],l => l
 | i :: r,l => match l[i]? with
  | some a => mvs r (a :: l.eraseIdx i)
  | none => l
theorem sep_mvs {w:World} : ∀ (is:List Nat) {l:List Asrt},Sep l w → Sep (mvs is l) w
 | [],l,h => h
 | i :: r,l,h => by
  unfold mvs
  cases hi : l[i]? with
  | none => exact h
  | some a => exact sep_mvs r (h.front i hi)
theorem sep_dropN {w:World} : ∀ (n:Nat) {l:List Asrt},Sep l w → Sep (l.drop n) w
 | 0,l,h => h
 | n + 1,[],h => h
 | n + 1,a :: l,h => sep_dropN n h.drop
theorem sep_mv {w:World} {l l':List Asrt} (is:List Nat) (n:Nat) (h:Sep l w) (e:(mvs is l).drop n = l') : Sep l' w := e ▸ sep_dropN n (sep_mvs is h)
end Go.Proofs.XSep

namespace Go.Proofs.XRed
open Go Go.RowKit
section
variable {P:Program}
def endV (P:Program) (fn:Func) (k:KV) (ρ:Env) (w:World) : Prop := ∀ tmps : Array Value,(∀ t,tmps.getD t undef = ρ t) → ∃ v,(results fn tmps).run P w = .ok v w ∧ k v w
def pEnd (P:Program) (fn:Func) (k:KV) : List Deferred → KE
 | [],ρ,w => endV P fn k ρ w
 | d :: ds,ρ,w => ∃ fv cap f args,d.target = .fn fv cap ∧ (invoke d.target d.args).run P w = .ok (.enter f args) w ∧ CallsD P f args .returning w fun e u' w' => u' = .returning ∧ ∃ v,e = .returned v ∧ pEnd P fn k ds ρ w'
theorem leaves_of_end {fn:Func} {k:KV} {ρ:Env} {tmps:Array Value} (ht:∀ t,tmps.getD t undef = ρ t) : ∀ (ds:List Deferred) (w:World),pEnd P fn k ds ρ w → Leaves P fn tmps (fun e w' => ∃ v,e = .returned v ∧ k v w') ds .returning w
 | [],w,h => by
  obtain ⟨v,h1,h2⟩ := h tmps ht
  exact ⟨v,h1,v,rfl,h2⟩
 | d :: ds,w,⟨fv,cap,f,args,h1,h2,h3⟩ => by
  refine ⟨by simp,fv,cap,f,args,h1,h2,CallsD.mono h3 ?_⟩
  rintro e u' w' ⟨rfl,v,rfl,hp⟩
  exact leaves_of_end ht ds w' hp
def pDr (P:Program) (fn:Func) (k:KV) (c:Code) (ds:List Deferred) (ρ:Env) (w:World) : Prop := ∀ a,Sim ds fn.ntmps ρ a → c.wp P (bodyPostD P fn fun e w' => ∃ v,e = .returned v ∧ k v w') a w
def endN (N E:KE) : Xt → KE
 | .normal,ρ,w => N ρ w
 | .ret,ρ,w => E ρ w
 | _,_,_ => False
abbrev endQ (P:Program) (fn:Func) (k:KV) (ds:List Deferred) (N:KE) : Xt → KE := endN N (pEnd P fn k ds)
theorem pDr_code (hm:P.follows .mixedOrders = true) {fn:Func} {k:KV} {c:Code} {ds:List Deferred} {ρ:Env} {w:World} (hfit:Code.fits fn.ntmps c = true) (h:red P fn.ntmps c (endQ P fn k ds (pEnd P fn k ds)) ρ w) : pDr P fn k c ds ρ w := by
 intro a hs
 refine wp_mono (red_sound hm c hfit _ _ _ _ hs h) ?_
 intro e a w hq
 cases e with
 | normal => obtain ⟨ρ,hs,hr⟩ := hq; rw [bodyPostD,hs.1]; exact leaves_of_end hs.2.2 ds w hr
 | ret => obtain ⟨ρ,hs,hr⟩ := hq; rw [bodyPostD,hs.1]; exact leaves_of_end hs.2.2 ds w hr
 | exit i => obtain ⟨ρ,hs,hr⟩ := hq; exact hr.elim
 | goto l => obtain ⟨ρ,hs,hr⟩ := hq; exact hr.elim
 | panic c => exact hq.elim
 | outgrown => exact hq.elim
theorem pDr_seq (hm:P.follows .mixedOrders = true) {fn:Func} {k:KV} {x y:Code} {ds:List Deferred} {ρ:Env} {w:World} (hfit:Code.fits fn.ntmps x = true) (h:red P fn.ntmps x (endQ P fn k ds (pDr P fn k y ds)) ρ w) : pDr P fn k (.seq x y) ds ρ w := by
 intro a hs
 refine wp_seq (wp_mono (red_sound hm x hfit _ _ _ _ hs h) ?_)
 intro e a w hq
 cases e with
 | normal => obtain ⟨ρ,hs,hr⟩ := hq; exact hr a hs
 | ret => obtain ⟨ρ,hs,hr⟩ := hq; show Leaves _ _ _ _ _ _ _; rw [hs.1]; exact leaves_of_end hs.2.2 ds w hr
 | exit i => obtain ⟨ρ,hs,hr⟩ := hq; exact hr.elim
 | goto l => obtain ⟨ρ,hs,hr⟩ := hq; exact hr.elim
 | panic c => exact hq.elim
 | outgrown => exact hq.elim
def redOpsD (P:Program) (ops:List Oper) (K:List Deferred → KE) : List Oper → List Deferred → KE
 | [],ds,ρ,w => K ds ρ w
 | o :: rest,ds,ρ,w =>
  match o.guard,o.op with
  | none,.defer c => ∃ d,(resolve (ev ρ) c o.type).run P w = .ok d w ∧ redOpsD P ops K rest (d :: ds) (putO ρ o.dst undef) w
  | none,op => cp P op o.type ρ w fun v w => redOpsD P ops K rest ds (putO ρ o.dst v) w
  | some _,_ => False
theorem redOpsD_sound {n:Nat} {ops:Array Oper} (hw:wfOps n ops.toList = true) {K:List Deferred → KE} {Q:Exit → Act → World → Prop} (hK:∀ ds ρ a w,Sim ds n ρ a → K ds ρ w → Q .normal a w) :
    ∀ (l:List Oper),(∀ o ∈ l,o ∈ ops.toList) → ∀ (ds:List Deferred) (ρ:Env) (a:Act) (w:World),Sim ds n ρ a → redOpsD P ops.toList K l ds ρ w → wpList P ops Q l a w := by
  intro l
  induction l with
  | nil => intro _ ds ρ a w hs h; exact hK _ _ _ _ hs h
  | cons o rest ih =>
    intro hmem ds ρ a w hs h
    have hd := wfOps_at hw (hmem o (by simp))
    have ih' := ih (fun o ho => hmem o (by simp [ho]))
    unfold wpList
    unfold redOpsD at h
    split at h
    · rename_i c hg hop
      rw [if_pos (by simp [Region.wanted,hg])]
      obtain ⟨d,hr,h⟩ := h
      refine .inl ?_
      unfold Oper.wp
      rw [hs.eval]
      have he : (execOp (ev ρ) o).run P w = .ok (.defer d) w := by
        simp only [execOp,hop,Sem.run_bind,hr,Result.andThen,Sem.run_pure]
      rw [he,Oper.upon_defer]
      have hs' : Sim (d :: ds) n ρ { a with defers := d :: a.defers } := ⟨by show d :: a.defers = _; rw [hs.1],hs.2⟩
      exact ih' _ _ _ _ (hs'.putO hd _) h
    · rename_i hg hop
      rw [if_pos (by simp [Region.wanted,hg])]
      exact .inl (cp_sound hs (fun v w hk => ih' _ _ _ _ (hs.putO hd v) hk) h)
    · exact h.elim
theorem pDr_seqD {fn:Func} {k:KV} {id:Nat} {ops:Array Oper} {y:Code} {ds:List Deferred} {ρ:Env} {w:World} (hw:wfOps fn.ntmps ops.toList = true) (h:redOpsD P ops.toList (fun ds => pDr P fn k y ds) ops.toList ds ρ w) : pDr P fn k (.seq (.region id ops false) y) ds ρ w := by
 intro a hs
 exact wp_seq (wp_region_list (redOpsD_sound hw (Q := Exit.then (y.wp P (bodyPostD P fn fun e w' => ∃ v,e = .returned v ∧ k v w')) (bodyPostD P fn fun e w' => ∃ v,e = .returned v ∧ k v w')) (fun ds ρ a w hs h => h a hs) _ (fun o ho => ho) _ _ _ _ hs h))
theorem sim_args {n:Nat} {args:List Value} (hn:args.length ≤ n) : Sim [] n (argEnv args) { tmps := args.toArray ++ Array.replicate (n - args.toArray.size) undef,defers := [] } := by
 refine ⟨rfl,by simp; omega,fun t => ?_⟩
 simp only [argEnv]
 rcases Nat.lt_or_ge t args.length with h | h
 ·simp [Array.getElem?_append,h,List.getD_eq_getElem?_getD]
 ·have e : args.getD t undef = undef := by simp [List.getD_eq_getElem?_getD,List.getElem?_eq_none h]
  rw [e]
  rcases Nat.lt_or_ge (t - args.length) (n - args.length) with h2 | h2
  ·simp [Array.getElem?_append,Nat.not_lt.2 h,Array.getElem?_replicate,h2]
  ·simp [Array.getElem?_append,Nat.not_lt.2 h,Array.getElem?_replicate,Nat.not_lt.2 h2]
theorem pFn_of_pDr {f : FuncId} {fn : Func} (hf : P.funcs[f]? = some fn) (hname : (fn.name == "runtime.NumGoroutine") = false) {c : Code} (hb : fn.body = some c) {args : List Value} (hn : args.length ≤ fn.ntmps) {w : World} {k : KV} (h : pDr P fn k c [] (argEnv args) w) : pFn P f args w k :=
 pFn_of_calls hf hname (by rw [hb]; rfl) (calls_of_wp_defers hf hb (h _ (sim_args hn)))
theorem callsD_of_at (hm:P.follows .mixedOrders = true) {f:FuncId} {fn:Func} (hf:P.funcs[f]? = some fn) (hb:fn.body = some (bodyOf fn)) {n:Nat} (hn:fn.ntmps = n) (hfit:Code.fits n (bodyOf fn) = true) (hrs:fn.results = #[]) {args:List Value} (hlen:args.length ≤ n) {w:World} {k:KV}
    (h:At P n (bodyOf fn) (retQ P fn.results.toList k) [] (argEnv args) w) : CallsD P f args.toArray .returning w fun e u' w' => u' = .returning ∧ ∃ v,e = .returned v ∧ k v w' := by
  subst hn
  unfold At Pt at h
  have e1 : sub (bodyOf fn) [] = bodyOf fn := by generalize bodyOf fn = c; cases c <;> rfl
  have e2 : ∀ Q',contAt P fn.ntmps (bodyOf fn) Q' [] = Q' := by intro Q'; generalize bodyOf fn = c; cases c <;> rfl
  rw [e1,e2] at h
  refine CallsD.mono (callsD_of_wp (R := fun e w' => ∃ v,e = .returned v ∧ k v w') hf hb (wp_mono (red_sound hm _ hfit _ _ _ _ (sim_args hlen) h) ?_)) fun e u' w' h => h
  have done : ∀ (a:Act) (w:World) (ρ:Env),Sim [] fn.ntmps ρ a → retV (P := P) fn.results.toList ρ w k → a.defers = [] ∧ ∃ v,(results fn a.tmps).run P w = .ok v w ∧ ∃ u,Ending.returned v = .returned u ∧ k u w := by
    intro a w ρ hs hr
    rw [hrs] at hr
    exact ⟨hs.1,.tuple #[],by simp only [results,hrs]; simp,_,rfl,hr⟩
  intro e a w hq
  cases e with
  | normal => obtain ⟨ρ,hs,hr⟩ := hq; exact done a w ρ hs hr
  | ret => obtain ⟨ρ,hs,hr⟩ := hq; exact done a w ρ hs hr
  | exit i => obtain ⟨ρ,hs,hr⟩ := hq; exact hr.elim
  | goto l => obtain ⟨ρ,hs,hr⟩ := hq; exact hr.elim
  | panic c => exact hq.elim
  | outgrown => exact hq.elim
theorem red_at {n:Nat} {c:Code} {Q:Xt → KE} {ρ:Env} {w:World} : At P n c Q [] ρ w = red P n c Q ρ w := by cases c <;> rfl
theorem pDr_seqA (hm:P.follows .mixedOrders = true) {fn:Func} {k:KV} {C x y:Code} {ds:List Deferred} {ρ:Env} {w:World} {n:Nat} (hn:fn.ntmps = n) (hC:C = .seq x y) (hfit:Code.fits n x = true) (h:At P n x (endN (pDr P fn k y ds) (pEnd P fn k ds)) [] ρ w) : pDr P fn k C ds ρ w := by
 subst hn; subst hC
 rw [red_at] at h
 exact pDr_seq hm hfit h
theorem pDr_seqDA {fn:Func} {k:KV} {C:Code} {id:Nat} {ops:Array Oper} {y:Code} {ds:List Deferred} {ρ:Env} {w:World} {n:Nat} (hn:fn.ntmps = n) (hC:C = .seq (.region id ops false) y) (hw:wfOps n ops.toList = true) (h:redOpsD P ops.toList (fun ds => pDr P fn k y ds) ops.toList ds ρ w) : pDr P fn k C ds ρ w := by
 subst hn; subst hC; exact pDr_seqD hw h
theorem pDr_codeA (hm:P.follows .mixedOrders = true) {fn:Func} {k:KV} {c:Code} {ds:List Deferred} {ρ:Env} {w:World} {n:Nat} (hn:fn.ntmps = n) (hfit:Code.fits n c = true) (h:At P n c (endN (pEnd P fn k ds) (pEnd P fn k ds)) [] ρ w) : pDr P fn k c ds ρ w := by
 subst hn
 rw [red_at] at h
 exact pDr_code hm hfit h
theorem endV_cell {fn:Func} {k:KV} {ρ:Env} {w:World} {t:Tmp} {ty:TypeId} {a:Addr} {v:Value} (hr:fn.results = #[.cell t ty]) (ha:ρ t = .pointer (some a)) (hv:(loadVar ty a).run P w = .ok v w) (hk:k v w) : endV P fn k ρ w := by
 intro tmps ht
 refine ⟨v,?_,hk⟩
 have e : tmps.getD t undef = .pointer (some a) := (ht t).trans ha
 have e' : tmps[t]?.getD undef = .pointer (some a) := by simpa using e
 simp [results,hr,e',asAddr,hv,Result.andThen]
end
end Go.Proofs.XRed

set_option maxRecDepth 100000
namespace Go.Proofs.YteeeggphkhimcaaGreatDoor
open Go Go.Proofs Go.RowKit Go.Proofs.XRed Go.Proofs.XHeap Go.Proofs.XMaps Go.Proofs.XSlices Go.Proofs.XDisk Go.Proofs.XCalls Tryz
section
variable {w:World} {k:KV}
theorem s_addS {t:TypeId} {x y:Operand} {a b:ByteArray} (h:a.size + b.size ≤ 9223372036854775807) (hk:k (.string (a ++ b)) w) : px P (binSem .add t x y (.string a) (.string b)) w k := by
 refine s_bin (by simp) (by simp) ?_ hk
 have hn : ¬ (((a.size + b.size : Nat) : Int) > IntKind.i64.max) := by
  have : IntKind.i64.max = 9223372036854775807 := by decide
  rw [this]; omega
 have hn' : ¬ ((a.size : Int) + (b.size : Int) > IntKind.i64.max) := by simpa using hn
 simp only [binOp,Op.stringOp]
 first | (rw [if_neg hn]; rfl) | (rw [if_neg hn']; rfl)
def namedA (s:ByteArray) (most:Int) : Bool := s.data.toList.all okByte && decide (1 ≤ s.size) && decide ((s.size : Int) ≤ most)
theorem namedA_112 (s:ByteArray) : namedA s 112 = isName s := by
 unfold namedA isName
 congr 1
 exact decide_eq_decide.2 ⟨fun h => by omega,fun h => by omega⟩
theorem empty_iff (s:ByteArray) : s = ByteArray.mk #[] ↔ s.size = 0 := by
 constructor
 ·rintro rfl; rfl
 ·intro h
  apply ByteArray.ext
  exact Array.eq_empty_of_size_eq_zero h
set_option maxHeartbeats 1000000 in
theorem c_named (s:ByteArray) (most:Int) (hs:s.size ≤ 9223372036854775807) (hk:k (.bool (namedA s most)) w) : pFn P 66 [.string s,i64 most] w k := by
  refine F66_in _ _ _ _ ?_
  unfold F66_0
  refine s_eqs ?_
  by_cases he : s = ByteArray.mk #[]
  · have hf : namedA s most = false := by unfold namedA; have := (empty_iff s).1 he; simp [this]
    rw [hf] at hk
    rw [decide_eq_true he]
    exact pG_skf (pG_skf (pG_skf (pG_skf (s_pick_t (pC_true hk)))))
  have h0 : 1 ≤ s.size := by have := (not_congr (empty_iff s)).1 he; omega
  rw [decide_eq_false he]
  refine pG_yes rfl (pG_yes rfl (s_lens (by kernel_rfl) (pG_yes rfl (pG_yes rfl (s_gt ?_)))))
  by_cases hm : (s.size : Int) > most
  · have hf : namedA s most = false := by unfold namedA; rw [decide_eq_false (show ¬ (s.size : Int) ≤ most by omega)]; simp
    rw [hf] at hk
    rw [decide_eq_true hm]
    exact s_pick_f (pC_true hk)
  rw [decide_eq_false hm]
  refine s_pick_f (pC_false (s_lens (by kernel_rfl) ?_))
  refine F66L1_inv (m := s.size) k (fun m ρ w' => w' = w ∧ ρ 0 = .string s ∧ ρ 16 = i64 s.size ∧ ∃ i : Nat,ρ 17 = i64 i ∧ i + m = s.size ∧ ∀ j (hj:j < s.size),j < i → okByte s[j] = true) ?_ ⟨rfl,rfl,rfl,0,rfl,by omega,fun j _ hj => absurd hj (by omega)⟩
  rintro m ρ w' ⟨rfl,e0,h16,i,h17,him,hok⟩
  rw [F66_1_eq]
  unfold F66_1
  rw [e0,h16,h17]
  refine s_lt ?_
  by_cases hi : i < s.size
  · rw [decide_eq_true (by omega)]
    refine pC_true (s_ixs (by kernel_rfl) hi ?_)
    have hix := ix_ok s[i]
    generalize hc : s[i] = c at *
    have hlt := c.toNat_lt
    have hb : okByte c = (decide (97 ≤ c.toNat ∧ c.toNat ≤ 122) || decide (48 ≤ c.toNat ∧ c.toNat ≤ 57) || decide (0 ≤ Lib.indexByte [46,45,95,43] c)) := by
      rw [hix]; simp [UInt8.le_iff_toNat_le,Bool.decide_and]
    have next : okByte c = true → ∀ j (hj:j < s.size),j < i + 1 → okByte s[j] = true := by
      intro h j hj hji
      by_cases e : j = i
      · subst e; rw [hc]; exact h
      · exact hok j hj (by omega)
    have bad : okByte c = false → namedA s most = false := by
      intro h
      unfold namedA
      have : s.data.toList.all okByte = false := by
        rw [Bool.eq_false_iff]
        intro ha
        rw [List.all_eq_true] at ha
        have := ha c (by
          rw [← hc]
          have : i < s.data.toList.length := by simpa using hi
          have e : s[i] = s.data.toList[i] := rfl
          rw [e]; exact List.getElem_mem _)
        rw [h] at this; cases this
      simp [this]
    have eb : ((c.toNat : Int).toNat).toUInt8 = c := by simp
    have el : (ByteArray.mk #[46,45,95,43]).data.toList = [46,45,95,43] := rfl
    by_cases a1 : (c.toNat : Int) ≥ 97 <;> by_cases a2 : (c.toNat : Int) ≤ 122 <;> by_cases a3 : (c.toNat : Int) ≥ 48 <;> by_cases a4 : (c.toNat : Int) ≤ 57
    all_goals try (exfalso; omega)
    all_goals
      repeat (first | refine pG_yes rfl ?_ | refine pG_sk ?_ | refine pG_skf ?_ | refine pG_un ?_ | refine s_ge_t (by assumption) ?_ | refine s_ge_f (by assumption) ?_ | refine s_le_t (by assumption) ?_ | refine s_le_f (by assumption) ?_ | refine s_pick_t ?_ | refine s_pick_f ?_ | refine s_not ?_ | refine pC_true ?_ | refine pC_false ?_)
    all_goals first
      | (refine s_add_in (by omega) ?_
         exact ⟨m - 1,by omega,rfl,e0,h16,i + 1,rfl,by omega,next (by rw [hb,decide_eq_true (show 97 ≤ c.toNat ∧ c.toNat ≤ 122 by omega)]; rfl)⟩)
      | (refine s_add_in (by omega) ?_
         exact ⟨m - 1,by omega,rfl,e0,h16,i + 1,rfl,by omega,next (by rw [hb,decide_eq_true (show 48 ≤ c.toNat ∧ c.toNat ≤ 57 by omega)]; simp)⟩)
      | skip
    all_goals
      refine c_indexByte _ _ ?_
      rw [eb,el]
      have hb' : okByte c = decide (0 ≤ Lib.indexByte [46,45,95,43] c) := by
        rw [hb,decide_eq_false (show ¬ (97 ≤ c.toNat ∧ c.toNat ≤ 122) by omega),decide_eq_false (show ¬ (48 ≤ c.toNat ∧ c.toNat ≤ 57) by omega)]; rfl
      by_cases C : Lib.indexByte [46,45,95,43] c ≥ 0
      · repeat (first | refine pG_yes rfl ?_ | refine pG_sk ?_ | refine pG_skf ?_ | refine pG_un ?_ | refine s_ge_t (by assumption) ?_ | refine s_ge_f (by assumption) ?_ | refine s_le_t (by assumption) ?_ | refine s_le_f (by assumption) ?_ | refine s_pick_t ?_ | refine s_pick_f ?_ | refine s_not ?_ | refine pC_true ?_ | refine pC_false ?_)
        refine s_add_in (by omega) ?_
        exact ⟨m - 1,by omega,rfl,e0,h16,i + 1,rfl,by omega,next (by rw [hb']; exact decide_eq_true (by omega))⟩
      · repeat (first | refine pG_yes rfl ?_ | refine pG_sk ?_ | refine pG_skf ?_ | refine pG_un ?_ | refine s_ge_t (by assumption) ?_ | refine s_ge_f (by assumption) ?_ | refine s_le_t (by assumption) ?_ | refine s_le_f (by assumption) ?_ | refine s_pick_t ?_ | refine s_pick_f ?_ | refine s_not ?_ | refine pC_true ?_ | refine pC_false ?_)
        rw [bad (by rw [hb']; exact decide_eq_false (by omega))] at hk
        exact hk
  · rw [decide_eq_false (by omega)]
    refine pC_false ?_
    have := F66_2_eq k
    show F66A k _ _ _
    rw [F66_2_eq]
    unfold F66_2
    have hall : s.data.toList.all okByte = true := by
      rw [List.all_eq_true]
      intro c hc
      obtain ⟨j,hj,rfl⟩ := List.getElem_of_mem hc
      have hj' : j < s.size := by simpa using hj
      exact hok j hj' (by omega)
    have hfin : namedA s most = true := by
      unfold namedA
      rw [hall,decide_eq_true h0,decide_eq_true (show (s.size : Int) ≤ most by omega)]; rfl
    rw [hfin] at hk
    exact hk
def fopB : ByteArray := ByteArray.mk #[102,105,108,101,46]
def zeroId : List UInt8 := List.replicate 32 0
structure FaultAt (w:World) (b:Nat) (op name:ByteArray) (e:Int) : Prop where
 h : w.heap[b]? = some (.cells (faultCells (fopB ++ op) name zeroId (EV.no e).val) 77 (0,0))
theorem FaultAt.fr {O:Nat → Prop} {w w':World} {b:Nat} {op name:ByteArray} {e:Int} (h:FaultAt w b op name e) (hf:Fr O w w') (hn:¬ O b) : FaultAt w' b op name e := ⟨hf.get h.h hn⟩
theorem FaultAt.in_ {w:World} {b:Nat} {op name:ByteArray} {e:Int} (h:FaultAt w b op name e) : (EV.fault b (.no e)).In w := ⟨⟨_,_,zeroId,rfl,h.h⟩,trivial⟩
theorem c_refused {op name:ByteArray} {e:Int} (hs:op.size ≤ 1000) (hk:∀ w',FaultAt w' w.heap.size op name e → Fr (fun _ => False) w w' → w'.heap.size = w.heap.size + 1 → k (EV.fault w.heap.size (.no e)).val w') : pFn P 67 [.string op,.string name,i64 e] w k := by
 refine F67_in _ _ _ _ _ ?_
 unfold F67_0
 refine s_addS (by show 5 + _ ≤ _; omega) ?_
 refine s_mki (by kernel_rfl) ?_
 refine px_ok (w' := w) (v := .agg (faultCells (fopB ++ op) name zeroId (EV.no e).val)) ?_ ?_
 ·exact run_build w _ _ _ (by
   show P.built 77 [(0,.string (fopB ++ op)),(1,.string name),(3,(EV.no e).val)] = _
   generalize fopB ++ op = o
   kernel_rfl)
 refine s_box (s_mki (by kernel_rfl) ?_)
 refine hk _ ⟨?_⟩ (Fr.alloc _ _ _) (by simp)
 exact alloc_new _ _
end
open Go.Proofs.XSep
def BytesA (v:Value) (bs:Bytes) : Asrt where
 h w O I := SBytes w v bs ∧ (0 < bs.length → ∀ b,sblk v = some b → I b) ∧ (∀ b,¬ O b) ∧ ∀ b,I b → b < w.heap.size
 fr := fun ⟨h1,h2,h3,h4⟩ hf hm => ⟨SBytes.fr0 h1 hf fun h0 b hb e => (hm b e).2 (h2 h0 b hb),h2,h3,fun b hb => Nat.lt_of_lt_of_le (h4 b hb) hf.size⟩
 lt := fun ⟨h1,h2,h3,h4⟩ b hb => hb.elim (fun h => absurd h (h3 b)) (h4 b)
 ap := fun ⟨h1,h2,h3,h4⟩ b hb => absurd hb (h3 b)
section
variable {w w0:World} {k:KV} {W:World} {D E c:Nat} {S T:AD} {l:List Asrt}
theorem data_low {dv:Value} {d:Bytes} (h:SBytes W dv d) : 0 < d.length → ∀ b,sblk dv = some b → b < W.heap.size := fun h0 b hb => Src.lt (size := 1) h (by omega) h0 hb
theorem BytesA.mk {w:World} {v:Value} {bs:Bytes} (h:SBytes w v bs) : (BytesA v bs).h w (fun _ => False) (fun b => 0 < bs.length ∧ sblk v = some b) :=
 ⟨h,fun h0 b hb => ⟨h0,hb⟩,fun _ h => h,fun b hb => Src.lt (size := 1) h (by omega) hb.1 hb.2⟩
theorem s_read {l:List Asrt} {i:Nat} {D:Nat} {S:AD} {c:Nat} (hS:Sep l w) (hi:l[i]? = some (Dk D S)) (ok:S.Ok c) (name:ByteArray) (hs:name.size ≤ 9223372036854775807) (a n:Int) (hn:-9223372036854775808 ≤ a ∧ a ≤ 9223372036854775807)
    (hk:∀ w' v,Sep (l.set i (star (Dk D (S.read name a n).2.2) (BytesA v (S.read name a n).2.1))) w' → k (.tuple #[v,i64 (S.read name a n).1]) w') : pFn P 77 [ptr D,.string name,i64 a,i64 n] w k := by
  obtain ⟨O,I,J,⟨L,h1⟩,g1,g2,nx⟩ := hS.at_ i hi
  refine c_read h1 ok name hs a n hn fun w' O' I' L' v hx hv hb => hk w' v (nx _ w' O' (fun b => I' b ∨ (0 < (S.read name a n).2.1.length ∧ sblk v = some b)) ⟨O',I',_,_,⟨L',hx.rep⟩,BytesA.mk hv,⟨fun b hb' => ⟨id,fun e => (hb b e.2).2 hb'⟩,fun b hb' => hb'.elim⟩,fun b => by simp,fun b => Iff.rfl⟩ ⟨hx.fr,hx.on,fun b hb' => ?_⟩)
  rcases hb' with hb' | hb'
  · exact (hx.in_ b hb').imp (g1 b) id
  · exact .inr (hb b hb'.2).1
end
end Go.Proofs.YteeeggphkhimcaaGreatDoor

namespace Go.Proofs.YteeeggphkhimcaaGreatDoor
open Go Go.Proofs Go.Proofs.XRed Tryz
open Go.Instr (fieldAt loadAt storeAt indexAt sliceAt extract)
noncomputable def F19B : Code := bodyOf f19
noncomputable def F19C0 : Code := sub F19B []
noncomputable def F19X0 : Code := sub F19B [0]
noncomputable def F19p0B : Code := F19X0
def F19p0A (N E:KE) (q:List Nat) (ρ:Env) (w:World) : Prop := At prog 92 F19p0B (endN N E) q ρ w
def F19p0_0 (N:KE) (E:KE) (ρ:Env) (w:World) : Prop :=
 px prog (Instr.box 24 (ρ 0)) w fun v3 w =>
 px prog (Instr.box 9 (ρ 1)) w fun v4 w =>
 px prog (Instr.alloc 31 true (.tuple #[])) w fun v6 w =>
 N (put (put (put ρ 3 v3) 4 v4) 6 v6) w
theorem F19p0_0_eq (N:KE) (E:KE) (ρ:Env) (w:World) : F19p0A N E [] ρ w = F19p0_0 N E ρ w := by kernel_rfl
noncomputable def F19C1 : Code := sub F19B [1]
noncomputable def F19X1 : Code := sub F19B [1,0]
noncomputable def F19p1B : Code := F19X1
def F19p1A (N E:KE) (q:List Nat) (ρ:Env) (w:World) : Prop := At prog 92 F19p1B (endN N E) q ρ w
def F19p1_0 (N:KE) (E:KE) (ρ:Env) (w:World) : Prop :=
 px prog (loadAt 9 (ρ 4)) w fun v18 w =>
 pFn prog 66 [v18,(.int .i64 111)] w fun v19 w =>
 px prog (Op.unary .not v19) w fun v20 w =>
 pG v20 false (fun k => px prog (loadAt 9 (ρ 4)) w k) (w := w) (next := fun v22 w =>
 pG v20 false (fun k => px prog (Instr.index 9 v22 (.int .i64 0)) w k) (w := w) (next := fun v23 w =>
 pG v20 false (fun k => px prog (binSem .eql 5 (.tmp 23) (.const (.int .u8 43)) v23 (.int .u8 43)) w k) (w := w) (next := fun v24 w =>
 px prog (pickSem v20 (.bool true) v24) w fun v25 w =>
 pC v25 (
 px prog (loadAt 9 (ρ 4)) w fun v26 w =>
 pFn prog 67 [(.string (ByteArray.mk #[112,117,116])),v26,(.int .i64 51)] w fun v27 w =>
 pu prog (storeAt 31 (ρ 6) v27) w fun w =>
 E (put (put (put (put (put (put (put (put (put (put ρ 18 v18) 19 v19) 20 v20) 21 v20) 22 v22) 23 v23) 24 v24) 25 v25) 26 v26) 27 v27) w)
 (
 N (put (put (put (put (put (put (put (put ρ 18 v18) 19 v19) 20 v20) 21 v20) 22 v22) 23 v23) 24 v24) 25 v25) w))))
theorem F19p1_0_eq (N:KE) (E:KE) (ρ:Env) (w:World) : F19p1A N E [] ρ w = F19p1_0 N E ρ w := by kernel_rfl
noncomputable def F19C2 : Code := sub F19B [1,1]
noncomputable def F19X2 : Code := sub F19B [1,1,0]
noncomputable def F19p2B : Code := F19X2
def F19p2A (N E:KE) (q:List Nat) (ρ:Env) (w:World) : Prop := At prog 92 F19p2B (endN N E) q ρ w
def F19p2_0 (N:KE) (E:KE) (ρ:Env) (w:World) : Prop :=
 px prog (loadAt 24 (ρ 3)) w fun v28 w =>
 pFn prog 59 [v28] w fun v29 w =>
 pC v29 (
 px prog (loadAt 9 (ρ 4)) w fun v30 w =>
 pFn prog 67 [(.string (ByteArray.mk #[112,117,116])),v30,(.int .i64 50)] w fun v31 w =>
 pu prog (storeAt 31 (ρ 6) v31) w fun w =>
 E (put (put (put (put ρ 28 v28) 29 v29) 30 v30) 31 v31) w)
 (
 N (put (put ρ 28 v28) 29 v29) w)
theorem F19p2_0_eq (N:KE) (E:KE) (ρ:Env) (w:World) : F19p2A N E [] ρ w = F19p2_0 N E ρ w := by kernel_rfl
noncomputable def F19C3 : Code := sub F19B [1,1,1]
noncomputable def F19X3 : Code := sub F19B [1,1,1,0]
noncomputable def F19p3B : Code := F19X3
def F19p3A (N E:KE) (q:List Nat) (ρ:Env) (w:World) : Prop := At prog 92 F19p3B (endN N E) q ρ w
def F19p3_0 (N:KE) (E:KE) (ρ:Env) (w:World) : Prop :=
 px prog (loadAt 9 (ρ 4)) w fun v32 w =>
 px prog (binSem .add 9 (.const (.string (ByteArray.mk #[43]))) (.tmp 32) (.string (ByteArray.mk #[43])) v32) w fun v33 w =>
 px prog (Instr.alloc 9 true (.tuple #[])) w fun v7 w =>
 pu prog (storeAt 9 v7 v33) w fun w =>
 N (put (put (put ρ 32 v32) 33 v33) 7 v7) w
theorem F19p3_0_eq (N:KE) (E:KE) (ρ:Env) (w:World) : F19p3A N E [] ρ w = F19p3_0 N E ρ w := by kernel_rfl
noncomputable def F19C4 : Code := sub F19B [1,1,1,1]
noncomputable def F19X4 : Code := sub F19B [1,1,1,1,0]
noncomputable def F19p4B : Code := F19X4
def F19p4A (N E:KE) (q:List Nat) (ρ:Env) (w:World) : Prop := At prog 92 F19p4B (endN N E) q ρ w
def F19p4_0 (N:KE) (E:KE) (ρ:Env) (w:World) : Prop :=
 px prog (Instr.alloc 4 true (.tuple #[])) w fun v8 w =>
 px prog (Instr.alloc 4 true (.tuple #[])) w fun v9 w =>
 pu prog (storeAt 4 v8 (.bool false)) w fun w =>
 pu prog (storeAt 4 v9 (.bool false)) w fun w =>
 N (put (put ρ 8 v8) 9 v9) w
theorem F19p4_0_eq (N:KE) (E:KE) (ρ:Env) (w:World) : F19p4A N E [] ρ w = F19p4_0 N E ρ w := by kernel_rfl
noncomputable def F19C5 : Code := sub F19B [1,1,1,1,1]
noncomputable def F19C6 : Code := sub F19B [1,1,1,1,1,1]
def F19ops : Array Oper := #[(Oper.mk (some 34) (Op.makeFunc (Fn.func 68) #[] #[(.tmp 6), (.tmp 8), (.tmp 3), (.tmp 7), (.tmp 4), (.tmp 9)]) 1 "file.go:41" #[] none), (Oper.mk none (Op.defer (Call.mk (Callee.value (.tmp 34)) #[] #[])) 0 "file.go:41" #[(Edge.mk 0 Ground.data)] none)]
theorem F19_t5 : F19C5 = .seq (.region 7 F19ops false) F19C6 := by kernel_rfl
def F19d (K:List Deferred → KE) (ds:List Deferred) (ρ:Env) (w:World) : Prop :=
 (px prog (Instr.makeFunc (Fn.func 68) #[] #[(ρ 6),(ρ 8),(ρ 3),(ρ 7),(ρ 4),(ρ 9)])) w fun v34 w =>
 ∃ d,(resolve (ev (put ρ 34 v34)) (Call.mk (Callee.value (.tmp 34)) #[] #[]) 0).run prog w = .ok d w ∧ (
 K (d :: ds) (put ρ 34 v34) w)
theorem F19d_eq (K:List Deferred → KE) (ds:List Deferred) (ρ:Env) (w:World) : redOpsD prog F19ops.toList K F19ops.toList ds ρ w = F19d K ds ρ w := by kernel_rfl
noncomputable def F19zB : Code := F19C6
def F19zA (N E:KE) (q:List Nat) (ρ:Env) (w:World) : Prop := At prog 92 F19zB (endN N E) q ρ w
def F19z_0 (N:KE) (E:KE) (ρ:Env) (w:World) : Prop :=
 px prog (loadAt 24 (ρ 3)) w fun v36 w =>
 px prog (loadAt 9 (ρ 7)) w fun v37 w =>
 pFn prog 72 [v36,v37] w fun v38 w =>
 px prog (extract v38 0) w fun v39 w =>
 px prog (extract v38 1) w fun v40 w =>
 px prog (binSem .eql 25 (.tmp 41) (.const (.int .i64 0)) v40 (.int .i64 0)) w fun v42 w =>
 pC v42 (
 px prog (loadAt 24 (ρ 3)) w fun v43 w =>
 px prog (loadAt 9 (ρ 7)) w fun v44 w =>
 pFn prog 70 [v43,v44] w fun v45 w =>
 px prog (binSem .neq 25 (.tmp 46) (.const (.int .i64 0)) v45 (.int .i64 0)) w fun v47 w =>
 pC v47 (
 px prog (loadAt 9 (ρ 4)) w fun v48 w =>
 pFn prog 67 [(.string (ByteArray.mk #[112,117,116])),v48,v45] w fun v50 w =>
 pu prog (storeAt 31 (ρ 6) v50) w fun w =>
 E (put (put (put (put (put (put (put (put (put (put (put (put (put (put (put (put (put (put (put ρ 36 v36) 37 v37) 38 v38) 35 v38) 39 v39) 40 v40) 10 v39) 11 v40) 41 v40) 42 v42) 43 v43) 44 v44) 45 v45) 12 v45) 46 v45) 47 v47) 48 v48) 49 v45) 50 v50) w)
 (
 pu prog (storeAt 4 (ρ 9) (.bool true)) w fun w =>
 F19zA N E [1] (put (put (put (put (put (put (put (put (put (put (put (put (put (put (put (put ρ 36 v36) 37 v37) 38 v38) 35 v38) 39 v39) 40 v40) 10 v39) 11 v40) 41 v40) 42 v42) 43 v43) 44 v44) 45 v45) 12 v45) 46 v45) 47 v47) w))
 (
 F19zA N E [1] (put (put (put (put (put (put (put (put (put (put ρ 36 v36) 37 v37) 38 v38) 35 v38) 39 v39) 40 v40) 10 v39) 11 v40) 41 v40) 42 v42) w)
theorem F19z_0_eq (N:KE) (E:KE) (ρ:Env) (w:World) : F19zA N E [] ρ w = F19z_0 N E ρ w := by kernel_rfl
def F19z_1 (N:KE) (E:KE) (ρ:Env) (w:World) : Prop :=
 px prog (loadAt 24 (ρ 3)) w fun v51 w =>
 px prog (loadAt 9 (ρ 7)) w fun v52 w =>
 pFn prog 73 [v51,v52] w fun v53 w =>
 px prog (binSem .neq 25 (.tmp 54) (.const (.int .i64 0)) v53 (.int .i64 0)) w fun v55 w =>
 pC v55 (
 px prog (loadAt 9 (ρ 4)) w fun v56 w =>
 pFn prog 67 [(.string (ByteArray.mk #[112,117,116])),v56,v53] w fun v58 w =>
 pu prog (storeAt 31 (ρ 6) v58) w fun w =>
 E (put (put (put (put (put (put (put (put (put ρ 51 v51) 52 v52) 53 v53) 13 v53) 54 v53) 55 v55) 56 v56) 57 v53) 58 v58) w)
 (
 pu prog (storeAt 4 (ρ 8) (.bool true)) w fun w =>
 px prog (loadAt 24 (ρ 3)) w fun v59 w =>
 px prog (loadAt 9 (ρ 7)) w fun v60 w =>
 pFn prog 74 [v59,v60,(ρ 2)] w fun v62 w =>
 px prog (binSem .neq 25 (.tmp 63) (.const (.int .i64 0)) v62 (.int .i64 0)) w fun v64 w =>
 pC v64 (
 px prog (loadAt 9 (ρ 4)) w fun v65 w =>
 pFn prog 67 [(.string (ByteArray.mk #[112,117,116])),v65,v62] w fun v67 w =>
 pu prog (storeAt 31 (ρ 6) v67) w fun w =>
 E (put (put (put (put (put (put (put (put (put (put (put (put (put (put (put (put ρ 51 v51) 52 v52) 53 v53) 13 v53) 54 v53) 55 v55) 59 v59) 60 v60) 61 (ρ 2)) 62 v62) 14 v62) 63 v62) 64 v64) 65 v65) 66 v62) 67 v67) w)
 (
 px prog (loadAt 24 (ρ 3)) w fun v68 w =>
 px prog (loadAt 9 (ρ 7)) w fun v69 w =>
 pFn prog 75 [v68,v69] w fun v70 w =>
 px prog (binSem .neq 25 (.tmp 71) (.const (.int .i64 0)) v70 (.int .i64 0)) w fun v72 w =>
 pC v72 (
 px prog (loadAt 9 (ρ 4)) w fun v73 w =>
 pFn prog 67 [(.string (ByteArray.mk #[112,117,116])),v73,v70] w fun v75 w =>
 pu prog (storeAt 31 (ρ 6) v75) w fun w =>
 E (put (put (put (put (put (put (put (put (put (put (put (put (put (put (put (put (put (put (put (put (put (put ρ 51 v51) 52 v52) 53 v53) 13 v53) 54 v53) 55 v55) 59 v59) 60 v60) 61 (ρ 2)) 62 v62) 14 v62) 63 v62) 64 v64) 68 v68) 69 v69) 70 v70) 15 v70) 71 v70) 72 v72) 73 v73) 74 v70) 75 v75) w)
 (
 px prog (loadAt 24 (ρ 3)) w fun v76 w =>
 px prog (loadAt 9 (ρ 7)) w fun v77 w =>
 px prog (loadAt 9 (ρ 4)) w fun v78 w =>
 pFn prog 76 [v76,v77,v78] w fun v79 w =>
 px prog (binSem .neq 25 (.tmp 80) (.const (.int .i64 0)) v79 (.int .i64 0)) w fun v81 w =>
 pC v81 (
 px prog (loadAt 9 (ρ 4)) w fun v82 w =>
 pFn prog 67 [(.string (ByteArray.mk #[112,117,116])),v82,v79] w fun v84 w =>
 pu prog (storeAt 31 (ρ 6) v84) w fun w =>
 E (put (put (put (put (put (put (put (put (put (put (put (put (put (put (put (put (put (put (put (put (put (put (put (put (put (put (put (put (put ρ 51 v51) 52 v52) 53 v53) 13 v53) 54 v53) 55 v55) 59 v59) 60 v60) 61 (ρ 2)) 62 v62) 14 v62) 63 v62) 64 v64) 68 v68) 69 v69) 70 v70) 15 v70) 71 v70) 72 v72) 76 v76) 77 v77) 78 v78) 79 v79) 16 v79) 80 v79) 81 v81) 82 v82) 83 v79) 84 v84) w)
 (
 px prog (loadAt 24 (ρ 3)) w fun v85 w =>
 pFn prog 71 [v85] w fun v86 w =>
 px prog (binSem .neq 25 (.tmp 87) (.const (.int .i64 0)) v86 (.int .i64 0)) w fun v88 w =>
 pC v88 (
 px prog (loadAt 9 (ρ 4)) w fun v89 w =>
 pFn prog 67 [(.string (ByteArray.mk #[112,117,116])),v89,v86] w fun v91 w =>
 pu prog (storeAt 31 (ρ 6) v91) w fun w =>
 E (put (put (put (put (put (put (put (put (put (put (put (put (put (put (put (put (put (put (put (put (put (put (put (put (put (put (put (put (put (put (put (put (put (put ρ 51 v51) 52 v52) 53 v53) 13 v53) 54 v53) 55 v55) 59 v59) 60 v60) 61 (ρ 2)) 62 v62) 14 v62) 63 v62) 64 v64) 68 v68) 69 v69) 70 v70) 15 v70) 71 v70) 72 v72) 76 v76) 77 v77) 78 v78) 79 v79) 16 v79) 80 v79) 81 v81) 85 v85) 86 v86) 17 v86) 87 v86) 88 v88) 89 v89) 90 v86) 91 v91) w)
 (
 pu prog (storeAt 31 (ρ 6) .nilIface) w fun w =>
 E (put (put (put (put (put (put (put (put (put (put (put (put (put (put (put (put (put (put (put (put (put (put (put (put (put (put (put (put (put (put (put ρ 51 v51) 52 v52) 53 v53) 13 v53) 54 v53) 55 v55) 59 v59) 60 v60) 61 (ρ 2)) 62 v62) 14 v62) 63 v62) 64 v64) 68 v68) 69 v69) 70 v70) 15 v70) 71 v70) 72 v72) 76 v76) 77 v77) 78 v78) 79 v79) 16 v79) 80 v79) 81 v81) 85 v85) 86 v86) 17 v86) 87 v86) 88 v88) w)))))
theorem F19z_1_eq (N:KE) (E:KE) (ρ:Env) (w:World) : F19zA N E [1] ρ w = F19z_1 N E ρ w := by kernel_rfl
theorem F19_t0 : F19C0 = .seq F19X0 F19C1 := by kernel_rfl
theorem F19_t1 : F19C1 = .seq F19X1 F19C2 := by kernel_rfl
theorem F19_t2 : F19C2 = .seq F19X2 F19C3 := by kernel_rfl
theorem F19_t3 : F19C3 = .seq F19X3 F19C4 := by kernel_rfl
theorem F19_t4 : F19C4 = .seq F19X4 F19C5 := by kernel_rfl
noncomputable def F68B : Code := bodyOf f68
def F68A (k:KV) (q:List Nat) (ρ:Env) (w:World) : Prop := At prog 38 F68B (retQ prog f68.results.toList k) q ρ w
def F68_0 (a0:Value) (a1:Value) (a2:Value) (a3:Value) (a4:Value) (a5:Value) (w:World) (k:KV) : Prop :=
 px prog (loadAt 31 a0) w fun v8 w =>
 px prog (Instr.makeInterface 25 (.int .i64 55)) w fun v9 w =>
 pFn prog 69 [v8,v9] w fun v10 w =>
 px prog (Op.unary .not v10) w fun v11 w =>
 pG v11 true (fun k => px prog (loadAt 31 a0) w k) (w := w) (next := fun v13 w =>
 pG v11 true (fun k => px prog (Instr.makeInterface 25 (.int .i64 56)) w k) (w := w) (next := fun v14 w =>
 pG v11 true (fun k => pFn prog 69 [v13,v14] w k) (w := w) (next := fun v15 w =>
 pG v11 true (fun k => px prog (Op.unary .not v15) w k) (w := w) (next := fun v16 w =>
 px prog (pickSem v11 v16 (.bool false)) w fun v17 w =>
 pC v17 (
 k (.tuple #[]) w)
 (
 px prog (loadAt 4 a1) w fun v18 w =>
 pC v18 (
 px prog (loadAt 24 a2) w fun v19 w =>
 px prog (loadAt 9 a3) w fun v20 w =>
 pFn prog 70 [v19,v20] w fun v21 w =>
 px prog (binSem .neq 25 (.tmp 22) (.const (.int .i64 0)) v21 (.int .i64 0)) w fun v23 w =>
 pC v23 (
 px prog (loadAt 9 a4) w fun v24 w =>
 pFn prog 67 [(.string (ByteArray.mk #[112,117,116])),v24,v21] w fun v26 w =>
 pu prog (storeAt 31 a0 v26) w fun w =>
 k (.tuple #[]) w)
 (
 F68A k [1,1] (put (put (put (put (put (put (put (put (put (put (put (put (put (put (put (put (put (argEnv [a0,a1,a2,a3,a4,a5]) 8 v8) 9 v9) 10 v10) 11 v11) 12 v11) 13 v13) 14 v14) 15 v15) 16 v16) 17 v17) 18 v18) 19 v19) 20 v20) 21 v21) 6 v21) 22 v21) 23 v23) w))
 (
 F68A k [1,1] (put (put (put (put (put (put (put (put (put (put (put (argEnv [a0,a1,a2,a3,a4,a5]) 8 v8) 9 v9) 10 v10) 11 v11) 12 v11) 13 v13) 14 v14) 15 v15) 16 v16) 17 v17) 18 v18) w))))))
theorem F68_0_eq (a0:Value) (a1:Value) (a2:Value) (a3:Value) (a4:Value) (a5:Value) (w:World) (k:KV) : F68A k [] (argEnv [a0,a1,a2,a3,a4,a5]) w = F68_0 a0 a1 a2 a3 a4 a5 w k := by kernel_rfl
def F68_1 (k:KV) (ρ:Env) (w:World) : Prop :=
 px prog (loadAt 4 (ρ 1)) w fun v27 w =>
 pG v27 false (fun k => px prog (loadAt 4 (ρ 5)) w k) (w := w) (next := fun v29 w =>
 px prog (pickSem v27 (.bool true) v29) w fun v30 w =>
 pC v30 (
 px prog (loadAt 24 (ρ 2)) w fun v31 w =>
 pFn prog 71 [v31] w fun v32 w =>
 px prog (binSem .neq 25 (.tmp 33) (.const (.int .i64 0)) v32 (.int .i64 0)) w fun v34 w =>
 pC v34 (
 px prog (loadAt 9 (ρ 4)) w fun v35 w =>
 pFn prog 67 [(.string (ByteArray.mk #[112,117,116])),v35,v32] w fun v37 w =>
 pu prog (storeAt 31 (ρ 0) v37) w fun w =>
 k (.tuple #[]) w)
 (
 k (.tuple #[]) w))
 (
 k (.tuple #[]) w))
theorem F68_1_eq (k:KV) (ρ:Env) (w:World) : F68A k [1,1] ρ w = F68_1 k ρ w := by kernel_rfl
end Go.Proofs.YteeeggphkhimcaaGreatDoor

namespace Go.Proofs.YteeeggphkhimcaaGreatDoor
open Go Go.Proofs Go.RowKit Go.Proofs.XRed Go.Proofs.XHeap Go.Proofs.XMaps Go.Proofs.XSlices Go.Proofs.XDisk Go.Proofs.XCalls Go.Proofs.XSep Tryz
def ErrA (v:Value) (op name:ByteArray) (e:Int) : Asrt where
 h w O I := ((e = 0 ∧ v = .nilIface ∧ ∀ b,¬ O b) ∨ (e ≠ 0 ∧ ∃ b,v = (EV.fault b (.no e)).val ∧ FaultAt w b op name e ∧ ∀ c,O c ↔ c = b)) ∧ ∀ b,¬ I b
 fr := fun ⟨h1,h2⟩ hf hm => ⟨h1.imp id fun ⟨he,b,hv,hb,ho⟩ => ⟨he,b,hv,hb.fr hf fun h => (hm b h).1 ((ho b).2 rfl),ho⟩,h2⟩
 lt := fun ⟨h1,h2⟩ b hb => by
  rcases hb with hb | hb
  ·rcases h1 with ⟨_,_,h⟩ | ⟨_,c,_,hc,ho⟩
   ·exact absurd hb (h b)
   ·rw [(ho b).1 hb]; exact lt_of_get hc.h
  ·exact absurd hb (h2 b)
 ap := fun ⟨_,h2⟩ b _ => h2 b
def putB : ByteArray := ByteArray.mk #[112,117,116]
section
variable {w:World} {k:KV} {D c:Nat} {S:AD} {l:List Asrt} {name:ByteArray}
theorem Sep.noErr {op:ByteArray} (h:Sep l w) : Sep (ErrA .nilIface op name 0 :: l) w :=
 h.new (M := fun _ => False) (O' := fun _ => False) (I' := fun _ => False) (Fr.refl _ _) (fun _ h => h.elim) ⟨.inl ⟨rfl,rfl,fun _ h => h⟩,fun _ h => h⟩ (fun _ h => h.elim) fun _ h => h.elim
theorem sd_refused {op:ByteArray} {e:Int} (hS:Sep l w) (he:e ≠ 0) (hs:op.size ≤ 1000) (hk:∀ w' v,Sep (ErrA v op name e :: l) w' → k v w') : pFn P 67 [.string op,.string name,i64 e] w k := by
 refine c_refused hs fun w' h f z => hk w' _ ?_
 exact hS.new (M := fun _ => False) (O' := fun b => b = w.heap.size) (I' := fun _ => False) f (fun _ h => h.elim) ⟨.inr ⟨he,_,rfl,h,fun _ => Iff.rfl⟩,fun _ h => h⟩ (fun b hb => by omega) fun _ h => h.elim
theorem sd_remove (hS:Sep l w) (i:Nat) (hi:l[i]? = some (Dk D S)) (ok:S.Ok c) (hs:name.size ≤ 9223372036854775807) (hk:∀ w',Sep (l.set i (Dk D (S.remove name).2)) w' → k (i64 (S.remove name).1) w') : pFn P 70 [ptr D,.string name] w k := by
 obtain ⟨O,I,L,hd,nx⟩ := Sep.disk hS i hi
 exact c_remove hd ok name hs fun w1 O1 I1 L1 hx => hk w1 (nx _ _ _ _ _ hx)
theorem sd_create (hS:Sep l w) (i:Nat) (hi:l[i]? = some (Dk D S)) (ok:S.Ok c) (hs:name.size ≤ 9223372036854775807) (hk:∀ w',Sep (l.set i (Dk D (S.create name).2)) w' → k (i64 (S.create name).1) w') : pFn P 73 [ptr D,.string name] w k := by
 obtain ⟨O,I,L,hd,nx⟩ := Sep.disk hS i hi
 exact c_create hd ok name hs fun w1 O1 I1 L1 hx => hk w1 (nx _ _ _ _ _ hx)
theorem sd_sync (hS:Sep l w) (i:Nat) (hi:l[i]? = some (Dk D S)) (ok:S.Ok c) (hs:name.size ≤ 9223372036854775807) (hk:∀ w',Sep (l.set i (Dk D (S.sync name).2)) w' → k (i64 (S.sync name).1) w') : pFn P 75 [ptr D,.string name] w k := by
 obtain ⟨O,I,L,hd,nx⟩ := Sep.disk hS i hi
 exact c_sync hd ok name hs fun w1 O1 I1 L1 hx => hk w1 (nx _ _ _ _ _ hx)
theorem sd_rename {b:ByteArray} (hS:Sep l w) (i:Nat) (hi:l[i]? = some (Dk D S)) (ok:S.Ok c) (hs:name.size ≤ 9223372036854775807) (hb:b.size ≤ 9223372036854775807) (hk:∀ w',Sep (l.set i (Dk D (S.rename name b).2)) w' → k (i64 (S.rename name b).1) w') : pFn P 76 [ptr D,.string name,.string b] w k := by
 obtain ⟨O,I,L,hd,nx⟩ := Sep.disk hS i hi
 exact c_renameF hd ok name b hs hb fun w1 O1 I1 L1 hx => hk w1 (nx _ _ _ _ _ hx)
theorem sd_syncNames (hS:Sep l w) (i:Nat) (hi:l[i]? = some (Dk D S)) (ok:S.Ok c) (hk:∀ w',Sep (l.set i (Dk D S.syncNames.2)) w' → k (i64 S.syncNames.1) w') : pFn P 71 [ptr D] w k := by
 obtain ⟨O,I,L,hd,nx⟩ := Sep.disk hS i hi
 exact c_syncNames hd ok fun w1 O1 I1 L1 hx => hk w1 (nx _ _ _ _ _ hx)
theorem sd_off (hS:Sep l w) (i:Nat) (hi:l[i]? = some (Dk D S)) (ok:S.Ok c) (hk:k (.bool S.off) w) : pFn P 59 [ptr D] w k := by
 obtain ⟨O,I,L,hd,nx⟩ := Sep.disk hS i hi
 exact c_off hd.disk ok.room.1 hk
theorem sd_size (hS:Sep l w) (i:Nat) (hi:l[i]? = some (Dk D S)) (ok:S.Ok c) (hs:name.size ≤ 9223372036854775807) (hk:k (.tuple #[i64 (AD.sizeOf S name),i64 (S.look name)]) w) : pFn P 72 [ptr D,.string name] w k := by
 obtain ⟨O,I,L,hd,nx⟩ := Sep.disk hS i hi
 exact c_size hd ok name hs hk
def Holds (X:Asrt) (dv:Value) (d:Bytes) : Prop := ∀ w O I,X.h w O I → SBytes w dv d ∧ (0 < d.length → ∀ b,sblk dv = some b → O b ∨ I b)
theorem holds_bytes (dv:Value) (d:Bytes) : Holds (BytesA dv d) dv d := fun w O I h => ⟨h.1,fun h0 b hb => .inr (h.2.1 h0 b hb)⟩
theorem sd_append {X:Asrt} {dv:Value} {d:Bytes} (hX:Holds X dv d) (hS:Sep l w) (i j:Nat) (hij:i ≠ j) (hi:l[i]? = some (Dk D S)) (hj:l[j]? = some X) (ok:S.Ok c) (hs:name.size ≤ 9223372036854775807) (hdl:d.length ≤ 549755813888)
    (hk:∀ w',Sep (l.set i (Dk D (S.append name d).2)) w' → k (i64 (S.append name d).1) w') : pFn P 74 [ptr D,.string name,dv] w k := by
  obtain ⟨O,I,O2,I2,J,⟨L,h1⟩,hx,g1,g2,g3,g4,g5⟩ := hS.at2 i j hij hi hj
  obtain ⟨b1,b2⟩ := hX _ _ _ hx
  exact c_append0 h1 ok name hs b1 (fun h0 b hb ho => (b2 h0 b hb).elim (g1 b ho).1 (g1 b ho).2) hdl fun w1 O1 I1 L1 hx => hk w1 (g5 _ w1 O1 I1 ⟨L1,hx.rep⟩ (hx.nxt g3))
end
end Go.Proofs.YteeeggphkhimcaaGreatDoor
