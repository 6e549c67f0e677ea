/- Put together by a program (wip/tools/shake.py): XCut3,XCut4,XLoad6,XSep2,XSep3,XBag,XBag2,XEntry,CLoad. -/
import Derived.Test.YteeeggphkhimcaaGreatDoorG14
import Derived.Test.YteeeggphkhimcaaGreatDoorG7
import Derived.Test.YteeeggphkhimcaaGreatDoorG8
import Derived.Test.YteeeggphkhimcaaGreatDoorG2
import Derived.Test.YteeeggphkhimcaaGreatDoorG13
set_option linter.unusedVariables false
set_option linter.unusedSimpArgs false
namespace Go.Proofs.XDisk
open Go.Proofs.XMaps
structure Near (S:AD) (p n:ByteArray) (N:Names) : Prop where
 nd : (alKeys N).Nodup
 rs : rst p n N = rst p n S.shown
 plus : alGet N p = none ∨ alGet N p = alGet S.shown p ∨ alGet N p = some S.next
 name : alGet N n = alGet S.shown n
def foldT (r:List Turn) (l:Names) : Names := r.foldl (fun l c => c.on l) l
theorem foldT_snoc (r:List Turn) (c:Turn) (l:Names) : foldT (r ++ [c]) l = c.on (foldT r l) := by unfold foldT; rw [List.foldl_append]; rfl
def PN (S:AD) (p n:ByteArray) (r:List Turn) : Prop := ∀ k,Near S p n (foldT (r.take k) S.shown)
section
variable {S:AD} {p n name:ByteArray} {d:Bytes}
theorem take_snoc {α:Type} (r:List α) (c:α) (k:Nat) : (r ++ [c]).take k = r.take k ∨ (r ++ [c]).take k = r ++ [c] := by
 by_cases h : k ≤ r.length
 ·left; rw [List.take_append_of_le_length h]
 ·right; rw [List.take_of_length_le]; simp; omega
theorem PN.snoc {r:List Turn} {c:Turn} (h:PN S p n r) (h2:Near S p n (foldT (r ++ [c]) S.shown)) : PN S p n (r ++ [c]) := fun k => by
 rcases take_snoc r c k with e | e
 ·rw [e]; exact h k
 ·rw [e]; exact h2
theorem Near.del {N:Names} (h:Near S p n N) (hpn:p ≠ n) : Near S p n (alDel N p) :=
 ⟨alDel_keys_nodup h.nd p,by rw [rst_del (.inl rfl)]; exact h.rs,.inl (by rw [alGet_del,if_pos rfl]),by rw [alGet_del,if_neg hpn]; exact h.name⟩
theorem Near.put {N:Names} (h:Near S p n N) (hpn:p ≠ n) : Near S p n (setN N p S.next) :=
 ⟨setN_nodup h.nd p _,by rw [rst_set (.inl rfl)]; exact h.rs,.inr (.inr (alGet_setN _ _ _)),by rw [alGet_setN' h.nd,if_neg hpn]; exact h.name⟩
theorem AtRest.near (h:AtRest S) : Near S p n S.shown := ⟨h.nodup,rfl,.inr (.inl rfl),rfl⟩
structure Step1 (S:AD) (p n:ByteArray) (X:AD) : Prop where
 pn : PN S p n X.row
 sh : X.shown = foldT X.row S.shown
 next : S.next ≤ X.next
 safe : X.safe = S.shown
 old : ∀ q ∈ S.shown,X.things q.2 = S.things q.2
theorem Step1.near {X:AD} (h:Step1 S p n X) : Near S p n X.shown := by
 have := h.pn X.row.length
 rw [List.take_length] at this
 rw [h.sh]; exact this
theorem step_rest (h:AtRest S) : Step1 S p n S := ⟨fun k => by rw [h.set.row]; simpa [foldT] using h.near,by rw [h.set.row]; rfl,Nat.le_refl _,h.set.safe,fun _ _ => rfl⟩
theorem Step1.take {X:AD} (h:Step1 S p n X) (hpn:p ≠ n) : Step1 S p n (X.turned (.take p)) := by
 have e : foldT (X.row ++ [.take p]) S.shown = alDel X.shown p := by rw [foldT_snoc,← h.sh]; rfl
 exact ⟨h.pn.snoc (by rw [e]; exact h.near.del hpn),e.symm,h.next,h.safe,h.old⟩
theorem k1_next : (k1 S p).next = S.next := by unfold k1; split <;> rfl
theorem k1_things : (k1 S p).things = S.things := by unfold k1; split <;> rfl
theorem k1_plan : (k1 S p).plan = S.plan := by unfold k1; split <;> rfl
theorem step_k1 (h:AtRest S) (hpn:p ≠ n) : Step1 S p n (k1 S p) := by
 unfold k1
 split
 ·exact (step_rest h).take hpn
 ·exact step_rest h
theorem step_k2 (h:AtRest S) (hpn:p ≠ n) : Step1 S p n (k2 (k1 S p) p) := by
 have h1 := step_k1 (p := p) (n := n) h hpn
 have e : foldT ((k1 S p).row ++ [.mk p (k1 S p).next]) S.shown = setN (k1 S p).shown p S.next := by rw [foldT_snoc,← h1.sh,k1_next]; rfl
 refine ⟨h1.pn.snoc (by rw [e]; exact h1.near.put hpn),by rw [show (k2 (k1 S p) p).row = (k1 S p).row ++ [.mk p (k1 S p).next] from rfl,e,← k1_next (S := S) (p := p)]; rfl,Nat.le_succ_of_le h1.next,h1.safe,fun q hq => ?_⟩
 rw [(k_old (d := []) (by rw [k1_next]; exact Nat.ne_of_lt (h.next hq))).1]
 exact h1.old q hq
theorem step_k3 (h:AtRest S) (hpn:p ≠ n) : Step1 S p n (k3 (k1 S p) p d) := by
 have h2 := step_k2 (p := p) (n := n) h hpn
 exact ⟨h2.pn,h2.sh,h2.next,h2.safe,fun q hq => by rw [(k_old (by rw [k1_next]; exact Nat.ne_of_lt (h.next hq))).2.1,k1_things]⟩
theorem step_k4 (h:AtRest S) (hpn:p ≠ n) : Step1 S p n (k4 (k1 S p) p d) := by
 have h2 := step_k2 (p := p) (n := n) h hpn
 exact ⟨h2.pn,h2.sh,h2.next,h2.safe,fun q hq => by rw [(k_old (by rw [k1_next]; exact Nat.ne_of_lt (h.next hq))).2.2,k1_things]⟩
theorem step_ku (h:AtRest S) (hpn:p ≠ n) : Step1 S p n (ku (k1 S p) p) := (step_k2 h hpn).take hpn
theorem k5_shown (h:AtRest S) (hpn:p ≠ n) : (k5 (k1 S p) p n d).shown = setN (alDel (k2 (k1 S p) p).shown p) n S.next := by
 show setN (alDel (k2 (k1 S p) p).shown p) n ((alGet (k2 (k1 S p) p).shown p).getD 0) = _
 rw [k2_get,k1_next]; rfl
theorem k5_names (h:AtRest S) (hpn:p ≠ n) : rst p n (k5 (k1 S p) p n d).shown = rst p n S.shown ∧ alGet (k5 (k1 S p) p n d).shown p = none ∧ alGet (k5 (k1 S p) p n d).shown n = some S.next := by
 have h2 := (step_k2 (p := p) (n := n) h hpn).near
 rw [k5_shown h hpn]
 have hd := (h2.del hpn).nd
 refine ⟨?_,?_,alGet_setN _ _ _⟩
 ·rw [rst_set (.inr rfl),rst_del (.inl rfl)]; exact h2.rs
 ·rw [alGet_setN' hd,if_neg (fun e => hpn e.symm),alGet_del,if_pos rfl]
def CutOut (p n:ByteArray) (d:Bytes) (was now:List (ByteArray × Bytes)) : Prop :=
 rst p n now = rst p n was ∧ (alGet now n = alGet was n ∨ alGet now n = some d) ∧ ∀ g,alGet now p = some g → (∃ m,g = d.take m) ∨ alGet was p = some g
theorem files_get (S:AD) (m:ByteArray) : alGet S.files m = (alGet S.shown m).map fun t => (S.things t).shown := by
 unfold AD.files; exact alGet_map (fun t => (S.things t).shown) S.shown m
theorem settled_left (h:Settled S) {q:ByteArray × Nat} (hq:q ∈ S.shown) (u:Nat) : (S.things q.2).left u = (S.things q.2).shown := by
 obtain ⟨h1,h2⟩ := h.things q hq
 unfold Thg.left; rw [h1]; exact h2
theorem crash_cut {C:AD} (hS:AtRest S) (hsafe:C.safe = S.shown) (hold:∀ q ∈ S.shown,C.things q.2 = S.things q.2) (hnew:∀ k,alGet (foldT (C.row.take k) S.shown) p = some S.next → ∀ u,∃ m,(C.things S.next).left u = d.take m)
    (hk:∀ k,Near S p n (foldT (C.row.take k) S.shown) ∨ (rst p n (foldT (C.row.take k) S.shown) = rst p n S.shown ∧ alGet (foldT (C.row.take k) S.shown) p = none ∧ alGet (foldT (C.row.take k) S.shown) n = some S.next ∧ ∀ u,(C.things S.next).left u = d)) (picks:List Int) :
    CutOut p n d S.files (C.crash picks).files := by
  rw [crash_files]
  have e : C.crashNames picks = foldT (C.row.take (pickA picks 0 C.row.length)) S.shown := by unfold AD.crashNames foldT; rw [hsafe]
  have hk := hk (pickA picks 0 C.row.length)
  have hnew := hnew (pickA picks 0 C.row.length)
  rw [← e] at hk hnew
  generalize C.crashNames picks = N at *
  have hb : ∀ i t,∃ u,C.crashBytes picks i t = (C.things t).left u := fun i t => ⟨_,rfl⟩
  have hbo : ∀ i (q:ByteArray × Nat),q ∈ S.shown → C.crashBytes picks i q.2 = (S.things q.2).shown := fun i q hq => by
    obtain ⟨u,hu⟩ := hb i q.2
    rw [hu,hold q hq]; exact settled_left hS.set hq u
  have hrs : rst p n N = rst p n S.shown := hk.elim (·.rs) (·.1)
  refine ⟨?_,?_,?_⟩
  · rw [rst_zip (g := fun t => (S.things t).shown) N 0 fun q hq i => hbo i q (mem_rst (hrs ▸ hq)),hrs]
    unfold AD.files
    exact (rst_map (fun t => (S.things t).shown) S.shown).symm
  · rcases alGet_zip (C.crashBytes picks) N 0 n with ⟨g1,g2⟩ | ⟨t,i,g1,g2⟩
    · left
      rcases hk with h | h
      · rw [g2,files_get,← h.name,g1]; rfl
      · rw [h.2.2.1] at g1; cases g1
    · rcases hk with h | h
      · left
        have hm := mem_of_alGet (h.name ▸ g1)
        rw [g2,files_get,← h.name,g1,hbo i _ hm]; rfl
      · right
        rw [h.2.2.1] at g1
        injection g1 with g1
        subst g1
        obtain ⟨u,hu⟩ := hb i S.next
        rw [g2,hu,h.2.2.2 u]
  · intro g hg
    rcases alGet_zip (C.crashBytes picks) N 0 p with ⟨g1,g2⟩ | ⟨t,i,g1,g2⟩
    · rw [g2] at hg; cases hg
    · rw [g2] at hg
      injection hg with hg
      rcases hk with h | h
      · rcases h.plus with h' | h' | h'
        · rw [h'] at g1; cases g1
        · right
          have hm := mem_of_alGet (h' ▸ g1)
          rw [files_get,← h',g1,← hg,hbo i _ hm]; rfl
        · left
          rw [h'] at g1
          injection g1 with g1
          subst g1
          obtain ⟨u,hu⟩ := hb i S.next
          obtain ⟨m,hm⟩ := hnew h' u
          exact ⟨m,by rw [← hg,hu,hm]⟩
      · rw [h.2.1] at g1; cases g1
theorem left_wr (d:Bytes) (u:Nat) : (⟨[],d,[.wr 0 d]⟩ : Thg).left u = d.take u := by
 unfold Thg.left
 show leftOf ((Chg.wr 0 d).made [] (min u d.length)) [] (u - min u d.length) = _
 show (Chg.wr 0 d).made [] (min u d.length) = _
 rw [ovr_made (Nat.zero_le _) (Nat.min_le_right _ _)]
 unfold ovr
 simp only [List.take_zero,List.nil_append,List.drop_nil,List.append_nil]
 by_cases h : u ≤ d.length
 ·rw [Nat.min_eq_left h]
 ·rw [Nat.min_eq_right (by omega),List.take_of_length_le (Nat.le_refl _),List.take_of_length_le (by omega)]
theorem crash_step {C:AD} (hS:AtRest S) (h:Step1 S p n C) (hnew:∀ u,∃ m,(C.things S.next).left u = d.take m) (picks:List Int) : CutOut p n d S.files (C.crash picks).files :=
 crash_cut hS h.safe h.old (fun _ _ => hnew) (fun k => .inl (h.pn k)) picks
theorem crash_off {C:AD} (hS:AtRest S) (hpn:p ≠ n) (hC:C = k1 S p ∨ C = k2 (k1 S p) p ∨ C = k3 (k1 S p) p d ∨ C = k5 (k1 S p) p n d ∨ C = ku (k1 S p) p) (picks:List Int) : CutOut p n d S.files (C.crash picks).files := by
 rcases hC with rfl | rfl | rfl | rfl | rfl
 ·have h1 := step_k1 (p := p) (n := n) hS hpn
  refine crash_cut hS h1.safe h1.old (fun k e => absurd e ?_) (fun k => .inl (h1.pn k)) picks
  have hno : alGet S.shown p ≠ some S.next := fun e => absurd (hS.next (mem_of_alGet e)) (Nat.lt_irrefl _)
  unfold k1
  split
  ·rw [show (S.turned (.take p)).row = [] ++ [Turn.take p] by show S.row ++ _ = _; rw [hS.set.row]]
   rcases take_snoc ([] : List Turn) (Turn.take p) k with e | e
   ·rw [e]; simpa [foldT] using hno
   ·rw [e]
    show alGet (alDel S.shown p) p ≠ _
    rw [alGet_del,if_pos rfl]; simp
  ·rw [hS.set.row]; simpa [foldT] using hno
 ·exact crash_step hS (step_k2 hS hpn) (fun u => ⟨0,by have := k2_thing (X := k1 S p) (p := p); rw [k1_next] at this; rw [this]; rfl⟩) picks
 ·exact crash_step hS (step_k3 hS hpn) (fun u => ⟨u,by have := k3_thing (X := k1 S p) (p := p) (d := d); rw [k1_next] at this; rw [this]; exact left_wr d u⟩) picks
 ·have h4 := step_k4 (d := d) hS hpn
  have ht : (k5 (k1 S p) p n d).things S.next = ⟨d,d,[]⟩ := by have := k4_thing (X := k1 S p) (p := p) (d := d); rw [k1_next] at this; exact this
  refine crash_cut (C := k5 (k1 S p) p n d) hS h4.safe h4.old (fun _ _ u => ⟨d.length,by rw [ht,List.take_length]; rfl⟩) (fun k => ?_) picks
  rcases take_snoc (k4 (k1 S p) p d).row (.give p n) k with e | e
  ·left; rw [show (k5 (k1 S p) p n d).row = (k4 (k1 S p) p d).row ++ [.give p n] from rfl,e]; exact h4.pn k
  ·right
   have e2 : foldT ((k4 (k1 S p) p d).row ++ [.give p n]) S.shown = (k5 (k1 S p) p n d).shown := by rw [foldT_snoc,← h4.sh]; rfl
   rw [show (k5 (k1 S p) p n d).row = (k4 (k1 S p) p d).row ++ [.give p n] from rfl,e,e2]
   obtain ⟨a,b,c⟩ := k5_names (d := d) hS hpn
   exact ⟨a,b,c,fun u => by rw [ht]; rfl⟩
 ·exact crash_step hS (step_ku hS hpn) (fun u => ⟨0,by have := k2_thing (X := k1 S p) (p := p); rw [k1_next] at this; rw [show (ku (k1 S p) p).things = (k2 (k1 S p) p).things from rfl,this]; rfl⟩) picks
theorem AtRest.plans (h:AtRest S) (pl:PlanA) : AtRest (S.plans pl) ∧ (S.plans pl).files = S.files ∧ (S.plans pl).shown = S.shown ∧ (S.plans pl).strokes = S.strokes := by
 obtain ⟨c,ok⟩ := h.ok
 have e : S.plans pl = { S with plan := pl,since := 0 } := by unfold AD.plans; rw [h.off]; rfl
 exact ⟨⟨by rw [e]; exact ⟨h.set.row,h.set.safe,h.set.things⟩,by rw [e]; exact h.off,c,ok.plans pl⟩,by rw [e]; rfl,by rw [e],by rw [e]⟩
theorem AtRest.crash {C:AD} {c:Nat} (ok:C.Ok c) (picks:List Int) : AtRest (C.crash picks) := ⟨settled_crash picks,rfl,c,ok.crash picks⟩
theorem cut_law (h:AtRest S) (hl:lays name = true) : ((S.putF name d).2.off = true → (S.putF name d).1 = 50 ∧ ∀ picks,CutOut (plusOf name) name d S.files ((S.putF name d).2.crash picks).files) ∧ ((S.putF name d).2.off = false → (S.putF name d).1 = 0 ∨ (S.putF name d).1 = 55 ∨ (S.putF name d).1 = 56) := by
 obtain ⟨hn,hp,hpn⟩ := lays_name hl
 obtain ⟨a,b,-,-,ho⟩ := putF_out (d := d) h.off hl
 rcases ho with ⟨b',e⟩ | ⟨e',a',b',he,e⟩ | ⟨b',a'',b'',-,-,C,hC,e⟩
 ·rw [e]; exact ⟨fun h => (by cases h),fun _ => .inl rfl⟩
 ·rcases e with e | e
  ·rw [e]; exact ⟨fun h => (by cases h),fun _ => .inr he⟩
  ·rw [e]; exact ⟨fun h => (by cases h),fun _ => .inr he⟩
 ·rw [e]
  exact ⟨fun _ => ⟨rfl,fun picks => by rw [cnt_crash]; exact crash_off h hpn hC picks⟩,fun h => (by cases h)⟩
theorem settled_synced {C:AD} (hS:AtRest S) (hold:∀ q ∈ S.shown,C.things q.2 = S.things q.2) (hsh:∀ q ∈ C.shown,q ∈ S.shown ∨ ((C.things q.2).row = [] ∧ (C.things q.2).safe = (C.things q.2).shown)) (a b:Int) : Settled (C.synced.cnt a b false) :=
 ⟨rfl,rfl,fun q hq => by
  rcases hsh q hq with h | h
  ·show (C.things q.2).row = [] ∧ (C.things q.2).safe = (C.things q.2).shown
   rw [hold q h]; exact hS.set.things q h
  ·exact h⟩
theorem rest_files {C:AD} (hS:AtRest S) (hold:∀ q ∈ S.shown,C.things q.2 = S.things q.2) (hrs:rst p n C.shown = rst p n S.shown) : rst p n C.files = rst p n S.files := by
 unfold AD.files
 rw [rst_map (fun t => (C.things t).shown),rst_map (fun t => (S.things t).shown),hrs]
 exact List.map_congr_left fun q hq => by rw [hold q (mem_rst hq)]
theorem k1_sub {q:ByteArray × Nat} (hq:q ∈ (k1 S p).shown) : q ∈ S.shown := by
 unfold k1 at hq
 split at hq
 ·exact (mem_alDel.1 hq).1
 ·exact hq
theorem put_law (h:AtRest S) (hoff:∀ b,S.since ≤ b → outAt S b = false) (hl:lays name = true) :
    ((S.putF name d).1 = 0 ∧ Settled (S.putF name d).2 ∧ alGet (S.putF name d).2.files name = some d ∧ alGet (S.putF name d).2.files (plusOf name) = none ∧ (S.putF name d).2.strokes = S.strokes + (if (alGet S.files (plusOf name)).isSome then 6 else 5) ∧ rst (plusOf name) name (S.putF name d).2.files = rst (plusOf name) name S.files) ∨
    (((S.putF name d).1 = 55 ∨ (S.putF name d).1 = 56) ∧ Settled (S.putF name d).2 ∧ alGet (S.putF name d).2.files name = alGet S.files name ∧ alGet (S.putF name d).2.files (plusOf name) = none ∧ rst (plusOf name) name (S.putF name d).2.files = rst (plusOf name) name S.files) := by
  obtain ⟨hn,hp,hpn⟩ := lays_name hl
  obtain ⟨a,b,hb,hab,ho⟩ := putF_out (d := d) h.off hl
  have hsome : (alGet S.files (plusOf name)).isSome = (alGet S.shown (plusOf name)).isSome := by rw [files_get]; cases alGet S.shown (plusOf name) <;> rfl
  rcases ho with ⟨b',e⟩ | ⟨e',a',b',he,e⟩ | ⟨b',a'',b'',hb',hout,C,hC,e⟩
  · left
    rw [e]
    have h4 := step_k4 (d := d) h hpn
    obtain ⟨x1,x2,x3⟩ := k5_names (d := d) h hpn
    have ht : (k5 (k1 S (plusOf name)) (plusOf name) name d).things S.next = ⟨d,d,[]⟩ := by have := k4_thing (X := k1 S (plusOf name)) (p := plusOf name) (d := d); rw [k1_next] at this; exact this
    refine ⟨rfl,settled_synced (C := k5 (k1 S (plusOf name)) (plusOf name) name d) h h4.old (fun q hq => ?_) _ _,?_,?_,?_,?_⟩
    · rw [k5_shown h hpn] at hq
      rcases mem_setN.1 hq with rfl | ⟨hq,_⟩
      · right; rw [ht]; exact ⟨rfl,rfl⟩
      · rcases mem_setN.1 (mem_alDel.1 hq).1 with rfl | ⟨hq',_⟩
        · exact absurd rfl (mem_alDel.1 hq).2
        · exact .inl (k1_sub hq')
    · show alGet (k5 (k1 S (plusOf name)) (plusOf name) name d).files name = some d
      rw [files_get,x3,Option.map_some,ht]
    · show alGet (k5 (k1 S (plusOf name)) (plusOf name) name d).files (plusOf name) = none
      rw [files_get,x2]; rfl
    · rw [hsome]; exact hab
    · exact rest_files (C := k5 (k1 S (plusOf name)) (plusOf name) name d) h h4.old x1
  · right
    have key : ∀ (C:AD),Step1 S (plusOf name) name C → C.things = (k1 S (plusOf name)).things ∨ C.things = (k2 (k1 S (plusOf name)) (plusOf name)).things → alGet C.shown (plusOf name) = none → (∀ q ∈ C.shown,q ∈ S.shown) → ∀ a b,
        Settled (C.synced.cnt a b false) ∧ alGet (C.synced.cnt a b false).files name = alGet S.files name ∧ alGet (C.synced.cnt a b false).files (plusOf name) = none ∧ rst (plusOf name) name (C.synced.cnt a b false).files = rst (plusOf name) name S.files := by
      intro C h1 _ hno hsub a b
      refine ⟨settled_synced h h1.old (fun q hq => .inl (hsub q hq)) _ _,?_,?_,rest_files (C := C) h h1.old h1.near.rs⟩
      · show alGet C.files name = _
        rw [files_get,files_get,h1.near.name]
        cases hg : alGet S.shown name with
        | none => rfl
        | some t => simp only [Option.map_some]; rw [h1.old _ (mem_of_alGet hg)]
      · show alGet C.files (plusOf name) = _
        rw [files_get,hno]; rfl
    rcases e with e | e
    · rw [e]
      refine ⟨he,key (ku (k1 S (plusOf name)) (plusOf name)) (step_ku h hpn) (.inr rfl) ?_ ?_ _ _⟩
      · show alGet (alDel _ _) _ = none
        rw [alGet_del,if_pos rfl]
      · intro q hq
        obtain ⟨hq1,hq2⟩ := mem_alDel.1 hq
        rcases mem_setN.1 hq1 with rfl | ⟨hq',_⟩
        · exact absurd rfl hq2
        · exact k1_sub hq'
    · rw [e]
      cases hg : (alGet S.shown (plusOf name)).isSome with
      | true =>
        rw [if_pos rfl]
        exact ⟨he,key (k1 S (plusOf name)) (step_k1 h hpn) (.inl rfl) k1_get (fun q hq => k1_sub hq) _ _⟩
      | false =>
        rw [if_neg (by simp)]
        have hk : k1 S (plusOf name) = S := by unfold k1; rw [hg]; rfl
        rw [hk]
        have hnone : alGet S.shown (plusOf name) = none := by simpa using hg
        refine ⟨he,⟨h.set.row,h.set.safe,h.set.things⟩,rfl,?_,rfl⟩
        show alGet S.files (plusOf name) = none
        rw [files_get,hnone]; rfl
  · have : outAt (k1 S (plusOf name)) b' = outAt S b' := by unfold outAt; rw [k1_plan]
    rw [this,hoff b' (by omega)] at hout
    cases hout
end
def inL (L:List ByteArray) (n:ByteArray) : Bool := L.any fun m => decide (m = n)
theorem inL_iff {L:List ByteArray} {n:ByteArray} : inL L n = true ↔ n ∈ L := by
 unfold inL
 rw [List.any_eq_true]
 exact ⟨fun ⟨m,h,e⟩ => of_decide_eq_true e ▸ h,fun h => ⟨n,h,decide_eq_true rfl⟩⟩
theorem inL_cons (m:ByteArray) (L:List ByteArray) (n:ByteArray) : inL (m :: L) n = (decide (m = n) || inL L n) := rfl
def without {β:Type} (L:List ByteArray) (l:List (ByteArray × β)) : List (ByteArray × β) := l.filter fun q => !inL L q.1
theorem without_map {β γ:Type} (f:β → γ) (L:List ByteArray) (l:List (ByteArray × β)) : without L (l.map fun p => (p.1,f p.2)) = (without L l).map fun p => (p.1,f p.2) := by
 unfold without
 rw [List.filter_map]; rfl
theorem without_nil {β:Type} (l:List (ByteArray × β)) : without [] l = l := by unfold without inL; simp
theorem without_cons {β:Type} (L:List ByteArray) (n:ByteArray) (l:List (ByteArray × β)) : without L (alDel l n) = without (n :: L) l := by
 unfold without alDel
 rw [List.filter_filter]
 congr 1
 funext q
 rw [inL_cons]
 by_cases h1 : q.1 = n
 ·subst h1; simp
 ·have : ¬ n = q.1 := fun e => h1 e.symm
  simp [h1,this]
theorem without_get {β:Type} {L:List ByteArray} (n:ByteArray) : ∀ l : List (ByteArray × β),alGet (without L l) n = if inL L n then none else alGet l n
 | [] => by simp [without,alGet]
 | q :: r => by
  have ih := without_get (L := L) n r
  unfold without at *
  rw [List.filter_cons]
  by_cases h : inL L q.1 = true
  ·rw [if_neg (by simp [h]),ih,← show (q.1,q.2) = q from rfl,alGet_cons]
   by_cases e : q.1 = n
   ·subst e; rw [if_pos h,if_pos h]
   ·rw [if_neg e]
  ·rw [if_pos (by simp [h]),← show (q.1,q.2) = q from rfl,alGet_cons,alGet_cons,ih]
   by_cases e : q.1 = n
   ·subst e; rw [if_pos rfl,if_neg h,if_pos rfl]
   ·rw [if_neg e,if_neg e]
def takeAll (L:List ByteArray) (X:AD) : AD := L.foldl (fun X n => X.turned (.take n)) X
theorem takeAll_facts : ∀ (L:List ByteArray) (X:AD),(takeAll L X).things = X.things ∧ (takeAll L X).next = X.next ∧ (takeAll L X).safe = X.safe ∧ (takeAll L X).plan = X.plan ∧ (takeAll L X).row = X.row ++ L.map Turn.take ∧ (takeAll L X).shown = without L X.shown
 | [],X => ⟨rfl,rfl,rfl,rfl,by simp [takeAll],by unfold takeAll; rw [List.foldl_nil,without_nil]⟩
 | n :: L,X => by
  obtain ⟨h1,h2,h3,h4,h5,h6⟩ := takeAll_facts L (X.turned (.take n))
  refine ⟨h1,h2,h3,h4,?_,?_⟩
  ·show (takeAll L (X.turned (.take n))).row = _
   rw [h5]; show (X.row ++ [.take n]) ++ _ = _
   simp
  ·show (takeAll L (X.turned (.take n))).shown = _
   rw [h6]
   exact without_cons L n X.shown
theorem takeAll_snoc (L:List ByteArray) (n:ByteArray) (X:AD) : takeAll (L ++ [n]) X = (takeAll L X).turned (.take n) := by unfold takeAll; rw [List.foldl_append]; rfl
theorem foldT_takes : ∀ (L:List ByteArray) (l:Names),foldT (L.map Turn.take) l = without L l
 | [],l => by unfold foldT; rw [List.map_nil,List.foldl_nil,without_nil]
 | n :: L,l => by
  have ih := foldT_takes L (alDel l n)
  unfold foldT at *
  rw [List.map_cons,List.foldl_cons]
  show List.foldl _ (alDel l n) _ = _
  rw [ih]
  exact without_cons L n l
section
variable {S:AD} {L:List ByteArray}
theorem crash_taken (h:AtRest S) (L:List ByteArray) (picks:List Int) : ∃ j,((takeAll L S).crash picks).files = without (L.take j) S.files := by
 obtain ⟨h1,h2,h3,h4,h5,h6⟩ := takeAll_facts L S
 rw [h.set.row,List.nil_append] at h5
 refine ⟨pickA picks 0 (takeAll L S).row.length,?_⟩
 rw [crash_files]
 have e : (takeAll L S).crashNames picks = without (L.take (pickA picks 0 (takeAll L S).row.length)) S.shown := by
  unfold AD.crashNames
  rw [h3,h.set.safe]
  generalize pickA picks 0 (takeAll L S).row.length = j
  rw [h5,← List.map_take]
  exact foldT_takes _ _
 rw [e]
 generalize pickA picks 0 (takeAll L S).row.length = j
 rw [zip_map (f := (takeAll L S).crashBytes picks) (g := fun t => (S.things t).shown) _ 0 fun q hq i => ?_]
 ·unfold AD.files
  exact (without_map (fun t => (S.things t).shown) _ _).symm
 ·have hq' : q ∈ S.shown := (List.mem_filter.1 hq).1
  show ((takeAll L S).things q.2).left _ = _
  rw [h1]
  exact settled_left h.set hq' _
theorem remAll (X:AD) : ∀ (R L:List ByteArray) (a b:Int),(∀ n ∈ R,isName n = true ∧ ∃ t,alGet X.shown n = some t) → (L ++ R).Nodup →
    (AD.removeAll R ((takeAll L X).cnt a b false) = (0,(takeAll (L ++ R) X).cnt (a + R.length) (b + R.length) false)) ∨
    (∃ j a' b' b0,b ≤ b0 ∧ outAt X b0 = true ∧ 1 ≤ j ∧ j ≤ R.length ∧ AD.removeAll R ((takeAll L X).cnt a b false) = (50,(takeAll (L ++ R.take j) X).cnt a' b' true))
  | [],L,a,b,_,_ => .inl (by simp [AD.removeAll])
  | n :: R,L,a,b,hn,hd => by
    obtain ⟨h1,h2,h3,h4,h5,h6⟩ := takeAll_facts L X
    obtain ⟨hnm,t,ht⟩ := hn n List.mem_cons_self
    have hnL : n ∉ L := fun hm => by
      have := (List.nodup_append.1 hd).2.2 n hm n List.mem_cons_self
      exact this rfl
    have hg : alGet (takeAll L X).shown n = some t := by rw [h6,without_get,if_neg (fun h => hnL (inL_iff.1 h))]; exact ht
    have hr := cnt_remove (X := takeAll L X) (a := a) (b := b) hnm hg
    have ho : outAt (takeAll L X) b = outAt X b := by unfold outAt; rw [h4]
    rw [ho] at hr
    unfold AD.removeAll
    cases hout : outAt X b
    · rw [hout] at hr
      simp only [Bool.false_eq_true,if_false] at hr
      rw [andE_ok hr,← takeAll_snoc]
      rcases remAll X R (L ++ [n]) (a + 1) (b + 1) (fun m hm => hn m (List.mem_cons_of_mem _ hm)) (by simpa using hd) with e | ⟨j,a',b',b0,g1,g2,g3,g4,e⟩
      · left
        rw [e]
        have e1 : a + 1 + (R.length : Int) = a + ((n :: R).length : Nat) := by simp; omega
        have e2 : b + 1 + (R.length : Int) = b + ((n :: R).length : Nat) := by simp; omega
        rw [e1,e2,List.append_assoc]; rfl
      · right
        refine ⟨j + 1,a',b',b0,by omega,g2,by omega,by simp; omega,?_⟩
        rw [e,List.append_assoc]; rfl
    · rw [hout] at hr
      simp only [if_true] at hr
      rw [andE_bad hr (by decide)]
      right
      refine ⟨1,a + 1,b + 1,b,Int.le_refl _,hout,Nat.le_refl _,by simp,?_⟩
      rw [show (n :: R).take 1 = [n] by simp,takeAll_snoc]
theorem settled_taken (h:AtRest S) (L:List ByteArray) (a b:Int) : Settled ((takeAll L S).synced.cnt a b false) := by
 obtain ⟨h1,h2,h3,h4,h5,h6⟩ := takeAll_facts L S
 refine ⟨rfl,rfl,fun q hq => ?_⟩
 have hq : q ∈ (takeAll L S).shown := hq
 rw [h6] at hq
 show ((takeAll L S).things q.2).row = [] ∧ ((takeAll L S).things q.2).safe = ((takeAll L S).things q.2).shown
 rw [h1]
 exact h.set.things q (List.mem_filter.1 hq).1
theorem clean_law (h:AtRest S) (hL:∀ n ∈ L,isName n = true ∧ ∃ t,alGet S.shown n = some t) (hd:L.Nodup) :
    ((S.cleanF L).1 = 0 ∧ Settled (S.cleanF L).2 ∧ (S.cleanF L).2.off = false ∧ (S.cleanF L).2.files = without L S.files ∧ (S.cleanF L).2.strokes = S.strokes + (if L = [] then 0 else (L.length : Int) + 1)) ∨
    (L ≠ [] ∧ (S.cleanF L).1 = 50 ∧ (∃ b,S.since ≤ b ∧ outAt S b = true) ∧ (S.cleanF L).2.off = true ∧ ∀ picks,∃ j,((S.cleanF L).2.crash picks).files = without (L.take j) S.files) := by
  have hs := cnt_self S h.off
  have hf : ∀ L,(takeAll L S).files = without L S.files := fun L => by
    obtain ⟨h1,h2,h3,h4,h5,h6⟩ := takeAll_facts L S
    unfold AD.files
    rw [h6,h1]
    exact (without_map (fun t => (S.things t).shown) _ _).symm
  have hc : S.cleanF L = andE (AD.removeAll L (S.cnt S.strokes S.since false)) (fun T e => (e,T)) fun S1 => if L = [] then (0,S1) else S1.syncNames := by
    rw [← hs]; unfold AD.cleanF; rw [h.off]; rfl
  rw [hc]
  rcases remAll S L [] S.strokes S.since hL (by simpa using hd) with e | ⟨j,a',b',b0,g1,g2,g3,g4,e⟩
  · have e : AD.removeAll L (S.cnt S.strokes S.since false) = (0,(takeAll L S).cnt (S.strokes + L.length) (S.since + L.length) false) := e
    rw [andE_ok e]
    by_cases h0 : L = []
    · subst h0
      left
      rw [if_pos rfl]
      refine ⟨rfl,⟨h.set.row,h.set.safe,h.set.things⟩,rfl,?_,by simp [AD.cnt]⟩
      rw [without_nil]; rfl
    · rw [if_neg h0]
      have hy := cnt_syncNames (X := takeAll L S) (a := S.strokes + L.length) (b := S.since + L.length)
      have ho : outAt (takeAll L S) (S.since + L.length) = outAt S (S.since + L.length) := by
        obtain ⟨h1,h2,h3,h4,h5,h6⟩ := takeAll_facts L S
        unfold outAt; rw [h4]
      rw [ho] at hy
      cases hout : outAt S (S.since + L.length)
      · rw [hout] at hy
        simp only [Bool.false_eq_true,if_false] at hy
        left
        rw [hy]
        refine ⟨rfl,settled_taken h L _ _,rfl,hf L,?_⟩
        rw [if_neg h0]; show S.strokes + (L.length : Int) + 1 = _; omega
      · rw [hout] at hy
        simp only [if_true] at hy
        right
        rw [hy]
        exact ⟨h0,rfl,⟨_,by omega,hout⟩,rfl,fun picks => crash_taken h L picks⟩
  · have e : AD.removeAll L (S.cnt S.strokes S.since false) = (50,(takeAll (L.take j) S).cnt a' b' true) := e
    rw [andE_bad e (by decide)]
    right
    refine ⟨fun h0 => by subst h0; simp at g4; omega,rfl,⟨b0,g1,g2⟩,rfl,fun picks => ?_⟩
    obtain ⟨i,hi⟩ := crash_taken h (L.take j) picks
    refine ⟨min i j,?_⟩
    show ((takeAll (L.take j) S).crash picks).files = _
    rw [hi,List.take_take]
end
def sizes (fs:List FileA) : Nat := (fs.map fun f => f.2.length).sum
structure Picked (room:Int) (fs:List FileA) : Prop where
 names : ∀ f ∈ fs,isName f.1 = true
 nd : (fs.map (·.1)).Nodup
 sum : (sizes fs:Int) ≤ room
def pickGo {α:Type} (room:Int) : List (FileA × α) → List (FileA × α) → List (FileA × α)
 | [],acc => acc
 | x :: r,acc => if isName x.1.1 = false ∨ ((sizes (acc.map (·.1)) : Nat) : Int) + x.1.2.length > room ∨ (alGet (acc.map (·.1)) x.1.1).isSome = true then pickGo room r acc else pickGo room r (acc ++ [x])
theorem sizes_snoc (fs:List FileA) (f:FileA) : sizes (fs ++ [f]) = sizes fs + f.2.length := by unfold sizes; simp
theorem pickGo_ok {α:Type} {room:Int} : ∀ (r acc:List (FileA × α)),Picked room (acc.map (·.1)) → Picked room ((pickGo room r acc).map (·.1)) ∧ (pickGo room r acc).length ≤ acc.length + r.length
 | [],acc,h => ⟨h,Nat.le_refl _⟩
 | x :: r,acc,h => by
  unfold pickGo
  split
  ·obtain ⟨a,b⟩ := pickGo_ok r acc h
   exact ⟨a,by simp only [List.length_cons]; omega⟩
  ·rename_i hc
   simp only [not_or] at hc
   obtain ⟨c1,c2,c3⟩ := hc
   have hn : isName x.1.1 = true := by simpa using c1
   have hg : alGet (acc.map (·.1)) x.1.1 = none := by simpa using c3
   have h' : Picked room ((acc ++ [x]).map (·.1)) := by
    rw [List.map_append]
    refine ⟨fun f hf => ?_,?_,?_⟩
    ·rcases List.mem_append.1 hf with hf | hf
     ·exact h.names f hf
     ·rw [List.mem_singleton.1 hf]; exact hn
    ·rw [List.map_append,List.nodup_append]
     refine ⟨h.nd,by simp,fun a ha b hb e => ?_⟩
     obtain ⟨f,hf,rfl⟩ := List.mem_map.1 ha
     have hb' : b = x.1.1 := by simpa using hb
     exact alGet_none_iff.1 hg f hf (e.trans hb')
    ·show ((sizes (acc.map (·.1) ++ [x.1]) : Nat) : Int) ≤ room
     rw [sizes_snoc]; omega
   obtain ⟨a,b⟩ := pickGo_ok r (acc ++ [x]) h'
   exact ⟨a,by simp only [List.length_append,List.length_cons,List.length_nil] at b ⊢; omega⟩
section
variable {room:Int} {fs:List FileA}
theorem load_keys : ∀ k,k ≤ fs.length → ∀ n,(∃ t,(n,t) ∈ (AD.loadTo room fs k).shown) ↔ n ∈ (fs.take k).map (·.1) := by
 intro k
 induction k with
 | zero => intro _ n; simp [loadTo_zero,AD.new]
 | succ k ih =>
  intro hk n
  rw [loadTo_succ room (by omega),List.take_succ_eq_append_getElem (by omega),List.map_append,List.mem_append,← ih (by omega) n]
  show (∃ t,(n,t) ∈ setN (AD.loadTo room fs k).shown fs[k].1 (AD.loadTo room fs k).next) ↔ _
  constructor
  ·rintro ⟨t,ht⟩
   rcases mem_setN.1 ht with e | ⟨h,_⟩
   ·right; simp [(Prod.mk.inj e).1]
   ·exact .inl ⟨t,h⟩
  ·rintro (⟨t,ht⟩ | h)
   ·by_cases e : n = fs[k].1
    ·exact ⟨(AD.loadTo room fs k).next,mem_setN.2 (.inl (by rw [e]))⟩
    ·exact ⟨t,mem_setN.2 (.inr ⟨ht,e⟩)⟩
   ·have e : n = fs[k].1 := by simpa using h
    exact ⟨(AD.loadTo room fs k).next,mem_setN.2 (.inl (by rw [e]))⟩
theorem load_fresh (h:Picked room fs) {k:Nat} (hk:k < fs.length) : alGet (AD.loadTo room fs k).shown fs[k].1 = none := by
 refine alGet_none_iff.2 fun p hp e => ?_
 have hm := (load_keys (room := room) (fs := fs) k (by omega) p.1).1 ⟨p.2,hp⟩
 rw [e] at hm
 have hnd := h.nd
 rw [← List.take_append_drop k fs,List.drop_eq_getElem_cons hk,List.map_append,List.nodup_append] at hnd
 exact hnd.2.2 _ hm _ (by rw [List.map_cons]; exact List.mem_cons_self) rfl
theorem load_dup (h:Picked room fs) : ∀ j,j < fs.length → dupAt room fs j = false := by
 intro j hj
 unfold dupAt
 rw [List.getElem?_eq_getElem hj]
 show (alGet (AD.loadTo room fs j).shown fs[j].1).isSome = false
 rw [load_fresh h hj]; rfl
theorem load_things : ∀ k,k ≤ fs.length → ∀ t,((AD.loadTo room fs k).things t).row = [] ∧ ((AD.loadTo room fs k).things t).safe = ((AD.loadTo room fs k).things t).shown := by
 intro k
 induction k with
 | zero => intro _ t; exact ⟨rfl,rfl⟩
 | succ k ih =>
  intro hk t
  rw [loadTo_succ room (by omega)]
  show (if t = (AD.loadTo room fs k).next then (⟨fs[k].2,fs[k].2,[]⟩ : Thg) else (AD.loadTo room fs k).things t).row = [] ∧ (if t = (AD.loadTo room fs k).next then (⟨fs[k].2,fs[k].2,[]⟩ : Thg) else (AD.loadTo room fs k).things t).safe = (if t = (AD.loadTo room fs k).next then (⟨fs[k].2,fs[k].2,[]⟩ : Thg) else (AD.loadTo room fs k).things t).shown
  split
  ·exact ⟨rfl,rfl⟩
  ·exact ih (by omega) t
theorem load_rest : ∀ k,k ≤ fs.length → (AD.loadTo room fs k).off = false ∧ (AD.loadTo room fs k).strokes = 0 ∧ (AD.loadTo room fs k).since = 0 ∧ (AD.loadTo room fs k).plan = .zero := by
 intro k
 induction k with
 | zero => intro _; exact ⟨rfl,rfl,rfl,rfl⟩
 | succ k ih => intro hk; rw [loadTo_succ room (by omega)]; exact ih (by omega)
theorem isName_size {n:ByteArray} (h:isName n = true) : n.size ≤ 112 := by
 unfold isName at h
 simp only [Bool.and_eq_true,decide_eq_true_eq] at h
 exact h.2
theorem sizes_mem : ∀ {fs:List FileA} {f:FileA},f ∈ fs → f.2.length ≤ sizes fs
 | g :: r,f,h => by
  unfold sizes
  rw [List.map_cons,List.sum_cons]
  rcases List.mem_cons.1 h with rfl | h
  ·omega
  ·have := sizes_mem h; unfold sizes at this; omega
theorem load_all (hr:1 ≤ room ∧ room ≤ 1048576) (h:Picked room fs) (hl:fs.length ≤ 256) : AD.loadCode room fs = 0 ∧ AtRest (AD.loadTo room fs fs.length) ∧ (∀ q ∈ (AD.loadTo room fs fs.length).shown,isName q.1 = true) := by
 have hd : ∀ f ∈ fs,f.2.length ≤ 1048576 := fun f hf => by have := sizes_mem hf; have := h.sum; omega
 have hL := fun k hk => loading_to (room := room) hr hl (fun f hf => isName_size (h.names f hf)) hd k hk (fun j hj => load_dup h j (by omega))
 have hu : ∀ k,k ≤ fs.length → (AD.loadTo room fs k).used = sizes (fs.take k) := by
  intro k
  induction k with
  | zero => intro _; rfl
  | succ k ih =>
   intro hk
   rw [loadTo_succ room (by omega),used_add (hL k (by omega)) (load_fresh h (by omega)),ih (by omega),List.take_succ_eq_append_getElem (by omega),sizes_snoc]
 refine ⟨?_,⟨⟨(hL _ (Nat.le_refl _)).row,(hL _ (Nat.le_refl _)).safe,fun q _ => load_things _ (Nat.le_refl _) q.2⟩,(load_rest _ (Nat.le_refl _)).1,0,(hL _ (Nat.le_refl _)).ok⟩,fun q hq => ?_⟩
 ·unfold AD.loadCode
  rw [if_neg (by omega),if_neg (by omega),if_neg,if_neg,if_neg]
  ·rw [hu _ (Nat.le_refl _),List.take_length]; have := h.sum; omega
  ·rw [Bool.not_eq_true,List.any_eq_false]
   intro j hj
   rw [load_dup h j (List.mem_range.1 hj)]; simp
  ·rw [Bool.not_eq_true,List.any_eq_false]
   intro f hf
   rw [h.names f hf]; simp
 ·have := (load_keys (room := room) (fs := fs) _ (Nat.le_refl _) q.1).1 ⟨q.2,hq⟩
  obtain ⟨f,hf,e⟩ := List.mem_map.1 this
  rw [← e]; exact h.names f (List.mem_of_mem_take hf)
end
end Go.Proofs.XDisk

namespace Go.Proofs.XSep
open Go Go.RowKit Go.Proofs.XRed Go.Proofs.XHeap
theorem Seps.at2 {w:World} {J:Blks} {a b:Asrt} : ∀ {l:List Asrt} {i j:Nat} {O I:Blks},Seps l w O I → (∀ b,O b → ¬ J b) → i ≠ j → l[i]? = some a → l[j]? = some b →
    ∃ O1 I1 O2 I2,a.h w O1 I1 ∧ b.h w O2 I2 ∧ (∀ x,O1 x → ¬ O2 x ∧ ¬ I2 x) ∧ (∀ x,O2 x → ¬ O1 x ∧ ¬ I1 x) ∧ (∀ b,O1 b → O b) ∧ (∀ b,I1 b → I b) ∧ ∀ c w' O' I',c.h w' O' I' → Nxt w O1 J w' O' I' → ∃ O3 I3,Seps (l.set i c) w' O3 I3 ∧ Fr O w w' ∧ (∀ b,O3 b → O b ∨ w.heap.size ≤ b) ∧ ∀ b,I3 b → I b ∨ J b ∨ w.heap.size ≤ b
  | [],_,_,_,_,_,_,_,h,_ => by simp at h
  | x :: l,0,0,_,_,_,_,h,_,_ => absurd rfl h
  | x :: l,0,j + 1,O,I,hs,hJ,_,hi,hj => by
    have hs0 := hs
    obtain ⟨Oa,Ia,Ob,Ib,h1,h2,h3,h4,h5⟩ := hs
    simp at hi; subst hi
    obtain ⟨O2,I2,g1,g2,g3,_⟩ := h2.at_ (J := fun _ => False) (i := j) (a := b) (fun _ _ h => h) (by simpa using hj)
    refine ⟨Oa,Ia,O2,I2,h1,g1,fun x hx => ⟨fun h => (h3.1 x hx).1 (g2 x h),fun h => (h3.1 x hx).2 (g3 x h)⟩,fun x hx => h3.2 x (g2 x hx),fun b hb => (h4 b).2 (.inl hb),fun b hb => (h5 b).2 (.inl hb),fun c w' O' I' hc hn => ?_⟩
    refine ⟨fun b => O' b ∨ Ob b,fun b => I' b ∨ Ib b,⟨O',I',Ob,Ib,hc,Seps.fr hn.fr h2 h3.1,⟨fun b hb => ?_,fun b hb => ?_⟩,fun _ => Iff.rfl,fun _ => Iff.rfl⟩,?_,?_,?_⟩
    · rcases hn.on b hb with h | h
      · exact h3.1 b h
      · exact ⟨fun h' => absurd (h2.lt b (.inl h')) (by omega),fun h' => absurd (h2.lt b (.inr h')) (by omega)⟩
    · have hlt := h2.lt b (.inl hb)
      refine ⟨fun h => ?_,fun h => ?_⟩
      · rcases hn.on b h with h | h
        · exact (h3.1 b h).1 hb
        · omega
      · rcases hn.in_ b h with h | h
        · exact hJ b ((h4 b).2 (.inr hb)) h
        · omega
    · exact hn.fr.mono fun b hb => .inl ((h4 b).2 (.inl hb))
    · rintro b (hb | hb)
      · exact (hn.on b hb).imp (fun h => (h4 b).2 (.inl h)) id
      · exact .inl ((h4 b).2 (.inr hb))
    · rintro b (hb | hb)
      · exact .inr (hn.in_ b hb)
      · exact .inl ((h5 b).2 (.inr hb))
  | x :: l,i + 1,j,O,I,⟨O1,I1,O2,I2,h1,h2,h3,h4,h5⟩,hJ,hij,hi,hj => by
    have main : ∀ Oa Ia,a.h w Oa Ia → (∀ b,Oa b → O2 b) → (∀ b,Ia b → I2 b) → (∀ c w' O' I',c.h w' O' I' → Nxt w Oa J w' O' I' → ∃ O3 I3,Seps (l.set i c) w' O3 I3 ∧ Fr O2 w w' ∧ (∀ b,O3 b → O2 b ∨ w.heap.size ≤ b) ∧ ∀ b,I3 b → I2 b ∨ J b ∨ w.heap.size ≤ b) →
        ∀ c w' O' I',c.h w' O' I' → Nxt w Oa J w' O' I' → ∃ O3 I3,Seps ((x :: l).set (i + 1) c) w' O3 I3 ∧ Fr O w w' ∧ (∀ b,O3 b → O b ∨ w.heap.size ≤ b) ∧ ∀ b,I3 b → I b ∨ J b ∨ w.heap.size ≤ b := by
      intro Oa Ia ha ho hi2 hs c w' O' I' hc hn
      obtain ⟨O3,I3,hs3,hf,hon,hin⟩ := hs c w' O' I' hc hn
      refine ⟨fun b => O1 b ∨ O3 b,fun b => I1 b ∨ I3 b,⟨O1,I1,O3,I3,x.fr h1 hf h3.2,hs3,⟨fun b hb => ?_,fun b hb => ?_⟩,fun _ => Iff.rfl,fun _ => Iff.rfl⟩,?_,?_,?_⟩
      · have hlt := x.lt h1 b (.inl hb)
        refine ⟨fun h => ?_,fun h => ?_⟩
        · rcases hon b h with h | h
          · exact (h3.1 b hb).1 h
          · omega
        · rcases hin b h with h | h | h
          · exact (h3.1 b hb).2 h
          · exact hJ b ((h4 b).2 (.inl hb)) h
          · omega
      · rcases hon b hb with h | h
        · exact h3.2 b h
        · exact ⟨fun h' => absurd (x.lt h1 b (.inl h')) (by omega),fun h' => absurd (x.lt h1 b (.inr h')) (by omega)⟩
      · exact hf.mono fun b hb => .inl ((h4 b).2 (.inr hb))
      · rintro b (hb | hb)
        · exact .inl ((h4 b).2 (.inl hb))
        · exact (hon b hb).imp (fun h => (h4 b).2 (.inr h)) id
      · rintro b (hb | hb)
        · exact .inl ((h5 b).2 (.inl hb))
        · rcases hin b hb with h | h
          · exact .inl ((h5 b).2 (.inr h))
          · exact .inr h
    cases j with
    | zero =>
      simp at hj; subst hj
      obtain ⟨Oa,Ia,ha,ho,hi2,hs⟩ := h2.at_ (J := J) (i := i) (a := a) (fun b hb => hJ b ((h4 b).2 (.inr hb))) (by simpa using hi)
      exact ⟨Oa,Ia,O1,I1,ha,h1,fun y hy => h3.2 y (ho y hy),fun y hy => ⟨fun h => (h3.1 y hy).1 (ho y h),fun h => (h3.1 y hy).2 (hi2 y h)⟩,fun b hb => (h4 b).2 (.inr (ho b hb)),fun b hb => (h5 b).2 (.inr (hi2 b hb)),main Oa Ia ha ho hi2 hs⟩
    | succ j =>
      obtain ⟨Oa,Ia,Oc,Ic,ha,hc,g1,g2,ho,hi2,hs⟩ := Seps.at2 (J := J) (i := i) (j := j) h2 (fun b hb => hJ b ((h4 b).2 (.inr hb))) (by omega) (by simpa using hi) (by simpa using hj)
      exact ⟨Oa,Ia,Oc,Ic,ha,hc,g1,g2,fun b hb => (h4 b).2 (.inr (ho b hb)),fun b hb => (h5 b).2 (.inr (hi2 b hb)),main Oa Ia ha ho hi2 hs⟩
theorem Sep.at2 {l:List Asrt} {w:World} (h:Sep l w) (i j:Nat) {a b:Asrt} (hij:i ≠ j) (hi:l[i]? = some a) (hj:l[j]? = some b) :
    ∃ O I O2 I2 J,a.h w O I ∧ b.h w O2 I2 ∧ (∀ x,O x → ¬ O2 x ∧ ¬ I2 x) ∧ (∀ x,O2 x → ¬ O x ∧ ¬ I x) ∧ (∀ b,I b → J b) ∧ (∀ b,O b → ¬ J b) ∧ ∀ c w' O' I',c.h w' O' I' → Nxt w O J w' O' I' → Sep (l.set i c) w' := by
  obtain ⟨O,I,hs⟩ := h
  obtain ⟨O1,I1,O2,I2,h1,h2,g1,g2,h3,h4,h5⟩ := hs.at2 (J := I) hs.ap hij hi hj
  refine ⟨O1,I1,O2,I2,I,h1,h2,g1,g2,h4,fun b hb => hs.ap b (h3 b hb),fun c w' O' I' hc hn => ?_⟩
  obtain ⟨O3,I3,h6,-⟩ := h5 c w' O' I' hc hn
  exact ⟨O3,I3,h6⟩
theorem perm_front {α:Type} : ∀ {l:List α} {i:Nat} {a:α},l[i]? = some a → l.Perm (a :: l.eraseIdx i)
 | [],_,_,h => by simp at h
 | x :: l,0,a,h => by simp at h; subst h; exact .refl _
 | x :: l,i + 1,a,h => (List.Perm.cons x (perm_front (l := l) (i := i) (by simpa using h))).trans (List.Perm.swap _ _ _)
theorem Sep.front {w:World} {l:List Asrt} (h:Sep l w) (i:Nat) {a:Asrt} (hi:l[i]? = some a) : Sep (a :: l.eraseIdx i) w := h.perm (perm_front hi)
theorem Sep.erase {w:World} {l:List Asrt} (h:Sep l w) (i:Nat) {a:Asrt} (hi:l[i]? = some a) : Sep (l.eraseIdx i) w := (h.front i hi).drop
open Go.Proofs.XSlices
variable {w:World} {l:List Asrt} {ix:Nat} {te sz n:Nat} {v:Value} {cs:List Value}
end Go.Proofs.XSep

namespace Go.Proofs.XMaps
open Go Go.RowKit Go.MapKept Go.Proofs.XHeap
section
variable {P:Program} {w:World} {m:Nat} {l:List (ByteArray × Value)} {t kt et:TypeId}
theorem SMap.entry_new (h:SMap w m l) (ht:P.underlying t = some (.map kt et)) (hk:P.underlying kt = some .string) {z:Value} (hz:∀ w,(zeroValue et).run P w = .ok z w) (s:ByteArray) (hn:∀ p ∈ l,p.1 ≠ s) :
    ∃ (w1:World) (c:Nat),(Instr.mapEntry t (.map (some m)) (.string s)).run P w = .ok (.tuple #[z,.int .i64 c]) w1 ∧ Fr (fun b => b = m) w w1 ∧ w1.heap.size = w.heap.size ∧
      ∀ (v:Value) (w2:World),w2.heap[m]? = w1.heap[m]? → ∃ w3,(Instr.entryStore t (.map (some m)) (.int .i64 c) v).run P w2 = .ok () w3 ∧ SMap w3 m (l ++ [(s,v)]) ∧ Fr (fun b => b = m) w2 w3 ∧ w3.heap.size = w2.heap.size := by
  obtain ⟨es,clock,hb,hs,hl,hc⟩ := h.find s
  have hck := fun e => run_checkKey (P := P) (w := w) (k := .string s) hk trivial e 9999
  have hlt := lt_of_get hb
  rcases hc with ⟨h1,h1',h2⟩ | ⟨j,e,p,h1,h2,h3,h4,h5,h6⟩
  · refine ⟨ChangeMaps.setBlock w m (.map (es.push { key := .string s,val := z,born := clock }) (clock + 1)),clock,?_,Fr.setBlock _ _ _,by simp [ChangeMaps.setBlock],fun v w2 hw => ?_⟩
    · simp [Instr.mapEntry,run_underlying ht,MapKept.run_getObj_map hb,hck,run_findKey hk h1,hz,MapKept.run_setObj_map _ hb,Result.andThen,ChangeMaps.setBlock,goInt]
    · have hb2 : w2.heap[m]? = some (.map (es.push { key := .string s,val := z,born := clock }) (clock + 1)) := by
        rw [hw]; simp [ChangeMaps.setBlock,hlt]
      have hlt2 := lt_of_get hb2
      have hbn := ((stamped_iff es clock).1 hs).1
      have hfi : (es.push { key := .string s,val := z,born := clock }).findIdx? (fun e => (e.born : Int) == (clock:Int)) = some es.size := by
        rw [Array.findIdx?_eq_some_iff_getElem]
        refine ⟨by simp,by simp,fun j hj => ?_⟩
        have hj' : j < es.size := by simpa using hj
        have : es[j].born < clock := hbn es[j] (by simp)
        simp only [Array.getElem_push_lt hj']
        simp; omega
      have hmod : (es.push { key := .string s,val := z,born := clock }).modify es.size (fun e => { e with val := v }) = es.push { key := .string s,val := v,born := clock } := by
        apply Array.ext
        · simp
        · intro i h1 h2
          simp only [Array.getElem_modify,Array.getElem_push]
          by_cases he : es.size = i
          · subst he; simp
          · rw [if_neg he]
            have : i < es.size := by simp at h2; omega
            simp [this]
      refine ⟨ChangeMaps.setBlock w2 m (.map (es.push { key := .string s,val := v,born := clock }) (clock + 1)),?_,⟨es.push { key := .string s,val := v,born := clock },clock + 1,by simp [ChangeMaps.setBlock,hlt2],stamped_push hs h1',by simp [hl]⟩,Fr.setBlock _ _ _,by simp [ChangeMaps.setBlock]⟩
      simp [Instr.entryStore,MapKept.run_getObj_map hb2,asInt,asIntOf,hfi,hmod,MapKept.run_setObj_map _ hb2,Result.andThen,ChangeMaps.setBlock]
  · exact absurd h5 (hn p (List.mem_of_getElem? h4))
end
end Go.Proofs.XMaps
namespace Go.Proofs.XHeap
open Go Go.RowKit Go.Proofs.XRed
theorem s_boxC {P:Program} {w:World} {k:KV} {t:TypeId} {v:Value} {cs:Array Value} (h:v.cells = cs) (hk:k (.pointer (some ⟨w.heap.size,0,none⟩)) (w.alloc (.cells cs t))) : px P (Instr.box t v) w k := by
 subst h; exact s_box hk
end Go.Proofs.XHeap

set_option maxRecDepth 100000
namespace Go.Proofs.YteeeggphkhimcaaGreatDoor
open Go Go.Proofs Go.RowKit Go.Proofs.XRed Go.Proofs.XHeap Go.Proofs.XMaps Go.Proofs.XSlices Go.Proofs.XDisk Go.Proofs.XCalls Go.Proofs.XSep Tryz
section
variable {w w0:World} {D:Nat} {S S':AD} {O I:Nat → Prop} {L L':Lay} {k:KV}
theorem map_ne_cells {m b:Nat} {l:List (ByteArray × Value)} (h:SMap w m l) {c:Array Value} {T:TypeId} {f:Nat × Nat} (hb:w.heap[b]? = some (.cells c T f)) : b ≠ m := by
 rintro rfl
 obtain ⟨es,cl,he,_⟩ := h
 rw [he] at hb; cases hb
theorem DRep.addFile {w':World} {f:FileA} {T:Nat} {I':Nat → Prop} (h:DRep w D S O I L) (hn:∀ t,reach S t → t < S.next) (hrow:S.row = []) (e1:alGet S.shown f.1 = none) (e2:alGet S.safe f.1 = none)
    (hf:Fr (fun b => b = L.sh ∨ b = L.sf) w w') (hT:¬ O T) (hTlt:T < w'.heap.size)
    (hsh:SMap w' L.sh (mapVals L L.lsh ++ [(f.1,ptr T)])) (hsf:SMap w' L.sf (mapVals L L.lsf ++ [(f.1,ptr T)]))
    (hR:TRep w' (fun b => O b ∨ b = T) I' T (.slice none 0 0) ⟨f.2,f.2,[]⟩) (hII:∀ b,I b → I' b) (hIO:∀ b,I' b → ¬ O b ∧ b ≠ T ∧ b < w'.heap.size) :
    DRep w' D (S.addFile f) (fun b => O b ∨ b = T) I' { L with loc := fun i => if i = S.next then T else L.loc i,trow := fun i => if i = S.next then .slice none 0 0 else L.trow i,lsh := L.lsh ++ [(f.1,S.next)],lsf := L.lsf ++ [(f.1,S.next)] } := by
  have hM : ∀ {b c T f},w.heap[b]? = some (.cells c T f) → ¬ (b = L.sh ∨ b = L.sf) := by
    rintro b c T f hb (e | e)
    · exact map_ne_cells h.sh hb e
    · exact map_ne_cells h.sf hb e
  have hMI : ∀ b,I b → ¬ (b = L.sh ∨ b = L.sf) := by
    rintro b hb (e | e)
    · exact h.apart _ (e ▸ h.osh) (e ▸ hb)
    · exact h.apart _ (e ▸ h.osf) (e ▸ hb)
  have hreach : ∀ t,reach (S.addFile f) t → t = S.next ∨ reach S t := by
    have key : ∀ (m:ByteArray) (l:Names) t,(m,t) ∈ setN l f.1 S.next → t = S.next ∨ (m,t) ∈ l := by
      intro m l t hm
      rcases mem_setN.1 hm with e | hm
      · exact .inl (congrArg Prod.snd e)
      · exact .inr hm.1
    rintro t (⟨m,hm⟩ | ⟨m,hm⟩ | ⟨m,hm⟩)
    · exact (key m _ t hm).imp id fun h => .inl ⟨m,h⟩
    · exact (key m _ t hm).imp id fun h => .inr (.inl ⟨m,h⟩)
    · have e : (S.addFile f).row = [] := hrow
      rw [e] at hm; cases hm
  have hne : ∀ t,reach S t → t ≠ S.next := fun t ht e => by have := hn t ht; omega
  have hTR : ∀ t,reach S t → TRep w' O I (L.loc t) (L.trow t) (S.things t) := fun t ht => by
    have hU := h.things t ht
    obtain ⟨c,hc⟩ := hU.obj
    exact hU.fr (O' := O) hf (hM hc) (fun b hb => by obtain ⟨c',hc'⟩ := hU.robj hb; exact hM hc') hMI
  have hloc : ∀ t,reach S t → L.loc t ≠ T := fun t ht e => hT (e ▸ (h.things t ht).own)
  exact {
    disk := hf.get h.disk (hM h.disk)
    sh := by
      have e : mapVals { L with loc := fun i => if i = S.next then T else L.loc i,trow := fun i => if i = S.next then .slice none 0 0 else L.trow i,lsh := L.lsh ++ [(f.1,S.next)],lsf := L.lsf ++ [(f.1,S.next)] } (L.lsh ++ [(f.1,S.next)]) = mapVals L L.lsh ++ [(f.1,ptr T)] := by
        unfold mapVals
        rw [List.map_append]
        congr 1
        · exact List.map_congr_left fun p hp => by
            have := hne p.2 (.inl ⟨p.1,h.shp.mem_iff.1 hp⟩)
            simp [this]
        · simp
      exact e ▸ hsh
    shp := by
      show (L.lsh ++ [(f.1,S.next)]).Perm (setN S.shown f.1 S.next)
      refine List.Perm.trans ?_ (setN_perm S.shown f.1 S.next).symm
      rw [alDel_none (alGet_none_iff.1 e1)]
      exact (List.perm_append_singleton _ _).trans (List.Perm.cons _ h.shp)
    sf := by
      have e : mapVals { L with loc := fun i => if i = S.next then T else L.loc i,trow := fun i => if i = S.next then .slice none 0 0 else L.trow i,lsh := L.lsh ++ [(f.1,S.next)],lsf := L.lsf ++ [(f.1,S.next)] } (L.lsf ++ [(f.1,S.next)]) = mapVals L L.lsf ++ [(f.1,ptr T)] := by
        unfold mapVals
        rw [List.map_append]
        congr 1
        · exact List.map_congr_left fun p hp => by
            have := hne p.2 (.inr (.inl ⟨p.1,h.sfp.mem_iff.1 hp⟩))
            simp [this]
        · simp
      exact e ▸ hsf
    sfp := by
      show (L.lsf ++ [(f.1,S.next)]).Perm (setN S.safe f.1 S.next)
      refine List.Perm.trans ?_ (setN_perm S.safe f.1 S.next).symm
      rw [alDel_none (alGet_none_iff.1 e2)]
      exact (List.perm_append_singleton _ _).trans (List.Perm.cons _ h.sfp)
    ne := h.ne
    row := by
      have hr := h.row
      have e : (S.addFile f).row = S.row := rfl
      rw [e,hrow]
      rw [hrow] at hr
      exact own_fr hr hf fun b hb => by obtain ⟨c,hc⟩ := own_obj hr hb; exact hM hc
    reads := own_fr h.reads hf fun b hb => by obtain ⟨c,hc⟩ := own_obj h.reads hb; exact hM hc
    things := fun t ht => by
      show TRep w' _ I' (if t = S.next then T else L.loc t) (if t = S.next then .slice none 0 0 else L.trow t) (if t = S.next then ⟨f.2,f.2,[]⟩ else S.things t)
      rcases hreach t ht with rfl | ht
      · simp only [if_true]; exact hR
      · have hx := hne t ht
        simp only [if_neg hx]
        exact (hTR t ht).mono (O := O) (fun b => .inl) hII
    inj := fun t u ht hu e => by
      have e : (if t = S.next then T else L.loc t) = (if u = S.next then T else L.loc u) := e
      rcases hreach t ht with rfl | ht <;> rcases hreach u hu with rfl | hu
      · rfl
      · simp only [if_true,if_neg (hne u hu)] at e
        exact absurd e.symm (hloc u hu)
      · simp only [if_true,if_neg (hne t ht)] at e
        exact absurd e (hloc t ht)
      · simp only [if_neg (hne t ht),if_neg (hne u hu)] at e
        exact h.inj t u ht hu e
    rows := fun t u ht hu hd => by
      show ∀ b,sblk (if t = S.next then .slice none 0 0 else L.trow t) = some b → sblk (if u = S.next then .slice none 0 0 else L.trow u) ≠ some b
      rcases hreach t ht with rfl | ht <;> rcases hreach u hu with rfl | hu
      · exact absurd rfl hd
      · simp only [if_true]; intro b hb; cases hb
      · simp only [if_true,if_neg (hne t ht)]; intro b _ hb; cases hb
      · simp only [if_neg (hne t ht),if_neg (hne u hu)]; exact h.rows t u ht hu hd
    oD := .inl h.oD
    osh := .inl h.osh
    osf := .inl h.osf
    orow := fun b hb => .inl (h.orow b hb)
    oreads := fun b hb => .inl (h.oreads b hb)
    apart := by
      rintro b (hb | rfl) hi
      · exact (hIO b hi).1 hb
      · exact (hIO b hi).2.1 rfl
    lt := by
      rintro b ((hb | rfl) | hb)
      · exact Nat.lt_of_lt_of_le (h.lt b (.inl hb)) hf.size
      · exact hTlt
      · exact (hIO b hb).2.2 }
theorem c_indexF {v:Value} {l:FilesL} (hv:FilesS w v l) (hl:l.length ≤ 4611686018427387904) (hsz:∀ f ∈ l.plain,f.1.size ≤ 9223372036854775807) (h0:l.plain.any (fun f => !isName f.1) = false → ∀ w',Fr no w w' → k (i64 (-1)) w') (h1:l.plain.any (fun f => !isName f.1) = true → ∀ (i:Nat) w',Fr no w w' → k (i64 i) w') : pFn P 186 [v,.func (.func 150) #[] #[]] w k := by
 refine F186_in _ _ _ _ ?_
 unfold F186_0
 refine s_lenS usl36 hv.src ?_
 refine F186L1_inv (m := l.length) k (fun m ρ w' => ∃ i : Nat,i + m = l.length ∧ Fr no w w' ∧ ρ 0 = v ∧ ρ 1 = .func (.func 150) #[] #[] ∧ ρ 7 = i64 l.length ∧ ρ 8 = i64 i ∧ ∀ j (hj:j < l.length),j < i → isName l[j].1.1 = true) ?_
  ⟨0,by omega,Fr.refl _ _,rfl,rfl,rfl,rfl,fun j hj h => absurd h (by omega)⟩
 rintro m ρ w' ⟨i,him,hf,e0,e1,e7,e8,hall⟩
 rw [F186_1_eq]
 unfold F186_1
 rw [e0,e1,e7,e8]
 by_cases hi : i < l.length
 ·obtain ⟨b,o,c,ev,c0,c1⟩ := (hv.fr hf).at_ hi
  refine s_lt_t (by omega) (pC_true ?_)
  rw [ev]
  refine s_ix (i := (i:Int)) usl36 (sze36 _) (by omega) (by omega) (s_ld2 (isAgg107 _) (sizeOf107 _) (by simpa using c0) (by simpa using c1) ?_)
  show pFn P 150 [.agg #[.string l[i].1.1,l[i].2]] w' _
  refine F150_in _ _ _ ?_
  unfold F150_0
  refine s_box ?_
  have hb := alloc_new w' (.cells #[.string l[i].1.1,l[i].2] 107)
  have fb := Fr.alloc no w' (.cells #[.string l[i].1.1,l[i].2] 107)
  show px P _ (w'.alloc (.cells #[.string l[i].1.1,l[i].2] 107)) _
  generalize w'.alloc (.cells #[.string l[i].1.1,l[i].2] 107) = w1 at *
  have hf1 : Fr no w w1 := hf.trans fb fun b hb => .inl hb
  refine fa107_0 (s_ldb (v := .string l[i].1.1) (isAgg9 _) hb rfl ?_)
  have hmem : l[i].1 ∈ l.plain := List.mem_map.2 ⟨l[i],List.getElem_mem hi,rfl⟩
  refine c_isName _ (hsz _ hmem) (s_not ?_)
  cases hn : isName l[i].1.1 with
  | false =>
   refine pC_true (h1 ?_ i w1 hf1)
   exact List.any_eq_true.2 ⟨l[i].1,hmem,by rw [hn]; rfl⟩
  | true =>
   refine pC_false (s_add_in (by omega) ⟨m - 1,by omega,i + 1,by omega,hf1,e0.trans (by first | rfl | exact ev),e1,e7,?_,fun j hj h => ?_⟩)
   ·show i64 _ = i64 _; simp
   ·rcases Nat.lt_or_ge j i with h' | h'
    ·exact hall j hj h'
    ·have : j = i := by omega
     subst this; exact hn
 ·refine s_lt_f (by omega) (pC_false ?_)
  rw [F186_2_eq]
  unfold F186_2
  refine h0 ?_ w' hf
  rw [List.any_eq_false]
  intro f hf'
  obtain ⟨q,hq,rfl⟩ := List.mem_map.1 hf'
  obtain ⟨j,hj,rfl⟩ := List.mem_iff_getElem.1 hq
  rw [hall j hj (by omega)]; simp
theorem c_containsF {v:Value} {l:FilesL} (hv:FilesS w v l) (hl:l.length ≤ 4611686018427387904) (hsz:∀ f ∈ l.plain,f.1.size ≤ 9223372036854775807) (hk:∀ w',Fr no w w' → k (.bool (l.plain.any fun f => !isName f.1)) w') : pFn P 149 [v,.func (.func 150) #[] #[]] w k := by
 refine F149_in _ _ _ _ ?_
 unfold F149_0
 refine c_indexF hv hl hsz (fun h w' f => ?_) fun h i w' f => ?_
 ·rw [h] at hk; exact s_ge_f (by omega) (hk w' f)
 ·rw [h] at hk; exact s_ge_t (by omega) (hk w' f)
end
end Go.Proofs.YteeeggphkhimcaaGreatDoor
