/- Put together by a program (wip/tools/shake.py): XCut,XTorn,XCut2,XCut3,XKeep,XSep2,XSep3. -/
import Derived.Test.YteeeggphkhimcaaGreatDoorH12
import Derived.Test.YteeeggphkhimcaaGreatDoorH7
set_option linter.unusedVariables false
set_option linter.unusedSimpArgs false
namespace Go.Proofs.XDisk
open Go.Proofs.XMaps
def rst {β:Type} (one two:ByteArray) (l:List (ByteArray × β)) : List (ByteArray × β) := l.filter fun p => decide (p.1 ≠ one) && decide (p.1 ≠ two)
section
variable {β γ:Type} {one two:ByteArray}
theorem rst_map (f:β → γ) (l:List (ByteArray × β)) : rst one two (l.map fun p => (p.1,f p.2)) = (rst one two l).map fun p => (p.1,f p.2) := by
 unfold rst
 rw [List.filter_map]; rfl
theorem rst_del {l:List (ByteArray × β)} {s:ByteArray} (h:s = one ∨ s = two) : rst one two (alDel l s) = rst one two l := by
 unfold rst alDel
 rw [List.filter_filter]
 congr 1
 funext p
 rcases h with rfl | rfl
 ·by_cases e : p.1 = s <;> simp [e]
 ·by_cases e : p.1 = s <;> simp [e]
theorem rst_ins {s:ByteArray} {t:Nat} (h:s = one ∨ s = two) : ∀ l : Names,rst one two (insN l s t) = rst one two l
 | [] => by unfold insN rst; rcases h with rfl | rfl <;> simp
 | p :: r => by
  unfold insN
  split
  ·unfold rst; rcases h with rfl | rfl <;> simp
  ·have ih := rst_ins (t := t) h r
   unfold rst at *
   rw [List.filter_cons,List.filter_cons,ih]
theorem rst_set {l:Names} {s:ByteArray} {t:Nat} (h:s = one ∨ s = two) : rst one two (setN l s t) = rst one two l := by
 unfold setN
 rw [rst_ins h,rst_del h]
theorem mem_rst {l:List (ByteArray × β)} {p:ByteArray × β} (h:p ∈ rst one two l) : p ∈ l := (List.mem_filter.1 h).1
theorem alGet_map (f:β → γ) : ∀ (l:List (ByteArray × β)) (n:ByteArray),alGet (l.map fun p => (p.1,f p.2)) n = (alGet l n).map f
 | [],n => rfl
 | p :: r,n => by
  have ih := alGet_map f r n
  rw [List.map_cons,alGet_cons,← show (p.1,p.2) = p from rfl,alGet_cons,ih]
  split <;> rfl
theorem alGet_zip (f:Nat → Nat → Bytes) : ∀ (l:Names) (j:Nat) (n:ByteArray),(alGet l n = none ∧ alGet ((l.zipIdx j).map fun q => (q.1.1,f q.2 q.1.2)) n = none) ∨ ∃ t i,alGet l n = some t ∧ alGet ((l.zipIdx j).map fun q => (q.1.1,f q.2 q.1.2)) n = some (f i t)
 | [],_,_ => .inl ⟨rfl,rfl⟩
 | p :: r,j,n => by
  have ih := alGet_zip f r (j + 1) n
  rw [List.zipIdx_cons,List.map_cons,← show (p.1,p.2) = p from rfl,alGet_cons,alGet_cons]
  by_cases e : p.1 = n
  ·rw [if_pos e,if_pos e]; exact .inr ⟨p.2,j,rfl,rfl⟩
  ·rw [if_neg e,if_neg e]; exact ih
theorem rst_zip {f:Nat → Nat → Bytes} {g:Nat → Bytes} : ∀ (l:Names) (j:Nat),(∀ p ∈ rst one two l,∀ i,f i p.2 = g p.2) → rst one two ((l.zipIdx j).map fun q => (q.1.1,f q.2 q.1.2)) = (rst one two l).map fun p => (p.1,g p.2)
 | [],_,_ => rfl
 | p :: r,j,h => by
  have ih := rst_zip (f := f) (g := g) r (j + 1)
  unfold rst at *
  rw [List.zipIdx_cons,List.map_cons,List.filter_cons,List.filter_cons]
  simp only
  by_cases e : (decide (p.1 ≠ one) && decide (p.1 ≠ two)) = true
  ·rw [if_pos e,if_pos e,List.map_cons,ih fun q hq => h q (by rw [List.filter_cons,if_pos e]; exact List.mem_cons_of_mem _ hq),h p (by rw [List.filter_cons,if_pos e]; exact List.mem_cons_self)]
  ·rw [if_neg e,if_neg e]
   exact ih fun q hq => h q (by rw [List.filter_cons,if_neg e]; exact hq)
end
structure AtRest (S:AD) : Prop where
 set : Settled S
 off : S.off = false
 ok : ∃ c,S.Ok c
theorem AtRest.nodup {S:AD} (h:AtRest S) : (alKeys S.shown).Nodup := by obtain ⟨c,ok⟩ := h.ok; exact ok.shown.nodup
theorem AtRest.next {S:AD} (h:AtRest S) {p:ByteArray × Nat} (hp:p ∈ S.shown) : p.2 < S.next := by obtain ⟨c,ok⟩ := h.ok; exact ok.next _ (.inl ⟨p.1,hp⟩)
def AD.cnt (S:AD) (a b:Int) (o:Bool) : AD := { S with strokes := a,since := b,off := o }
theorem cnt_self (S:AD) (h:S.off = false) : S = S.cnt S.strokes S.since false := by
 cases S; simp only at h; subst h; rfl
theorem cnt_crash (S:AD) (a b:Int) (o:Bool) (picks:List Int) : (S.cnt a b o).crash picks = S.crash picks := rfl
def outAt (S:AD) (b:Int) : Bool := decide (b + 1 = S.plan.off)
def winAt (S:AD) (b:Int) : Bool := decide (b + 1 ≥ S.plan.from_) && decide (b + 1 ≤ S.plan.to_)
theorem cnt_stroke (X:AD) (a b:Int) (kind ref:Int) (act:AD → AD) (ha:∀ a b o,act (X.cnt a b o) = (act X).cnt a b o) :
    (X.cnt a b false).stroke kind ref act =
      (if outAt X b then 50 else if ref = 0 ∧ kind = 1 ∧ winAt X b = true then 55 else ref,
       if (if ref = 0 ∧ kind = 1 ∧ winAt X b = true then 55 else ref) = 0 ∧ ¬ (outAt X b = true ∧ kind = 2) then (act X).cnt (a + 1) (b + 1) (outAt X b) else X.cnt (a + 1) (b + 1) (outAt X b)) := by
  unfold AD.stroke
  have e1 : ({ (X.cnt a b false).ticked with off := decide ((X.cnt a b false).ticked.since = (X.cnt a b false).ticked.plan.off) } : AD) = X.cnt (a + 1) (b + 1) (outAt X b) := rfl
  have e2 : (ref = 0 ∧ kind = 1 ∧ (X.cnt a b false).ticked.since ≥ (X.cnt a b false).ticked.plan.from_ ∧ (X.cnt a b false).ticked.since ≤ (X.cnt a b false).ticked.plan.to_) ↔ (ref = 0 ∧ kind = 1 ∧ winAt X b = true) := by
    unfold winAt
    simp only [Bool.and_eq_true,decide_eq_true_eq]
    exact Iff.rfl
  dsimp only
  rw [e1,ha]
  have e3 : decide ((X.cnt a b false).ticked.since = (X.cnt a b false).ticked.plan.off) = outAt X b := rfl
  rw [e3]
  congr 1
  · by_cases h : ref = 0 ∧ kind = 1 ∧ winAt X b = true
    · rw [if_pos h,if_pos (e2.2 h)]
    · rw [if_neg h,if_neg (fun h' => h (e2.1 h'))]
  · by_cases h : ref = 0 ∧ kind = 1 ∧ winAt X b = true
    · rw [if_pos h,if_pos (e2.2 h)]
    · rw [if_neg h,if_neg (fun h' => h (e2.1 h'))]
section
variable {X:AD} {a b:Int} {n m:ByteArray}
theorem cnt_look (o:Bool) : (X.cnt a b false).look n = if !isName n then 51 else match alGet X.shown n with | none => 53 | some _ => 0 := by
 unfold AD.look
 show (if (false = true) then _ else _) = _
 rw [if_neg (by simp)]; rfl
theorem cnt_look0 (hn:isName n = true) {t:Nat} (h:alGet X.shown n = some t) : (X.cnt a b false).look n = 0 := by
 rw [cnt_look false,hn,h]; rfl
theorem cnt_look53 (hn:isName n = true) (h:alGet X.shown n = none) : (X.cnt a b false).look n = 53 := by
 rw [cnt_look false,hn,h]; rfl
theorem cnt_stroke0 {kind:Int} {act:AD → AD} (hk:kind ≠ 1) (ha:∀ a b o,act (X.cnt a b o) = (act X).cnt a b o) :
    (X.cnt a b false).stroke kind 0 act = (if outAt X b then 50 else 0,if ¬ (outAt X b = true ∧ kind = 2) then (act X).cnt (a + 1) (b + 1) (outAt X b) else X.cnt (a + 1) (b + 1) (outAt X b)) := by
  rw [cnt_stroke X a b kind 0 act ha]
  have : ¬ ((0 : Int) = 0 ∧ kind = 1 ∧ winAt X b = true) := fun h => hk h.2.1
  rw [if_neg this]
  simp
theorem cnt_remove (hn:isName n = true) {t:Nat} (h:alGet X.shown n = some t) :
    (X.cnt a b false).remove n = (if outAt X b then 50 else 0,(X.turned (.take n)).cnt (a + 1) (b + 1) (outAt X b)) := by
  unfold AD.remove
  rw [cnt_look0 hn h,if_neg (by decide),cnt_stroke0 (by decide) (fun _ _ _ => rfl)]
  cases outAt X b <;> simp
theorem cnt_syncNames : (X.cnt a b false).syncNames = (if outAt X b then 50 else 0,if outAt X b then X.cnt (a + 1) (b + 1) true else ({ X with safe := X.shown,row := [] } : AD).cnt (a + 1) (b + 1) false) := by
 unfold AD.syncNames
 show (if (false = true) then _ else _) = _
 rw [if_neg (by simp)]
 refine (cnt_stroke0 (X := X) (by decide) (fun _ _ _ => rfl)).trans ?_
 cases outAt X b <;> simp
theorem cnt_rename (hab:n ≠ m) (hn:isName n = true) (hm:isName m = true) {t:Nat} (h:alGet X.shown n = some t) :
    (X.cnt a b false).rename n m = (if outAt X b then 50 else 0,(X.turned (.give n m)).cnt (a + 1) (b + 1) (outAt X b)) := by
  unfold AD.rename
  show (if (false = true) then _ else _) = _
  rw [if_neg (by simp),hn,hm]
  show (match alGet X.shown n with | none => _ | some _ => _) = _
  rw [h]
  refine (cnt_stroke0 (X := X) (by decide) (fun _ _ _ => by rw [if_neg hab,if_neg hab]; rfl)).trans ?_
  rw [if_neg hab]
  cases outAt X b <;> simp
theorem cnt_sync (hn:isName n = true) {t:Nat} (h:alGet X.shown n = some t) :
    (X.cnt a b false).sync n = (if outAt X b then 50 else 0,if outAt X b then X.cnt (a + 1) (b + 1) true else (X.setThing t (X.things t).settle).cnt (a + 1) (b + 1) false) := by
  unfold AD.sync
  rw [cnt_look0 hn h,if_neg (by decide)]
  have e : (X.cnt a b false).of n = t := by unfold AD.of; show (alGet X.shown n).getD 0 = t; rw [h]; rfl
  rw [e]
  refine (cnt_stroke0 (X := X) (by decide) (fun _ _ _ => rfl)).trans ?_
  cases outAt X b <;> simp
theorem kind1 {ref:Int} {Y:AD} (hr:ref = 0 ∨ ref = 55 ∨ ref = 56) {R:Int × AD}
    (hR:R = (if outAt X b then 50 else if ref = 0 ∧ (1 : Int) = 1 ∧ winAt X b = true then 55 else ref,
       if (if ref = 0 ∧ (1 : Int) = 1 ∧ winAt X b = true then 55 else ref) = 0 ∧ ¬ (outAt X b = true ∧ (1 : Int) = 2) then Y.cnt (a + 1) (b + 1) (outAt X b) else X.cnt (a + 1) (b + 1) (outAt X b)) := by rfl) :
    (R = (0,Y.cnt (a + 1) (b + 1) false) ∧ outAt X b = false) ∨
    (∃ e,(e = 55 ∨ e = 56) ∧ (e = 56 → ref = 56) ∧ R = (e,X.cnt (a + 1) (b + 1) false) ∧ outAt X b = false) ∨
    (outAt X b = true ∧ (R = (50,X.cnt (a + 1) (b + 1) true) ∨ R = (50,Y.cnt (a + 1) (b + 1) true))) := by
  subst hR
  generalize hq : (if ref = 0 ∧ (1 : Int) = 1 ∧ winAt X b = true then (55 : Int) else ref) = r
  have h3 : r = 0 ∨ r = 55 ∨ (r = 56 ∧ ref = 56) := by
    subst hq; split
    · exact .inr (.inl rfl)
    · omega
  cases ho : outAt X b
  · rcases h3 with h | h | h
    · left; subst h; simp
    · right; left; refine ⟨55,.inl rfl,(fun h => by simp at h),?_,rfl⟩; subst h; simp
    · right; left; refine ⟨56,.inr rfl,(fun _ => h.2),?_,rfl⟩; rw [h.1]; simp
  · right; right; refine ⟨rfl,?_⟩
    rcases h3 with h | h | h
    · right; subst h; simp
    · left; subst h; simp
    · left; rw [h.1]; simp
theorem cnt_create (hn:isName n = true) (h:alGet X.shown n = none) :
    ((X.cnt a b false).create n = (0,(X.made n).cnt (a + 1) (b + 1) false) ∧ outAt X b = false) ∨
    (∃ e,(e = 55 ∨ e = 56) ∧ (e = 56 → (if X.shown.length ≥ 256 then (56 : Int) else 0) = 56) ∧ (X.cnt a b false).create n = (e,X.cnt (a + 1) (b + 1) false) ∧ outAt X b = false) ∨
    (outAt X b = true ∧ ((X.cnt a b false).create n = (50,X.cnt (a + 1) (b + 1) true) ∨ (X.cnt a b false).create n = (50,(X.made n).cnt (a + 1) (b + 1) true))) := by
  have e : (X.cnt a b false).create n = (X.cnt a b false).stroke 1 (if X.shown.length ≥ 256 then 56 else 0) (fun S => S.made n) := by
    unfold AD.create
    rw [cnt_look53 hn h,if_neg (by decide),if_pos rfl]; rfl
  rw [e,cnt_stroke X a b 1 _ _ (fun _ _ _ => rfl)]
  exact kind1 (by split <;> simp)
theorem cnt_append (hn:isName n = true) {t:Nat} (h:alGet X.shown n = some t) (d:Bytes) (hd:(X.things t).shown = []) :
    ((X.cnt a b false).append n d = (0,(X.setThing t ((X.things t).add (.wr 0 d))).cnt (a + 1) (b + 1) false) ∧ outAt X b = false) ∨
    (∃ e,(e = 55 ∨ e = 56) ∧ (X.cnt a b false).append n d = (e,X.cnt (a + 1) (b + 1) false) ∧ outAt X b = false) ∨
    (outAt X b = true ∧ ((X.cnt a b false).append n d = (50,X.cnt (a + 1) (b + 1) true) ∨ (X.cnt a b false).append n d = (50,(X.setThing t ((X.things t).add (.wr 0 d))).cnt (a + 1) (b + 1) true))) := by
  have e1 : (X.cnt a b false).of n = t := by unfold AD.of; show (alGet X.shown n).getD 0 = t; rw [h]; rfl
  have e2 : (X.cnt a b false).bytes n = [] := by unfold AD.bytes; rw [e1]; exact hd
  obtain ⟨q,hq,e⟩ : ∃ q : Int,(q = 0 ∨ q = 55 ∨ q = 56) ∧ (X.cnt a b false).append n d = (X.cnt a b false).stroke 1 q (fun T => T.setThing t ((T.things t).add (.wr 0 d))) := by
    unfold AD.append AD.writeAt
    rw [cnt_look0 hn h,if_neg (by decide),if_neg (by decide),e2,if_neg (by simp),e1]
    refine ⟨_,?_,rfl⟩
    split <;> simp
  rw [e,cnt_stroke X a b 1 _ _ (fun _ _ _ => rfl)]
  rcases kind1 (X := X) (a := a) (b := b) (Y := X.setThing t ((X.things t).add (.wr 0 d))) hq rfl with h | ⟨e,h1,h2,h3⟩ | h
  · exact .inl h
  · exact .inr (.inl ⟨e,h1,h3⟩)
  · exact .inr (.inr h)
end
structure WrA where
 cut : Bool
 at_ : Int
 data : Bytes
def hN : ByteArray := ByteArray.mk #[104]
def ovr (b:Bytes) (a:Nat) (d:Bytes) (i:Nat) : Bytes := b.take a ++ d.take i ++ b.drop (a + i)
theorem ovr_zero (b:Bytes) (a:Nat) (d:Bytes) : ovr b a d 0 = b := by simp [ovr]
theorem ovr_made {b:Bytes} {a:Nat} {d:Bytes} {u:Nat} (ha:a ≤ b.length) (hu:u ≤ d.length) : (Chg.wr a d).made b u = ovr b a d u := by
 simp only [Chg.made]
 by_cases h0 : u = 0
 ·rw [if_pos h0,h0,ovr_zero]
 ·rw [if_neg h0]
  unfold ovr
  congr 1
  ·congr 1
   rw [List.take_append_of_le_length ha]
  ·by_cases h : a + u ≤ b.length
   ·have e : a + u - b.length = 0 := by omega
    rw [e]; simp
   ·rw [List.drop_eq_nil_of_le (by simp; omega),List.drop_eq_nil_of_le (by omega)]
def WrA.fit (x:WrA) (n:Nat) : Prop := 0 ≤ x.at_ ∧ x.at_ ≤ n
instance (x:WrA) (n:Nat) : Decidable (x.fit n) := by unfold WrA.fit; infer_instance
def AD.synced (X:AD) : AD := { X with safe := X.shown,row := [] }
def k2 (X:AD) (p:ByteArray) : AD := X.made p
def k3 (X:AD) (p:ByteArray) (d:Bytes) : AD := (k2 X p).setThing X.next (((k2 X p).things X.next).add (.wr 0 d))
def k4 (X:AD) (p:ByteArray) (d:Bytes) : AD := (k3 X p d).setThing X.next ((k3 X p d).things X.next).settle
def k5 (X:AD) (p n:ByteArray) (d:Bytes) : AD := (k4 X p d).turned (.give p n)
def ku (X:AD) (p:ByteArray) : AD := (k2 X p).turned (.take p)
theorem andE_bad {r:Int × AD} {u:AD → Int → Int × AD} {n:AD → Int × AD} {e:Int} {T:AD} (h:r = (e,T)) (he:e ≠ 0) : andE r u n = u T e := by subst h; unfold andE; rw [if_pos he]
theorem andE_ok {r:Int × AD} {u:AD → Int → Int × AD} {n:AD → Int × AD} {T:AD} (h:r = (0,T)) : andE r u n = n T := by subst h; unfold andE; simp
section
variable {X S:AD} {p n name:ByteArray} {d:Bytes}
theorem k2_get : alGet (k2 X p).shown p = some X.next := alGet_setN _ _ _
theorem k2_thing : (k2 X p).things X.next = Thg.empty := by show (if X.next = X.next then _ else _) = _; rw [if_pos rfl]
theorem k3_thing : (k3 X p d).things X.next = ⟨[],d,[.wr 0 d]⟩ := by
 show (if X.next = X.next then _ else _) = _
 rw [if_pos rfl,k2_thing]
 have e : (Chg.wr 0 d).made [] (Chg.wr 0 d).units = d := by
  rw [show (Chg.wr 0 d).units = d.length from rfl,ovr_made (Nat.zero_le _) (Nat.le_refl _)]
  simp [ovr]
 show (⟨[],(Chg.wr 0 d).made [] (Chg.wr 0 d).units,[] ++ [.wr 0 d]⟩ : Thg) = _
 rw [e]; rfl
theorem k4_thing : (k4 X p d).things X.next = ⟨d,d,[]⟩ := by
 show (if X.next = X.next then _ else _) = _
 rw [if_pos rfl,k3_thing]; rfl
theorem k_old {t:Nat} (ht:t ≠ X.next) : (k2 X p).things t = X.things t ∧ (k3 X p d).things t = X.things t ∧ (k4 X p d).things t = X.things t := by
 have h2 : (k2 X p).things t = X.things t := by show (if t = X.next then _ else _) = _; rw [if_neg ht]
 have h3 : (k3 X p d).things t = X.things t := by show (if t = X.next then _ else _) = _; rw [if_neg ht]; exact h2
 exact ⟨h2,h3,by show (if t = X.next then _ else _) = _; rw [if_neg ht]; exact h3⟩
def OffAt (X:AD) (p n:ByteArray) (d:Bytes) (b:Int) (R:Int × AD) : Prop := ∃ b' a'' b'',b ≤ b' ∧ outAt X b' = true ∧ ∃ C,(C = X ∨ C = k2 X p ∨ C = k3 X p d ∨ C = k5 X p n d ∨ C = ku X p) ∧ R = (50,C.cnt a'' b'' true)
def PutOut (X:AD) (p n:ByteArray) (d:Bytes) (rm:Bool) (a b:Int) (R:Int × AD) : Prop :=
 (∃ b',R = (0,(k5 X p n d).synced.cnt (a + 5) b' false)) ∨
 (∃ e a' b',(e = 55 ∨ e = 56) ∧ (R = (e,(ku X p).synced.cnt a' b' false) ∨ R = (e,(if rm then X.synced else X).cnt a' b' false))) ∨
 OffAt X p n d b R
theorem PutOut.mono {rm:Bool} {a b b2:Int} {R:Int × AD} (hb:b2 ≤ b) (h:PutOut X p n d rm a b R) : PutOut X p n d rm a b2 R :=
 h.imp id fun h => h.imp id fun ⟨b',a'',b'',h1,h2⟩ => ⟨b',a'',b'',by omega,h2⟩
theorem put_tail (hp:isName p = true) (hn:isName n = true) (hpn:p ≠ n) (hX:alGet X.shown p = none) (a b:Int) (rm:Bool) :
    PutOut X p n d rm a b (andE ((X.cnt a b false).create p) (fun T e => T.undo p false rm e) fun S2 =>
      andE (S2.append p d) (fun T e => T.undo p true rm e) fun S3 =>
      andE (S3.sync p) (fun T e => T.undo p true rm e) fun S4 =>
      andE (S4.rename p n) (fun T e => T.undo p true rm e) fun S5 =>
      andE S5.syncNames (fun T e => T.undo p true rm e) fun S6 => (0,S6)) := by
  rcases cnt_create (X := X) (a := a) (b := b) hp hX with ⟨h,_⟩ | ⟨e,he,-,h,_⟩ | ⟨ho,h | h⟩
  · rw [andE_ok h]
    have g2 : alGet (k2 X p).shown p = some X.next := k2_get
    have t2 : ((k2 X p).things X.next).shown = [] := by rw [k2_thing]; rfl
    change PutOut X p n d rm a b (andE (((k2 X p).cnt (a + 1) (b + 1) false).append p d) _ _)
    rcases cnt_append (X := k2 X p) (a := a + 1) (b := b + 1) hp g2 d t2 with ⟨h,_⟩ | ⟨e,he,h,_⟩ | ⟨ho,h | h⟩
    · rw [andE_ok h]
      change PutOut X p n d rm a b (andE (((k3 X p d).cnt (a + 1 + 1) (b + 1 + 1) false).sync p) _ _)
      have g3 : alGet (k3 X p d).shown p = some X.next := g2
      have h := cnt_sync (X := k3 X p d) (a := a + 1 + 1) (b := b + 1 + 1) hp g3
      cases ho : outAt (k3 X p d) (b + 1 + 1)
      · simp only [ho,Bool.false_eq_true,if_false] at h
        rw [andE_ok h]
        change PutOut X p n d rm a b (andE (((k4 X p d).cnt (a + 1 + 1 + 1) (b + 1 + 1 + 1) false).rename p n) _ _)
        have g4 : alGet (k4 X p d).shown p = some X.next := g2
        have h := cnt_rename (X := k4 X p d) (a := a + 1 + 1 + 1) (b := b + 1 + 1 + 1) hpn hp hn g4
        cases ho : outAt (k4 X p d) (b + 1 + 1 + 1)
        · simp only [ho,Bool.false_eq_true,if_false] at h
          rw [andE_ok h]
          change PutOut X p n d rm a b (andE (((k5 X p n d).cnt (a + 1 + 1 + 1 + 1) (b + 1 + 1 + 1 + 1) false).syncNames) _ _)
          have h := cnt_syncNames (X := k5 X p n d) (a := a + 1 + 1 + 1 + 1) (b := b + 1 + 1 + 1 + 1)
          cases ho : outAt (k5 X p n d) (b + 1 + 1 + 1 + 1)
          · simp only [ho,Bool.false_eq_true,if_false] at h
            rw [andE_ok h]
            exact .inl ⟨_,by rw [show a + 5 = a + 1 + 1 + 1 + 1 + 1 by omega]; rfl⟩
          · simp only [ho,if_true] at h
            rw [andE_bad h (by decide),undo50]
            exact .inr (.inr ⟨_,_,_,by omega,ho,_,.inr (.inr (.inr (.inl rfl))),rfl⟩)
        · simp only [ho,if_true] at h
          rw [andE_bad h (by decide),undo50]
          exact .inr (.inr ⟨_,_,_,by omega,ho,_,.inr (.inr (.inr (.inl rfl))),rfl⟩)
      · simp only [ho,if_true] at h
        rw [andE_bad h (by decide),undo50]
        exact .inr (.inr ⟨_,_,_,by omega,ho,_,.inr (.inr (.inl rfl)),rfl⟩)
    · rw [andE_bad h (by omega)]
      unfold AD.undo
      rw [if_neg (by omega),if_pos rfl]
      have h := cnt_remove (X := k2 X p) (a := a + 1 + 1) (b := b + 1 + 1) hp g2
      cases ho : outAt (k2 X p) (b + 1 + 1)
      · simp only [ho,Bool.false_eq_true,if_false] at h
        rw [h]
        rw [if_neg (by simp)]
        have h := cnt_syncNames (X := (k2 X p).turned (.take p)) (a := a + 1 + 1 + 1) (b := b + 1 + 1 + 1)
        cases ho : outAt ((k2 X p).turned (.take p)) (b + 1 + 1 + 1)
        · simp only [ho,Bool.false_eq_true,if_false] at h
          rw [h,if_neg (by simp)]
          exact .inr (.inl ⟨e,_,_,he,.inl rfl⟩)
        · simp only [ho,if_true] at h
          rw [h,if_pos (by simp)]
          exact .inr (.inr ⟨_,_,_,by omega,ho,_,.inr (.inr (.inr (.inr rfl))),rfl⟩)
      · simp only [ho,if_true] at h
        rw [h,if_pos (by simp)]
        exact .inr (.inr ⟨_,_,_,by omega,ho,_,.inr (.inr (.inr (.inr rfl))),rfl⟩)
    · rw [andE_bad h (by decide),undo50]
      exact .inr (.inr ⟨b + 1,_,_,by omega,ho,_,.inr (.inl rfl),rfl⟩)
    · rw [andE_bad h (by decide),undo50]
      exact .inr (.inr ⟨b + 1,_,_,by omega,ho,_,.inr (.inr (.inl rfl)),rfl⟩)
  · rw [andE_bad h (by omega)]
    unfold AD.undo
    rw [if_neg (by omega),if_neg (by simp)]
    cases rm
    · rw [if_neg (by simp)]
      exact .inr (.inl ⟨e,_,_,he,.inr rfl⟩)
    · rw [if_pos rfl]
      have h := cnt_syncNames (X := X) (a := a + 1) (b := b + 1)
      cases ho : outAt X (b + 1)
      · simp only [ho,Bool.false_eq_true,if_false] at h
        rw [h,if_neg (by simp)]
        exact .inr (.inl ⟨e,_,_,he,.inr rfl⟩)
      · simp only [ho,if_true] at h
        rw [h,if_pos (by simp)]
        exact .inr (.inr ⟨_,_,_,by omega,ho,_,.inl rfl,rfl⟩)
  · rw [andE_bad h (by decide),undo50]
    exact .inr (.inr ⟨b,_,_,by omega,ho,_,.inl rfl,rfl⟩)
  · rw [andE_bad h (by decide),undo50]
    exact .inr (.inr ⟨b,_,_,by omega,ho,_,.inr (.inl rfl),rfl⟩)
def k1 (S:AD) (p:ByteArray) : AD := if (alGet S.shown p).isSome then S.turned (.take p) else S
theorem k1_get : alGet (k1 S p).shown p = none := by
 unfold k1
 split
 ·show alGet (alDel S.shown p) p = none
  rw [alGet_del,if_pos rfl]
 ·rename_i h; simpa using h
theorem putF_out (ho:S.off = false) (hl:lays name = true) : ∃ a b,S.since ≤ b ∧ a + 5 = S.strokes + (if (alGet S.shown (plusOf name)).isSome then 6 else 5) ∧ PutOut (k1 S (plusOf name)) (plusOf name) name d (alGet S.shown (plusOf name)).isSome a b (S.putF name d) := by
  obtain ⟨hn,hp,hpn⟩ := lays_name hl
  have hs := cnt_self S ho
  have hlk := cnt_look (X := S) (a := S.strokes) (b := S.since) (n := plusOf name) false
  rw [← hs,hp] at hlk
  have hput : S.putF name d = andE (if S.has (plusOf name) then S.remove (plusOf name) else (0,S)) (fun T e => T.undo (plusOf name) false false e) fun S1 =>
      andE (S1.create (plusOf name)) (fun T e => T.undo (plusOf name) false (S.has (plusOf name)) e) fun S2 =>
      andE (S2.append (plusOf name) d) (fun T e => T.undo (plusOf name) true (S.has (plusOf name)) e) fun S3 =>
      andE (S3.sync (plusOf name)) (fun T e => T.undo (plusOf name) true (S.has (plusOf name)) e) fun S4 =>
      andE (S4.rename (plusOf name) name) (fun T e => T.undo (plusOf name) true (S.has (plusOf name)) e) fun S5 =>
      andE S5.syncNames (fun T e => T.undo (plusOf name) true (S.has (plusOf name)) e) fun S6 => (0,S6) := by
    unfold AD.putF
    rw [hl,ho]; rfl
  rw [hput]
  have hX : alGet (k1 S (plusOf name)).shown (plusOf name) = none := k1_get
  cases hg : alGet S.shown (plusOf name) with
  | none =>
    rw [hg] at hlk
    have hh : S.has (plusOf name) = false := by unfold AD.has; rw [hlk]; rfl
    have hk : k1 S (plusOf name) = S := by unfold k1; rw [hg]; rfl
    rw [hh]
    rw [hk] at hX ⊢
    refine ⟨S.strokes,S.since,Int.le_refl _,by simp,?_⟩
    show PutOut S (plusOf name) name d false S.strokes S.since _
    rw [andE_ok (show (if false = true then S.remove (plusOf name) else (0,S)) = (0,S.cnt S.strokes S.since false) by rw [← hs]; rfl)]
    exact put_tail hp hn hpn hX _ _ _
  | some t =>
    rw [hg] at hlk
    have hh : S.has (plusOf name) = true := by unfold AD.has; rw [hlk]; rfl
    have hk : k1 S (plusOf name) = S.turned (.take (plusOf name)) := by unfold k1; rw [hg]; rfl
    rw [hh]
    rw [hk] at hX ⊢
    refine ⟨S.strokes + 1,S.since,by omega,by simp; omega,?_⟩
    show PutOut (S.turned (.take (plusOf name))) (plusOf name) name d true (S.strokes + 1) S.since _
    have h := cnt_remove (X := S) (a := S.strokes) (b := S.since) hp hg
    rw [← hs] at h
    rw [if_pos rfl]
    cases ho : outAt S S.since
    · simp only [ho,Bool.false_eq_true,if_false] at h
      rw [andE_ok h]
      exact PutOut.mono (by omega) (put_tail hp hn hpn hX _ (S.since + 1) _)
    · simp only [ho,if_true] at h
      rw [andE_bad h (by decide),undo50]
      exact .inr (.inr ⟨S.since,_,_,Int.le_refl _,ho,_,.inl rfl,rfl⟩)
end
structure Near (S:AD) (p n:ByteArray) (N:Names) : Prop where
 nd : (alKeys N).Nodup
 rs : rst p n N = rst p n S.shown
 plus : alGet N p = none ∨ alGet N p = alGet S.shown p ∨ alGet N p = some S.next
 name : alGet N n = alGet S.shown n
def foldT (r:List Turn) (l:Names) : Names := r.foldl (fun l c => c.on l) l
theorem foldT_snoc (r:List Turn) (c:Turn) (l:Names) : foldT (r ++ [c]) l = c.on (foldT r l) := by unfold foldT; rw [List.foldl_append]; rfl
def PN (S:AD) (p n:ByteArray) (r:List Turn) : Prop := ∀ k,Near S p n (foldT (r.take k) S.shown)
section
variable {S:AD} {p n name:ByteArray} {d:Bytes}
theorem take_snoc {α:Type} (r:List α) (c:α) (k:Nat) : (r ++ [c]).take k = r.take k ∨ (r ++ [c]).take k = r ++ [c] := by
 by_cases h : k ≤ r.length
 ·left; rw [List.take_append_of_le_length h]
 ·right; rw [List.take_of_length_le]; simp; omega
theorem PN.snoc {r:List Turn} {c:Turn} (h:PN S p n r) (h2:Near S p n (foldT (r ++ [c]) S.shown)) : PN S p n (r ++ [c]) := fun k => by
 rcases take_snoc r c k with e | e
 ·rw [e]; exact h k
 ·rw [e]; exact h2
theorem Near.del {N:Names} (h:Near S p n N) (hpn:p ≠ n) : Near S p n (alDel N p) :=
 ⟨alDel_keys_nodup h.nd p,by rw [rst_del (.inl rfl)]; exact h.rs,.inl (by rw [alGet_del,if_pos rfl]),by rw [alGet_del,if_neg hpn]; exact h.name⟩
theorem Near.put {N:Names} (h:Near S p n N) (hpn:p ≠ n) : Near S p n (setN N p S.next) :=
 ⟨setN_nodup h.nd p _,by rw [rst_set (.inl rfl)]; exact h.rs,.inr (.inr (alGet_setN _ _ _)),by rw [alGet_setN' h.nd,if_neg hpn]; exact h.name⟩
theorem AtRest.near (h:AtRest S) : Near S p n S.shown := ⟨h.nodup,rfl,.inr (.inl rfl),rfl⟩
structure Step1 (S:AD) (p n:ByteArray) (X:AD) : Prop where
 pn : PN S p n X.row
 sh : X.shown = foldT X.row S.shown
 next : S.next ≤ X.next
 safe : X.safe = S.shown
 old : ∀ q ∈ S.shown,X.things q.2 = S.things q.2
theorem Step1.near {X:AD} (h:Step1 S p n X) : Near S p n X.shown := by
 have := h.pn X.row.length
 rw [List.take_length] at this
 rw [h.sh]; exact this
theorem step_rest (h:AtRest S) : Step1 S p n S := ⟨fun k => by rw [h.set.row]; simpa [foldT] using h.near,by rw [h.set.row]; rfl,Nat.le_refl _,h.set.safe,fun _ _ => rfl⟩
theorem Step1.take {X:AD} (h:Step1 S p n X) (hpn:p ≠ n) : Step1 S p n (X.turned (.take p)) := by
 have e : foldT (X.row ++ [.take p]) S.shown = alDel X.shown p := by rw [foldT_snoc,← h.sh]; rfl
 exact ⟨h.pn.snoc (by rw [e]; exact h.near.del hpn),e.symm,h.next,h.safe,h.old⟩
theorem k1_next : (k1 S p).next = S.next := by unfold k1; split <;> rfl
theorem k1_things : (k1 S p).things = S.things := by unfold k1; split <;> rfl
theorem k1_plan : (k1 S p).plan = S.plan := by unfold k1; split <;> rfl
theorem step_k1 (h:AtRest S) (hpn:p ≠ n) : Step1 S p n (k1 S p) := by
 unfold k1
 split
 ·exact (step_rest h).take hpn
 ·exact step_rest h
theorem step_k2 (h:AtRest S) (hpn:p ≠ n) : Step1 S p n (k2 (k1 S p) p) := by
 have h1 := step_k1 (p := p) (n := n) h hpn
 have e : foldT ((k1 S p).row ++ [.mk p (k1 S p).next]) S.shown = setN (k1 S p).shown p S.next := by rw [foldT_snoc,← h1.sh,k1_next]; rfl
 refine ⟨h1.pn.snoc (by rw [e]; exact h1.near.put hpn),by rw [show (k2 (k1 S p) p).row = (k1 S p).row ++ [.mk p (k1 S p).next] from rfl,e,← k1_next (S := S) (p := p)]; rfl,Nat.le_succ_of_le h1.next,h1.safe,fun q hq => ?_⟩
 rw [(k_old (d := []) (by rw [k1_next]; exact Nat.ne_of_lt (h.next hq))).1]
 exact h1.old q hq
theorem step_k3 (h:AtRest S) (hpn:p ≠ n) : Step1 S p n (k3 (k1 S p) p d) := by
 have h2 := step_k2 (p := p) (n := n) h hpn
 exact ⟨h2.pn,h2.sh,h2.next,h2.safe,fun q hq => by rw [(k_old (by rw [k1_next]; exact Nat.ne_of_lt (h.next hq))).2.1,k1_things]⟩
theorem step_k4 (h:AtRest S) (hpn:p ≠ n) : Step1 S p n (k4 (k1 S p) p d) := by
 have h2 := step_k2 (p := p) (n := n) h hpn
 exact ⟨h2.pn,h2.sh,h2.next,h2.safe,fun q hq => by rw [(k_old (by rw [k1_next]; exact Nat.ne_of_lt (h.next hq))).2.2,k1_things]⟩
theorem step_ku (h:AtRest S) (hpn:p ≠ n) : Step1 S p n (ku (k1 S p) p) := (step_k2 h hpn).take hpn
theorem k5_shown (h:AtRest S) (hpn:p ≠ n) : (k5 (k1 S p) p n d).shown = setN (alDel (k2 (k1 S p) p).shown p) n S.next := by
 show setN (alDel (k2 (k1 S p) p).shown p) n ((alGet (k2 (k1 S p) p).shown p).getD 0) = _
 rw [k2_get,k1_next]; rfl
theorem k5_names (h:AtRest S) (hpn:p ≠ n) : rst p n (k5 (k1 S p) p n d).shown = rst p n S.shown ∧ alGet (k5 (k1 S p) p n d).shown p = none ∧ alGet (k5 (k1 S p) p n d).shown n = some S.next := by
 have h2 := (step_k2 (p := p) (n := n) h hpn).near
 rw [k5_shown h hpn]
 have hd := (h2.del hpn).nd
 refine ⟨?_,?_,alGet_setN _ _ _⟩
 ·rw [rst_set (.inr rfl),rst_del (.inl rfl)]; exact h2.rs
 ·rw [alGet_setN' hd,if_neg (fun e => hpn e.symm),alGet_del,if_pos rfl]
def CutOut (p n:ByteArray) (d:Bytes) (was now:List (ByteArray × Bytes)) : Prop :=
 rst p n now = rst p n was ∧ (alGet now n = alGet was n ∨ alGet now n = some d) ∧ ∀ g,alGet now p = some g → (∃ m,g = d.take m) ∨ alGet was p = some g
theorem files_get (S:AD) (m:ByteArray) : alGet S.files m = (alGet S.shown m).map fun t => (S.things t).shown := by
 unfold AD.files; exact alGet_map (fun t => (S.things t).shown) S.shown m
theorem settled_left (h:Settled S) {q:ByteArray × Nat} (hq:q ∈ S.shown) (u:Nat) : (S.things q.2).left u = (S.things q.2).shown := by
 obtain ⟨h1,h2⟩ := h.things q hq
 unfold Thg.left; rw [h1]; exact h2
theorem crash_cut {C:AD} (hS:AtRest S) (hsafe:C.safe = S.shown) (hold:∀ q ∈ S.shown,C.things q.2 = S.things q.2) (hnew:∀ k,alGet (foldT (C.row.take k) S.shown) p = some S.next → ∀ u,∃ m,(C.things S.next).left u = d.take m)
    (hk:∀ k,Near S p n (foldT (C.row.take k) S.shown) ∨ (rst p n (foldT (C.row.take k) S.shown) = rst p n S.shown ∧ alGet (foldT (C.row.take k) S.shown) p = none ∧ alGet (foldT (C.row.take k) S.shown) n = some S.next ∧ ∀ u,(C.things S.next).left u = d)) (picks:List Int) :
    CutOut p n d S.files (C.crash picks).files := by
  rw [crash_files]
  have e : C.crashNames picks = foldT (C.row.take (pickA picks 0 C.row.length)) S.shown := by unfold AD.crashNames foldT; rw [hsafe]
  have hk := hk (pickA picks 0 C.row.length)
  have hnew := hnew (pickA picks 0 C.row.length)
  rw [← e] at hk hnew
  generalize C.crashNames picks = N at *
  have hb : ∀ i t,∃ u,C.crashBytes picks i t = (C.things t).left u := fun i t => ⟨_,rfl⟩
  have hbo : ∀ i (q:ByteArray × Nat),q ∈ S.shown → C.crashBytes picks i q.2 = (S.things q.2).shown := fun i q hq => by
    obtain ⟨u,hu⟩ := hb i q.2
    rw [hu,hold q hq]; exact settled_left hS.set hq u
  have hrs : rst p n N = rst p n S.shown := hk.elim (·.rs) (·.1)
  refine ⟨?_,?_,?_⟩
  · rw [rst_zip (g := fun t => (S.things t).shown) N 0 fun q hq i => hbo i q (mem_rst (hrs ▸ hq)),hrs]
    unfold AD.files
    exact (rst_map (fun t => (S.things t).shown) S.shown).symm
  · rcases alGet_zip (C.crashBytes picks) N 0 n with ⟨g1,g2⟩ | ⟨t,i,g1,g2⟩
    · left
      rcases hk with h | h
      · rw [g2,files_get,← h.name,g1]; rfl
      · rw [h.2.2.1] at g1; cases g1
    · rcases hk with h | h
      · left
        have hm := mem_of_alGet (h.name ▸ g1)
        rw [g2,files_get,← h.name,g1,hbo i _ hm]; rfl
      · right
        rw [h.2.2.1] at g1
        injection g1 with g1
        subst g1
        obtain ⟨u,hu⟩ := hb i S.next
        rw [g2,hu,h.2.2.2 u]
  · intro g hg
    rcases alGet_zip (C.crashBytes picks) N 0 p with ⟨g1,g2⟩ | ⟨t,i,g1,g2⟩
    · rw [g2] at hg; cases hg
    · rw [g2] at hg
      injection hg with hg
      rcases hk with h | h
      · rcases h.plus with h' | h' | h'
        · rw [h'] at g1; cases g1
        · right
          have hm := mem_of_alGet (h' ▸ g1)
          rw [files_get,← h',g1,← hg,hbo i _ hm]; rfl
        · left
          rw [h'] at g1
          injection g1 with g1
          subst g1
          obtain ⟨u,hu⟩ := hb i S.next
          obtain ⟨m,hm⟩ := hnew h' u
          exact ⟨m,by rw [← hg,hu,hm]⟩
      · rw [h.2.1] at g1; cases g1
theorem left_wr (d:Bytes) (u:Nat) : (⟨[],d,[.wr 0 d]⟩ : Thg).left u = d.take u := by
 unfold Thg.left
 show leftOf ((Chg.wr 0 d).made [] (min u d.length)) [] (u - min u d.length) = _
 show (Chg.wr 0 d).made [] (min u d.length) = _
 rw [ovr_made (Nat.zero_le _) (Nat.min_le_right _ _)]
 unfold ovr
 simp only [List.take_zero,List.nil_append,List.drop_nil,List.append_nil]
 by_cases h : u ≤ d.length
 ·rw [Nat.min_eq_left h]
 ·rw [Nat.min_eq_right (by omega),List.take_of_length_le (Nat.le_refl _),List.take_of_length_le (by omega)]
theorem crash_step {C:AD} (hS:AtRest S) (h:Step1 S p n C) (hnew:∀ u,∃ m,(C.things S.next).left u = d.take m) (picks:List Int) : CutOut p n d S.files (C.crash picks).files :=
 crash_cut hS h.safe h.old (fun _ _ => hnew) (fun k => .inl (h.pn k)) picks
theorem crash_off {C:AD} (hS:AtRest S) (hpn:p ≠ n) (hC:C = k1 S p ∨ C = k2 (k1 S p) p ∨ C = k3 (k1 S p) p d ∨ C = k5 (k1 S p) p n d ∨ C = ku (k1 S p) p) (picks:List Int) : CutOut p n d S.files (C.crash picks).files := by
 rcases hC with rfl | rfl | rfl | rfl | rfl
 ·have h1 := step_k1 (p := p) (n := n) hS hpn
  refine crash_cut hS h1.safe h1.old (fun k e => absurd e ?_) (fun k => .inl (h1.pn k)) picks
  have hno : alGet S.shown p ≠ some S.next := fun e => absurd (hS.next (mem_of_alGet e)) (Nat.lt_irrefl _)
  unfold k1
  split
  ·rw [show (S.turned (.take p)).row = [] ++ [Turn.take p] by show S.row ++ _ = _; rw [hS.set.row]]
   rcases take_snoc ([] : List Turn) (Turn.take p) k with e | e
   ·rw [e]; simpa [foldT] using hno
   ·rw [e]
    show alGet (alDel S.shown p) p ≠ _
    rw [alGet_del,if_pos rfl]; simp
  ·rw [hS.set.row]; simpa [foldT] using hno
 ·exact crash_step hS (step_k2 hS hpn) (fun u => ⟨0,by have := k2_thing (X := k1 S p) (p := p); rw [k1_next] at this; rw [this]; rfl⟩) picks
 ·exact crash_step hS (step_k3 hS hpn) (fun u => ⟨u,by have := k3_thing (X := k1 S p) (p := p) (d := d); rw [k1_next] at this; rw [this]; exact left_wr d u⟩) picks
 ·have h4 := step_k4 (d := d) hS hpn
  have ht : (k5 (k1 S p) p n d).things S.next = ⟨d,d,[]⟩ := by have := k4_thing (X := k1 S p) (p := p) (d := d); rw [k1_next] at this; exact this
  refine crash_cut (C := k5 (k1 S p) p n d) hS h4.safe h4.old (fun _ _ u => ⟨d.length,by rw [ht,List.take_length]; rfl⟩) (fun k => ?_) picks
  rcases take_snoc (k4 (k1 S p) p d).row (.give p n) k with e | e
  ·left; rw [show (k5 (k1 S p) p n d).row = (k4 (k1 S p) p d).row ++ [.give p n] from rfl,e]; exact h4.pn k
  ·right
   have e2 : foldT ((k4 (k1 S p) p d).row ++ [.give p n]) S.shown = (k5 (k1 S p) p n d).shown := by rw [foldT_snoc,← h4.sh]; rfl
   rw [show (k5 (k1 S p) p n d).row = (k4 (k1 S p) p d).row ++ [.give p n] from rfl,e,e2]
   obtain ⟨a,b,c⟩ := k5_names (d := d) hS hpn
   exact ⟨a,b,c,fun u => by rw [ht]; rfl⟩
 ·exact crash_step hS (step_ku hS hpn) (fun u => ⟨0,by have := k2_thing (X := k1 S p) (p := p); rw [k1_next] at this; rw [show (ku (k1 S p) p).things = (k2 (k1 S p) p).things from rfl,this]; rfl⟩) picks
theorem cut_law (h:AtRest S) (hl:lays name = true) : ((S.putF name d).2.off = true → (S.putF name d).1 = 50 ∧ ∀ picks,CutOut (plusOf name) name d S.files ((S.putF name d).2.crash picks).files) ∧ ((S.putF name d).2.off = false → (S.putF name d).1 = 0 ∨ (S.putF name d).1 = 55 ∨ (S.putF name d).1 = 56) := by
 obtain ⟨hn,hp,hpn⟩ := lays_name hl
 obtain ⟨a,b,-,-,ho⟩ := putF_out (d := d) h.off hl
 rcases ho with ⟨b',e⟩ | ⟨e',a',b',he,e⟩ | ⟨b',a'',b'',-,-,C,hC,e⟩
 ·rw [e]; exact ⟨fun h => (by cases h),fun _ => .inl rfl⟩
 ·rcases e with e | e
  ·rw [e]; exact ⟨fun h => (by cases h),fun _ => .inr he⟩
  ·rw [e]; exact ⟨fun h => (by cases h),fun _ => .inr he⟩
 ·rw [e]
  exact ⟨fun _ => ⟨rfl,fun picks => by rw [cnt_crash]; exact crash_off h hpn hC picks⟩,fun h => (by cases h)⟩
theorem settled_synced {C:AD} (hS:AtRest S) (hold:∀ q ∈ S.shown,C.things q.2 = S.things q.2) (hsh:∀ q ∈ C.shown,q ∈ S.shown ∨ ((C.things q.2).row = [] ∧ (C.things q.2).safe = (C.things q.2).shown)) (a b:Int) : Settled (C.synced.cnt a b false) :=
 ⟨rfl,rfl,fun q hq => by
  rcases hsh q hq with h | h
  ·show (C.things q.2).row = [] ∧ (C.things q.2).safe = (C.things q.2).shown
   rw [hold q h]; exact hS.set.things q h
  ·exact h⟩
theorem rest_files {C:AD} (hS:AtRest S) (hold:∀ q ∈ S.shown,C.things q.2 = S.things q.2) (hrs:rst p n C.shown = rst p n S.shown) : rst p n C.files = rst p n S.files := by
 unfold AD.files
 rw [rst_map (fun t => (C.things t).shown),rst_map (fun t => (S.things t).shown),hrs]
 exact List.map_congr_left fun q hq => by rw [hold q (mem_rst hq)]
theorem k1_sub {q:ByteArray × Nat} (hq:q ∈ (k1 S p).shown) : q ∈ S.shown := by
 unfold k1 at hq
 split at hq
 ·exact (mem_alDel.1 hq).1
 ·exact hq
theorem put_law (h:AtRest S) (hoff:∀ b,S.since ≤ b → outAt S b = false) (hl:lays name = true) :
    ((S.putF name d).1 = 0 ∧ Settled (S.putF name d).2 ∧ alGet (S.putF name d).2.files name = some d ∧ alGet (S.putF name d).2.files (plusOf name) = none ∧ (S.putF name d).2.strokes = S.strokes + (if (alGet S.files (plusOf name)).isSome then 6 else 5) ∧ rst (plusOf name) name (S.putF name d).2.files = rst (plusOf name) name S.files) ∨
    (((S.putF name d).1 = 55 ∨ (S.putF name d).1 = 56) ∧ Settled (S.putF name d).2 ∧ alGet (S.putF name d).2.files name = alGet S.files name ∧ alGet (S.putF name d).2.files (plusOf name) = none ∧ rst (plusOf name) name (S.putF name d).2.files = rst (plusOf name) name S.files) := by
  obtain ⟨hn,hp,hpn⟩ := lays_name hl
  obtain ⟨a,b,hb,hab,ho⟩ := putF_out (d := d) h.off hl
  have hsome : (alGet S.files (plusOf name)).isSome = (alGet S.shown (plusOf name)).isSome := by rw [files_get]; cases alGet S.shown (plusOf name) <;> rfl
  rcases ho with ⟨b',e⟩ | ⟨e',a',b',he,e⟩ | ⟨b',a'',b'',hb',hout,C,hC,e⟩
  · left
    rw [e]
    have h4 := step_k4 (d := d) h hpn
    obtain ⟨x1,x2,x3⟩ := k5_names (d := d) h hpn
    have ht : (k5 (k1 S (plusOf name)) (plusOf name) name d).things S.next = ⟨d,d,[]⟩ := by have := k4_thing (X := k1 S (plusOf name)) (p := plusOf name) (d := d); rw [k1_next] at this; exact this
    refine ⟨rfl,settled_synced (C := k5 (k1 S (plusOf name)) (plusOf name) name d) h h4.old (fun q hq => ?_) _ _,?_,?_,?_,?_⟩
    · rw [k5_shown h hpn] at hq
      rcases mem_setN.1 hq with rfl | ⟨hq,_⟩
      · right; rw [ht]; exact ⟨rfl,rfl⟩
      · rcases mem_setN.1 (mem_alDel.1 hq).1 with rfl | ⟨hq',_⟩
        · exact absurd rfl (mem_alDel.1 hq).2
        · exact .inl (k1_sub hq')
    · show alGet (k5 (k1 S (plusOf name)) (plusOf name) name d).files name = some d
      rw [files_get,x3,Option.map_some,ht]
    · show alGet (k5 (k1 S (plusOf name)) (plusOf name) name d).files (plusOf name) = none
      rw [files_get,x2]; rfl
    · rw [hsome]; exact hab
    · exact rest_files (C := k5 (k1 S (plusOf name)) (plusOf name) name d) h h4.old x1
  · right
    have key : ∀ (C:AD),Step1 S (plusOf name) name C → C.things = (k1 S (plusOf name)).things ∨ C.things = (k2 (k1 S (plusOf name)) (plusOf name)).things → alGet C.shown (plusOf name) = none → (∀ q ∈ C.shown,q ∈ S.shown) → ∀ a b,
        Settled (C.synced.cnt a b false) ∧ alGet (C.synced.cnt a b false).files name = alGet S.files name ∧ alGet (C.synced.cnt a b false).files (plusOf name) = none ∧ rst (plusOf name) name (C.synced.cnt a b false).files = rst (plusOf name) name S.files := by
      intro C h1 _ hno hsub a b
      refine ⟨settled_synced h h1.old (fun q hq => .inl (hsub q hq)) _ _,?_,?_,rest_files (C := C) h h1.old h1.near.rs⟩
      · show alGet C.files name = _
        rw [files_get,files_get,h1.near.name]
        cases hg : alGet S.shown name with
        | none => rfl
        | some t => simp only [Option.map_some]; rw [h1.old _ (mem_of_alGet hg)]
      · show alGet C.files (plusOf name) = _
        rw [files_get,hno]; rfl
    rcases e with e | e
    · rw [e]
      refine ⟨he,key (ku (k1 S (plusOf name)) (plusOf name)) (step_ku h hpn) (.inr rfl) ?_ ?_ _ _⟩
      · show alGet (alDel _ _) _ = none
        rw [alGet_del,if_pos rfl]
      · intro q hq
        obtain ⟨hq1,hq2⟩ := mem_alDel.1 hq
        rcases mem_setN.1 hq1 with rfl | ⟨hq',_⟩
        · exact absurd rfl hq2
        · exact k1_sub hq'
    · rw [e]
      cases hg : (alGet S.shown (plusOf name)).isSome with
      | true =>
        rw [if_pos rfl]
        exact ⟨he,key (k1 S (plusOf name)) (step_k1 h hpn) (.inl rfl) k1_get (fun q hq => k1_sub hq) _ _⟩
      | false =>
        rw [if_neg (by simp)]
        have hk : k1 S (plusOf name) = S := by unfold k1; rw [hg]; rfl
        rw [hk]
        have hnone : alGet S.shown (plusOf name) = none := by simpa using hg
        refine ⟨he,⟨h.set.row,h.set.safe,h.set.things⟩,rfl,?_,rfl⟩
        show alGet S.files (plusOf name) = none
        rw [files_get,hnone]; rfl
  · have : outAt (k1 S (plusOf name)) b' = outAt S b' := by unfold outAt; rw [k1_plan]
    rw [this,hoff b' (by omega)] at hout
    cases hout
end
open Go Go.RowKit Go.Proofs.XRed Go.Proofs.XHeap
structure Kp (S:AD) : Prop where
 rest : AtRest S
 plan : S.plan = .zero
variable {S:AD} {c:Nat} {name:ByteArray} {d:Bytes}
theorem Kp.calm (h:Kp S) : ∀ b,S.since ≤ b → outAt S b = false := fun b hb => by
 obtain ⟨c,ok⟩ := h.rest.ok
 have := ok.since
 unfold outAt
 rw [h.plan]
 exact decide_eq_false (by show ¬ b + 1 = 0; omega)
theorem plan_put (ho:S.off = false) (hl:lays name = true) : (S.putF name d).2.plan = S.plan := by
 obtain ⟨a,b,-,-,h⟩ := putF_out (d := d) ho hl
 have k1p : (k1 S (plusOf name)).plan = S.plan := k1_plan
 rcases h with ⟨b',e⟩ | ⟨e',a',b',he,e⟩ | ⟨b',a'',b'',-,-,C,hC,e⟩
 ·rw [e]; exact k1p
 ·rcases e with e | e
  ·rw [e]; exact k1p
  ·rw [e]; split <;> exact k1p
 ·rw [e]
  rcases hC with rfl | rfl | rfl | rfl | rfl <;> exact k1p
theorem kp_put (h:Kp S) (ok:S.Ok c) (hc:c + 8 ≤ 1099511627776) : Kp (S.putF name d).2 ∧ ((S.putF name d).1 = 0 → isName name = true ∧ alGet (S.putF name d).2.files name = some d) := by
 cases hl : lays name with
 | false =>
  have e : S.putF name d = (51,S) := by unfold AD.putF; rw [hl]; rfl
  rw [e]
  exact ⟨h,fun h => absurd h (show ¬ (51 : Int) = 0 by decide)⟩
 | true =>
  have h1 := put_law (d := d) h.rest h.calm hl
  have h2 := (cut_law (d := d) h.rest hl).1
  have hoff : (S.putF name d).2.off = false := by
   cases ho : (S.putF name d).2.off with
   | false => rfl
   | true =>
    have e := (h2 ho).1
    rcases h1 with ⟨h1,_⟩ | ⟨h1 | h1,_⟩ <;> omega
  have hset : Settled (S.putF name d).2 := by rcases h1 with h1 | h1 <;> exact h1.2.1
  refine ⟨⟨⟨hset,hoff,_,ok_putF ok hc name d⟩,(plan_put h.rest.off hl).trans h.plan⟩,fun e => ⟨(lays_name hl).1,?_⟩⟩
  rcases h1 with ⟨_,_,g,_⟩ | ⟨h1,_⟩
  ·exact g
  ·rcases h1 with h1 | h1 <;> omega
theorem kp_get (h:Kp S) (ok:S.Ok c) (hc:c + 1 ≤ 1099511627776) (hn:isName name = true) (hg:alGet S.files name = some d) :
    (S.getF name).1 = 0 ∧ (S.getF name).2.1 = d ∧ Kp (S.getF name).2.2 ∧ (S.getF name).2.2.files = S.files := by
  rw [files_get] at hg
  obtain ⟨t,ht,hd⟩ := Option.map_eq_some_iff.1 hg
  have hl : S.look name = 0 := by rw [look_ok h.rest.off hn,ht]
  have hof : S.of name = t := by unfold AD.of; rw [ht]; rfl
  have hb : S.bytes name = d := by show (S.things (S.of name)).shown = d; rw [hof]; exact hd
  have e : S.getF name = (0,d,{ S with reads := S.reads ++ [⟨name,0,d.length⟩] }) := by
    unfold AD.getF
    rw [hn]
    simp only [hl,hb]
    simp
    unfold AD.read
    rw [if_neg (by simp [hl]),if_neg (by rw [hb]; omega),hb]
    simp
  have ok2 := ok_getF ok hc name
  rw [e] at ok2 ⊢
  exact ⟨rfl,rfl,⟨⟨⟨h.rest.set.row,h.rest.set.safe,h.rest.set.things⟩,h.rest.off,_,ok2⟩,h.plan⟩,rfl⟩
theorem kp_new {room:Int} (ok:(AD.new room).Ok c) : Kp (AD.new room) := ⟨⟨⟨rfl,rfl,fun q hq => by cases hq⟩,rfl,_,ok⟩,rfl⟩
end Go.Proofs.XDisk

namespace Go.Proofs.XSep
open Go Go.RowKit Go.Proofs.XRed Go.Proofs.XHeap
theorem Seps.at2 {w:World} {J:Blks} {a b:Asrt} : ∀ {l:List Asrt} {i j:Nat} {O I:Blks},Seps l w O I → (∀ b,O b → ¬ J b) → i ≠ j → l[i]? = some a → l[j]? = some b →
    ∃ O1 I1 O2 I2,a.h w O1 I1 ∧ b.h w O2 I2 ∧ (∀ x,O1 x → ¬ O2 x ∧ ¬ I2 x) ∧ (∀ x,O2 x → ¬ O1 x ∧ ¬ I1 x) ∧ (∀ b,O1 b → O b) ∧ (∀ b,I1 b → I b) ∧ ∀ c w' O' I',c.h w' O' I' → Nxt w O1 J w' O' I' → ∃ O3 I3,Seps (l.set i c) w' O3 I3 ∧ Fr O w w' ∧ (∀ b,O3 b → O b ∨ w.heap.size ≤ b) ∧ ∀ b,I3 b → I b ∨ J b ∨ w.heap.size ≤ b
  | [],_,_,_,_,_,_,_,h,_ => by simp at h
  | x :: l,0,0,_,_,_,_,h,_,_ => absurd rfl h
  | x :: l,0,j + 1,O,I,hs,hJ,_,hi,hj => by
    have hs0 := hs
    obtain ⟨Oa,Ia,Ob,Ib,h1,h2,h3,h4,h5⟩ := hs
    simp at hi; subst hi
    obtain ⟨O2,I2,g1,g2,g3,_⟩ := h2.at_ (J := fun _ => False) (i := j) (a := b) (fun _ _ h => h) (by simpa using hj)
    refine ⟨Oa,Ia,O2,I2,h1,g1,fun x hx => ⟨fun h => (h3.1 x hx).1 (g2 x h),fun h => (h3.1 x hx).2 (g3 x h)⟩,fun x hx => h3.2 x (g2 x hx),fun b hb => (h4 b).2 (.inl hb),fun b hb => (h5 b).2 (.inl hb),fun c w' O' I' hc hn => ?_⟩
    refine ⟨fun b => O' b ∨ Ob b,fun b => I' b ∨ Ib b,⟨O',I',Ob,Ib,hc,Seps.fr hn.fr h2 h3.1,⟨fun b hb => ?_,fun b hb => ?_⟩,fun _ => Iff.rfl,fun _ => Iff.rfl⟩,?_,?_,?_⟩
    · rcases hn.on b hb with h | h
      · exact h3.1 b h
      · exact ⟨fun h' => absurd (h2.lt b (.inl h')) (by omega),fun h' => absurd (h2.lt b (.inr h')) (by omega)⟩
    · have hlt := h2.lt b (.inl hb)
      refine ⟨fun h => ?_,fun h => ?_⟩
      · rcases hn.on b h with h | h
        · exact (h3.1 b h).1 hb
        · omega
      · rcases hn.in_ b h with h | h
        · exact hJ b ((h4 b).2 (.inr hb)) h
        · omega
    · exact hn.fr.mono fun b hb => .inl ((h4 b).2 (.inl hb))
    · rintro b (hb | hb)
      · exact (hn.on b hb).imp (fun h => (h4 b).2 (.inl h)) id
      · exact .inl ((h4 b).2 (.inr hb))
    · rintro b (hb | hb)
      · exact .inr (hn.in_ b hb)
      · exact .inl ((h5 b).2 (.inr hb))
  | x :: l,i + 1,j,O,I,⟨O1,I1,O2,I2,h1,h2,h3,h4,h5⟩,hJ,hij,hi,hj => by
    have main : ∀ Oa Ia,a.h w Oa Ia → (∀ b,Oa b → O2 b) → (∀ b,Ia b → I2 b) → (∀ c w' O' I',c.h w' O' I' → Nxt w Oa J w' O' I' → ∃ O3 I3,Seps (l.set i c) w' O3 I3 ∧ Fr O2 w w' ∧ (∀ b,O3 b → O2 b ∨ w.heap.size ≤ b) ∧ ∀ b,I3 b → I2 b ∨ J b ∨ w.heap.size ≤ b) →
        ∀ c w' O' I',c.h w' O' I' → Nxt w Oa J w' O' I' → ∃ O3 I3,Seps ((x :: l).set (i + 1) c) w' O3 I3 ∧ Fr O w w' ∧ (∀ b,O3 b → O b ∨ w.heap.size ≤ b) ∧ ∀ b,I3 b → I b ∨ J b ∨ w.heap.size ≤ b := by
      intro Oa Ia ha ho hi2 hs c w' O' I' hc hn
      obtain ⟨O3,I3,hs3,hf,hon,hin⟩ := hs c w' O' I' hc hn
      refine ⟨fun b => O1 b ∨ O3 b,fun b => I1 b ∨ I3 b,⟨O1,I1,O3,I3,x.fr h1 hf h3.2,hs3,⟨fun b hb => ?_,fun b hb => ?_⟩,fun _ => Iff.rfl,fun _ => Iff.rfl⟩,?_,?_,?_⟩
      · have hlt := x.lt h1 b (.inl hb)
        refine ⟨fun h => ?_,fun h => ?_⟩
        · rcases hon b h with h | h
          · exact (h3.1 b hb).1 h
          · omega
        · rcases hin b h with h | h | h
          · exact (h3.1 b hb).2 h
          · exact hJ b ((h4 b).2 (.inl hb)) h
          · omega
      · rcases hon b hb with h | h
        · exact h3.2 b h
        · exact ⟨fun h' => absurd (x.lt h1 b (.inl h')) (by omega),fun h' => absurd (x.lt h1 b (.inr h')) (by omega)⟩
      · exact hf.mono fun b hb => .inl ((h4 b).2 (.inr hb))
      · rintro b (hb | hb)
        · exact .inl ((h4 b).2 (.inl hb))
        · exact (hon b hb).imp (fun h => (h4 b).2 (.inr h)) id
      · rintro b (hb | hb)
        · exact .inl ((h5 b).2 (.inl hb))
        · rcases hin b hb with h | h
          · exact .inl ((h5 b).2 (.inr h))
          · exact .inr h
    cases j with
    | zero =>
      simp at hj; subst hj
      obtain ⟨Oa,Ia,ha,ho,hi2,hs⟩ := h2.at_ (J := J) (i := i) (a := a) (fun b hb => hJ b ((h4 b).2 (.inr hb))) (by simpa using hi)
      exact ⟨Oa,Ia,O1,I1,ha,h1,fun y hy => h3.2 y (ho y hy),fun y hy => ⟨fun h => (h3.1 y hy).1 (ho y h),fun h => (h3.1 y hy).2 (hi2 y h)⟩,fun b hb => (h4 b).2 (.inr (ho b hb)),fun b hb => (h5 b).2 (.inr (hi2 b hb)),main Oa Ia ha ho hi2 hs⟩
    | succ j =>
      obtain ⟨Oa,Ia,Oc,Ic,ha,hc,g1,g2,ho,hi2,hs⟩ := Seps.at2 (J := J) (i := i) (j := j) h2 (fun b hb => hJ b ((h4 b).2 (.inr hb))) (by omega) (by simpa using hi) (by simpa using hj)
      exact ⟨Oa,Ia,Oc,Ic,ha,hc,g1,g2,fun b hb => (h4 b).2 (.inr (ho b hb)),fun b hb => (h5 b).2 (.inr (hi2 b hb)),main Oa Ia ha ho hi2 hs⟩
theorem Sep.at2 {l:List Asrt} {w:World} (h:Sep l w) (i j:Nat) {a b:Asrt} (hij:i ≠ j) (hi:l[i]? = some a) (hj:l[j]? = some b) :
    ∃ O I O2 I2 J,a.h w O I ∧ b.h w O2 I2 ∧ (∀ x,O x → ¬ O2 x ∧ ¬ I2 x) ∧ (∀ x,O2 x → ¬ O x ∧ ¬ I x) ∧ (∀ b,I b → J b) ∧ (∀ b,O b → ¬ J b) ∧ ∀ c w' O' I',c.h w' O' I' → Nxt w O J w' O' I' → Sep (l.set i c) w' := by
  obtain ⟨O,I,hs⟩ := h
  obtain ⟨O1,I1,O2,I2,h1,h2,g1,g2,h3,h4,h5⟩ := hs.at2 (J := I) hs.ap hij hi hj
  refine ⟨O1,I1,O2,I2,I,h1,h2,g1,g2,h4,fun b hb => hs.ap b (h3 b hb),fun c w' O' I' hc hn => ?_⟩
  obtain ⟨O3,I3,h6,-⟩ := h5 c w' O' I' hc hn
  exact ⟨O3,I3,h6⟩
theorem perm_front {α:Type} : ∀ {l:List α} {i:Nat} {a:α},l[i]? = some a → l.Perm (a :: l.eraseIdx i)
 | [],_,_,h => by simp at h
 | x :: l,0,a,h => by simp at h; subst h; exact .refl _
 | x :: l,i + 1,a,h => (List.Perm.cons x (perm_front (l := l) (i := i) (by simpa using h))).trans (List.Perm.swap _ _ _)
theorem Sep.front {w:World} {l:List Asrt} (h:Sep l w) (i:Nat) {a:Asrt} (hi:l[i]? = some a) : Sep (a :: l.eraseIdx i) w := h.perm (perm_front hi)
theorem Sep.erase {w:World} {l:List Asrt} (h:Sep l w) (i:Nat) {a:Asrt} (hi:l[i]? = some a) : Sep (l.eraseIdx i) w := (h.front i hi).drop
end Go.Proofs.XSep
