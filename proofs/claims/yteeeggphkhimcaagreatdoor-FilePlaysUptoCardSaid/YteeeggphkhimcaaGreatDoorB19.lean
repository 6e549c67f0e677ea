/- Put together by a program (wip/tools/shake.py): XFileA,XFileB,XMove,XDefer,File,Pair0,R6. -/
import Derived.Test.YteeeggphkhimcaaGreatDoorB7
import Derived.Test.YteeeggphkhimcaaGreatDoorB18
import Derived.Test.YteeeggphkhimcaaGreatDoorB1
import Derived.Defers
import Derived.Test.YteeeggphkhimcaaGreatDoorB15
import Derived.Laws.Tables
import Derived.Test.YteeeggphkhimcaaGreatDoorProg
import Derived.Test.YteeeggphkhimcaaGreatDoorMix
set_option linter.unusedVariables false
set_option linter.unusedSimpArgs false
namespace Go.Proofs.XDisk
open Go.Proofs.XMaps
def plusB : ByteArray := ByteArray.mk #[43]
def plusOf (s:ByteArray) : ByteArray := plusB ++ s
theorem plusOf_list (s:ByteArray) : (plusOf s).data.toList = 43 :: s.data.toList := by
 unfold plusOf plusB
 rw [ByteArray.data_append,Array.toList_append]; rfl
theorem plusOf_size (s:ByteArray) : (plusOf s).size = s.size + 1 := by
 unfold plusOf plusB
 rw [ByteArray.size_append]; show 1 + _ = _; omega
def lays (s:ByteArray) : Bool := s.data.toList.all okByte && decide (1 ≤ s.size) && decide (s.size ≤ 111) && decide (s.data.toList.head? ≠ some 43)
theorem lays_name {s:ByteArray} (h:lays s = true) : isName s = true ∧ isName (plusOf s) = true ∧ plusOf s ≠ s := by
 unfold lays at h
 simp only [Bool.and_eq_true,decide_eq_true_eq] at h
 obtain ⟨⟨⟨h1,h2⟩,h3⟩,h4⟩ := h
 refine ⟨?_,?_,fun e => ?_⟩
 ·unfold isName; simp [h1,h2]; omega
 ·unfold isName; rw [plusOf_list,plusOf_size]; simp only [List.all_cons,h1,Bool.and_true,Bool.and_eq_true,decide_eq_true_eq]
  exact ⟨⟨rfl,by omega⟩,by omega⟩
 ·have := congrArg ByteArray.size e
  rw [plusOf_size] at this; omega
def AD.undo (S:AD) (plus:ByteArray) (begun removed:Bool) (e:Int) : Int × AD :=
 if e ≠ 55 ∧ e ≠ 56 then (e,S) else
 if begun then (if (S.remove plus).1 ≠ 0 then S.remove plus else if (S.remove plus).2.syncNames.1 ≠ 0 then (S.remove plus).2.syncNames else (e,(S.remove plus).2.syncNames.2))
 else if removed then (if S.syncNames.1 ≠ 0 then S.syncNames else (e,S.syncNames.2))
 else (e,S)
def andE (r:Int × AD) (u:AD → Int → Int × AD) (n:AD → Int × AD) : Int × AD := if r.1 ≠ 0 then u r.2 r.1 else n r.2
def AD.has (S:AD) (name:ByteArray) : Bool := decide (S.look name = 0)
def AD.putF (S:AD) (name:ByteArray) (data:Bytes) : Int × AD :=
 if !lays name then (51,S) else if S.off then (50,S) else
 andE (if S.has (plusOf name) then S.remove (plusOf name) else (0,S)) (fun T e => T.undo (plusOf name) false false e) fun S1 =>
 andE (S1.create (plusOf name)) (fun T e => T.undo (plusOf name) false (S.has (plusOf name)) e) fun S2 =>
 andE (S2.append (plusOf name) data) (fun T e => T.undo (plusOf name) true (S.has (plusOf name)) e) fun S3 =>
 andE (S3.sync (plusOf name)) (fun T e => T.undo (plusOf name) true (S.has (plusOf name)) e) fun S4 =>
 andE (S4.rename (plusOf name) name) (fun T e => T.undo (plusOf name) true (S.has (plusOf name)) e) fun S5 =>
 andE S5.syncNames (fun T e => T.undo (plusOf name) true (S.has (plusOf name)) e) fun S6 => (0,S6)
def AD.awayF (S:AD) (name:ByteArray) : Int × AD := andE (S.remove name) (fun T e => (e,T)) fun S1 => S1.syncNames
def AD.rputF (S:AD) (name:ByteArray) (data:Bytes) : Int × AD :=
 if !lays name then (51,S) else if S.off then (50,S) else
 andE (if S.has (plusOf name) then S.remove (plusOf name) else (0,S)) (fun T e => (e,T)) fun S1 =>
 andE (S1.create (plusOf name)) (fun T e => if e ≠ 50 ∧ S.has (plusOf name) = true then (if T.syncNames.1 ≠ 0 then (50,T.syncNames.2) else (e,T.syncNames.2)) else (e,T)) fun S2 =>
 andE (S2.append (plusOf name) data) (fun T e => if e ≠ 50 then (if (T.awayF (plusOf name)).1 ≠ 0 then (50,(T.awayF (plusOf name)).2) else (e,(T.awayF (plusOf name)).2)) else (e,T)) fun S3 =>
 andE (S3.sync (plusOf name)) (fun T e => (e,T)) fun S4 =>
 andE (S4.rename (plusOf name) name) (fun T e => (e,T)) fun S5 => S5.syncNames
def AD.getF (S:AD) (name:ByteArray) : Int × Bytes × AD :=
 if !isName name then (51,[],S) else if S.look name ≠ 0 then (S.look name,[],S) else S.read name 0 (S.bytes name).length
def AD.dropF (S:AD) (name:ByteArray) : Int × AD := if !isName name then (51,S) else S.awayF name
def AD.removeAll : List ByteArray → AD → Int × AD
 | [],S => (0,S)
 | n :: l,S => andE (S.remove n) (fun T e => (e,T)) fun S1 => AD.removeAll l S1
def AD.cleanF (S:AD) (l:List ByteArray) : Int × AD :=
 if S.off then (50,S) else
 andE (AD.removeAll l S) (fun T e => (e,T)) fun S1 => if l = [] then (0,S1) else S1.syncNames
theorem stroke_cases (S:AD) (kind r:Int) (act:AD → AD) :
    (∃ T,S.stroke kind r act = (50,T) ∧ (T = { S.ticked with off := true } ∨ T = act { S.ticked with off := true })) ∨
    ∃ r',(r' = r ∨ (r' = 55 ∧ r = 0 ∧ kind = 1)) ∧ S.stroke kind r act = (r',if r' = 0 then act { S.ticked with off := false } else { S.ticked with off := false }) := by
  unfold AD.stroke
  dsimp only
  by_cases h2 : S.ticked.since = S.ticked.plan.off
  · have e : decide (S.ticked.since = S.ticked.plan.off) = true := decide_eq_true h2
    rw [e]
    refine .inl ⟨_,rfl,?_⟩
    split <;> split <;> first | exact .inr rfl | exact .inl rfl
  · have e : decide (S.ticked.since = S.ticked.plan.off) = false := decide_eq_false h2
    rw [e]
    refine .inr ?_
    by_cases h1 : r = 0 ∧ kind = 1 ∧ S.ticked.since ≥ S.ticked.plan.from_ ∧ S.ticked.since ≤ S.ticked.plan.to_
    · refine ⟨55,.inr ⟨rfl,h1.1,h1.2.1⟩,?_⟩
      rw [if_pos h1]; rfl
    · refine ⟨r,.inl rfl,?_⟩
      rw [if_neg h1]
      by_cases h0 : r = 0
      · subst h0; rfl
      · simp [h0]
theorem look_ok {S:AD} {n:ByteArray} (ho:S.off = false) (hn:isName n = true) : S.look n = match alGet S.shown n with | none => 53 | some _ => 0 := by
 unfold AD.look; rw [ho,hn]; rfl
theorem look_0_53 {S:AD} {n:ByteArray} (ho:S.off = false) (hn:isName n = true) : S.look n = 0 ∨ S.look n = 53 := by
 rw [look_ok ho hn]; split <;> simp
theorem look_on {S:AD} {n:ByteArray} (h:S.look n = 0) : S.off = false := by
 cases e : S.off with
 | false => rfl
 | true => unfold AD.look at h; rw [e] at h; simp at h
theorem look_is {S:AD} {n:ByteArray} (ho:S.off = false) (hn:isName n = true) (h:alGet S.shown n ≠ none) : S.look n = 0 := by
 rw [look_ok ho hn]
 cases e : alGet S.shown n with
 | none => exact absurd e h
 | some t => rfl
theorem remove_cases {S:AD} {n:ByteArray} (h:S.look n = 0) : (∃ T,S.remove n = (50,T)) ∨ S.remove n = (0,({ S.ticked with off := false } : AD).turned (.take n)) := by
 unfold AD.remove; rw [if_neg (by omega)]
 rcases stroke_cases S 0 0 (fun T => T.turned (.take n)) with ⟨T,h,_⟩ | ⟨r,hr,h⟩
 ·exact .inl ⟨T,h⟩
 ·rcases hr with rfl | ⟨_,_,h'⟩
  ·exact .inr h
  ·exact absurd h' (by decide)
theorem syncNames_cases (S:AD) : (∃ T,S.syncNames = (50,T)) ∨ S.syncNames = (0,{ S.ticked with off := false,safe := S.shown,row := [] }) := by
 unfold AD.syncNames
 split
 ·exact .inl ⟨_,rfl⟩
 ·rcases stroke_cases S 2 0 (fun T => { T with safe := T.shown,row := [] }) with ⟨T,h,_⟩ | ⟨r,hr,h⟩
  ·exact .inl ⟨T,h⟩
  ·rcases hr with rfl | ⟨_,_,h'⟩
   ·exact .inr h
   ·exact absurd h' (by decide)
theorem sync_cases {S:AD} {n:ByteArray} (h:S.look n = 0) : (∃ T,S.sync n = (50,T)) ∨ S.sync n = (0,({ S.ticked with off := false } : AD).setThing (S.of n) (S.things (S.of n)).settle) := by
 unfold AD.sync; rw [if_neg (by omega)]
 rcases stroke_cases S 2 0 (fun T => T.setThing (S.of n) (T.things (S.of n)).settle) with ⟨T,h,_⟩ | ⟨r,hr,h⟩
 ·exact .inl ⟨T,h⟩
 ·rcases hr with rfl | ⟨_,_,h'⟩
  ·exact .inr h
  ·exact absurd h' (by decide)
theorem rename_cases {S:AD} {a b:ByteArray} (h:S.look a = 0) (hb:isName b = true) (hne:a ≠ b) : (∃ T,S.rename a b = (50,T)) ∨ S.rename a b = (0,({ S.ticked with off := false } : AD).turned (.give a b)) := by
 obtain ⟨hn,hg⟩ := look0 h
 unfold AD.rename; rw [look_on h,hn,hb,hg]
 simp only [Bool.false_eq_true,if_false,Bool.not_true,Bool.or_self,hne]
 rcases stroke_cases S 0 0 (fun T => T.turned (.give a b)) with ⟨T,h,_⟩ | ⟨r,hr,h⟩
 ·exact .inl ⟨T,h⟩
 ·rcases hr with rfl | ⟨_,_,h'⟩
  ·exact .inr h
  ·exact absurd h' (by decide)
theorem create_cases {S:AD} {n:ByteArray} (h:S.look n = 53) : (∃ T,S.create n = (50,T)) ∨ (∃ e,(e = 55 ∨ e = 56) ∧ S.create n = (e,{ S.ticked with off := false })) ∨ S.create n = (0,({ S.ticked with off := false } : AD).made n) ∧ S.shown.length < 256 := by
 unfold AD.create; rw [if_neg (by omega),if_pos h]
 rcases stroke_cases S 1 (if S.shown.length ≥ 256 then 56 else 0) (fun T => T.made n) with ⟨T,h,_⟩ | ⟨r,hr,h⟩
 ·exact .inl ⟨T,h⟩
 ·rw [h]
  by_cases hl : S.shown.length ≥ 256
  ·rw [if_pos hl] at hr
   rcases hr with rfl | ⟨_,h',_⟩
   ·exact .inr (.inl ⟨56,.inr rfl,rfl⟩)
   ·exact absurd h' (by decide)
  ·rw [if_neg hl] at hr
   rcases hr with rfl | ⟨rfl,_,_⟩
   ·exact .inr (.inr ⟨rfl,by omega⟩)
   ·exact .inr (.inl ⟨55,.inl rfl,rfl⟩)
theorem append_cases {S:AD} {n:ByteArray} (h:S.look n = 0) (d:Bytes) : (∃ T,S.append n d = (50,T)) ∨ S.append n d = (55,{ S.ticked with off := false }) ∨
    S.append n d = (0,({ S.ticked with off := false } : AD).setThing (S.of n) ((S.things (S.of n)).add (.wr (S.bytes n).length d))) := by
  unfold AD.append; rw [if_neg (by omega)]
  unfold AD.writeAt; rw [if_neg (by omega),if_neg (by omega)]
  have hr0 : ∃ r0 : Int,(r0 = 55 ∨ r0 = 0) ∧ (if ((S.bytes n).length : Int) + d.length - (S.bytes n).length > 0 ∧ (S.used : Int) + ((S.bytes n).length + d.length - (S.bytes n).length) > S.room then (55 : Int) else 0) = r0 := by
    split
    · exact ⟨55,.inl rfl,rfl⟩
    · exact ⟨0,.inr rfl,rfl⟩
  obtain ⟨r0,h0,e0⟩ := hr0
  rw [e0]
  rcases stroke_cases S 1 r0 (fun T => T.setThing (S.of n) ((T.things (S.of n)).add (.wr ((S.bytes n).length : Int).toNat d))) with ⟨T,h,_⟩ | ⟨r,hr,h⟩
  · exact .inl ⟨T,h⟩
  · rw [h]
    refine .inr ?_
    rcases hr with rfl | ⟨rfl,_,_⟩
    · rcases h0 with rfl | rfl
      · exact .inl rfl
      · exact .inr rfl
    · exact .inl rfl
theorem undo50 (T:AD) (plus:ByteArray) (b r:Bool) : T.undo plus b r 50 = (50,T) := by unfold AD.undo; rw [if_pos (by decide)]
theorem putF_eq (S:AD) (name:ByteArray) (d:Bytes) : S.putF name d = S.rputF name d := by
  unfold AD.putF AD.rputF
  cases hl : lays name with
  | false => simp
  | true =>
    obtain ⟨hn,hp,hne⟩ := lays_name hl
    simp only [Bool.not_true,Bool.false_eq_true,if_false]
    cases ho : S.off with
    | true => simp
    | false =>
      simp only [Bool.false_eq_true,if_false]
      -- what is there of the + file
      have key : ∀ S1 : AD,S1.look (plusOf name) = 53 → (andE (S1.create (plusOf name)) (fun T e => T.undo (plusOf name) false (S.has (plusOf name)) e) fun S2 =>
          andE (S2.append (plusOf name) d) (fun T e => T.undo (plusOf name) true (S.has (plusOf name)) e) fun S3 =>
          andE (S3.sync (plusOf name)) (fun T e => T.undo (plusOf name) true (S.has (plusOf name)) e) fun S4 =>
          andE (S4.rename (plusOf name) name) (fun T e => T.undo (plusOf name) true (S.has (plusOf name)) e) fun S5 =>
          andE S5.syncNames (fun T e => T.undo (plusOf name) true (S.has (plusOf name)) e) fun S6 => (0,S6)) =
          andE (S1.create (plusOf name)) (fun T e => if e ≠ 50 ∧ S.has (plusOf name) = true then (if T.syncNames.1 ≠ 0 then (50,T.syncNames.2) else (e,T.syncNames.2)) else (e,T)) fun S2 =>
          andE (S2.append (plusOf name) d) (fun T e => if e ≠ 50 then (if (T.awayF (plusOf name)).1 ≠ 0 then (50,(T.awayF (plusOf name)).2) else (e,(T.awayF (plusOf name)).2)) else (e,T)) fun S3 =>
          andE (S3.sync (plusOf name)) (fun T e => (e,T)) fun S4 =>
          andE (S4.rename (plusOf name) name) (fun T e => (e,T)) fun S5 => S5.syncNames := by
        intro S1 h53
        rcases create_cases h53 with ⟨T,h⟩ | ⟨e,he,h⟩ | ⟨h,_⟩
        · rw [h]; unfold andE; simp [undo50]
        · rw [h]
          unfold andE
          have e0 : e ≠ 0 := by omega
          have e50 : e ≠ 50 := by omega
          simp only [ne_eq,e0,not_false_eq_true,if_true,e50,true_and]
          unfold AD.undo
          rw [if_neg (by omega)]
          simp only [Bool.false_eq_true,if_false]
          cases S.has (plusOf name) with
          | false => simp
          | true =>
            simp only [if_true]
            rcases syncNames_cases { S1.ticked with off := false } with ⟨X,hx⟩ | hx
            · rw [hx]; first | done | simp
            · rw [hx]; simp
        · rw [h]
          unfold andE
          simp only [ne_eq,not_true_eq_false,if_false]
          generalize h2 : ({ S1.ticked with off := false } : AD).made (plusOf name) = S2
          have look2 : S2.look (plusOf name) = 0 := by
            rw [← h2]
            exact look_is rfl hp (by rw [show (({ S1.ticked with off := false } : AD).made (plusOf name)).shown = setN S1.shown (plusOf name) S1.next from rfl,alGet_setN]; simp)
          rcases append_cases look2 d with ⟨T,h⟩ | h | h
          · rw [h]; simp [undo50]
          · rw [h]
            simp only [ne_eq,show (55 : Int) ≠ 0 by decide,not_false_eq_true,if_true,show (55 : Int) ≠ 50 by decide]
            have look3 : ({ S2.ticked with off := false } : AD).look (plusOf name) = 0 := look_is rfl hp (by
              have := (look0 look2).2
              show alGet S2.shown _ ≠ none
              rw [this]; simp)
            generalize ({ S2.ticked with off := false } : AD) = S3 at look3
            unfold AD.undo AD.awayF
            rw [if_neg (by decide)]
            simp only [if_true]
            rcases remove_cases look3 with ⟨T,h⟩ | h
            · rw [h]; unfold andE; simp
            · rw [h]; unfold andE
              simp only [ne_eq,not_true_eq_false,if_false]
              rcases syncNames_cases (({ S3.ticked with off := false } : AD).turned (.take (plusOf name))) with ⟨X,hx⟩ | hx
              · rw [hx]; first | done | simp
              · rw [hx]; simp
          · rw [h]
            simp only [ne_eq,not_true_eq_false,if_false]
            generalize h3 : ({ S2.ticked with off := false } : AD).setThing (S2.of (plusOf name)) ((S2.things (S2.of (plusOf name))).add (.wr (S2.bytes (plusOf name)).length d)) = S3
            have look3 : S3.look (plusOf name) = 0 := by
              rw [← h3]
              exact look_is rfl hp (by
                have := (look0 look2).2
                show alGet S2.shown _ ≠ none
                rw [this]; simp)
            rcases sync_cases look3 with ⟨T,h⟩ | h
            · rw [h]; simp [undo50]
            · rw [h]
              simp only [ne_eq,not_true_eq_false,if_false]
              generalize h4 : ({ S3.ticked with off := false } : AD).setThing (S3.of (plusOf name)) (S3.things (S3.of (plusOf name))).settle = S4
              have look4 : S4.look (plusOf name) = 0 := by
                rw [← h4]
                exact look_is rfl hp (by
                  have := (look0 look3).2
                  show alGet S3.shown _ ≠ none
                  rw [this]; simp)
              rcases rename_cases look4 hn hne with ⟨T,h⟩ | h
              · rw [h]; simp [undo50]
              · rw [h]
                simp only [ne_eq,not_true_eq_false,if_false]
                generalize ({ S4.ticked with off := false } : AD).turned (.give (plusOf name) name) = S5
                rcases syncNames_cases S5 with ⟨X,hx⟩ | hx
                · rw [hx]; simp [undo50]
                · rw [hx]; simp
      by_cases hh : S.has (plusOf name) = true
      · have look1 : S.look (plusOf name) = 0 := of_decide_eq_true hh
        rw [if_pos hh]
        rcases remove_cases look1 with ⟨T,h⟩ | h
        · rw [h]; unfold andE; simp [undo50]
        · rw [h]
          have := key (({ S.ticked with off := false } : AD).turned (.take (plusOf name))) (by
            rw [look_ok rfl hp]
            rw [show alGet ((({ S.ticked with off := false } : AD).turned (.take (plusOf name))).shown) (plusOf name) = none from alGet_none_iff.2 fun p hp' => (mem_alDel.1 hp').2])
          unfold andE at this ⊢
          simpa using this
      · have hf : S.has (plusOf name) = false := by simpa using hh
        have look1 : S.look (plusOf name) = 53 := by
          rcases look_0_53 ho hp with h | h
          · exact absurd (decide_eq_true h) hh
          · exact h
        have := key S look1
        rw [if_neg hh]
        unfold andE at this ⊢
        simpa using this
theorem AD.Ok.up {S:AD} {c c':Nat} (h:S.Ok c) (hc:c ≤ c') (hs:c' ≤ 1099511627776) : S.Ok c' := h.mono hc hs
theorem ok_andE {r:Int × AD} {u:AD → Int → Int × AD} {n:AD → Int × AD} {c:Nat} (h:r.2.Ok c) {c':Nat} (hu:∀ e,(u r.2 e).2.Ok c') (hn:(n r.2).2.Ok c') : (andE r u n).2.Ok c' := by
 unfold andE; split
 ·exact hu _
 ·exact hn
theorem ok_undo {S:AD} {c:Nat} (ok:S.Ok c) (hc:c + 2 ≤ 1099511627776) (plus:ByteArray) (b r:Bool) (e:Int) : (S.undo plus b r e).2.Ok (c + 2) := by
 have h1 := ok.remove (by omega) plus
 have h2 := h1.syncNames (by omega)
 have h3 := ok.syncNames (by omega)
 unfold AD.undo
 split
 ·exact ok.up (by omega) hc
 ·split
  ·split
   ·exact h1.up (by omega) hc
   ·split
    ·exact h2
    ·exact h2
  ·split
   ·split
    ·exact h3.up (by omega) hc
    ·exact h3.up (by omega) hc
   ·exact ok.up (by omega) hc
theorem ok_putF {S:AD} {c:Nat} (ok:S.Ok c) (hc:c + 8 ≤ 1099511627776) (name:ByteArray) (d:Bytes) : (S.putF name d).2.Ok (c + 8) := by
 unfold AD.putF
 split
 ·exact ok.up (by omega) hc
 split
 ·exact ok.up (by omega) hc
 have h1 : (if S.has (plusOf name) = true then S.remove (plusOf name) else (0,S)).2.Ok (c + 1) := by
  split
  ·exact ok.remove (by omega) _
  ·exact ok.up (by omega) (by omega)
 refine ok_andE h1 (fun e => (ok_undo h1 (by omega) _ _ _ e).up (by omega) hc) ?_
 generalize (if S.has (plusOf name) = true then S.remove (plusOf name) else (0,S)).2 = S1 at *
 have h2 := h1.create (by omega) (plusOf name)
 refine ok_andE h2 (fun e => (ok_undo h2 (by omega) _ _ _ e).up (by omega) hc) ?_
 have h3 := h2.append (by omega) (plusOf name) d
 refine ok_andE h3 (fun e => (ok_undo h3 (by omega) _ _ _ e).up (by omega) hc) ?_
 have h4 := h3.sync (by omega) (plusOf name)
 refine ok_andE h4 (fun e => (ok_undo h4 (by omega) _ _ _ e).up (by omega) hc) ?_
 have h5 := h4.rename (by omega) (plusOf name) name
 refine ok_andE h5 (fun e => (ok_undo h5 (by omega) _ _ _ e).up (by omega) hc) ?_
 have h6 := h5.syncNames (by omega)
 refine ok_andE h6 (fun e => (ok_undo h6 (by omega) _ _ _ e).up (by omega) hc) ?_
 exact h6.up (by omega) hc
theorem ok_getF {S:AD} {c:Nat} (ok:S.Ok c) (hc:c + 1 ≤ 1099511627776) (name:ByteArray) : (S.getF name).2.2.Ok (c + 1) := by
 unfold AD.getF
 split
 ·exact ok.up (by omega) hc
 split
 ·exact ok.up (by omega) hc
 ·exact ok.read (by omega) _ _ _
theorem ok_awayF {S:AD} {c:Nat} (ok:S.Ok c) (hc:c + 2 ≤ 1099511627776) (name:ByteArray) : (S.awayF name).2.Ok (c + 2) := by
 unfold AD.awayF
 have h1 := ok.remove (by omega) name
 exact ok_andE h1 (fun e => h1.up (by omega) hc) (h1.syncNames (by omega))
theorem ok_dropF {S:AD} {c:Nat} (ok:S.Ok c) (hc:c + 2 ≤ 1099511627776) (name:ByteArray) : (S.dropF name).2.Ok (c + 2) := by
 unfold AD.dropF
 split
 ·exact ok.up (by omega) hc
 ·exact ok_awayF ok hc name
end Go.Proofs.XDisk

namespace Go.Proofs.XSep
open Go Go.RowKit Go.Proofs.XRed Go.Proofs.XHeap
def mvs : List Nat → List Asrt → List Asrt
 | [],l => l
 | i :: r,l => match l[i]? with
  | some a => mvs r (a :: l.eraseIdx i)
  | none => l
theorem sep_mvs {w:World} : ∀ (is:List Nat) {l:List Asrt},Sep l w → Sep (mvs is l) w
 | [],l,h => h
 | i :: r,l,h => by
  unfold mvs
  cases hi : l[i]? with
  | none => exact h
  | some a => exact sep_mvs r (h.front i hi)
theorem sep_dropN {w:World} : ∀ (n:Nat) {l:List Asrt},Sep l w → Sep (l.drop n) w
 | 0,l,h => h
 | n + 1,[],h => h
 | n + 1,a :: l,h => sep_dropN n h.drop
theorem sep_mv {w:World} {l l':List Asrt} (is:List Nat) (n:Nat) (h:Sep l w) (e:(mvs is l).drop n = l') : Sep l' w := e ▸ sep_dropN n (sep_mvs is h)
end Go.Proofs.XSep

namespace Go.Proofs.XRed
open Go Go.RowKit
section
variable {P:Program}
def endV (P:Program) (fn:Func) (k:KV) (ρ:Env) (w:World) : Prop := ∀ tmps : Array Value,(∀ t,tmps.getD t undef = ρ t) → ∃ v,(results fn tmps).run P w = .ok v w ∧ k v w
def pEnd (P:Program) (fn:Func) (k:KV) : List Deferred → KE
 | [],ρ,w => endV P fn k ρ w
 | d :: ds,ρ,w => ∃ fv cap f args,d.target = .fn fv cap ∧ (invoke d.target d.args).run P w = .ok (.enter f args) w ∧ CallsD P f args .returning w fun e u' w' => u' = .returning ∧ ∃ v,e = .returned v ∧ pEnd P fn k ds ρ w'
theorem leaves_of_end {fn:Func} {k:KV} {ρ:Env} {tmps:Array Value} (ht:∀ t,tmps.getD t undef = ρ t) : ∀ (ds:List Deferred) (w:World),pEnd P fn k ds ρ w → Leaves P fn tmps (fun e w' => ∃ v,e = .returned v ∧ k v w') ds .returning w
 | [],w,h => by
  obtain ⟨v,h1,h2⟩ := h tmps ht
  exact ⟨v,h1,v,rfl,h2⟩
 | d :: ds,w,⟨fv,cap,f,args,h1,h2,h3⟩ => by
  refine ⟨by simp,fv,cap,f,args,h1,h2,CallsD.mono h3 ?_⟩
  rintro e u' w' ⟨rfl,v,rfl,hp⟩
  exact leaves_of_end ht ds w' hp
def pDr (P:Program) (fn:Func) (k:KV) (c:Code) (ds:List Deferred) (ρ:Env) (w:World) : Prop := ∀ a,Sim ds fn.ntmps ρ a → c.wp P (bodyPostD P fn fun e w' => ∃ v,e = .returned v ∧ k v w') a w
def endN (N E:KE) : Xt → KE
 | .normal,ρ,w => N ρ w
 | .ret,ρ,w => E ρ w
 | _,_,_ => False
abbrev endQ (P:Program) (fn:Func) (k:KV) (ds:List Deferred) (N:KE) : Xt → KE := endN N (pEnd P fn k ds)
theorem pDr_code (hm:P.follows .mixedOrders = true) {fn:Func} {k:KV} {c:Code} {ds:List Deferred} {ρ:Env} {w:World} (hfit:Code.fits fn.ntmps c = true) (h:red P fn.ntmps c (endQ P fn k ds (pEnd P fn k ds)) ρ w) : pDr P fn k c ds ρ w := by
 intro a hs
 refine wp_mono (red_sound hm c hfit _ _ _ _ hs h) ?_
 intro e a w hq
 cases e with
 | normal => obtain ⟨ρ,hs,hr⟩ := hq; rw [bodyPostD,hs.1]; exact leaves_of_end hs.2.2 ds w hr
 | ret => obtain ⟨ρ,hs,hr⟩ := hq; rw [bodyPostD,hs.1]; exact leaves_of_end hs.2.2 ds w hr
 | exit i => obtain ⟨ρ,hs,hr⟩ := hq; exact hr.elim
 | goto l => obtain ⟨ρ,hs,hr⟩ := hq; exact hr.elim
 | panic c => exact hq.elim
 | outgrown => exact hq.elim
theorem pDr_seq (hm:P.follows .mixedOrders = true) {fn:Func} {k:KV} {x y:Code} {ds:List Deferred} {ρ:Env} {w:World} (hfit:Code.fits fn.ntmps x = true) (h:red P fn.ntmps x (endQ P fn k ds (pDr P fn k y ds)) ρ w) : pDr P fn k (.seq x y) ds ρ w := by
 intro a hs
 refine wp_seq (wp_mono (red_sound hm x hfit _ _ _ _ hs h) ?_)
 intro e a w hq
 cases e with
 | normal => obtain ⟨ρ,hs,hr⟩ := hq; exact hr a hs
 | ret => obtain ⟨ρ,hs,hr⟩ := hq; show Leaves _ _ _ _ _ _ _; rw [hs.1]; exact leaves_of_end hs.2.2 ds w hr
 | exit i => obtain ⟨ρ,hs,hr⟩ := hq; exact hr.elim
 | goto l => obtain ⟨ρ,hs,hr⟩ := hq; exact hr.elim
 | panic c => exact hq.elim
 | outgrown => exact hq.elim
def redOpsD (P:Program) (ops:List Oper) (K:List Deferred → KE) : List Oper → List Deferred → KE
 | [],ds,ρ,w => K ds ρ w
 | o :: rest,ds,ρ,w =>
  match o.guard,o.op with
  | none,.defer c => ∃ d,(resolve (ev ρ) c o.type).run P w = .ok d w ∧ redOpsD P ops K rest (d :: ds) (putO ρ o.dst undef) w
  | none,op => cp P op o.type ρ w fun v w => redOpsD P ops K rest ds (putO ρ o.dst v) w
  | some _,_ => False
theorem redOpsD_sound {n:Nat} {ops:Array Oper} (hw:wfOps n ops.toList = true) {K:List Deferred → KE} {Q:Exit → Act → World → Prop} (hK:∀ ds ρ a w,Sim ds n ρ a → K ds ρ w → Q .normal a w) :
    ∀ (l:List Oper),(∀ o ∈ l,o ∈ ops.toList) → ∀ (ds:List Deferred) (ρ:Env) (a:Act) (w:World),Sim ds n ρ a → redOpsD P ops.toList K l ds ρ w → wpList P ops Q l a w := by
  intro l
  induction l with
  | nil => intro _ ds ρ a w hs h; exact hK _ _ _ _ hs h
  | cons o rest ih =>
    intro hmem ds ρ a w hs h
    have hd := wfOps_at hw (hmem o (by simp))
    have ih' := ih (fun o ho => hmem o (by simp [ho]))
    unfold wpList
    unfold redOpsD at h
    split at h
    · rename_i c hg hop
      rw [if_pos (by simp [Region.wanted,hg])]
      obtain ⟨d,hr,h⟩ := h
      refine .inl ?_
      unfold Oper.wp
      rw [hs.eval]
      have he : (execOp (ev ρ) o).run P w = .ok (.defer d) w := by
        simp only [execOp,hop,Sem.run_bind,hr,Result.andThen,Sem.run_pure]
      rw [he,Oper.upon_defer]
      have hs' : Sim (d :: ds) n ρ { a with defers := d :: a.defers } := ⟨by show d :: a.defers = _; rw [hs.1],hs.2⟩
      exact ih' _ _ _ _ (hs'.putO hd _) h
    · rename_i hg hop
      rw [if_pos (by simp [Region.wanted,hg])]
      exact .inl (cp_sound hs (fun v w hk => ih' _ _ _ _ (hs.putO hd v) hk) h)
    · exact h.elim
theorem pDr_seqD {fn:Func} {k:KV} {id:Nat} {ops:Array Oper} {y:Code} {ds:List Deferred} {ρ:Env} {w:World} (hw:wfOps fn.ntmps ops.toList = true) (h:redOpsD P ops.toList (fun ds => pDr P fn k y ds) ops.toList ds ρ w) : pDr P fn k (.seq (.region id ops false) y) ds ρ w := by
 intro a hs
 exact wp_seq (wp_region_list (redOpsD_sound hw (Q := Exit.then (y.wp P (bodyPostD P fn fun e w' => ∃ v,e = .returned v ∧ k v w')) (bodyPostD P fn fun e w' => ∃ v,e = .returned v ∧ k v w')) (fun ds ρ a w hs h => h a hs) _ (fun o ho => ho) _ _ _ _ hs h))
theorem sim_args {n:Nat} {args:List Value} (hn:args.length ≤ n) : Sim [] n (argEnv args) { tmps := args.toArray ++ Array.replicate (n - args.toArray.size) undef,defers := [] } := by
 refine ⟨rfl,by simp; omega,fun t => ?_⟩
 simp only [argEnv]
 rcases Nat.lt_or_ge t args.length with h | h
 ·simp [Array.getElem?_append,h,List.getD_eq_getElem?_getD]
 ·have e : args.getD t undef = undef := by simp [List.getD_eq_getElem?_getD,List.getElem?_eq_none h]
  rw [e]
  rcases Nat.lt_or_ge (t - args.length) (n - args.length) with h2 | h2
  ·simp [Array.getElem?_append,Nat.not_lt.2 h,Array.getElem?_replicate,h2]
  ·simp [Array.getElem?_append,Nat.not_lt.2 h,Array.getElem?_replicate,Nat.not_lt.2 h2]
theorem pFn_of_pDr {f : FuncId} {fn : Func} (hf : P.funcs[f]? = some fn) (hname : (fn.name == "runtime.NumGoroutine") = false) {c : Code} (hb : fn.body = some c) {args : List Value} (hn : args.length ≤ fn.ntmps) {w : World} {k : KV} (h : pDr P fn k c [] (argEnv args) w) : pFn P f args w k :=
 pFn_of_calls hf hname (by rw [hb]; rfl) (calls_of_wp_defers hf hb (h _ (sim_args hn)))
theorem callsD_of_at (hm:P.follows .mixedOrders = true) {f:FuncId} {fn:Func} (hf:P.funcs[f]? = some fn) (hb:fn.body = some (bodyOf fn)) {n:Nat} (hn:fn.ntmps = n) (hfit:Code.fits n (bodyOf fn) = true) (hrs:fn.results = #[]) {args:List Value} (hlen:args.length ≤ n) {w:World} {k:KV}
    (h:At P n (bodyOf fn) (retQ P fn.results.toList k) [] (argEnv args) w) : CallsD P f args.toArray .returning w fun e u' w' => u' = .returning ∧ ∃ v,e = .returned v ∧ k v w' := by
  subst hn
  unfold At Pt at h
  have e1 : sub (bodyOf fn) [] = bodyOf fn := by generalize bodyOf fn = c; cases c <;> rfl
  have e2 : ∀ Q',contAt P fn.ntmps (bodyOf fn) Q' [] = Q' := by intro Q'; generalize bodyOf fn = c; cases c <;> rfl
  rw [e1,e2] at h
  refine CallsD.mono (callsD_of_wp (R := fun e w' => ∃ v,e = .returned v ∧ k v w') hf hb (wp_mono (red_sound hm _ hfit _ _ _ _ (sim_args hlen) h) ?_)) fun e u' w' h => h
  have done : ∀ (a:Act) (w:World) (ρ:Env),Sim [] fn.ntmps ρ a → retV (P := P) fn.results.toList ρ w k → a.defers = [] ∧ ∃ v,(results fn a.tmps).run P w = .ok v w ∧ ∃ u,Ending.returned v = .returned u ∧ k u w := by
    intro a w ρ hs hr
    rw [hrs] at hr
    exact ⟨hs.1,.tuple #[],by simp only [results,hrs]; simp,_,rfl,hr⟩
  intro e a w hq
  cases e with
  | normal => obtain ⟨ρ,hs,hr⟩ := hq; exact done a w ρ hs hr
  | ret => obtain ⟨ρ,hs,hr⟩ := hq; exact done a w ρ hs hr
  | exit i => obtain ⟨ρ,hs,hr⟩ := hq; exact hr.elim
  | goto l => obtain ⟨ρ,hs,hr⟩ := hq; exact hr.elim
  | panic c => exact hq.elim
  | outgrown => exact hq.elim
theorem red_at {n:Nat} {c:Code} {Q:Xt → KE} {ρ:Env} {w:World} : At P n c Q [] ρ w = red P n c Q ρ w := by cases c <;> rfl
theorem pDr_seqA (hm:P.follows .mixedOrders = true) {fn:Func} {k:KV} {C x y:Code} {ds:List Deferred} {ρ:Env} {w:World} {n:Nat} (hn:fn.ntmps = n) (hC:C = .seq x y) (hfit:Code.fits n x = true) (h:At P n x (endN (pDr P fn k y ds) (pEnd P fn k ds)) [] ρ w) : pDr P fn k C ds ρ w := by
 subst hn; subst hC
 rw [red_at] at h
 exact pDr_seq hm hfit h
theorem pDr_seqDA {fn:Func} {k:KV} {C:Code} {id:Nat} {ops:Array Oper} {y:Code} {ds:List Deferred} {ρ:Env} {w:World} {n:Nat} (hn:fn.ntmps = n) (hC:C = .seq (.region id ops false) y) (hw:wfOps n ops.toList = true) (h:redOpsD P ops.toList (fun ds => pDr P fn k y ds) ops.toList ds ρ w) : pDr P fn k C ds ρ w := by
 subst hn; subst hC; exact pDr_seqD hw h
theorem pDr_codeA (hm:P.follows .mixedOrders = true) {fn:Func} {k:KV} {c:Code} {ds:List Deferred} {ρ:Env} {w:World} {n:Nat} (hn:fn.ntmps = n) (hfit:Code.fits n c = true) (h:At P n c (endN (pEnd P fn k ds) (pEnd P fn k ds)) [] ρ w) : pDr P fn k c ds ρ w := by
 subst hn
 rw [red_at] at h
 exact pDr_code hm hfit h
theorem endV_cell {fn:Func} {k:KV} {ρ:Env} {w:World} {t:Tmp} {ty:TypeId} {a:Addr} {v:Value} (hr:fn.results = #[.cell t ty]) (ha:ρ t = .pointer (some a)) (hv:(loadVar ty a).run P w = .ok v w) (hk:k v w) : endV P fn k ρ w := by
 intro tmps ht
 refine ⟨v,?_,hk⟩
 have e : tmps.getD t undef = .pointer (some a) := (ht t).trans ha
 have e' : tmps[t]?.getD undef = .pointer (some a) := by simpa using e
 simp [results,hr,e',asAddr,hv,Result.andThen]
end
end Go.Proofs.XRed

set_option maxRecDepth 100000
namespace Go.Proofs.YteeeggphkhimcaaGreatDoor
open Go Go.Proofs Go.RowKit Go.Proofs.XRed Go.Proofs.XHeap Go.Proofs.XMaps Go.Proofs.XSlices Go.Proofs.XDisk Go.Proofs.XCalls Tryz
section
variable {w:World} {k:KV}
theorem s_addS {t:TypeId} {x y:Operand} {a b:ByteArray} (h:a.size + b.size ≤ 9223372036854775807) (hk:k (.string (a ++ b)) w) : px P (binSem .add t x y (.string a) (.string b)) w k := by
 refine s_bin (by simp) (by simp) ?_ hk
 have hn : ¬ (((a.size + b.size : Nat) : Int) > IntKind.i64.max) := by
  have : IntKind.i64.max = 9223372036854775807 := by decide
  rw [this]; omega
 have hn' : ¬ ((a.size : Int) + (b.size : Int) > IntKind.i64.max) := by simpa using hn
 simp only [binOp,Op.stringOp]
 first | (rw [if_neg hn]; rfl) | (rw [if_neg hn']; rfl)
def namedA (s:ByteArray) (most:Int) : Bool := s.data.toList.all okByte && decide (1 ≤ s.size) && decide ((s.size : Int) ≤ most)
theorem namedA_112 (s:ByteArray) : namedA s 112 = isName s := by
 unfold namedA isName
 congr 1
 exact decide_eq_decide.2 ⟨fun h => by omega,fun h => by omega⟩
theorem empty_iff (s:ByteArray) : s = ByteArray.mk #[] ↔ s.size = 0 := by
 constructor
 ·rintro rfl; rfl
 ·intro h
  apply ByteArray.ext
  exact Array.eq_empty_of_size_eq_zero h
set_option maxHeartbeats 1000000 in
theorem c_named (s:ByteArray) (most:Int) (hs:s.size ≤ 9223372036854775807) (hk:k (.bool (namedA s most)) w) : pFn P 66 [.string s,i64 most] w k := by
  refine F66_in _ _ _ _ ?_
  unfold F66_0
  refine s_eqs ?_
  by_cases he : s = ByteArray.mk #[]
  · have hf : namedA s most = false := by unfold namedA; have := (empty_iff s).1 he; simp [this]
    rw [hf] at hk
    rw [decide_eq_true he]
    exact pG_skf (pG_skf (pG_skf (pG_skf (s_pick_t (pC_true hk)))))
  have h0 : 1 ≤ s.size := by have := (not_congr (empty_iff s)).1 he; omega
  rw [decide_eq_false he]
  refine pG_yes rfl (pG_yes rfl (s_lens (by kernel_rfl) (pG_yes rfl (pG_yes rfl (s_gt ?_)))))
  by_cases hm : (s.size : Int) > most
  · have hf : namedA s most = false := by unfold namedA; rw [decide_eq_false (show ¬ (s.size : Int) ≤ most by omega)]; simp
    rw [hf] at hk
    rw [decide_eq_true hm]
    exact s_pick_f (pC_true hk)
  rw [decide_eq_false hm]
  refine s_pick_f (pC_false (s_lens (by kernel_rfl) ?_))
  refine F66L1_inv (m := s.size) k (fun m ρ w' => w' = w ∧ ρ 0 = .string s ∧ ρ 16 = i64 s.size ∧ ∃ i : Nat,ρ 17 = i64 i ∧ i + m = s.size ∧ ∀ j (hj:j < s.size),j < i → okByte s[j] = true) ?_ ⟨rfl,rfl,rfl,0,rfl,by omega,fun j _ hj => absurd hj (by omega)⟩
  rintro m ρ w' ⟨rfl,e0,h16,i,h17,him,hok⟩
  rw [F66_1_eq]
  unfold F66_1
  rw [e0,h16,h17]
  refine s_lt ?_
  by_cases hi : i < s.size
  · rw [decide_eq_true (by omega)]
    refine pC_true (s_ixs (by kernel_rfl) hi ?_)
    have hix := ix_ok s[i]
    generalize hc : s[i] = c at *
    have hlt := c.toNat_lt
    have hb : okByte c = (decide (97 ≤ c.toNat ∧ c.toNat ≤ 122) || decide (48 ≤ c.toNat ∧ c.toNat ≤ 57) || decide (0 ≤ Lib.indexByte [46,45,95,43] c)) := by
      rw [hix]; simp [UInt8.le_iff_toNat_le,Bool.decide_and]
    have next : okByte c = true → ∀ j (hj:j < s.size),j < i + 1 → okByte s[j] = true := by
      intro h j hj hji
      by_cases e : j = i
      · subst e; rw [hc]; exact h
      · exact hok j hj (by omega)
    have bad : okByte c = false → namedA s most = false := by
      intro h
      unfold namedA
      have : s.data.toList.all okByte = false := by
        rw [Bool.eq_false_iff]
        intro ha
        rw [List.all_eq_true] at ha
        have := ha c (by
          rw [← hc]
          have : i < s.data.toList.length := by simpa using hi
          have e : s[i] = s.data.toList[i] := rfl
          rw [e]; exact List.getElem_mem _)
        rw [h] at this; cases this
      simp [this]
    have eb : ((c.toNat : Int).toNat).toUInt8 = c := by simp
    have el : (ByteArray.mk #[46,45,95,43]).data.toList = [46,45,95,43] := rfl
    by_cases a1 : (c.toNat : Int) ≥ 97 <;> by_cases a2 : (c.toNat : Int) ≤ 122 <;> by_cases a3 : (c.toNat : Int) ≥ 48 <;> by_cases a4 : (c.toNat : Int) ≤ 57
    all_goals try (exfalso; omega)
    all_goals
      repeat (first | refine pG_yes rfl ?_ | refine pG_sk ?_ | refine pG_skf ?_ | refine pG_un ?_ | refine s_ge_t (by assumption) ?_ | refine s_ge_f (by assumption) ?_ | refine s_le_t (by assumption) ?_ | refine s_le_f (by assumption) ?_ | refine s_pick_t ?_ | refine s_pick_f ?_ | refine s_not ?_ | refine pC_true ?_ | refine pC_false ?_)
    all_goals first
      | (refine s_add_in (by omega) ?_
         exact ⟨m - 1,by omega,rfl,e0,h16,i + 1,rfl,by omega,next (by rw [hb,decide_eq_true (show 97 ≤ c.toNat ∧ c.toNat ≤ 122 by omega)]; rfl)⟩)
      | (refine s_add_in (by omega) ?_
         exact ⟨m - 1,by omega,rfl,e0,h16,i + 1,rfl,by omega,next (by rw [hb,decide_eq_true (show 48 ≤ c.toNat ∧ c.toNat ≤ 57 by omega)]; simp)⟩)
      | skip
    all_goals
      refine c_indexByte _ _ ?_
      rw [eb,el]
      have hb' : okByte c = decide (0 ≤ Lib.indexByte [46,45,95,43] c) := by
        rw [hb,decide_eq_false (show ¬ (97 ≤ c.toNat ∧ c.toNat ≤ 122) by omega),decide_eq_false (show ¬ (48 ≤ c.toNat ∧ c.toNat ≤ 57) by omega)]; rfl
      by_cases C : Lib.indexByte [46,45,95,43] c ≥ 0
      · repeat (first | refine pG_yes rfl ?_ | refine pG_sk ?_ | refine pG_skf ?_ | refine pG_un ?_ | refine s_ge_t (by assumption) ?_ | refine s_ge_f (by assumption) ?_ | refine s_le_t (by assumption) ?_ | refine s_le_f (by assumption) ?_ | refine s_pick_t ?_ | refine s_pick_f ?_ | refine s_not ?_ | refine pC_true ?_ | refine pC_false ?_)
        refine s_add_in (by omega) ?_
        exact ⟨m - 1,by omega,rfl,e0,h16,i + 1,rfl,by omega,next (by rw [hb']; exact decide_eq_true (by omega))⟩
      · repeat (first | refine pG_yes rfl ?_ | refine pG_sk ?_ | refine pG_skf ?_ | refine pG_un ?_ | refine s_ge_t (by assumption) ?_ | refine s_ge_f (by assumption) ?_ | refine s_le_t (by assumption) ?_ | refine s_le_f (by assumption) ?_ | refine s_pick_t ?_ | refine s_pick_f ?_ | refine s_not ?_ | refine pC_true ?_ | refine pC_false ?_)
        rw [bad (by rw [hb']; exact decide_eq_false (by omega))] at hk
        exact hk
  · rw [decide_eq_false (by omega)]
    refine pC_false ?_
    have := F66_2_eq k
    show F66A k _ _ _
    rw [F66_2_eq]
    unfold F66_2
    have hall : s.data.toList.all okByte = true := by
      rw [List.all_eq_true]
      intro c hc
      obtain ⟨j,hj,rfl⟩ := List.getElem_of_mem hc
      have hj' : j < s.size := by simpa using hj
      exact hok j hj' (by omega)
    have hfin : namedA s most = true := by
      unfold namedA
      rw [hall,decide_eq_true h0,decide_eq_true (show (s.size : Int) ≤ most by omega)]; rfl
    rw [hfin] at hk
    exact hk
def fopB : ByteArray := ByteArray.mk #[102,105,108,101,46]
def zeroId : List UInt8 := List.replicate 32 0
structure FaultAt (w:World) (b:Nat) (op name:ByteArray) (e:Int) : Prop where
 h : w.heap[b]? = some (.cells (faultCells (fopB ++ op) name zeroId (EV.no e).val) 77 (0,0))
theorem FaultAt.fr {O:Nat → Prop} {w w':World} {b:Nat} {op name:ByteArray} {e:Int} (h:FaultAt w b op name e) (hf:Fr O w w') (hn:¬ O b) : FaultAt w' b op name e := ⟨hf.get h.h hn⟩
theorem FaultAt.in_ {w:World} {b:Nat} {op name:ByteArray} {e:Int} (h:FaultAt w b op name e) : (EV.fault b (.no e)).In w := ⟨⟨_,_,zeroId,rfl,h.h⟩,trivial⟩
theorem c_refused {op name:ByteArray} {e:Int} (hs:op.size ≤ 1000) (hk:∀ w',FaultAt w' w.heap.size op name e → Fr (fun _ => False) w w' → w'.heap.size = w.heap.size + 1 → k (EV.fault w.heap.size (.no e)).val w') : pFn P 67 [.string op,.string name,i64 e] w k := by
 refine F67_in _ _ _ _ _ ?_
 unfold F67_0
 refine s_addS (by show 5 + _ ≤ _; omega) ?_
 refine s_mki (by kernel_rfl) ?_
 refine px_ok (w' := w) (v := .agg (faultCells (fopB ++ op) name zeroId (EV.no e).val)) ?_ ?_
 ·exact run_build w _ _ _ (by
   show P.built 77 [(0,.string (fopB ++ op)),(1,.string name),(3,(EV.no e).val)] = _
   generalize fopB ++ op = o
   kernel_rfl)
 refine s_box (s_mki (by kernel_rfl) ?_)
 refine hk _ ⟨?_⟩ (Fr.alloc _ _ _) (by simp)
 exact alloc_new _ _
end
open Go.Proofs.XSep
def BytesA (v:Value) (bs:Bytes) : Asrt where
 h w O I := SBytes w v bs ∧ (0 < bs.length → ∀ b,sblk v = some b → I b) ∧ (∀ b,¬ O b) ∧ ∀ b,I b → b < w.heap.size
 fr := fun ⟨h1,h2,h3,h4⟩ hf hm => ⟨SBytes.fr0 h1 hf fun h0 b hb e => (hm b e).2 (h2 h0 b hb),h2,h3,fun b hb => Nat.lt_of_lt_of_le (h4 b hb) hf.size⟩
 lt := fun ⟨h1,h2,h3,h4⟩ b hb => hb.elim (fun h => absurd h (h3 b)) (h4 b)
 ap := fun ⟨h1,h2,h3,h4⟩ b hb => absurd hb (h3 b)
section
variable {w w0:World} {k:KV} {W:World} {D E c:Nat} {S T:AD} {l:List Asrt}
theorem data_low {dv:Value} {d:Bytes} (h:SBytes W dv d) : 0 < d.length → ∀ b,sblk dv = some b → b < W.heap.size := fun h0 b hb => Src.lt (size := 1) h (by omega) h0 hb
theorem BytesA.mk {w:World} {v:Value} {bs:Bytes} (h:SBytes w v bs) : (BytesA v bs).h w (fun _ => False) (fun b => 0 < bs.length ∧ sblk v = some b) :=
 ⟨h,fun h0 b hb => ⟨h0,hb⟩,fun _ h => h,fun b hb => Src.lt (size := 1) h (by omega) hb.1 hb.2⟩
theorem s_read {l:List Asrt} {i:Nat} {D:Nat} {S:AD} {c:Nat} (hS:Sep l w) (hi:l[i]? = some (Dk D S)) (ok:S.Ok c) (name:ByteArray) (hs:name.size ≤ 9223372036854775807) (a n:Int) (hn:-9223372036854775808 ≤ a ∧ a ≤ 9223372036854775807)
    (hk:∀ w' v,Sep (l.set i (star (Dk D (S.read name a n).2.2) (BytesA v (S.read name a n).2.1))) w' → k (.tuple #[v,i64 (S.read name a n).1]) w') : pFn P 77 [ptr D,.string name,i64 a,i64 n] w k := by
  obtain ⟨O,I,J,⟨L,h1⟩,g1,g2,nx⟩ := hS.at_ i hi
  refine c_read h1 ok name hs a n hn fun w' O' I' L' v hx hv hb => hk w' v (nx _ w' O' (fun b => I' b ∨ (0 < (S.read name a n).2.1.length ∧ sblk v = some b)) ⟨O',I',_,_,⟨L',hx.rep⟩,BytesA.mk hv,⟨fun b hb' => ⟨id,fun e => (hb b e.2).2 hb'⟩,fun b hb' => hb'.elim⟩,fun b => by simp,fun b => Iff.rfl⟩ ⟨hx.fr,hx.on,fun b hb' => ?_⟩)
  rcases hb' with hb' | hb'
  · exact (hx.in_ b hb').imp (g1 b) id
  · exact .inr (hb b hb'.2).1
theorem s_rread {l:List Asrt} {i:Nat} {D:Nat} {S:AD} {c:Nat} (hS:Sep l w) (hi:l[i]? = some (Rk D S)) (ok:S.Ok c) (name:ByteArray) (a n:Int) (hn:-9223372036854775808 ≤ a ∧ a ≤ 9223372036854775807)
    (hk:∀ w' v,Sep (l.set i (star (Rk D (S.read name a n).2.2) (BytesA v (S.read name a n).2.1))) w' → k (.tuple #[v,i64 (S.read name a n).1]) w') : pFn P 156 [ptr D,.string name,i64 a,i64 n] w k := by
  obtain ⟨O,I,J,⟨L,h1⟩,g1,g2,nx⟩ := hS.at_ i hi
  refine r_read h1 ok name a n hn fun w' O' I' L' v hx hv hb => hk w' v (nx _ w' O' (fun b => I' b ∨ (0 < (S.read name a n).2.1.length ∧ sblk v = some b)) ⟨O',I',_,_,⟨L',hx.rep⟩,BytesA.mk hv,⟨fun b hb' => ⟨id,fun e => (hb b e.2).2.2 hb'⟩,fun b hb' => hb'.elim⟩,fun b => by simp,fun b => Iff.rfl⟩ ⟨hx.fr,hx.on,fun b hb' => ?_⟩)
  rcases hb' with hb' | hb'
  · exact (hx.in_ b hb').imp (g1 b) id
  · exact .inr (hb b hb'.2).1
theorem read_len {S:AD} {c:Nat} (ok:S.Ok c) (name:ByteArray) (a n:Int) : (S.read name a n).2.1.length ≤ 1048576 := by
 unfold AD.read
 split
 ·simp
 ·split
  ·simp
  ·rename_i h _
   have hl : S.look name = 0 := by simpa using h
   have hre : reach S (S.of name) := .inl ⟨name,mem_of_alGet (look0 hl).2⟩
   have := (ok.thing _ hre).ok.len.1
   have e : S.bytes name = (S.things (S.of name)).shown := rfl
   simp only [List.length_take,List.length_drop,e]
   omega
theorem names_len (S:AD) {c:Nat} (ok:S.Ok c) (p:ByteArray) : (AD.listA S p).length ≤ 256 := by
 unfold AD.listA
 split
 ·simp
 ·refine Nat.le_trans (List.length_filter_le _ _) ?_
  rw [List.length_map]; exact ok.turns.len.1
theorem crash_names {S:AD} {c:Nat} (ok:S.Ok c) (picks:List Int) : ∀ p ∈ S.crashNames picks,p.1.size ≤ maxLen := fun p hp => by have := ok.crashNames_small picks p hp; unfold maxLen; omega
end
end Go.Proofs.YteeeggphkhimcaaGreatDoor

namespace Go.Proofs.YteeeggphkhimcaaGreatDoor
open Go Go.Proofs Go.Proofs.XRed Tryz
open Go.Instr (fieldAt loadAt storeAt indexAt sliceAt extract)
noncomputable def F19B : Code := bodyOf f19
noncomputable def F19C0 : Code := sub F19B []
noncomputable def F19X0 : Code := sub F19B [0]
noncomputable def F19p0B : Code := F19X0
def F19p0A (N E:KE) (q:List Nat) (ρ:Env) (w:World) : Prop := At prog 92 F19p0B (endN N E) q ρ w
def F19p0_0 (N:KE) (E:KE) (ρ:Env) (w:World) : Prop :=
 px prog (Instr.box 24 (ρ 0)) w fun v3 w =>
 px prog (Instr.box 9 (ρ 1)) w fun v4 w =>
 px prog (Instr.alloc 31 true (.tuple #[])) w fun v6 w =>
 N (put (put (put ρ 3 v3) 4 v4) 6 v6) w
theorem F19p0_0_eq (N:KE) (E:KE) (ρ:Env) (w:World) : F19p0A N E [] ρ w = F19p0_0 N E ρ w := by kernel_rfl
noncomputable def F19C1 : Code := sub F19B [1]
noncomputable def F19X1 : Code := sub F19B [1,0]
noncomputable def F19p1B : Code := F19X1
def F19p1A (N E:KE) (q:List Nat) (ρ:Env) (w:World) : Prop := At prog 92 F19p1B (endN N E) q ρ w
def F19p1_0 (N:KE) (E:KE) (ρ:Env) (w:World) : Prop :=
 px prog (loadAt 9 (ρ 4)) w fun v18 w =>
 pFn prog 66 [v18,(.int .i64 111)] w fun v19 w =>
 px prog (Op.unary .not v19) w fun v20 w =>
 pG v20 false (fun k => px prog (loadAt 9 (ρ 4)) w k) (w := w) (next := fun v22 w =>
 pG v20 false (fun k => px prog (Instr.index 9 v22 (.int .i64 0)) w k) (w := w) (next := fun v23 w =>
 pG v20 false (fun k => px prog (binSem .eql 5 (.tmp 23) (.const (.int .u8 43)) v23 (.int .u8 43)) w k) (w := w) (next := fun v24 w =>
 px prog (pickSem v20 (.bool true) v24) w fun v25 w =>
 pC v25 (
 px prog (loadAt 9 (ρ 4)) w fun v26 w =>
 pFn prog 67 [(.string (ByteArray.mk #[112,117,116])),v26,(.int .i64 51)] w fun v27 w =>
 pu prog (storeAt 31 (ρ 6) v27) w fun w =>
 E (put (put (put (put (put (put (put (put (put (put ρ 18 v18) 19 v19) 20 v20) 21 v20) 22 v22) 23 v23) 24 v24) 25 v25) 26 v26) 27 v27) w)
 (
 N (put (put (put (put (put (put (put (put ρ 18 v18) 19 v19) 20 v20) 21 v20) 22 v22) 23 v23) 24 v24) 25 v25) w))))
theorem F19p1_0_eq (N:KE) (E:KE) (ρ:Env) (w:World) : F19p1A N E [] ρ w = F19p1_0 N E ρ w := by kernel_rfl
noncomputable def F19C2 : Code := sub F19B [1,1]
noncomputable def F19X2 : Code := sub F19B [1,1,0]
noncomputable def F19p2B : Code := F19X2
def F19p2A (N E:KE) (q:List Nat) (ρ:Env) (w:World) : Prop := At prog 92 F19p2B (endN N E) q ρ w
def F19p2_0 (N:KE) (E:KE) (ρ:Env) (w:World) : Prop :=
 px prog (loadAt 24 (ρ 3)) w fun v28 w =>
 pFn prog 59 [v28] w fun v29 w =>
 pC v29 (
 px prog (loadAt 9 (ρ 4)) w fun v30 w =>
 pFn prog 67 [(.string (ByteArray.mk #[112,117,116])),v30,(.int .i64 50)] w fun v31 w =>
 pu prog (storeAt 31 (ρ 6) v31) w fun w =>
 E (put (put (put (put ρ 28 v28) 29 v29) 30 v30) 31 v31) w)
 (
 N (put (put ρ 28 v28) 29 v29) w)
theorem F19p2_0_eq (N:KE) (E:KE) (ρ:Env) (w:World) : F19p2A N E [] ρ w = F19p2_0 N E ρ w := by kernel_rfl
noncomputable def F19C3 : Code := sub F19B [1,1,1]
noncomputable def F19X3 : Code := sub F19B [1,1,1,0]
noncomputable def F19p3B : Code := F19X3
def F19p3A (N E:KE) (q:List Nat) (ρ:Env) (w:World) : Prop := At prog 92 F19p3B (endN N E) q ρ w
def F19p3_0 (N:KE) (E:KE) (ρ:Env) (w:World) : Prop :=
 px prog (loadAt 9 (ρ 4)) w fun v32 w =>
 px prog (binSem .add 9 (.const (.string (ByteArray.mk #[43]))) (.tmp 32) (.string (ByteArray.mk #[43])) v32) w fun v33 w =>
 px prog (Instr.alloc 9 true (.tuple #[])) w fun v7 w =>
 pu prog (storeAt 9 v7 v33) w fun w =>
 N (put (put (put ρ 32 v32) 33 v33) 7 v7) w
theorem F19p3_0_eq (N:KE) (E:KE) (ρ:Env) (w:World) : F19p3A N E [] ρ w = F19p3_0 N E ρ w := by kernel_rfl
noncomputable def F19C4 : Code := sub F19B [1,1,1,1]
noncomputable def F19X4 : Code := sub F19B [1,1,1,1,0]
noncomputable def F19p4B : Code := F19X4
def F19p4A (N E:KE) (q:List Nat) (ρ:Env) (w:World) : Prop := At prog 92 F19p4B (endN N E) q ρ w
def F19p4_0 (N:KE) (E:KE) (ρ:Env) (w:World) : Prop :=
 px prog (Instr.alloc 4 true (.tuple #[])) w fun v8 w =>
 px prog (Instr.alloc 4 true (.tuple #[])) w fun v9 w =>
 pu prog (storeAt 4 v8 (.bool false)) w fun w =>
 pu prog (storeAt 4 v9 (.bool false)) w fun w =>
 N (put (put ρ 8 v8) 9 v9) w
theorem F19p4_0_eq (N:KE) (E:KE) (ρ:Env) (w:World) : F19p4A N E [] ρ w = F19p4_0 N E ρ w := by kernel_rfl
noncomputable def F19C5 : Code := sub F19B [1,1,1,1,1]
noncomputable def F19C6 : Code := sub F19B [1,1,1,1,1,1]
def F19ops : Array Oper := #[(Oper.mk (some 34) (Op.makeFunc (Fn.func 68) #[] #[(.tmp 6), (.tmp 8), (.tmp 3), (.tmp 7), (.tmp 4), (.tmp 9)]) 1 "file.go:41" #[] none), (Oper.mk none (Op.defer (Call.mk (Callee.value (.tmp 34)) #[] #[])) 0 "file.go:41" #[(Edge.mk 0 Ground.data)] none)]
theorem F19_t5 : F19C5 = .seq (.region 7 F19ops false) F19C6 := by kernel_rfl
def F19d (K:List Deferred → KE) (ds:List Deferred) (ρ:Env) (w:World) : Prop :=
 (px prog (Instr.makeFunc (Fn.func 68) #[] #[(ρ 6),(ρ 8),(ρ 3),(ρ 7),(ρ 4),(ρ 9)])) w fun v34 w =>
 ∃ d,(resolve (ev (put ρ 34 v34)) (Call.mk (Callee.value (.tmp 34)) #[] #[]) 0).run prog w = .ok d w ∧ (
 K (d :: ds) (put ρ 34 v34) w)
theorem F19d_eq (K:List Deferred → KE) (ds:List Deferred) (ρ:Env) (w:World) : redOpsD prog F19ops.toList K F19ops.toList ds ρ w = F19d K ds ρ w := by kernel_rfl
noncomputable def F19zB : Code := F19C6
def F19zA (N E:KE) (q:List Nat) (ρ:Env) (w:World) : Prop := At prog 92 F19zB (endN N E) q ρ w
def F19z_0 (N:KE) (E:KE) (ρ:Env) (w:World) : Prop :=
 px prog (loadAt 24 (ρ 3)) w fun v36 w =>
 px prog (loadAt 9 (ρ 7)) w fun v37 w =>
 pFn prog 72 [v36,v37] w fun v38 w =>
 px prog (extract v38 0) w fun v39 w =>
 px prog (extract v38 1) w fun v40 w =>
 px prog (binSem .eql 25 (.tmp 41) (.const (.int .i64 0)) v40 (.int .i64 0)) w fun v42 w =>
 pC v42 (
 px prog (loadAt 24 (ρ 3)) w fun v43 w =>
 px prog (loadAt 9 (ρ 7)) w fun v44 w =>
 pFn prog 70 [v43,v44] w fun v45 w =>
 px prog (binSem .neq 25 (.tmp 46) (.const (.int .i64 0)) v45 (.int .i64 0)) w fun v47 w =>
 pC v47 (
 px prog (loadAt 9 (ρ 4)) w fun v48 w =>
 pFn prog 67 [(.string (ByteArray.mk #[112,117,116])),v48,v45] w fun v50 w =>
 pu prog (storeAt 31 (ρ 6) v50) w fun w =>
 E (put (put (put (put (put (put (put (put (put (put (put (put (put (put (put (put (put (put (put ρ 36 v36) 37 v37) 38 v38) 35 v38) 39 v39) 40 v40) 10 v39) 11 v40) 41 v40) 42 v42) 43 v43) 44 v44) 45 v45) 12 v45) 46 v45) 47 v47) 48 v48) 49 v45) 50 v50) w)
 (
 pu prog (storeAt 4 (ρ 9) (.bool true)) w fun w =>
 F19zA N E [1] (put (put (put (put (put (put (put (put (put (put (put (put (put (put (put (put ρ 36 v36) 37 v37) 38 v38) 35 v38) 39 v39) 40 v40) 10 v39) 11 v40) 41 v40) 42 v42) 43 v43) 44 v44) 45 v45) 12 v45) 46 v45) 47 v47) w))
 (
 F19zA N E [1] (put (put (put (put (put (put (put (put (put (put ρ 36 v36) 37 v37) 38 v38) 35 v38) 39 v39) 40 v40) 10 v39) 11 v40) 41 v40) 42 v42) w)
theorem F19z_0_eq (N:KE) (E:KE) (ρ:Env) (w:World) : F19zA N E [] ρ w = F19z_0 N E ρ w := by kernel_rfl
def F19z_1 (N:KE) (E:KE) (ρ:Env) (w:World) : Prop :=
 px prog (loadAt 24 (ρ 3)) w fun v51 w =>
 px prog (loadAt 9 (ρ 7)) w fun v52 w =>
 pFn prog 73 [v51,v52] w fun v53 w =>
 px prog (binSem .neq 25 (.tmp 54) (.const (.int .i64 0)) v53 (.int .i64 0)) w fun v55 w =>
 pC v55 (
 px prog (loadAt 9 (ρ 4)) w fun v56 w =>
 pFn prog 67 [(.string (ByteArray.mk #[112,117,116])),v56,v53] w fun v58 w =>
 pu prog (storeAt 31 (ρ 6) v58) w fun w =>
 E (put (put (put (put (put (put (put (put (put ρ 51 v51) 52 v52) 53 v53) 13 v53) 54 v53) 55 v55) 56 v56) 57 v53) 58 v58) w)
 (
 pu prog (storeAt 4 (ρ 8) (.bool true)) w fun w =>
 px prog (loadAt 24 (ρ 3)) w fun v59 w =>
 px prog (loadAt 9 (ρ 7)) w fun v60 w =>
 pFn prog 74 [v59,v60,(ρ 2)] w fun v62 w =>
 px prog (binSem .neq 25 (.tmp 63) (.const (.int .i64 0)) v62 (.int .i64 0)) w fun v64 w =>
 pC v64 (
 px prog (loadAt 9 (ρ 4)) w fun v65 w =>
 pFn prog 67 [(.string (ByteArray.mk #[112,117,116])),v65,v62] w fun v67 w =>
 pu prog (storeAt 31 (ρ 6) v67) w fun w =>
 E (put (put (put (put (put (put (put (put (put (put (put (put (put (put (put (put ρ 51 v51) 52 v52) 53 v53) 13 v53) 54 v53) 55 v55) 59 v59) 60 v60) 61 (ρ 2)) 62 v62) 14 v62) 63 v62) 64 v64) 65 v65) 66 v62) 67 v67) w)
 (
 px prog (loadAt 24 (ρ 3)) w fun v68 w =>
 px prog (loadAt 9 (ρ 7)) w fun v69 w =>
 pFn prog 75 [v68,v69] w fun v70 w =>
 px prog (binSem .neq 25 (.tmp 71) (.const (.int .i64 0)) v70 (.int .i64 0)) w fun v72 w =>
 pC v72 (
 px prog (loadAt 9 (ρ 4)) w fun v73 w =>
 pFn prog 67 [(.string (ByteArray.mk #[112,117,116])),v73,v70] w fun v75 w =>
 pu prog (storeAt 31 (ρ 6) v75) w fun w =>
 E (put (put (put (put (put (put (put (put (put (put (put (put (put (put (put (put (put (put (put (put (put (put ρ 51 v51) 52 v52) 53 v53) 13 v53) 54 v53) 55 v55) 59 v59) 60 v60) 61 (ρ 2)) 62 v62) 14 v62) 63 v62) 64 v64) 68 v68) 69 v69) 70 v70) 15 v70) 71 v70) 72 v72) 73 v73) 74 v70) 75 v75) w)
 (
 px prog (loadAt 24 (ρ 3)) w fun v76 w =>
 px prog (loadAt 9 (ρ 7)) w fun v77 w =>
 px prog (loadAt 9 (ρ 4)) w fun v78 w =>
 pFn prog 76 [v76,v77,v78] w fun v79 w =>
 px prog (binSem .neq 25 (.tmp 80) (.const (.int .i64 0)) v79 (.int .i64 0)) w fun v81 w =>
 pC v81 (
 px prog (loadAt 9 (ρ 4)) w fun v82 w =>
 pFn prog 67 [(.string (ByteArray.mk #[112,117,116])),v82,v79] w fun v84 w =>
 pu prog (storeAt 31 (ρ 6) v84) w fun w =>
 E (put (put (put (put (put (put (put (put (put (put (put (put (put (put (put (put (put (put (put (put (put (put (put (put (put (put (put (put (put ρ 51 v51) 52 v52) 53 v53) 13 v53) 54 v53) 55 v55) 59 v59) 60 v60) 61 (ρ 2)) 62 v62) 14 v62) 63 v62) 64 v64) 68 v68) 69 v69) 70 v70) 15 v70) 71 v70) 72 v72) 76 v76) 77 v77) 78 v78) 79 v79) 16 v79) 80 v79) 81 v81) 82 v82) 83 v79) 84 v84) w)
 (
 px prog (loadAt 24 (ρ 3)) w fun v85 w =>
 pFn prog 71 [v85] w fun v86 w =>
 px prog (binSem .neq 25 (.tmp 87) (.const (.int .i64 0)) v86 (.int .i64 0)) w fun v88 w =>
 pC v88 (
 px prog (loadAt 9 (ρ 4)) w fun v89 w =>
 pFn prog 67 [(.string (ByteArray.mk #[112,117,116])),v89,v86] w fun v91 w =>
 pu prog (storeAt 31 (ρ 6) v91) w fun w =>
 E (put (put (put (put (put (put (put (put (put (put (put (put (put (put (put (put (put (put (put (put (put (put (put (put (put (put (put (put (put (put (put (put (put (put ρ 51 v51) 52 v52) 53 v53) 13 v53) 54 v53) 55 v55) 59 v59) 60 v60) 61 (ρ 2)) 62 v62) 14 v62) 63 v62) 64 v64) 68 v68) 69 v69) 70 v70) 15 v70) 71 v70) 72 v72) 76 v76) 77 v77) 78 v78) 79 v79) 16 v79) 80 v79) 81 v81) 85 v85) 86 v86) 17 v86) 87 v86) 88 v88) 89 v89) 90 v86) 91 v91) w)
 (
 pu prog (storeAt 31 (ρ 6) .nilIface) w fun w =>
 E (put (put (put (put (put (put (put (put (put (put (put (put (put (put (put (put (put (put (put (put (put (put (put (put (put (put (put (put (put (put (put ρ 51 v51) 52 v52) 53 v53) 13 v53) 54 v53) 55 v55) 59 v59) 60 v60) 61 (ρ 2)) 62 v62) 14 v62) 63 v62) 64 v64) 68 v68) 69 v69) 70 v70) 15 v70) 71 v70) 72 v72) 76 v76) 77 v77) 78 v78) 79 v79) 16 v79) 80 v79) 81 v81) 85 v85) 86 v86) 17 v86) 87 v86) 88 v88) w)))))
theorem F19z_1_eq (N:KE) (E:KE) (ρ:Env) (w:World) : F19zA N E [1] ρ w = F19z_1 N E ρ w := by kernel_rfl
theorem F19_t0 : F19C0 = .seq F19X0 F19C1 := by kernel_rfl
theorem F19_t1 : F19C1 = .seq F19X1 F19C2 := by kernel_rfl
theorem F19_t2 : F19C2 = .seq F19X2 F19C3 := by kernel_rfl
theorem F19_t3 : F19C3 = .seq F19X3 F19C4 := by kernel_rfl
theorem F19_t4 : F19C4 = .seq F19X4 F19C5 := by kernel_rfl
noncomputable def F68B : Code := bodyOf f68
def F68A (k:KV) (q:List Nat) (ρ:Env) (w:World) : Prop := At prog 38 F68B (retQ prog f68.results.toList k) q ρ w
def F68_0 (a0:Value) (a1:Value) (a2:Value) (a3:Value) (a4:Value) (a5:Value) (w:World) (k:KV) : Prop :=
 px prog (loadAt 31 a0) w fun v8 w =>
 px prog (Instr.makeInterface 25 (.int .i64 55)) w fun v9 w =>
 pFn prog 69 [v8,v9] w fun v10 w =>
 px prog (Op.unary .not v10) w fun v11 w =>
 pG v11 true (fun k => px prog (loadAt 31 a0) w k) (w := w) (next := fun v13 w =>
 pG v11 true (fun k => px prog (Instr.makeInterface 25 (.int .i64 56)) w k) (w := w) (next := fun v14 w =>
 pG v11 true (fun k => pFn prog 69 [v13,v14] w k) (w := w) (next := fun v15 w =>
 pG v11 true (fun k => px prog (Op.unary .not v15) w k) (w := w) (next := fun v16 w =>
 px prog (pickSem v11 v16 (.bool false)) w fun v17 w =>
 pC v17 (
 k (.tuple #[]) w)
 (
 px prog (loadAt 4 a1) w fun v18 w =>
 pC v18 (
 px prog (loadAt 24 a2) w fun v19 w =>
 px prog (loadAt 9 a3) w fun v20 w =>
 pFn prog 70 [v19,v20] w fun v21 w =>
 px prog (binSem .neq 25 (.tmp 22) (.const (.int .i64 0)) v21 (.int .i64 0)) w fun v23 w =>
 pC v23 (
 px prog (loadAt 9 a4) w fun v24 w =>
 pFn prog 67 [(.string (ByteArray.mk #[112,117,116])),v24,v21] w fun v26 w =>
 pu prog (storeAt 31 a0 v26) w fun w =>
 k (.tuple #[]) w)
 (
 F68A k [1,1] (put (put (put (put (put (put (put (put (put (put (put (put (put (put (put (put (put (argEnv [a0,a1,a2,a3,a4,a5]) 8 v8) 9 v9) 10 v10) 11 v11) 12 v11) 13 v13) 14 v14) 15 v15) 16 v16) 17 v17) 18 v18) 19 v19) 20 v20) 21 v21) 6 v21) 22 v21) 23 v23) w))
 (
 F68A k [1,1] (put (put (put (put (put (put (put (put (put (put (put (argEnv [a0,a1,a2,a3,a4,a5]) 8 v8) 9 v9) 10 v10) 11 v11) 12 v11) 13 v13) 14 v14) 15 v15) 16 v16) 17 v17) 18 v18) w))))))
theorem F68_0_eq (a0:Value) (a1:Value) (a2:Value) (a3:Value) (a4:Value) (a5:Value) (w:World) (k:KV) : F68A k [] (argEnv [a0,a1,a2,a3,a4,a5]) w = F68_0 a0 a1 a2 a3 a4 a5 w k := by kernel_rfl
def F68_1 (k:KV) (ρ:Env) (w:World) : Prop :=
 px prog (loadAt 4 (ρ 1)) w fun v27 w =>
 pG v27 false (fun k => px prog (loadAt 4 (ρ 5)) w k) (w := w) (next := fun v29 w =>
 px prog (pickSem v27 (.bool true) v29) w fun v30 w =>
 pC v30 (
 px prog (loadAt 24 (ρ 2)) w fun v31 w =>
 pFn prog 71 [v31] w fun v32 w =>
 px prog (binSem .neq 25 (.tmp 33) (.const (.int .i64 0)) v32 (.int .i64 0)) w fun v34 w =>
 pC v34 (
 px prog (loadAt 9 (ρ 4)) w fun v35 w =>
 pFn prog 67 [(.string (ByteArray.mk #[112,117,116])),v35,v32] w fun v37 w =>
 pu prog (storeAt 31 (ρ 0) v37) w fun w =>
 k (.tuple #[]) w)
 (
 k (.tuple #[]) w))
 (
 k (.tuple #[]) w))
theorem F68_1_eq (k:KV) (ρ:Env) (w:World) : F68A k [1,1] ρ w = F68_1 k ρ w := by kernel_rfl
end Go.Proofs.YteeeggphkhimcaaGreatDoor
