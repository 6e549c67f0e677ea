/- Put together by a program (wip/tools/shake.py): Rep,Names,Turns,Rename,Stroke. -/
import Derived.Test.YtcdcojpfealppaaGreatY2
import Derived.Test.YtcdcojpfealppaaGreatY4
import Derived.Test.YtcdcojpfealppaaGreatY5
import Derived.Test.YtcdcojpfealppaaGreatY6
import Derived.Test.YtcdcojpfealppaaGreatY3
set_option linter.unusedVariables false
set_option linter.unusedSimpArgs false
set_option maxRecDepth 100000
namespace Go.Proofs.YtcdcojpfealppaaGreat
open Go Go.Proofs Go.RowKit Go.Proofs.XRed Go.Proofs.XHeap Go.Proofs.XMaps Go.Proofs.XSlices Go.Proofs.XDisk Tryz
noncomputable abbrev P : Program := prog
inductive All2 {α β:Type} (R:α → β → Prop) : List α → List β → Prop where
 | nil : All2 R [] []
 | cons {a b l m} : R a b → All2 R l m → All2 R (a :: l) (b :: m)
def ptr (b:Nat) : Value := .pointer (some ⟨b,0,none⟩)
abbrev i64 (n:Int) : Value := .int .i64 n
def SB (w:World) (I:Nat → Prop) (v:Value) (bs:Bytes) : Prop := SBytes w v bs ∧ ∀ b,sblk v = some b → I b
def turnVal (loc:Nat → Nat) : Turn → Value
 | .mk n t => .iface 126 (.agg #[.string n,ptr (loc t)])
 | .give a b => .iface 172 (.agg #[.string a,.string b])
 | .take n => .iface 177 (.string n)
def ChgV (w:World) (I:Nat → Prop) : Chg → Value → Prop
 | .wr a d,v => ∃ s,v = .iface 184 (.agg #[i64 a,s]) ∧ SB w I s d
 | .cut n,v => v = .iface 189 (i64 n)
def spanCells (s:SpanA) : List Value := [.string s.name,i64 s.at_,i64 s.n]
structure TRep (w:World) (O I:Nat → Prop) (T:Nat) (rb:Value) (x:Thg) : Prop where
 ex : ∃ sv hv cs,w.heap[T]? = some (.cells #[sv,hv,rb] 124 (0,0)) ∧ SB w I sv x.safe ∧ SB w I hv x.shown ∧ w.ownsRow 0 130 1 rb x.row.length cs ∧ All2 (ChgV w I) x.row cs
 own : O T
 rown : ∀ b,sblk rb = some b → O b
structure Lay where
 sh : Nat
 sf : Nat
 loc : Nat → Nat
 trow : Nat → Value
 rowv : Value
 readsv : Value
 lsh : Names
 lsf : Names
def dcells (S:AD) (L:Lay) : Array Value :=
 #[i64 S.room,.map (some L.sh),.map (some L.sf),L.rowv,i64 S.strokes,i64 S.plan.off,i64 S.plan.from_,i64 S.plan.to_,i64 S.since,.bool S.off,L.readsv]
def mapVals (L:Lay) (l:Names) : List (ByteArray × Value) := l.map fun p => (p.1,ptr (L.loc p.2))
structure DRep (w:World) (D:Nat) (S:AD) (O I:Nat → Prop) (L:Lay) : Prop where
 disk : w.heap[D]? = some (.cells (dcells S L) 58 (0,0))
 sh : SMap w L.sh (mapVals L L.lsh)
 shp : L.lsh.Perm S.shown
 sf : SMap w L.sf (mapVals L L.lsf)
 sfp : L.lsf.Perm S.safe
 ne : L.sh ≠ L.sf
 row : w.ownsRow 0 136 1 L.rowv S.row.length (S.row.map (turnVal L.loc))
 reads : w.ownsRow 0 134 3 L.readsv S.reads.length (S.reads.flatMap spanCells)
 things : ∀ t,reach S t → TRep w O I (L.loc t) (L.trow t) (S.things t)
 inj : ∀ t u,reach S t → reach S u → L.loc t = L.loc u → t = u
 rows : ∀ t u,reach S t → reach S u → t ≠ u → ∀ b,sblk (L.trow t) = some b → sblk (L.trow u) ≠ some b
 oD : O D
 osh : O L.sh
 osf : O L.sf
 orow : ∀ b,sblk L.rowv = some b → O b
 oreads : ∀ b,sblk L.readsv = some b → O b
 apart : ∀ b,O b → ¬ I b
 lt : ∀ b,O b ∨ I b → b < w.heap.size
theorem SB.fr {O I:Nat → Prop} {w w':World} {v:Value} {bs:Bytes} (h:SB w I v bs) (hf:Fr O w w') (hn:∀ b,I b → ¬ O b) : SB w' I v bs := ⟨h.1.fr hf fun b hb => hn b (h.2 b hb),h.2⟩
theorem SB.mono {I I':Nat → Prop} {w:World} {v:Value} {bs:Bytes} (h:SB w I v bs) (hi:∀ b,I b → I' b) : SB w I' v bs := ⟨h.1,fun b hb => hi b (h.2 b hb)⟩
theorem ChgV.fr {O I:Nat → Prop} {w w':World} {c:Chg} {v:Value} (h:ChgV w I c v) (hf:Fr O w w') (hn:∀ b,I b → ¬ O b) : ChgV w' I c v := by
 cases c with
 | wr a d => obtain ⟨s,hv,hs⟩ := h; exact ⟨s,hv,hs.fr hf hn⟩
 | cut n => exact h
theorem ChgV.mono {I I':Nat → Prop} {w:World} {c:Chg} {v:Value} (h:ChgV w I c v) (hi:∀ b,I b → I' b) : ChgV w I' c v := by
 cases c with
 | wr a d => obtain ⟨s,hv,hs⟩ := h; exact ⟨s,hv,hs.mono hi⟩
 | cut n => exact h
theorem all2_imp {α β:Type} {R R':α → β → Prop} {l:List α} {m:List β} (h:All2 R l m) (hr:∀ a b,R a b → R' a b) : All2 R' l m := by
 induction h with
 | nil => exact .nil
 | cons h _ ih => exact .cons (hr _ _ h) ih
theorem All2.length {α β:Type} {R:α → β → Prop} {l:List α} {m:List β} (h:All2 R l m) : m.length = l.length := by
 induction h with
 | nil => rfl
 | cons _ _ ih => simp [ih]
theorem All2.snoc {α β:Type} {R:α → β → Prop} {l:List α} {m:List β} {a:α} {b:β} (h:All2 R l m) (hr:R a b) : All2 R (l ++ [a]) (m ++ [b]) := by
 induction h with
 | nil => exact .cons hr .nil
 | cons h _ ih => exact .cons h ih
theorem All2.at_ {α β:Type} {R:α → β → Prop} {l:List α} {m:List β} (h:All2 R l m) : ∀ {i:Nat} {a:α},l[i]? = some a → ∃ b,m[i]? = some b ∧ R a b := by
 induction h with
 | nil => intro i a ha; simp at ha
 | cons h _ ih =>
  intro i a ha
  cases i with
  | zero => simp at ha; subst ha; exact ⟨_,rfl,h⟩
  | succ i => exact ih (by simpa using ha)
theorem TRep.fr {O O' I M:Nat → Prop} {w w':World} {T:Nat} {rb:Value} {x:Thg} (h:TRep w O I T rb x) (hf:Fr M w w') (hT:¬ M T) (hr:∀ b,sblk rb = some b → ¬ M b) (hn:∀ b,I b → ¬ M b) : TRep w' O I T rb x := by
 obtain ⟨⟨sv,hv,cs,hb,h1,h2,h3,h4⟩,h5,h6⟩ := h
 exact ⟨⟨sv,hv,cs,hf.get hb hT,h1.fr hf hn,h2.fr hf hn,own_fr h3 hf hr,all2_imp h4 fun a b hab => hab.fr hf hn⟩,h5,h6⟩
theorem TRep.mono {O O' I I':Nat → Prop} {w:World} {T:Nat} {rb:Value} {x:Thg} (h:TRep w O I T rb x) (ho:∀ b,O b → O' b) (hi:∀ b,I b → I' b) : TRep w O' I' T rb x := by
 obtain ⟨⟨sv,hv,cs,hb,h1,h2,h3,h4⟩,h5,h6⟩ := h
 exact ⟨⟨sv,hv,cs,hb,h1.mono hi,h2.mono hi,h3,all2_imp h4 fun a b hab => hab.mono hi⟩,ho _ h5,fun b hb => ho _ (h6 b hb)⟩
theorem DRep.fr {w w':World} {D:Nat} {S:AD} {O I M:Nat → Prop} {L:Lay} (h:DRep w D S O I L) (hf:Fr M w w') (hn:∀ b,M b → ¬ O b ∧ ¬ I b) : DRep w' D S O I L where
 disk := hf.get h.disk fun hm => (hn _ hm).1 h.oD
 sh := h.sh.fr hf fun hm => (hn _ hm).1 h.osh
 shp := h.shp
 sf := h.sf.fr hf fun hm => (hn _ hm).1 h.osf
 sfp := h.sfp
 ne := h.ne
 row := own_fr h.row hf fun b hb hm => (hn _ hm).1 (h.orow b hb)
 reads := own_fr h.reads hf fun b hb hm => (hn _ hm).1 (h.oreads b hb)
 things := fun t ht => (h.things t ht).fr (O' := O) hf (fun hm => (hn _ hm).1 (h.things t ht).own) (fun b hb hm => (hn _ hm).1 ((h.things t ht).rown b hb)) fun b hi hm => (hn _ hm).2 hi
 inj := h.inj
 rows := h.rows
 oD := h.oD
 osh := h.osh
 osf := h.osf
 orow := h.orow
 oreads := h.oreads
 apart := h.apart
 lt := fun b hb => Nat.lt_of_lt_of_le (h.lt b hb) hf.size
section
variable {w:World} {D:Nat} {S:AD} {L:Lay} {k:KV}
theorem c_none (h:w.heap[D]? = some (.cells (dcells S L) 58 (0,0))) (hr:1 ≤ S.room) (hk:k (.bool false) w) : pFn P 82 [ptr D] w k := by
 refine F82_in _ _ _ ?_
 unfold F82_0 ptr
 refine s_eqpn upt29 ?_
 refine pG_yes rfl ?_
 refine pG_yes rfl (s_nil ?_)
 refine pG_yes rfl (fa58_0 ?_)
 refine pG_yes rfl (s_ldb (isAgg3 _) h rfl ?_)
 refine pG_yes rfl (s_eqi ?_)
 refine s_pick ?_
 have : (S.room == 0) = false := by simp; omega
 simp only [Option.isNone_some,this]
 exact hk
theorem c_off (h:w.heap[D]? = some (.cells (dcells S L) 58 (0,0))) (hr:1 ≤ S.room) (hk:k (.bool S.off) w) : pFn P 26 [ptr D] w k := by
 refine F26_in _ _ _ ?_
 unfold F26_0
 refine c_none h hr ?_
 refine pG_yes rfl ?_
 refine pG_yes rfl (s_nil ?_)
 refine pG_yes rfl (fa58_7 ?_)
 refine pG_yes rfl (s_ldb (isAgg4 _) h rfl ?_)
 exact s_pick hk
theorem c_room (h:w.heap[D]? = some (.cells (dcells S L) 58 (0,0))) (hr:1 ≤ S.room) (hk:k (i64 S.room) w) : pFn P 27 [ptr D] w k := by
 refine F27_in _ _ _ ?_
 unfold F27_0
 refine c_none h hr ?_
 exact pC_false (s_nil (fa58_0 (s_ldb (isAgg3 _) h rfl hk)))
theorem c_strokes (h:w.heap[D]? = some (.cells (dcells S L) 58 (0,0))) (hr:1 ≤ S.room) (hk:k (i64 S.strokes) w) : pFn P 57 [ptr D] w k := by
 refine F57_in _ _ _ ?_
 unfold F57_0
 refine c_none h hr ?_
 exact pC_false (s_nil (fa58_4 (s_ldb (isAgg3 _) h rfl hk)))
end
open Go.Proofs.XCalls
section
variable {w:World} {D:Nat} {S:AD} {L:Lay} {k:KV}
theorem c_indexByteL (s:ByteArray) (c:Int) (hk:k (i64 (Lib.indexByte s.data.toList c.toNat.toUInt8)) w) : pFn P 144 [.string s,.int .u8 c] w k := by
 refine pFn_extern func144 (by kernel_rfl) (by kernel_rfl) (by kernel_rfl) (e := Extern.BytealgIndexByte.indexByte) (by kernel_rfl) ?_
 exact px_ok (Lib.run_indexByteString s c w) hk
theorem c_indexByteM (s:ByteArray) (c:Int) (hk:k (i64 (Lib.indexByte s.data.toList c.toNat.toUInt8)) w) : pFn P 140 [.string s,.int .u8 c] w k := by
 refine F140_in _ _ _ _ ?_
 unfold F140_0
 exact c_indexByteL s c hk
theorem c_indexByte (s:ByteArray) (c:Int) (hk:k (i64 (Lib.indexByte s.data.toList c.toNat.toUInt8)) w) : pFn P 132 [.string s,.int .u8 c] w k := by
 refine F132_in _ _ _ _ ?_
 unfold F132_0
 exact c_indexByteM s c hk
theorem tmod_up (pick b:Int) (hb:0 < b) : (if pick.tmod b < 0 then pick.tmod b + b else pick.tmod b) = pick.emod b ∧ -b < pick.tmod b ∧ pick.tmod b < b := by
 have e := @Int.tmod_eq_emod pick b
 have e1 : (b.natAbs : Int) = b := by omega
 have e2 := Int.emod_nonneg pick (show b ≠ 0 by omega)
 have e3 := Int.emod_lt_of_pos pick hb
 have e4 : pick.emod b = pick % b := rfl
 by_cases h : 0 ≤ pick ∨ b ∣ pick
 ·rw [if_pos h] at e
  simp only [Int.natCast_zero,Int.sub_zero] at e
  rw [if_neg (by omega)]
  omega
 ·rw [if_neg h,e1] at e
  have : pick % b ≠ 0 := fun h' => h (.inr (Int.dvd_of_emod_eq_zero h'))
  rw [if_pos (by omega)]
  omega
theorem c_round {pick most:Int} (h0:0 ≤ most) (h1:most ≤ 4611686018427387904) (hk:k (i64 (pick.emod (most + 1))) w) : pFn P 107 [i64 pick,i64 most] w k := by
 refine F107_in _ _ _ _ ?_
 unfold F107_0
 obtain ⟨e,e2,e3⟩ := tmod_up pick (most + 1) (by omega)
 refine s_add_in (by omega) ?_
 refine s_rem (by omega) ?_
 refine s_lt ?_
 by_cases h : pick.tmod (most + 1) < 0
 ·rw [if_pos h] at e
  rw [decide_eq_true h]
  refine pC_true ?_
  refine s_add_in (by omega) ?_
  refine s_add_in (by omega) ?_
  rw [F107_1_eq]
  unfold F107_1
  show k (i64 (pick.tmod (most + 1) + (most + 1))) w
  rw [e]; exact hk
 ·rw [if_neg h] at e
  rw [decide_eq_false h]
  refine pC_false ?_
  rw [F107_1_eq]
  unfold F107_1
  show k (i64 (pick.tmod (most + 1))) w
  rw [e]; exact hk
theorem ix_ok (c:UInt8) : okByte c = ((97 ≤ c && c ≤ 122) || (48 ≤ c && c ≤ 57) || decide (0 ≤ Lib.indexByte [46,45,95,43] c)) := by
 rw [← Lib.contains_iff_indexByte]
 simp [okByte,List.contains_cons,Bool.or_assoc,beq_iff_eq,Bool.beq_eq_decide_eq]
set_option maxHeartbeats 1000000 in
theorem c_isName (s:ByteArray) (hs:s.size ≤ 9223372036854775807) (hk:k (.bool (isName s)) w) : pFn P 98 [.string s] w k := by
  refine F98_in _ _ _ ?_
  unfold F98_0
  refine s_lens (by kernel_rfl) ?_
  refine F98L1_inv (m := s.size) k (fun m ρ w' => w' = w ∧ ρ 0 = .string s ∧ ρ 6 = i64 s.size ∧ ∃ i : Nat,ρ 7 = i64 i ∧ i + m = s.size ∧ ∀ j (hj:j < s.size),j < i → okByte s[j] = true) ?_ ⟨rfl,rfl,rfl,0,rfl,by omega,fun j _ hj => absurd hj (by omega)⟩
  rintro m ρ w' ⟨rfl,h0,h6,i,h7,him,hok⟩
  rw [F98_1_eq]
  unfold F98_1
  rw [h0,h6,h7]
  refine s_lt ?_
  by_cases hi : i < s.size
  · rw [decide_eq_true (by omega)]
    refine pC_true (s_ixs (by kernel_rfl) hi ?_)
    have hix := ix_ok s[i]
    generalize hc : s[i] = c at *
    have hn : c.toNat.toUInt8 = c := by simp
    have hlt := c.toNat_lt
    have hb : okByte c = (decide (97 ≤ c.toNat ∧ c.toNat ≤ 122) || decide (48 ≤ c.toNat ∧ c.toNat ≤ 57) || decide (0 ≤ Lib.indexByte [46,45,95,43] c)) := by
      rw [hix]; simp [UInt8.le_iff_toNat_le,Bool.decide_and]
    have next : okByte c = true → ∀ j (hj:j < s.size),j < i + 1 → okByte s[j] = true := by
      intro h j hj hji
      by_cases e : j = i
      · subst e; rw [hc]; exact h
      · exact hok j hj (by omega)
    have bad : okByte c = false → isName s = false := by
      intro h
      unfold isName
      have : s.data.toList.all okByte = false := by
        rw [Bool.eq_false_iff]
        intro ha
        rw [List.all_eq_true] at ha
        have := ha c (by
          rw [← hc]
          have : i < s.data.toList.length := by simpa using hi
          have e : s[i] = s.data.toList[i] := rfl
          rw [e]; exact List.getElem_mem _)
        rw [h] at this; cases this
      simp [this]
    have eb : ((c.toNat : Int).toNat).toUInt8 = c := by simp
    have el : (ByteArray.mk #[46,45,95,43]).data.toList = [46,45,95,43] := rfl
    by_cases a1 : (c.toNat : Int) < 97 <;> by_cases a2 : (c.toNat : Int) > 122 <;> by_cases a3 : (c.toNat : Int) < 48 <;> by_cases a4 : (c.toNat : Int) > 57
    all_goals try (exfalso; omega)
    all_goals
      repeat (first | refine pG_yes rfl ?_ | refine pG_sk ?_ | refine pG_skf ?_ | refine pG_un ?_ | refine s_lt_t (by assumption) ?_ | refine s_lt_f (by assumption) ?_ | refine s_gt_t (by assumption) ?_ | refine s_gt_f (by assumption) ?_ | refine s_pick_t ?_ | refine s_pick_f ?_ | refine pC_true ?_ | refine pC_false ?_)
    all_goals first
      | (refine s_add_in (by omega) ?_
         exact ⟨m - 1,by omega,rfl,h0,h6,i + 1,rfl,by omega,next (by rw [hb,decide_eq_true (show 97 ≤ c.toNat ∧ c.toNat ≤ 122 by omega)]; rfl)⟩)
      | (refine s_add_in (by omega) ?_
         exact ⟨m - 1,by omega,rfl,h0,h6,i + 1,rfl,by omega,next (by rw [hb,decide_eq_true (show 48 ≤ c.toNat ∧ c.toNat ≤ 57 by omega)]; simp)⟩)
      | skip
    all_goals
      refine c_indexByte _ _ ?_
      rw [eb,el]
      have hb' : okByte c = decide (0 ≤ Lib.indexByte [46,45,95,43] c) := by
        rw [hb,decide_eq_false (show ¬ (97 ≤ c.toNat ∧ c.toNat ≤ 122) by omega),decide_eq_false (show ¬ (48 ≤ c.toNat ∧ c.toNat ≤ 57) by omega)]; rfl
      by_cases C : Lib.indexByte [46,45,95,43] c < 0
      · repeat (first | refine pG_yes rfl ?_ | refine pG_sk ?_ | refine pG_skf ?_ | refine pG_un ?_ | refine s_lt_t (by assumption) ?_ | refine s_lt_f (by assumption) ?_ | refine s_gt_t (by assumption) ?_ | refine s_gt_f (by assumption) ?_ | refine s_pick_t ?_ | refine s_pick_f ?_ | refine pC_true ?_ | refine pC_false ?_)
        rw [bad (by rw [hb']; exact decide_eq_false (by omega))] at hk
        exact hk
      · repeat (first | refine pG_yes rfl ?_ | refine pG_sk ?_ | refine pG_skf ?_ | refine pG_un ?_ | refine s_lt_t (by assumption) ?_ | refine s_lt_f (by assumption) ?_ | refine s_gt_t (by assumption) ?_ | refine s_gt_f (by assumption) ?_ | refine s_pick_t ?_ | refine s_pick_f ?_ | refine pC_true ?_ | refine pC_false ?_)
        refine s_add_in (by omega) ?_
        exact ⟨m - 1,by omega,rfl,h0,h6,i + 1,rfl,by omega,next (by rw [hb']; exact decide_eq_true (by omega))⟩
  · rw [decide_eq_false (by omega)]
    refine pC_false ?_
    rw [F98_2_eq]
    unfold F98_2
    have hall : s.data.toList.all okByte = true := by
      rw [List.all_eq_true]
      intro c hc
      obtain ⟨j,hj,rfl⟩ := List.getElem_of_mem hc
      have hj' : j < s.size := by simpa using hj
      exact hok j hj' (by omega)
    have hfin : isName s = (decide (s ≠ ByteArray.mk #[]) && decide (s.size ≤ 112)) := by
      unfold isName
      rw [hall,Bool.true_and]
      congr 1
      have : s ≠ ByteArray.mk #[] ↔ 1 ≤ s.size := by
        constructor
        · intro h
          rcases Nat.eq_zero_or_pos s.size with h' | h'
          · exact absurd (ByteArray.ext (Array.eq_empty_of_size_eq_zero h')) h
          · exact h'
        · rintro h rfl; exact absurd h (by decide)
      exact decide_eq_decide.2 this.symm
    have h0' : put ρ 8 (.bool false) 0 = .string s := h0
    rw [h0']
    refine s_nes ?_
    by_cases e : s = ByteArray.mk #[]
    · rw [decide_eq_true e]
      refine pG_sk ?_
      refine pG_sk ?_
      refine pG_sk ?_
      refine s_pick_f ?_
      rw [hfin] at hk
      simpa [e] using hk
    · rw [decide_eq_false e]
      refine pG_yes rfl (pG_yes rfl (s_lens (by kernel_rfl) (pG_yes rfl (s_le (s_pick_t ?_)))))
      rw [hfin] at hk
      have : decide ((s.size : Int) ≤ 112) = decide (s.size ≤ 112) := decide_eq_decide.2 (by omega)
      rw [this]
      simpa [e] using hk
end
theorem own_obj {w:World} {base size n:Nat} {e:TypeId} {v:Value} {xs:List Value} (h:w.ownsRow base e size v n xs) {b:Nat} (hb:sblk v = some b) : ∃ cur,w.heap[b]? = some (.cells cur e (0,0)) := by
 rcases h.2 with ⟨rfl,_⟩ | ⟨g,cap,cur,rfl,_,hh,_⟩
 ·cases hb
 ·simp only [sblk,Option.some.injEq] at hb
  subst hb; exact ⟨cur,hh⟩
theorem two_types {w:World} {b:Nat} {c c':Array Value} {T T':TypeId} {f f':Nat × Nat} (h:w.heap[b]? = some (.cells c T f)) (h':w.heap[b]? = some (.cells c' T' f')) : T = T' := by
 rw [h] at h'; injection h' with h'; injection h'
theorem SMap.obj {w:World} {m:Nat} {l:List (ByteArray × Value)} (h:SMap w m l) : ∃ es c,w.heap[m]? = some (.map es c) := by obtain ⟨es,c,h,_⟩ := h; exact ⟨es,c,h⟩
section
variable {w:World} {D:Nat} {S:AD} {O I:Nat → Prop} {L:Lay}
def Own (L:Lay) (D b:Nat) : Prop := b = D ∨ b = L.sh ∨ b = L.sf ∨ sblk L.rowv = some b ∨ sblk L.readsv = some b
theorem DRep.own (h:DRep w D S O I L) {b:Nat} (hb:Own L D b) : O b := by
 rcases hb with rfl | rfl | rfl | hb | hb
 ·exact h.oD
 ·exact h.osh
 ·exact h.osf
 ·exact h.orow _ hb
 ·exact h.oreads _ hb
theorem DRep.notT (h:DRep w D S O I L) {b:Nat} (hb:Own L D b) {c:Array Value} {T:TypeId} {f:Nat × Nat} (hT:T = 124 ∨ T = 130 ∨ T = 5) : w.heap[b]? ≠ some (.cells c T f) := by
 intro hc
 have key : ∀ (T':TypeId),T' = 58 ∨ T' = 136 ∨ T' = 134 → T = T' → False := by
  intro T' h1 h2
  subst h2
  rcases hT with rfl | rfl | rfl <;> rcases h1 with h1 | h1 | h1 <;> exact absurd h1 (by decide)
 rcases hb with rfl | rfl | rfl | hb | hb
 ·exact key _ (.inl rfl) (two_types hc h.disk)
 ·obtain ⟨_,_,hm⟩ := SMap.obj h.sh; rw [hm] at hc; cases hc
 ·obtain ⟨_,_,hm⟩ := SMap.obj h.sf; rw [hm] at hc; cases hc
 ·obtain ⟨_,hm⟩ := own_obj h.row hb; exact key _ (.inr (.inl rfl)) (two_types hc hm)
 ·obtain ⟨_,hm⟩ := own_obj h.reads hb; exact key _ (.inr (.inr rfl)) (two_types hc hm)
theorem TRep.obj {T:Nat} {rb:Value} {x:Thg} (h:TRep w O I T rb x) : ∃ c,w.heap[T]? = some (.cells c 124 (0,0)) := by obtain ⟨⟨_,_,_,h,_⟩,_⟩ := h; exact ⟨_,h⟩
theorem TRep.robj {T:Nat} {rb:Value} {x:Thg} (h:TRep w O I T rb x) {b:Nat} (hb:sblk rb = some b) : ∃ c,w.heap[b]? = some (.cells c 130 (0,0)) := by obtain ⟨⟨_,_,_,_,_,_,h,_⟩,_⟩ := h; exact own_obj h hb
theorem TRep.stay {w':World} {T:Nat} {rb:Value} {x:Thg} {M:Nat → Prop} (h:DRep w D S O I L) (ht:TRep w O I T rb x) (hf:Fr M w w') (hM:∀ b,M b → Own L D b ∨ w.heap.size ≤ b) : TRep w' O I T rb x := by
 refine ht.fr (O' := O) (hf.mono (O' := Own L D) hM) ?_ ?_ ?_
 ·intro hm; obtain ⟨c,hc⟩ := ht.obj; exact h.notT hm (.inl rfl) hc
 ·intro b hb hm; obtain ⟨c,hc⟩ := ht.robj hb; exact h.notT hm (.inr (.inl rfl)) hc
 ·intro b hi hm; exact h.apart b (h.own hm) hi
theorem mapVals_get (L:Lay) (l:Names) (s:ByteArray) : alGet (mapVals L l) s = (alGet l s).map fun t => ptr (L.loc t) := by
 unfold alGet mapVals
 rw [List.find?_map]
 cases h : List.find? ((fun p => decide (p.1 = s)) ∘ fun p : ByteArray × Nat => (p.1,ptr (L.loc p.2))) l with
 | none =>
  have : List.find? (fun p => decide (p.1 = s)) l = none := h
  rw [this]; rfl
 | some p =>
  have : List.find? (fun p => decide (p.1 = s)) l = some p := h
  rw [this]; rfl
theorem mapVals_keys (L:Lay) (l:Names) : alKeys (mapVals L l) = alKeys l := by simp [alKeys,mapVals,Function.comp_def]
theorem DRep.lshn (h:DRep w D S O I L) : (alKeys L.lsh).Nodup := by have := h.sh.nodup; rwa [mapVals_keys] at this
theorem DRep.lsfn (h:DRep w D S O I L) : (alKeys L.lsf).Nodup := by have := h.sf.nodup; rwa [mapVals_keys] at this
theorem DRep.get (h:DRep w D S O I L) (s:ByteArray) : alGet (mapVals L L.lsh) s = (alGet S.shown s).map fun t => ptr (L.loc t) := by rw [mapVals_get,alGet_perm h.shp h.lshn]
variable {k:KV}
theorem c_look (h:DRep w D S O I L) (hr:1 ≤ S.room) (s:ByteArray) (hs:s.size ≤ 9223372036854775807)
    (hk:k (.tuple #[if S.look s = 0 then ptr (L.loc (S.of s)) else .pointer none,i64 (S.look s)]) w) : pFn P 78 [ptr D,.string s] w k := by
  refine F78_in _ _ _ _ ?_
  unfold F78_0
  refine c_off h.disk hr ?_
  unfold AD.look AD.of at hk
  cases ho : S.off with
  | true => simp only [ho,if_true] at hk; exact pC_true hk
  | false =>
    refine pC_false (c_isName s hs (s_not ?_))
    simp only [ho,Bool.false_eq_true,if_false] at hk
    cases hn : isName s with
    | false => simp only [hn,Bool.not_false,if_true] at hk; exact pC_true hk
    | true =>
      simp only [hn,Bool.not_true,Bool.false_eq_true,if_false] at hk
      refine pC_false (s_nil (fa58_1 (s_ldb (isAgg54 _) h.disk rfl ?_)))
      refine lk54 h.sh s (zeroValue117 _) ?_
      rw [h.get]
      cases hg : alGet S.shown s with
      | none =>
        simp only [hg] at hk
        exact s_eqpn upt117 (pC_true hk)
      | some t =>
        simp only [hg] at hk
        refine s_eqpn upt117 (pC_false ?_)
        refine s_nil (fa58_1 (s_ldb (isAgg54 _) h.disk rfl ?_))
        refine lk54 h.sh s (zeroValue117 _) ?_
        rw [h.get,hg]
        exact hk
theorem c_makingOn {m:Nat} {l:List (ByteArray × Value)} {n:ByteArray} {v:Value} (h:SMap w m l) (hk:∀ w',SMap w' m (alSet l n v) → Fr (fun b => b = m) w w' → k (.tuple #[]) w') : pFn P 179 [.agg #[.string n,v],.map (some m)] w k := by
 refine F179_in _ _ _ _ ?_
 unfold F179_0
 refine s_box ?_
 have hb := alloc_new w (.cells #[.string n,v] 126)
 refine fa126_0 (s_ldb (isAgg9 _) hb rfl ?_)
 refine fa126_1 (s_ldb (isAgg117 _) hb rfl ?_)
 refine up54 (h.alloc _) n v fun w' h' hf _ => hk w' h' ((Fr.alloc _ w _).trans hf fun b hb => .inl hb)
theorem c_takingOn {m:Nat} {l:List (ByteArray × Value)} {n:ByteArray} (h:SMap w m l) (hk:∀ w',SMap w' m (alDel l n) → Fr (fun b => b = m) w w' → k (.tuple #[]) w') : pFn P 183 [.string n,.map (some m)] w k := by
 refine F183_in _ _ _ _ ?_
 unfold F183_0
 exact de54 h n fun w' h' hf _ => hk w' h' hf
theorem c_givingOn {m:Nat} {l:List (ByteArray × Value)} {a b:ByteArray} {v:Value} (h:SMap w m l) (hv:alGet l a = some v) (hk:∀ w',SMap w' m (alSet (alDel l a) b v) → Fr (fun b => b = m) w w' → k (.tuple #[]) w') : pFn P 181 [.agg #[.string a,.string b],.map (some m)] w k := by
 refine F181_in _ _ _ _ ?_
 unfold F181_0
 refine s_box ?_
 have hb := alloc_new w (.cells #[.string a,.string b] 172)
 refine fa172_0 (s_ldb (isAgg9 _) hb rfl ?_)
 have hA := h.alloc (.cells #[.string a,.string b] 172)
 refine lk54 hA a (zeroValue117 _) ?_
 rw [hv]
 refine fa172_0 (s_ldb (isAgg9 _) hb rfl ?_)
 refine de54 hA a fun w1 h1 hf1 hz1 => ?_
 have hne : w.heap.size ≠ m := Nat.ne_of_gt h.lt
 have hb1 := hf1.get hb hne
 refine fa172_1 (s_ldb (isAgg9 _) hb1 rfl ?_)
 refine up54 h1 b v fun w' h' hf _ => hk w' h' (((Fr.alloc _ w _).trans hf1 fun b hb => .inl hb).trans hf fun b hb => .inl hb)
theorem mapVals_set (L:Lay) (l:Names) (s:ByteArray) (t:Nat) : alSet (mapVals L l) s (ptr (L.loc t)) = mapVals L (alSet l s t) := by
 have e : ((mapVals L l).any fun p => decide (p.1 = s)) = (l.any fun p => decide (p.1 = s)) := by simp [mapVals,List.any_map,Function.comp_def]
 unfold alSet
 rw [e]
 split
 ·simp only [mapVals,List.map_map]
  refine List.map_congr_left fun p _ => ?_
  simp only [Function.comp]
  split <;> rfl
 ·simp [mapVals]
theorem mapVals_del (L:Lay) (l:Names) (s:ByteArray) : alDel (mapVals L l) s = mapVals L (alDel l s) := by
 simp [alDel,mapVals,List.filter_map,Function.comp_def]
theorem c_on {m:Nat} {l:Names} (c:Turn) (hc:∀ a b,c = .give a b → alGet l a ≠ none) (h:SMap w m (mapVals L l)) (hk:∀ w',SMap w' m (mapVals L (c.onL l)) → Fr (fun b => b = m) w w' → k (.tuple #[]) w') :
    pInv P (turnVal L.loc c) "freight/disk.on" [.map (some m)] w k := by
  cases c with
  | mk n t =>
    refine s_inv (f := 179) (by kernel_rfl) underlying126 (fun e h => by cases h) (c_makingOn h fun w' h' hf => hk w' ?_ hf)
    rw [mapVals_set] at h'; exact h'
  | give a b =>
    cases hg : alGet l a with
    | none => exact absurd hg (hc a b rfl)
    | some t =>
      refine s_inv (f := 181) (by kernel_rfl) underlying172 (fun e h => by cases h) (c_givingOn (v := ptr (L.loc t)) h (by rw [mapVals_get,hg]; rfl) fun w' h' hf => hk w' ?_ hf)
      rw [mapVals_del,mapVals_set] at h'
      unfold Turn.onL
      simp only [hg,Option.getD_some]; exact h'
  | take n =>
    refine s_inv (f := 183) (by kernel_rfl) underlying177 (fun e h => by cases h) (c_takingOn h fun w' h' hf => hk w' ?_ hf)
    rw [mapVals_del] at h'; exact h'
end
structure Nx (w:World) (D:Nat) (O I:Nat → Prop) (w':World) (S':AD) (O' I':Nat → Prop) (L':Lay) : Prop where
 rep : DRep w' D S' O' I' L'
 fr : Fr O w w'
 oo : ∀ b,O b → O' b
 ii : ∀ b,I b → I' b
 on : ∀ b,O' b → O b ∨ w.heap.size ≤ b
 in_ : ∀ b,I' b → I b ∨ w.heap.size ≤ b
theorem own_one {w:World} {base size n:Nat} {e:TypeId} {v:Value} {xs:List Value} (h:w.ownsRow base e size v n xs) : v.cells = #[v] ∧ v.oneCell' = true := by
 rcases h.2 with ⟨rfl,_⟩ | ⟨g,cap,cur,rfl,_⟩ <;> exact ⟨rfl,rfl⟩
theorem turn_one (loc:Nat → Nat) (c:Turn) : (turnVal loc c).cells = #[turnVal loc c] ∧ (turnVal loc c).oneCell' = true := by cases c <;> exact ⟨rfl,rfl⟩
section
variable {w:World} {D:Nat} {S:AD} {O I:Nat → Prop} {L:Lay} {k:KV}
theorem c_nilon (loc : Nat → Nat) (c : Turn) (hk : k (.func (.method "freight/disk.on") #[turnVal loc c] #[]) w) : px P (nilSem (.func (.method "freight/disk.on") #[turnVal loc c] #[])) w k := by
 cases c with
 | mk n t => exact s_nil_meth (f := 179) (by kernel_rfl) underlying126 (fun e h => by cases h) hk
 | give a b => exact s_nil_meth (f := 181) (by kernel_rfl) underlying172 (fun e h => by cases h) hk
 | take n => exact s_nil_meth (f := 183) (by kernel_rfl) underlying177 (fun e h => by cases h) hk
theorem reach_turned {c:Turn} (hc:∀ a b,c = .give a b → alGet S.shown a ≠ none) {t:Nat} (h:reach (S.turned c) t) : reach S t ∨ ∃ n,c = .mk n t := by
 rcases h with ⟨n,h⟩ | ⟨n,h⟩ | ⟨n,h⟩
 ·cases c with
  | mk m u =>
   rcases mem_setN.1 h with h | h
   ·injection h with h1 h2; subst h2; exact .inr ⟨m,rfl⟩
   ·exact .inl (.inl ⟨n,h.1⟩)
  | give a b =>
   rcases mem_setN.1 h with h | h
   ·injection h with h1 h2
    cases hg : alGet S.shown a with
    | none => exact absurd hg (hc a b rfl)
    | some u => rw [hg] at h2; subst h2; exact .inl (.inl ⟨a,mem_of_alGet hg⟩)
   ·exact .inl (.inl ⟨n,(mem_alDel.1 h.1).1⟩)
  | take m => exact .inl (.inl ⟨n,(mem_alDel.1 h).1⟩)
 ·exact .inl (.inr (.inl ⟨n,h⟩))
 ·rcases List.mem_append.1 h with h | h
  ·exact .inl (.inr (.inr ⟨n,h⟩))
  ·rw [List.mem_singleton] at h; exact .inr ⟨n,h.symm⟩
theorem c_rename (h:DRep w D S O I L) (c:Turn) (hl:S.row.length ≤ 1099511627776) (hc:∀ a b,c = .give a b → alGet S.shown a ≠ none)
    (ht:∀ n t,c = .mk n t → ¬ reach S t → TRep w O I (L.loc t) (L.trow t) (S.things t) ∧ ∀ u,reach S u → L.loc u ≠ L.loc t ∧ ∀ b,sblk (L.trow u) = some b → sblk (L.trow t) ≠ some b)
    (hk:∀ w' O' L',Nx w D O I w' (S.turned c) O' I L' → k (.tuple #[]) w') : pFn P 81 [ptr D,turnVal L.loc c] w k := by
  refine F81_in _ _ _ _ ?_
  unfold F81_0
  refine s_nil (fa58_3 (s_ldb (v := L.rowv) (isAgg55 _) h.disk rfl ?_))
  refine lit1_55 (turn_one L.loc c).1 ?_
  have fA := Fr.alloc (fun _ => False) w (.cells #[turnVal L.loc c] 136)
  have hOwn1 := own_lit w 0 136 1 #[turnVal L.loc c] 1 (Nat.zero_le _) (by unfold maxLen; omega) rfl
  generalize hw1 : w.alloc (.cells #[turnVal L.loc c] 136) = w1 at *
  have hz1 : w.heap.size < w1.heap.size := by rw [← hw1]; simp
  refine ap55 (own_fr h.row fA fun _ _ => id) (Src.of_own hOwn1) (by intro u hu; rw [List.mem_singleton.1 hu]; exact (turn_one _ _).2) (by omega) (Nat.zero_le _) ?_
  intro v' w2 h2 fB hb2
  have hD : ∀ {b},sblk L.rowv = some b → b ≠ D := by
    rintro b hb rfl
    obtain ⟨c1,h1⟩ := own_obj h.row hb
    exact absurd (two_types h1 h.disk) (by decide)
  have hd2 := fB.get (fA.get h.disk id) (fun hb => hD hb.symm rfl)
  refine s_nil (fa58_3 ?_)
  refine s_st (sizeOf55 _) (own_one h2).1 (own_one h2).2 hd2 (by show 3 < 11; decide) ?_
  have hd3 := set_same hd2 3 v'
  have fC : Fr (fun b => b = D) w2 (w2.setCell ⟨D,3,none⟩ v') := Fr.setCell w2 ⟨D,3,none⟩ v'
  generalize hw3 : w2.setCell ⟨D,0 + 3,none⟩ v' = w3 at *
  have hz3 : w3.heap.size = w2.heap.size := by rw [← hw3]; simp [World.setCell]
  have hshD : L.sh ≠ D := by
    intro e; obtain ⟨es,c1,h1⟩ := SMap.obj h.sh
    rw [e,h.disk] at h1; cases h1
  have hshR : ∀ {b},sblk L.rowv = some b → b ≠ L.sh := by
    rintro b hb rfl
    obtain ⟨c1,h1⟩ := own_obj h.row hb
    obtain ⟨es,c2,h3⟩ := SMap.obj h.sh
    rw [h1] at h3; cases h3
  refine ⟨fun w => ∃ cs,w.heap[D]? = some (.cells cs 58 (0,0)) ∧ cs[1]? = some (.map (some L.sh)),⟨_,hd3,rfl⟩,?_⟩
  refine q_of _ (fun w_ hS => s_nil ⟨rfl,rfl⟩) ?_
  refine q_of _ (fun w_ hS => fa58_1 ⟨rfl,rfl⟩) ?_
  refine q_of (.map (some L.sh)) (fun w_ hS => by obtain ⟨cs,h1,h2⟩ := hS; exact s_ldb (isAgg54 _) h1 h2 ⟨rfl,rfl⟩) ?_
  refine q_of _ (fun w_ hS => s_mkf ⟨rfl,rfl⟩) ?_
  refine q_of _ (fun w_ hS => c_nilon L.loc c ⟨rfl,rfl⟩) ?_
  have hsh3' : SMap w3 L.sh (mapVals L L.lsh) := ((h.sh.fr fA id).fr fB fun hb => hshR hb.symm rfl).fr fC hshD
  have hsh3 : SMap w3.drew L.sh (mapVals L L.lsh) := hsh3'
  refine c_on c (fun a b e => by rw [alGet_perm h.shp h.lshn]; exact hc a b e) hsh3 fun w4 h4 fD => ?_
  have hd4 := fD.get (w' := w4) (show w3.drew.heap[D]? = _ from hd3) (fun e => hshD e.symm)
  -- the whole frame
  have hM : Fr (fun b => b = D ∨ b = L.sh ∨ sblk L.rowv = some b) w w4 := by
    refine ((((fA.or fB).or fC).or (Fr.drew (fun _ => False) w3)).or fD).mono ?_
    rintro b ((((hb | hb) | hb) | hb) | hb)
    · exact hb.elim
    · exact .inl (.inr (.inr hb.symm))
    · exact .inl (.inl hb)
    · exact hb.elim
    · exact .inl (.inr (.inl hb))
  have hOwn : ∀ b,(b = D ∨ b = L.sh ∨ sblk L.rowv = some b) → Own L D b := by
    rintro b (hb | hb | hb)
    · exact .inl hb
    · exact .inr (.inl hb)
    · exact .inr (.inr (.inr (.inl hb)))
  have hnew : ∀ b,sblk v' = some b → sblk L.rowv = some b ∨ w.heap.size < b := by
    intro b hb
    rcases hb2 with e | e
    · left; rw [← e]; exact hb
    · right; rw [e] at hb; injection hb with hb; omega
  have hv4 : ∀ b,sblk v' = some b → b < w4.heap.size := by
    intro b hb
    have h1 := (own_blk_lt h2 hb).2
    have h3 := fD.size
    have : w3.drew.heap.size = w3.heap.size := rfl
    omega
  have hv'D : ∀ b,sblk v' = some b → b ≠ D := by
    rintro b hb rfl
    obtain ⟨c1,h1⟩ := own_obj h2 hb
    exact absurd (two_types h1 hd2) (by decide)
  have hv'sh : ∀ b,sblk v' = some b → b ≠ L.sh := by
    intro b hb e
    rcases hnew b hb with h1 | h1
    · exact hshR h1 e
    · have := h.lt _ (.inl h.osh); omega
  have hTf : ∀ {T rb x},TRep w O I T rb x → TRep w4 O I T rb x := fun ht => ht.stay h hM fun b hb => .inl (hOwn b hb)
  have hTm : ∀ {T rb x},TRep w4 O I T rb x → TRep w4 (fun b => O b ∨ sblk v' = some b) I T rb x := fun ht => ht.mono (O := O) (fun b => .inl) fun b => id
  have hth : ∀ t,reach (S.turned c) t → TRep w O I (L.loc t) (L.trow t) (S.things t) := by
    intro t hr
    by_cases hs : reach S t
    · exact h.things t hs
    · rcases reach_turned hc hr with hr | ⟨n,e⟩
      · exact absurd hr hs
      · exact (ht n t e hs).1
  have hpair : ∀ t u,reach (S.turned c) t → reach (S.turned c) u → t ≠ u → L.loc t ≠ L.loc u ∧ ∀ b,sblk (L.trow t) = some b → sblk (L.trow u) ≠ some b := by
    intro t u h1 h2 hne
    by_cases a1 : reach S t <;> by_cases a2 : reach S u
    · exact ⟨fun e => hne (h.inj t u a1 a2 e),h.rows t u a1 a2 hne⟩
    · rcases reach_turned hc h2 with hr | ⟨n,e⟩
      · exact absurd hr a2
      · exact (ht n u e a2).2 t a1
    · rcases reach_turned hc h1 with hr | ⟨n,e⟩
      · exact absurd hr a1
      · have := (ht n t e a1).2 u a2
        exact ⟨fun e => this.1 e.symm,fun b hb hb' => this.2 b hb' hb⟩
    · rcases reach_turned hc h1 with hr | ⟨n,e⟩
      · exact absurd hr a1
      · rcases reach_turned hc h2 with hr | ⟨m,e'⟩
        · exact absurd hr a2
        · rw [e] at e'; injection e' with e1 e2; exact absurd e2 hne
  have hz : w.heap.size ≤ w4.heap.size := hM.size
  refine hk w4 (fun b => O b ∨ sblk v' = some b) { L with rowv := v',lsh := c.onL L.lsh } ⟨?_,hM.mono fun b hb => .inl (h.own (hOwn b hb)),fun b => .inl,fun b => id,?_,fun b => .inl⟩
  · exact {
      disk := hd4
      sh := h4
      shp := c.onL_perm h.shp h.lshn
      sf := h.sf.fr hM (by
        rintro (e | e | e)
        · obtain ⟨es,c1,h1⟩ := SMap.obj h.sf
          rw [e,h.disk] at h1; cases h1
        · exact h.ne e.symm
        · obtain ⟨c1,h1⟩ := own_obj h.row e
          obtain ⟨es,c2,h3⟩ := SMap.obj h.sf
          rw [h1] at h3; cases h3)
      sfp := h.sfp
      ne := h.ne
      row := by
        have h5 := own_fr (own_fr h2 fC hv'D) ((Fr.drew (fun _ => False) w3).or fD) (by rintro b hb (h' | h'); exact h'.elim; exact hv'sh b hb h')
        simpa [AD.turned] using h5
      reads := own_fr h.reads hM (by
        rintro b hb (e | e | e)
        · obtain ⟨c1,h1⟩ := own_obj h.reads hb
          rw [e] at h1; exact absurd (two_types h1 h.disk) (by decide)
        · obtain ⟨c1,h1⟩ := own_obj h.reads hb
          obtain ⟨es,c2,h3⟩ := SMap.obj h.sh
          rw [e,h3] at h1; cases h1
        · obtain ⟨c1,h1⟩ := own_obj h.reads hb
          obtain ⟨c2,h3⟩ := own_obj h.row e
          exact absurd (two_types h1 h3) (by decide))
      things := fun t hr => hTm (hTf (hth t hr))
      inj := fun t u h1 h2 e => Classical.byContradiction fun hne => (hpair t u h1 h2 hne).1 e
      rows := fun t u h1 h2 hne => (hpair t u h1 h2 hne).2
      oD := .inl h.oD
      osh := .inl h.osh
      osf := .inl h.osf
      orow := fun b hb => .inr hb
      oreads := fun b hb => .inl (h.oreads b hb)
      apart := by
        rintro b (hb | hb) hi
        · exact h.apart b hb hi
        · rcases hnew b hb with h1 | h1
          · exact h.apart b (h.orow b h1) hi
          · have := h.lt b (.inr hi); omega
      lt := by
        rintro b ((hb | hb) | hb)
        · have := h.lt b (.inl hb); omega
        · exact hv4 b hb
        · have := h.lt b (.inr hb); omega }
  · rintro b (hb | hb)
    · exact .inl hb
    · rcases hnew b hb with h1 | h1
      · exact .inl (h.orow b h1)
      · exact .inr (by omega)
end
theorem Nx.trans {w w1 w2:World} {D:Nat} {O I O1 I1 O2 I2:Nat → Prop} {S1 S2:AD} {L1 L2:Lay} (h:Nx w D O I w1 S1 O1 I1 L1) (k:Nx w1 D O1 I1 w2 S2 O2 I2 L2) : Nx w D O I w2 S2 O2 I2 L2 where
 rep := k.rep
 fr := h.fr.trans k.fr h.on
 oo := fun b hb => k.oo b (h.oo b hb)
 ii := fun b hb => k.ii b (h.ii b hb)
 on := fun b hb => (k.on b hb).elim (h.on b) fun hb => .inr (Nat.le_trans h.fr.size hb)
 in_ := fun b hb => (k.in_ b hb).elim (h.in_ b) fun hb => .inr (Nat.le_trans h.fr.size hb)
theorem Nx.refl {w:World} {D:Nat} {O I:Nat → Prop} {S:AD} {L:Lay} (h:DRep w D S O I L) : Nx w D O I w S O I L := ⟨h,Fr.refl _ _,fun b => id,fun b => id,fun b => .inl,fun b => .inl⟩
section
variable {w:World} {D:Nat} {S S':AD} {O I:Nat → Prop} {L:Lay} {k:KV}
theorem DRep.plain {w':World} (h:DRep w D S O I L) (hf:Fr (fun b => b = D) w w') (hd:w'.heap[D]? = some (.cells (dcells S' L) 58 (0,0))) (h1:S'.shown = S.shown) (h2:S'.safe = S.safe) (h3:S'.row = S.row) (h4:S'.reads = S.reads) (h5:S'.things = S.things) :
    DRep w' D S' O I L where
  disk := hd
  sh := h.sh.fr hf (by rintro e; obtain ⟨es,c1,h1⟩ := SMap.obj h.sh; rw [e,h.disk] at h1; cases h1)
  shp := by rw [h1]; exact h.shp
  sf := h.sf.fr hf (by rintro e; obtain ⟨es,c1,h1⟩ := SMap.obj h.sf; rw [e,h.disk] at h1; cases h1)
  sfp := by rw [h2]; exact h.sfp
  ne := h.ne
  row := by rw [h3]; exact own_fr h.row hf (by rintro b hb e; obtain ⟨c1,h1⟩ := own_obj h.row hb; rw [e] at h1; exact absurd (two_types h1 h.disk) (by decide))
  reads := by rw [h4]; exact own_fr h.reads hf (by rintro b hb e; obtain ⟨c1,h1⟩ := own_obj h.reads hb; rw [e] at h1; exact absurd (two_types h1 h.disk) (by decide))
  things := fun t ht => by
    have ht' : reach S t := by unfold reach at *; rwa [h1,h2,h3] at ht
    rw [h5]
    exact (h.things t ht').stay h hf fun b hb => .inl (.inl hb)
  inj := by unfold reach; rw [h1,h2,h3]; exact h.inj
  rows := by unfold reach; rw [h1,h2,h3]; exact h.rows
  oD := h.oD
  osh := h.osh
  osf := h.osf
  orow := h.orow
  oreads := h.oreads
  apart := h.apart
  lt := fun b hb => Nat.lt_of_lt_of_le (h.lt b hb) hf.size
theorem Nx.plain {w':World} (h:DRep w D S O I L) (hf:Fr (fun b => b = D) w w') (hd:w'.heap[D]? = some (.cells (dcells S' L) 58 (0,0))) (h1:S'.shown = S.shown) (h2:S'.safe = S.safe) (h3:S'.row = S.row) (h4:S'.reads = S.reads) (h5:S'.things = S.things) :
    Nx w D O I w' S' O I L := ⟨h.plain hf hd h1 h2 h3 h4 h5,hf.mono fun b hb => .inl (hb ▸ h.oD),fun b => id,fun b => id,fun b => .inl,fun b => .inl⟩
theorem c_stroke1 {act:AD → AD} (ρ:Env) (kind r:Int) (f:Value) (h0:ρ 0 = ptr D) (h1:ρ 1 = i64 kind) (h2:ρ 2 = i64 r) (h3:ρ 3 = f) (h:DRep w D S O I L)
    (hoff:∀ T,(act T).off = T.off)
    (hdo:r = 0 → ¬ (S.since = S.plan.off ∧ kind = 2) → ∀ w1,DRep w1 D { S with off := decide (S.since = S.plan.off) } O I L → Fr (fun b => b = D) w w1 → ∀ K : KV,(∀ v w' O' I' L',Nx w1 D O I w' (act { S with off := decide (S.since = S.plan.off) }) O' I' L' → K v w') → pVal P f [] w1 K)
    (hk:∀ w' O' I' L',Nx w D O I w' (if r = 0 ∧ ¬ (S.since = S.plan.off ∧ kind = 2) then act { S with off := decide (S.since = S.plan.off) } else { S with off := decide (S.since = S.plan.off) }) O' I' L' → k (i64 (if S.since = S.plan.off then 50 else r)) w') : F79_1 k ρ w := by
  unfold F79_1
  rw [h0,h1,h2,h3]
  have hd : w.drew.heap[D]? = some (.cells (dcells S L) 58 (0,0)) := h.disk
  refine ⟨fun w => ∃ o,w.heap[D]? = some (.cells (dcells { S with off := o } L) 58 (0,0)),⟨S.off,hd⟩,?_⟩
  refine q_of _ (fun w_ hS => s_nil ⟨rfl,rfl⟩) ?_
  refine q_of _ (fun w_ hS => fa58_6 ⟨rfl,rfl⟩) ?_
  refine q_of (i64 S.since) (fun w_ hS => by obtain ⟨o,h⟩ := hS; exact s_ldb (isAgg3 _) h rfl ⟨rfl,rfl⟩) ?_
  refine q_of _ (fun w_ hS => s_nil ⟨rfl,rfl⟩) ?_
  refine q_of _ (fun w_ hS => fa58_5 ⟨rfl,rfl⟩) ?_
  refine q_of _ (fun w_ hS => fa38_0 ⟨rfl,rfl⟩) ?_
  refine q_of (i64 S.plan.off) (fun w_ hS => by obtain ⟨o,h⟩ := hS; exact s_ldb (isAgg3 _) h rfl ⟨rfl,rfl⟩) ?_
  refine q_of _ (fun w_ hS => s_eqi ⟨rfl,rfl⟩) ?_
  refine q_of _ (fun w_ hS => s_nil ⟨rfl,rfl⟩) ?_
  refine q_of _ (fun w_ hS => fa58_7 ⟨rfl,rfl⟩) ?_
  have eo : (S.since == S.plan.off) = decide (S.since = S.plan.off) := by rw [Bool.eq_iff_iff]; simp
  rw [eo]
  refine s_st (sizeOf4 _) rfl rfl hd (by show 9 < 11; decide) ?_
  have hd1 := set_same hd 9 (.bool (decide (S.since = S.plan.off)))
  have fr1 : Fr (fun b => b = D) w (w.drew.setCell ⟨D,9,none⟩ (.bool (decide (S.since = S.plan.off)))) := ((Fr.drew (fun _ => False) w).or (Fr.setCell w.drew ⟨D,9,none⟩ _)).mono fun b hb => hb.elim (fun h => h.elim) .inl
  have hR : DRep _ D { S with off := decide (S.since = S.plan.off) } O I L := h.plain fr1 hd1 rfl rfl rfl rfl rfl
  have hN : Nx w D O I _ { S with off := decide (S.since = S.plan.off) } O I L := .plain h fr1 hd1 rfl rfl rfl rfl rfl
  show px P _ _ _
  generalize w.drew.setCell ⟨D,0 + 9,none⟩ (.bool (decide (S.since = S.plan.off))) = w1 at *
  -- the last part
  have fin : ∀ {w2:World} {S2:AD} {O2 I2:Nat → Prop} {L2:Lay} (ρ':Env),ρ' 0 = ptr D → ρ' 2 = i64 r → DRep w2 D S2 O2 I2 L2 → S2.off = decide (S.since = S.plan.off) → k (i64 (if S.since = S.plan.off then 50 else r)) w2 → F79_2 k ρ' w2 := by
    intro w2 S2 O2 I2 L2 ρ' e0 e2 hR2 hoff2 hk2
    unfold F79_2
    rw [e0,e2]
    refine s_nil (fa58_7 (s_ldb (v := .bool S2.off) (isAgg4 _) hR2.disk rfl ?_))
    rw [hoff2]
    by_cases ho : S.since = S.plan.off
    · rw [if_pos ho] at hk2; rw [decide_eq_true ho]; exact hk2
    · rw [if_neg ho] at hk2; rw [decide_eq_false ho]; exact hk2
  by_cases r0 : r = 0
  · refine s_eqi_t r0 (pG_yes rfl (pG_yes rfl (s_nil (pG_yes rfl (fa58_7 (pG_yes rfl (s_ldb (v := .bool (decide (S.since = S.plan.off))) (isAgg4 _) hd1 rfl (pG_yes rfl ?_))))))))
    by_cases ho : S.since = S.plan.off
    · rw [decide_eq_true ho] at *
      refine pG_yes rfl (pG_yes rfl (s_eqi (pG_yes rfl (s_pick_t (pG_yes rfl (s_not (s_pick_t ?_)))))))
      by_cases k2 : kind = 2
      · have e2 : (kind == 2) = true := by simp [k2]
        rw [e2]
        refine pC_false ?_
        rw [F79_2_eq]
        refine fin _ h0 h2 hR rfl ?_
        refine hk _ O I L ?_
        rw [if_neg (by simp [ho,k2])]; exact hN
      · have e2 : (kind == 2) = false := by simp [k2]
        rw [e2]
        refine pC_true ?_
        refine hdo r0 (by simp [k2]) _ hR fr1 _ fun v w' O' I' L' hx => ?_
        rw [F79_2_eq]
        refine fin _ h0 h2 hx.rep (hoff _) ?_
        refine hk _ O' I' L' ?_
        rw [if_pos ⟨r0,by simp [k2]⟩]; exact hN.trans hx
    · rw [decide_eq_false ho] at *
      refine pG_sk ?_
      refine pG_sk ?_
      refine pG_yes rfl ?_
      refine s_pick_f ?_
      refine pG_yes rfl ?_
      refine s_not ?_
      refine s_pick_t ?_
      refine pC_true ?_
      refine hdo r0 (by simp [ho]) _ hR fr1 _ fun v w' O' I' L' hx => ?_
      rw [F79_2_eq]
      refine fin _ h0 h2 hx.rep (hoff _) ?_
      refine hk _ O' I' L' ?_
      rw [if_pos ⟨r0,by simp [ho]⟩]; exact hN.trans hx
  · refine s_eqi_f r0 ?_
    repeat (first | refine pG_sk ?_ | refine pG_un ?_)
    refine s_pick_f ?_
    refine pC_false ?_
    rw [F79_2_eq]
    refine fin _ h0 h2 hR rfl ?_
    refine hk _ O I L ?_
    rw [if_neg (by simp [r0])]; exact hN
theorem c_stroke {act:AD → AD} (kind refused:Int) (f:Value) (h:DRep w D S O I L) (hb1:0 ≤ S.strokes ∧ S.strokes ≤ 4611686018427387904) (hb2:0 ≤ S.since ∧ S.since ≤ 4611686018427387904)
    (hoff:∀ T,(act T).off = T.off)
    (hdo:refused = 0 → ∀ w1,DRep w1 D { S.ticked with off := decide (S.since + 1 = S.plan.off) } O I L → Fr (fun b => b = D) w w1 → ∀ K : KV,(∀ v w' O' I' L',Nx w1 D O I w' (act { S.ticked with off := decide (S.since + 1 = S.plan.off) }) O' I' L' → K v w') → pVal P f [] w1 K)
    (hk:∀ w' O' I' L',Nx w D O I w' (S.stroke kind refused act).2 O' I' L' → k (i64 (S.stroke kind refused act).1) w') : pFn P 79 [ptr D,i64 kind,i64 refused,f] w k := by
  refine F79_in _ _ _ _ _ _ ?_
  unfold F79_0
  refine s_nil (fa58_4 (s_ldb (v := i64 S.strokes) (isAgg3 _) h.disk rfl (s_add_in (by omega) ?_)))
  refine s_nil (fa58_4 (s_st (sizeOf3 _) rfl rfl h.disk (by show 4 < 11; decide) ?_))
  have hd1 := set_same h.disk 4 (i64 (S.strokes + 1))
  have f1 : Fr (fun b => b = D) w (w.setCell ⟨D,4,none⟩ (i64 (S.strokes + 1))) := Fr.setCell w ⟨D,4,none⟩ _
  refine s_nil (fa58_6 (s_ldb (v := i64 S.since) (isAgg3 _) hd1 rfl (s_add_in (by omega) ?_)))
  refine s_nil (fa58_6 (s_st (sizeOf3 _) rfl rfl hd1 (by show 8 < 11; decide) ?_))
  have hd2 := set_same hd1 8 (i64 (S.since + 1))
  have f2 : Fr (fun b => b = D) w ((w.setCell ⟨D,4,none⟩ (i64 (S.strokes + 1))).setCell ⟨D,8,none⟩ (i64 (S.since + 1))) := (f1.or (Fr.setCell _ ⟨D,8,none⟩ _)).mono fun b hb => hb.elim .inl .inl
  have hd3 : ((w.setCell ⟨D,4,none⟩ (i64 (S.strokes + 1))).setCell ⟨D,8,none⟩ (i64 (S.since + 1))).drew.heap[D]? = some (.cells (dcells S.ticked L) 58 (0,0)) := hd2
  have f3 := (f2.or (Fr.drew (fun _ => False) _)).mono (O' := fun b => b = D) fun b hb => hb.elim .inl fun h => h.elim
  show ∃ S : World → Prop,_
  generalize hw : ((w.setCell ⟨D,0 + 4,none⟩ (i64 (S.strokes + 1))).setCell ⟨D,0 + 8,none⟩ (i64 (S.since + 1))).drew = w2 at *
  have hN : Nx w D O I w2 S.ticked O I L := Nx.plain h f3 hd3 rfl rfl rfl rfl rfl
  -- what the refusal is
  have go : ∀ (ρ:Env) (r:Int),ρ 0 = ptr D → ρ 1 = i64 kind → ρ 2 = i64 r → ρ 3 = f → r = (if refused = 0 ∧ kind = 1 ∧ S.ticked.since ≥ S.ticked.plan.from_ ∧ S.ticked.since ≤ S.ticked.plan.to_ then 55 else refused) → F79A k [1,1,1,1] ρ w2 := by
    intro ρ r e0 e1 e2 e3 er
    rw [F79_1_eq]
    refine c_stroke1 (act := act) ρ kind r f e0 e1 e2 e3 hN.rep hoff ?_ ?_
    · intro hr _ w1 hR hf K hK
      have h0 : refused = 0 := by
        rw [hr] at er
        split at er
        · cases er
        · exact er.symm
      exact hdo h0 w1 hR ((f3.or hf).mono fun b hb => hb.elim .inl .inl) K hK
    · intro w' O' I' L' hx
      have e1 : (S.stroke kind refused act).1 = (if S.ticked.since = S.ticked.plan.off then 50 else r) := by
        unfold AD.stroke
        simp only [← er,decide_eq_true_eq]
      have e2 : (S.stroke kind refused act).2 = (if r = 0 ∧ ¬ (S.ticked.since = S.ticked.plan.off ∧ kind = 2) then act { S.ticked with off := decide (S.ticked.since = S.ticked.plan.off) } else { S.ticked with off := decide (S.ticked.since = S.ticked.plan.off) }) := by
        unfold AD.stroke
        simp only [← er,decide_eq_true_eq]
      rw [← e1]
      exact hk w' O' I' L' (by rw [e2]; exact hN.trans hx)
  refine ⟨fun w => w.heap[D]? = some (.cells (dcells S.ticked L) 58 (0,0)),hd3,?_⟩
  by_cases r0 : refused = 0
  · refine q_of _ (fun w_ hS => s_eqi_t r0 ⟨rfl,rfl⟩) ?_
    refine pGq_yes rfl ?_
    refine pGq_yes rfl ?_
    by_cases k1 : kind = 1
    · refine q_of _ (fun w_ hS => s_eqi_t k1 ⟨rfl,rfl⟩) ?_
      refine q_of _ (fun w_ hS => s_pick_t ⟨rfl,rfl⟩) ?_
      refine pGq_yes rfl (pGq_yes rfl ?_)
      refine q_of _ (fun w_ hS => s_nil ⟨rfl,rfl⟩) ?_
      refine pGq_yes rfl ?_
      refine q_of _ (fun w_ hS => fa58_6 ⟨rfl,rfl⟩) ?_
      refine pGq_yes rfl ?_
      refine q_of (i64 S.ticked.since) (fun w_ hS => s_ldb (isAgg3 _) hS rfl ⟨rfl,rfl⟩) ?_
      refine pGq_yes rfl (pGq_yes rfl ?_)
      refine q_of _ (fun w_ hS => s_nil ⟨rfl,rfl⟩) ?_
      refine pGq_yes rfl ?_
      refine q_of _ (fun w_ hS => fa58_5 ⟨rfl,rfl⟩) ?_
      refine pGq_yes rfl ?_
      refine q_of _ (fun w_ hS => fa38_1 ⟨rfl,rfl⟩) ?_
      refine pGq_yes rfl ?_
      refine q_of (i64 S.ticked.plan.from_) (fun w_ hS => s_ldb (isAgg3 _) hS rfl ⟨rfl,rfl⟩) ?_
      refine pGq_yes rfl ?_
      by_cases c1 : S.ticked.since ≥ S.ticked.plan.from_
      · refine q_of _ (fun w_ hS => s_ge_t c1 ⟨rfl,rfl⟩) ?_
        refine q_of _ (fun w_ hS => s_pick_t ⟨rfl,rfl⟩) ?_
        refine pGq_yes rfl (pGq_yes rfl ?_)
        refine q_of _ (fun w_ hS => s_nil ⟨rfl,rfl⟩) ?_
        refine pGq_yes rfl ?_
        refine q_of _ (fun w_ hS => fa58_6 ⟨rfl,rfl⟩) ?_
        refine pGq_yes rfl ?_
        refine q_of (i64 S.ticked.since) (fun w_ hS => s_ldb (isAgg3 _) hS rfl ⟨rfl,rfl⟩) ?_
        refine pGq_yes rfl (pGq_yes rfl ?_)
        refine q_of _ (fun w_ hS => s_nil ⟨rfl,rfl⟩) ?_
        refine pGq_yes rfl ?_
        refine q_of _ (fun w_ hS => fa58_5 ⟨rfl,rfl⟩) ?_
        refine pGq_yes rfl ?_
        refine q_of _ (fun w_ hS => fa38_2 ⟨rfl,rfl⟩) ?_
        refine pGq_yes rfl ?_
        refine q_of (i64 S.ticked.plan.to_) (fun w_ hS => s_ldb (isAgg3 _) hS rfl ⟨rfl,rfl⟩) ?_
        refine pGq_yes rfl ?_
        by_cases c2 : S.ticked.since ≤ S.ticked.plan.to_
        · refine q_of _ (fun w_ hS => s_le_t c2 ⟨rfl,rfl⟩) ?_
          refine q_of _ (fun w_ hS => s_pick_t ⟨rfl,rfl⟩) (pC_true ?_)
          exact go _ 55 rfl rfl rfl rfl (by rw [if_pos ⟨r0,k1,c1,c2⟩])
        · refine q_of _ (fun w_ hS => s_le_f c2 ⟨rfl,rfl⟩) ?_
          refine q_of _ (fun w_ hS => s_pick_t ⟨rfl,rfl⟩) (pC_false ?_)
          exact go _ refused rfl rfl rfl rfl (by rw [if_neg (fun h => c2 h.2.2.2)])
      · refine q_of _ (fun w_ hS => s_ge_f c1 ⟨rfl,rfl⟩) ?_
        refine q_of _ (fun w_ hS => s_pick_t ⟨rfl,rfl⟩) ?_
        repeat (first | refine pGq_sk ?_ | refine pGq_un ?_)
        refine q_of _ (fun w_ hS => s_pick_f ⟨rfl,rfl⟩) (pC_false ?_)
        exact go _ refused rfl rfl rfl rfl (by rw [if_neg (fun h => c1 h.2.2.1)])
    · refine q_of _ (fun w_ hS => s_eqi_f k1 ⟨rfl,rfl⟩) ?_
      refine q_of _ (fun w_ hS => s_pick_t ⟨rfl,rfl⟩) ?_
      repeat (first | refine pGq_sk ?_ | refine pGq_un ?_)
      refine q_of _ (fun w_ hS => s_pick_f ⟨rfl,rfl⟩) ?_
      repeat (first | refine pGq_sk ?_ | refine pGq_un ?_)
      refine q_of _ (fun w_ hS => s_pick_f ⟨rfl,rfl⟩) (pC_false ?_)
      exact go _ refused rfl rfl rfl rfl (by rw [if_neg (fun h => k1 h.2.1)])
  · refine q_of _ (fun w_ hS => s_eqi_f r0 ⟨rfl,rfl⟩) ?_
    repeat (first | refine pGq_sk ?_ | refine pGq_un ?_)
    refine q_of _ (fun w_ hS => s_pick_f ⟨rfl,rfl⟩) ?_
    repeat (first | refine pGq_sk ?_ | refine pGq_un ?_)
    refine q_of _ (fun w_ hS => s_pick_f ⟨rfl,rfl⟩) ?_
    repeat (first | refine pGq_sk ?_ | refine pGq_un ?_)
    refine q_of _ (fun w_ hS => s_pick_f ⟨rfl,rfl⟩) (pC_false ?_)
    exact go _ refused rfl rfl rfl rfl (by rw [if_neg (fun h => r0 h.1)])
end
end Go.Proofs.YtcdcojpfealppaaGreat
