/- Put together by a program (wip/tools/shake.py): Turns,Rename,Stroke,Things,Add. -/
import Derived.Test.YteeeggphkhimcaaGreatDoorA3
import Derived.Test.YteeeggphkhimcaaGreatDoorA5
set_option linter.unusedVariables false
set_option linter.unusedSimpArgs false
set_option maxRecDepth 100000
namespace Go.Proofs.YteeeggphkhimcaaGreatDoor
open Go Go.Proofs Go.RowKit Go.Proofs.XRed Go.Proofs.XHeap Go.Proofs.XMaps Go.Proofs.XSlices Go.Proofs.XDisk Go.Proofs.XCalls Tryz
theorem own_obj {w:World} {base size n:Nat} {e:TypeId} {v:Value} {xs:List Value} (h:w.ownsRow base e size v n xs) {b:Nat} (hb:sblk v = some b) : ∃ cur,w.heap[b]? = some (.cells cur e (0,0)) := by
 rcases h.2 with ⟨rfl,_⟩ | ⟨g,cap,cur,rfl,_,hh,_⟩
 ·cases hb
 ·simp only [sblk,Option.some.injEq] at hb
  subst hb; exact ⟨cur,hh⟩
theorem two_types {w:World} {b:Nat} {c c':Array Value} {T T':TypeId} {f f':Nat × Nat} (h:w.heap[b]? = some (.cells c T f)) (h':w.heap[b]? = some (.cells c' T' f')) : T = T' := by
 rw [h] at h'; injection h' with h'; injection h'
theorem SMap.obj {w:World} {m:Nat} {l:List (ByteArray × Value)} (h:SMap w m l) : ∃ es c,w.heap[m]? = some (.map es c) := by obtain ⟨es,c,h,_⟩ := h; exact ⟨es,c,h⟩
section
variable {w:World} {D:Nat} {S:AD} {O I:Nat → Prop} {L:Lay}
def Own (L:Lay) (D b:Nat) : Prop := b = D ∨ b = L.sh ∨ b = L.sf ∨ sblk L.rowv = some b ∨ sblk L.readsv = some b
theorem DRep.own (h:DRep w D S O I L) {b:Nat} (hb:Own L D b) : O b := by
 rcases hb with rfl | rfl | rfl | hb | hb
 ·exact h.oD
 ·exact h.osh
 ·exact h.osf
 ·exact h.orow _ hb
 ·exact h.oreads _ hb
theorem DRep.notT (h:DRep w D S O I L) {b:Nat} (hb:Own L D b) {c:Array Value} {T:TypeId} {f:Nat × Nat} (hT:T = 131 ∨ T = 240 ∨ T = 5) : w.heap[b]? ≠ some (.cells c T f) := by
 intro hc
 have key : ∀ (T':TypeId),T' = 88 ∨ T' = 174 ∨ T' = 209 → T = T' → False := by
  intro T' h1 h2
  subst h2
  rcases hT with rfl | rfl | rfl <;> rcases h1 with h1 | h1 | h1 <;> exact absurd h1 (by decide)
 rcases hb with rfl | rfl | rfl | hb | hb
 ·exact key _ (.inl rfl) (two_types hc h.disk)
 ·obtain ⟨_,_,hm⟩ := SMap.obj h.sh; rw [hm] at hc; cases hc
 ·obtain ⟨_,_,hm⟩ := SMap.obj h.sf; rw [hm] at hc; cases hc
 ·obtain ⟨_,hm⟩ := own_obj h.row hb; exact key _ (.inr (.inl rfl)) (two_types hc hm)
 ·obtain ⟨_,hm⟩ := own_obj h.reads hb; exact key _ (.inr (.inr rfl)) (two_types hc hm)
theorem TRep.obj {T:Nat} {rb:Value} {x:Thg} (h:TRep w O I T rb x) : ∃ c,w.heap[T]? = some (.cells c 131 (0,0)) := by obtain ⟨⟨_,_,_,h,_⟩,_⟩ := h; exact ⟨_,h⟩
theorem TRep.robj {T:Nat} {rb:Value} {x:Thg} (h:TRep w O I T rb x) {b:Nat} (hb:sblk rb = some b) : ∃ c,w.heap[b]? = some (.cells c 240 (0,0)) := by obtain ⟨⟨_,_,_,_,_,_,h,_⟩,_⟩ := h; exact own_obj h hb
theorem TRep.stay {w':World} {T:Nat} {rb:Value} {x:Thg} {M:Nat → Prop} (h:DRep w D S O I L) (ht:TRep w O I T rb x) (hf:Fr M w w') (hM:∀ b,M b → Own L D b ∨ w.heap.size ≤ b) : TRep w' O I T rb x := by
 refine ht.fr (O' := O) (hf.mono (O' := Own L D) hM) ?_ ?_ ?_
 ·intro hm; obtain ⟨c,hc⟩ := ht.obj; exact h.notT hm (.inl rfl) hc
 ·intro b hb hm; obtain ⟨c,hc⟩ := ht.robj hb; exact h.notT hm (.inr (.inl rfl)) hc
 ·intro b hi hm; exact h.apart b (h.own hm) hi
theorem mapVals_get (L:Lay) (l:Names) (s:ByteArray) : alGet (mapVals L l) s = (alGet l s).map fun t => ptr (L.loc t) := by
 unfold alGet mapVals
 rw [List.find?_map]
 cases h : List.find? ((fun p => decide (p.1 = s)) ∘ fun p : ByteArray × Nat => (p.1,ptr (L.loc p.2))) l with
 | none =>
  have : List.find? (fun p => decide (p.1 = s)) l = none := h
  rw [this]; rfl
 | some p =>
  have : List.find? (fun p => decide (p.1 = s)) l = some p := h
  rw [this]; rfl
theorem mapVals_keys (L:Lay) (l:Names) : alKeys (mapVals L l) = alKeys l := by simp [alKeys,mapVals,Function.comp_def]
theorem DRep.lshn (h:DRep w D S O I L) : (alKeys L.lsh).Nodup := by have := h.sh.nodup; rwa [mapVals_keys] at this
theorem DRep.get (h:DRep w D S O I L) (s:ByteArray) : alGet (mapVals L L.lsh) s = (alGet S.shown s).map fun t => ptr (L.loc t) := by rw [mapVals_get,alGet_perm h.shp h.lshn]
variable {k:KV}
theorem c_look (h:DRep w D S O I L) (hr:1 ≤ S.room) (s:ByteArray) (hs:s.size ≤ 9223372036854775807)
    (hk:k (.tuple #[if S.look s = 0 then ptr (L.loc (S.of s)) else .pointer none,i64 (S.look s)]) w) : pFn P 122 [ptr D,.string s] w k := by
  refine F122_in _ _ _ _ ?_
  unfold F122_0
  refine c_off h.disk hr ?_
  unfold AD.look AD.of at hk
  cases ho : S.off with
  | true => simp only [ho,if_true] at hk; exact pC_true hk
  | false =>
    refine pC_false (c_isName s hs (s_not ?_))
    simp only [ho,Bool.false_eq_true,if_false] at hk
    cases hn : isName s with
    | false => simp only [hn,Bool.not_false,if_true] at hk; exact pC_true hk
    | true =>
      simp only [hn,Bool.not_true,Bool.false_eq_true,if_false] at hk
      refine pC_false (s_nil (fa88_1 (s_ldb (isAgg82 _) h.disk rfl ?_)))
      refine lk82 h.sh s (zeroValue132 _) ?_
      rw [h.get]
      cases hg : alGet S.shown s with
      | none =>
        simp only [hg] at hk
        exact s_eqpn upt132 (pC_true hk)
      | some t =>
        simp only [hg] at hk
        refine s_eqpn upt132 (pC_false ?_)
        refine s_nil (fa88_1 (s_ldb (isAgg82 _) h.disk rfl ?_))
        refine lk82 h.sh s (zeroValue132 _) ?_
        rw [h.get,hg]
        exact hk
theorem c_makingOn {m:Nat} {l:List (ByteArray × Value)} {n:ByteArray} {v:Value} (h:SMap w m l) (hk:∀ w',SMap w' m (alSet l n v) → Fr (fun b => b = m) w w' → k (.tuple #[]) w') : pFn P 274 [.agg #[.string n,v],.map (some m)] w k := by
 refine F274_in _ _ _ _ ?_
 unfold F274_0
 refine s_box ?_
 have hb := alloc_new w (.cells #[.string n,v] 204)
 refine fa204_0 (s_ldb (isAgg9 _) hb rfl ?_)
 refine fa204_1 (s_ldb (isAgg132 _) hb rfl ?_)
 refine up82 (h.alloc _) n v fun w' h' hf _ => hk w' h' ((Fr.alloc _ w _).trans hf fun b hb => .inl hb)
theorem c_takingOn {m:Nat} {l:List (ByteArray × Value)} {n:ByteArray} (h:SMap w m l) (hk:∀ w',SMap w' m (alDel l n) → Fr (fun b => b = m) w w' → k (.tuple #[]) w') : pFn P 272 [.string n,.map (some m)] w k := by
 refine F272_in _ _ _ _ ?_
 unfold F272_0
 exact de82 h n fun w' h' hf _ => hk w' h' hf
theorem c_givingOn {m:Nat} {l:List (ByteArray × Value)} {a b:ByteArray} {v:Value} (h:SMap w m l) (hv:alGet l a = some v) (hk:∀ w',SMap w' m (alSet (alDel l a) b v) → Fr (fun b => b = m) w w' → k (.tuple #[]) w') : pFn P 276 [.agg #[.string a,.string b],.map (some m)] w k := by
 refine F276_in _ _ _ _ ?_
 unfold F276_0
 refine s_box ?_
 have hb := alloc_new w (.cells #[.string a,.string b] 207)
 refine fa207_0 (s_ldb (isAgg9 _) hb rfl ?_)
 have hA := h.alloc (.cells #[.string a,.string b] 207)
 refine lk82 hA a (zeroValue132 _) ?_
 rw [hv]
 refine fa207_0 (s_ldb (isAgg9 _) hb rfl ?_)
 refine de82 hA a fun w1 h1 hf1 hz1 => ?_
 have hne : w.heap.size ≠ m := Nat.ne_of_gt h.lt
 have hb1 := hf1.get hb hne
 refine fa207_1 (s_ldb (isAgg9 _) hb1 rfl ?_)
 refine up82 h1 b v fun w' h' hf _ => hk w' h' (((Fr.alloc _ w _).trans hf1 fun b hb => .inl hb).trans hf fun b hb => .inl hb)
theorem mapVals_set (L:Lay) (l:Names) (s:ByteArray) (t:Nat) : alSet (mapVals L l) s (ptr (L.loc t)) = mapVals L (alSet l s t) := by
 have e : ((mapVals L l).any fun p => decide (p.1 = s)) = (l.any fun p => decide (p.1 = s)) := by simp [mapVals,List.any_map,Function.comp_def]
 unfold alSet
 rw [e]
 split
 ·simp only [mapVals,List.map_map]
  refine List.map_congr_left fun p _ => ?_
  simp only [Function.comp]
  split <;> rfl
 ·simp [mapVals]
theorem mapVals_del (L:Lay) (l:Names) (s:ByteArray) : alDel (mapVals L l) s = mapVals L (alDel l s) := by
 simp [alDel,mapVals,List.filter_map,Function.comp_def]
theorem c_on {m:Nat} {l:Names} (c:Turn) (hc:∀ a b,c = .give a b → alGet l a ≠ none) (h:SMap w m (mapVals L l)) (hk:∀ w',SMap w' m (mapVals L (c.onL l)) → Fr (fun b => b = m) w w' → k (.tuple #[]) w') :
    pInv P (turnVal L.loc c) "freight/disk.on" [.map (some m)] w k := by
  cases c with
  | mk n t =>
    refine s_inv (f := 274) (by kernel_rfl) underlying204 (fun e h => by cases h) (c_makingOn h fun w' h' hf => hk w' ?_ hf)
    rw [mapVals_set] at h'; exact h'
  | give a b =>
    cases hg : alGet l a with
    | none => exact absurd hg (hc a b rfl)
    | some t =>
      refine s_inv (f := 276) (by kernel_rfl) underlying207 (fun e h => by cases h) (c_givingOn (v := ptr (L.loc t)) h (by rw [mapVals_get,hg]; rfl) fun w' h' hf => hk w' ?_ hf)
      rw [mapVals_del,mapVals_set] at h'
      unfold Turn.onL
      simp only [hg,Option.getD_some]; exact h'
  | take n =>
    refine s_inv (f := 272) (by kernel_rfl) underlying202 (fun e h => by cases h) (c_takingOn h fun w' h' hf => hk w' ?_ hf)
    rw [mapVals_del] at h'; exact h'
end
structure Nx (w:World) (D:Nat) (O I:Nat → Prop) (w':World) (S':AD) (O' I':Nat → Prop) (L':Lay) : Prop where
 rep : DRep w' D S' O' I' L'
 fr : Fr O w w'
 oo : ∀ b,O b → O' b
 ii : ∀ b,I b → I' b
 on : ∀ b,O' b → O b ∨ w.heap.size ≤ b
 in_ : ∀ b,I' b → I b ∨ w.heap.size ≤ b
theorem own_one {w:World} {base size n:Nat} {e:TypeId} {v:Value} {xs:List Value} (h:w.ownsRow base e size v n xs) : v.cells = #[v] ∧ v.oneCell' = true := by
 rcases h.2 with ⟨rfl,_⟩ | ⟨g,cap,cur,rfl,_⟩ <;> exact ⟨rfl,rfl⟩
theorem turn_one (loc:Nat → Nat) (c:Turn) : (turnVal loc c).cells = #[turnVal loc c] ∧ (turnVal loc c).oneCell' = true := by cases c <;> exact ⟨rfl,rfl⟩
section
variable {w:World} {D:Nat} {S:AD} {O I:Nat → Prop} {L:Lay} {k:KV}
theorem c_nilon (loc : Nat → Nat) (c : Turn) (hk : k (.func (.method "freight/disk.on") #[turnVal loc c] #[]) w) : px P (nilSem (.func (.method "freight/disk.on") #[turnVal loc c] #[])) w k := by
 cases c with
 | mk n t => exact s_nil_meth (f := 274) (by kernel_rfl) underlying204 (fun e h => by cases h) hk
 | give a b => exact s_nil_meth (f := 276) (by kernel_rfl) underlying207 (fun e h => by cases h) hk
 | take n => exact s_nil_meth (f := 272) (by kernel_rfl) underlying202 (fun e h => by cases h) hk
theorem reach_turned {c:Turn} (hc:∀ a b,c = .give a b → alGet S.shown a ≠ none) {t:Nat} (h:reach (S.turned c) t) : reach S t ∨ ∃ n,c = .mk n t := by
 rcases h with ⟨n,h⟩ | ⟨n,h⟩ | ⟨n,h⟩
 ·cases c with
  | mk m u =>
   rcases mem_setN.1 h with h | h
   ·injection h with h1 h2; subst h2; exact .inr ⟨m,rfl⟩
   ·exact .inl (.inl ⟨n,h.1⟩)
  | give a b =>
   rcases mem_setN.1 h with h | h
   ·injection h with h1 h2
    cases hg : alGet S.shown a with
    | none => exact absurd hg (hc a b rfl)
    | some u => rw [hg] at h2; subst h2; exact .inl (.inl ⟨a,mem_of_alGet hg⟩)
   ·exact .inl (.inl ⟨n,(mem_alDel.1 h.1).1⟩)
  | take m => exact .inl (.inl ⟨n,(mem_alDel.1 h).1⟩)
 ·exact .inl (.inr (.inl ⟨n,h⟩))
 ·rcases List.mem_append.1 h with h | h
  ·exact .inl (.inr (.inr ⟨n,h⟩))
  ·rw [List.mem_singleton] at h; exact .inr ⟨n,h.symm⟩
theorem c_rename (h:DRep w D S O I L) (c:Turn) (hl:S.row.length ≤ 1099511627776) (hc:∀ a b,c = .give a b → alGet S.shown a ≠ none)
    (ht:∀ n t,c = .mk n t → ¬ reach S t → TRep w O I (L.loc t) (L.trow t) (S.things t) ∧ ∀ u,reach S u → L.loc u ≠ L.loc t ∧ ∀ b,sblk (L.trow u) = some b → sblk (L.trow t) ≠ some b)
    (hk:∀ w' O' L',Nx w D O I w' (S.turned c) O' I L' → k (.tuple #[]) w') : pFn P 125 [ptr D,turnVal L.loc c] w k := by
  refine F125_in _ _ _ _ ?_
  unfold F125_0
  refine s_nil (fa88_3 (s_ldb (v := L.rowv) (isAgg83 _) h.disk rfl ?_))
  refine lit1_83 (turn_one L.loc c).1 ?_
  have fA := Fr.alloc (fun _ => False) w (.cells #[turnVal L.loc c] 174)
  have hOwn1 := own_lit w 0 174 1 #[turnVal L.loc c] 1 (Nat.zero_le _) (by unfold maxLen; omega) rfl
  generalize hw1 : w.alloc (.cells #[turnVal L.loc c] 174) = w1 at *
  have hz1 : w.heap.size < w1.heap.size := by rw [← hw1]; simp
  refine ap83 (own_fr h.row fA fun _ _ => id) (Src.of_own hOwn1) (by intro u hu; rw [List.mem_singleton.1 hu]; exact (turn_one _ _).2) (by omega) (Nat.zero_le _) ?_
  intro v' w2 h2 fB hb2
  have hD : ∀ {b},sblk L.rowv = some b → b ≠ D := by
    rintro b hb rfl
    obtain ⟨c1,h1⟩ := own_obj h.row hb
    exact absurd (two_types h1 h.disk) (by decide)
  have hd2 := fB.get (fA.get h.disk id) (fun hb => hD hb.symm rfl)
  refine s_nil (fa88_3 ?_)
  refine s_st (sizeOf83 _) (own_one h2).1 (own_one h2).2 hd2 (by show 3 < 11; decide) ?_
  have hd3 := set_same hd2 3 v'
  have fC : Fr (fun b => b = D) w2 (w2.setCell ⟨D,3,none⟩ v') := Fr.setCell w2 ⟨D,3,none⟩ v'
  generalize hw3 : w2.setCell ⟨D,0 + 3,none⟩ v' = w3 at *
  have hz3 : w3.heap.size = w2.heap.size := by rw [← hw3]; simp [World.setCell]
  have hshD : L.sh ≠ D := by
    intro e; obtain ⟨es,c1,h1⟩ := SMap.obj h.sh
    rw [e,h.disk] at h1; cases h1
  have hshR : ∀ {b},sblk L.rowv = some b → b ≠ L.sh := by
    rintro b hb rfl
    obtain ⟨c1,h1⟩ := own_obj h.row hb
    obtain ⟨es,c2,h3⟩ := SMap.obj h.sh
    rw [h1] at h3; cases h3
  refine ⟨fun w => ∃ cs,w.heap[D]? = some (.cells cs 88 (0,0)) ∧ cs[1]? = some (.map (some L.sh)),⟨_,hd3,rfl⟩,?_⟩
  refine q_of _ (fun w_ hS => s_nil ⟨rfl,rfl⟩) ?_
  refine q_of _ (fun w_ hS => fa88_1 ⟨rfl,rfl⟩) ?_
  refine q_of (.map (some L.sh)) (fun w_ hS => by obtain ⟨cs,h1,h2⟩ := hS; exact s_ldb (isAgg82 _) h1 h2 ⟨rfl,rfl⟩) ?_
  refine q_of _ (fun w_ hS => s_mkf ⟨rfl,rfl⟩) ?_
  refine q_of _ (fun w_ hS => c_nilon L.loc c ⟨rfl,rfl⟩) ?_
  have hsh3' : SMap w3 L.sh (mapVals L L.lsh) := ((h.sh.fr fA id).fr fB fun hb => hshR hb.symm rfl).fr fC hshD
  have hsh3 : SMap w3.drew L.sh (mapVals L L.lsh) := hsh3'
  refine c_on c (fun a b e => by rw [alGet_perm h.shp h.lshn]; exact hc a b e) hsh3 fun w4 h4 fD => ?_
  have hd4 := fD.get (w' := w4) (show w3.drew.heap[D]? = _ from hd3) (fun e => hshD e.symm)
  -- the whole frame
  have hM : Fr (fun b => b = D ∨ b = L.sh ∨ sblk L.rowv = some b) w w4 := by
    refine ((((fA.or fB).or fC).or (Fr.drew (fun _ => False) w3)).or fD).mono ?_
    rintro b ((((hb | hb) | hb) | hb) | hb)
    · exact hb.elim
    · exact .inl (.inr (.inr hb.symm))
    · exact .inl (.inl hb)
    · exact hb.elim
    · exact .inl (.inr (.inl hb))
  have hOwn : ∀ b,(b = D ∨ b = L.sh ∨ sblk L.rowv = some b) → Own L D b := by
    rintro b (hb | hb | hb)
    · exact .inl hb
    · exact .inr (.inl hb)
    · exact .inr (.inr (.inr (.inl hb)))
  have hnew : ∀ b,sblk v' = some b → sblk L.rowv = some b ∨ w.heap.size < b := by
    intro b hb
    rcases hb2 with e | e
    · left; rw [← e]; exact hb
    · right; rw [e] at hb; injection hb with hb; omega
  have hv4 : ∀ b,sblk v' = some b → b < w4.heap.size := by
    intro b hb
    have h1 := (own_blk_lt h2 hb).2
    have h3 := fD.size
    have : w3.drew.heap.size = w3.heap.size := rfl
    omega
  have hv'D : ∀ b,sblk v' = some b → b ≠ D := by
    rintro b hb rfl
    obtain ⟨c1,h1⟩ := own_obj h2 hb
    exact absurd (two_types h1 hd2) (by decide)
  have hv'sh : ∀ b,sblk v' = some b → b ≠ L.sh := by
    intro b hb e
    rcases hnew b hb with h1 | h1
    · exact hshR h1 e
    · have := h.lt _ (.inl h.osh); omega
  have hTf : ∀ {T rb x},TRep w O I T rb x → TRep w4 O I T rb x := fun ht => ht.stay h hM fun b hb => .inl (hOwn b hb)
  have hTm : ∀ {T rb x},TRep w4 O I T rb x → TRep w4 (fun b => O b ∨ sblk v' = some b) I T rb x := fun ht => ht.mono (O := O) (fun b => .inl) fun b => id
  have hth : ∀ t,reach (S.turned c) t → TRep w O I (L.loc t) (L.trow t) (S.things t) := by
    intro t hr
    by_cases hs : reach S t
    · exact h.things t hs
    · rcases reach_turned hc hr with hr | ⟨n,e⟩
      · exact absurd hr hs
      · exact (ht n t e hs).1
  have hpair : ∀ t u,reach (S.turned c) t → reach (S.turned c) u → t ≠ u → L.loc t ≠ L.loc u ∧ ∀ b,sblk (L.trow t) = some b → sblk (L.trow u) ≠ some b := by
    intro t u h1 h2 hne
    by_cases a1 : reach S t <;> by_cases a2 : reach S u
    · exact ⟨fun e => hne (h.inj t u a1 a2 e),h.rows t u a1 a2 hne⟩
    · rcases reach_turned hc h2 with hr | ⟨n,e⟩
      · exact absurd hr a2
      · exact (ht n u e a2).2 t a1
    · rcases reach_turned hc h1 with hr | ⟨n,e⟩
      · exact absurd hr a1
      · have := (ht n t e a1).2 u a2
        exact ⟨fun e => this.1 e.symm,fun b hb hb' => this.2 b hb' hb⟩
    · rcases reach_turned hc h1 with hr | ⟨n,e⟩
      · exact absurd hr a1
      · rcases reach_turned hc h2 with hr | ⟨m,e'⟩
        · exact absurd hr a2
        · rw [e] at e'; injection e' with e1 e2; exact absurd e2 hne
  have hz : w.heap.size ≤ w4.heap.size := hM.size
  refine hk w4 (fun b => O b ∨ sblk v' = some b) { L with rowv := v',lsh := c.onL L.lsh } ⟨?_,hM.mono fun b hb => .inl (h.own (hOwn b hb)),fun b => .inl,fun b => id,?_,fun b => .inl⟩
  · exact {
      disk := hd4
      sh := h4
      shp := c.onL_perm h.shp h.lshn
      sf := h.sf.fr hM (by
        rintro (e | e | e)
        · obtain ⟨es,c1,h1⟩ := SMap.obj h.sf
          rw [e,h.disk] at h1; cases h1
        · exact h.ne e.symm
        · obtain ⟨c1,h1⟩ := own_obj h.row e
          obtain ⟨es,c2,h3⟩ := SMap.obj h.sf
          rw [h1] at h3; cases h3)
      sfp := h.sfp
      ne := h.ne
      row := by
        have h5 := own_fr (own_fr h2 fC hv'D) ((Fr.drew (fun _ => False) w3).or fD) (by rintro b hb (h' | h'); exact h'.elim; exact hv'sh b hb h')
        simpa [AD.turned] using h5
      reads := own_fr h.reads hM (by
        rintro b hb (e | e | e)
        · obtain ⟨c1,h1⟩ := own_obj h.reads hb
          rw [e] at h1; exact absurd (two_types h1 h.disk) (by decide)
        · obtain ⟨c1,h1⟩ := own_obj h.reads hb
          obtain ⟨es,c2,h3⟩ := SMap.obj h.sh
          rw [e,h3] at h1; cases h1
        · obtain ⟨c1,h1⟩ := own_obj h.reads hb
          obtain ⟨c2,h3⟩ := own_obj h.row e
          exact absurd (two_types h1 h3) (by decide))
      things := fun t hr => hTm (hTf (hth t hr))
      inj := fun t u h1 h2 e => Classical.byContradiction fun hne => (hpair t u h1 h2 hne).1 e
      rows := fun t u h1 h2 hne => (hpair t u h1 h2 hne).2
      oD := .inl h.oD
      osh := .inl h.osh
      osf := .inl h.osf
      orow := fun b hb => .inr hb
      oreads := fun b hb => .inl (h.oreads b hb)
      apart := by
        rintro b (hb | hb) hi
        · exact h.apart b hb hi
        · rcases hnew b hb with h1 | h1
          · exact h.apart b (h.orow b h1) hi
          · have := h.lt b (.inr hi); omega
      lt := by
        rintro b ((hb | hb) | hb)
        · have := h.lt b (.inl hb); omega
        · exact hv4 b hb
        · have := h.lt b (.inr hb); omega }
  · rintro b (hb | hb)
    · exact .inl hb
    · rcases hnew b hb with h1 | h1
      · exact .inl (h.orow b h1)
      · exact .inr (by omega)
end
theorem Nx.trans {w w1 w2:World} {D:Nat} {O I O1 I1 O2 I2:Nat → Prop} {S1 S2:AD} {L1 L2:Lay} (h:Nx w D O I w1 S1 O1 I1 L1) (k:Nx w1 D O1 I1 w2 S2 O2 I2 L2) : Nx w D O I w2 S2 O2 I2 L2 where
 rep := k.rep
 fr := h.fr.trans k.fr h.on
 oo := fun b hb => k.oo b (h.oo b hb)
 ii := fun b hb => k.ii b (h.ii b hb)
 on := fun b hb => (k.on b hb).elim (h.on b) fun hb => .inr (Nat.le_trans h.fr.size hb)
 in_ := fun b hb => (k.in_ b hb).elim (h.in_ b) fun hb => .inr (Nat.le_trans h.fr.size hb)
theorem Nx.refl {w:World} {D:Nat} {O I:Nat → Prop} {S:AD} {L:Lay} (h:DRep w D S O I L) : Nx w D O I w S O I L := ⟨h,Fr.refl _ _,fun b => id,fun b => id,fun b => .inl,fun b => .inl⟩
section
variable {w:World} {D:Nat} {S S':AD} {O I:Nat → Prop} {L:Lay} {k:KV}
theorem DRep.plain {w':World} (h:DRep w D S O I L) (hf:Fr (fun b => b = D) w w') (hd:w'.heap[D]? = some (.cells (dcells S' L) 88 (0,0))) (h1:S'.shown = S.shown) (h2:S'.safe = S.safe) (h3:S'.row = S.row) (h4:S'.reads = S.reads) (h5:S'.things = S.things) :
    DRep w' D S' O I L where
  disk := hd
  sh := h.sh.fr hf (by rintro e; obtain ⟨es,c1,h1⟩ := SMap.obj h.sh; rw [e,h.disk] at h1; cases h1)
  shp := by rw [h1]; exact h.shp
  sf := h.sf.fr hf (by rintro e; obtain ⟨es,c1,h1⟩ := SMap.obj h.sf; rw [e,h.disk] at h1; cases h1)
  sfp := by rw [h2]; exact h.sfp
  ne := h.ne
  row := by rw [h3]; exact own_fr h.row hf (by rintro b hb e; obtain ⟨c1,h1⟩ := own_obj h.row hb; rw [e] at h1; exact absurd (two_types h1 h.disk) (by decide))
  reads := by rw [h4]; exact own_fr h.reads hf (by rintro b hb e; obtain ⟨c1,h1⟩ := own_obj h.reads hb; rw [e] at h1; exact absurd (two_types h1 h.disk) (by decide))
  things := fun t ht => by
    have ht' : reach S t := by unfold reach at *; rwa [h1,h2,h3] at ht
    rw [h5]
    exact (h.things t ht').stay h hf fun b hb => .inl (.inl hb)
  inj := by unfold reach; rw [h1,h2,h3]; exact h.inj
  rows := by unfold reach; rw [h1,h2,h3]; exact h.rows
  oD := h.oD
  osh := h.osh
  osf := h.osf
  orow := h.orow
  oreads := h.oreads
  apart := h.apart
  lt := fun b hb => Nat.lt_of_lt_of_le (h.lt b hb) hf.size
theorem Nx.plain {w':World} (h:DRep w D S O I L) (hf:Fr (fun b => b = D) w w') (hd:w'.heap[D]? = some (.cells (dcells S' L) 88 (0,0))) (h1:S'.shown = S.shown) (h2:S'.safe = S.safe) (h3:S'.row = S.row) (h4:S'.reads = S.reads) (h5:S'.things = S.things) :
    Nx w D O I w' S' O I L := ⟨h.plain hf hd h1 h2 h3 h4 h5,hf.mono fun b hb => .inl (hb ▸ h.oD),fun b => id,fun b => id,fun b => .inl,fun b => .inl⟩
theorem c_stroke1 {act:AD → AD} (ρ:Env) (kind r:Int) (f:Value) (h0:ρ 0 = ptr D) (h1:ρ 1 = i64 kind) (h2:ρ 2 = i64 r) (h3:ρ 3 = f) (h:DRep w D S O I L)
    (hoff:∀ T,(act T).off = T.off)
    (hdo:r = 0 → ¬ (S.since = S.plan.off ∧ kind = 2) → ∀ w1,DRep w1 D { S with off := decide (S.since = S.plan.off) } O I L → Fr (fun b => b = D) w w1 → ∀ K : KV,(∀ v w' O' I' L',Nx w1 D O I w' (act { S with off := decide (S.since = S.plan.off) }) O' I' L' → K v w') → pVal P f [] w1 K)
    (hk:∀ w' O' I' L',Nx w D O I w' (if r = 0 ∧ ¬ (S.since = S.plan.off ∧ kind = 2) then act { S with off := decide (S.since = S.plan.off) } else { S with off := decide (S.since = S.plan.off) }) O' I' L' → k (i64 (if S.since = S.plan.off then 50 else r)) w') : F123_1 k ρ w := by
  unfold F123_1
  rw [h0,h1,h2,h3]
  have hd : w.drew.heap[D]? = some (.cells (dcells S L) 88 (0,0)) := h.disk
  refine ⟨fun w => ∃ o,w.heap[D]? = some (.cells (dcells { S with off := o } L) 88 (0,0)),⟨S.off,hd⟩,?_⟩
  refine q_of _ (fun w_ hS => s_nil ⟨rfl,rfl⟩) ?_
  refine q_of _ (fun w_ hS => fa88_6 ⟨rfl,rfl⟩) ?_
  refine q_of (i64 S.since) (fun w_ hS => by obtain ⟨o,h⟩ := hS; exact s_ldb (isAgg3 _) h rfl ⟨rfl,rfl⟩) ?_
  refine q_of _ (fun w_ hS => s_nil ⟨rfl,rfl⟩) ?_
  refine q_of _ (fun w_ hS => fa88_5 ⟨rfl,rfl⟩) ?_
  refine q_of _ (fun w_ hS => fa85_0 ⟨rfl,rfl⟩) ?_
  refine q_of (i64 S.plan.off) (fun w_ hS => by obtain ⟨o,h⟩ := hS; exact s_ldb (isAgg3 _) h rfl ⟨rfl,rfl⟩) ?_
  refine q_of _ (fun w_ hS => s_eqi ⟨rfl,rfl⟩) ?_
  refine q_of _ (fun w_ hS => s_nil ⟨rfl,rfl⟩) ?_
  refine q_of _ (fun w_ hS => fa88_7 ⟨rfl,rfl⟩) ?_
  have eo : (S.since == S.plan.off) = decide (S.since = S.plan.off) := by rw [Bool.eq_iff_iff]; simp
  rw [eo]
  refine s_st (sizeOf4 _) rfl rfl hd (by show 9 < 11; decide) ?_
  have hd1 := set_same hd 9 (.bool (decide (S.since = S.plan.off)))
  have fr1 : Fr (fun b => b = D) w (w.drew.setCell ⟨D,9,none⟩ (.bool (decide (S.since = S.plan.off)))) := ((Fr.drew (fun _ => False) w).or (Fr.setCell w.drew ⟨D,9,none⟩ _)).mono fun b hb => hb.elim (fun h => h.elim) .inl
  have hR : DRep _ D { S with off := decide (S.since = S.plan.off) } O I L := h.plain fr1 hd1 rfl rfl rfl rfl rfl
  have hN : Nx w D O I _ { S with off := decide (S.since = S.plan.off) } O I L := .plain h fr1 hd1 rfl rfl rfl rfl rfl
  show px P _ _ _
  generalize w.drew.setCell ⟨D,0 + 9,none⟩ (.bool (decide (S.since = S.plan.off))) = w1 at *
  -- the last part
  have fin : ∀ {w2:World} {S2:AD} {O2 I2:Nat → Prop} {L2:Lay} (ρ':Env),ρ' 0 = ptr D → ρ' 2 = i64 r → DRep w2 D S2 O2 I2 L2 → S2.off = decide (S.since = S.plan.off) → k (i64 (if S.since = S.plan.off then 50 else r)) w2 → F123_2 k ρ' w2 := by
    intro w2 S2 O2 I2 L2 ρ' e0 e2 hR2 hoff2 hk2
    unfold F123_2
    rw [e0,e2]
    refine s_nil (fa88_7 (s_ldb (v := .bool S2.off) (isAgg4 _) hR2.disk rfl ?_))
    rw [hoff2]
    by_cases ho : S.since = S.plan.off
    · rw [if_pos ho] at hk2; rw [decide_eq_true ho]; exact hk2
    · rw [if_neg ho] at hk2; rw [decide_eq_false ho]; exact hk2
  by_cases r0 : r = 0
  · refine s_eqi_t r0 (pG_yes rfl (pG_yes rfl (s_nil (pG_yes rfl (fa88_7 (pG_yes rfl (s_ldb (v := .bool (decide (S.since = S.plan.off))) (isAgg4 _) hd1 rfl (pG_yes rfl ?_))))))))
    by_cases ho : S.since = S.plan.off
    · rw [decide_eq_true ho] at *
      refine pG_yes rfl (pG_yes rfl (s_eqi (pG_yes rfl (s_pick_t (pG_yes rfl (s_not (s_pick_t ?_)))))))
      by_cases k2 : kind = 2
      · have e2 : (kind == 2) = true := by simp [k2]
        rw [e2]
        refine pC_false ?_
        rw [F123_2_eq]
        refine fin _ h0 h2 hR rfl ?_
        refine hk _ O I L ?_
        rw [if_neg (by simp [ho,k2])]; exact hN
      · have e2 : (kind == 2) = false := by simp [k2]
        rw [e2]
        refine pC_true ?_
        refine hdo r0 (by simp [k2]) _ hR fr1 _ fun v w' O' I' L' hx => ?_
        rw [F123_2_eq]
        refine fin _ h0 h2 hx.rep (hoff _) ?_
        refine hk _ O' I' L' ?_
        rw [if_pos ⟨r0,by simp [k2]⟩]; exact hN.trans hx
    · rw [decide_eq_false ho] at *
      refine pG_sk ?_
      refine pG_sk ?_
      refine pG_yes rfl ?_
      refine s_pick_f ?_
      refine pG_yes rfl ?_
      refine s_not ?_
      refine s_pick_t ?_
      refine pC_true ?_
      refine hdo r0 (by simp [ho]) _ hR fr1 _ fun v w' O' I' L' hx => ?_
      rw [F123_2_eq]
      refine fin _ h0 h2 hx.rep (hoff _) ?_
      refine hk _ O' I' L' ?_
      rw [if_pos ⟨r0,by simp [ho]⟩]; exact hN.trans hx
  · refine s_eqi_f r0 ?_
    repeat (first | refine pG_sk ?_ | refine pG_un ?_)
    refine s_pick_f ?_
    refine pC_false ?_
    rw [F123_2_eq]
    refine fin _ h0 h2 hR rfl ?_
    refine hk _ O I L ?_
    rw [if_neg (by simp [r0])]; exact hN
theorem c_stroke {act:AD → AD} (kind refused:Int) (f:Value) (h:DRep w D S O I L) (hb1:0 ≤ S.strokes ∧ S.strokes ≤ 4611686018427387904) (hb2:0 ≤ S.since ∧ S.since ≤ 4611686018427387904)
    (hoff:∀ T,(act T).off = T.off)
    (hdo:refused = 0 → ∀ w1,DRep w1 D { S.ticked with off := decide (S.since + 1 = S.plan.off) } O I L → Fr (fun b => b = D) w w1 → ∀ K : KV,(∀ v w' O' I' L',Nx w1 D O I w' (act { S.ticked with off := decide (S.since + 1 = S.plan.off) }) O' I' L' → K v w') → pVal P f [] w1 K)
    (hk:∀ w' O' I' L',Nx w D O I w' (S.stroke kind refused act).2 O' I' L' → k (i64 (S.stroke kind refused act).1) w') : pFn P 123 [ptr D,i64 kind,i64 refused,f] w k := by
  refine F123_in _ _ _ _ _ _ ?_
  unfold F123_0
  refine s_nil (fa88_4 (s_ldb (v := i64 S.strokes) (isAgg3 _) h.disk rfl (s_add_in (by omega) ?_)))
  refine s_nil (fa88_4 (s_st (sizeOf3 _) rfl rfl h.disk (by show 4 < 11; decide) ?_))
  have hd1 := set_same h.disk 4 (i64 (S.strokes + 1))
  have f1 : Fr (fun b => b = D) w (w.setCell ⟨D,4,none⟩ (i64 (S.strokes + 1))) := Fr.setCell w ⟨D,4,none⟩ _
  refine s_nil (fa88_6 (s_ldb (v := i64 S.since) (isAgg3 _) hd1 rfl (s_add_in (by omega) ?_)))
  refine s_nil (fa88_6 (s_st (sizeOf3 _) rfl rfl hd1 (by show 8 < 11; decide) ?_))
  have hd2 := set_same hd1 8 (i64 (S.since + 1))
  have f2 : Fr (fun b => b = D) w ((w.setCell ⟨D,4,none⟩ (i64 (S.strokes + 1))).setCell ⟨D,8,none⟩ (i64 (S.since + 1))) := (f1.or (Fr.setCell _ ⟨D,8,none⟩ _)).mono fun b hb => hb.elim .inl .inl
  have hd3 : ((w.setCell ⟨D,4,none⟩ (i64 (S.strokes + 1))).setCell ⟨D,8,none⟩ (i64 (S.since + 1))).drew.heap[D]? = some (.cells (dcells S.ticked L) 88 (0,0)) := hd2
  have f3 := (f2.or (Fr.drew (fun _ => False) _)).mono (O' := fun b => b = D) fun b hb => hb.elim .inl fun h => h.elim
  show ∃ S : World → Prop,_
  generalize hw : ((w.setCell ⟨D,0 + 4,none⟩ (i64 (S.strokes + 1))).setCell ⟨D,0 + 8,none⟩ (i64 (S.since + 1))).drew = w2 at *
  have hN : Nx w D O I w2 S.ticked O I L := Nx.plain h f3 hd3 rfl rfl rfl rfl rfl
  -- what the refusal is
  have go : ∀ (ρ:Env) (r:Int),ρ 0 = ptr D → ρ 1 = i64 kind → ρ 2 = i64 r → ρ 3 = f → r = (if refused = 0 ∧ kind = 1 ∧ S.ticked.since ≥ S.ticked.plan.from_ ∧ S.ticked.since ≤ S.ticked.plan.to_ then 55 else refused) → F123A k [1,1,1,1] ρ w2 := by
    intro ρ r e0 e1 e2 e3 er
    rw [F123_1_eq]
    refine c_stroke1 (act := act) ρ kind r f e0 e1 e2 e3 hN.rep hoff ?_ ?_
    · intro hr _ w1 hR hf K hK
      have h0 : refused = 0 := by
        rw [hr] at er
        split at er
        · cases er
        · exact er.symm
      exact hdo h0 w1 hR ((f3.or hf).mono fun b hb => hb.elim .inl .inl) K hK
    · intro w' O' I' L' hx
      have e1 : (S.stroke kind refused act).1 = (if S.ticked.since = S.ticked.plan.off then 50 else r) := by
        unfold AD.stroke
        simp only [← er,decide_eq_true_eq]
      have e2 : (S.stroke kind refused act).2 = (if r = 0 ∧ ¬ (S.ticked.since = S.ticked.plan.off ∧ kind = 2) then act { S.ticked with off := decide (S.ticked.since = S.ticked.plan.off) } else { S.ticked with off := decide (S.ticked.since = S.ticked.plan.off) }) := by
        unfold AD.stroke
        simp only [← er,decide_eq_true_eq]
      rw [← e1]
      exact hk w' O' I' L' (by rw [e2]; exact hN.trans hx)
  refine ⟨fun w => w.heap[D]? = some (.cells (dcells S.ticked L) 88 (0,0)),hd3,?_⟩
  by_cases r0 : refused = 0
  · refine q_of _ (fun w_ hS => s_eqi_t r0 ⟨rfl,rfl⟩) ?_
    refine pGq_yes rfl ?_
    refine pGq_yes rfl ?_
    by_cases k1 : kind = 1
    · refine q_of _ (fun w_ hS => s_eqi_t k1 ⟨rfl,rfl⟩) ?_
      refine q_of _ (fun w_ hS => s_pick_t ⟨rfl,rfl⟩) ?_
      refine pGq_yes rfl (pGq_yes rfl ?_)
      refine q_of _ (fun w_ hS => s_nil ⟨rfl,rfl⟩) ?_
      refine pGq_yes rfl ?_
      refine q_of _ (fun w_ hS => fa88_6 ⟨rfl,rfl⟩) ?_
      refine pGq_yes rfl ?_
      refine q_of (i64 S.ticked.since) (fun w_ hS => s_ldb (isAgg3 _) hS rfl ⟨rfl,rfl⟩) ?_
      refine pGq_yes rfl (pGq_yes rfl ?_)
      refine q_of _ (fun w_ hS => s_nil ⟨rfl,rfl⟩) ?_
      refine pGq_yes rfl ?_
      refine q_of _ (fun w_ hS => fa88_5 ⟨rfl,rfl⟩) ?_
      refine pGq_yes rfl ?_
      refine q_of _ (fun w_ hS => fa85_1 ⟨rfl,rfl⟩) ?_
      refine pGq_yes rfl ?_
      refine q_of (i64 S.ticked.plan.from_) (fun w_ hS => s_ldb (isAgg3 _) hS rfl ⟨rfl,rfl⟩) ?_
      refine pGq_yes rfl ?_
      by_cases c1 : S.ticked.since ≥ S.ticked.plan.from_
      · refine q_of _ (fun w_ hS => s_ge_t c1 ⟨rfl,rfl⟩) ?_
        refine q_of _ (fun w_ hS => s_pick_t ⟨rfl,rfl⟩) ?_
        refine pGq_yes rfl (pGq_yes rfl ?_)
        refine q_of _ (fun w_ hS => s_nil ⟨rfl,rfl⟩) ?_
        refine pGq_yes rfl ?_
        refine q_of _ (fun w_ hS => fa88_6 ⟨rfl,rfl⟩) ?_
        refine pGq_yes rfl ?_
        refine q_of (i64 S.ticked.since) (fun w_ hS => s_ldb (isAgg3 _) hS rfl ⟨rfl,rfl⟩) ?_
        refine pGq_yes rfl (pGq_yes rfl ?_)
        refine q_of _ (fun w_ hS => s_nil ⟨rfl,rfl⟩) ?_
        refine pGq_yes rfl ?_
        refine q_of _ (fun w_ hS => fa88_5 ⟨rfl,rfl⟩) ?_
        refine pGq_yes rfl ?_
        refine q_of _ (fun w_ hS => fa85_2 ⟨rfl,rfl⟩) ?_
        refine pGq_yes rfl ?_
        refine q_of (i64 S.ticked.plan.to_) (fun w_ hS => s_ldb (isAgg3 _) hS rfl ⟨rfl,rfl⟩) ?_
        refine pGq_yes rfl ?_
        by_cases c2 : S.ticked.since ≤ S.ticked.plan.to_
        · refine q_of _ (fun w_ hS => s_le_t c2 ⟨rfl,rfl⟩) ?_
          refine q_of _ (fun w_ hS => s_pick_t ⟨rfl,rfl⟩) (pC_true ?_)
          exact go _ 55 rfl rfl rfl rfl (by rw [if_pos ⟨r0,k1,c1,c2⟩])
        · refine q_of _ (fun w_ hS => s_le_f c2 ⟨rfl,rfl⟩) ?_
          refine q_of _ (fun w_ hS => s_pick_t ⟨rfl,rfl⟩) (pC_false ?_)
          exact go _ refused rfl rfl rfl rfl (by rw [if_neg (fun h => c2 h.2.2.2)])
      · refine q_of _ (fun w_ hS => s_ge_f c1 ⟨rfl,rfl⟩) ?_
        refine q_of _ (fun w_ hS => s_pick_t ⟨rfl,rfl⟩) ?_
        repeat (first | refine pGq_sk ?_ | refine pGq_un ?_)
        refine q_of _ (fun w_ hS => s_pick_f ⟨rfl,rfl⟩) (pC_false ?_)
        exact go _ refused rfl rfl rfl rfl (by rw [if_neg (fun h => c1 h.2.2.1)])
    · refine q_of _ (fun w_ hS => s_eqi_f k1 ⟨rfl,rfl⟩) ?_
      refine q_of _ (fun w_ hS => s_pick_t ⟨rfl,rfl⟩) ?_
      repeat (first | refine pGq_sk ?_ | refine pGq_un ?_)
      refine q_of _ (fun w_ hS => s_pick_f ⟨rfl,rfl⟩) ?_
      repeat (first | refine pGq_sk ?_ | refine pGq_un ?_)
      refine q_of _ (fun w_ hS => s_pick_f ⟨rfl,rfl⟩) (pC_false ?_)
      exact go _ refused rfl rfl rfl rfl (by rw [if_neg (fun h => k1 h.2.1)])
  · refine q_of _ (fun w_ hS => s_eqi_f r0 ⟨rfl,rfl⟩) ?_
    repeat (first | refine pGq_sk ?_ | refine pGq_un ?_)
    refine q_of _ (fun w_ hS => s_pick_f ⟨rfl,rfl⟩) ?_
    repeat (first | refine pGq_sk ?_ | refine pGq_un ?_)
    refine q_of _ (fun w_ hS => s_pick_f ⟨rfl,rfl⟩) ?_
    repeat (first | refine pGq_sk ?_ | refine pGq_un ?_)
    refine q_of _ (fun w_ hS => s_pick_f ⟨rfl,rfl⟩) (pC_false ?_)
    exact go _ refused rfl rfl rfl rfl (by rw [if_neg (fun h => r0 h.1)])
end
def no : Nat → Prop := fun _ => False
theorem Src.front {w:World} {size n m:Nat} {cs:List Value} {A:Option Addr} {c:Nat} (h:Src w (.slice A n c) size n cs) (hm:m ≤ n) : Src w (.slice A m c) size m (cs.take (m * size)) := by
 obtain ⟨A',c',he,hc,hl,hr⟩ := h
 injection he with e1 e2 e3
 subst e1; subst e3
 refine ⟨_,_,rfl,by omega,?_,fun h0 => ?_⟩
 ·rw [List.length_take,hl]
  exact Nat.min_eq_left (Nat.mul_le_mul_right _ hm)
 ·obtain ⟨b,o,rfl,hcell⟩ := hr (by omega)
  refine ⟨b,o,rfl,fun j u hj => hcell j u ?_⟩
  rw [List.getElem?_take] at hj
  split at hj
  ·exact hj
  ·cases hj
theorem SBytes.front {w:World} {A:Option Addr} {c m:Nat} {bs:List UInt8} (h:SBytes w (.slice A bs.length c) bs) (hm:m ≤ bs.length) : SBytes w (.slice A m c) (bs.take m) := by
 have := Src.front h hm
 unfold SBytes
 rw [List.length_take,Nat.min_eq_left hm]
 unfold u8s at *
 rw [Nat.mul_one,← List.map_take] at this
 exact this
theorem SBytes.blk {w:World} {g:Nat} {t:TypeId} {fr:Nat × Nat} {bs:List UInt8} {c:Nat} (h:w.heap[g]? = some (.cells (u8s bs).toArray t fr)) (hc:bs.length ≤ c) : SBytes w (.slice (some ⟨g,0,none⟩) bs.length c) bs := by
 refine ⟨_,_,rfl,hc,by simp [u8s],fun _ => ⟨g,0,rfl,fun j u hj => ?_⟩⟩
 rw [Nat.zero_add]
 exact cell_blk h (by simpa using hj)
section
variable {w:World} {D:Nat} {S S':AD} {O I:Nat → Prop} {L:Lay} {k:KV}
theorem c_units {c : Chg} {v : Value} (h : ChgV w I c v) (hk : ∀ w', Fr no w w' → k (i64 c.units) w') : pInv P v "freight/disk.units" [] w k := by
 cases c with
 | cut n =>
  subst h
  refine s_inv (f := 282) (by kernel_rfl) underlying266 (fun e h => by cases h) ?_
  refine F282_in _ _ _ ?_
  exact hk w (Fr.refl _ _)
 | wr a d =>
  obtain ⟨s,rfl,hs⟩ := h
  refine s_inv (f := 295) (by kernel_rfl) underlying284 (fun e h => by cases h) ?_
  refine F295_in _ _ _ ?_
  unfold F295_0
  refine s_box (fa284_1 (s_ldb (v := s) (isAgg23 _) (alloc_new w _) rfl ?_))
  obtain ⟨A,c,rfl,hc⟩ := hs.1.form
  exact s_len usl23 (hk _ (Fr.alloc _ _ _))
theorem c_made {c:Chg} {v on:Value} {b:Bytes} {u:Nat} (h:ChgV w I c v) (hon:SB w I on b) (hu:u ≤ c.units) (hb:b.length ≤ 1099511627776) (hcut:∀ n,c = .cut n → u ≠ 0 → n ≤ b.length) (hwr:∀ a d,c = .wr a d → u ≠ 0 → a + u ≤ 1099511627776)
    (hk : ∀ w' v', SBytes w' v' (c.made b u) → (∀ i, sblk v' = some i → I i ∨ (w.heap.size ≤ i ∧ i < w'.heap.size)) → Fr no w w' → k v' w') : pInv P v "freight/disk.made" [on, i64 u] w k := by
  cases c with
  | cut n =>
    subst h
    refine s_inv (f := 281) (by kernel_rfl) underlying266 (fun e h => by cases h) ?_
    refine F281_in _ _ _ _ _ ?_
    unfold F281_0
    by_cases h0 : u = 0
    · refine s_eqi_t (by omega) (pC_true (hk w on ?_ (fun i hi => .inl (hon.2 i hi)) (Fr.refl _ _)))
      simp only [Chg.made,h0,if_true]; exact hon.1
    · refine s_eqi_f (by omega) (pC_false ?_)
      obtain ⟨A,c,rfl,hc⟩ := hon.1.form
      have hn := hcut n rfl h0
      refine s_sl_h usl23 (sze23 _) (by omega) (by omega) ?_
      rw [Int.toNat_natCast]
      refine hk w _ ?_ (fun i hi => .inl (hon.2 i (by cases A <;> exact hi))) (Fr.refl _ _)
      simp only [Chg.made,h0,if_false]
      exact SBytes.front hon.1 hn
  | wr a d =>
    obtain ⟨s,rfl,hs⟩ := h
    have hud : u ≤ d.length := hu
    refine s_inv (f := 294) (by kernel_rfl) underlying284 (fun e h => by cases h) ?_
    refine F294_in _ _ _ _ _ ?_
    unfold F294_0
    refine s_box ?_
    have hB := alloc_new w (.cells #[i64 a,s] 284)
    have f1 := Fr.alloc no w (.cells #[i64 a,s] 284)
    have z1 : (w.alloc (.cells #[i64 a,s] 284)).heap.size = w.heap.size + 1 := by simp
    have hon1 := hon.1.fr f1 (fun b _ => id)
    have hs1 := hs.1.fr f1 (fun b _ => id)
    show px P _ (w.alloc (.cells #[i64 a,s] 284)) _
    generalize w.alloc (.cells #[i64 a,s] 284) = w1 at *
    by_cases h0 : u = 0
    · refine s_eqi_t (by omega) (pC_true (hk w1 on ?_ (fun i hi => .inl (hon.2 i hi)) f1))
      simp only [Chg.made,h0,if_true]; exact hon1
    · have ha := hwr a d rfl h0
      refine s_eqi_f (by omega) (pC_false ?_)
      obtain ⟨A,c,rfl,hc⟩ := hon.1.form
      refine s_len usl23 (fa284_0 (s_ldb (v := i64 a) (isAgg3 _) hB rfl (s_add_in (by omega) (s_max ?_))))
      have en : (if (a:Int) + u > b.length then (a:Int) + u else b.length) = ((max b.length (a + u) : Nat) : Int) := by split <;> omega
      rw [en]
      have hN : max b.length (a + u) ≤ 1099511627776 := by omega
      generalize hNe : max b.length (a + u) = N at *
      refine s_mks (t := 23) (e := 5) (i := t5) (z := .int .u8 0) (by kernel_rfl) (by kernel_rfl) (by kernel_rfl) (by omega) (by show (1 : Int) * N ≤ _; omega) (by omega) ?_
      rw [Int.toNat_natCast,madeCells_one _ rfl]
      have ez : List.replicate (N * t5.size) (Value.int .u8 0) = u8s (List.replicate N 0) := by
        have : N * t5.size = N := Nat.mul_one N
        rw [this]; simp [u8s]
      rw [ez]
      have f2 := Fr.alloc no w1 (.cells (u8s (List.replicate N 0)).toArray 5)
      have hg := alloc_new w1 (.cells (u8s (List.replicate N 0)).toArray 5)
      have z2 : (w1.alloc (.cells (u8s (List.replicate N 0)).toArray 5)).heap.size = w1.heap.size + 1 := by simp
      have hB2 := f2.get hB id
      have hon2 := hon1.fr f2 (fun b _ => id)
      have hs2 := hs1.fr f2 (fun b _ => id)
      show px P _ (w1.alloc (.cells (u8s (List.replicate N 0)).toArray 5)) _
      generalize w1.alloc (.cells (u8s (List.replicate N 0)).toArray 5) = w2 at *
      refine s_copy usl23 (by kernel_rfl) hg hon2 u8s_one (by simp [u8s]; omega) fun w3 hg3 f3 z3 => ?_
      have e3 : (List.take 0 (u8s (List.replicate N 0)).toArray.toList ++ List.take N (u8s b) ++ List.drop (0 + min b.length N) (u8s (List.replicate N 0)).toArray.toList) = u8s (b ++ List.replicate (N - b.length) 0) := by
        have h1 : min b.length N = b.length := by omega
        have h2 : List.take N (u8s b) = u8s b := List.take_of_length_le (by rw [u8s_length]; omega)
        simp only [h1,h2,List.take_zero,List.nil_append,Nat.zero_add,u8s_append]
        congr 1
        simp [u8s,List.drop_replicate]
      rw [e3] at hg3
      have hsg : ∀ i,sblk s = some i → i ≠ w1.heap.size := by
        rintro i hi rfl
        rcases Nat.eq_zero_or_pos d.length with h1 | h1
        · omega
        · have := Src.lt hs1 (by omega) h1 hi; omega
      have hs3 := hs2.fr f3 hsg
      have hB3 := f3.get hB2 (by omega)
      show ∃ S : World → Prop,_
      refine ⟨fun w' => w'.heap[w.heap.size]? = some (.cells #[i64 a,s] 284 (0,0)),hB3,?_⟩
      refine q_of _ (fun w_ hS => fa284_0 ⟨rfl,rfl⟩) ?_
      refine q_of (i64 a) (fun w_ hS => s_ldb (isAgg3 _) hS rfl ⟨rfl,rfl⟩) ?_
      refine q_of (.slice (some ⟨w1.heap.size,a,none⟩) (N - a) (N - a)) (fun w_ hS => s_sl_l usl23 (sze23 _) (by omega) (by omega) ⟨?_,rfl⟩) ?_
      · rw [Int.toNat_natCast]
        unfold sliced
        rw [if_neg (by omega)]
        simp [add_at]
      refine q_of _ (fun w_ hS => fa284_1 ⟨rfl,rfl⟩) ?_
      refine q_of s (fun w_ hS => s_ldb (isAgg23 _) hS rfl ⟨rfl,rfl⟩) ?_
      obtain ⟨A',c',rfl,hc'⟩ := hs3.form
      refine q_of (.slice A' u c') (fun w_ hS => s_sl_h usl23 (sze23 _) (by omega) (by omega) ⟨by rw [Int.toNat_natCast],rfl⟩) ?_
      have hsf := SBytes.front hs3 hud
      have hl : (d.take u).length = u := by rw [List.length_take]; omega
      have hsf' : Src w3.drew (.slice A' u c') 1 u (u8s (d.take u)) := by have := hsf; unfold SBytes at this; rw [hl] at this; exact this
      refine s_copy usl23 (by kernel_rfl) (show w3.drew.heap[w1.heap.size]? = _ from hg3) hsf' u8s_one (by simp [u8s]; omega) fun w4 hg4 f4 z4 => ?_
      have e4 : (List.take a (u8s (b ++ List.replicate (N - b.length) 0)).toArray.toList ++ List.take (N - a) (u8s (d.take u)) ++ List.drop (a + min u (N - a)) (u8s (b ++ List.replicate (N - b.length) 0)).toArray.toList) = u8s (Chg.made b u (.wr a d)) := by
        have h1 : min u (N - a) = u := by omega
        have h2 : List.take (N - a) (u8s (d.take u)) = u8s (d.take u) := List.take_of_length_le (by rw [u8s_length,hl]; omega)
        have h3 : a + u - b.length = N - b.length := by omega
        simp only [h1,h2,Chg.made,if_neg h0,h3]
        simp [u8s,List.map_append,List.map_take,List.map_drop]
      rw [e4] at hg4
      have hlen : (Chg.made b u (.wr a d)).length = N := by
        simp only [Chg.made,if_neg h0]
        rw [made_len]; omega
      have hf : Fr no w w4 := (((f1.or f2).or f3).or ((Fr.drew no w3).or f4)).mono (by
        rintro i (((hi | hi) | hi) | (hi | hi))
        · exact .inl hi
        · exact .inl hi
        · exact .inr (by omega)
        · exact .inl hi
        · exact .inr (by omega))
      refine hk w4 _ ?_ ?_ hf
      · have := SBytes.blk hg4 (Nat.le_refl _)
        rw [hlen] at this; exact this
      · intro i hi
        injection hi with hi
        have h1 : i = w1.heap.size := hi.symm
        have h2 : w3.drew.heap.size = w3.heap.size := rfl
        exact .inr ⟨by omega,by omega⟩
end
section
variable {w:World} {D:Nat} {S S':AD} {O I:Nat → Prop} {L:Lay} {k:KV}
theorem DRep.thing {w':World} {M O' I':Nat → Prop} {t:Nat} {x':Thg} {rb':Value} (h:DRep w D S O I L) (ht:reach S t) (hf:Fr M w w') (hM:∀ b,M b → b = L.loc t ∨ sblk (L.trow t) = some b ∨ w.heap.size ≤ b)
    (hO:∀ b,O b → O' b) (hI:∀ b,I b → I' b) (hT:TRep w' O' I' (L.loc t) rb' x') (hrb:∀ b,sblk rb' = some b → sblk (L.trow t) = some b ∨ w.heap.size ≤ b) (hap:∀ b,O' b → ¬ I' b) (hlt:∀ b,O' b ∨ I' b → b < w'.heap.size) :
    DRep w' D (S.setThing t x') O' I' { L with trow := fun i => if i = t then rb' else L.trow i } := by
  have hT0 := h.things t ht
  have hOwn : ∀ b,Own L D b → ¬ M b := by
    intro b hb hm
    rcases hM b hm with e | e | e
    · obtain ⟨c,hc⟩ := hT0.obj; rw [← e] at hc; exact h.notT hb (.inl rfl) hc
    · obtain ⟨c,hc⟩ := hT0.robj e; exact h.notT hb (.inr (.inl rfl)) hc
    · have := h.lt b (.inl (h.own hb)); omega
  have hnI : ∀ b,I b → ¬ M b := by
    intro b hb hm
    rcases hM b hm with e | e | e
    · exact h.apart b (e ▸ hT0.own) hb
    · exact h.apart b (hT0.rown b e) hb
    · have := h.lt b (.inr hb); omega
  have hth : ∀ u,reach S u → u ≠ t → TRep w' O I (L.loc u) (L.trow u) (S.things u) := by
    intro u hu hne
    have hU := h.things u hu
    refine hU.fr (O' := O) hf ?_ ?_ hnI
    · intro hm
      rcases hM _ hm with e | e | e
      · exact hne (h.inj u t hu ht e)
      · obtain ⟨c,hc⟩ := hT0.robj e
        obtain ⟨c',hc'⟩ := hU.obj
        exact absurd (two_types hc hc') (by decide)
      · have := h.lt _ (.inl hU.own); omega
    · intro b hb hm
      rcases hM _ hm with e | e | e
      · obtain ⟨c,hc⟩ := hU.robj hb
        obtain ⟨c',hc'⟩ := hT0.obj
        rw [e] at hc
        exact absurd (two_types hc hc') (by decide)
      · exact h.rows u t hu ht hne b hb e
      · have := h.lt _ (.inl (hU.rown b hb)); omega
  have hrow : ∀ u,reach S u → u ≠ t → ∀ b,sblk (L.trow u) = some b → sblk rb' ≠ some b := by
    intro u hu hne b hb hb'
    rcases hrb b hb' with e | e
    · exact h.rows u t hu ht hne b hb e
    · have := h.lt _ (.inl ((h.things u hu).rown b hb)); omega
  exact {
    disk := hf.get h.disk (hOwn _ (.inl rfl))
    sh := h.sh.fr hf (hOwn _ (.inr (.inl rfl)))
    shp := h.shp
    sf := h.sf.fr hf (hOwn _ (.inr (.inr (.inl rfl))))
    sfp := h.sfp
    ne := h.ne
    row := own_fr h.row hf fun b hb => hOwn b (.inr (.inr (.inr (.inl hb))))
    reads := own_fr h.reads hf fun b hb => hOwn b (.inr (.inr (.inr (.inr hb))))
    things := fun u hu => by
      have hu' : reach S u := hu
      by_cases e : u = t
      · subst e
        simp only [AD.setThing,if_true]
        exact hT
      · simp only [AD.setThing,if_neg e]
        exact (hth u hu' e).mono (O := O) hO hI
    inj := h.inj
    rows := fun u v hu hv hne => by
      have hu' : reach S u := hu
      have hv' : reach S v := hv
      by_cases e : u = t <;> by_cases e' : v = t
      · exact absurd (e.trans e'.symm) hne
      · simp only [if_pos e,if_neg e']
        intro b hb hb'; exact hrow v hv' e' b hb' hb
      · simp only [if_neg e,if_pos e']; exact hrow u hu' e
      · simp only [if_neg e,if_neg e']; exact h.rows u v hu' hv' hne
    oD := hO _ h.oD
    osh := hO _ h.osh
    osf := hO _ h.osf
    orow := fun b hb => hO _ (h.orow b hb)
    oreads := fun b hb => hO _ (h.oreads b hb)
    apart := hap
    lt := hlt }
theorem c_settle {t:Nat} (h:DRep w D S O I L) (ht:reach S t) (hk:∀ w' O' I' L',Nx w D O I w' (S.setThing t (S.things t).settle) O' I' L' → k (.tuple #[]) w') : pFn P 129 [ptr (L.loc t)] w k := by
 have hT0 := h.things t ht
 obtain ⟨sv,hv,cs,hb,h1,h2,h3,h4⟩ := hT0.ex
 refine F129_in _ _ _ ?_
 unfold F129_0
 refine s_nil (fa131_1 (s_ldb (v := hv) (isAgg23 _) hb rfl ?_))
 obtain ⟨A,c,rfl,hc⟩ := h2.1.form
 refine s_nil (fa131_0 (s_st (sizeOf23 _) rfl rfl hb (by show 0 < 3; decide) ?_))
 have hb1 := set_same hb 0 (.slice A (S.things t).shown.length c)
 have f1 : Fr (fun b => b = L.loc t) w (w.setCell ⟨L.loc t,0,none⟩ (.slice A (S.things t).shown.length c)) := Fr.setCell w ⟨L.loc t,0,none⟩ _
 refine s_nil (fa131_2 (s_st (sizeOf129 _) rfl rfl hb1 (by show 2 < 3; decide) ?_))
 have hb2 := set_same hb1 2 (.slice none 0 0)
 have f2 : Fr (fun b => b = L.loc t) w ((w.setCell ⟨L.loc t,0,none⟩ (.slice A (S.things t).shown.length c)).setCell ⟨L.loc t,2,none⟩ (.slice none 0 0)) := (f1.or (Fr.setCell _ ⟨L.loc t,2,none⟩ _)).mono fun b hb => hb.elim .inl .inl
 have hz : ((w.setCell ⟨L.loc t,0,none⟩ (.slice A (S.things t).shown.length c)).setCell ⟨L.loc t,2,none⟩ (.slice none 0 0)).heap.size = w.heap.size := by simp [World.setCell]
 have h2' := h2.fr f2 (fun b hb e => h.apart b (e ▸ hT0.own) hb)
 have hT : TRep _ O I (L.loc t) (.slice none 0 0) (S.things t).settle := ⟨⟨_,_,[],hb2,h2',h2',⟨rfl,.inl ⟨rfl,rfl⟩⟩,.nil⟩,hT0.own,by rintro b hb; cases hb⟩
 have hR := h.thing ht f2 (fun b hb => .inl hb) (fun b => id) (fun b => id) hT (by rintro b hb; cases hb) h.apart (by rw [hz]; exact h.lt)
 exact hk _ O I _ ⟨hR,f2.mono fun b hb => .inl (hb ▸ hT0.own),fun b => id,fun b => id,fun b => .inl,fun b => .inl⟩
theorem ChgV.one {c:Chg} {v:Value} (h:ChgV w I c v) : v.cells = #[v] ∧ v.oneCell' = true := by
 cases c with
 | wr a d => obtain ⟨s,rfl,_⟩ := h; exact ⟨rfl,rfl⟩
 | cut n => subst h; exact ⟨rfl,rfl⟩
theorem c_nilmade {c : Chg} {v : Value} (h : ChgV w I c v) (w' : World) (hk : k (.func (.method "freight/disk.made") #[v] #[]) w') : px P (nilSem (.func (.method "freight/disk.made") #[v] #[])) w' k := by
 cases c with
 | wr a d => obtain ⟨s,rfl,_⟩ := h; exact s_nil_meth (f := 294) (by kernel_rfl) underlying284 (fun e h => by cases h) hk
 | cut n => subst h; exact s_nil_meth (f := 281) (by kernel_rfl) underlying266 (fun e h => by cases h) hk
theorem sbytes_one {v:Value} {bs:Bytes} (h:SBytes w v bs) : v.cells = #[v] ∧ v.oneCell' = true := by obtain ⟨A,c,rfl,_⟩ := h.form; exact ⟨rfl,rfl⟩
theorem c_add {t:Nat} {c:Chg} {v:Value} (h:DRep w D S O I L) (ht:reach S t) (hv:ChgV w I c v) (hl:(S.things t).row.length ≤ 1099511627776) (hb0:(S.things t).shown.length ≤ 1099511627776)
    (hcut:∀ n,c = .cut n → n ≤ (S.things t).shown.length) (hwr:∀ a d,c = .wr a d → a + d.length ≤ 1099511627776)
    (hk:∀ w' O' I' L',Nx w D O I w' (S.setThing t ((S.things t).add c)) O' I' L' → k (.tuple #[]) w') : pFn P 165 [ptr (L.loc t),v] w k := by
  have hT0 := h.things t ht
  obtain ⟨sv,hv0,cs,hb,h1,h2,h3,h4⟩ := hT0.ex
  generalize hx : S.things t = x at *
  refine F165_in _ _ _ _ ?_
  unfold F165_0
  refine s_nil (fa131_2 (s_ldb (v := L.trow t) (isAgg129 _) hb rfl ?_))
  refine lit1_129 hv.one.1 ?_
  have fA := Fr.alloc no w (.cells #[v] 240)
  have hLit := own_lit w 0 240 1 #[v] 1 (Nat.zero_le _) (by unfold maxLen; omega) rfl
  have zA : (w.alloc (.cells #[v] 240)).heap.size = w.heap.size + 1 := by simp
  show px P _ (w.alloc (.cells #[v] 240)) _
  generalize w.alloc (.cells #[v] 240) = w1 at *
  refine ap129 (own_fr h3 fA fun _ _ => id) (Src.of_own hLit) (by intro u hu; rw [List.mem_singleton.1 hu]; exact hv.one.2) (by omega) (Nat.zero_le _) ?_
  intro v' w2 ho2 fB hb2
  have hTr : ∀ {b},sblk (L.trow t) = some b → b ≠ L.loc t := by
    rintro b hb' rfl
    obtain ⟨c1,hc1⟩ := hT0.robj hb'
    exact absurd (two_types hc1 hb) (by decide)
  have hbB := fB.get (fA.get hb id) (fun hb' => hTr hb'.symm rfl)
  refine s_nil (fa131_2 (s_st (sizeOf129 _) (own_one ho2).1 (own_one ho2).2 hbB (by show 2 < 3; decide) ?_))
  have hbC := set_same hbB 2 v'
  have fC : Fr (fun b => b = L.loc t) w2 (w2.setCell ⟨L.loc t,2,none⟩ v') := Fr.setCell w2 ⟨L.loc t,2,none⟩ _
  have zC : (w2.setCell ⟨L.loc t,2,none⟩ v').heap.size = w2.heap.size := by simp [World.setCell]
  show ∃ S : World → Prop,_
  generalize hwC : w2.setCell ⟨L.loc t,0 + 2,none⟩ v' = w3 at *
  have hv'T : ∀ b,sblk v' = some b → b ≠ L.loc t := by
    rintro b hb' rfl
    obtain ⟨c1,hc1⟩ := own_obj ho2 hb'
    exact absurd (two_types hc1 hbB) (by decide)
  have hnew : ∀ b,sblk v' = some b → sblk (L.trow t) = some b ∨ w.heap.size < b := by
    intro b hb'
    rcases hb2 with e | e
    · left; rw [← e]; exact hb'
    · right; rw [e] at hb'; injection hb' with hb'; omega
  have hv'lt : ∀ b,sblk v' = some b → b < w3.heap.size := by
    intro b hb'
    have := (own_blk_lt ho2 hb').2
    omega
  have fABC : Fr (fun b => b = L.loc t ∨ sblk (L.trow t) = some b) w w3 := ((fA.or fB).or fC).mono (by
    rintro b ((hb' | hb') | hb')
    · exact hb'.elim
    · exact .inl (.inr hb'.symm)
    · exact .inl (.inl hb'))
  have hIM : ∀ b,I b → ¬ (b = L.loc t ∨ sblk (L.trow t) = some b) := by
    rintro b hi (e | e)
    · exact h.apart b (e ▸ hT0.own) hi
    · exact h.apart b (hT0.rown b e) hi
  have hv3 : ChgV w3 I c v := hv.fr fABC hIM
  have h23 : SB w3 I hv0 x.shown := h2.fr fABC hIM
  have h13 : SB w3 I sv x.safe := h1.fr fABC hIM
  have h43 : All2 (ChgV w3 I) x.row cs := all2_imp h4 fun a b hab => hab.fr fABC hIM
  have ho3 : w3.ownsRow 0 240 1 v' (x.row.length + 1) (cs ++ [v]) := own_fr ho2 fC hv'T
  have hbD : w3.drew.heap[L.loc t]? = some (.cells #[sv,hv0,v'] 131 (0,0)) := hbC
  refine ⟨fun w' => w'.heap[L.loc t]? = some (.cells #[sv,hv0,v'] 131 (0,0)),hbD,?_⟩
  refine q_of _ (fun w_ hS => s_nil ⟨rfl,rfl⟩) ?_
  refine q_of _ (fun w_ hS => fa131_1 ⟨rfl,rfl⟩) ?_
  refine q_of hv0 (fun w_ hS => s_ldb (isAgg23 _) hS rfl ⟨rfl,rfl⟩) ?_
  refine q_of _ (fun w_ hS => s_mkf ⟨rfl,rfl⟩) ?_
  refine q_of _ (fun w_ hS => c_nilmade hv w_ ⟨rfl,rfl⟩) ?_
  have hv3d : ChgV w3.drew I c v := hv3
  refine c_units hv3d fun w4 f4 => ?_
  have hb4 := f4.get hbD id
  refine ⟨hb4,?_⟩
  refine c_made (hv3d.fr f4 fun _ _ => id) (SB.fr (O := no) (show SB w3.drew I hv0 x.shown from h23) f4 fun _ _ => id) (Nat.le_refl _) hb0 (fun n e _ => hcut n e) (fun a d e _ => by subst e; exact hwr a d rfl) fun w5 v5 h5 hi5 f5 => ?_
  have hb5 := f5.get hb4 id
  refine ⟨hb5,?_⟩
  refine q_of _ (fun w_ hS => s_nil ⟨rfl,rfl⟩) ?_
  refine q_of _ (fun w_ hS => fa131_1 ⟨rfl,rfl⟩) ?_
  refine s_st (sizeOf23 _) (sbytes_one h5).1 (sbytes_one h5).2 hb5 (by show 1 < 3; decide) ?_
  have hb6 := set_same hb5 1 v5
  have f6 : Fr (fun b => b = L.loc t) w5 (w5.setCell ⟨L.loc t,1,none⟩ v5) := Fr.setCell w5 ⟨L.loc t,1,none⟩ _
  have z6 : (w5.setCell ⟨L.loc t,1,none⟩ v5).heap.size = w5.heap.size := by simp [World.setCell]
  show k _ (w5.setCell ⟨L.loc t,1,none⟩ v5)
  generalize w5.setCell ⟨L.loc t,1,none⟩ v5 = w6 at *
  have f36 : Fr (fun b => b = L.loc t) w3 w6 := ((((Fr.drew no w3).or f4).or f5).or f6).mono (by
    rintro b (((hb' | hb') | hb') | hb')
    · exact hb'.elim
    · exact hb'.elim
    · exact hb'.elim
    · exact .inl hb')
  have z35 : w3.heap.size ≤ w4.heap.size := f4.size
  have z45 := f5.size
  have hTO := hT0.own
  have hTlt := h.lt _ (.inl hTO)
  have hI3 : ∀ b,I b → b ≠ L.loc t := fun b hi e => h.apart b (e ▸ hTO) hi
  have h5blk : ∀ b,sblk v5 = some b → I b ∨ (w4.heap.size ≤ b ∧ b < w5.heap.size) := hi5
  have z03 : w.heap.size ≤ w3.heap.size := fABC.size
  have h56 : SBytes w6 v5 (c.made x.shown c.units) := h5.fr f6 (by
    intro b hb' e
    rcases h5blk b hb' with hi | hi
    · exact hI3 b hi e
    · omega)
  -- the disk behind it
  let O' : Nat → Prop := fun b => O b ∨ sblk v' = some b
  let I' : Nat → Prop := fun b => I b ∨ sblk v5 = some b
  have hT : TRep w6 O' I' (L.loc t) v' (x.add c) :=
    ⟨⟨sv,v5,cs ++ [v],hb6,(h13.fr f36 hI3).mono fun b hi => .inl hi,⟨h56,fun b hb' => .inr hb'⟩,by
        have := own_fr ho3 f36 hv'T
        simpa [Thg.add] using this,
      All2.snoc (all2_imp h43 fun a b hab => (hab.fr f36 hI3).mono fun b hi => .inl hi) ((hv3.fr f36 hI3).mono fun b hi => .inl hi)⟩,.inl hTO,fun b hb' => .inr hb'⟩
  have hfr : Fr (fun b => b = L.loc t ∨ sblk (L.trow t) = some b) w w6 := (fABC.or f36).mono (by rintro b (hb' | hb'); exact .inl hb'; exact .inl (.inl hb'))
  have hv'3 : ∀ b,sblk v' = some b → b < w4.heap.size := fun b hb' => by have := hv'lt b hb'; omega
  have hR := h.thing (x' := x.add c) (rb' := v') (O' := O') (I' := I') ht hfr (by rintro b (e | e); exact .inl e; exact .inr (.inl e)) (fun b => .inl) (fun b => .inl) hT (fun b hb' => (hnew b hb').imp id (by omega)) (by
    rintro b (ho | ho) (hi | hi)
    · exact h.apart b ho hi
    · rcases h5blk b hi with hi' | hi'
      · exact h.apart b ho hi'
      · have := h.lt b (.inl ho); omega
    · rcases hnew b ho with e | e
      · exact h.apart b (hT0.rown b e) hi
      · have := h.lt b (.inr hi); omega
    · have h1 := hv'3 b ho
      rcases h5blk b hi with hi' | hi'
      · rcases hnew b ho with e | e
        · exact h.apart b (hT0.rown b e) hi'
        · have := h.lt b (.inr hi'); omega
      · omega) (by
    rintro b ((ho | ho) | (hi | hi))
    · have := h.lt b (.inl ho); omega
    · have := hv'3 b ho; omega
    · have := h.lt b (.inr hi); omega
    · rcases h5blk b hi with hi' | hi'
      · have := h.lt b (.inr hi'); omega
      · omega)
  refine hk w6 O' I' _ ⟨hR,hfr.mono ?_,fun b => .inl,fun b => .inl,?_,?_⟩
  · rintro b (e | e)
    · exact .inl (e ▸ hTO)
    · exact .inl (hT0.rown b e)
  · rintro b (ho | ho)
    · exact .inl ho
    · rcases hnew b ho with e | e
      · exact .inl (hT0.rown b e)
      · exact .inr (by omega)
  · rintro b (hi | hi)
    · exact .inl hi
    · rcases h5blk b hi with hi' | hi'
      · exact .inl hi'
      · exact .inr (by omega)
end
end Go.Proofs.YteeeggphkhimcaaGreatDoor
