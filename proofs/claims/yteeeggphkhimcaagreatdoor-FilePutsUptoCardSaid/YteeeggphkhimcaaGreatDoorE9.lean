/- Put together by a program (wip/tools/shake.py): Things,Add,Used,Ops. -/
import Derived.Test.YteeeggphkhimcaaGreatDoorE8
set_option linter.unusedVariables false
set_option linter.unusedSimpArgs false
set_option maxRecDepth 100000
namespace Go.Proofs.YteeeggphkhimcaaGreatDoor
open Go Go.Proofs Go.RowKit Go.Proofs.XRed Go.Proofs.XHeap Go.Proofs.XMaps Go.Proofs.XSlices Go.Proofs.XDisk Go.Proofs.XCalls Tryz
def no : Nat → Prop := fun _ => False
theorem Src.front {w:World} {size n m:Nat} {cs:List Value} {A:Option Addr} {c:Nat} (h:Src w (.slice A n c) size n cs) (hm:m ≤ n) : Src w (.slice A m c) size m (cs.take (m * size)) := by
 obtain ⟨A',c',he,hc,hl,hr⟩ := h
 injection he with e1 e2 e3
 subst e1; subst e3
 refine ⟨_,_,rfl,by omega,?_,fun h0 => ?_⟩
 ·rw [List.length_take,hl]
  exact Nat.min_eq_left (Nat.mul_le_mul_right _ hm)
 ·obtain ⟨b,o,rfl,hcell⟩ := hr (by omega)
  refine ⟨b,o,rfl,fun j u hj => hcell j u ?_⟩
  rw [List.getElem?_take] at hj
  split at hj
  ·exact hj
  ·cases hj
theorem SBytes.front {w:World} {A:Option Addr} {c m:Nat} {bs:List UInt8} (h:SBytes w (.slice A bs.length c) bs) (hm:m ≤ bs.length) : SBytes w (.slice A m c) (bs.take m) := by
 have := Src.front h hm
 unfold SBytes
 rw [List.length_take,Nat.min_eq_left hm]
 unfold u8s at *
 rw [Nat.mul_one,← List.map_take] at this
 exact this
theorem SBytes.blk {w:World} {g:Nat} {t:TypeId} {fr:Nat × Nat} {bs:List UInt8} {c:Nat} (h:w.heap[g]? = some (.cells (u8s bs).toArray t fr)) (hc:bs.length ≤ c) : SBytes w (.slice (some ⟨g,0,none⟩) bs.length c) bs := by
 refine ⟨_,_,rfl,hc,by simp [u8s],fun _ => ⟨g,0,rfl,fun j u hj => ?_⟩⟩
 rw [Nat.zero_add]
 exact cell_blk h (by simpa using hj)
section
variable {w:World} {D:Nat} {S S':AD} {O I:Nat → Prop} {L:Lay} {k:KV}
theorem c_units {c : Chg} {v : Value} (h : ChgV w I c v) (hk : ∀ w', Fr no w w' → k (i64 c.units) w') : pInv P v "freight/disk.units" [] w k := by
 cases c with
 | cut n =>
  subst h
  refine s_inv (f := 282) (by kernel_rfl) underlying266 (fun e h => by cases h) ?_
  refine F282_in _ _ _ ?_
  exact hk w (Fr.refl _ _)
 | wr a d =>
  obtain ⟨s,rfl,hs⟩ := h
  refine s_inv (f := 295) (by kernel_rfl) underlying284 (fun e h => by cases h) ?_
  refine F295_in _ _ _ ?_
  unfold F295_0
  refine s_box (fa284_1 (s_ldb (v := s) (isAgg23 _) (alloc_new w _) rfl ?_))
  obtain ⟨A,c,rfl,hc⟩ := hs.1.form
  exact s_len usl23 (hk _ (Fr.alloc _ _ _))
theorem c_made {c:Chg} {v on:Value} {b:Bytes} {u:Nat} (h:ChgV w I c v) (hon:SB w I on b) (hu:u ≤ c.units) (hb:b.length ≤ 1099511627776) (hcut:∀ n,c = .cut n → u ≠ 0 → n ≤ b.length) (hwr:∀ a d,c = .wr a d → u ≠ 0 → a + u ≤ 1099511627776)
    (hk : ∀ w' v', SBytes w' v' (c.made b u) → (∀ i, sblk v' = some i → I i ∨ (w.heap.size ≤ i ∧ i < w'.heap.size)) → Fr no w w' → k v' w') : pInv P v "freight/disk.made" [on, i64 u] w k := by
  cases c with
  | cut n =>
    subst h
    refine s_inv (f := 281) (by kernel_rfl) underlying266 (fun e h => by cases h) ?_
    refine F281_in _ _ _ _ _ ?_
    unfold F281_0
    by_cases h0 : u = 0
    · refine s_eqi_t (by omega) (pC_true (hk w on ?_ (fun i hi => .inl (hon.2 i hi)) (Fr.refl _ _)))
      simp only [Chg.made,h0,if_true]; exact hon.1
    · refine s_eqi_f (by omega) (pC_false ?_)
      obtain ⟨A,c,rfl,hc⟩ := hon.1.form
      have hn := hcut n rfl h0
      refine s_sl_h usl23 (sze23 _) (by omega) (by omega) ?_
      rw [Int.toNat_natCast]
      refine hk w _ ?_ (fun i hi => .inl (hon.2 i (by cases A <;> exact hi))) (Fr.refl _ _)
      simp only [Chg.made,h0,if_false]
      exact SBytes.front hon.1 hn
  | wr a d =>
    obtain ⟨s,rfl,hs⟩ := h
    have hud : u ≤ d.length := hu
    refine s_inv (f := 294) (by kernel_rfl) underlying284 (fun e h => by cases h) ?_
    refine F294_in _ _ _ _ _ ?_
    unfold F294_0
    refine s_box ?_
    have hB := alloc_new w (.cells #[i64 a,s] 284)
    have f1 := Fr.alloc no w (.cells #[i64 a,s] 284)
    have z1 : (w.alloc (.cells #[i64 a,s] 284)).heap.size = w.heap.size + 1 := by simp
    have hon1 := hon.1.fr f1 (fun b _ => id)
    have hs1 := hs.1.fr f1 (fun b _ => id)
    show px P _ (w.alloc (.cells #[i64 a,s] 284)) _
    generalize w.alloc (.cells #[i64 a,s] 284) = w1 at *
    by_cases h0 : u = 0
    · refine s_eqi_t (by omega) (pC_true (hk w1 on ?_ (fun i hi => .inl (hon.2 i hi)) f1))
      simp only [Chg.made,h0,if_true]; exact hon1
    · have ha := hwr a d rfl h0
      refine s_eqi_f (by omega) (pC_false ?_)
      obtain ⟨A,c,rfl,hc⟩ := hon.1.form
      refine s_len usl23 (fa284_0 (s_ldb (v := i64 a) (isAgg3 _) hB rfl (s_add_in (by omega) (s_max ?_))))
      have en : (if (a:Int) + u > b.length then (a:Int) + u else b.length) = ((max b.length (a + u) : Nat) : Int) := by split <;> omega
      rw [en]
      have hN : max b.length (a + u) ≤ 1099511627776 := by omega
      generalize hNe : max b.length (a + u) = N at *
      refine s_mks (t := 23) (e := 5) (i := t5) (z := .int .u8 0) (by kernel_rfl) (by kernel_rfl) (by kernel_rfl) (by omega) (by show (1 : Int) * N ≤ _; omega) (by omega) ?_
      rw [Int.toNat_natCast,madeCells_one _ rfl]
      have ez : List.replicate (N * t5.size) (Value.int .u8 0) = u8s (List.replicate N 0) := by
        have : N * t5.size = N := Nat.mul_one N
        rw [this]; simp [u8s]
      rw [ez]
      have f2 := Fr.alloc no w1 (.cells (u8s (List.replicate N 0)).toArray 5)
      have hg := alloc_new w1 (.cells (u8s (List.replicate N 0)).toArray 5)
      have z2 : (w1.alloc (.cells (u8s (List.replicate N 0)).toArray 5)).heap.size = w1.heap.size + 1 := by simp
      have hB2 := f2.get hB id
      have hon2 := hon1.fr f2 (fun b _ => id)
      have hs2 := hs1.fr f2 (fun b _ => id)
      show px P _ (w1.alloc (.cells (u8s (List.replicate N 0)).toArray 5)) _
      generalize w1.alloc (.cells (u8s (List.replicate N 0)).toArray 5) = w2 at *
      refine s_copy usl23 (by kernel_rfl) hg hon2 u8s_one (by simp [u8s]; omega) fun w3 hg3 f3 z3 => ?_
      have e3 : (List.take 0 (u8s (List.replicate N 0)).toArray.toList ++ List.take N (u8s b) ++ List.drop (0 + min b.length N) (u8s (List.replicate N 0)).toArray.toList) = u8s (b ++ List.replicate (N - b.length) 0) := by
        have h1 : min b.length N = b.length := by omega
        have h2 : List.take N (u8s b) = u8s b := List.take_of_length_le (by rw [u8s_length]; omega)
        simp only [h1,h2,List.take_zero,List.nil_append,Nat.zero_add,u8s_append]
        congr 1
        simp [u8s,List.drop_replicate]
      rw [e3] at hg3
      have hsg : ∀ i,sblk s = some i → i ≠ w1.heap.size := by
        rintro i hi rfl
        rcases Nat.eq_zero_or_pos d.length with h1 | h1
        · omega
        · have := Src.lt hs1 (by omega) h1 hi; omega
      have hs3 := hs2.fr f3 hsg
      have hB3 := f3.get hB2 (by omega)
      show ∃ S : World → Prop,_
      refine ⟨fun w' => w'.heap[w.heap.size]? = some (.cells #[i64 a,s] 284 (0,0)),hB3,?_⟩
      refine q_of _ (fun w_ hS => fa284_0 ⟨rfl,rfl⟩) ?_
      refine q_of (i64 a) (fun w_ hS => s_ldb (isAgg3 _) hS rfl ⟨rfl,rfl⟩) ?_
      refine q_of (.slice (some ⟨w1.heap.size,a,none⟩) (N - a) (N - a)) (fun w_ hS => s_sl_l usl23 (sze23 _) (by omega) (by omega) ⟨?_,rfl⟩) ?_
      · rw [Int.toNat_natCast]
        unfold sliced
        rw [if_neg (by omega)]
        simp [add_at]
      refine q_of _ (fun w_ hS => fa284_1 ⟨rfl,rfl⟩) ?_
      refine q_of s (fun w_ hS => s_ldb (isAgg23 _) hS rfl ⟨rfl,rfl⟩) ?_
      obtain ⟨A',c',rfl,hc'⟩ := hs3.form
      refine q_of (.slice A' u c') (fun w_ hS => s_sl_h usl23 (sze23 _) (by omega) (by omega) ⟨by rw [Int.toNat_natCast],rfl⟩) ?_
      have hsf := SBytes.front hs3 hud
      have hl : (d.take u).length = u := by rw [List.length_take]; omega
      have hsf' : Src w3.drew (.slice A' u c') 1 u (u8s (d.take u)) := by have := hsf; unfold SBytes at this; rw [hl] at this; exact this
      refine s_copy usl23 (by kernel_rfl) (show w3.drew.heap[w1.heap.size]? = _ from hg3) hsf' u8s_one (by simp [u8s]; omega) fun w4 hg4 f4 z4 => ?_
      have e4 : (List.take a (u8s (b ++ List.replicate (N - b.length) 0)).toArray.toList ++ List.take (N - a) (u8s (d.take u)) ++ List.drop (a + min u (N - a)) (u8s (b ++ List.replicate (N - b.length) 0)).toArray.toList) = u8s (Chg.made b u (.wr a d)) := by
        have h1 : min u (N - a) = u := by omega
        have h2 : List.take (N - a) (u8s (d.take u)) = u8s (d.take u) := List.take_of_length_le (by rw [u8s_length,hl]; omega)
        have h3 : a + u - b.length = N - b.length := by omega
        simp only [h1,h2,Chg.made,if_neg h0,h3]
        simp [u8s,List.map_append,List.map_take,List.map_drop]
      rw [e4] at hg4
      have hlen : (Chg.made b u (.wr a d)).length = N := by
        simp only [Chg.made,if_neg h0]
        rw [made_len]; omega
      have hf : Fr no w w4 := (((f1.or f2).or f3).or ((Fr.drew no w3).or f4)).mono (by
        rintro i (((hi | hi) | hi) | (hi | hi))
        · exact .inl hi
        · exact .inl hi
        · exact .inr (by omega)
        · exact .inl hi
        · exact .inr (by omega))
      refine hk w4 _ ?_ ?_ hf
      · have := SBytes.blk hg4 (Nat.le_refl _)
        rw [hlen] at this; exact this
      · intro i hi
        injection hi with hi
        have h1 : i = w1.heap.size := hi.symm
        have h2 : w3.drew.heap.size = w3.heap.size := rfl
        exact .inr ⟨by omega,by omega⟩
end
section
variable {w:World} {D:Nat} {S S':AD} {O I:Nat → Prop} {L:Lay} {k:KV}
theorem DRep.thing {w':World} {M O' I':Nat → Prop} {t:Nat} {x':Thg} {rb':Value} (h:DRep w D S O I L) (ht:reach S t) (hf:Fr M w w') (hM:∀ b,M b → b = L.loc t ∨ sblk (L.trow t) = some b ∨ w.heap.size ≤ b)
    (hO:∀ b,O b → O' b) (hI:∀ b,I b → I' b) (hT:TRep w' O' I' (L.loc t) rb' x') (hrb:∀ b,sblk rb' = some b → sblk (L.trow t) = some b ∨ w.heap.size ≤ b) (hap:∀ b,O' b → ¬ I' b) (hlt:∀ b,O' b ∨ I' b → b < w'.heap.size) :
    DRep w' D (S.setThing t x') O' I' { L with trow := fun i => if i = t then rb' else L.trow i } := by
  have hT0 := h.things t ht
  have hOwn : ∀ b,Own L D b → ¬ M b := by
    intro b hb hm
    rcases hM b hm with e | e | e
    · obtain ⟨c,hc⟩ := hT0.obj; rw [← e] at hc; exact h.notT hb (.inl rfl) hc
    · obtain ⟨c,hc⟩ := hT0.robj e; exact h.notT hb (.inr (.inl rfl)) hc
    · have := h.lt b (.inl (h.own hb)); omega
  have hnI : ∀ b,I b → ¬ M b := by
    intro b hb hm
    rcases hM b hm with e | e | e
    · exact h.apart b (e ▸ hT0.own) hb
    · exact h.apart b (hT0.rown b e) hb
    · have := h.lt b (.inr hb); omega
  have hth : ∀ u,reach S u → u ≠ t → TRep w' O I (L.loc u) (L.trow u) (S.things u) := by
    intro u hu hne
    have hU := h.things u hu
    refine hU.fr (O' := O) hf ?_ ?_ hnI
    · intro hm
      rcases hM _ hm with e | e | e
      · exact hne (h.inj u t hu ht e)
      · obtain ⟨c,hc⟩ := hT0.robj e
        obtain ⟨c',hc'⟩ := hU.obj
        exact absurd (two_types hc hc') (by decide)
      · have := h.lt _ (.inl hU.own); omega
    · intro b hb hm
      rcases hM _ hm with e | e | e
      · obtain ⟨c,hc⟩ := hU.robj hb
        obtain ⟨c',hc'⟩ := hT0.obj
        rw [e] at hc
        exact absurd (two_types hc hc') (by decide)
      · exact h.rows u t hu ht hne b hb e
      · have := h.lt _ (.inl (hU.rown b hb)); omega
  have hrow : ∀ u,reach S u → u ≠ t → ∀ b,sblk (L.trow u) = some b → sblk rb' ≠ some b := by
    intro u hu hne b hb hb'
    rcases hrb b hb' with e | e
    · exact h.rows u t hu ht hne b hb e
    · have := h.lt _ (.inl ((h.things u hu).rown b hb)); omega
  exact {
    disk := hf.get h.disk (hOwn _ (.inl rfl))
    sh := h.sh.fr hf (hOwn _ (.inr (.inl rfl)))
    shp := h.shp
    sf := h.sf.fr hf (hOwn _ (.inr (.inr (.inl rfl))))
    sfp := h.sfp
    ne := h.ne
    row := own_fr h.row hf fun b hb => hOwn b (.inr (.inr (.inr (.inl hb))))
    reads := own_fr h.reads hf fun b hb => hOwn b (.inr (.inr (.inr (.inr hb))))
    things := fun u hu => by
      have hu' : reach S u := hu
      by_cases e : u = t
      · subst e
        simp only [AD.setThing,if_true]
        exact hT
      · simp only [AD.setThing,if_neg e]
        exact (hth u hu' e).mono (O := O) hO hI
    inj := h.inj
    rows := fun u v hu hv hne => by
      have hu' : reach S u := hu
      have hv' : reach S v := hv
      by_cases e : u = t <;> by_cases e' : v = t
      · exact absurd (e.trans e'.symm) hne
      · simp only [if_pos e,if_neg e']
        intro b hb hb'; exact hrow v hv' e' b hb' hb
      · simp only [if_neg e,if_pos e']; exact hrow u hu' e
      · simp only [if_neg e,if_neg e']; exact h.rows u v hu' hv' hne
    oD := hO _ h.oD
    osh := hO _ h.osh
    osf := hO _ h.osf
    orow := fun b hb => hO _ (h.orow b hb)
    oreads := fun b hb => hO _ (h.oreads b hb)
    apart := hap
    lt := hlt }
theorem c_settle {t:Nat} (h:DRep w D S O I L) (ht:reach S t) (hk:∀ w' O' I' L',Nx w D O I w' (S.setThing t (S.things t).settle) O' I' L' → k (.tuple #[]) w') : pFn P 129 [ptr (L.loc t)] w k := by
 have hT0 := h.things t ht
 obtain ⟨sv,hv,cs,hb,h1,h2,h3,h4⟩ := hT0.ex
 refine F129_in _ _ _ ?_
 unfold F129_0
 refine s_nil (fa131_1 (s_ldb (v := hv) (isAgg23 _) hb rfl ?_))
 obtain ⟨A,c,rfl,hc⟩ := h2.1.form
 refine s_nil (fa131_0 (s_st (sizeOf23 _) rfl rfl hb (by show 0 < 3; decide) ?_))
 have hb1 := set_same hb 0 (.slice A (S.things t).shown.length c)
 have f1 : Fr (fun b => b = L.loc t) w (w.setCell ⟨L.loc t,0,none⟩ (.slice A (S.things t).shown.length c)) := Fr.setCell w ⟨L.loc t,0,none⟩ _
 refine s_nil (fa131_2 (s_st (sizeOf129 _) rfl rfl hb1 (by show 2 < 3; decide) ?_))
 have hb2 := set_same hb1 2 (.slice none 0 0)
 have f2 : Fr (fun b => b = L.loc t) w ((w.setCell ⟨L.loc t,0,none⟩ (.slice A (S.things t).shown.length c)).setCell ⟨L.loc t,2,none⟩ (.slice none 0 0)) := (f1.or (Fr.setCell _ ⟨L.loc t,2,none⟩ _)).mono fun b hb => hb.elim .inl .inl
 have hz : ((w.setCell ⟨L.loc t,0,none⟩ (.slice A (S.things t).shown.length c)).setCell ⟨L.loc t,2,none⟩ (.slice none 0 0)).heap.size = w.heap.size := by simp [World.setCell]
 have h2' := h2.fr f2 (fun b hb e => h.apart b (e ▸ hT0.own) hb)
 have hT : TRep _ O I (L.loc t) (.slice none 0 0) (S.things t).settle := ⟨⟨_,_,[],hb2,h2',h2',⟨rfl,.inl ⟨rfl,rfl⟩⟩,.nil⟩,hT0.own,by rintro b hb; cases hb⟩
 have hR := h.thing ht f2 (fun b hb => .inl hb) (fun b => id) (fun b => id) hT (by rintro b hb; cases hb) h.apart (by rw [hz]; exact h.lt)
 exact hk _ O I _ ⟨hR,f2.mono fun b hb => .inl (hb ▸ hT0.own),fun b => id,fun b => id,fun b => .inl,fun b => .inl⟩
theorem ChgV.one {c:Chg} {v:Value} (h:ChgV w I c v) : v.cells = #[v] ∧ v.oneCell' = true := by
 cases c with
 | wr a d => obtain ⟨s,rfl,_⟩ := h; exact ⟨rfl,rfl⟩
 | cut n => subst h; exact ⟨rfl,rfl⟩
theorem c_nilmade {c : Chg} {v : Value} (h : ChgV w I c v) (w' : World) (hk : k (.func (.method "freight/disk.made") #[v] #[]) w') : px P (nilSem (.func (.method "freight/disk.made") #[v] #[])) w' k := by
 cases c with
 | wr a d => obtain ⟨s,rfl,_⟩ := h; exact s_nil_meth (f := 294) (by kernel_rfl) underlying284 (fun e h => by cases h) hk
 | cut n => subst h; exact s_nil_meth (f := 281) (by kernel_rfl) underlying266 (fun e h => by cases h) hk
theorem sbytes_one {v:Value} {bs:Bytes} (h:SBytes w v bs) : v.cells = #[v] ∧ v.oneCell' = true := by obtain ⟨A,c,rfl,_⟩ := h.form; exact ⟨rfl,rfl⟩
theorem c_add {t:Nat} {c:Chg} {v:Value} (h:DRep w D S O I L) (ht:reach S t) (hv:ChgV w I c v) (hl:(S.things t).row.length ≤ 1099511627776) (hb0:(S.things t).shown.length ≤ 1099511627776)
    (hcut:∀ n,c = .cut n → n ≤ (S.things t).shown.length) (hwr:∀ a d,c = .wr a d → a + d.length ≤ 1099511627776)
    (hk:∀ w' O' I' L',Nx w D O I w' (S.setThing t ((S.things t).add c)) O' I' L' → k (.tuple #[]) w') : pFn P 165 [ptr (L.loc t),v] w k := by
  have hT0 := h.things t ht
  obtain ⟨sv,hv0,cs,hb,h1,h2,h3,h4⟩ := hT0.ex
  generalize hx : S.things t = x at *
  refine F165_in _ _ _ _ ?_
  unfold F165_0
  refine s_nil (fa131_2 (s_ldb (v := L.trow t) (isAgg129 _) hb rfl ?_))
  refine lit1_129 hv.one.1 ?_
  have fA := Fr.alloc no w (.cells #[v] 240)
  have hLit := own_lit w 0 240 1 #[v] 1 (Nat.zero_le _) (by unfold maxLen; omega) rfl
  have zA : (w.alloc (.cells #[v] 240)).heap.size = w.heap.size + 1 := by simp
  show px P _ (w.alloc (.cells #[v] 240)) _
  generalize w.alloc (.cells #[v] 240) = w1 at *
  refine ap129 (own_fr h3 fA fun _ _ => id) (Src.of_own hLit) (by intro u hu; rw [List.mem_singleton.1 hu]; exact hv.one.2) (by omega) (Nat.zero_le _) ?_
  intro v' w2 ho2 fB hb2
  have hTr : ∀ {b},sblk (L.trow t) = some b → b ≠ L.loc t := by
    rintro b hb' rfl
    obtain ⟨c1,hc1⟩ := hT0.robj hb'
    exact absurd (two_types hc1 hb) (by decide)
  have hbB := fB.get (fA.get hb id) (fun hb' => hTr hb'.symm rfl)
  refine s_nil (fa131_2 (s_st (sizeOf129 _) (own_one ho2).1 (own_one ho2).2 hbB (by show 2 < 3; decide) ?_))
  have hbC := set_same hbB 2 v'
  have fC : Fr (fun b => b = L.loc t) w2 (w2.setCell ⟨L.loc t,2,none⟩ v') := Fr.setCell w2 ⟨L.loc t,2,none⟩ _
  have zC : (w2.setCell ⟨L.loc t,2,none⟩ v').heap.size = w2.heap.size := by simp [World.setCell]
  show ∃ S : World → Prop,_
  generalize hwC : w2.setCell ⟨L.loc t,0 + 2,none⟩ v' = w3 at *
  have hv'T : ∀ b,sblk v' = some b → b ≠ L.loc t := by
    rintro b hb' rfl
    obtain ⟨c1,hc1⟩ := own_obj ho2 hb'
    exact absurd (two_types hc1 hbB) (by decide)
  have hnew : ∀ b,sblk v' = some b → sblk (L.trow t) = some b ∨ w.heap.size < b := by
    intro b hb'
    rcases hb2 with e | e
    · left; rw [← e]; exact hb'
    · right; rw [e] at hb'; injection hb' with hb'; omega
  have hv'lt : ∀ b,sblk v' = some b → b < w3.heap.size := by
    intro b hb'
    have := (own_blk_lt ho2 hb').2
    omega
  have fABC : Fr (fun b => b = L.loc t ∨ sblk (L.trow t) = some b) w w3 := ((fA.or fB).or fC).mono (by
    rintro b ((hb' | hb') | hb')
    · exact hb'.elim
    · exact .inl (.inr hb'.symm)
    · exact .inl (.inl hb'))
  have hIM : ∀ b,I b → ¬ (b = L.loc t ∨ sblk (L.trow t) = some b) := by
    rintro b hi (e | e)
    · exact h.apart b (e ▸ hT0.own) hi
    · exact h.apart b (hT0.rown b e) hi
  have hv3 : ChgV w3 I c v := hv.fr fABC hIM
  have h23 : SB w3 I hv0 x.shown := h2.fr fABC hIM
  have h13 : SB w3 I sv x.safe := h1.fr fABC hIM
  have h43 : All2 (ChgV w3 I) x.row cs := all2_imp h4 fun a b hab => hab.fr fABC hIM
  have ho3 : w3.ownsRow 0 240 1 v' (x.row.length + 1) (cs ++ [v]) := own_fr ho2 fC hv'T
  have hbD : w3.drew.heap[L.loc t]? = some (.cells #[sv,hv0,v'] 131 (0,0)) := hbC
  refine ⟨fun w' => w'.heap[L.loc t]? = some (.cells #[sv,hv0,v'] 131 (0,0)),hbD,?_⟩
  refine q_of _ (fun w_ hS => s_nil ⟨rfl,rfl⟩) ?_
  refine q_of _ (fun w_ hS => fa131_1 ⟨rfl,rfl⟩) ?_
  refine q_of hv0 (fun w_ hS => s_ldb (isAgg23 _) hS rfl ⟨rfl,rfl⟩) ?_
  refine q_of _ (fun w_ hS => s_mkf ⟨rfl,rfl⟩) ?_
  refine q_of _ (fun w_ hS => c_nilmade hv w_ ⟨rfl,rfl⟩) ?_
  have hv3d : ChgV w3.drew I c v := hv3
  refine c_units hv3d fun w4 f4 => ?_
  have hb4 := f4.get hbD id
  refine ⟨hb4,?_⟩
  refine c_made (hv3d.fr f4 fun _ _ => id) (SB.fr (O := no) (show SB w3.drew I hv0 x.shown from h23) f4 fun _ _ => id) (Nat.le_refl _) hb0 (fun n e _ => hcut n e) (fun a d e _ => by subst e; exact hwr a d rfl) fun w5 v5 h5 hi5 f5 => ?_
  have hb5 := f5.get hb4 id
  refine ⟨hb5,?_⟩
  refine q_of _ (fun w_ hS => s_nil ⟨rfl,rfl⟩) ?_
  refine q_of _ (fun w_ hS => fa131_1 ⟨rfl,rfl⟩) ?_
  refine s_st (sizeOf23 _) (sbytes_one h5).1 (sbytes_one h5).2 hb5 (by show 1 < 3; decide) ?_
  have hb6 := set_same hb5 1 v5
  have f6 : Fr (fun b => b = L.loc t) w5 (w5.setCell ⟨L.loc t,1,none⟩ v5) := Fr.setCell w5 ⟨L.loc t,1,none⟩ _
  have z6 : (w5.setCell ⟨L.loc t,1,none⟩ v5).heap.size = w5.heap.size := by simp [World.setCell]
  show k _ (w5.setCell ⟨L.loc t,1,none⟩ v5)
  generalize w5.setCell ⟨L.loc t,1,none⟩ v5 = w6 at *
  have f36 : Fr (fun b => b = L.loc t) w3 w6 := ((((Fr.drew no w3).or f4).or f5).or f6).mono (by
    rintro b (((hb' | hb') | hb') | hb')
    · exact hb'.elim
    · exact hb'.elim
    · exact hb'.elim
    · exact .inl hb')
  have z35 : w3.heap.size ≤ w4.heap.size := f4.size
  have z45 := f5.size
  have hTO := hT0.own
  have hTlt := h.lt _ (.inl hTO)
  have hI3 : ∀ b,I b → b ≠ L.loc t := fun b hi e => h.apart b (e ▸ hTO) hi
  have h5blk : ∀ b,sblk v5 = some b → I b ∨ (w4.heap.size ≤ b ∧ b < w5.heap.size) := hi5
  have z03 : w.heap.size ≤ w3.heap.size := fABC.size
  have h56 : SBytes w6 v5 (c.made x.shown c.units) := h5.fr f6 (by
    intro b hb' e
    rcases h5blk b hb' with hi | hi
    · exact hI3 b hi e
    · omega)
  -- the disk behind it
  let O' : Nat → Prop := fun b => O b ∨ sblk v' = some b
  let I' : Nat → Prop := fun b => I b ∨ sblk v5 = some b
  have hT : TRep w6 O' I' (L.loc t) v' (x.add c) :=
    ⟨⟨sv,v5,cs ++ [v],hb6,(h13.fr f36 hI3).mono fun b hi => .inl hi,⟨h56,fun b hb' => .inr hb'⟩,by
        have := own_fr ho3 f36 hv'T
        simpa [Thg.add] using this,
      All2.snoc (all2_imp h43 fun a b hab => (hab.fr f36 hI3).mono fun b hi => .inl hi) ((hv3.fr f36 hI3).mono fun b hi => .inl hi)⟩,.inl hTO,fun b hb' => .inr hb'⟩
  have hfr : Fr (fun b => b = L.loc t ∨ sblk (L.trow t) = some b) w w6 := (fABC.or f36).mono (by rintro b (hb' | hb'); exact .inl hb'; exact .inl (.inl hb'))
  have hv'3 : ∀ b,sblk v' = some b → b < w4.heap.size := fun b hb' => by have := hv'lt b hb'; omega
  have hR := h.thing (x' := x.add c) (rb' := v') (O' := O') (I' := I') ht hfr (by rintro b (e | e); exact .inl e; exact .inr (.inl e)) (fun b => .inl) (fun b => .inl) hT (fun b hb' => (hnew b hb').imp id (by omega)) (by
    rintro b (ho | ho) (hi | hi)
    · exact h.apart b ho hi
    · rcases h5blk b hi with hi' | hi'
      · exact h.apart b ho hi'
      · have := h.lt b (.inl ho); omega
    · rcases hnew b ho with e | e
      · exact h.apart b (hT0.rown b e) hi
      · have := h.lt b (.inr hi); omega
    · have h1 := hv'3 b ho
      rcases h5blk b hi with hi' | hi'
      · rcases hnew b ho with e | e
        · exact h.apart b (hT0.rown b e) hi'
        · have := h.lt b (.inr hi'); omega
      · omega) (by
    rintro b ((ho | ho) | (hi | hi))
    · have := h.lt b (.inl ho); omega
    · have := hv'3 b ho; omega
    · have := h.lt b (.inr hi); omega
    · rcases h5blk b hi with hi' | hi'
      · have := h.lt b (.inr hi'); omega
      · omega)
  refine hk w6 O' I' _ ⟨hR,hfr.mono ?_,fun b => .inl,fun b => .inl,?_,?_⟩
  · rintro b (e | e)
    · exact .inl (e ▸ hTO)
    · exact .inl (hT0.rown b e)
  · rintro b (ho | ho)
    · exact .inl ho
    · rcases hnew b ho with e | e
      · exact .inl (hT0.rown b e)
      · exact .inr (by omega)
  · rintro b (hi | hi)
    · exact .inl hi
    · rcases h5blk b hi with hi' | hi'
      · exact .inl hi'
      · exact .inr (by omega)
end
open Go.Proofs.XRange
theorem perm_map_inv {α β:Type} {f:α → β} {a m:List β} (h:a.Perm m) : ∀ l : List α,a = l.map f → ∃ l' : List α,l.Perm l' ∧ m = l'.map f := by
 induction h with
 | nil => intro l e; exact ⟨l,.refl _,e⟩
 | cons x h ih =>
  intro l e
  cases l with
  | nil => cases e
  | cons y l =>
   simp only [List.map_cons,List.cons.injEq] at e
   obtain ⟨l',h1,h2⟩ := ih l e.2
   exact ⟨y :: l',.cons y h1,by simp [e.1,h2]⟩
 | swap x y l =>
  intro m e
  match m,e with
  | [],e => cases e
  | [a],e => simp at e
  | a :: b :: m,e =>
   simp only [List.map_cons,List.cons.injEq] at e
   exact ⟨b :: a :: m,.swap ..,by simp [e.1,e.2.1,e.2.2]⟩
 | trans h1 h2 ih1 ih2 =>
  intro l e
  obtain ⟨l1,p1,e1⟩ := ih1 l e
  obtain ⟨l2,p2,e2⟩ := ih2 l1 e1
  exact ⟨l2,p1.trans p2,e2⟩
theorem mapVals_perm_cons {L:Lay} {l:Names} {p:ByteArray × Value} {r:List (ByteArray × Value)} (h:(mapVals L l).Perm (p :: r)) : ∃ q l',l.Perm (q :: l') ∧ p = (q.1,ptr (L.loc q.2)) ∧ r = mapVals L l' := by
 obtain ⟨m,h1,h2⟩ := perm_map_inv h l rfl
 cases m with
 | nil => cases h2
 | cons q l' =>
  simp only [List.map_cons,List.cons.injEq] at h2
  exact ⟨q,l',h1,h2.1,h2.2⟩
def usedOf (S:AD) (l:Names) : Nat := (l.map fun p => (S.things p.2).shown.length).sum
theorem usedOf_perm (S:AD) {l l':Names} (h:l.Perm l') : usedOf S l = usedOf S l' := (h.map _).sum_nat
section
variable {w:World} {D:Nat} {S S':AD} {O I:Nat → Prop} {L:Lay} {k:KV}
theorem c_used (h:DRep w D S O I L) (hr:1 ≤ S.room) (hu:S.used ≤ 1152921504606846976) (hk:∀ w',Fr no w w' → k (i64 S.used) w') : pFn P 151 [ptr D] w k := by
 refine F151_in _ _ _ ?_
 unfold F151_0
 refine c_none h.disk hr (pC_false ?_)
 refine s_nil (fa88_1 (s_ldb (v := .map (some L.sh)) (isAgg82 _) h.disk rfl ?_))
 refine s_range h.sh underlying82 fun w1 hi f1 z1 => ?_
 have hu0 : usedOf S L.lsh = S.used := usedOf_perm S h.shp
 refine F151L1_inv (m := L.lsh.length) k (fun m ρ w' => ∃ (rest:Names) (acc:Nat),m = rest.length ∧ Fr no w w' ∧ Iter w' w.heap.size L.sh (mapVals L L.lsh) (mapVals L rest) ∧ (∀ p ∈ rest,p ∈ L.lsh) ∧ ρ 3 = i64 acc ∧ ρ 12 = .pointer (some ⟨w.heap.size,0,none⟩) ∧ acc + usedOf S rest = S.used) ?_
  ⟨L.lsh,0,rfl,f1,hi,fun p hp => hp,rfl,rfl,by omega⟩
 rintro m ρ w' ⟨rest,acc,hm,hf,hit,hsub,h3,h12,hsum⟩
 rw [F151_1_eq]
 unfold F151_1
 rw [h3,h12]
 refine s_next hit (fun he => ?_) (fun p rest' w2 hp hit2 f2 z2 hent => ?_)
 ·refine s_ext rfl (pC_false ?_)
  rw [F151_2_eq]
  unfold F151_2
  have : rest = [] := List.map_eq_nil_iff.1 he
  subst this
  have e : acc = S.used := by simpa [usedOf] using hsum
  show k (ρ 3) w'
  rw [h3,e]
  exact hk w' hf
 ·refine s_ext rfl (pC_true ?_)
  refine hent _ ?_
  obtain ⟨q,l',hq,rfl,rfl⟩ := mapVals_perm_cons hp
  have hqm : q ∈ L.lsh := hsub q (hq.mem_iff.2 List.mem_cons_self)
  have hreach : reach S q.2 := .inl ⟨q.1,h.shp.mem_iff.1 hqm⟩
  have f02 : Fr no w w2 := (hf.or f2).mono (by rintro b (hb | hb); exact .inl hb; exact .inr (by omega))
  have hT := (h.things _ hreach).fr (O' := O) f02 (fun h => h) (fun _ _ h => h) (fun _ _ h => h)
  obtain ⟨sv,hv,cs,hb,h1,h2,_⟩ := hT.ex
  refine s_ext rfl (s_nil (fa131_1 (s_ldb (v := hv) (isAgg23 _) hb rfl ?_)))
  obtain ⟨A,c,rfl,hc⟩ := h2.1.form
  have hs2 : usedOf S rest = (S.things q.2).shown.length + usedOf S l' := by rw [usedOf_perm S hq]; rfl
  refine s_len usl23 (s_add_in (by omega) ?_)
  refine ⟨l'.length,?_,l',acc + (S.things q.2).shown.length,rfl,f02,hit2,?_,?_,h12,by omega⟩
  ·rw [hm,hq.length_eq]; exact Nat.lt_succ_self _
  ·intro p hp; exact hsub p (hq.mem_iff.2 (List.mem_cons_of_mem _ hp))
  ·show i64 _ = i64 _; simp
theorem c_new {room:Int} (hb:¬ (1 ≤ room ∧ room ≤ 1048576) → k (.tuple #[.pointer none,i64 1]) w)
    (hk:1 ≤ room ∧ room ≤ 1048576 → ∀ w' L,DRep w' (w.heap.size + 2) (AD.new room) (fun b => w.heap.size ≤ b ∧ b < w'.heap.size) no L → Fr no w w' → k (.tuple #[ptr (w.heap.size + 2),i64 0]) w') : pFn P 17 [i64 room] w k := by
  refine F17_in _ _ _ ?_
  unfold F17_0
  by_cases h1 : room < 1
  · refine s_lt_t h1 (pG_skf (pG_skf (s_pick_t (pC_true (hb (by omega))))))
  · refine s_lt_f h1 (pG_yes rfl (pG_yes rfl ?_))
    by_cases h2 : room > 1048576
    · exact s_gt_t h2 (s_pick_f (pC_true (hb (by omega))))
    · refine s_gt_f h2 (s_pick_f (pC_false ?_))
      have g1 : Fr no w (w.alloc (.map #[] 0)) := Fr.alloc ..
      have m1 := SMap.made w
      have z1 : (w.alloc (.map #[] 0)).heap.size = w.heap.size + 1 := by simp
      refine mk82 ?_
      generalize w.alloc (.map #[] 0) = w1 at *
      have g2 : Fr no w1 (w1.alloc (.map #[] 0)) := Fr.alloc ..
      have m2 := SMap.made w1
      have z2 : (w1.alloc (.map #[] 0)).heap.size = w1.heap.size + 1 := by simp
      refine mk82 ?_
      have m1' := m1.fr g2 id
      generalize w1.alloc (.map #[] 0) = w2 at *
      let L : Lay := ⟨w.heap.size,w1.heap.size,fun _ => 0,fun _ => .slice none 0 0,.slice none 0 0,.slice none 0 0,[],[]⟩
      refine px_ok (w' := w2) (v := .agg (dcells (AD.new room) L)) (by kernel_rfl) ?_
      refine s_box ?_
      have hd := alloc_new w2 (.cells (dcells (AD.new room) L) 88)
      have g3 : Fr no w2 (w2.alloc (.cells (dcells (AD.new room) L) 88)) := Fr.alloc ..
      have z3 : (w2.alloc (.cells (dcells (AD.new room) L) 88)).heap.size = w2.heap.size + 1 := by simp
      have e2 : w2.heap.size = w.heap.size + 2 := by omega
      show k (.tuple #[ptr w2.heap.size,i64 0]) (w2.alloc (.cells (dcells (AD.new room) L) 88))
      generalize w2.alloc (.cells (dcells (AD.new room) L) 88) = w3 at *
      rw [e2] at hd ⊢
      refine hk (by omega) w3 L ?_ (((g1.or g2).or g3).mono (by rintro b ((hb | hb) | hb) <;> exact hb.elim))
      have nor : ∀ t,¬ reach (AD.new room) t := by rintro t (⟨n,h⟩ | ⟨n,h⟩ | ⟨n,h⟩) <;> cases h
      exact {
        disk := hd
        sh := m1'.fr g3 id
        shp := .refl _
        sf := m2.fr g3 id
        sfp := .refl _
        ne := by show w.heap.size ≠ w1.heap.size; omega
        row := ⟨rfl,.inl ⟨rfl,rfl⟩⟩
        reads := ⟨rfl,.inl ⟨rfl,rfl⟩⟩
        things := fun t ht => absurd ht (nor t)
        inj := fun t u ht => absurd ht (nor t)
        rows := fun t u ht => absurd ht (nor t)
        oD := ⟨by omega,by omega⟩
        osh := ⟨Nat.le_refl _,by show w.heap.size < _; omega⟩
        osf := ⟨by show _ ≤ w1.heap.size; omega,by show w1.heap.size < _; omega⟩
        orow := by rintro b hb; cases hb
        oreads := by rintro b hb; cases hb
        apart := fun b _ h => h
        lt := fun b hb => hb.elim (fun h => h.2) fun h => h.elim }
end
section
variable {w:World} {D:Nat} {S S':AD} {O I:Nat → Prop} {L:Lay} {k:KV}
theorem mapVals_congr {L L':Lay} {l:Names} (h:∀ p ∈ l,L'.loc p.2 = L.loc p.2) : mapVals L' l = mapVals L l := List.map_congr_left fun p hp => by simp [h p hp]
theorem turnVal_congr {f g:Nat → Nat} {c:Turn} (h:∀ n t,c = .mk n t → f t = g t) : turnVal f c = turnVal g c := by
 cases c with
 | mk n t => simp [turnVal,h n t rfl]
 | give a b => rfl
 | take n => rfl
theorem DRep.place (h:DRep w D S O I L) (n T:Nat) (hn:¬ reach S n) (x:Thg) (S1:AD) (e1:S1.shown = S.shown) (e2:S1.safe = S.safe) (e3:S1.row = S.row) (e4:S1.reads = S.reads) (e5:dcells S1 L = dcells S L) (e6:∀ t,t ≠ n → S1.things t = S.things t) (hT:¬ O T) (hI:¬ I T) (hlt:T < w.heap.size) :
    DRep w D S1 (fun b => O b ∨ b = T) I { L with loc := fun i => if i = n then T else L.loc i,trow := fun i => if i = n then .slice none 0 0 else L.trow i } := by
  have hr : ∀ t,reach S1 t ↔ reach S t := by intro t; unfold reach; rw [e1,e2,e3]
  have hne : ∀ t,reach S t → t ≠ n := by rintro t ht rfl; exact hn ht
  exact {
    disk := by show w.heap[D]? = some (.cells (dcells S1 L) 88 (0,0)); rw [e5]; exact h.disk
    sh := by
      have := h.sh
      rwa [← mapVals_congr (L' := { L with loc := fun i => if i = n then T else L.loc i,trow := fun i => if i = n then .slice none 0 0 else L.trow i }) fun p hp => if_neg (hne p.2 (.inl ⟨p.1,h.shp.mem_iff.1 hp⟩))] at this
    shp := by rw [e1]; exact h.shp
    sf := by
      have := h.sf
      rwa [← mapVals_congr (L' := { L with loc := fun i => if i = n then T else L.loc i,trow := fun i => if i = n then .slice none 0 0 else L.trow i }) fun p hp => if_neg (hne p.2 (.inr (.inl ⟨p.1,h.sfp.mem_iff.1 hp⟩)))] at this
    sfp := by rw [e2]; exact h.sfp
    ne := h.ne
    row := by
      rw [e3]
      have : S.row.map (turnVal fun i => if i = n then T else L.loc i) = S.row.map (turnVal L.loc) := List.map_congr_left fun c hc => turnVal_congr fun m t e => if_neg (hne t (.inr (.inr ⟨m,e ▸ hc⟩)))
      show w.ownsRow 0 _ 1 L.rowv _ (S.row.map (turnVal fun i => if i = n then T else L.loc i))
      rw [this]; exact h.row
    reads := by rw [e4]; exact h.reads
    things := fun t ht => by
      have ht' := (hr t).1 ht
      have hx := hne t ht'
      simp only [if_neg hx,e6 t hx]
      exact (h.things t ht').mono (O := O) (fun b => .inl) fun b => id
    inj := fun t u ht hu e => by
      have ht' := (hr t).1 ht
      have hu' := (hr u).1 hu
      simp only [if_neg (hne t ht'),if_neg (hne u hu')] at e
      exact h.inj t u ht' hu' e
    rows := fun t u ht hu hne' => by
      have ht' := (hr t).1 ht
      have hu' := (hr u).1 hu
      simp only [if_neg (hne t ht'),if_neg (hne u hu')]
      exact h.rows t u ht' hu' hne'
    oD := .inl h.oD
    osh := .inl h.osh
    osf := .inl h.osf
    orow := fun b hb => .inl (h.orow b hb)
    oreads := fun b hb => .inl (h.oreads b hb)
    apart := by
      rintro b (hb | rfl) hi
      · exact h.apart b hb hi
      · exact hI hi
    lt := by
      rintro b ((hb | rfl) | hb)
      · exact h.lt b (.inl hb)
      · exact hlt
      · exact h.lt b (.inr hb) }
theorem c_createC {b1 b2:Nat} {name:ByteArray} (h:DRep w D S O I L) (hl:S.row.length ≤ 1099511627776) (hn:¬ reach S S.next) (hb1:w.heap[b1]? = some (.cells #[ptr D] 24 (0,0))) (hb2:w.heap[b2]? = some (.cells #[.string name] 9 (0,0)))
    (hk:∀ w' O' I' L',Nx w D O I w' (S.made name) O' I' L' → k (.tuple #[]) w') : pFn P 127 [ptr b1,ptr b2] w k := by
  refine F127_in _ _ _ _ ?_
  unfold F127_0
  refine s_ldb (v := ptr D) (isAgg24 _) hb1 rfl ?_
  refine s_ldb (v := .string name) (isAgg9 _) hb2 rfl ?_
  refine px_ok (w' := w) (v := .agg #[.slice none 0 0,.slice none 0 0,.slice none 0 0]) (by kernel_rfl) ?_
  refine s_box ?_
  have hT := alloc_new w (.cells #[.slice none 0 0,.slice none 0 0,.slice none 0 0] 131)
  have f1 := Fr.alloc no w (.cells #[.slice none 0 0,.slice none 0 0,.slice none 0 0] 131)
  have z1 : (w.alloc (.cells #[.slice none 0 0,.slice none 0 0,.slice none 0 0] 131)).heap.size = w.heap.size + 1 := by simp
  show px P _ (w.alloc (.cells #[.slice none 0 0,.slice none 0 0,.slice none 0 0] 131)) _
  generalize w.alloc (.cells #[.slice none 0 0,.slice none 0 0,.slice none 0 0] 131) = w1 at *
  refine px_ok (w' := w1) (v := .agg #[.string name,ptr w.heap.size]) (by kernel_rfl) ?_
  refine s_mki cc204 ?_
  have h1 := h.fr f1 (fun b hb => hb.elim)
  have hTO : ¬ O w.heap.size := fun hO => absurd (h.lt _ (.inl hO)) (Nat.lt_irrefl _)
  have hTI : ¬ I w.heap.size := fun hO => absurd (h.lt _ (.inr hO)) (Nat.lt_irrefl _)
  have hP := h1.place S.next w.heap.size hn Thg.empty { S.setThing S.next Thg.empty with next := S.next + 1 } rfl rfl rfl rfl rfl (fun t ht => by simp [AD.setThing,ht]) hTO hTI (by omega)
  have hTR : TRep w1 (fun b => O b ∨ b = w.heap.size) I w.heap.size (.slice none 0 0) Thg.empty :=
    ⟨⟨_,_,[],hT,⟨SBytes.nil _,by rintro b hb; cases hb⟩,⟨SBytes.nil _,by rintro b hb; cases hb⟩,⟨rfl,.inl ⟨rfl,rfl⟩⟩,.nil⟩,.inr rfl,by rintro b hb; cases hb⟩
  have hcall := c_rename (k := fun _ w' => k (.tuple #[]) w') hP (.mk name S.next) hl (by intro a b e; cases e) ?_ ?_
  · simpa [turnVal,ptr] using hcall
  · intro n t e hr
    injection e with e1 e2
    subst e2
    refine ⟨?_,?_⟩
    · simp only [if_true,AD.setThing]; exact hTR
    · intro u hu
      have hu' : reach S u := hu
      have hne : u ≠ S.next := by rintro rfl; exact hn hu'
      simp only [if_neg hne,if_true]
      refine ⟨fun e => hTO (e ▸ (h.things u hu').own),fun b hb hb' => by cases hb'⟩
  · intro w' O' L' hx
    refine hk w' O' I L' ⟨hx.rep,?_,fun b hb => hx.oo b (.inl hb),fun b => id,?_,fun b => .inl⟩
    · refine (f1.or hx.fr).mono ?_
      rintro b (hb | hb | rfl)
      · exact hb.elim
      · exact .inl hb
      · exact .inr (Nat.le_refl _)
    · intro b hb
      rcases hx.on b hb with (hb | rfl) | hb
      · exact .inl hb
      · exact .inr (Nat.le_refl _)
      · exact .inr (by omega)
theorem s_lenm {m:Nat} {l:List (ByteArray × Value)} (h:SMap w m l) (hk:k (i64 l.length) w) : px P (bSem .len #[82] 3 #[.map (some m)]) w k := by
 obtain ⟨es,clock,hm,hs,hl⟩ := h
 have e : es.size = l.length := by have := congrArg List.length hl; simpa using this
 refine px_ok (w' := w) ?_ hk
 simp [bSem,Builtin.len_,goInt,run_underlying underlying82,MapKept.run_getObj_map hm,Result.andThen,e]
theorem Nx.from {w0:World} {w':World} {O' I':Nat → Prop} {L':Lay} (hf:Fr no w0 w) (h:Nx w D O I w' S' O' I' L') (ho:∀ b,O b ∨ I b → b < w0.heap.size) : Nx w0 D O I w' S' O' I' L' where
 rep := h.rep
 fr := (hf.or h.fr).mono fun b hb => hb.elim (fun h => h.elim) .inl
 oo := h.oo
 ii := h.ii
 on := fun b hb => (h.on b hb).imp id (Nat.le_trans hf.size)
 in_ := fun b hb => (h.in_ b hb).imp id (Nat.le_trans hf.size)
theorem look_vals (S:AD) (name:ByteArray) : S.look name = 50 ∨ S.look name = 51 ∨ S.look name = 53 ∨ (S.look name = 0 ∧ alGet S.shown name = some (S.of name)) := by
 unfold AD.look AD.of
 split
 ·exact .inl rfl
 ·split
  ·exact .inr (.inl rfl)
  ·cases alGet S.shown name with
   | none => exact .inr (.inr (.inl rfl))
   | some t => exact .inr (.inr (.inr ⟨rfl,rfl⟩))
theorem c_create {c:Nat} (h:DRep w D S O I L) (ok:S.Ok c) (name:ByteArray) (hs:name.size ≤ 9223372036854775807)
    (hk:∀ w' O' I' L',Nx w D O I w' (S.create name).2 O' I' L' → k (i64 (S.create name).1) w') : pFn P 73 [ptr D,.string name] w k := by
  refine F73_in _ _ _ _ ?_
  unfold F73_0
  have hz := h.lt
  refine s_box ?_
  have f1 := Fr.alloc no w (.cells #[ptr D] 24)
  have b1 := alloc_new w (.cells #[ptr D] 24)
  have z1 : (w.alloc (.cells #[ptr D] 24)).heap.size = w.heap.size + 1 := by simp
  show px P _ (w.alloc (.cells #[ptr D] 24)) _
  generalize w.alloc (.cells #[ptr D] 24) = w1 at *
  refine s_box ?_
  have f2 := Fr.alloc no w1 (.cells #[.string name] 9)
  have b2 := alloc_new w1 (.cells #[.string name] 9)
  have z2 : (w1.alloc (.cells #[.string name] 9)).heap.size = w1.heap.size + 1 := by simp
  have b1' := f2.get b1 id
  show px P _ (w1.alloc (.cells #[.string name] 9)) _
  generalize w1.alloc (.cells #[.string name] 9) = w2 at *
  have f12 : Fr no w w2 := (f1.or f2).mono fun b hb => hb.elim (fun h => h.elim) fun h => h.elim
  have h2 := h.fr f12 fun b hb => hb.elim
  have hN0 : Nx w D O I w2 S O I L := Nx.from f12 (Nx.refl h2) hz
  refine s_ldb (v := ptr D) (isAgg24 _) b1' rfl ?_
  refine s_ldb (v := .string name) (isAgg9 _) b2 rfl ?_
  refine c_look h2 ok.room.1 name hs ?_
  refine s_ext rfl (s_ext rfl ?_)
  have go : S.look name = 53 → ∀ ρ r,ρ 2 = ptr w.heap.size → ρ 3 = ptr w1.heap.size → ρ 7 = i64 r → r = (if S.shown.length ≥ 256 then 56 else 0) → F73A k [1,1,1,1] ρ w2 := by
    intro hl ρ r e2 e3 e7 er
    rw [F73_1_eq]
    unfold F73_1
    rw [e2,e3,e7]
    refine s_ldb (v := ptr D) (isAgg24 _) b1' rfl (s_mkf ?_)
    have ec : S.create name = S.stroke 1 r (fun S => S.made name) := by
      unfold AD.create
      rw [if_neg (by rw [hl]; decide),if_pos hl,er]
    refine c_stroke (act := fun S => S.made name) 1 r _ h2 ⟨ok.strokes.1,by have := ok.strokes.2; have := ok.small; omega⟩ ⟨ok.since.1,by have := ok.since.2; have := ok.small; omega⟩ (fun T => rfl) ?_ ?_
    · intro _ w3 hR f3 K hK
      have g1 : w3.heap[w.heap.size]? = some (.cells #[ptr D] 24 (0,0)) := f3.get b1' (by rintro e; exact absurd (hz D (.inl h.oD)) (by omega))
      have g2 : w3.heap[w1.heap.size]? = some (.cells #[.string name] 9 (0,0)) := f3.get b2 (by rintro e; exact absurd (hz D (.inl h.oD)) (by omega))
      exact c_createC hR (by have := ok.row; have := ok.small; show S.row.length ≤ _; omega) (fun hr => absurd (ok.next _ hr) (Nat.lt_irrefl _)) g1 g2 fun w' O' I' L' hx => hK _ w' O' I' L' hx
    · intro w' O' I' L' hx
      rw [← ec]
      exact hk w' O' I' L' (by rw [ec]; exact Nx.from f12 hx hz)
  rcases look_vals S name with hl | hl | hl | ⟨hl,_⟩
  · have ec : S.create name = (50,S) := by unfold AD.create; rw [hl]; rfl
    rw [hl]
    refine s_eqi_f (by decide) (pC_false (s_eqi_f (by decide) (pC_false ?_)))
    have := hk w2 O I L (by rw [ec]; exact hN0)
    rw [ec] at this; exact this
  · have ec : S.create name = (51,S) := by unfold AD.create; rw [hl]; rfl
    rw [hl]
    refine s_eqi_f (by decide) (pC_false (s_eqi_f (by decide) (pC_false ?_)))
    have := hk w2 O I L (by rw [ec]; exact hN0)
    rw [ec] at this; exact this
  · rw [hl]
    refine s_eqi_f (by decide) (pC_false (s_eqi_t rfl (pC_true ?_)))
    refine s_ldb (v := ptr D) (isAgg24 _) b1' rfl ?_
    refine s_nil (fa88_1 (s_ldb (v := .map (some L.sh)) (isAgg82 _) h2.disk rfl (s_lenm h2.sh ?_)))
    have e : (mapVals L L.lsh).length = S.shown.length := by rw [← h.shp.length_eq]; simp [mapVals]
    rw [e]
    by_cases hge : S.shown.length ≥ 256
    · refine s_ge_t (by omega) (pC_true (go hl _ 56 rfl rfl rfl (by rw [if_pos hge])))
    · refine s_ge_f (by omega) (pC_false (go hl _ 0 rfl rfl rfl (by rw [if_neg hge])))
  · have ec : S.create name = (52,S) := by unfold AD.create; rw [hl]; rfl
    rw [hl]
    refine s_eqi_t rfl (pC_true ?_)
    have := hk w2 O I L (by rw [ec]; exact hN0)
    rw [ec] at this; exact this
theorem c_removeC {b1 b2:Nat} {name:ByteArray} (h:DRep w D S O I L) (hl:S.row.length ≤ 1099511627776) (hb1:w.heap[b1]? = some (.cells #[ptr D] 24 (0,0))) (hb2:w.heap[b2]? = some (.cells #[.string name] 9 (0,0)))
    (hk:∀ w' O' L',Nx w D O I w' (S.turned (.take name)) O' I L' → k (.tuple #[]) w') : pFn P 124 [ptr b1,ptr b2] w k := by
  refine F124_in _ _ _ _ ?_
  unfold F124_0
  refine s_ldb (v := ptr D) (isAgg24 _) hb1 rfl ?_
  refine s_ldb (v := .string name) (isAgg9 _) hb2 rfl ?_
  refine s_mki cc202 ?_
  have := c_rename (k := fun _ w' => k (.tuple #[]) w') h (.take name) hl (by intro a b e; cases e) (by intro n t e; cases e) fun w' O' L' hx => hk w' O' L' hx
  exact this
theorem c_renameC {b1 b2 b3:Nat} {a b:ByteArray} (h:DRep w D S O I L) (hl:S.row.length ≤ 1099511627776) (hb1:w.heap[b1]? = some (.cells #[.string a] 9 (0,0))) (hb2:w.heap[b2]? = some (.cells #[.string b] 9 (0,0)))
    (hb3:w.heap[b3]? = some (.cells #[ptr D] 24 (0,0))) (hg:alGet S.shown a ≠ none)
    (hk:∀ w' O' L',Nx w D O I w' (if a = b then S else S.turned (.give a b)) O' I L' → k (.tuple #[]) w') : pFn P 131 [ptr b1,ptr b2,ptr b3] w k := by
  refine F131_in _ _ _ _ _ ?_
  unfold F131_0
  refine s_ldb (v := .string a) (isAgg9 _) hb1 rfl ?_
  refine s_ldb (v := .string b) (isAgg9 _) hb2 rfl ?_
  refine s_nes ?_
  by_cases e : a = b
  · rw [decide_eq_true e]
    refine pC_false (hk w O L ?_)
    rw [if_pos e]; exact Nx.refl h
  · rw [decide_eq_false e]
    refine pC_true ?_
    refine s_ldb (v := ptr D) (isAgg24 _) hb3 rfl ?_
    refine s_ldb (v := .string a) (isAgg9 _) hb1 rfl ?_
    refine s_ldb (v := .string b) (isAgg9 _) hb2 rfl ?_
    refine px_ok (w' := w) (v := .agg #[.string a,.string b]) (by kernel_rfl) ?_
    refine s_mki cc207 ?_
    have := c_rename (k := fun _ w' => k (.tuple #[]) w') h (.give a b) hl (by intro a' b' e'; injection e' with e1 e2; subst e1; exact hg) (by intro n t e; cases e) fun w' O' L' hx => hk w' O' L' (by rw [if_neg e]; exact hx)
    exact this
theorem c_remove {c:Nat} (h:DRep w D S O I L) (ok:S.Ok c) (name:ByteArray) (hs:name.size ≤ 9223372036854775807)
    (hk:∀ w' O' I' L',Nx w D O I w' (S.remove name).2 O' I' L' → k (i64 (S.remove name).1) w') : pFn P 70 [ptr D,.string name] w k := by
  refine F70_in _ _ _ _ ?_
  unfold F70_0
  have hz := h.lt
  refine s_box ?_
  have f1 := Fr.alloc no w (.cells #[ptr D] 24)
  have b1 := alloc_new w (.cells #[ptr D] 24)
  have z1 : (w.alloc (.cells #[ptr D] 24)).heap.size = w.heap.size + 1 := by simp
  show px P _ (w.alloc (.cells #[ptr D] 24)) _
  generalize w.alloc (.cells #[ptr D] 24) = w1 at *
  refine s_box ?_
  have f2 := Fr.alloc no w1 (.cells #[.string name] 9)
  have b2 := alloc_new w1 (.cells #[.string name] 9)
  have z2 : (w1.alloc (.cells #[.string name] 9)).heap.size = w1.heap.size + 1 := by simp
  show px P _ (w1.alloc (.cells #[.string name] 9)) _
  generalize w1.alloc (.cells #[.string name] 9) = w2 at *
  have b1' := f2.get b1 id
  have f12 : Fr no w w2 := (f1.or f2).mono fun b hb => hb.elim (fun h => h.elim) fun h => h.elim
  have h2 := h.fr f12 fun b hb => hb.elim
  have hN0 : Nx w D O I w2 S O I L := Nx.from f12 (Nx.refl h2) hz
  refine s_ldb (v := ptr D) (isAgg24 _) b1' rfl ?_
  refine s_ldb (v := .string name) (isAgg9 _) b2 rfl ?_
  refine c_look h2 ok.room.1 name hs ?_
  refine s_ext rfl (s_ext rfl ?_)
  by_cases hl : S.look name = 0
  · rw [hl]
    refine s_nei_f rfl (pC_false ?_)
    refine s_ldb (v := ptr D) (isAgg24 _) b1' rfl (s_mkf ?_)
    have ec : S.remove name = S.stroke 0 0 (fun T => T.turned (.take name)) := by unfold AD.remove; rw [if_neg (by simp [hl])]
    refine c_stroke (act := fun T => T.turned (.take name)) 0 0 _ h2 ⟨ok.strokes.1,by have := ok.strokes.2; have := ok.small; omega⟩ ⟨ok.since.1,by have := ok.since.2; have := ok.small; omega⟩ (fun T => rfl) ?_ ?_
    · intro _ w3 hR f3 K hK
      have g1 : w3.heap[w.heap.size]? = some (.cells #[ptr D] 24 (0,0)) := f3.get b1' (by rintro e; exact absurd (hz D (.inl h.oD)) (by omega))
      have g2 : w3.heap[w1.heap.size]? = some (.cells #[.string name] 9 (0,0)) := f3.get b2 (by rintro e; exact absurd (hz D (.inl h.oD)) (by omega))
      exact c_removeC hR (by have := ok.row; have := ok.small; show S.row.length ≤ _; omega) g1 g2 fun w' O' L' hx => hK _ w' O' _ L' hx
    · intro w' O' I' L' hx
      rw [← ec]
      exact hk w' O' I' L' (by rw [ec]; exact Nx.from f12 hx hz)
  · have ec : S.remove name = (S.look name,S) := by unfold AD.remove; rw [if_pos hl]
    refine s_nei_t hl (pC_true ?_)
    have := hk w2 O I L (by rw [ec]; exact hN0)
    rw [ec] at this; exact this
theorem c_renameF {c:Nat} (h:DRep w D S O I L) (ok:S.Ok c) (a b:ByteArray) (ha:a.size ≤ 9223372036854775807) (hb:b.size ≤ 9223372036854775807)
    (hk:∀ w' O' I' L',Nx w D O I w' (S.rename a b).2 O' I' L' → k (i64 (S.rename a b).1) w') : pFn P 76 [ptr D,.string a,.string b] w k := by
  refine F76_in _ _ _ _ _ ?_
  unfold F76_0
  have hz := h.lt
  refine s_box ?_
  have f1 := Fr.alloc no w (.cells #[ptr D] 24)
  have b1 := alloc_new w (.cells #[ptr D] 24)
  have z1 : (w.alloc (.cells #[ptr D] 24)).heap.size = w.heap.size + 1 := by simp
  show px P _ (w.alloc (.cells #[ptr D] 24)) _
  generalize w.alloc (.cells #[ptr D] 24) = w1 at *
  refine s_box ?_
  have f2 := Fr.alloc no w1 (.cells #[.string a] 9)
  have b2 := alloc_new w1 (.cells #[.string a] 9)
  have z2 : (w1.alloc (.cells #[.string a] 9)).heap.size = w1.heap.size + 1 := by simp
  show px P _ (w1.alloc (.cells #[.string a] 9)) _
  generalize w1.alloc (.cells #[.string a] 9) = w2 at *
  refine s_box ?_
  have f3 := Fr.alloc no w2 (.cells #[.string b] 9)
  have b3 := alloc_new w2 (.cells #[.string b] 9)
  have z3 : (w2.alloc (.cells #[.string b] 9)).heap.size = w2.heap.size + 1 := by simp
  show px P _ (w2.alloc (.cells #[.string b] 9)) _
  generalize w2.alloc (.cells #[.string b] 9) = w3 at *
  have b1' := f3.get (f2.get b1 id) id
  have b2' := f3.get b2 id
  have f13 : Fr no w w3 := ((f1.or f2).or f3).mono fun b hb => hb.elim (fun hb => hb.elim (fun h => h.elim) fun h => h.elim) fun h => h.elim
  have h3 := h.fr f13 fun b hb => hb.elim
  have hN0 : Nx w D O I w3 S O I L := Nx.from f13 (Nx.refl h3) hz
  refine s_ldb (v := ptr D) (isAgg24 _) b1' rfl ?_
  refine c_off h3.disk ok.room.1 ?_
  have done : ∀ r,S.rename a b = (r,S) → k (i64 r) w3 := by
    intro r ec
    have := hk w3 O I L (by rw [ec]; exact hN0)
    rw [ec] at this; exact this
  cases ho : S.off with
  | true => exact pC_true (done 50 (by unfold AD.rename; simp [ho]))
  | false =>
    refine pC_false (s_ldb (v := .string a) (isAgg9 _) b2' rfl (c_isName a ha (s_not ?_)))
    cases hn : isName a with
    | false => exact pG_skf (pG_skf (pG_skf (s_pick_t (pC_true (done 51 (by unfold AD.rename; simp [ho,hn]))))))
    | true =>
      refine pG_yes rfl (s_ldb (v := .string b) (isAgg9 _) b3 rfl (pG_yes rfl (c_isName b hb (pG_yes rfl (s_not (s_pick_f ?_))))))
      cases hn' : isName b with
      | false => exact pC_true (done 51 (by unfold AD.rename; simp [ho,hn,hn']))
      | true =>
        refine pC_false ?_
        refine ⟨fun w' => w'.heap[w.heap.size]? = some (.cells #[ptr D] 24 (0,0)) ∧ w'.heap[w1.heap.size]? = some (.cells #[.string a] 9 (0,0)) ∧ w'.heap[D]? = some (.cells (dcells S L) 88 (0,0)) ∧ SMap w' L.sh (mapVals L L.lsh),⟨b1',b2',h3.disk,h3.sh⟩,?_⟩
        refine q_of (ptr D) (fun w_ hS => s_ldb (isAgg24 _) hS.1 rfl ⟨rfl,rfl⟩) ?_
        refine q_of _ (fun w_ hS => s_nil ⟨rfl,rfl⟩) ?_
        refine q_of _ (fun w_ hS => fa88_1 ⟨rfl,rfl⟩) ?_
        refine q_of (.map (some L.sh)) (fun w_ hS => s_ldb (isAgg82 _) hS.2.2.1 rfl ⟨rfl,rfl⟩) ?_
        refine q_of (.string a) (fun w_ hS => s_ldb (isAgg9 _) hS.2.1 rfl ⟨rfl,rfl⟩) ?_
        refine q_of _ (fun w_ hS => lk82 hS.2.2.2 a (zeroValue132 _) ⟨rfl,rfl⟩) ?_
        rw [h.get]
        have f4 : Fr no w3 w3.drew := Fr.drew _ _
        have f14 : Fr no w w3.drew := (f13.or f4).mono fun b hb => hb.elim (fun h => h.elim) fun h => h.elim
        have h4 : DRep w3.drew D S O I L := h3.fr f4 fun b hb => hb.elim
        cases hg : alGet S.shown a with
        | none =>
          refine q_of _ (fun w_ hS => s_eqpn upt132 ⟨rfl,rfl⟩) (pC_true ?_)
          have ec : S.rename a b = (53,S) := by unfold AD.rename; simp [ho,hn,hn',hg]
          have := hk w3.drew O I L (by rw [ec]; exact Nx.from f14 (Nx.refl h4) hz)
          rw [ec] at this; exact this
        | some t =>
          refine q_of _ (fun w_ hS => s_eqpn upt132 ⟨rfl,rfl⟩) (pC_false ?_)
          refine s_ldb (v := ptr D) (isAgg24 _) (f4.get b1' id) rfl (s_mkf ?_)
          have ec : S.rename a b = S.stroke 0 0 (fun T => if a = b then T else T.turned (.give a b)) := by unfold AD.rename; simp [ho,hn,hn',hg]
          refine c_stroke (act := fun T => if a = b then T else T.turned (.give a b)) 0 0 _ h4 ⟨ok.strokes.1,by have := ok.strokes.2; have := ok.small; omega⟩ ⟨ok.since.1,by have := ok.since.2; have := ok.small; omega⟩ (fun T => by show (if a = b then T else T.turned (.give a b)).off = _; split <;> rfl) ?_ ?_
          · intro _ w5 hR f5 K hK
            have hD := hz D (.inl h.oD)
            have g1 : w5.heap[w.heap.size]? = some (.cells #[ptr D] 24 (0,0)) := f5.get (f4.get b1' id) (by omega)
            have g2 : w5.heap[w1.heap.size]? = some (.cells #[.string a] 9 (0,0)) := f5.get (f4.get b2' id) (by omega)
            have g3 : w5.heap[w2.heap.size]? = some (.cells #[.string b] 9 (0,0)) := f5.get (f4.get b3 id) (by omega)
            exact c_renameC hR (by have := ok.row; have := ok.small; show S.row.length ≤ _; omega) g2 g3 g1 (by show alGet S.shown a ≠ none; rw [hg]; simp) fun w' O' L' hx => hK _ w' O' _ L' hx
          · intro w' O' I' L' hx
            rw [← ec]
            exact hk w' O' I' L' (by rw [ec]; exact Nx.from f14 hx hz)
theorem c_sync {c:Nat} (h:DRep w D S O I L) (ok:S.Ok c) (name:ByteArray) (hs:name.size ≤ 9223372036854775807)
    (hk:∀ w' O' I' L',Nx w D O I w' (S.sync name).2 O' I' L' → k (i64 (S.sync name).1) w') : pFn P 75 [ptr D,.string name] w k := by
  refine F75_in _ _ _ _ ?_
  unfold F75_0
  refine c_look h ok.room.1 name hs ?_
  refine s_ext rfl (s_ext rfl ?_)
  by_cases hl : S.look name = 0
  · have hg : alGet S.shown name = some (S.of name) := by
      rcases look_vals S name with h | h | h | h
      · rw [h] at hl; cases hl
      · rw [h] at hl; cases hl
      · rw [h] at hl; cases hl
      · exact h.2
    have hr : reach S (S.of name) := .inl ⟨name,mem_of_alGet hg⟩
    rw [if_pos hl,hl]
    refine s_nei_f rfl (pC_false (s_mkf ?_))
    have ec : S.sync name = S.stroke 2 0 (fun T => T.setThing (S.of name) (T.things (S.of name)).settle) := by unfold AD.sync; rw [if_neg (by simp [hl])]
    refine c_stroke (act := fun T => T.setThing (S.of name) (T.things (S.of name)).settle) 2 0 _ h ⟨ok.strokes.1,by have := ok.strokes.2; have := ok.small; omega⟩ ⟨ok.since.1,by have := ok.since.2; have := ok.small; omega⟩ (fun T => rfl) ?_ ?_
    · intro _ w3 hR f3 K hK
      exact c_settle hR hr fun w' O' I' L' hx => hK _ w' O' I' L' hx
    · intro w' O' I' L' hx
      rw [← ec]
      exact hk w' O' I' L' (by rw [ec]; exact hx)
  · have ec : S.sync name = (S.look name,S) := by unfold AD.sync; rw [if_pos hl]
    refine s_nei_t hl (pC_true ?_)
    have := hk w O I L (by rw [ec]; exact Nx.refl h)
    rw [ec] at this; exact this
end
end Go.Proofs.YteeeggphkhimcaaGreatDoor
