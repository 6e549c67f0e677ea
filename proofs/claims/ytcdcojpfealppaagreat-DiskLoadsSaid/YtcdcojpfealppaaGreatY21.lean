/- Put together by a program (wip/tools/shake.py): ROps9,ROps10,RLoad,ROps11. -/
import Derived.Test.YtcdcojpfealppaaGreatY20
import Derived.Test.YtcdcojpfealppaaGreatY15
set_option linter.unusedVariables false
set_option linter.unusedSimpArgs false
set_option maxRecDepth 100000
namespace Go.Proofs.YtcdcojpfealppaaGreat
open Go Go.Proofs Go.RowKit Go.Proofs.XRed Go.Proofs.XHeap Go.Proofs.XMaps Go.Proofs.XSlices Go.Proofs.XDisk Go.Proofs.XCalls Go.Proofs.XSep Tryz
section
variable {w w0:World} {D:Nat} {S S':AD} {O I:Nat → Prop} {L L':RLay} {k:KV}
set_option maxHeartbeats 1000000 in
theorem r_read {c:Nat} (h:RRep w D S O I L) (ok:S.Ok c) (name:ByteArray) (a n:Int) (hn:-9223372036854775808 ≤ a ∧ a ≤ 9223372036854775807)
    (hk:∀ w' O' I' L' v,RNx w D O I w' (S.read name a n).2.2 O' I' L' → SBytes w' v (S.read name a n).2.1 → (∀ b,sblk v = some b → w.heap.size ≤ b ∧ b < w'.heap.size ∧ ¬ O' b) → k (.tuple #[v,i64 (S.read name a n).1]) w') : pFn P 34 [ptr D,.string name,i64 a,i64 n] w k := by
  have hlen := shown_len ok
  refine F34_in _ _ _ _ _ _ ?_
  unfold F34_0
  have fail : ∀ r,S.read name a n = (r,[],S) → k (.tuple #[.slice none 0 0,i64 r]) w := by
    intro r ec
    have := hk w O I L (.slice none 0 0) (by rw [ec]; exact RNx.refl h) (by rw [ec]; exact SBytes.nil _) (by rintro b hb; cases hb)
    rw [ec] at this; exact this
  refine r_there h (by omega) (shown_nd ok) name (fun hl i => ?_) fun hl i hi he => ?_
  · exact s_ext rfl (s_ext rfl (s_nei_t hl (pC_true (fail _ (by unfold AD.read; rw [if_pos hl])))))
  · refine s_ext rfl (s_ext rfl (s_nei_f rfl (pC_false ?_)))
    refine s_nil (fa62_2 (s_ldb (v := L.nowv) (isAgg59 _) h.disk rfl (nm_thing h.now.1 hi fun p q => ?_)))
    have e2 : S.shown[i].2 = S.of name := by rw [he]
    rw [e2]
    have hreach : reach S (S.of name) := .inl ⟨name,by rw [← he]; exact List.getElem_mem hi⟩
    have hr : L.has (S.of name) := h.sub _ hreach
    have hTok := (ok.thing _ hreach).ok.len.1
    have el : S.bytes name = (S.things (S.of name)).shown := rfl
    obtain ⟨sv,hv,ps,hbT,_,hsh,_⟩ := (h.things _ hr).ex
    obtain ⟨A,c',ev,hc'⟩ := hsh.1.form
    subst ev
    have beyond : (a < 0 ∨ n < 0 ∨ a > (S.bytes name).length ∨ n > (S.bytes name).length - a) → k (.tuple #[.slice none 0 0,i64 54]) w := fun hbad =>
      fail 54 (by unfold AD.read; rw [if_neg (by simp [hl]),if_pos hbad])
    refine s_nil (fa156_1 (s_ldb (v := .slice A (S.things (S.of name)).shown.length c') (isAgg36 _) hbT rfl ?_))
    by_cases a0 : a < 0
    · refine s_lt_t a0 ?_
      repeat (first | refine pG_skf ?_ | refine pG_un ?_)
      refine s_pick_t ?_
      repeat (first | refine pG_skf ?_ | refine pG_un ?_)
      refine s_pick_t ?_
      repeat (first | refine pG_skf ?_ | refine pG_un ?_)
      exact s_pick_t (pC_true (beyond (.inl a0)))
    refine s_lt_f a0 (pG_yes rfl (pG_yes rfl ?_))
    by_cases n0 : n < 0
    · refine s_lt_t n0 (s_pick_f ?_)
      repeat (first | refine pG_skf ?_ | refine pG_un ?_)
      refine s_pick_t ?_
      repeat (first | refine pG_skf ?_ | refine pG_un ?_)
      exact s_pick_t (pC_true (beyond (.inr (.inl n0))))
    refine s_lt_f n0 (s_pick_f ?_)
    refine pG_yes rfl (pG_yes rfl (pG_yes rfl (s_len usl36 (pG_yes rfl ?_))))
    by_cases a1 : a > (S.things (S.of name)).shown.length
    · refine s_gt_t a1 (s_pick_f ?_)
      repeat (first | refine pG_skf ?_ | refine pG_un ?_)
      exact s_pick_t (pC_true (beyond (.inr (.inr (.inl a1)))))
    refine s_gt_f a1 (s_pick_f ?_)
    refine pG_yes rfl (pG_yes rfl (pG_yes rfl (s_len usl36 (pG_yes rfl (pG_yes rfl (s_sub_in (by omega) (pG_yes rfl ?_)))))))
    by_cases n1 : n > (S.things (S.of name)).shown.length - a
    · exact s_gt_t n1 (s_pick_f (pC_true (beyond (.inr (.inr (.inr n1))))))
    refine s_gt_f n1 (s_pick_f (pC_false ?_))
    have hreads := ok.reads
    have hsm := ok.small
    refine s_nil (fa62_8 (s_ldb (v := L.toldv) (isAgg56 _) h.disk rfl ?_))
    refine px_ok (w' := w) (v := .agg #[.string name,i64 a,i64 n]) (by kernel_rfl) ?_
    refine pl56 h.told (by intro u hu; simp at hu; rcases hu with rfl | rfl | rfl <;> rfl) (by omega) (Nat.zero_le _) fun u2 v' w2 h2 f2 hb2 => ?_
    have hRD : ∀ {b},sblk L.toldv = some b → b ≠ D := by
      rintro b hb rfl
      obtain ⟨c1,h1⟩ := own_obj h.told hb
      exact absurd (two_types h1 h.disk) (by decide)
    have hd2 := f2.get h.disk (fun hb => hRD hb.symm rfl)
    refine s_nil (fa62_8 (s_st (sizeOf56 _) (own_one h2).1 (own_one h2).2 hd2 (by show 10 < 11; decide) ?_))
    have hd3 := set_same hd2 10 v'
    have f3 : Fr (fun b => b = D) w2 (w2.setCell ⟨D,10,none⟩ v') := Fr.setCell w2 ⟨D,10,none⟩ v'
    have z3 : (w2.setCell ⟨D,10,none⟩ v').heap.size = w2.heap.size := by simp [World.setCell]
    show px P _ (w2.setCell ⟨D,10,none⟩ v') _
    generalize w2.setCell ⟨D,10,none⟩ v' = w3 at *
    have f13 : Fr (fun b => b = D ∨ sblk L.toldv = some b) w w3 := (f2.mono fun b hb => .inl (.inr hb.symm)).trans f3 fun b hb => .inl (.inl hb)
    have hOwn : ∀ b,(b = D ∨ sblk L.toldv = some b) → ROwn L D b := fun b hb => hb.imp id .inr
    have hv'D : ∀ b,sblk v' = some b → b ≠ D := by
      rintro b hb rfl
      obtain ⟨c1,h1⟩ := own_obj h2 hb
      exact absurd (two_types h1 hd2) (by decide)
    have hv'lt : ∀ b,sblk v' = some b → b < w3.heap.size := fun b hb => by have := (own_blk_lt h2 hb).2; omega
    have hz := f13.size
    have hnI : ∀ b,I b → ¬ (b = D ∨ sblk L.toldv = some b) := fun b hb e => h.apart b (h.own (hOwn b e)) hb
    have hx3 : RNx w D O I w3 { S with reads := S.reads ++ [⟨name,a,n⟩] } (fun b => O b ∨ sblk v' = some b) I { L with toldv := v' } := by
      refine ⟨h.plain (L' := { L with toldv := v' }) f13 (fun b hb => .inl (hOwn b hb)) hd3 rfl h.sub rfl rfl rfl (Nat.le_refl _) (h.now.fr f13 hnI) (h.bef.fr f13 hnI) (own_fr h.turns f13 ?_) ?_ (fun b => .inl) (fun b => id) (fun b hb => .inl (h.oturn b hb)) (fun b hb => .inr hb) ?_ ?_,f13.mono fun b hb => .inl (h.own (hOwn b hb)),fun b => .inl,fun b => id,fun b hb => hb.elim .inl fun hb => (hb2 b hb).elim (fun e => .inl (h.otold b e)) fun e => .inr e.1,fun b => .inl⟩
      · rintro b hb (rfl | e)
        · obtain ⟨c1,h1⟩ := own_obj h.turns hb; exact absurd (two_types h1 h.disk) (by decide)
        · obtain ⟨c1,h1⟩ := own_obj h.turns hb
          obtain ⟨c2,h3⟩ := own_obj h.told e
          exact absurd (two_types h1 h3) (by decide)
      · have h5 := own_fr h2 f3 hv'D
        simpa [spanCells,List.flatMap_append] using h5
      · rintro b (hb | hb) hi
        · exact h.apart b hb hi
        · rcases hb2 b hb with e | e
          · exact h.apart b (h.otold b e) hi
          · have := h.lt b (.inr hi); omega
      · rintro b ((hb | hb) | hb)
        · have := h.lt b (.inl hb); omega
        · exact hv'lt b hb
        · have := h.lt b (.inr hb); omega
    have hsh3 : SBytes w3 (.slice A (S.things (S.of name)).shown.length c') (S.things (S.of name)).shown := hsh.1.fr f13 fun b hb => hnI b (hsh.2 b hb)
    refine s_add_in (by omega) (s_sl_lh usl36 (sze36 _) (by omega) (by omega) (by omega) ?_)
    have hcut := Src.cut (show Src w3 (.slice A (S.things (S.of name)).shown.length c') 1 _ _ from hsh3) (l := a.toNat) (h' := (a + n).toNat) (by omega) (by omega)
    have hN : (a + n).toNat - a.toNat = n.toNat := by omega
    rw [hN,Nat.mul_one,Nat.mul_one] at hcut
    have hbs : (((u8s (S.things (S.of name)).shown).drop a.toNat).take n.toNat) = u8s (((S.bytes name).drop a.toNat).take n.toNat) := by
      unfold u8s; rw [el,List.map_take,List.map_drop]
    rw [hbs] at hcut
    have hll : (((S.bytes name).drop a.toNat).take n.toNat).length = n.toNat := by rw [List.length_take,List.length_drop,el]; omega
    have hsb : SBytes w3 (sliced A a.toNat (a + n).toNat c' 1) (((S.bytes name).drop a.toNat).take n.toNat) := by unfold SBytes; rw [hll]; exact hcut
    have hrd : S.read name a n = (0,((S.bytes name).drop a.toNat).take n.toNat,{ S with reads := S.reads ++ [⟨name,a,n⟩] }) := by
      unfold AD.read; rw [if_neg (by simp [hl]),if_neg (by rw [el]; omega)]
    refine r_copied hsb (by rw [hll]; omega) fun v4 w4 n4 f4 => ?_
    have hx4 : RNx w D O I w4 { S with reads := S.reads ++ [⟨name,a,n⟩] } (fun b => O b ∨ sblk v' = some b) I { L with toldv := v' } := hx3.trans (RNx.quiet hx3.rep f4)
    have := hk w4 _ _ _ v4 (by rw [hrd]; exact hx4) (by rw [hrd]; exact n4.sb) (fun b hb => by
      have h5 := n4.blk b hb
      refine ⟨by omega,h5.2,?_⟩
      rintro (ho | ho)
      · have := h.lt b (.inl ho); omega
      · have := hv'lt b ho; omega)
    rw [hrd] at this
    exact this
theorem FilesV.app {B:Nat} {v lit:Value} {fs:List (ByteArray × Bytes)} {n:ByteArray} {dv:Value} {d:Bytes} {k:KV} {w w1:World} (h:FilesV w B v fs) (hf:Fr no w w1) (hB:B ≤ w.heap.size) (hl:fs.length ≤ 1099511627776)
    (ho:w1.ownsRow 0 83 2 lit 1 [.string n,dv]) (hd:SBytes w1 dv d) (hdb:∀ b,sblk dv = some b → B ≤ b ∧ b < w1.heap.size ∧ sblk v ≠ some b)
    (hk:∀ v' w2,FilesV w2 B v' (fs ++ [(n,d)]) → Fr (fun b => some b = sblk v) w1 w2 → k v' w2) : px P (bSem .append #[71,71] 71 #[v,lit]) w1 k := by
  obtain ⟨ps,h1,h2,h3⟩ := h
  have z := hf.size
  obtain ⟨A,cd,ed,_⟩ := hd.form
  refine ap71 (own_fr h2 hf fun _ _ h => h) (Src.of_own ho) (by intro u hu; simp at hu; rcases hu with rfl | rfl; rfl; rw [ed]; rfl) (by omega) (Nat.zero_le _) fun v' w2 h4 f4 hb4 => hk v' w2 ⟨ps ++ [(n,dv)],?_,?_,?_⟩ f4
  · have z4 := f4.size
    have hnew : ∀ b,sblk v' = some b → sblk v = some b ∨ w1.heap.size ≤ b := by
      intro b hb
      rcases hb4 with e | e
      · exact .inl (e ▸ hb)
      · rw [e] at hb; injection hb with hb; exact .inr (by omega)
    refine All2.snoc (all2_imp h1 fun f p ⟨a,b,c⟩ => ⟨a,(b.fr hf fun _ _ h => h).fr f4 fun x hx e => (c x hx).2.2 e.symm,fun x hx => ⟨(c x hx).1,by have := (c x hx).2.1; omega,fun e => ?_⟩⟩) ⟨rfl,hd.fr f4 fun x hx e => (hdb x hx).2.2 e.symm,fun x hx => ⟨(hdb x hx).1,by have := (hdb x hx).2.1; omega,fun e => ?_⟩⟩
    · rcases hnew x e with e' | e'
      · exact (c x hx).2.2 e'
      · have := (c x hx).2.1; omega
    · rcases hnew x e with e' | e'
      · exact (hdb x hx).2.2 e'
      · have := (hdb x hx).2.1; omega
  · rw [List.length_append,List.flatMap_append]; exact h4
  · intro b hb
    rcases hb4 with e | e
    · exact h3 b (e ▸ hb)
    · rw [e] at hb; injection hb with hb; omega
theorem FilesV.none {B:Nat} {w:World} : FilesV w B (.slice Option.none 0 0) [] := ⟨[],.nil,⟨rfl,.inl ⟨rfl,rfl⟩⟩,by rintro b hb; cases hb⟩
set_option maxHeartbeats 1000000 in
theorem r_files {c:Nat} (h:RRep w D S O I L) (ok:S.Ok c) (hk:∀ w' v,FilesV w' w.heap.size v S.files → Fr no w w' → k v w') : pFn P 41 [ptr D] w k := by
 have hlen := ok.turns.len
 refine F41_in _ _ _ ?_
 unfold F41_0 ptr
 refine s_eqpn upt30 (pC_false ?_)
 have hfl : S.files.length = S.shown.length := by unfold AD.files; simp
 refine F41L1_inv (m := S.shown.length) k (fun m ρ w' => ∃ (i:Nat),i + m = S.shown.length ∧ Fr no w w' ∧ ρ 0 = ptr D ∧ ρ 4 = i64 i ∧ FilesV w' w.heap.size (ρ 3) (S.files.take i)) ?_ ⟨0,by omega,Fr.refl _ _,rfl,rfl,FilesV.none⟩
 rintro m ρ w' ⟨i,him,hf,e0,e4,hv⟩
 rw [F41_1_eq]
 unfold F41_1
 rw [e0,e4]
 have h' := h.fr hf fun b hb => hb.elim
 refine s_nil (fa62_2 (s_ldb (v := L.nowv) (isAgg59 _) h'.disk rfl (s_lenS usl59 h'.now.1 ?_)))
 by_cases hi : i < S.shown.length
 ·refine s_lt_t (by omega) (pC_true ?_)
  have fd : Fr no w' w'.drew := Fr.drew _ _
  have hreach : reach S S.shown[i].2 := .inl ⟨S.shown[i].1,List.getElem_mem hi⟩
  have hr : L.has S.shown[i].2 := h.sub _ hreach
  have hTok := (ok.thing _ hreach).ok.len
  obtain ⟨sv,hv',ps,hbT,g1,g2,_⟩ := (h'.things _ hr).ex
  obtain ⟨b,o,cc,ev,q0,q1⟩ := nm_at h'.now.1 hi
  have hbl : b < w'.heap.size := World.block_lt_of_cell? _ ⟨b,o + i * 2,none⟩ q0
  have keep : ∀ w2,Fr no w' w2 → w2.heap[D]? = some (.cells (rcells S L) 62 (0,0)) ∧ w2.cell? ⟨b,o + i * 2,none⟩ = some (.string S.shown[i].1) ∧ w2.cell? ⟨b,o + i * 2 + 1,none⟩ = some (ptr (L.loc S.shown[i].2)) ∧ w2.heap[L.loc S.shown[i].2]? = some (.cells #[sv,hv',L.trow S.shown[i].2] 156 (0,0)) := fun w2 f =>
   ⟨f.get h'.disk id,by rw [World.cell?_of_block (w := w') (f.block b hbl id)]; exact q0,by rw [World.cell?_of_block (w := w') (f.block b hbl id)]; exact q1,f.get hbT id⟩
  refine ⟨fun w2 => w2.heap[D]? = some (.cells (rcells S L) 62 (0,0)) ∧ w2.cell? ⟨b,o + i * 2,none⟩ = some (.string S.shown[i].1) ∧ w2.cell? ⟨b,o + i * 2 + 1,none⟩ = some (ptr (L.loc S.shown[i].2)) ∧ w2.heap[L.loc S.shown[i].2]? = some (.cells #[sv,hv',L.trow S.shown[i].2] 156 (0,0)),keep _ fd,?_⟩
  refine q_of _ (fun w_ hS => s_nil ⟨rfl,rfl⟩) (q_of _ (fun w_ hS => fa62_2 ⟨rfl,rfl⟩) (q_of L.nowv (fun w_ hS => s_ldb (isAgg59 _) hS.1 rfl ⟨rfl,rfl⟩) ?_))
  refine q_of (.pointer (some ⟨b,o + i * 2,none⟩)) (fun w_ hS => by rw [ev]; exact s_ix (i := (i:Int)) usl59 (sze59 _) (by omega) (by omega) ⟨by simp,rfl⟩) ?_
  refine q_of _ (fun w_ hS => fa144_0 ⟨rfl,rfl⟩) (q_of _ (fun w_ hS => s_ld (isAgg9 _) hS.2.1 ⟨rfl,rfl⟩) ?_)
  refine q_of _ (fun w_ hS => s_nil ⟨rfl,rfl⟩) (q_of _ (fun w_ hS => fa62_2 ⟨rfl,rfl⟩) (q_of L.nowv (fun w_ hS => s_ldb (isAgg59 _) hS.1 rfl ⟨rfl,rfl⟩) ?_))
  refine q_of (.pointer (some ⟨b,o + i * 2,none⟩)) (fun w_ hS => by rw [ev]; exact s_ix (i := (i:Int)) usl59 (sze59 _) (by omega) (by omega) ⟨by simp,rfl⟩) ?_
  refine q_of _ (fun w_ hS => fa144_1 ⟨rfl,rfl⟩) (q_of _ (fun w_ hS => s_ld (isAgg142 _) hS.2.2.1 ⟨rfl,rfl⟩) ?_)
  refine q_of _ (fun w_ hS => s_nil ⟨rfl,rfl⟩) (q_of _ (fun w_ hS => fa156_1 ⟨rfl,rfl⟩) (q_of hv' (fun w_ hS => s_ldb (isAgg36 _) hS.2.2.2 rfl ⟨rfl,rfl⟩) ?_))
  refine r_copied (g2.1.fr fd fun _ _ h => h) (by omega) fun v2 w2 n2 f2 => ?_
  have f02 : Fr no w' w2 := fd.trans f2 fun b => .inl
  have hn2 := n2.blk
  have zd : w'.drew.heap.size = w'.heap.size := rfl
  have zf := hf.size
  obtain ⟨A2,c2,ev2,_⟩ := n2.sb.form
  subst ev2
  refine ⟨keep w2 f02,q_of (.agg #[.string S.shown[i].1,.slice A2 (S.things S.shown[i].2).shown.length c2]) (fun w_ hS => px_ok (w' := w_) (by kernel_rfl) ⟨rfl,rfl⟩) ?_⟩
  refine px_ok (w' := w2.alloc (.cells #[.string S.shown[i].1,.slice A2 (S.things S.shown[i].2).shown.length c2] 83)) (v := .slice (some ⟨w2.heap.size,0,none⟩) 1 1) (by kernel_rfl) ?_
  have f3 := Fr.alloc no w2 (.cells #[.string S.shown[i].1,.slice A2 (S.things S.shown[i].2).shown.length c2] 83)
  have ho3 := own_lit w2 0 83 2 #[.string S.shown[i].1,.slice A2 (S.things S.shown[i].2).shown.length c2] 1 (Nat.zero_le _) (by unfold maxLen; omega) rfl
  have z3 : (w2.alloc (.cells #[.string S.shown[i].1,.slice A2 (S.things S.shown[i].2).shown.length c2] 83)).heap.size = w2.heap.size + 1 := by simp
  generalize w2.alloc (.cells #[.string S.shown[i].1,.slice A2 (S.things S.shown[i].2).shown.length c2] 83) = w3 at *
  have f13 : Fr no w' w3 := f02.trans f3 fun b => .inl
  have hvb : ∀ b,sblk (ρ 3) = some b → w.heap.size ≤ b ∧ b < w'.heap.size := by
   obtain ⟨ps',a1,a2,a3⟩ := hv
   exact fun b hb => ⟨a3 b hb,(own_blk_lt a2 hb).2⟩
  refine ⟨keep w3 f13,?_⟩
  show px P (bSem .append _ _ #[ρ 3,_]) w3 _
  refine FilesV.app (d := (S.things S.shown[i].2).shown) hv f13 zf (by rw [List.length_take]; omega) ho3 (n2.sb.fr f3 fun _ _ h => h) (fun b hb => ⟨by have := hn2 b hb; omega,by have := hn2 b hb; omega,fun e => by have := hvb b e; have := hn2 b hb; omega⟩) fun v4 w4 h4 f4 => ?_
  have f04 : Fr no w w4 := (hf.trans f13 fun b => .inl).trans f4 fun b hb => .inr (hvb b hb.symm).1
  have f14 : Fr (fun b => some b = sblk (ρ 3)) w' w4 := (f13.mono fun b hb => hb.elim).trans f4 fun b => .inl
  have hkeep4 : w4.heap[D]? = some (.cells (rcells S L) 62 (0,0)) ∧ w4.cell? ⟨b,o + i * 2,none⟩ = some (.string S.shown[i].1) ∧ w4.cell? ⟨b,o + i * 2 + 1,none⟩ = some (ptr (L.loc S.shown[i].2)) ∧ w4.heap[L.loc S.shown[i].2]? = some (.cells #[sv,hv',L.trow S.shown[i].2] 156 (0,0)) := by
   have hold : ∀ x,x < w.heap.size → w4.heap[x]? = w'.heap[x]? := fun x hx => f14.block x (by omega) fun e => by have := (hvb x e.symm).1; omega
   have hDw := h.lt D (.inl h.oD)
   have hTw := h.lt _ (.inl (h.things _ hr).own)
   have hbw : b < w.heap.size := by
    refine h.lt b (.inr (h.now.2 b ?_))
    rw [ev]; rfl
   exact ⟨by rw [hold D hDw]; exact h'.disk,by rw [World.cell?_of_block (w := w') (hold b hbw)]; exact q0,by rw [World.cell?_of_block (w := w') (hold b hbw)]; exact q1,by rw [hold _ hTw]; exact hbT⟩
  refine ⟨hkeep4,s_add_in (by omega) ⟨m - 1,by omega,i + 1,by omega,f04,e0,?_,?_⟩⟩
  ·show i64 _ = i64 _; simp
  ·have : S.files.take (i + 1) = S.files.take i ++ [(S.shown[i].1,(S.things S.shown[i].2).shown)] := by
    rw [List.take_succ_eq_append_getElem (by omega)]
    congr 1
    simp [AD.files]
   rw [this]; exact h4
 ·refine s_lt_f (by omega) (pC_false ?_)
  rw [F41_2_eq]
  unfold F41_2
  rw [List.take_of_length_le (by omega)] at hv
  exact hk w' _ hv hf
set_option maxHeartbeats 1000000 in
theorem r_safe {c:Nat} (h:RRep w D S O I L) (ok:S.Ok c) (hk:∀ w' v,FilesV w' w.heap.size v S.safes → Fr no w w' → k v w') : pFn P 42 [ptr D] w k := by
 have hlen := ok.turns.len
 refine F42_in _ _ _ ?_
 unfold F42_0 ptr
 refine s_eqpn upt30 (pC_false ?_)
 have hfl : S.safes.length = S.safe.length := by unfold AD.safes; simp
 refine F42L1_inv (m := S.safe.length) k (fun m ρ w' => ∃ (i:Nat),i + m = S.safe.length ∧ Fr no w w' ∧ ρ 0 = ptr D ∧ ρ 4 = i64 i ∧ FilesV w' w.heap.size (ρ 3) (S.safes.take i)) ?_ ⟨0,by omega,Fr.refl _ _,rfl,rfl,FilesV.none⟩
 rintro m ρ w' ⟨i,him,hf,e0,e4,hv⟩
 rw [F42_1_eq]
 unfold F42_1
 rw [e0,e4]
 have h' := h.fr hf fun b hb => hb.elim
 refine s_nil (fa62_3 (s_ldb (v := L.befv) (isAgg59 _) h'.disk rfl (s_lenS usl59 h'.bef.1 ?_)))
 by_cases hi : i < S.safe.length
 ·refine s_lt_t (by omega) (pC_true ?_)
  have fd : Fr no w' w'.drew := Fr.drew _ _
  have hreach : reach S S.safe[i].2 := .inr <| .inl ⟨S.safe[i].1,List.getElem_mem hi⟩
  have hr : L.has S.safe[i].2 := h.sub _ hreach
  have hTok := (ok.thing _ hreach).ok.len
  obtain ⟨sv,hv',ps,hbT,g1,g2,_⟩ := (h'.things _ hr).ex
  obtain ⟨b,o,cc,ev,q0,q1⟩ := nm_at h'.bef.1 hi
  have hbl : b < w'.heap.size := World.block_lt_of_cell? _ ⟨b,o + i * 2,none⟩ q0
  have keep : ∀ w2,Fr no w' w2 → w2.heap[D]? = some (.cells (rcells S L) 62 (0,0)) ∧ w2.cell? ⟨b,o + i * 2,none⟩ = some (.string S.safe[i].1) ∧ w2.cell? ⟨b,o + i * 2 + 1,none⟩ = some (ptr (L.loc S.safe[i].2)) ∧ w2.heap[L.loc S.safe[i].2]? = some (.cells #[sv,hv',L.trow S.safe[i].2] 156 (0,0)) := fun w2 f =>
   ⟨f.get h'.disk id,by rw [World.cell?_of_block (w := w') (f.block b hbl id)]; exact q0,by rw [World.cell?_of_block (w := w') (f.block b hbl id)]; exact q1,f.get hbT id⟩
  refine ⟨fun w2 => w2.heap[D]? = some (.cells (rcells S L) 62 (0,0)) ∧ w2.cell? ⟨b,o + i * 2,none⟩ = some (.string S.safe[i].1) ∧ w2.cell? ⟨b,o + i * 2 + 1,none⟩ = some (ptr (L.loc S.safe[i].2)) ∧ w2.heap[L.loc S.safe[i].2]? = some (.cells #[sv,hv',L.trow S.safe[i].2] 156 (0,0)),keep _ fd,?_⟩
  refine q_of _ (fun w_ hS => s_nil ⟨rfl,rfl⟩) (q_of _ (fun w_ hS => fa62_3 ⟨rfl,rfl⟩) (q_of L.befv (fun w_ hS => s_ldb (isAgg59 _) hS.1 rfl ⟨rfl,rfl⟩) ?_))
  refine q_of (.pointer (some ⟨b,o + i * 2,none⟩)) (fun w_ hS => by rw [ev]; exact s_ix (i := (i:Int)) usl59 (sze59 _) (by omega) (by omega) ⟨by simp,rfl⟩) ?_
  refine q_of _ (fun w_ hS => fa144_0 ⟨rfl,rfl⟩) (q_of _ (fun w_ hS => s_ld (isAgg9 _) hS.2.1 ⟨rfl,rfl⟩) ?_)
  refine q_of _ (fun w_ hS => s_nil ⟨rfl,rfl⟩) (q_of _ (fun w_ hS => fa62_3 ⟨rfl,rfl⟩) (q_of L.befv (fun w_ hS => s_ldb (isAgg59 _) hS.1 rfl ⟨rfl,rfl⟩) ?_))
  refine q_of (.pointer (some ⟨b,o + i * 2,none⟩)) (fun w_ hS => by rw [ev]; exact s_ix (i := (i:Int)) usl59 (sze59 _) (by omega) (by omega) ⟨by simp,rfl⟩) ?_
  refine q_of _ (fun w_ hS => fa144_1 ⟨rfl,rfl⟩) (q_of _ (fun w_ hS => s_ld (isAgg142 _) hS.2.2.1 ⟨rfl,rfl⟩) ?_)
  refine q_of _ (fun w_ hS => s_nil ⟨rfl,rfl⟩) (q_of _ (fun w_ hS => fa156_0 ⟨rfl,rfl⟩) (q_of sv (fun w_ hS => s_ldb (isAgg36 _) hS.2.2.2 rfl ⟨rfl,rfl⟩) ?_))
  refine r_copied (g1.1.fr fd fun _ _ h => h) (by omega) fun v2 w2 n2 f2 => ?_
  have f02 : Fr no w' w2 := fd.trans f2 fun b => .inl
  have hn2 := n2.blk
  have zd : w'.drew.heap.size = w'.heap.size := rfl
  have zf := hf.size
  obtain ⟨A2,c2,ev2,_⟩ := n2.sb.form
  subst ev2
  refine ⟨keep w2 f02,q_of (.agg #[.string S.safe[i].1,.slice A2 (S.things S.safe[i].2).safe.length c2]) (fun w_ hS => px_ok (w' := w_) (by kernel_rfl) ⟨rfl,rfl⟩) ?_⟩
  refine px_ok (w' := w2.alloc (.cells #[.string S.safe[i].1,.slice A2 (S.things S.safe[i].2).safe.length c2] 83)) (v := .slice (some ⟨w2.heap.size,0,none⟩) 1 1) (by kernel_rfl) ?_
  have f3 := Fr.alloc no w2 (.cells #[.string S.safe[i].1,.slice A2 (S.things S.safe[i].2).safe.length c2] 83)
  have ho3 := own_lit w2 0 83 2 #[.string S.safe[i].1,.slice A2 (S.things S.safe[i].2).safe.length c2] 1 (Nat.zero_le _) (by unfold maxLen; omega) rfl
  have z3 : (w2.alloc (.cells #[.string S.safe[i].1,.slice A2 (S.things S.safe[i].2).safe.length c2] 83)).heap.size = w2.heap.size + 1 := by simp
  generalize w2.alloc (.cells #[.string S.safe[i].1,.slice A2 (S.things S.safe[i].2).safe.length c2] 83) = w3 at *
  have f13 : Fr no w' w3 := f02.trans f3 fun b => .inl
  have hvb : ∀ b,sblk (ρ 3) = some b → w.heap.size ≤ b ∧ b < w'.heap.size := by
   obtain ⟨ps',a1,a2,a3⟩ := hv
   exact fun b hb => ⟨a3 b hb,(own_blk_lt a2 hb).2⟩
  refine ⟨keep w3 f13,?_⟩
  show px P (bSem .append _ _ #[ρ 3,_]) w3 _
  refine FilesV.app (d := (S.things S.safe[i].2).safe) hv f13 zf (by rw [List.length_take]; omega) ho3 (n2.sb.fr f3 fun _ _ h => h) (fun b hb => ⟨by have := hn2 b hb; omega,by have := hn2 b hb; omega,fun e => by have := hvb b e; have := hn2 b hb; omega⟩) fun v4 w4 h4 f4 => ?_
  have f04 : Fr no w w4 := (hf.trans f13 fun b => .inl).trans f4 fun b hb => .inr (hvb b hb.symm).1
  have f14 : Fr (fun b => some b = sblk (ρ 3)) w' w4 := (f13.mono fun b hb => hb.elim).trans f4 fun b => .inl
  have hkeep4 : w4.heap[D]? = some (.cells (rcells S L) 62 (0,0)) ∧ w4.cell? ⟨b,o + i * 2,none⟩ = some (.string S.safe[i].1) ∧ w4.cell? ⟨b,o + i * 2 + 1,none⟩ = some (ptr (L.loc S.safe[i].2)) ∧ w4.heap[L.loc S.safe[i].2]? = some (.cells #[sv,hv',L.trow S.safe[i].2] 156 (0,0)) := by
   have hold : ∀ x,x < w.heap.size → w4.heap[x]? = w'.heap[x]? := fun x hx => f14.block x (by omega) fun e => by have := (hvb x e.symm).1; omega
   have hDw := h.lt D (.inl h.oD)
   have hTw := h.lt _ (.inl (h.things _ hr).own)
   have hbw : b < w.heap.size := by
    refine h.lt b (.inr (h.bef.2 b ?_))
    rw [ev]; rfl
   exact ⟨by rw [hold D hDw]; exact h'.disk,by rw [World.cell?_of_block (w := w') (hold b hbw)]; exact q0,by rw [World.cell?_of_block (w := w') (hold b hbw)]; exact q1,by rw [hold _ hTw]; exact hbT⟩
  refine ⟨hkeep4,s_add_in (by omega) ⟨m - 1,by omega,i + 1,by omega,f04,e0,?_,?_⟩⟩
  ·show i64 _ = i64 _; simp
  ·have : S.safes.take (i + 1) = S.safes.take i ++ [(S.safe[i].1,(S.things S.safe[i].2).safe)] := by
    rw [List.take_succ_eq_append_getElem (by omega)]
    congr 1
    simp [AD.safes]
   rw [this]; exact h4
 ·refine s_lt_f (by omega) (pC_false ?_)
  rw [F42_2_eq]
  unfold F42_2
  rw [List.take_of_length_le (by omega)] at hv
  exact hk w' _ hv hf
end
section
variable {w w0:World} {D:Nat} {S S':AD} {O I:Nat → Prop} {L L':RLay} {k:KV}
theorem r_list {c:Nat} (h:RRep w D S O I L) (ok:S.Ok c) (p:ByteArray) (hk:∀ w' v,Src w' v 1 (AD.listA S p).length ((AD.listA S p).map .string) → (∀ b,sblk v = some b → w.heap.size ≤ b ∧ b < w'.heap.size) → Fr no w w' → k v w') : pFn P 44 [ptr D,.string p] w k := by
  have hlen := shown_len ok
  refine F44_in _ _ _ _ ?_
  unfold F44_0
  refine r_off h ?_
  unfold AD.listA at hk
  cases ho : S.off with
  | true =>
    rw [ho] at hk
    exact pC_true (hk w _ (Src.nil _ _) (by rintro b hb; cases hb) (Fr.refl _ _))
  | false =>
    rw [ho] at hk
    simp only [Bool.false_eq_true,if_false] at hk
    refine pC_false ?_
    refine F44L1_inv (m := S.shown.length) k (fun m ρ w' => ∃ i : Nat,i + m = S.shown.length ∧ Fr no w w' ∧ ρ 0 = ptr D ∧ ρ 1 = .string p ∧ ρ 6 = i64 i ∧ w'.ownsRow w.heap.size 9 1 (ρ 5) (((S.shown.take i).map (·.1)).filter (hasP p)).length ((((S.shown.take i).map (·.1)).filter (hasP p)).map .string)) ?_ ⟨0,by omega,Fr.refl _ _,rfl,rfl,rfl,⟨rfl,.inl ⟨rfl,rfl⟩⟩⟩
    rintro m ρ w' ⟨i,him,hf,e0,e1,e6,hn⟩
    rw [F44_1_eq]
    unfold F44_1
    rw [e0,e1,e6]
    have h' := h.fr hf fun b hb => hb.elim
    refine s_nil (fa62_2 (s_ldb (v := L.nowv) (isAgg59 _) h'.disk rfl (s_lenS usl59 h'.now.1 ?_)))
    by_cases hi : i < S.shown.length
    · have next : ∀ (ρ':Env) (w2:World),Fr no w w2 → ρ' 0 = ptr D → ρ' 1 = .string p → ρ' 6 = i64 i → w2.ownsRow w.heap.size 9 1 (ρ' 5) (((S.shown.take (i + 1)).map (·.1)).filter (hasP p)).length ((((S.shown.take (i + 1)).map (·.1)).filter (hasP p)).map .string) →
          F44_2 k (fun ρ' w' => ∃ m',m' < m ∧ ∃ i : Nat,i + m' = S.shown.length ∧ Fr no w w' ∧ ρ' 0 = ptr D ∧ ρ' 1 = .string p ∧ ρ' 6 = i64 i ∧ w'.ownsRow w.heap.size 9 1 (ρ' 5) (((S.shown.take i).map (·.1)).filter (hasP p)).length ((((S.shown.take i).map (·.1)).filter (hasP p)).map .string)) ρ' w2 := by
        intro ρ' w2 g a0 a1 a6 hn2
        unfold F44_2
        rw [a6]
        refine s_add_in (by omega) ⟨m - 1,by omega,i + 1,by omega,g,a0,a1,?_,hn2⟩
        show i64 _ = i64 _; simp
      rw [List.take_succ_eq_append_getElem hi,List.map_append,List.filter_append] at next
      refine s_lt_t (by omega) (pC_true (s_nil (fa62_2 (s_ldb (v := L.nowv) (isAgg59 _) h'.disk rfl (nm_name h'.now.1 hi fun q1 q2 => ?_)))))
      refine s_lens underlying9 (s_lens underlying9 ?_)
      have hfl : (((S.shown.take i).map (·.1)).filter (hasP p)).length ≤ i := Nat.le_trans (List.length_filter_le _ _) (by rw [List.length_map,List.length_take]; omega)
      by_cases hsz : p.size ≤ S.shown[i].1.size
      · refine s_ge_t (by omega) (pG_yes rfl (pG_yes rfl (pG_yes rfl (s_lens underlying9 (pG_yes rfl (s_cutS (by omega) (by omega) (pG_yes rfl (pG_yes rfl (s_eqs (s_pick_t ?_)))))))))) 
        by_cases he : S.shown[i].1.extract 0 p.size = p
        · have hh : hasP p S.shown[i].1 = true := by unfold hasP; rw [decide_eq_true hsz,decide_eq_true he]; rfl
          rw [show ((p.size : Int)).toNat = p.size from rfl,decide_eq_true he]
          refine pC_true (pl73 hn rfl (by intro u hu; simp at hu; subst hu; rfl) (by omega) hf.size fun u3 v3 w3 h3 f3 hb3 => ?_)
          rw [F44_2_eq]
          refine next _ _ (hf.trans f3 fun x hx => .inr (own_blk_lt hn hx.symm).1) e0 e1 e6 ?_
          have e : ([S.shown[i]].map (·.1)).filter (hasP p) = [S.shown[i].1] := by simp [hh]
          rw [e,List.length_append,List.map_append]; exact h3
        · have hh : hasP p S.shown[i].1 = false := by unfold hasP; rw [decide_eq_true hsz,decide_eq_false he]; rfl
          rw [show ((p.size : Int)).toNat = p.size from rfl,decide_eq_false he]
          refine pC_false ?_
          rw [F44_2_eq]
          refine next _ _ hf e0 e1 e6 ?_
          have e : ([S.shown[i]].map (·.1)).filter (hasP p) = [] := by simp [hh]
          rw [e,List.append_nil]; exact hn
      · have hh : hasP p S.shown[i].1 = false := by unfold hasP; rw [decide_eq_false hsz]; rfl
        refine s_ge_f (by omega) ?_
        repeat (first | refine pG_sk ?_ | refine pG_un ?_)
        refine s_pick_f (pC_false ?_)
        rw [F44_2_eq]
        refine next _ _ hf e0 e1 e6 ?_
        have e : ([S.shown[i]].map (·.1)).filter (hasP p) = [] := by simp [hh]
        rw [e,List.append_nil]; exact hn
    · refine s_lt_f (by omega) (pC_false ?_)
      rw [F44_3_eq]
      unfold F44_3
      rw [List.take_of_length_le (by omega)] at hn
      exact hk w' _ (Src.of_own hn) (fun b hb => own_blk_lt hn hb) hf
theorem r_reads {c:Nat} (h:RRep w D S O I L) (ok:S.Ok c) (hk:∀ w' v,Src w' v 3 S.reads.length (S.reads.flatMap spanCells) → (∀ b,sblk v = some b → w.heap.size ≤ b ∧ b < w'.heap.size) → Fr no w w' → k v w') : pFn P 33 [ptr D] w k := by
 have hr := ok.reads
 have hs := ok.small
 refine F33_in _ _ _ ?_
 unfold F33_0 ptr
 refine s_eqpn upt30 (pC_false (lit0_56 ?_))
 have f1 := Fr.alloc no w (.cells #[] 134)
 have ho := own_lit w w.heap.size 134 3 #[] 0 (Nat.le_refl _) (by unfold maxLen; omega) rfl
 have z1 : (w.alloc (.cells #[] 134)).heap.size = w.heap.size + 1 := by simp
 show px P _ (w.alloc (.cells #[] 134)) _
 generalize w.alloc (.cells #[] 134) = w1 at *
 have h1 := h.fr f1 fun b hb => hb.elim
 refine s_nil (fa62_8 (s_ldb (v := L.toldv) (isAgg56 _) h1.disk rfl ?_))
 refine ap56 ho (Src.of_own h1.told) (by intro u hu; obtain ⟨s,_,hs⟩ := List.mem_flatMap.1 hu; simp [spanCells] at hs; rcases hs with rfl | rfl | rfl <;> rfl) (by omega) (by omega) fun v' w2 h2 f2 hb2 => ?_
 rw [Nat.zero_add] at h2
 have h2' : w2.ownsRow w.heap.size 134 3 v' S.reads.length (S.reads.flatMap spanCells) := h2
 exact hk w2 v' (Src.of_own h2') (fun b hb => own_blk_lt h2' hb) (f1.trans f2 fun b hb => .inr (by injection hb with hb; have hb' : b = w.heap.size := hb; omega))
theorem r_round {picks:List Int} {pv:Value} (hp:Src w pv 1 picks.length (picks.map i64)) (j n:Nat) (hn:n ≤ 4611686018427387904) (hj:j ≤ 4611686018427387904) (hk:k (i64 (pickA picks j n)) w) : pFn P 135 [pv,i64 j,i64 n] w k := by
 refine F135_in _ _ _ _ _ ?_
 unfold F135_0
 refine s_lenS usl39 hp ?_
 by_cases h : j < picks.length
 ·refine s_ge_f (by omega) (pC_false ?_)
  refine s_elem (u := i64 picks[j]) usl39 (sze39 _) (isAgg3 _) hp h (by simp [h]) fun _ => ?_
  obtain ⟨e1,e2,e3⟩ := tmod_up picks[j] (n + 1) (by omega)
  have hpk : pickA picks j n = ((picks[j]).emod (n + 1)).toNat := by unfold pickA roundA; rw [List.getElem?_eq_getElem h]
  have he := Int.emod_nonneg picks[j] (show (n + 1 : Int) ≠ 0 by omega)
  have hlt := Int.emod_lt_of_pos picks[j] (show (0 : Int) < n + 1 by omega)
  refine s_add_in (by omega) (s_rem (by omega) ?_)
  by_cases hneg : (picks[j]).tmod (n + 1) < 0
  ·rw [if_pos hneg] at e1
   refine s_lt_t hneg (pC_true (s_add_in (by omega) (s_add_in (by omega) ?_)))
   rw [F135_1_eq]
   unfold F135_1
   rw [hpk] at hk
   have : (picks[j]).tmod (n + 1) + n + 1 = (((picks[j]).emod (n + 1)).toNat : Int) := by
    rw [show (((picks[j]).emod (n + 1)).toNat : Int) = picks[j].emod (n + 1) from Int.toNat_of_nonneg he]; omega
   show k (i64 ((picks[j]).tmod (n + 1) + n + 1)) w
   rw [this]; exact hk
  ·rw [if_neg hneg] at e1
   refine s_lt_f hneg (pC_false ?_)
   rw [F135_1_eq]
   unfold F135_1
   rw [hpk] at hk
   have : (picks[j]).tmod (n + 1) = (((picks[j]).emod (n + 1)).toNat : Int) := by
    rw [show (((picks[j]).emod (n + 1)).toNat : Int) = picks[j].emod (n + 1) from Int.toNat_of_nonneg he]; exact e1
   show k (i64 ((picks[j]).tmod (n + 1))) w
   rw [this]; exact hk
 ·have hpk : pickA picks j n = 0 := by unfold pickA; rw [List.getElem?_eq_none (by omega)]
  rw [hpk] at hk
  exact s_ge_t (by omega) (pC_true hk)
theorem r_new {room:Int} (hb:¬ (1 ≤ room ∧ room ≤ 1048576) → k (.tuple #[.pointer none,i64 1]) w)
    (hk:1 ≤ room ∧ room ≤ 1048576 → ∀ w' L',RRep w' w.heap.size (AD.new room) (fun b => b = w.heap.size) no L' → Fr no w w' → w'.heap.size = w.heap.size + 1 → k (.tuple #[ptr w.heap.size,i64 0]) w') : pFn P 53 [i64 room] w k := by
  refine F53_in _ _ _ ?_
  unfold F53_0
  by_cases h1 : room < 1
  · refine s_lt_t h1 ?_
    repeat (first | refine pG_skf ?_ | refine pG_un ?_)
    exact s_pick_t (pC_true (hb (by omega)))
  refine s_lt_f h1 (pG_yes rfl (pG_yes rfl ?_))
  by_cases h2 : room > 1048576
  · exact s_gt_t h2 (s_pick_f (pC_true (hb (by omega))))
  refine s_gt_f h2 (s_pick_f (pC_false ?_))
  refine px_ok (w' := w) (v := .agg #[.bool true,i64 room,.slice none 0 0,.slice none 0 0,.slice none 0 0,i64 0,i64 0,i64 0,i64 0,i64 0,.slice none 0 0]) (by kernel_rfl) (s_box ?_)
  have b1 := alloc_new w (.cells #[.bool true,i64 room,.slice none 0 0,.slice none 0 0,.slice none 0 0,i64 0,i64 0,i64 0,i64 0,i64 0,.slice none 0 0] 62)
  have f1 := Fr.alloc no w (.cells #[.bool true,i64 room,.slice none 0 0,.slice none 0 0,.slice none 0 0,i64 0,i64 0,i64 0,i64 0,i64 0,.slice none 0 0] 62)
  have z1 : (w.alloc (.cells #[.bool true,i64 room,.slice none 0 0,.slice none 0 0,.slice none 0 0,i64 0,i64 0,i64 0,i64 0,i64 0,.slice none 0 0] 62)).heap.size = w.heap.size + 1 := by simp
  show k _ (w.alloc (.cells #[.bool true,i64 room,.slice none 0 0,.slice none 0 0,.slice none 0 0,i64 0,i64 0,i64 0,i64 0,i64 0,.slice none 0 0] 62))
  generalize w.alloc (.cells #[.bool true,i64 room,.slice none 0 0,.slice none 0 0,.slice none 0 0,i64 0,i64 0,i64 0,i64 0,i64 0,.slice none 0 0] 62) = w1 at *
  refine hk (by omega) w1 ⟨no,fun _ => 0,fun _ => .slice none 0 0,.slice none 0 0,.slice none 0 0,.slice none 0 0,.slice none 0 0⟩ ⟨b1,⟨Src.nil _ _,(by rintro b hb; cases hb)⟩,⟨Src.nil _ _,(by rintro b hb; cases hb)⟩,⟨rfl,.inl ⟨rfl,rfl⟩⟩,⟨rfl,.inl ⟨rfl,rfl⟩⟩,?_,fun t h => h.elim,fun t h => h.elim,fun t u h => h.elim,fun t u h => h.elim,rfl,(by rintro b hb; cases hb),(by rintro b hb; cases hb),fun b _ h => h,?_⟩ f1 z1
  · rintro t (⟨n,ht⟩ | ⟨n,ht⟩ | ⟨n,ht⟩) <;> cases ht
  · rintro b (rfl | hb)
    · omega
    · exact hb.elim
end
section
variable {w w0:World} {D:Nat} {S S':AD} {O I:Nat → Prop} {L L':RLay} {k:KV}
theorem RRep.placeX (h:RRep w D S O I L) (n T:Nat) (hn:¬ L.has n) (S1:AD) (e1:S1.shown = S.shown) (e2:S1.safe = S.safe) (e3:S1.row = S.row) (e4:S1.reads = S.reads) (e5:rcells S1 L = rcells S L) (e6:∀ t,t ≠ n → S1.things t = S.things t) (hT:¬ O T) (hI:¬ I T) (hlt:T < w.heap.size) (e7:n < S1.next) (e8:S.next ≤ S1.next) {I':Nat → Prop} (hR:RTRep w (fun b => O b ∨ b = T) I' T (.slice none 0 0) (S1.things n)) (hII:∀ b,I b → I' b) (hIO:∀ b,I' b → ¬ O b ∧ b ≠ T ∧ b < w.heap.size) :
    RRep w D S1 (fun b => O b ∨ b = T) I' { L with has := fun i => L.has i ∨ i = n,loc := fun i => if i = n then T else L.loc i,trow := fun i => if i = n then .slice none 0 0 else L.trow i } := by
  have hr : ∀ t,reach S1 t ↔ reach S t := by intro t; unfold reach; rw [e1,e2,e3]
  have hne : ∀ t,L.has t → t ≠ n := by rintro t ht rfl; exact hn ht
  have hne' : ∀ t,reach S t → t ≠ n := fun t ht => hne t (h.sub t ht)
  have hloc : ∀ t,L.has t → L.loc t ≠ T := fun t ht e => hT (e ▸ (h.things t ht).own)
  exact {
    disk := by show w.heap[D]? = some (.cells (rcells S1 L) 62 (0,0)); rw [e5]; exact h.disk
    now := by
      refine ⟨?_,fun b hb => hII b (h.now.2 b hb)⟩
      rw [e1]
      show Src w L.nowv 2 _ (nmCells (fun i => if i = n then T else L.loc i) _)
      rw [nmCells_congr (g := L.loc) fun p hp => if_neg (hne' p.2 (.inl ⟨p.1,hp⟩))]; exact h.now.1
    bef := by
      refine ⟨?_,fun b hb => hII b (h.bef.2 b hb)⟩
      rw [e2]
      show Src w L.befv 2 _ (nmCells (fun i => if i = n then T else L.loc i) _)
      rw [nmCells_congr (g := L.loc) fun p hp => if_neg (hne' p.2 (.inr (.inl ⟨p.1,hp⟩)))]; exact h.bef.1
    turns := by
      rw [e3]
      show w.ownsRow 0 _ 4 L.turnv _ (S.row.flatMap (rturn fun i => if i = n then T else L.loc i))
      rw [rturns_congr (g := L.loc) fun c hc m t e => if_neg (hne' t (.inr (.inr ⟨m,e ▸ hc⟩)))]; exact h.turns
    told := by rw [e4]; exact h.told
    sub := fun t ht => .inl (h.sub t ((hr t).1 ht))
    below := fun t ht => ht.elim (fun h' => Nat.lt_of_lt_of_le (h.below t h') e8) fun h' => h' ▸ e7
    things := fun t ht => by
      rcases ht with ht | rfl
      · have hx := hne t ht
        simp only [if_neg hx,e6 t hx]
        exact (h.things t ht).mono (fun b => .inl) hII
      · simp only [if_true]
        exact hR
    inj := fun t u ht hu e => by
      rcases ht with ht | rfl <;> rcases hu with hu | rfl
      · simp only [if_neg (hne t ht),if_neg (hne u hu)] at e
        exact h.inj t u ht hu e
      · simp only [if_neg (hne t ht),if_true] at e
        exact absurd e (hloc t ht)
      · simp only [if_neg (hne u hu),if_true] at e
        exact absurd e.symm (hloc u hu)
      · rfl
    rows := fun t u ht hu hne2 => by
      rcases ht with ht | rfl <;> rcases hu with hu | rfl
      · simp only [if_neg (hne t ht),if_neg (hne u hu)]
        exact h.rows t u ht hu hne2
      · simp only [if_neg (hne t ht),if_true]
        intro b _ hb; cases hb
      · simp only [if_true]
        intro b hb; cases hb
      · exact absurd rfl hne2
    oD := .inl h.oD
    oturn := fun b hb => .inl (h.oturn b hb)
    otold := fun b hb => .inl (h.otold b hb)
    apart := by
      rintro b (hb | rfl) hi
      · exact (hIO b hi).1 hb
      · exact (hIO b hi).2.1 rfl
    lt := by
      rintro b ((hb | rfl) | hb)
      · exact h.lt b (.inl hb)
      · exact hlt
      · exact (hIO b hb).2.2 }
abbrev FilesL := List (FileA × Value)
def FilesL.plain (l:FilesL) : List FileA := l.map (·.1)
structure FilesS (w:World) (v:Value) (l:FilesL) : Prop where
 src : Src w v 2 l.length (l.flatMap fun p => [.string p.1.1,p.2])
 all : ∀ p ∈ l,SBytes w p.2 p.1.2
theorem FilesS.fr {w w':World} {v:Value} {l:FilesL} (h:FilesS w v l) (hf:Fr no w w') : FilesS w' v l := ⟨h.src.fr (by omega) hf fun _ _ h => h,fun p hp => (h.all p hp).fr hf fun _ _ h => h⟩
theorem FilesS.at_ {w:World} {v:Value} {l:FilesL} (h:FilesS w v l) {i:Nat} (hi:i < l.length) : ∃ b o c,v = .slice (some ⟨b,o,Option.none⟩) l.length c ∧ w.cell? ⟨b,o + i * 2,Option.none⟩ = some (.string l[i].1.1) ∧ w.cell? ⟨b,o + i * 2 + 1,Option.none⟩ = some l[i].2 := by
 obtain ⟨b,o,c,e,hc⟩ := h.src.place hi (by omega)
 have hat : ∀ j u,([Value.string l[i].1.1,l[i].2] : List Value)[j]? = some u → j < 2 → w.cell? ⟨b,o + i * 2 + j,Option.none⟩ = some u := by
  intro j u hj hlt
  refine hc j u hlt ?_
  have := flatAt (f := fun p : FileA × Value => [Value.string p.1.1,p.2]) (n := 2) (fun _ => rfl) (l := l) (i := i) (j := j) (a := l[i]) (by simp [hi]) hlt
  rw [this]; exact hj
 exact ⟨b,o,c,e,hat 0 _ rfl (by omega),hat 1 _ rfl (by omega)⟩
end
section
variable {w w0:World} {D:Nat} {S S':AD} {O I:Nat → Prop} {L L':RLay} {k:KV}
theorem unitsOf_le' {b s:Bytes} {row:List Chg} {c:Nat} (h:rowOk b row s) (hc:row.length ≤ 1099511627776) (i:Nat) : unitsOf (row.take i) ≤ 1152921504606846976 := by
 have h1 := unitsOf_le (l := row.take i) fun c hc => h.units_at c (List.mem_of_mem_take hc)
 have h2 : (row.take i).length ≤ row.length := by rw [List.length_take]; omega
 have h3 : (row.take i).length * 1048576 ≤ 1099511627776 * 1048576 := Nat.mul_le_mul_right _ (by omega)
 omega
theorem s_rowAt {T:Nat} {rb:Value} {x:Thg} {w:World} (ht:RTRep w O I T rb x) {i:Nat} (hi:i < x.row.length) {kk:Value → Value → Value → Value → KV} (hk:∀ q1 q2 q3 p,ChgOk w I p → p.1 = x.row[i] → kk q1 q2 rb q3 (.agg (chCells p).toArray) w) :
    px P (nilSem (ptr T)) w fun q1 w => px P (Instr.fieldAt 156 q1 2) w fun q2 w => px P (Instr.loadAt 154 q2) w fun v w => px P (Instr.indexAt 154 v (i64 i)) w fun q3 w => px P (Instr.loadAt 186 q3) w (kk q1 q2 v q3) := by
  obtain ⟨sv,hv,ps,hb,g1,g2,g3,g4,g5⟩ := ht.ex
  refine s_nil (fa156_2 (s_ldb (v := rb) (isAgg154 _) hb rfl ?_))
  have hl : ps.length = x.row.length := by rw [← g4,List.length_map]
  have hip : i < ps.length := by omega
  refine s_elemN (m := 0) (vs := chCells ps[i]) usl154 (sze154 _) (isAgg186 _) (sizeOf186 _) (Src.of_own g3) hi (by omega) (chCells_len _) (fun j hj => flatAt (f := chCells) chCells_len (List.getElem?_eq_getElem hip) hj) fun q3 => ?_
  refine hk _ _ _ ps[i] (g5 _ (List.getElem_mem hip)) ?_
  have : (ps.map (·.1))[i]? = x.row[i]? := by rw [g4]
  rw [List.getElem?_map,List.getElem?_eq_getElem hip,List.getElem?_eq_getElem hi] at this
  simpa using this
theorem s_rowLen {T:Nat} {rb:Value} {x:Thg} {w:World} (ht:RTRep w O I T rb x) {kk:Value → Value → Value → KV} (hk:∀ q1 q2,kk q1 q2 rb (i64 x.row.length) w) :
    px P (nilSem (ptr T)) w fun q1 w => px P (Instr.fieldAt 156 q1 2) w fun q2 w => px P (Instr.loadAt 154 q2) w fun v w => px P (bSem .len #[154] 3 #[v]) w (kk q1 q2 v) := by
  obtain ⟨sv,hv,ps,hb,g1,g2,g3,g4,g5⟩ := ht.ex
  exact s_nil (fa156_2 (s_ldb (v := rb) (isAgg154 _) hb rfl (s_lenS usl154 (Src.of_own g3) (hk _ _))))
theorem r_cr3 {t i c:Nat} {pv lv:Value} {N2:KE} (h:RRep w D S O I L) (ht:L.has t) (hT:(S.things t).Ok c) (hc:c ≤ 1099511627776) {ρ:Env} (e0:ρ 0 = ptr D) (e1:ρ 1 = pv) (e4:ρ 4 = lv) (e8:ρ 8 = i64 i) (e9:ρ 9 = ptr (L.loc t)) (e10:ρ 10 = i64 0) (e11:ρ 11 = i64 0)
    (hk:∀ ρ' w',Fr no w w' → ρ' 0 = ptr D → ρ' 1 = pv → ρ' 4 = lv → ρ' 7 = ρ 7 → ρ' 8 = i64 i → ρ' 9 = ptr (L.loc t) → ρ' 10 = i64 (unitsOf (S.things t).row) → F123_6 k N2 ρ' w') : F123L3 k N2 ρ w := by
  have hrl := hT.row
  refine F123L3_inv (m := (S.things t).row.length) k N2 (fun m ρ' w' => ∃ j : Nat,j + m = (S.things t).row.length ∧ Fr no w w' ∧ ρ' 0 = ptr D ∧ ρ' 1 = pv ∧ ρ' 4 = lv ∧ ρ' 7 = ρ 7 ∧ ρ' 8 = i64 i ∧ ρ' 9 = ptr (L.loc t) ∧ ρ' 10 = i64 (unitsOf ((S.things t).row.take j)) ∧ ρ' 11 = i64 j) ?_
    ⟨0,by omega,Fr.refl _ _,e0,e1,e4,rfl,e8,e9,e10,e11⟩
  rintro m ρ' w' ⟨j,hjm,hf,a0,a1,a4,a7,a8,a9,a10,a11⟩
  rw [F123_4_eq]
  unfold F123_4
  rw [a9,a10,a11]
  have hT' := (h.fr hf fun b hb => hb.elim).things t ht
  refine s_rowLen hT' fun q1 q2 => ?_
  by_cases hj : j < (S.things t).row.length
  · refine s_lt_t (by omega) (pC_true (s_rowAt hT' hj fun q1 q2 q3 p hp hpe => ?_))
    refine r_units hp fun w2 f2 => ?_
    rw [hpe]
    have hu := unitsOf_le' (c := c) hT.ok (by omega) (j + 1)
    have hs := units_take (S.things t).row hj
    refine s_add_in (by omega) (s_add_in (by omega) ⟨m - 1,by omega,j + 1,by omega,hf.trans f2 fun b => .inl,a0,a1,a4,a7,a8,a9,?_,?_⟩)
    · show i64 _ = i64 _; rw [hs]; simp
    · show i64 _ = i64 _; simp
  · refine s_lt_f (by omega) (pC_false ?_)
    rw [F123_6_eq]
    rw [List.take_of_length_le (by omega)] at a10
    exact hk _ w' hf a0 a1 a4 a7 a8 a9 a10
theorem r_cr6 {t i c:Nat} {pv lv:Value} {picks:List Int} {N2:KE} (h:RRep w D S O I L) (ht:L.has t) (hT:(S.things t).Ok c) (hc:c ≤ 1099511627776) (hp:Src w pv 1 picks.length (picks.map i64)) (hi:i ≤ 1099511627776) {ρ:Env} (e0:ρ 0 = ptr D) (e1:ρ 1 = pv) (e4:ρ 4 = lv) (e8:ρ 8 = i64 i) (e9:ρ 9 = ptr (L.loc t)) (e10:ρ 10 = i64 (unitsOf (S.things t).row))
    (hk:∀ ρ' w',Fr no w w' → ρ' 0 = ptr D → ρ' 1 = pv → ρ' 4 = lv → ρ' 7 = ρ 7 → ρ' 8 = i64 i → SBytes w' (ρ' 13) (S.crashBytes picks i t) → (∀ b,sblk (ρ' 13) = some b → w.heap.size ≤ b ∧ b < w'.heap.size) → F123_9 k N2 ρ' w') : F123_6 k N2 ρ w := by
  have hrl := hT.row
  unfold F123_6
  rw [e1,e8,e9,e10]
  have hu := unitsOf_le' (c := c) hT.ok (by omega) (S.things t).row.length
  rw [List.take_length] at hu
  refine s_add_in (by omega) ?_
  show pFn P 135 [pv,i64 ((i + 1 : Nat) : Int),_] w _
  refine r_round hp (i + 1) _ (by omega) (by omega) ?_
  obtain ⟨sv,hv,ps,hb,g1,g2,g3,g4,g5⟩ := (h.things t ht).ex
  refine s_nil (fa156_0 (s_ldb (v := sv) (isAgg36 _) hb rfl (r_copied g1.1 (by have := hT.ok.len.2; omega) fun v1 w1 n1 f1 => ?_)))
  have hcb : S.crashBytes picks i t = XDisk.leftOf (S.things t).safe (S.things t).row (pickA picks (i + 1) (unitsOf (S.things t).row)) := rfl
  rw [hcb] at hk
  have hple : pickA picks (i + 1) (unitsOf (S.things t).row) ≤ unitsOf (S.things t).row := by
    unfold pickA
    split
    · rename_i p _
      unfold roundA
      have h1 := Int.emod_lt_of_pos p (show (0 : Int) < (unitsOf (S.things t).row : Int) + 1 by omega)
      have : p.emod ((unitsOf (S.things t).row : Int) + 1) < (unitsOf (S.things t).row : Int) + 1 := h1
      omega
    · omega
  generalize pickA picks (i + 1) (unitsOf (S.things t).row) = u0 at *
  refine F123L4_inv (m := (S.things t).row.length) k N2 (fun m ρ' w' => ∃ (j u:Nat) (b:Bytes),j + m = (S.things t).row.length ∧ Fr no w w' ∧ ρ' 0 = ptr D ∧ ρ' 1 = pv ∧ ρ' 4 = lv ∧ ρ' 7 = ρ 7 ∧ ρ' 8 = i64 i ∧ ρ' 9 = ptr (L.loc t) ∧ ρ' 12 = i64 u ∧ ρ' 14 = i64 j ∧ u ≤ u0 ∧ SBytes w' (ρ' 13) b ∧ (∀ x,sblk (ρ' 13) = some x → w.heap.size ≤ x ∧ x < w'.heap.size) ∧
      XDisk.leftOf (S.things t).safe (S.things t).row u0 = XDisk.leftOf b ((S.things t).row.drop j) u ∧ midOk b ((S.things t).row.drop j) u (S.things t).shown) ?_
    ⟨0,u0,(S.things t).safe,by omega,f1,e0,e1,e4,rfl,e8,e9,rfl,rfl,Nat.le_refl _,n1.sb,n1.blk,rfl,.inl hT.ok⟩
  rintro m ρ' w' ⟨j,u,b,hjm,hf,a0,a1,a4,a7,a8,a9,a12,a14,hu0,hsb,hblk,hleft,hmid⟩
  rw [F123_7_eq]
  unfold F123_7
  rw [a9,a12,a14]
  have hT' := (h.fr hf fun b hb => hb.elim).things t ht
  have fin : XDisk.leftOf b ((S.things t).row.drop j) u = b → ∀ ρ'',ρ'' 0 = ptr D → ρ'' 1 = pv → ρ'' 4 = lv → ρ'' 7 = ρ 7 → ρ'' 8 = i64 i → ρ'' 13 = ρ' 13 → F123_9 k N2 ρ'' w' := by
    intro he ρ'' b0 b1 b4 b7 b8 b13
    refine hk ρ'' w' hf b0 b1 b4 b7 b8 ?_ (by rw [b13]; exact hblk)
    rw [b13,hleft,he]; exact hsb
  refine s_rowLen hT' fun q1 q2 => ?_
  by_cases hj : j < (S.things t).row.length
  · refine s_lt_t (by omega) (pG_yes rfl (pG_yes rfl ?_))
    by_cases hu1 : u = 0
    · refine s_gt_f (by omega) (s_pick_t (pC_false ?_))
      rw [F123_9_eq]
      exact fin (by rw [hu1]; exact leftOf_zero _ _) _ a0 a1 a4 a7 a8 rfl
    · refine s_gt_t (by omega) (s_pick_t (pC_true (s_rowAt hT' hj fun q1 q2 q3 p hpk hpe => ?_)))
      refine r_units hpk fun w2 f2 => ?_
      have hlf := leftOf_drop (u := u) (b := b) hj
      rw [List.drop_eq_getElem_cons hj] at hmid
      obtain ⟨hm1,hbl,hcu,hm4,hm5⟩ := hmid.step
      have hrow : rowOk b ((S.things t).row[j] :: (S.things t).row.drop (j + 1)) (S.things t).shown := hmid.resolve_right fun h => hu1 h.1
      have next : ∀ (ρ2:Env) (v:Nat),v = min u (S.things t).row[j].units → ρ2 0 = ptr D → ρ2 1 = pv → ρ2 4 = lv → ρ2 7 = ρ 7 → ρ2 8 = i64 i → ρ2 9 = ptr (L.loc t) → ρ2 12 = i64 u → ρ2 13 = ρ' 13 → ρ2 14 = i64 j → ρ2 15 = i64 v →
          F123_8 k N2 (fun ρ' w' => ∃ m',m' < m ∧ ∃ (j u:Nat) (b:Bytes),j + m' = (S.things t).row.length ∧ Fr no w w' ∧ ρ' 0 = ptr D ∧ ρ' 1 = pv ∧ ρ' 4 = lv ∧ ρ' 7 = ρ 7 ∧ ρ' 8 = i64 i ∧ ρ' 9 = ptr (L.loc t) ∧ ρ' 12 = i64 u ∧ ρ' 14 = i64 j ∧ u ≤ u0 ∧ SBytes w' (ρ' 13) b ∧ (∀ x,sblk (ρ' 13) = some x → w.heap.size ≤ x ∧ x < w'.heap.size) ∧
            XDisk.leftOf (S.things t).safe (S.things t).row u0 = XDisk.leftOf b ((S.things t).row.drop j) u ∧ midOk b ((S.things t).row.drop j) u (S.things t).shown) ρ2 w2 := by
        intro ρ2 v hv b0 b1 b4 b7 b8 b9 b12 b13 b14 b15
        unfold F123_8
        rw [b9,b12,b13,b14,b15]
        have hT2 := hT'.fr f2 (fun h => h) (fun _ _ h => h) fun _ _ h => h
        refine s_rowAt hT2 hj fun q1 q2 q3 p2 hpk2 hpe2 => ?_
        refine r_change hpk2 (hsb.fr f2 fun _ _ h => h) (by rw [hpe2,hv]; omega) (by omega) (fun n e _ => ?_) (fun a d e => ?_) fun v3 w3 h3 hb3 f3 => ?_
        · rw [hpe2] at e; exact hrow.2.1 n e
        · rw [hpe2] at e
          have := hrow.2.2.1 a d e; omega
        · rw [hpe2,hv] at h3
          have z2 := f2.size
          have z3 := f3.size
          have zw := hf.size
          refine s_sub_in (by omega) (s_add_in (by omega) ⟨m - 1,by omega,j + 1,u - min u (S.things t).row[j].units,_,by omega,(hf.trans f2 fun b => .inl).trans f3 fun b => .inl,b0,b1,b4,b7,b8,b9,?_,?_,by omega,h3,fun x hx => ?_,hleft.trans hlf,hm1⟩)
          · show i64 _ = i64 _; congr 1; omega
          · show i64 _ = i64 _; simp
          · rcases hb3 x hx with e | e
            · have := hblk x e; omega
            · omega
      by_cases hg : (S.things t).row[j].units > u
      · refine s_gt_t (by rw [hpe]; omega) (pC_true ?_)
        rw [F123_8_eq]
        exact next _ u (by omega) a0 a1 a4 a7 a8 a9 a12 rfl a14 rfl
      · refine s_gt_f (by rw [hpe]; omega) (pC_false ?_)
        rw [F123_8_eq]
        exact next _ p.1.units (by rw [hpe]; omega) a0 a1 a4 a7 a8 a9 a12 rfl a14 rfl
  · refine s_lt_f (by omega) ?_
    repeat (first | refine pG_sk ?_ | refine pG_un ?_)
    refine s_pick_f (pC_false ?_)
    rw [F123_9_eq]
    exact fin (by rw [List.drop_eq_nil_of_le (by omega)]; rfl) _ a0 a1 a4 a7 a8 rfl
end
end Go.Proofs.YtcdcojpfealppaaGreat
