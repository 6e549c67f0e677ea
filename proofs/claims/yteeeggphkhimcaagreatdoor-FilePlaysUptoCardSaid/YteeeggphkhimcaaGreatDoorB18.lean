/- Put together by a program (wip/tools/shake.py): ROps9,ROps10,RLoad,XRow,Args6,Card6,CardU,XSep2,XSep3,XBag,XBag2. -/
import Derived.Test.YteeeggphkhimcaaGreatDoorB17
import Derived.Test.YteeeggphkhimcaaGreatDoorB7
import Derived.ProofKit
import Derived.SliceStrings
import Derived.Deep.SlicePairs
import Derived.Test.YteeeggphkhimcaaGreatDoorRows
import Derived.Test.YteeeggphkhimcaaGreatDoorB6
import Derived.JoinedCond
import Derived.Deep.Slices
import Derived.Test.YteeeggphkhimcaaGreatDoorTie
import Derived.ChangeMaps5
import Derived.LaidLaws
import Derived.LaidHandle
import Derived.SizedLaws
import Derived.SevenTiedAt
import Derived.Carry
import Derived.Test.YteeeggphkhimcaaGreatDoorB8
import Derived.Test.YteeeggphkhimcaaGreatDoorB2
set_option linter.unusedVariables false
set_option linter.unusedSimpArgs false
set_option maxRecDepth 100000
namespace Go.Proofs.YteeeggphkhimcaaGreatDoor
open Go Go.Proofs Go.RowKit Go.Proofs.XRed Go.Proofs.XHeap Go.Proofs.XMaps Go.Proofs.XSlices Go.Proofs.XDisk Go.Proofs.XCalls Go.Proofs.XSep Tryz
section
variable {w w0:World} {D:Nat} {S S':AD} {O I:Nat → Prop} {L L':RLay} {k:KV}
set_option maxHeartbeats 1000000 in
theorem r_read {c:Nat} (h:RRep w D S O I L) (ok:S.Ok c) (name:ByteArray) (a n:Int) (hn:-9223372036854775808 ≤ a ∧ a ≤ 9223372036854775807)
    (hk:∀ w' O' I' L' v,RNx w D O I w' (S.read name a n).2.2 O' I' L' → SBytes w' v (S.read name a n).2.1 → (∀ b,sblk v = some b → w.heap.size ≤ b ∧ b < w'.heap.size ∧ ¬ O' b) → k (.tuple #[v,i64 (S.read name a n).1]) w') : pFn P 156 [ptr D,.string name,i64 a,i64 n] w k := by
  have hlen := shown_len ok
  refine F156_in _ _ _ _ _ _ ?_
  unfold F156_0
  have fail : ∀ r,S.read name a n = (r,[],S) → k (.tuple #[.slice none 0 0,i64 r]) w := by
    intro r ec
    have := hk w O I L (.slice none 0 0) (by rw [ec]; exact RNx.refl h) (by rw [ec]; exact SBytes.nil _) (by rintro b hb; cases hb)
    rw [ec] at this; exact this
  refine r_there h (by omega) (shown_nd ok) name (fun hl i => ?_) fun hl i hi he => ?_
  · exact s_ext rfl (s_ext rfl (s_nei_t hl (pC_true (fail _ (by unfold AD.read; rw [if_pos hl])))))
  · refine s_ext rfl (s_ext rfl (s_nei_f rfl (pC_false ?_)))
    refine s_nil (fa245_2 (s_ldb (v := L.nowv) (isAgg242 _) h.disk rfl (nm_thing h.now.1 hi fun p q => ?_)))
    have e2 : S.shown[i].2 = S.of name := by rw [he]
    rw [e2]
    have hreach : reach S (S.of name) := .inl ⟨name,by rw [← he]; exact List.getElem_mem hi⟩
    have hr : L.has (S.of name) := h.sub _ hreach
    have hTok := (ok.thing _ hreach).ok.len.1
    have el : S.bytes name = (S.things (S.of name)).shown := rfl
    obtain ⟨sv,hv,ps,hbT,_,hsh,_⟩ := (h.things _ hr).ex
    obtain ⟨A,c',ev,hc'⟩ := hsh.1.form
    subst ev
    have beyond : (a < 0 ∨ n < 0 ∨ a > (S.bytes name).length ∨ n > (S.bytes name).length - a) → k (.tuple #[.slice none 0 0,i64 54]) w := fun hbad =>
      fail 54 (by unfold AD.read; rw [if_neg (by simp [hl]),if_pos hbad])
    refine s_nil (fa258_1 (s_ldb (v := .slice A (S.things (S.of name)).shown.length c') (isAgg23 _) hbT rfl ?_))
    by_cases a0 : a < 0
    · refine s_lt_t a0 ?_
      repeat (first | refine pG_skf ?_ | refine pG_un ?_)
      refine s_pick_t ?_
      repeat (first | refine pG_skf ?_ | refine pG_un ?_)
      refine s_pick_t ?_
      repeat (first | refine pG_skf ?_ | refine pG_un ?_)
      exact s_pick_t (pC_true (beyond (.inl a0)))
    refine s_lt_f a0 (pG_yes rfl (pG_yes rfl ?_))
    by_cases n0 : n < 0
    · refine s_lt_t n0 (s_pick_f ?_)
      repeat (first | refine pG_skf ?_ | refine pG_un ?_)
      refine s_pick_t ?_
      repeat (first | refine pG_skf ?_ | refine pG_un ?_)
      exact s_pick_t (pC_true (beyond (.inr (.inl n0))))
    refine s_lt_f n0 (s_pick_f ?_)
    refine pG_yes rfl (pG_yes rfl (pG_yes rfl (s_len usl23 (pG_yes rfl ?_))))
    by_cases a1 : a > (S.things (S.of name)).shown.length
    · refine s_gt_t a1 (s_pick_f ?_)
      repeat (first | refine pG_skf ?_ | refine pG_un ?_)
      exact s_pick_t (pC_true (beyond (.inr (.inr (.inl a1)))))
    refine s_gt_f a1 (s_pick_f ?_)
    refine pG_yes rfl (pG_yes rfl (pG_yes rfl (s_len usl23 (pG_yes rfl (pG_yes rfl (s_sub_in (by omega) (pG_yes rfl ?_)))))))
    by_cases n1 : n > (S.things (S.of name)).shown.length - a
    · exact s_gt_t n1 (s_pick_f (pC_true (beyond (.inr (.inr (.inr n1))))))
    refine s_gt_f n1 (s_pick_f (pC_false ?_))
    have hreads := ok.reads
    have hsm := ok.small
    refine s_nil (fa245_8 (s_ldb (v := L.toldv) (isAgg86 _) h.disk rfl ?_))
    refine px_ok (w' := w) (v := .agg #[.string name,i64 a,i64 n]) (by kernel_rfl) ?_
    refine pl86 h.told (by intro u hu; simp at hu; rcases hu with rfl | rfl | rfl <;> rfl) (by omega) (Nat.zero_le _) fun u2 v' w2 h2 f2 hb2 => ?_
    have hRD : ∀ {b},sblk L.toldv = some b → b ≠ D := by
      rintro b hb rfl
      obtain ⟨c1,h1⟩ := own_obj h.told hb
      exact absurd (two_types h1 h.disk) (by decide)
    have hd2 := f2.get h.disk (fun hb => hRD hb.symm rfl)
    refine s_nil (fa245_8 (s_st (sizeOf86 _) (own_one h2).1 (own_one h2).2 hd2 (by show 10 < 11; decide) ?_))
    have hd3 := set_same hd2 10 v'
    have f3 : Fr (fun b => b = D) w2 (w2.setCell ⟨D,10,none⟩ v') := Fr.setCell w2 ⟨D,10,none⟩ v'
    have z3 : (w2.setCell ⟨D,10,none⟩ v').heap.size = w2.heap.size := by simp [World.setCell]
    show px P _ (w2.setCell ⟨D,10,none⟩ v') _
    generalize w2.setCell ⟨D,10,none⟩ v' = w3 at *
    have f13 : Fr (fun b => b = D ∨ sblk L.toldv = some b) w w3 := (f2.mono fun b hb => .inl (.inr hb.symm)).trans f3 fun b hb => .inl (.inl hb)
    have hOwn : ∀ b,(b = D ∨ sblk L.toldv = some b) → ROwn L D b := fun b hb => hb.imp id .inr
    have hv'D : ∀ b,sblk v' = some b → b ≠ D := by
      rintro b hb rfl
      obtain ⟨c1,h1⟩ := own_obj h2 hb
      exact absurd (two_types h1 hd2) (by decide)
    have hv'lt : ∀ b,sblk v' = some b → b < w3.heap.size := fun b hb => by have := (own_blk_lt h2 hb).2; omega
    have hz := f13.size
    have hnI : ∀ b,I b → ¬ (b = D ∨ sblk L.toldv = some b) := fun b hb e => h.apart b (h.own (hOwn b e)) hb
    have hx3 : RNx w D O I w3 { S with reads := S.reads ++ [⟨name,a,n⟩] } (fun b => O b ∨ sblk v' = some b) I { L with toldv := v' } := by
      refine ⟨h.plain (L' := { L with toldv := v' }) f13 (fun b hb => .inl (hOwn b hb)) hd3 rfl h.sub rfl rfl rfl (Nat.le_refl _) (h.now.fr f13 hnI) (h.bef.fr f13 hnI) (own_fr h.turns f13 ?_) ?_ (fun b => .inl) (fun b => id) (fun b hb => .inl (h.oturn b hb)) (fun b hb => .inr hb) ?_ ?_,f13.mono fun b hb => .inl (h.own (hOwn b hb)),fun b => .inl,fun b => id,fun b hb => hb.elim .inl fun hb => (hb2 b hb).elim (fun e => .inl (h.otold b e)) fun e => .inr e.1,fun b => .inl⟩
      · rintro b hb (rfl | e)
        · obtain ⟨c1,h1⟩ := own_obj h.turns hb; exact absurd (two_types h1 h.disk) (by decide)
        · obtain ⟨c1,h1⟩ := own_obj h.turns hb
          obtain ⟨c2,h3⟩ := own_obj h.told e
          exact absurd (two_types h1 h3) (by decide)
      · have h5 := own_fr h2 f3 hv'D
        simpa [spanCells,List.flatMap_append] using h5
      · rintro b (hb | hb) hi
        · exact h.apart b hb hi
        · rcases hb2 b hb with e | e
          · exact h.apart b (h.otold b e) hi
          · have := h.lt b (.inr hi); omega
      · rintro b ((hb | hb) | hb)
        · have := h.lt b (.inl hb); omega
        · exact hv'lt b hb
        · have := h.lt b (.inr hb); omega
    have hsh3 : SBytes w3 (.slice A (S.things (S.of name)).shown.length c') (S.things (S.of name)).shown := hsh.1.fr f13 fun b hb => hnI b (hsh.2 b hb)
    refine s_add_in (by omega) (s_sl_lh usl23 (sze23 _) (by omega) (by omega) (by omega) ?_)
    have hcut := Src.cut (show Src w3 (.slice A (S.things (S.of name)).shown.length c') 1 _ _ from hsh3) (l := a.toNat) (h' := (a + n).toNat) (by omega) (by omega)
    have hN : (a + n).toNat - a.toNat = n.toNat := by omega
    rw [hN,Nat.mul_one,Nat.mul_one] at hcut
    have hbs : (((u8s (S.things (S.of name)).shown).drop a.toNat).take n.toNat) = u8s (((S.bytes name).drop a.toNat).take n.toNat) := by
      unfold u8s; rw [el,List.map_take,List.map_drop]
    rw [hbs] at hcut
    have hll : (((S.bytes name).drop a.toNat).take n.toNat).length = n.toNat := by rw [List.length_take,List.length_drop,el]; omega
    have hsb : SBytes w3 (sliced A a.toNat (a + n).toNat c' 1) (((S.bytes name).drop a.toNat).take n.toNat) := by unfold SBytes; rw [hll]; exact hcut
    have hrd : S.read name a n = (0,((S.bytes name).drop a.toNat).take n.toNat,{ S with reads := S.reads ++ [⟨name,a,n⟩] }) := by
      unfold AD.read; rw [if_neg (by simp [hl]),if_neg (by rw [el]; omega)]
    refine r_copied hsb (by rw [hll]; omega) fun v4 w4 n4 f4 => ?_
    have hx4 : RNx w D O I w4 { S with reads := S.reads ++ [⟨name,a,n⟩] } (fun b => O b ∨ sblk v' = some b) I { L with toldv := v' } := hx3.trans (RNx.quiet hx3.rep f4)
    have := hk w4 _ _ _ v4 (by rw [hrd]; exact hx4) (by rw [hrd]; exact n4.sb) (fun b hb => by
      have h5 := n4.blk b hb
      refine ⟨by omega,h5.2,?_⟩
      rintro (ho | ho)
      · have := h.lt b (.inl ho); omega
      · have := hv'lt b ho; omega)
    rw [hrd] at this
    exact this
theorem FilesV.app {B:Nat} {v lit:Value} {fs:List (ByteArray × Bytes)} {n:ByteArray} {dv:Value} {d:Bytes} {k:KV} {w w1:World} (h:FilesV w B v fs) (hf:Fr no w w1) (hB:B ≤ w.heap.size) (hl:fs.length ≤ 1099511627776)
    (ho:w1.ownsRow 0 107 2 lit 1 [.string n,dv]) (hd:SBytes w1 dv d) (hdb:∀ b,sblk dv = some b → B ≤ b ∧ b < w1.heap.size ∧ sblk v ≠ some b)
    (hk:∀ v' w2,FilesV w2 B v' (fs ++ [(n,d)]) → Fr (fun b => some b = sblk v) w1 w2 → k v' w2) : px P (bSem .append #[36,36] 36 #[v,lit]) w1 k := by
  obtain ⟨ps,h1,h2,h3⟩ := h
  have z := hf.size
  obtain ⟨A,cd,ed,_⟩ := hd.form
  refine ap36 (own_fr h2 hf fun _ _ h => h) (Src.of_own ho) (by intro u hu; simp at hu; rcases hu with rfl | rfl; rfl; rw [ed]; rfl) (by omega) (Nat.zero_le _) fun v' w2 h4 f4 hb4 => hk v' w2 ⟨ps ++ [(n,dv)],?_,?_,?_⟩ f4
  · have z4 := f4.size
    have hnew : ∀ b,sblk v' = some b → sblk v = some b ∨ w1.heap.size ≤ b := by
      intro b hb
      rcases hb4 with e | e
      · exact .inl (e ▸ hb)
      · rw [e] at hb; injection hb with hb; exact .inr (by omega)
    refine All2.snoc (all2_imp h1 fun f p ⟨a,b,c⟩ => ⟨a,(b.fr hf fun _ _ h => h).fr f4 fun x hx e => (c x hx).2.2 e.symm,fun x hx => ⟨(c x hx).1,by have := (c x hx).2.1; omega,fun e => ?_⟩⟩) ⟨rfl,hd.fr f4 fun x hx e => (hdb x hx).2.2 e.symm,fun x hx => ⟨(hdb x hx).1,by have := (hdb x hx).2.1; omega,fun e => ?_⟩⟩
    · rcases hnew x e with e' | e'
      · exact (c x hx).2.2 e'
      · have := (c x hx).2.1; omega
    · rcases hnew x e with e' | e'
      · exact (hdb x hx).2.2 e'
      · have := (hdb x hx).2.1; omega
  · rw [List.length_append,List.flatMap_append]; exact h4
  · intro b hb
    rcases hb4 with e | e
    · exact h3 b (e ▸ hb)
    · rw [e] at hb; injection hb with hb; omega
theorem FilesV.none {B:Nat} {w:World} : FilesV w B (.slice Option.none 0 0) [] := ⟨[],.nil,⟨rfl,.inl ⟨rfl,rfl⟩⟩,by rintro b hb; cases hb⟩
set_option maxHeartbeats 1000000 in
theorem r_files {c:Nat} (h:RRep w D S O I L) (ok:S.Ok c) (hk:∀ w' v,FilesV w' w.heap.size v S.files → Fr no w w' → k v w') : pFn P 116 [ptr D] w k := by
 have hlen := ok.turns.len
 refine F116_in _ _ _ ?_
 unfold F116_0 ptr
 refine s_eqpn upt177 (pC_false ?_)
 have hfl : S.files.length = S.shown.length := by unfold AD.files; simp
 refine F116L1_inv (m := S.shown.length) k (fun m ρ w' => ∃ (i:Nat),i + m = S.shown.length ∧ Fr no w w' ∧ ρ 0 = ptr D ∧ ρ 4 = i64 i ∧ FilesV w' w.heap.size (ρ 3) (S.files.take i)) ?_ ⟨0,by omega,Fr.refl _ _,rfl,rfl,FilesV.none⟩
 rintro m ρ w' ⟨i,him,hf,e0,e4,hv⟩
 rw [F116_1_eq]
 unfold F116_1
 rw [e0,e4]
 have h' := h.fr hf fun b hb => hb.elim
 refine s_nil (fa245_2 (s_ldb (v := L.nowv) (isAgg242 _) h'.disk rfl (s_lenS usl242 h'.now.1 ?_)))
 by_cases hi : i < S.shown.length
 ·refine s_lt_t (by omega) (pC_true ?_)
  have fd : Fr no w' w'.drew := Fr.drew _ _
  have hreach : reach S S.shown[i].2 := .inl ⟨S.shown[i].1,List.getElem_mem hi⟩
  have hr : L.has S.shown[i].2 := h.sub _ hreach
  have hTok := (ok.thing _ hreach).ok.len
  obtain ⟨sv,hv',ps,hbT,g1,g2,_⟩ := (h'.things _ hr).ex
  obtain ⟨b,o,cc,ev,q0,q1⟩ := nm_at h'.now.1 hi
  have hbl : b < w'.heap.size := World.block_lt_of_cell? _ ⟨b,o + i * 2,none⟩ q0
  have keep : ∀ w2,Fr no w' w2 → w2.heap[D]? = some (.cells (rcells S L) 245 (0,0)) ∧ w2.cell? ⟨b,o + i * 2,none⟩ = some (.string S.shown[i].1) ∧ w2.cell? ⟨b,o + i * 2 + 1,none⟩ = some (ptr (L.loc S.shown[i].2)) ∧ w2.heap[L.loc S.shown[i].2]? = some (.cells #[sv,hv',L.trow S.shown[i].2] 258 (0,0)) := fun w2 f =>
   ⟨f.get h'.disk id,by rw [World.cell?_of_block (w := w') (f.block b hbl id)]; exact q0,by rw [World.cell?_of_block (w := w') (f.block b hbl id)]; exact q1,f.get hbT id⟩
  refine ⟨fun w2 => w2.heap[D]? = some (.cells (rcells S L) 245 (0,0)) ∧ w2.cell? ⟨b,o + i * 2,none⟩ = some (.string S.shown[i].1) ∧ w2.cell? ⟨b,o + i * 2 + 1,none⟩ = some (ptr (L.loc S.shown[i].2)) ∧ w2.heap[L.loc S.shown[i].2]? = some (.cells #[sv,hv',L.trow S.shown[i].2] 258 (0,0)),keep _ fd,?_⟩
  refine q_of _ (fun w_ hS => s_nil ⟨rfl,rfl⟩) (q_of _ (fun w_ hS => fa245_2 ⟨rfl,rfl⟩) (q_of L.nowv (fun w_ hS => s_ldb (isAgg242 _) hS.1 rfl ⟨rfl,rfl⟩) ?_))
  refine q_of (.pointer (some ⟨b,o + i * 2,none⟩)) (fun w_ hS => by rw [ev]; exact s_ix (i := (i:Int)) usl242 (sze242 _) (by omega) (by omega) ⟨by simp,rfl⟩) ?_
  refine q_of _ (fun w_ hS => fa264_0 ⟨rfl,rfl⟩) (q_of _ (fun w_ hS => s_ld (isAgg9 _) hS.2.1 ⟨rfl,rfl⟩) ?_)
  refine q_of _ (fun w_ hS => s_nil ⟨rfl,rfl⟩) (q_of _ (fun w_ hS => fa245_2 ⟨rfl,rfl⟩) (q_of L.nowv (fun w_ hS => s_ldb (isAgg242 _) hS.1 rfl ⟨rfl,rfl⟩) ?_))
  refine q_of (.pointer (some ⟨b,o + i * 2,none⟩)) (fun w_ hS => by rw [ev]; exact s_ix (i := (i:Int)) usl242 (sze242 _) (by omega) (by omega) ⟨by simp,rfl⟩) ?_
  refine q_of _ (fun w_ hS => fa264_1 ⟨rfl,rfl⟩) (q_of _ (fun w_ hS => s_ld (isAgg255 _) hS.2.2.1 ⟨rfl,rfl⟩) ?_)
  refine q_of _ (fun w_ hS => s_nil ⟨rfl,rfl⟩) (q_of _ (fun w_ hS => fa258_1 ⟨rfl,rfl⟩) (q_of hv' (fun w_ hS => s_ldb (isAgg23 _) hS.2.2.2 rfl ⟨rfl,rfl⟩) ?_))
  refine r_copied (g2.1.fr fd fun _ _ h => h) (by omega) fun v2 w2 n2 f2 => ?_
  have f02 : Fr no w' w2 := fd.trans f2 fun b => .inl
  have hn2 := n2.blk
  have zd : w'.drew.heap.size = w'.heap.size := rfl
  have zf := hf.size
  obtain ⟨A2,c2,ev2,_⟩ := n2.sb.form
  subst ev2
  refine ⟨keep w2 f02,q_of (.agg #[.string S.shown[i].1,.slice A2 (S.things S.shown[i].2).shown.length c2]) (fun w_ hS => px_ok (w' := w_) (by kernel_rfl) ⟨rfl,rfl⟩) ?_⟩
  refine px_ok (w' := w2.alloc (.cells #[.string S.shown[i].1,.slice A2 (S.things S.shown[i].2).shown.length c2] 107)) (v := .slice (some ⟨w2.heap.size,0,none⟩) 1 1) (by kernel_rfl) ?_
  have f3 := Fr.alloc no w2 (.cells #[.string S.shown[i].1,.slice A2 (S.things S.shown[i].2).shown.length c2] 107)
  have ho3 := own_lit w2 0 107 2 #[.string S.shown[i].1,.slice A2 (S.things S.shown[i].2).shown.length c2] 1 (Nat.zero_le _) (by unfold maxLen; omega) rfl
  have z3 : (w2.alloc (.cells #[.string S.shown[i].1,.slice A2 (S.things S.shown[i].2).shown.length c2] 107)).heap.size = w2.heap.size + 1 := by simp
  generalize w2.alloc (.cells #[.string S.shown[i].1,.slice A2 (S.things S.shown[i].2).shown.length c2] 107) = w3 at *
  have f13 : Fr no w' w3 := f02.trans f3 fun b => .inl
  have hvb : ∀ b,sblk (ρ 3) = some b → w.heap.size ≤ b ∧ b < w'.heap.size := by
   obtain ⟨ps',a1,a2,a3⟩ := hv
   exact fun b hb => ⟨a3 b hb,(own_blk_lt a2 hb).2⟩
  refine ⟨keep w3 f13,?_⟩
  show px P (bSem .append _ _ #[ρ 3,_]) w3 _
  refine FilesV.app (d := (S.things S.shown[i].2).shown) hv f13 zf (by rw [List.length_take]; omega) ho3 (n2.sb.fr f3 fun _ _ h => h) (fun b hb => ⟨by have := hn2 b hb; omega,by have := hn2 b hb; omega,fun e => by have := hvb b e; have := hn2 b hb; omega⟩) fun v4 w4 h4 f4 => ?_
  have f04 : Fr no w w4 := (hf.trans f13 fun b => .inl).trans f4 fun b hb => .inr (hvb b hb.symm).1
  have f14 : Fr (fun b => some b = sblk (ρ 3)) w' w4 := (f13.mono fun b hb => hb.elim).trans f4 fun b => .inl
  have hkeep4 : w4.heap[D]? = some (.cells (rcells S L) 245 (0,0)) ∧ w4.cell? ⟨b,o + i * 2,none⟩ = some (.string S.shown[i].1) ∧ w4.cell? ⟨b,o + i * 2 + 1,none⟩ = some (ptr (L.loc S.shown[i].2)) ∧ w4.heap[L.loc S.shown[i].2]? = some (.cells #[sv,hv',L.trow S.shown[i].2] 258 (0,0)) := by
   have hold : ∀ x,x < w.heap.size → w4.heap[x]? = w'.heap[x]? := fun x hx => f14.block x (by omega) fun e => by have := (hvb x e.symm).1; omega
   have hDw := h.lt D (.inl h.oD)
   have hTw := h.lt _ (.inl (h.things _ hr).own)
   have hbw : b < w.heap.size := by
    refine h.lt b (.inr (h.now.2 b ?_))
    rw [ev]; rfl
   exact ⟨by rw [hold D hDw]; exact h'.disk,by rw [World.cell?_of_block (w := w') (hold b hbw)]; exact q0,by rw [World.cell?_of_block (w := w') (hold b hbw)]; exact q1,by rw [hold _ hTw]; exact hbT⟩
  refine ⟨hkeep4,s_add_in (by omega) ⟨m - 1,by omega,i + 1,by omega,f04,e0,?_,?_⟩⟩
  ·show i64 _ = i64 _; simp
  ·have : S.files.take (i + 1) = S.files.take i ++ [(S.shown[i].1,(S.things S.shown[i].2).shown)] := by
    rw [List.take_succ_eq_append_getElem (by omega)]
    congr 1
    simp [AD.files]
   rw [this]; exact h4
 ·refine s_lt_f (by omega) (pC_false ?_)
  rw [F116_2_eq]
  unfold F116_2
  rw [List.take_of_length_le (by omega)] at hv
  exact hk w' _ hv hf
set_option maxHeartbeats 1000000 in
theorem r_safe {c:Nat} (h:RRep w D S O I L) (ok:S.Ok c) (hk:∀ w' v,FilesV w' w.heap.size v S.safes → Fr no w w' → k v w') : pFn P 118 [ptr D] w k := by
 have hlen := ok.turns.len
 refine F118_in _ _ _ ?_
 unfold F118_0 ptr
 refine s_eqpn upt177 (pC_false ?_)
 have hfl : S.safes.length = S.safe.length := by unfold AD.safes; simp
 refine F118L1_inv (m := S.safe.length) k (fun m ρ w' => ∃ (i:Nat),i + m = S.safe.length ∧ Fr no w w' ∧ ρ 0 = ptr D ∧ ρ 4 = i64 i ∧ FilesV w' w.heap.size (ρ 3) (S.safes.take i)) ?_ ⟨0,by omega,Fr.refl _ _,rfl,rfl,FilesV.none⟩
 rintro m ρ w' ⟨i,him,hf,e0,e4,hv⟩
 rw [F118_1_eq]
 unfold F118_1
 rw [e0,e4]
 have h' := h.fr hf fun b hb => hb.elim
 refine s_nil (fa245_3 (s_ldb (v := L.befv) (isAgg242 _) h'.disk rfl (s_lenS usl242 h'.bef.1 ?_)))
 by_cases hi : i < S.safe.length
 ·refine s_lt_t (by omega) (pC_true ?_)
  have fd : Fr no w' w'.drew := Fr.drew _ _
  have hreach : reach S S.safe[i].2 := .inr <| .inl ⟨S.safe[i].1,List.getElem_mem hi⟩
  have hr : L.has S.safe[i].2 := h.sub _ hreach
  have hTok := (ok.thing _ hreach).ok.len
  obtain ⟨sv,hv',ps,hbT,g1,g2,_⟩ := (h'.things _ hr).ex
  obtain ⟨b,o,cc,ev,q0,q1⟩ := nm_at h'.bef.1 hi
  have hbl : b < w'.heap.size := World.block_lt_of_cell? _ ⟨b,o + i * 2,none⟩ q0
  have keep : ∀ w2,Fr no w' w2 → w2.heap[D]? = some (.cells (rcells S L) 245 (0,0)) ∧ w2.cell? ⟨b,o + i * 2,none⟩ = some (.string S.safe[i].1) ∧ w2.cell? ⟨b,o + i * 2 + 1,none⟩ = some (ptr (L.loc S.safe[i].2)) ∧ w2.heap[L.loc S.safe[i].2]? = some (.cells #[sv,hv',L.trow S.safe[i].2] 258 (0,0)) := fun w2 f =>
   ⟨f.get h'.disk id,by rw [World.cell?_of_block (w := w') (f.block b hbl id)]; exact q0,by rw [World.cell?_of_block (w := w') (f.block b hbl id)]; exact q1,f.get hbT id⟩
  refine ⟨fun w2 => w2.heap[D]? = some (.cells (rcells S L) 245 (0,0)) ∧ w2.cell? ⟨b,o + i * 2,none⟩ = some (.string S.safe[i].1) ∧ w2.cell? ⟨b,o + i * 2 + 1,none⟩ = some (ptr (L.loc S.safe[i].2)) ∧ w2.heap[L.loc S.safe[i].2]? = some (.cells #[sv,hv',L.trow S.safe[i].2] 258 (0,0)),keep _ fd,?_⟩
  refine q_of _ (fun w_ hS => s_nil ⟨rfl,rfl⟩) (q_of _ (fun w_ hS => fa245_3 ⟨rfl,rfl⟩) (q_of L.befv (fun w_ hS => s_ldb (isAgg242 _) hS.1 rfl ⟨rfl,rfl⟩) ?_))
  refine q_of (.pointer (some ⟨b,o + i * 2,none⟩)) (fun w_ hS => by rw [ev]; exact s_ix (i := (i:Int)) usl242 (sze242 _) (by omega) (by omega) ⟨by simp,rfl⟩) ?_
  refine q_of _ (fun w_ hS => fa264_0 ⟨rfl,rfl⟩) (q_of _ (fun w_ hS => s_ld (isAgg9 _) hS.2.1 ⟨rfl,rfl⟩) ?_)
  refine q_of _ (fun w_ hS => s_nil ⟨rfl,rfl⟩) (q_of _ (fun w_ hS => fa245_3 ⟨rfl,rfl⟩) (q_of L.befv (fun w_ hS => s_ldb (isAgg242 _) hS.1 rfl ⟨rfl,rfl⟩) ?_))
  refine q_of (.pointer (some ⟨b,o + i * 2,none⟩)) (fun w_ hS => by rw [ev]; exact s_ix (i := (i:Int)) usl242 (sze242 _) (by omega) (by omega) ⟨by simp,rfl⟩) ?_
  refine q_of _ (fun w_ hS => fa264_1 ⟨rfl,rfl⟩) (q_of _ (fun w_ hS => s_ld (isAgg255 _) hS.2.2.1 ⟨rfl,rfl⟩) ?_)
  refine q_of _ (fun w_ hS => s_nil ⟨rfl,rfl⟩) (q_of _ (fun w_ hS => fa258_0 ⟨rfl,rfl⟩) (q_of sv (fun w_ hS => s_ldb (isAgg23 _) hS.2.2.2 rfl ⟨rfl,rfl⟩) ?_))
  refine r_copied (g1.1.fr fd fun _ _ h => h) (by omega) fun v2 w2 n2 f2 => ?_
  have f02 : Fr no w' w2 := fd.trans f2 fun b => .inl
  have hn2 := n2.blk
  have zd : w'.drew.heap.size = w'.heap.size := rfl
  have zf := hf.size
  obtain ⟨A2,c2,ev2,_⟩ := n2.sb.form
  subst ev2
  refine ⟨keep w2 f02,q_of (.agg #[.string S.safe[i].1,.slice A2 (S.things S.safe[i].2).safe.length c2]) (fun w_ hS => px_ok (w' := w_) (by kernel_rfl) ⟨rfl,rfl⟩) ?_⟩
  refine px_ok (w' := w2.alloc (.cells #[.string S.safe[i].1,.slice A2 (S.things S.safe[i].2).safe.length c2] 107)) (v := .slice (some ⟨w2.heap.size,0,none⟩) 1 1) (by kernel_rfl) ?_
  have f3 := Fr.alloc no w2 (.cells #[.string S.safe[i].1,.slice A2 (S.things S.safe[i].2).safe.length c2] 107)
  have ho3 := own_lit w2 0 107 2 #[.string S.safe[i].1,.slice A2 (S.things S.safe[i].2).safe.length c2] 1 (Nat.zero_le _) (by unfold maxLen; omega) rfl
  have z3 : (w2.alloc (.cells #[.string S.safe[i].1,.slice A2 (S.things S.safe[i].2).safe.length c2] 107)).heap.size = w2.heap.size + 1 := by simp
  generalize w2.alloc (.cells #[.string S.safe[i].1,.slice A2 (S.things S.safe[i].2).safe.length c2] 107) = w3 at *
  have f13 : Fr no w' w3 := f02.trans f3 fun b => .inl
  have hvb : ∀ b,sblk (ρ 3) = some b → w.heap.size ≤ b ∧ b < w'.heap.size := by
   obtain ⟨ps',a1,a2,a3⟩ := hv
   exact fun b hb => ⟨a3 b hb,(own_blk_lt a2 hb).2⟩
  refine ⟨keep w3 f13,?_⟩
  show px P (bSem .append _ _ #[ρ 3,_]) w3 _
  refine FilesV.app (d := (S.things S.safe[i].2).safe) hv f13 zf (by rw [List.length_take]; omega) ho3 (n2.sb.fr f3 fun _ _ h => h) (fun b hb => ⟨by have := hn2 b hb; omega,by have := hn2 b hb; omega,fun e => by have := hvb b e; have := hn2 b hb; omega⟩) fun v4 w4 h4 f4 => ?_
  have f04 : Fr no w w4 := (hf.trans f13 fun b => .inl).trans f4 fun b hb => .inr (hvb b hb.symm).1
  have f14 : Fr (fun b => some b = sblk (ρ 3)) w' w4 := (f13.mono fun b hb => hb.elim).trans f4 fun b => .inl
  have hkeep4 : w4.heap[D]? = some (.cells (rcells S L) 245 (0,0)) ∧ w4.cell? ⟨b,o + i * 2,none⟩ = some (.string S.safe[i].1) ∧ w4.cell? ⟨b,o + i * 2 + 1,none⟩ = some (ptr (L.loc S.safe[i].2)) ∧ w4.heap[L.loc S.safe[i].2]? = some (.cells #[sv,hv',L.trow S.safe[i].2] 258 (0,0)) := by
   have hold : ∀ x,x < w.heap.size → w4.heap[x]? = w'.heap[x]? := fun x hx => f14.block x (by omega) fun e => by have := (hvb x e.symm).1; omega
   have hDw := h.lt D (.inl h.oD)
   have hTw := h.lt _ (.inl (h.things _ hr).own)
   have hbw : b < w.heap.size := by
    refine h.lt b (.inr (h.bef.2 b ?_))
    rw [ev]; rfl
   exact ⟨by rw [hold D hDw]; exact h'.disk,by rw [World.cell?_of_block (w := w') (hold b hbw)]; exact q0,by rw [World.cell?_of_block (w := w') (hold b hbw)]; exact q1,by rw [hold _ hTw]; exact hbT⟩
  refine ⟨hkeep4,s_add_in (by omega) ⟨m - 1,by omega,i + 1,by omega,f04,e0,?_,?_⟩⟩
  ·show i64 _ = i64 _; simp
  ·have : S.safes.take (i + 1) = S.safes.take i ++ [(S.safe[i].1,(S.things S.safe[i].2).safe)] := by
    rw [List.take_succ_eq_append_getElem (by omega)]
    congr 1
    simp [AD.safes]
   rw [this]; exact h4
 ·refine s_lt_f (by omega) (pC_false ?_)
  rw [F118_2_eq]
  unfold F118_2
  rw [List.take_of_length_le (by omega)] at hv
  exact hk w' _ hv hf
end
section
variable {w w0:World} {D:Nat} {S S':AD} {O I:Nat → Prop} {L L':RLay} {k:KV}
theorem r_list {c:Nat} (h:RRep w D S O I L) (ok:S.Ok c) (p:ByteArray) (hk:∀ w' v,Src w' v 1 (AD.listA S p).length ((AD.listA S p).map .string) → (∀ b,sblk v = some b → w.heap.size ≤ b ∧ b < w'.heap.size) → Fr no w w' → k v w') : pFn P 157 [ptr D,.string p] w k := by
  have hlen := shown_len ok
  refine F157_in _ _ _ _ ?_
  unfold F157_0
  refine r_off h ?_
  unfold AD.listA at hk
  cases ho : S.off with
  | true =>
    rw [ho] at hk
    exact pC_true (hk w _ (Src.nil _ _) (by rintro b hb; cases hb) (Fr.refl _ _))
  | false =>
    rw [ho] at hk
    simp only [Bool.false_eq_true,if_false] at hk
    refine pC_false ?_
    refine F157L1_inv (m := S.shown.length) k (fun m ρ w' => ∃ i : Nat,i + m = S.shown.length ∧ Fr no w w' ∧ ρ 0 = ptr D ∧ ρ 1 = .string p ∧ ρ 6 = i64 i ∧ w'.ownsRow w.heap.size 9 1 (ρ 5) (((S.shown.take i).map (·.1)).filter (hasP p)).length ((((S.shown.take i).map (·.1)).filter (hasP p)).map .string)) ?_ ⟨0,by omega,Fr.refl _ _,rfl,rfl,rfl,⟨rfl,.inl ⟨rfl,rfl⟩⟩⟩
    rintro m ρ w' ⟨i,him,hf,e0,e1,e6,hn⟩
    rw [F157_1_eq]
    unfold F157_1
    rw [e0,e1,e6]
    have h' := h.fr hf fun b hb => hb.elim
    refine s_nil (fa245_2 (s_ldb (v := L.nowv) (isAgg242 _) h'.disk rfl (s_lenS usl242 h'.now.1 ?_)))
    by_cases hi : i < S.shown.length
    · have next : ∀ (ρ':Env) (w2:World),Fr no w w2 → ρ' 0 = ptr D → ρ' 1 = .string p → ρ' 6 = i64 i → w2.ownsRow w.heap.size 9 1 (ρ' 5) (((S.shown.take (i + 1)).map (·.1)).filter (hasP p)).length ((((S.shown.take (i + 1)).map (·.1)).filter (hasP p)).map .string) →
          F157_2 k (fun ρ' w' => ∃ m',m' < m ∧ ∃ i : Nat,i + m' = S.shown.length ∧ Fr no w w' ∧ ρ' 0 = ptr D ∧ ρ' 1 = .string p ∧ ρ' 6 = i64 i ∧ w'.ownsRow w.heap.size 9 1 (ρ' 5) (((S.shown.take i).map (·.1)).filter (hasP p)).length ((((S.shown.take i).map (·.1)).filter (hasP p)).map .string)) ρ' w2 := by
        intro ρ' w2 g a0 a1 a6 hn2
        unfold F157_2
        rw [a6]
        refine s_add_in (by omega) ⟨m - 1,by omega,i + 1,by omega,g,a0,a1,?_,hn2⟩
        show i64 _ = i64 _; simp
      rw [List.take_succ_eq_append_getElem hi,List.map_append,List.filter_append] at next
      refine s_lt_t (by omega) (pC_true (s_nil (fa245_2 (s_ldb (v := L.nowv) (isAgg242 _) h'.disk rfl (nm_name h'.now.1 hi fun q1 q2 => ?_)))))
      refine s_lens underlying9 (s_lens underlying9 ?_)
      have hfl : (((S.shown.take i).map (·.1)).filter (hasP p)).length ≤ i := Nat.le_trans (List.length_filter_le _ _) (by rw [List.length_map,List.length_take]; omega)
      by_cases hsz : p.size ≤ S.shown[i].1.size
      · refine s_ge_t (by omega) (pG_yes rfl (pG_yes rfl (pG_yes rfl (s_lens underlying9 (pG_yes rfl (s_cutS (by omega) (by omega) (pG_yes rfl (pG_yes rfl (s_eqs (s_pick_t ?_)))))))))) 
        by_cases he : S.shown[i].1.extract 0 p.size = p
        · have hh : hasP p S.shown[i].1 = true := by unfold hasP; rw [decide_eq_true hsz,decide_eq_true he]; rfl
          rw [show ((p.size : Int)).toNat = p.size from rfl,decide_eq_true he]
          refine pC_true (pl22 hn rfl (by intro u hu; simp at hu; subst hu; rfl) (by omega) hf.size fun u3 v3 w3 h3 f3 hb3 => ?_)
          rw [F157_2_eq]
          refine next _ _ (hf.trans f3 fun x hx => .inr (own_blk_lt hn hx.symm).1) e0 e1 e6 ?_
          have e : ([S.shown[i]].map (·.1)).filter (hasP p) = [S.shown[i].1] := by simp [hh]
          rw [e,List.length_append,List.map_append]; exact h3
        · have hh : hasP p S.shown[i].1 = false := by unfold hasP; rw [decide_eq_true hsz,decide_eq_false he]; rfl
          rw [show ((p.size : Int)).toNat = p.size from rfl,decide_eq_false he]
          refine pC_false ?_
          rw [F157_2_eq]
          refine next _ _ hf e0 e1 e6 ?_
          have e : ([S.shown[i]].map (·.1)).filter (hasP p) = [] := by simp [hh]
          rw [e,List.append_nil]; exact hn
      · have hh : hasP p S.shown[i].1 = false := by unfold hasP; rw [decide_eq_false hsz]; rfl
        refine s_ge_f (by omega) ?_
        repeat (first | refine pG_sk ?_ | refine pG_un ?_)
        refine s_pick_f (pC_false ?_)
        rw [F157_2_eq]
        refine next _ _ hf e0 e1 e6 ?_
        have e : ([S.shown[i]].map (·.1)).filter (hasP p) = [] := by simp [hh]
        rw [e,List.append_nil]; exact hn
    · refine s_lt_f (by omega) (pC_false ?_)
      rw [F157_3_eq]
      unfold F157_3
      rw [List.take_of_length_le (by omega)] at hn
      exact hk w' _ (Src.of_own hn) (fun b hb => own_blk_lt hn hb) hf
theorem r_round {picks:List Int} {pv:Value} (hp:Src w pv 1 picks.length (picks.map i64)) (j n:Nat) (hn:n ≤ 4611686018427387904) (hj:j ≤ 4611686018427387904) (hk:k (i64 (pickA picks j n)) w) : pFn P 168 [pv,i64 j,i64 n] w k := by
 refine F168_in _ _ _ _ _ ?_
 unfold F168_0
 refine s_lenS usl58 hp ?_
 by_cases h : j < picks.length
 ·refine s_ge_f (by omega) (pC_false ?_)
  refine s_elem (u := i64 picks[j]) usl58 (sze58 _) (isAgg3 _) hp h (by simp [h]) fun _ => ?_
  obtain ⟨e1,e2,e3⟩ := tmod_up picks[j] (n + 1) (by omega)
  have hpk : pickA picks j n = ((picks[j]).emod (n + 1)).toNat := by unfold pickA roundA; rw [List.getElem?_eq_getElem h]
  have he := Int.emod_nonneg picks[j] (show (n + 1 : Int) ≠ 0 by omega)
  have hlt := Int.emod_lt_of_pos picks[j] (show (0 : Int) < n + 1 by omega)
  refine s_add_in (by omega) (s_rem (by omega) ?_)
  by_cases hneg : (picks[j]).tmod (n + 1) < 0
  ·rw [if_pos hneg] at e1
   refine s_lt_t hneg (pC_true (s_add_in (by omega) (s_add_in (by omega) ?_)))
   rw [F168_1_eq]
   unfold F168_1
   rw [hpk] at hk
   have : (picks[j]).tmod (n + 1) + n + 1 = (((picks[j]).emod (n + 1)).toNat : Int) := by
    rw [show (((picks[j]).emod (n + 1)).toNat : Int) = picks[j].emod (n + 1) from Int.toNat_of_nonneg he]; omega
   show k (i64 ((picks[j]).tmod (n + 1) + n + 1)) w
   rw [this]; exact hk
  ·rw [if_neg hneg] at e1
   refine s_lt_f hneg (pC_false ?_)
   rw [F168_1_eq]
   unfold F168_1
   rw [hpk] at hk
   have : (picks[j]).tmod (n + 1) = (((picks[j]).emod (n + 1)).toNat : Int) := by
    rw [show (((picks[j]).emod (n + 1)).toNat : Int) = picks[j].emod (n + 1) from Int.toNat_of_nonneg he]; exact e1
   show k (i64 ((picks[j]).tmod (n + 1))) w
   rw [this]; exact hk
 ·have hpk : pickA picks j n = 0 := by unfold pickA; rw [List.getElem?_eq_none (by omega)]
  rw [hpk] at hk
  exact s_ge_t (by omega) (pC_true hk)
theorem r_new {room:Int} (hb:¬ (1 ≤ room ∧ room ≤ 1048576) → k (.tuple #[.pointer none,i64 1]) w)
    (hk:1 ≤ room ∧ room ≤ 1048576 → ∀ w' L',RRep w' w.heap.size (AD.new room) (fun b => b = w.heap.size) no L' → Fr no w w' → w'.heap.size = w.heap.size + 1 → k (.tuple #[ptr w.heap.size,i64 0]) w') : pFn P 99 [i64 room] w k := by
  refine F99_in _ _ _ ?_
  unfold F99_0
  by_cases h1 : room < 1
  · refine s_lt_t h1 ?_
    repeat (first | refine pG_skf ?_ | refine pG_un ?_)
    exact s_pick_t (pC_true (hb (by omega)))
  refine s_lt_f h1 (pG_yes rfl (pG_yes rfl ?_))
  by_cases h2 : room > 1048576
  · exact s_gt_t h2 (s_pick_f (pC_true (hb (by omega))))
  refine s_gt_f h2 (s_pick_f (pC_false ?_))
  refine px_ok (w' := w) (v := .agg #[.bool true,i64 room,.slice none 0 0,.slice none 0 0,.slice none 0 0,i64 0,i64 0,i64 0,i64 0,i64 0,.slice none 0 0]) (by kernel_rfl) (s_box ?_)
  have b1 := alloc_new w (.cells #[.bool true,i64 room,.slice none 0 0,.slice none 0 0,.slice none 0 0,i64 0,i64 0,i64 0,i64 0,i64 0,.slice none 0 0] 245)
  have f1 := Fr.alloc no w (.cells #[.bool true,i64 room,.slice none 0 0,.slice none 0 0,.slice none 0 0,i64 0,i64 0,i64 0,i64 0,i64 0,.slice none 0 0] 245)
  have z1 : (w.alloc (.cells #[.bool true,i64 room,.slice none 0 0,.slice none 0 0,.slice none 0 0,i64 0,i64 0,i64 0,i64 0,i64 0,.slice none 0 0] 245)).heap.size = w.heap.size + 1 := by simp
  show k _ (w.alloc (.cells #[.bool true,i64 room,.slice none 0 0,.slice none 0 0,.slice none 0 0,i64 0,i64 0,i64 0,i64 0,i64 0,.slice none 0 0] 245))
  generalize w.alloc (.cells #[.bool true,i64 room,.slice none 0 0,.slice none 0 0,.slice none 0 0,i64 0,i64 0,i64 0,i64 0,i64 0,.slice none 0 0] 245) = w1 at *
  refine hk (by omega) w1 ⟨no,fun _ => 0,fun _ => .slice none 0 0,.slice none 0 0,.slice none 0 0,.slice none 0 0,.slice none 0 0⟩ ⟨b1,⟨Src.nil _ _,(by rintro b hb; cases hb)⟩,⟨Src.nil _ _,(by rintro b hb; cases hb)⟩,⟨rfl,.inl ⟨rfl,rfl⟩⟩,⟨rfl,.inl ⟨rfl,rfl⟩⟩,?_,fun t h => h.elim,fun t h => h.elim,fun t u h => h.elim,fun t u h => h.elim,rfl,(by rintro b hb; cases hb),(by rintro b hb; cases hb),fun b _ h => h,?_⟩ f1 z1
  · rintro t (⟨n,ht⟩ | ⟨n,ht⟩ | ⟨n,ht⟩) <;> cases ht
  · rintro b (rfl | hb)
    · omega
    · exact hb.elim
end
section
variable {w w0:World} {D:Nat} {S S':AD} {O I:Nat → Prop} {L L':RLay} {k:KV}
end
end Go.Proofs.YteeeggphkhimcaaGreatDoor

namespace Go.Proofs.XRow
open Go Go.ChangeShapes Go.WideShapes Go.ChangeAt Go.RowKit Go.Proofs.XRed Go.Proofs.XHeap Go.Proofs.XSlices
section
variable {H:Type} {enc:TypeId × Value → H} {P:Program}
theorem post_of_below {f:Func} {s:ChangeSpec} {apart fresh handsOn again:Bool} {W W':World} {args:Array Value} {v:Value} {ds gs:List (DataW H)} {before pa pv:List MemPlace}
    (hW:DataW.Whole enc P f.params.toList s.vars apart W args.toList ds gs before) (hb:Below W.heap.size W W')
    (hres:∀ (b:Nat) (sp:Nat → Bool) (hd:Bool),DataW.TrodAll enc P W' b sp hd f.resultTypes.toList (v.resultList f.resultTypes.size) (s.fn H (ds ++ gs)).results [])
    (hargs:∀ sp : Nat → Bool,(∀ p ∈ before,sp p.block = true) → DataW.TrodAll enc P W' 0 sp true f.params.toList args.toList (s.fn H (ds ++ gs)).args pa)
    (hvars:∀ sp : Nat → Bool,(∀ p ∈ before,sp p.block = true) → DataW.TrodVars enc P W' sp s.vars (s.fn H (ds ++ gs)).vars pv)
    (hps:before = pa ++ pv)
    (hok:∀ (j:Nat) (t:TypeId) (r:Value),f.resultTypes[j]? = some t → (v.resultList f.resultTypes.size)[j]? = some r → Value.okWide P W' .any 0 t r) :
    s.post enc P f apart fresh handsOn again W args v W' := by
  have hold : ∀ p ∈ before,(fun b => decide (b < W.heap.size)) p.block = true := fun p hp => by simpa using hW.lt p hp
  refine ⟨ds,gs,before,[],pa,pv,hW,hres _ _ _,hargs _ hold,hvars _ hold,hb.frame _,fun _ => ?_⟩
  have hlt := hW.lt
  obtain ⟨_,_,_,_,_,hz,hn⟩ := hW
  refine ⟨hok,_,_,([] ++ pa) ++ pv,⟨[] ++ pa,pv,trodAll_append (hargs _ (fun _ _ => rfl)) (hres _ _ _),hvars _ (fun _ _ => rfl),rfl,?_,?_⟩,?_⟩
  · intro b off hp
    have hp' : MemPlace.cell b off ∈ before := by rw [hps]; simpa using hp
    have h1 := hz b off hp'
    have h2 : b < W.heap.size := hlt _ hp'
    unfold World.frozen? at *
    rw [hb.block _ h2]
    exact h1
  · intro ha
    have := hn ha
    rw [hps] at this
    simpa using this
  · intro p hp _
    rw [hps]
    simpa using hp
theorem stays {t:TypeId} (hl:laidOutB P = true) (hr:P.readableRec t = true) (hrow:t < P.types.size) {W W':World} {v:Value} {d:DataW H} {ps:List MemPlace} {sp:Nat → Bool}
    (h:DataW.Trod enc P W 0 (fun _ => true) true t v d ps) (hb:Below W.heap.size W W') (hlt:∀ x ∈ ps,x.block < W.heap.size) (hs:∀ x ∈ ps,sp x.block = true) : DataW.Trod enc P W' 0 sp true t v d ps :=
  WideElems.Trod_stays hl hr hrow h (fun x hx => hb.same (hlt x hx)) hs
def Fine (W:World) (v:Value) (w':World) : Prop := v = .bool true ∧ Below W.heap.size W w'
theorem fine {O:Nat → Prop} {W:World} (hO:∀ b,O b → W.heap.size ≤ b) : ∀ w',Fr O W w' → Fine W (.bool true) w' := fun w' hf => ⟨rfl,hf.to_below hO (Nat.le_refl _)⟩
theorem calls_true {f : FuncId} {fn : Func} (hf : P.funcs[f]? = some fn) (hname : (fn.name == "runtime.NumGoroutine") = false) (hbody : fn.body.isNone = false) {args : List Value} {W : World} (h : pFn P f args W (Fine W)) :
    Calls P f args.toArray W fun e w' => e = .returned (.bool true) ∧ Below W.heap.size W w' := by
  refine (calls_of_pFn hf hname hbody h).mono ?_
  rintro e w' ⟨v,rfl,rfl,hb⟩
  exact ⟨rfl,hb⟩
end
end Go.Proofs.XRow

namespace Go.Proofs.YteeeggphkhimcaaGreatDoor
open Go Go.ChangeShapes Go.WideShapes Go.ChangeAt Go.RowKit Go.Proofs Go.Proofs.XRed Go.Proofs.XHeap Go.Proofs.XSlices Go.Proofs.XRow Go.Proofs.XDisk Tryz
section
variable {H:Type} {enc:TypeId × Value → H}
theorem bulk_one (d:DataW H) : 1 ≤ Rows.uptoBulk d := by
 cases d with
 | lit l => cases l <;> simp [Rows.uptoBulk]
 | nil => simp [Rows.uptoBulk]
 | ptr d => simp [Rows.uptoBulk]
 | slice elems spare => simp [Rows.uptoBulk]
 | agg parts => simp [Rows.uptoBulk]
 | iface t d => simp [Rows.uptoBulk]
 | map entries => simp [Rows.uptoBulk]
 | held h => simp [Rows.uptoBulk]
theorem bulk_part {d:DataW H} {l:List (DataW H)} (h:d ∈ l) : Rows.uptoBulk d ≤ Rows.uptoBulkAll l := by
 induction l with
 | nil => cases h
 | cons x r ih =>
  simp only [Rows.uptoBulkAll]
  cases List.mem_cons.1 h with
  | inl e => subst e; omega
  | inr e => have := ih e; omega
theorem bulk_len (l:List (DataW H)) : l.length ≤ Rows.uptoBulkAll l := by
 induction l with
 | nil => simp [Rows.uptoBulkAll]
 | cons x r ih => have := bulk_one x; simp only [Rows.uptoBulkAll,List.length_cons]; omega
theorem bulk_agg {d:DataW H} {l:List (DataW H)} (h:d ∈ l) : Rows.uptoBulk d ≤ Rows.uptoBulk (.agg l) := by
 have := bulk_part h
 simp only [Rows.uptoBulk]; omega
theorem bulk_elem {d:DataW H} {l m:List (DataW H)} (h:d ∈ l) : Rows.uptoBulk d ≤ Rows.uptoBulk (.slice l m) := by
 have := bulk_part h
 simp only [Rows.uptoBulk]; omega
theorem bulk_slice (l m:List (DataW H)) : l.length ≤ Rows.uptoBulk (.slice l m) := by
 have := bulk_len l
 simp only [Rows.uptoBulk]; omega
variable {W:World}
def Len (d:DataW H) (n:Nat) : Prop := n = 0 ∨ ∃ e s,d = .slice e s ∧ e.length = n
theorem Len.bulk {d:DataW H} {n:Nat} (h:Len d n) : n ≤ Rows.uptoBulk d := by
 rcases h with rfl | ⟨e,s,rfl,rfl⟩
 ·exact Nat.zero_le _
 ·exact bulk_slice e s
theorem open_bytes {fuel:Nat} {cs:List Value} {x:DataW H × List MemPlace} (h:DataW.trod enc prog W 0 (fun _ => true) true fuel 23 cs = some x) : ∃ (dv:Value) (d:Bytes),cs = [dv] ∧ SBytes W dv d ∧ Len x.1 d.length := by
 rcases open_ints underlying23 underlying5 (by kernel_rfl) h with ⟨rfl,rfl⟩ | ⟨a,len,cap,zs,rfl,_,hl,hm,hz,rfl,hcell,hwf⟩
 ·exact ⟨_,[],rfl,SBytes.nil _,.inl rfl⟩
 ·simp only [if_true] at hz
  have hbyte : ∀ z ∈ zs,((UInt8.ofNat z.toNat).toNat : Int) = z := by
   intro z hz
   have hb := hwf z hz
   simp only [Lit.wf,IntKind.min,IntKind.max,IntKind.signed,IntKind.bits] at hb
   simp at hb
   have : (UInt8.ofNat z.toNat).toNat = z.toNat := by simp; omega
   rw [this]; omega
  have hlen : ((zs.take len).map fun z => UInt8.ofNat z.toNat).length = len := by simp; omega
  refine ⟨_,(zs.take len).map fun z => UInt8.ofNat z.toNat,rfl,?_,?_⟩
  ·unfold SBytes
   rw [hlen]
   obtain ⟨b,off,spot⟩ := a
   refine ⟨some ⟨b,off,spot⟩,cap,rfl,hl,by simp [u8s]; omega,fun h0 => ?_⟩
   have hspot : spot = none := by simpa [Addr.add] using World.cell?_spot (hcell 0 (by omega))
   subst hspot
   refine ⟨b,off,rfl,fun j u hj => ?_⟩
   unfold u8s at hj
   rw [List.map_map,List.getElem?_map] at hj
   obtain ⟨z,hz',rfl⟩ := Option.map_eq_some_iff.1 hj
   have hjl : j < len := by
    have := (List.getElem?_eq_some_iff.1 hz').1
    simp at this; omega
   rw [List.getElem?_take_of_lt hjl] at hz'
   have := hcell j (by omega)
   rw [add_at,List.getD,hz'] at this
   rw [this]
   show some (Value.int .u8 z) = some (Value.int .u8 ((UInt8.ofNat z.toNat).toNat : Int))
   rw [hbyte z (List.mem_of_getElem? hz')]
  ·rw [hlen]
   exact .inr ⟨lits .u8 (zs.take len),lits .u8 (zs.drop len),rfl,by simp [lits]; omega⟩
theorem open_intsV {fuel:Nat} {cs:List Value} {x:DataW H × List MemPlace} (h:DataW.trod enc prog W 0 (fun _ => true) true fuel 58 cs = some x) : ∃ (dv:Value) (d:List Int),cs = [dv] ∧ Src W dv 1 d.length (d.map fun n => .int .i64 n) ∧ Len x.1 d.length := by
 rcases open_ints underlying58 underlying3 (by kernel_rfl) h with ⟨rfl,rfl⟩ | ⟨a,len,cap,zs,rfl,_,hl,hm,hz,rfl,hcell,hwf⟩
 ·exact ⟨_,[],rfl,Src.nil _ _,.inl rfl⟩
 ·simp only [if_true] at hz
  have hlen : (zs.take len).length = len := by simp; omega
  refine ⟨_,zs.take len,rfl,?_,?_⟩
  ·rw [hlen]
   obtain ⟨b,off,spot⟩ := a
   refine ⟨some ⟨b,off,spot⟩,cap,rfl,hl,by simp; omega,fun h0 => ?_⟩
   have hspot : spot = none := by simpa [Addr.add] using World.cell?_spot (hcell 0 (by omega))
   subst hspot
   refine ⟨b,off,rfl,fun j u hj => ?_⟩
   rw [List.getElem?_map] at hj
   obtain ⟨z,hz',rfl⟩ := Option.map_eq_some_iff.1 hj
   have hjl : j < len := by
    have := (List.getElem?_eq_some_iff.1 hz').1
    simp at this; omega
   rw [List.getElem?_take_of_lt hjl] at hz'
   have := hcell j (by omega)
   rw [add_at,List.getD,hz'] at this
   exact this
  ·rw [hlen]
   exact .inr ⟨lits .i64 (zs.take len),lits .i64 (zs.drop len),rfl,by simp [lits]; omega⟩
theorem i64_wf {n:Int} (h:(Lit.int .i64 n).wf = true) : -9223372036854775808 ≤ n ∧ n ≤ 9223372036854775807 := by
 simp only [Lit.wf,IntKind.min,IntKind.max,IntKind.signed,IntKind.bits] at h
 simp at h
 omega
end
theorem own1 : ownKnob prog.godebug = none := by kernel_rfl
theorem laid1 : laidOutB prog = true := by kernel_rfl
theorem et1 : P.globalNamed "errors.errorType" = some 0 := by kernel_rfl
theorem rt1 : (P.cutTypes.find? (·.1 == "internal/reflectlite.rtype")).map (·.2) = some 273 := by kernel_rfl
theorem oneRow1 : ((List.range P.types.size).filter fun t => P.rowNamed t [101,114,114,111,114]) = [31] := by kernel_rfl
theorem th1 : typeHandle P 31 = .pointer (some ⟨4,31,none⟩) := by kernel_rfl
theorem errT_of_handles {W : World} {l : List (String × DataW Unit)} (hm : ("errors.errorType", Rows.laid_errors_errorType) ∈ l) (h : handlesMet P l W) : ErrT W := by
 obtain ⟨name,u,ty,e1,e2,e3,e4,e5⟩ := h _ hm
 have en : name = [101,114,114,111,114] := (Option.some.inj e1).symm
 subst en
 obtain rfl := Option.some.inj (rt1.symm.trans e2)
 have hm : ty ∈ (List.range P.types.size).filter fun t => P.rowNamed t [101,114,114,111,114] := List.mem_filter.2 ⟨List.mem_range.2 e3,e4⟩
 rw [oneRow1] at hm
 obtain rfl := List.mem_singleton.1 hm
 rw [th1] at e5
 exact World.var?_cell et1 e5 0
def laidE : List (String × DataW Unit) := [("errors.errorType", Rows.laid_errors_errorType)]
theorem errT_of_laid {W:World} (h:laidMetH P laidE W) : ErrT W := by
 have h' : laidMet P [] W ∧ handlesMet P laidE W := h
 exact errT_of_handles (List.mem_singleton.2 rfl) h'.2
noncomputable def laidWorld (os:Os) : World :=
  let w0 := World.holding P os ⟨#[],#[],[]⟩
  { w0 with heap := w0.heap.modify 0 fun
      | .cells _ t frozen => .cells #[.iface 273 (.agg #[.pointer (some ⟨4,31,none⟩)])] t frozen
      | o => o }
theorem laidWorld_met (os:Os) (args:Array Value) : laidMetH P laidE ((laidWorld os).forCall (fun _ _ => 0) ⟨#[],args,[]⟩).memory :=
 laidMetH_of_parts (laidMet_nil _ _) (by kernel_rfl)
section
variable {H:Type} {enc:TypeId × Value → H} {W:World}
end
end Go.Proofs.YteeeggphkhimcaaGreatDoor

namespace Go.Proofs.YteeeggphkhimcaaGreatDoor
open Go Go.ChangeShapes Go.WideShapes Go.ChangeAt Go.RowKit Go.Proofs Go.Proofs.XRed Go.Proofs.XHeap Go.Proofs.XSlices Go.Proofs.XRow Tryz
theorem bulk_bound {H:Type} {l:List (DataW H)} (hk:Rows.uptoSmall H l = true) : Rows.uptoBulkAll l ≤ 1048576 := of_decide_eq_true hk
theorem returns_upto_laid {H:Type} {enc:TypeId × Value → H} {os:Os} {f:FuncId} {fn:Func} {s:OpenSpec} {k:(H:Type) → List (DataW H) → Bool} (hk:s.cond = some k) {F:Stop.Interp} {conds:List PathCond} {apart fresh handsOn again:Bool}
    (started:os.Started) (noInit:P.inits.idxOf? f = none) (hfn:P.funcs[f]? = some fn) {args0:Array Value} {x:List (DataW H) × List (DataW H) × List MemPlace}
    (hv:((laidWorld os).forCall (fun _ _ => 0) ⟨#[],args0,[]⟩).variablesB P = true)
    (hr:(((laidWorld os).forCall (fun _ _ => 0) ⟨#[],args0,[]⟩).heap.toList.drop P.globals.size).take ((begin P (fun _ _ => 0) default).world.heap.size - P.globals.size) = (begin P (fun _ _ => 0) default).world.heap.toList.drop P.globals.size)
    (hok:Input.okWideB P ((laidWorld os).forCall (fun _ _ => 0) ⟨#[],args0,[]⟩) f ⟨#[],args0,[]⟩ = true)
    (hx:DataW.whole enc P ((laidWorld os).forCall (fun _ _ => 0) ⟨#[],args0,[]⟩).memory fn.params.toList s.vars apart args0.toList 8 = some x)
    (hconds:conds.all (PathCond.test P ⟨fn.params.toList,x.1,s.bare.plain.varTypes P,x.2.1⟩) = true) (hkk:k H (x.1 ++ x.2.1) = true)
    (hsz:s.bare.sizedB enc P fn apart ((laidWorld os).forCall (fun _ _ => 0) ⟨#[],args0,[]⟩).memory args0 8 = true)
    (contract:∀ (W:World) (base:Nat) (args:Array Value) (ds gs:List (DataW H)) (before:List MemPlace),
      (∀ (j:Nat) t v,fn.params[j]? = some t → args[j]? = some v → Value.okWide P W .any base t v) →
      DataW.Whole enc P fn.params.toList s.vars apart W args.toList ds gs before →
      conds.all (PathCond.test P ⟨fn.params.toList,ds,s.bare.plain.varTypes P,gs⟩) = true → k H (ds ++ gs) = true → laidMetH P laidE W →
      ({} : Assume).holds P (lone (Frame.enter P f args .normal) [] W) →
      Calls P f args W fun e W' => ∃ v,e = .returned v ∧ (s.at F).post enc P fn apart fresh handsOn again W args v W') :
    ReturnsInHanded {} checked os f .any (fun w args => (s.pre enc P fn conds apart w args ∧ laidMetH P laidE w) ∧ sizedMet enc P fn s apart w args) ((s.at F).post enc P fn apart fresh handsOn again) := by
  refine returnsInHanded_of_calls (C := checked) own1 started noInit ⟨laidWorld os,fun _ _ => 0,⟨#[],args0,[]⟩,rfl,World.shaped_of_B hv hr,(Input.okWide_of_okWideB (base := 0) hok).1,(Input.okWide_of_okWideB hok).2,
    ⟨⟨(OpenSpec.pre_some hk conds apart _ _).2 ⟨x.1,x.2.1,x.2.2,DataW.Whole_of_whole hx,hconds,hkk⟩,laidWorld_met os _⟩,sizedMet_of_sizedB hsz⟩,by
      simp only [Assume.holds]
      exact ⟨by simp,by simp,fun _ => Modest.zero,by simp,by simp⟩⟩ ?_
  intro w tape i _ _ _ hok hpre hholds
  obtain ⟨_,_,_,fn',hfn',_,_,_,_,hval⟩ := hok
  have e : fn' = fn := Option.some.inj (hfn'.symm.trans hfn)
  subst e
  obtain ⟨ds,gs,before,hw,hc,hkk⟩ := (OpenSpec.pre_some hk conds apart _ _).1 hpre.1.1
  have hw' := DataW.Whole.of_heap (w' := w.forCall tape i) (by rfl) hw
  have hL : laidMetH P laidE (w.forCall tape i) := laidMetH.of_heap (w := (w.forCall tape i).memory) (w' := w.forCall tape i) rfl hpre.1.2
  refine (contract (w.forCall tape i) w.heap.size i.args ds gs before hval hw' hc hkk hL hholds).mono fun e W' ⟨v,he,hp⟩ => ?_
  subst he
  exact ChangeSpec.post_blind hp
end Go.Proofs.YteeeggphkhimcaaGreatDoor

namespace Go.Proofs.XSep
open Go Go.RowKit Go.Proofs.XRed Go.Proofs.XHeap
theorem Seps.at2 {w:World} {J:Blks} {a b:Asrt} : ∀ {l:List Asrt} {i j:Nat} {O I:Blks},Seps l w O I → (∀ b,O b → ¬ J b) → i ≠ j → l[i]? = some a → l[j]? = some b →
    ∃ O1 I1 O2 I2,a.h w O1 I1 ∧ b.h w O2 I2 ∧ (∀ x,O1 x → ¬ O2 x ∧ ¬ I2 x) ∧ (∀ x,O2 x → ¬ O1 x ∧ ¬ I1 x) ∧ (∀ b,O1 b → O b) ∧ (∀ b,I1 b → I b) ∧ ∀ c w' O' I',c.h w' O' I' → Nxt w O1 J w' O' I' → ∃ O3 I3,Seps (l.set i c) w' O3 I3 ∧ Fr O w w' ∧ (∀ b,O3 b → O b ∨ w.heap.size ≤ b) ∧ ∀ b,I3 b → I b ∨ J b ∨ w.heap.size ≤ b
  | [],_,_,_,_,_,_,_,h,_ => by simp at h
  | x :: l,0,0,_,_,_,_,h,_,_ => absurd rfl h
  | x :: l,0,j + 1,O,I,hs,hJ,_,hi,hj => by
    have hs0 := hs
    obtain ⟨Oa,Ia,Ob,Ib,h1,h2,h3,h4,h5⟩ := hs
    simp at hi; subst hi
    obtain ⟨O2,I2,g1,g2,g3,_⟩ := h2.at_ (J := fun _ => False) (i := j) (a := b) (fun _ _ h => h) (by simpa using hj)
    refine ⟨Oa,Ia,O2,I2,h1,g1,fun x hx => ⟨fun h => (h3.1 x hx).1 (g2 x h),fun h => (h3.1 x hx).2 (g3 x h)⟩,fun x hx => h3.2 x (g2 x hx),fun b hb => (h4 b).2 (.inl hb),fun b hb => (h5 b).2 (.inl hb),fun c w' O' I' hc hn => ?_⟩
    refine ⟨fun b => O' b ∨ Ob b,fun b => I' b ∨ Ib b,⟨O',I',Ob,Ib,hc,Seps.fr hn.fr h2 h3.1,⟨fun b hb => ?_,fun b hb => ?_⟩,fun _ => Iff.rfl,fun _ => Iff.rfl⟩,?_,?_,?_⟩
    · rcases hn.on b hb with h | h
      · exact h3.1 b h
      · exact ⟨fun h' => absurd (h2.lt b (.inl h')) (by omega),fun h' => absurd (h2.lt b (.inr h')) (by omega)⟩
    · have hlt := h2.lt b (.inl hb)
      refine ⟨fun h => ?_,fun h => ?_⟩
      · rcases hn.on b h with h | h
        · exact (h3.1 b h).1 hb
        · omega
      · rcases hn.in_ b h with h | h
        · exact hJ b ((h4 b).2 (.inr hb)) h
        · omega
    · exact hn.fr.mono fun b hb => .inl ((h4 b).2 (.inl hb))
    · rintro b (hb | hb)
      · exact (hn.on b hb).imp (fun h => (h4 b).2 (.inl h)) id
      · exact .inl ((h4 b).2 (.inr hb))
    · rintro b (hb | hb)
      · exact .inr (hn.in_ b hb)
      · exact .inl ((h5 b).2 (.inr hb))
  | x :: l,i + 1,j,O,I,⟨O1,I1,O2,I2,h1,h2,h3,h4,h5⟩,hJ,hij,hi,hj => by
    have main : ∀ Oa Ia,a.h w Oa Ia → (∀ b,Oa b → O2 b) → (∀ b,Ia b → I2 b) → (∀ c w' O' I',c.h w' O' I' → Nxt w Oa J w' O' I' → ∃ O3 I3,Seps (l.set i c) w' O3 I3 ∧ Fr O2 w w' ∧ (∀ b,O3 b → O2 b ∨ w.heap.size ≤ b) ∧ ∀ b,I3 b → I2 b ∨ J b ∨ w.heap.size ≤ b) →
        ∀ c w' O' I',c.h w' O' I' → Nxt w Oa J w' O' I' → ∃ O3 I3,Seps ((x :: l).set (i + 1) c) w' O3 I3 ∧ Fr O w w' ∧ (∀ b,O3 b → O b ∨ w.heap.size ≤ b) ∧ ∀ b,I3 b → I b ∨ J b ∨ w.heap.size ≤ b := by
      intro Oa Ia ha ho hi2 hs c w' O' I' hc hn
      obtain ⟨O3,I3,hs3,hf,hon,hin⟩ := hs c w' O' I' hc hn
      refine ⟨fun b => O1 b ∨ O3 b,fun b => I1 b ∨ I3 b,⟨O1,I1,O3,I3,x.fr h1 hf h3.2,hs3,⟨fun b hb => ?_,fun b hb => ?_⟩,fun _ => Iff.rfl,fun _ => Iff.rfl⟩,?_,?_,?_⟩
      · have hlt := x.lt h1 b (.inl hb)
        refine ⟨fun h => ?_,fun h => ?_⟩
        · rcases hon b h with h | h
          · exact (h3.1 b hb).1 h
          · omega
        · rcases hin b h with h | h | h
          · exact (h3.1 b hb).2 h
          · exact hJ b ((h4 b).2 (.inl hb)) h
          · omega
      · rcases hon b hb with h | h
        · exact h3.2 b h
        · exact ⟨fun h' => absurd (x.lt h1 b (.inl h')) (by omega),fun h' => absurd (x.lt h1 b (.inr h')) (by omega)⟩
      · exact hf.mono fun b hb => .inl ((h4 b).2 (.inr hb))
      · rintro b (hb | hb)
        · exact .inl ((h4 b).2 (.inl hb))
        · exact (hon b hb).imp (fun h => (h4 b).2 (.inr h)) id
      · rintro b (hb | hb)
        · exact .inl ((h5 b).2 (.inl hb))
        · rcases hin b hb with h | h
          · exact .inl ((h5 b).2 (.inr h))
          · exact .inr h
    cases j with
    | zero =>
      simp at hj; subst hj
      obtain ⟨Oa,Ia,ha,ho,hi2,hs⟩ := h2.at_ (J := J) (i := i) (a := a) (fun b hb => hJ b ((h4 b).2 (.inr hb))) (by simpa using hi)
      exact ⟨Oa,Ia,O1,I1,ha,h1,fun y hy => h3.2 y (ho y hy),fun y hy => ⟨fun h => (h3.1 y hy).1 (ho y h),fun h => (h3.1 y hy).2 (hi2 y h)⟩,fun b hb => (h4 b).2 (.inr (ho b hb)),fun b hb => (h5 b).2 (.inr (hi2 b hb)),main Oa Ia ha ho hi2 hs⟩
    | succ j =>
      obtain ⟨Oa,Ia,Oc,Ic,ha,hc,g1,g2,ho,hi2,hs⟩ := Seps.at2 (J := J) (i := i) (j := j) h2 (fun b hb => hJ b ((h4 b).2 (.inr hb))) (by omega) (by simpa using hi) (by simpa using hj)
      exact ⟨Oa,Ia,Oc,Ic,ha,hc,g1,g2,fun b hb => (h4 b).2 (.inr (ho b hb)),fun b hb => (h5 b).2 (.inr (hi2 b hb)),main Oa Ia ha ho hi2 hs⟩
theorem Sep.at2 {l:List Asrt} {w:World} (h:Sep l w) (i j:Nat) {a b:Asrt} (hij:i ≠ j) (hi:l[i]? = some a) (hj:l[j]? = some b) :
    ∃ O I O2 I2 J,a.h w O I ∧ b.h w O2 I2 ∧ (∀ x,O x → ¬ O2 x ∧ ¬ I2 x) ∧ (∀ x,O2 x → ¬ O x ∧ ¬ I x) ∧ (∀ b,I b → J b) ∧ (∀ b,O b → ¬ J b) ∧ ∀ c w' O' I',c.h w' O' I' → Nxt w O J w' O' I' → Sep (l.set i c) w' := by
  obtain ⟨O,I,hs⟩ := h
  obtain ⟨O1,I1,O2,I2,h1,h2,g1,g2,h3,h4,h5⟩ := hs.at2 (J := I) hs.ap hij hi hj
  refine ⟨O1,I1,O2,I2,I,h1,h2,g1,g2,h4,fun b hb => hs.ap b (h3 b hb),fun c w' O' I' hc hn => ?_⟩
  obtain ⟨O3,I3,h6,-⟩ := h5 c w' O' I' hc hn
  exact ⟨O3,I3,h6⟩
theorem perm_front {α:Type} : ∀ {l:List α} {i:Nat} {a:α},l[i]? = some a → l.Perm (a :: l.eraseIdx i)
 | [],_,_,h => by simp at h
 | x :: l,0,a,h => by simp at h; subst h; exact .refl _
 | x :: l,i + 1,a,h => (List.Perm.cons x (perm_front (l := l) (i := i) (by simpa using h))).trans (List.Perm.swap _ _ _)
theorem Sep.front {w:World} {l:List Asrt} (h:Sep l w) (i:Nat) {a:Asrt} (hi:l[i]? = some a) : Sep (a :: l.eraseIdx i) w := h.perm (perm_front hi)
theorem Sep.erase {w:World} {l:List Asrt} (h:Sep l w) (i:Nat) {a:Asrt} (hi:l[i]? = some a) : Sep (l.eraseIdx i) w := (h.front i hi).drop
open Go.Proofs.XSlices
def OwnA (te sz:Nat) (v:Value) (n:Nat) (cs:List Value) : Asrt where
 h w O I := w.ownsRow 0 te sz v n cs ∧ (∀ b,O b ↔ sblk v = some b) ∧ ∀ b,¬ I b
 fr := fun ⟨h1,h2,h3⟩ hf hm => ⟨own_fr h1 hf fun b hb h => (hm b h).1 ((h2 b).2 hb),h2,h3⟩
 lt := fun ⟨h1,h2,h3⟩ b hb => hb.elim (fun h => (own_blk_lt h1 ((h2 b).1 h)).2) fun h => absurd h (h3 b)
 ap := fun ⟨_,_,h3⟩ b _ => h3 b
variable {w:World} {l:List Asrt} {ix:Nat} {te sz n:Nat} {v:Value} {cs:List Value}
theorem Sep.own (h:Sep l w) (ix:Nat) (hix:l[ix]? = some (OwnA te sz v n cs)) : w.ownsRow 0 te sz v n cs := by
 obtain ⟨O,I,h,_⟩ := h.get ix hix; exact h
theorem Sep.ownset (h:Sep l w) (ix:Nat) (hix:l[ix]? = some (OwnA te 1 v n cs)) {i:Nat} (hi:i < n) : ∃ g cap cur,v = .slice (some ⟨g,0,none⟩) n cap ∧ w.heap[g]? = some (.cells cur te (0,0)) ∧ i < cur.size ∧ ∀ u,Sep (l.set ix (OwnA te 1 v n (cs.set i u))) (w.setCell ⟨g,i,none⟩ u) := by
 obtain ⟨O,I,J,⟨h1,h2,h3⟩,-,-,hs⟩ := h.at_ ix hix
 obtain ⟨g,cap,cur,hv,hnc,-,hg,hi',-,hset⟩ := own_at h1 (i := i) (by omega)
 refine ⟨g,cap,cur,hv,hg,hi',fun u => hs _ _ O I ⟨hset u,h2,h3⟩ ⟨(Fr.setCell w ⟨g,i,none⟩ u).mono fun b hb => .inl ((h2 b).2 (by rw [hv,show b = g from hb]; rfl)),fun b => .inl,fun b hb => absurd hb (h3 b)⟩⟩
theorem Sep.ownapp {w':World} {v':Value} {m:Nat} {new:List Value} (h:Sep l w) (ix:Nat) (hix:l[ix]? = some (OwnA te sz v n cs)) (ho:w'.ownsRow 0 te sz v' (n + m) (cs ++ new)) (hf:Fr (fun b => some b = sblk v) w w') (hb:sblk v' = sblk v ∨ sblk v' = some w.heap.size) :
    Sep (l.set ix (OwnA te sz v' (n + m) (cs ++ new))) w' := by
  obtain ⟨O,I,J,⟨h1,h2,h3⟩,-,-,hs⟩ := h.at_ ix hix
  refine hs _ w' (fun b => sblk v' = some b) I ⟨ho,fun _ => Iff.rfl,h3⟩ ⟨hf.mono fun b hb => .inl ((h2 b).2 hb.symm),fun b hb' => ?_,fun b hb => absurd hb (h3 b)⟩
  rcases hb with e | e
  · exact .inl ((h2 b).2 (e ▸ hb'))
  · rw [e] at hb'; injection hb' with hb'; exact .inr (by omega)
theorem Sep.newrow {w':World} {M:Blks} (h:Sep l w) (hf:Fr M w w') (hm:∀ b,M b → w.heap.size ≤ b) (ho:w'.ownsRow 0 te sz v n cs) (hb:∀ b,sblk v = some b → w.heap.size ≤ b) : Sep (OwnA te sz v n cs :: l) w' :=
 h.new (O' := fun b => sblk v = some b) (I' := fun _ => False) hf hm ⟨ho,fun _ => Iff.rfl,fun _ h => h⟩ hb fun b hb => hb.elim
end Go.Proofs.XSep
