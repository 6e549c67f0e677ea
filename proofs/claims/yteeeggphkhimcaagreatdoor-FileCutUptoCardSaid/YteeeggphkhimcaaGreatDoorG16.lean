/- Put together by a program (wip/tools/shake.py): CLoad2,XMove,XDefer,File,Pair0,R6,File2. -/
import Derived.Test.YteeeggphkhimcaaGreatDoorG15
import Derived.Test.YteeeggphkhimcaaGreatDoorG1
import Derived.Defers
import Derived.Test.YteeeggphkhimcaaGreatDoorG14
import Derived.Test.YteeeggphkhimcaaGreatDoorG13
import Derived.Test.YteeeggphkhimcaaGreatDoorG7
import Derived.Laws.Tables
import Derived.Test.YteeeggphkhimcaaGreatDoorProg
import Derived.Test.YteeeggphkhimcaaGreatDoorMix
set_option linter.unusedVariables false
set_option linter.unusedSimpArgs false
set_option maxRecDepth 100000
namespace Go.Proofs.YteeeggphkhimcaaGreatDoor
open Go Go.Proofs Go.RowKit Go.Proofs.XRed Go.Proofs.XHeap Go.Proofs.XMaps Go.Proofs.XSlices Go.Proofs.XDisk Go.Proofs.XCalls Go.Proofs.XSep Tryz
section
variable {W w w0:World} {D E:Nat} {S S':AD} {O I:Nat → Prop} {L L':Lay} {k:KV} {room:Int} {v:Value} {l:FilesL}
abbrev LoadC (W:World) (room:Int) (l:FilesL) (E i:Nat) (w:World) : Prop :=
 ∃ O I L,DRep w E (AD.loadTo room l.plain i) O I L ∧ (∀ b,O b ∨ I b → W.heap.size ≤ b) ∧ Fr no W w ∧ ∀ j,j < i → dupAt room l.plain j = false
theorem plain_at' {l:FilesL} {i:Nat} (hi:i < l.length) : l.plain[i]'(by unfold FilesL.plain; simpa using hi) = l[i].1 := by unfold FilesL.plain; simp
theorem dup_true' {i:Nat} (hi:i < l.length) : dupAt room l.plain i = (alGet (AD.loadTo room l.plain i).shown l[i].1.1).isSome := by
 unfold dupAt FilesL.plain
 rw [List.getElem?_map,List.getElem?_eq_getElem hi]; rfl
set_option maxHeartbeats 2000000 in
theorem c_load1 (hr:1 ≤ room ∧ room ≤ 1048576) (hv:FilesS W v l) (hl:l.length ≤ 256) (hd:∀ p ∈ l,p.1.2.length ≤ 1048576) (hnm:∀ f ∈ l.plain,isName f.1 = true)
    (hdup:(List.range l.plain.length).any (dupAt room l.plain) = true → ∀ w',Fr no W w' → k (.tuple #[.pointer none,i64 52]) w')
    (hk:(∀ j,j < l.length → dupAt room l.plain j = false) → ∀ (ρ:Env) w',ρ 0 = i64 room → ρ 6 = ptr E → LoadC W room l E l.length w' → F93_2 k ρ w')
    {ρ:Env} {w:World} (e0:ρ 0 = i64 room) (e6:ρ 6 = ptr E) (e28:ρ 28 = v) (e29:ρ 29 = i64 l.length) (e30:ρ 30 = i64 0) (h:LoadC W room l E 0 w) : F93L1 k ρ w := by
  have hpl : l.plain.length = l.length := by unfold FilesL.plain; simp
  have hsz : ∀ f ∈ l.plain,f.1.size ≤ 112 := fun f hf => by
    have := hnm f hf
    unfold isName at this
    simp only [Bool.and_eq_true,decide_eq_true_eq] at this
    exact this.2
  have hdl : ∀ f ∈ l.plain,f.2.length ≤ 1048576 := fun f hf => by obtain ⟨p,hp,rfl⟩ := List.mem_map.1 hf; exact hd p hp
  refine F93L1_inv (m := l.length) k (fun m ρ w' => ∃ i : Nat,i + m = l.length ∧ ρ 0 = i64 room ∧ ρ 6 = ptr E ∧ ρ 28 = v ∧ ρ 29 = i64 l.length ∧ ρ 30 = i64 i ∧ LoadC W room l E i w') ?_
    ⟨0,by omega,e0,e6,e28,e29,e30,h⟩
  rintro m ρ w' ⟨i,him,e0,e6,e28,e29,e30,h⟩
  rw [F93_1_eq]
  unfold F93_1
  obtain ⟨O,I,L,hrep,hlow,hfr,hdj⟩ := id h
  rw [e28,e29,e30,e6]
  have hload := loading_to hr (l := l.plain) (by omega) hsz hdl i (by omega) hdj
  by_cases hi : i < l.length
  · obtain ⟨b,o,c,ev,c0,c1⟩ := (hv.fr hfr).at_ hi
    refine s_lt_t (by omega) (pC_true ?_)
    rw [ev]
    refine s_ix (i := (i:Int)) usl36 (sze36 _) (by omega) (by omega) (s_ld2 (isAgg107 _) (sizeOf107 _) (by simpa using c0) (by simpa using c1) ?_)
    refine s_alloc (zeroValue107 _) ?_
    have bF := alloc_new w' (.cells #[.string .empty,.slice none 0 0] 107)
    have fF := Fr.alloc no w' (.cells #[.string .empty,.slice none 0 0] 107)
    have zF : (w'.alloc (.cells #[.string .empty,.slice none 0 0] 107)).heap.size = w'.heap.size + 1 := by simp
    show pu P _ (w'.alloc (.cells #[.string .empty,.slice none 0 0] 107)) _
    generalize w'.alloc (.cells #[.string .empty,.slice none 0 0] 107) = w1 at *
    have hbb := (hv.fr hfr).all _ (List.getElem_mem hi)
    have hbl := hd _ (List.getElem_mem hi)
    obtain ⟨Ab,cb,eb,-⟩ := hbb.form
    refine s_stN (n := 2) (vs := [.string l[i].1.1,l[i].2]) (sizeOf107 _) rfl (by intro u hu; simp at hu; rcases hu with rfl | rfl <;> first | rfl | (rw [eb]; rfl)) bF (by show 0 + 2 ≤ 2; decide) fun w2 b2 f2 z2 => ?_
    have b2 : w2.heap[w'.heap.size]? = some (.cells #[.string l[i].1.1,l[i].2] 107 (0,0)) := by rw [b2]; simp
    have f02 : Fr no w' w2 := fF.trans f2 fun b hb => .inr (by omega)
    have fd : Fr no w' w2.drew := f02.trans (Fr.drew _ _) fun b hb => .inl hb
    have bd : w2.drew.heap[w'.heap.size]? = some (.cells #[.string l[i].1.1,l[i].2] 107 (0,0)) := b2
    have zd : w2.drew.heap.size = w'.heap.size + 1 := by show w2.heap.size = _; omega
    clear bF fF zF f2 z2 b2 f02
    generalize w2.drew = w3 at *
    have h3 := hrep.fr fd fun b hb => hb.elim
    refine ⟨fun u => DRep u E (AD.loadTo room l.plain i) O I L ∧ u.heap[w'.heap.size]? = some (.cells #[.string l[i].1.1,l[i].2] 107 (0,0)),⟨h3,bd⟩,?_⟩
    refine q_of _ (fun w_ hS => s_nil ⟨rfl,rfl⟩) (q_of _ (fun w_ hS => fa88_1 ⟨rfl,rfl⟩) (q_of (.map (some L.sh)) (fun w_ hS => s_ldb (isAgg82 _) hS.1.disk rfl ⟨rfl,rfl⟩) ?_))
    refine q_of _ (fun w_ hS => fa107_0 ⟨rfl,rfl⟩) (q_of (.string l[i].1.1) (fun w_ hS => s_ldb (isAgg9 _) hS.2 rfl ⟨rfl,rfl⟩) ?_)
    refine q_of _ (fun w_ hS => lk82 hS.1.sh l[i].1.1 (zeroValue132 _) ⟨rfl,rfl⟩) ?_
    rw [h3.get]
    cases hg : alGet (AD.loadTo room l.plain i).shown l[i].1.1 with
    | some t =>
      refine q_of (.bool true) (fun w_ hS => s_nepn upt132 ⟨rfl,rfl⟩) (pC_true (hdup ?_ _ (hfr.trans fd fun b hb => .inl hb)))
      refine List.any_eq_true.2 ⟨i,List.mem_range.2 (by omega),?_⟩
      rw [dup_true' hi,hg]; rfl
    | none =>
      refine q_of (.bool false) (fun w_ hS => s_nepn upt132 ⟨rfl,rfl⟩) (pC_false ?_)
      refine fa107_1 (s_ldb (v := l[i].2) (isAgg23 _) bd rfl ?_)
      refine c_cloneB (hbb.fr fd fun _ _ h => h) (by omega) fun w4 bv s4 hb4 f4 => ?_
      have f04 : Fr no w' w4 := fd.trans f4 fun b hb => .inl hb
      have hz4 := f4.size
      obtain ⟨A4,c4,e4,-⟩ := s4.form
      refine px_ok (w' := w4) (v := .agg #[bv,bv,.slice none 0 0]) (by rw [e4]; kernel_rfl) (s_boxC (cs := #[bv,bv,.slice none 0 0]) (by rw [e4]; rfl) ?_)
      have bT := alloc_new w4 (.cells #[bv,bv,.slice none 0 0] 131)
      have fT := Fr.alloc no w4 (.cells #[bv,bv,.slice none 0 0] 131)
      have zT : (w4.alloc (.cells #[bv,bv,.slice none 0 0] 131)).heap.size = w4.heap.size + 1 := by simp
      generalize w4.alloc (.cells #[bv,bv,.slice none 0 0] 131) = w5 at *
      have f05 : Fr no w' w5.drew := (f04.trans fT fun b hb => .inl hb).trans (Fr.drew _ _) fun b hb => .inl hb
      have h6 := hrep.fr f05 fun b hb => hb.elim
      have bF6 : w5.drew.heap[w'.heap.size]? = some (.cells #[.string l[i].1.1,l[i].2] 107 (0,0)) := fT.get (f4.get bd id) id
      have bT6 : w5.drew.heap[w4.heap.size]? = some (.cells #[bv,bv,.slice none 0 0] 131 (0,0)) := bT
      have s6 : SBytes w5.drew bv l[i].1.2 := s4.fr (fT.trans (Fr.drew _ _) fun b hb => .inl hb) fun _ _ h => h
      have z6 : w5.drew.heap.size = w4.heap.size + 1 := zT
      clear bT fT zT
      generalize w5.drew = w6 at *
      have hnk : ∀ p ∈ mapVals L L.lsh,p.1 ≠ l[i].1.1 := alGet_none_iff.1 (by rw [h6.get,hg]; rfl)
      have hgs : alGet (AD.loadTo room l.plain i).safe l[i].1.1 = none := by rw [hload.safe]; exact hg
      have hnf : ∀ p ∈ mapVals L L.lsf,p.1 ≠ l[i].1.1 := alGet_none_iff.1 (by rw [mapVals_get,alGet_perm h6.sfp h6.lsfn,hgs]; rfl)
      have hmF : ∀ {u:World} {c T f} {m:Nat} {q:List (ByteArray × Value)} {b:Nat},SMap u m q → u.heap[b]? = some (.cells c T f) → ¬ b = m := fun h1 h2 => map_ne_cells h1 h2
      refine ⟨fun u => u.heap[E]? = some (.cells (dcells (AD.loadTo room l.plain i) L) 88 (0,0)) ∧ u.heap[w'.heap.size]? = some (.cells #[.string l[i].1.1,l[i].2] 107 (0,0)),⟨h6.disk,bF6⟩,?_⟩
      refine q_of _ (fun w_ hS => s_nil ⟨rfl,rfl⟩) (q_of _ (fun w_ hS => fa88_1 ⟨rfl,rfl⟩) (q_of (.map (some L.sh)) (fun w_ hS => s_ldb (isAgg82 _) hS.1 rfl ⟨rfl,rfl⟩) ?_))
      refine q_of _ (fun w_ hS => fa107_0 ⟨rfl,rfl⟩) (q_of (.string l[i].1.1) (fun w_ hS => s_ldb (isAgg9 _) hS.2 rfl ⟨rfl,rfl⟩) ?_)
      refine q_of _ (fun w_ hS => s_nil ⟨rfl,rfl⟩) (q_of _ (fun w_ hS => fa88_2 ⟨rfl,rfl⟩) (q_of (.map (some L.sf)) (fun w_ hS => s_ldb (isAgg82 _) hS.1 rfl ⟨rfl,rfl⟩) ?_))
      refine q_of _ (fun w_ hS => fa107_0 ⟨rfl,rfl⟩) (q_of (.string l[i].1.1) (fun w_ hS => s_ldb (isAgg9 _) hS.2 rfl ⟨rfl,rfl⟩) ?_)
      obtain ⟨wa,ca,ra,ga,za,nexta⟩ := h6.sh.entry_new underlying82 underlying9 (z := .pointer none) (fun w => zeroValue132 w) l[i].1.1 hnk
      refine px_ok ra ⟨⟨ga.get h6.disk (hmF h6.sh h6.disk),ga.get bF6 (hmF h6.sh bF6)⟩,q_of (i64 ca) (fun w_ hS => s_ext rfl ⟨rfl,rfl⟩) ?_⟩
      obtain ⟨wb,rb,mb,gb,zb⟩ := nexta (ptr w4.heap.size) wa rfl
      have gab : Fr (fun b => b = L.sh) w6 wb := ga.trans gb fun b hb => .inl hb
      refine pu_ok rb ⟨⟨gab.get h6.disk (hmF h6.sh h6.disk),gab.get bF6 (hmF h6.sh bF6)⟩,?_⟩
      obtain ⟨wc,cc,rc,gc,zc,nextc⟩ := (h6.sf.fr gab (fun e => h6.ne e.symm)).entry_new underlying82 underlying9 (z := .pointer none) (fun w => zeroValue132 w) l[i].1.1 hnf
      have dB := gab.get h6.disk (hmF h6.sh h6.disk)
      have fB := gab.get bF6 (hmF h6.sh bF6)
      have mB := h6.sf.fr gab (fun e => h6.ne e.symm)
      refine px_ok rc ⟨⟨gc.get dB (hmF mB dB),gc.get fB (hmF mB fB)⟩,q_of (i64 cc) (fun w_ hS => s_ext rfl ⟨rfl,rfl⟩) ?_⟩
      obtain ⟨wd,rd,md,gd,zd'⟩ := nextc (ptr w4.heap.size) wc rfl
      refine pu_ok rd (s_add_in (by omega) ?_)
      have gcd : Fr (fun b => b = L.sf) wb wd := gc.trans gd fun b hb => .inl hb
      have gall : Fr (fun b => b = L.sh ∨ b = L.sf) w6 wd := gab.or gcd
      have hal := hg
      have hOlt : ∀ b,O b ∨ I b → b < w'.heap.size := hrep.lt
      have hx : (AD.loadTo room l.plain i).addFile l[i].1 = AD.loadTo room l.plain (i + 1) := by rw [loadTo_succ room (by omega),plain_at' hi]
      have hzall := gall.size
      have hne6 : ∀ b,O b ∨ I b → b ≠ w4.heap.size := fun b hb => by have := hOlt b hb; omega
      have bTd : wd.heap[w4.heap.size]? = some (.cells #[bv,bv,.slice none 0 0] 131 (0,0)) := gall.get bT6 (by
        rintro (e | e)
        · exact hne6 _ (.inl h6.osh) e.symm
        · exact hne6 _ (.inl h6.osf) e.symm)
      have sd : SBytes wd bv l[i].1.2 := s6.fr gall fun b hb hM => by
        have := hb4 b hb
        rcases hM with e | e
        · have := hOlt _ (.inl h6.osh); omega
        · have := hOlt _ (.inl h6.osf); omega
      have hA := h6.addFile (f := l[i].1) (T := w4.heap.size) (I' := fun b => I b ∨ (w3.heap.size ≤ b ∧ b < w4.heap.size)) hload.ok.next hload.row hg hgs gall (fun hO => hne6 _ (.inl hO) rfl) (by omega)
        (mb.fr gcd (fun e => h6.ne e)) md
        ⟨⟨bv,bv,[],bTd,⟨sd,fun b hb => .inr (hb4 b hb)⟩,⟨sd,fun b hb => .inr (hb4 b hb)⟩,⟨rfl,.inl ⟨rfl,rfl⟩⟩,.nil⟩,.inr rfl,by rintro b hb; cases hb⟩
        (fun b => .inl) (by
          rintro b (hb | hb)
          · have := hOlt b (.inr hb); exact ⟨fun h => hrep.apart b h hb,by omega,by omega⟩
          · exact ⟨fun h => by have := hOlt b (.inl h); omega,by omega,by omega⟩)
      rw [hx] at hA
      have hWs := hfr.size
      refine ⟨m - 1,by omega,i + 1,by omega,e0,e6,e28.trans ev,e29,?_,_,_,_,hA,?_,?_,?_⟩
      · show i64 _ = i64 _; simp
      · rintro b ((hb | hb) | (hb | hb))
        · exact hlow b (.inl hb)
        · omega
        · exact hlow b (.inr hb)
        · omega
      · refine (hfr.trans f05 fun b hb => .inl hb).trans gall ?_
        rintro b (rfl | rfl)
        · exact .inr (hlow _ (.inl h6.osh))
        · exact .inr (hlow _ (.inl h6.osf))
      · intro j hj
        rcases Nat.lt_or_ge j i with h' | h'
        · exact hdj j h'
        · have : j = i := by omega
          subst this
          rw [dup_true' hi,hg]; rfl
  · refine s_lt_f (by omega) (pC_false ?_)
    rw [F93_2_eq]
    have hil : i = l.length := by omega
    subst hil
    exact hk hdj _ _ e0 e6 h
theorem c_load (hv:FilesS w v l) (hd:∀ p ∈ l,p.1.2.length ≤ 1048576) (hl:l.length ≤ 4611686018427387904) (hns:∀ f ∈ l.plain,f.1.size ≤ 9223372036854775807)
    (hno:AD.loadCode room l.plain ≠ 0 → ∀ w',Fr no w w' → k (.tuple #[.pointer none,i64 (AD.loadCode room l.plain)]) w')
    (hk:AD.loadCode room l.plain = 0 → ∀ w' E O I L,DRep w' E (AD.loadTo room l.plain l.length) O I L → (∀ b,O b ∨ I b → w.heap.size ≤ b) → Fr no w w' → k (.tuple #[ptr E,i64 0]) w') : pFn P 93 [i64 room,v] w k := by
  have hpl : l.plain.length = l.length := by unfold FilesL.plain; simp
  refine F93_in _ _ _ _ ?_
  unfold F93_0
  refine c_new (fun hr => ?_) fun hr w1 L1 h1 f1 => ?_
  · have hc : AD.loadCode room l.plain = 1 := by unfold AD.loadCode; rw [if_pos hr]
    rw [hc] at hno
    exact s_ext rfl (s_ext rfl (s_nei_t (by omega) (pC_true (hno (by omega) w (Fr.refl _ _)))))
  refine s_ext rfl (s_ext rfl (s_nei_f (by omega) (pC_false ?_)))
  have hv1 := hv.fr f1
  refine s_lenS usl36 hv1.src ?_
  unfold AD.loadCode at hno hk
  rw [if_neg (by omega:¬ ¬ (1 ≤ room ∧ room ≤ 1048576)),hpl] at hno hk
  by_cases hlen : l.length > 256
  · rw [if_pos hlen] at hno
    exact s_gt_t (by omega) (pC_true (hno (by omega) w1 f1))
  rw [if_neg hlen] at hno hk
  refine s_gt_f (by omega) (pC_false ?_)
  refine c_containsF hv1 (by omega) hns fun w2 f2 => ?_
  have f02 : Fr no w w2 := f1.trans f2 fun b hb => .inl hb
  cases hall : l.plain.any (fun f => !isName f.1) with
  | true =>
    rw [if_pos hall] at hno
    exact pC_true (hno (by omega) w2 f02)
  | false =>
  rw [if_neg (by rw [hall]; simp)] at hno hk
  have hnm : ∀ f ∈ l.plain,isName f.1 = true := fun f hf => by
    rw [List.any_eq_false] at hall
    simpa using hall f hf
  refine pC_false (s_lenS usl36 (hv1.fr f2).src ?_)
  have hsz : ∀ f ∈ l.plain,f.1.size ≤ 112 := fun f hf => by
    have := hnm f hf
    unfold isName at this
    simp only [Bool.and_eq_true,decide_eq_true_eq] at this
    exact this.2
  have hdl : ∀ f ∈ l.plain,f.2.length ≤ 1048576 := fun f hf => by obtain ⟨p,hp,rfl⟩ := List.mem_map.1 hf; exact hd p hp
  have h2 := h1.fr f2 fun b hb => hb.elim
  refine c_load1 (W := w) (room := room) (v := v) (E := w.heap.size + 2) hr hv (by omega) hd hnm (fun hdup w3 f3 => ?_) (fun hnd ρ w3 b0 b6 hL => ?_) rfl rfl rfl rfl rfl ⟨_,_,_,h2,?_,f02,fun j hj => absurd hj (Nat.not_lt_zero _)⟩
  · rw [hpl] at hdup
    rw [if_pos hdup] at hno
    exact hno (by omega) w3 f3
  · have hdn : (List.range l.length).any (dupAt room l.plain) = false := by
      rw [List.any_eq_false]; intro j hj; rw [hnd j (List.mem_range.1 hj)]; simp
    rw [if_neg (by rw [hdn]; simp)] at hno hk
    have hload := loading_to hr (l := l.plain) (by omega) hsz hdl l.length (by omega) hnd
    obtain ⟨O,I,L,hrep,hlow,hfr,-⟩ := hL
    unfold F93_2
    rw [b0,b6]
    refine c_used hrep hload.ok.room.1 (by have := used_le hload.ok; omega) fun w4 f4 => ?_
    have f04 : Fr no w w4 := hfr.trans f4 fun b hb => .inl hb
    by_cases hfull : ((AD.loadTo room l.plain l.length).used : Int) > room
    · rw [if_pos hfull] at hno
      exact s_gt_t hfull (pC_true (hno (by omega) w4 f04))
    rw [if_neg hfull] at hk
    refine s_gt_f hfull (pC_false ?_)
    exact hk rfl _ _ O I L (hrep.fr f4 fun b hb => hb.elim) hlow f04
  · rintro b (hb | hb)
    · exact hb.1
    · exact hb.elim
end
end Go.Proofs.YteeeggphkhimcaaGreatDoor

namespace Go.Proofs.XSep
open Go Go.RowKit Go.Proofs.XRed Go.Proofs.XHeap
def mvs : List Nat → List Asrt → List Asrt
 | [],l => l
 | i :: r,l => match l[i]? with
  | some a => mvs r (a :: l.eraseIdx i)
  | none => l
theorem sep_mvs {w:World} : ∀ (is:List Nat) {l:List Asrt},Sep l w → Sep (mvs is l) w
 | [],l,h => h
 | i :: r,l,h => by
  unfold mvs
  cases hi : l[i]? with
  | none => exact h
  | some a => exact sep_mvs r (h.front i hi)
theorem sep_dropN {w:World} : ∀ (n:Nat) {l:List Asrt},Sep l w → Sep (l.drop n) w
 | 0,l,h => h
 | n + 1,[],h => h
 | n + 1,a :: l,h => sep_dropN n h.drop
theorem sep_mv {w:World} {l l':List Asrt} (is:List Nat) (n:Nat) (h:Sep l w) (e:(mvs is l).drop n = l') : Sep l' w := e ▸ sep_dropN n (sep_mvs is h)
end Go.Proofs.XSep

namespace Go.Proofs.XRed
open Go Go.RowKit
section
variable {P:Program}
def endV (P:Program) (fn:Func) (k:KV) (ρ:Env) (w:World) : Prop := ∀ tmps : Array Value,(∀ t,tmps.getD t undef = ρ t) → ∃ v,(results fn tmps).run P w = .ok v w ∧ k v w
def pEnd (P:Program) (fn:Func) (k:KV) : List Deferred → KE
 | [],ρ,w => endV P fn k ρ w
 | d :: ds,ρ,w => ∃ fv cap f args,d.target = .fn fv cap ∧ (invoke d.target d.args).run P w = .ok (.enter f args) w ∧ CallsD P f args .returning w fun e u' w' => u' = .returning ∧ ∃ v,e = .returned v ∧ pEnd P fn k ds ρ w'
theorem leaves_of_end {fn:Func} {k:KV} {ρ:Env} {tmps:Array Value} (ht:∀ t,tmps.getD t undef = ρ t) : ∀ (ds:List Deferred) (w:World),pEnd P fn k ds ρ w → Leaves P fn tmps (fun e w' => ∃ v,e = .returned v ∧ k v w') ds .returning w
 | [],w,h => by
  obtain ⟨v,h1,h2⟩ := h tmps ht
  exact ⟨v,h1,v,rfl,h2⟩
 | d :: ds,w,⟨fv,cap,f,args,h1,h2,h3⟩ => by
  refine ⟨by simp,fv,cap,f,args,h1,h2,CallsD.mono h3 ?_⟩
  rintro e u' w' ⟨rfl,v,rfl,hp⟩
  exact leaves_of_end ht ds w' hp
def pDr (P:Program) (fn:Func) (k:KV) (c:Code) (ds:List Deferred) (ρ:Env) (w:World) : Prop := ∀ a,Sim ds fn.ntmps ρ a → c.wp P (bodyPostD P fn fun e w' => ∃ v,e = .returned v ∧ k v w') a w
def endN (N E:KE) : Xt → KE
 | .normal,ρ,w => N ρ w
 | .ret,ρ,w => E ρ w
 | _,_,_ => False
abbrev endQ (P:Program) (fn:Func) (k:KV) (ds:List Deferred) (N:KE) : Xt → KE := endN N (pEnd P fn k ds)
theorem pDr_code (hm:P.follows .mixedOrders = true) {fn:Func} {k:KV} {c:Code} {ds:List Deferred} {ρ:Env} {w:World} (hfit:Code.fits fn.ntmps c = true) (h:red P fn.ntmps c (endQ P fn k ds (pEnd P fn k ds)) ρ w) : pDr P fn k c ds ρ w := by
 intro a hs
 refine wp_mono (red_sound hm c hfit _ _ _ _ hs h) ?_
 intro e a w hq
 cases e with
 | normal => obtain ⟨ρ,hs,hr⟩ := hq; rw [bodyPostD,hs.1]; exact leaves_of_end hs.2.2 ds w hr
 | ret => obtain ⟨ρ,hs,hr⟩ := hq; rw [bodyPostD,hs.1]; exact leaves_of_end hs.2.2 ds w hr
 | exit i => obtain ⟨ρ,hs,hr⟩ := hq; exact hr.elim
 | goto l => obtain ⟨ρ,hs,hr⟩ := hq; exact hr.elim
 | panic c => exact hq.elim
 | outgrown => exact hq.elim
theorem pDr_seq (hm:P.follows .mixedOrders = true) {fn:Func} {k:KV} {x y:Code} {ds:List Deferred} {ρ:Env} {w:World} (hfit:Code.fits fn.ntmps x = true) (h:red P fn.ntmps x (endQ P fn k ds (pDr P fn k y ds)) ρ w) : pDr P fn k (.seq x y) ds ρ w := by
 intro a hs
 refine wp_seq (wp_mono (red_sound hm x hfit _ _ _ _ hs h) ?_)
 intro e a w hq
 cases e with
 | normal => obtain ⟨ρ,hs,hr⟩ := hq; exact hr a hs
 | ret => obtain ⟨ρ,hs,hr⟩ := hq; show Leaves _ _ _ _ _ _ _; rw [hs.1]; exact leaves_of_end hs.2.2 ds w hr
 | exit i => obtain ⟨ρ,hs,hr⟩ := hq; exact hr.elim
 | goto l => obtain ⟨ρ,hs,hr⟩ := hq; exact hr.elim
 | panic c => exact hq.elim
 | outgrown => exact hq.elim
def redOpsD (P:Program) (ops:List Oper) (K:List Deferred → KE) : List Oper → List Deferred → KE
 | [],ds,ρ,w => K ds ρ w
 | o :: rest,ds,ρ,w =>
  match o.guard,o.op with
  | none,.defer c => ∃ d,(resolve (ev ρ) c o.type).run P w = .ok d w ∧ redOpsD P ops K rest (d :: ds) (putO ρ o.dst undef) w
  | none,op => cp P op o.type ρ w fun v w => redOpsD P ops K rest ds (putO ρ o.dst v) w
  | some _,_ => False
theorem redOpsD_sound {n:Nat} {ops:Array Oper} (hw:wfOps n ops.toList = true) {K:List Deferred → KE} {Q:Exit → Act → World → Prop} (hK:∀ ds ρ a w,Sim ds n ρ a → K ds ρ w → Q .normal a w) :
    ∀ (l:List Oper),(∀ o ∈ l,o ∈ ops.toList) → ∀ (ds:List Deferred) (ρ:Env) (a:Act) (w:World),Sim ds n ρ a → redOpsD P ops.toList K l ds ρ w → wpList P ops Q l a w := by
  intro l
  induction l with
  | nil => intro _ ds ρ a w hs h; exact hK _ _ _ _ hs h
  | cons o rest ih =>
    intro hmem ds ρ a w hs h
    have hd := wfOps_at hw (hmem o (by simp))
    have ih' := ih (fun o ho => hmem o (by simp [ho]))
    unfold wpList
    unfold redOpsD at h
    split at h
    · rename_i c hg hop
      rw [if_pos (by simp [Region.wanted,hg])]
      obtain ⟨d,hr,h⟩ := h
      refine .inl ?_
      unfold Oper.wp
      rw [hs.eval]
      have he : (execOp (ev ρ) o).run P w = .ok (.defer d) w := by
        simp only [execOp,hop,Sem.run_bind,hr,Result.andThen,Sem.run_pure]
      rw [he,Oper.upon_defer]
      have hs' : Sim (d :: ds) n ρ { a with defers := d :: a.defers } := ⟨by show d :: a.defers = _; rw [hs.1],hs.2⟩
      exact ih' _ _ _ _ (hs'.putO hd _) h
    · rename_i hg hop
      rw [if_pos (by simp [Region.wanted,hg])]
      exact .inl (cp_sound hs (fun v w hk => ih' _ _ _ _ (hs.putO hd v) hk) h)
    · exact h.elim
theorem pDr_seqD {fn:Func} {k:KV} {id:Nat} {ops:Array Oper} {y:Code} {ds:List Deferred} {ρ:Env} {w:World} (hw:wfOps fn.ntmps ops.toList = true) (h:redOpsD P ops.toList (fun ds => pDr P fn k y ds) ops.toList ds ρ w) : pDr P fn k (.seq (.region id ops false) y) ds ρ w := by
 intro a hs
 exact wp_seq (wp_region_list (redOpsD_sound hw (Q := Exit.then (y.wp P (bodyPostD P fn fun e w' => ∃ v,e = .returned v ∧ k v w')) (bodyPostD P fn fun e w' => ∃ v,e = .returned v ∧ k v w')) (fun ds ρ a w hs h => h a hs) _ (fun o ho => ho) _ _ _ _ hs h))
theorem sim_args {n:Nat} {args:List Value} (hn:args.length ≤ n) : Sim [] n (argEnv args) { tmps := args.toArray ++ Array.replicate (n - args.toArray.size) undef,defers := [] } := by
 refine ⟨rfl,by simp; omega,fun t => ?_⟩
 simp only [argEnv]
 rcases Nat.lt_or_ge t args.length with h | h
 ·simp [Array.getElem?_append,h,List.getD_eq_getElem?_getD]
 ·have e : args.getD t undef = undef := by simp [List.getD_eq_getElem?_getD,List.getElem?_eq_none h]
  rw [e]
  rcases Nat.lt_or_ge (t - args.length) (n - args.length) with h2 | h2
  ·simp [Array.getElem?_append,Nat.not_lt.2 h,Array.getElem?_replicate,h2]
  ·simp [Array.getElem?_append,Nat.not_lt.2 h,Array.getElem?_replicate,Nat.not_lt.2 h2]
theorem pFn_of_pDr {f : FuncId} {fn : Func} (hf : P.funcs[f]? = some fn) (hname : (fn.name == "runtime.NumGoroutine") = false) {c : Code} (hb : fn.body = some c) {args : List Value} (hn : args.length ≤ fn.ntmps) {w : World} {k : KV} (h : pDr P fn k c [] (argEnv args) w) : pFn P f args w k :=
 pFn_of_calls hf hname (by rw [hb]; rfl) (calls_of_wp_defers hf hb (h _ (sim_args hn)))
theorem callsD_of_at (hm:P.follows .mixedOrders = true) {f:FuncId} {fn:Func} (hf:P.funcs[f]? = some fn) (hb:fn.body = some (bodyOf fn)) {n:Nat} (hn:fn.ntmps = n) (hfit:Code.fits n (bodyOf fn) = true) (hrs:fn.results = #[]) {args:List Value} (hlen:args.length ≤ n) {w:World} {k:KV}
    (h:At P n (bodyOf fn) (retQ P fn.results.toList k) [] (argEnv args) w) : CallsD P f args.toArray .returning w fun e u' w' => u' = .returning ∧ ∃ v,e = .returned v ∧ k v w' := by
  subst hn
  unfold At Pt at h
  have e1 : sub (bodyOf fn) [] = bodyOf fn := by generalize bodyOf fn = c; cases c <;> rfl
  have e2 : ∀ Q',contAt P fn.ntmps (bodyOf fn) Q' [] = Q' := by intro Q'; generalize bodyOf fn = c; cases c <;> rfl
  rw [e1,e2] at h
  refine CallsD.mono (callsD_of_wp (R := fun e w' => ∃ v,e = .returned v ∧ k v w') hf hb (wp_mono (red_sound hm _ hfit _ _ _ _ (sim_args hlen) h) ?_)) fun e u' w' h => h
  have done : ∀ (a:Act) (w:World) (ρ:Env),Sim [] fn.ntmps ρ a → retV (P := P) fn.results.toList ρ w k → a.defers = [] ∧ ∃ v,(results fn a.tmps).run P w = .ok v w ∧ ∃ u,Ending.returned v = .returned u ∧ k u w := by
    intro a w ρ hs hr
    rw [hrs] at hr
    exact ⟨hs.1,.tuple #[],by simp only [results,hrs]; simp,_,rfl,hr⟩
  intro e a w hq
  cases e with
  | normal => obtain ⟨ρ,hs,hr⟩ := hq; exact done a w ρ hs hr
  | ret => obtain ⟨ρ,hs,hr⟩ := hq; exact done a w ρ hs hr
  | exit i => obtain ⟨ρ,hs,hr⟩ := hq; exact hr.elim
  | goto l => obtain ⟨ρ,hs,hr⟩ := hq; exact hr.elim
  | panic c => exact hq.elim
  | outgrown => exact hq.elim
theorem red_at {n:Nat} {c:Code} {Q:Xt → KE} {ρ:Env} {w:World} : At P n c Q [] ρ w = red P n c Q ρ w := by cases c <;> rfl
theorem pDr_seqA (hm:P.follows .mixedOrders = true) {fn:Func} {k:KV} {C x y:Code} {ds:List Deferred} {ρ:Env} {w:World} {n:Nat} (hn:fn.ntmps = n) (hC:C = .seq x y) (hfit:Code.fits n x = true) (h:At P n x (endN (pDr P fn k y ds) (pEnd P fn k ds)) [] ρ w) : pDr P fn k C ds ρ w := by
 subst hn; subst hC
 rw [red_at] at h
 exact pDr_seq hm hfit h
theorem pDr_seqDA {fn:Func} {k:KV} {C:Code} {id:Nat} {ops:Array Oper} {y:Code} {ds:List Deferred} {ρ:Env} {w:World} {n:Nat} (hn:fn.ntmps = n) (hC:C = .seq (.region id ops false) y) (hw:wfOps n ops.toList = true) (h:redOpsD P ops.toList (fun ds => pDr P fn k y ds) ops.toList ds ρ w) : pDr P fn k C ds ρ w := by
 subst hn; subst hC; exact pDr_seqD hw h
theorem pDr_codeA (hm:P.follows .mixedOrders = true) {fn:Func} {k:KV} {c:Code} {ds:List Deferred} {ρ:Env} {w:World} {n:Nat} (hn:fn.ntmps = n) (hfit:Code.fits n c = true) (h:At P n c (endN (pEnd P fn k ds) (pEnd P fn k ds)) [] ρ w) : pDr P fn k c ds ρ w := by
 subst hn
 rw [red_at] at h
 exact pDr_code hm hfit h
theorem endV_cell {fn:Func} {k:KV} {ρ:Env} {w:World} {t:Tmp} {ty:TypeId} {a:Addr} {v:Value} (hr:fn.results = #[.cell t ty]) (ha:ρ t = .pointer (some a)) (hv:(loadVar ty a).run P w = .ok v w) (hk:k v w) : endV P fn k ρ w := by
 intro tmps ht
 refine ⟨v,?_,hk⟩
 have e : tmps.getD t undef = .pointer (some a) := (ht t).trans ha
 have e' : tmps[t]?.getD undef = .pointer (some a) := by simpa using e
 simp [results,hr,e',asAddr,hv,Result.andThen]
end
end Go.Proofs.XRed

namespace Go.Proofs.YteeeggphkhimcaaGreatDoor
open Go Go.Proofs Go.RowKit Go.Proofs.XRed Go.Proofs.XHeap Go.Proofs.XMaps Go.Proofs.XSlices Go.Proofs.XDisk Go.Proofs.XCalls Tryz
section
variable {w:World} {k:KV}
theorem s_addS {t:TypeId} {x y:Operand} {a b:ByteArray} (h:a.size + b.size ≤ 9223372036854775807) (hk:k (.string (a ++ b)) w) : px P (binSem .add t x y (.string a) (.string b)) w k := by
 refine s_bin (by simp) (by simp) ?_ hk
 have hn : ¬ (((a.size + b.size : Nat) : Int) > IntKind.i64.max) := by
  have : IntKind.i64.max = 9223372036854775807 := by decide
  rw [this]; omega
 have hn' : ¬ ((a.size : Int) + (b.size : Int) > IntKind.i64.max) := by simpa using hn
 simp only [binOp,Op.stringOp]
 first | (rw [if_neg hn]; rfl) | (rw [if_neg hn']; rfl)
def namedA (s:ByteArray) (most:Int) : Bool := s.data.toList.all okByte && decide (1 ≤ s.size) && decide ((s.size : Int) ≤ most)
theorem namedA_112 (s:ByteArray) : namedA s 112 = isName s := by
 unfold namedA isName
 congr 1
 exact decide_eq_decide.2 ⟨fun h => by omega,fun h => by omega⟩
theorem empty_iff (s:ByteArray) : s = ByteArray.mk #[] ↔ s.size = 0 := by
 constructor
 ·rintro rfl; rfl
 ·intro h
  apply ByteArray.ext
  exact Array.eq_empty_of_size_eq_zero h
set_option maxHeartbeats 1000000 in
theorem c_named (s:ByteArray) (most:Int) (hs:s.size ≤ 9223372036854775807) (hk:k (.bool (namedA s most)) w) : pFn P 66 [.string s,i64 most] w k := by
  refine F66_in _ _ _ _ ?_
  unfold F66_0
  refine s_eqs ?_
  by_cases he : s = ByteArray.mk #[]
  · have hf : namedA s most = false := by unfold namedA; have := (empty_iff s).1 he; simp [this]
    rw [hf] at hk
    rw [decide_eq_true he]
    exact pG_skf (pG_skf (pG_skf (pG_skf (s_pick_t (pC_true hk)))))
  have h0 : 1 ≤ s.size := by have := (not_congr (empty_iff s)).1 he; omega
  rw [decide_eq_false he]
  refine pG_yes rfl (pG_yes rfl (s_lens (by kernel_rfl) (pG_yes rfl (pG_yes rfl (s_gt ?_)))))
  by_cases hm : (s.size : Int) > most
  · have hf : namedA s most = false := by unfold namedA; rw [decide_eq_false (show ¬ (s.size : Int) ≤ most by omega)]; simp
    rw [hf] at hk
    rw [decide_eq_true hm]
    exact s_pick_f (pC_true hk)
  rw [decide_eq_false hm]
  refine s_pick_f (pC_false (s_lens (by kernel_rfl) ?_))
  refine F66L1_inv (m := s.size) k (fun m ρ w' => w' = w ∧ ρ 0 = .string s ∧ ρ 16 = i64 s.size ∧ ∃ i : Nat,ρ 17 = i64 i ∧ i + m = s.size ∧ ∀ j (hj:j < s.size),j < i → okByte s[j] = true) ?_ ⟨rfl,rfl,rfl,0,rfl,by omega,fun j _ hj => absurd hj (by omega)⟩
  rintro m ρ w' ⟨rfl,e0,h16,i,h17,him,hok⟩
  rw [F66_1_eq]
  unfold F66_1
  rw [e0,h16,h17]
  refine s_lt ?_
  by_cases hi : i < s.size
  · rw [decide_eq_true (by omega)]
    refine pC_true (s_ixs (by kernel_rfl) hi ?_)
    have hix := ix_ok s[i]
    generalize hc : s[i] = c at *
    have hlt := c.toNat_lt
    have hb : okByte c = (decide (97 ≤ c.toNat ∧ c.toNat ≤ 122) || decide (48 ≤ c.toNat ∧ c.toNat ≤ 57) || decide (0 ≤ Lib.indexByte [46,45,95,43] c)) := by
      rw [hix]; simp [UInt8.le_iff_toNat_le,Bool.decide_and]
    have next : okByte c = true → ∀ j (hj:j < s.size),j < i + 1 → okByte s[j] = true := by
      intro h j hj hji
      by_cases e : j = i
      · subst e; rw [hc]; exact h
      · exact hok j hj (by omega)
    have bad : okByte c = false → namedA s most = false := by
      intro h
      unfold namedA
      have : s.data.toList.all okByte = false := by
        rw [Bool.eq_false_iff]
        intro ha
        rw [List.all_eq_true] at ha
        have := ha c (by
          rw [← hc]
          have : i < s.data.toList.length := by simpa using hi
          have e : s[i] = s.data.toList[i] := rfl
          rw [e]; exact List.getElem_mem _)
        rw [h] at this; cases this
      simp [this]
    have eb : ((c.toNat : Int).toNat).toUInt8 = c := by simp
    have el : (ByteArray.mk #[46,45,95,43]).data.toList = [46,45,95,43] := rfl
    by_cases a1 : (c.toNat : Int) ≥ 97 <;> by_cases a2 : (c.toNat : Int) ≤ 122 <;> by_cases a3 : (c.toNat : Int) ≥ 48 <;> by_cases a4 : (c.toNat : Int) ≤ 57
    all_goals try (exfalso; omega)
    all_goals
      repeat (first | refine pG_yes rfl ?_ | refine pG_sk ?_ | refine pG_skf ?_ | refine pG_un ?_ | refine s_ge_t (by assumption) ?_ | refine s_ge_f (by assumption) ?_ | refine s_le_t (by assumption) ?_ | refine s_le_f (by assumption) ?_ | refine s_pick_t ?_ | refine s_pick_f ?_ | refine s_not ?_ | refine pC_true ?_ | refine pC_false ?_)
    all_goals first
      | (refine s_add_in (by omega) ?_
         exact ⟨m - 1,by omega,rfl,e0,h16,i + 1,rfl,by omega,next (by rw [hb,decide_eq_true (show 97 ≤ c.toNat ∧ c.toNat ≤ 122 by omega)]; rfl)⟩)
      | (refine s_add_in (by omega) ?_
         exact ⟨m - 1,by omega,rfl,e0,h16,i + 1,rfl,by omega,next (by rw [hb,decide_eq_true (show 48 ≤ c.toNat ∧ c.toNat ≤ 57 by omega)]; simp)⟩)
      | skip
    all_goals
      refine c_indexByte _ _ ?_
      rw [eb,el]
      have hb' : okByte c = decide (0 ≤ Lib.indexByte [46,45,95,43] c) := by
        rw [hb,decide_eq_false (show ¬ (97 ≤ c.toNat ∧ c.toNat ≤ 122) by omega),decide_eq_false (show ¬ (48 ≤ c.toNat ∧ c.toNat ≤ 57) by omega)]; rfl
      by_cases C : Lib.indexByte [46,45,95,43] c ≥ 0
      · repeat (first | refine pG_yes rfl ?_ | refine pG_sk ?_ | refine pG_skf ?_ | refine pG_un ?_ | refine s_ge_t (by assumption) ?_ | refine s_ge_f (by assumption) ?_ | refine s_le_t (by assumption) ?_ | refine s_le_f (by assumption) ?_ | refine s_pick_t ?_ | refine s_pick_f ?_ | refine s_not ?_ | refine pC_true ?_ | refine pC_false ?_)
        refine s_add_in (by omega) ?_
        exact ⟨m - 1,by omega,rfl,e0,h16,i + 1,rfl,by omega,next (by rw [hb']; exact decide_eq_true (by omega))⟩
      · repeat (first | refine pG_yes rfl ?_ | refine pG_sk ?_ | refine pG_skf ?_ | refine pG_un ?_ | refine s_ge_t (by assumption) ?_ | refine s_ge_f (by assumption) ?_ | refine s_le_t (by assumption) ?_ | refine s_le_f (by assumption) ?_ | refine s_pick_t ?_ | refine s_pick_f ?_ | refine s_not ?_ | refine pC_true ?_ | refine pC_false ?_)
        rw [bad (by rw [hb']; exact decide_eq_false (by omega))] at hk
        exact hk
  · rw [decide_eq_false (by omega)]
    refine pC_false ?_
    have := F66_2_eq k
    show F66A k _ _ _
    rw [F66_2_eq]
    unfold F66_2
    have hall : s.data.toList.all okByte = true := by
      rw [List.all_eq_true]
      intro c hc
      obtain ⟨j,hj,rfl⟩ := List.getElem_of_mem hc
      have hj' : j < s.size := by simpa using hj
      exact hok j hj' (by omega)
    have hfin : namedA s most = true := by
      unfold namedA
      rw [hall,decide_eq_true h0,decide_eq_true (show (s.size : Int) ≤ most by omega)]; rfl
    rw [hfin] at hk
    exact hk
def fopB : ByteArray := ByteArray.mk #[102,105,108,101,46]
def zeroId : List UInt8 := List.replicate 32 0
structure FaultAt (w:World) (b:Nat) (op name:ByteArray) (e:Int) : Prop where
 h : w.heap[b]? = some (.cells (faultCells (fopB ++ op) name zeroId (EV.no e).val) 77 (0,0))
theorem FaultAt.fr {O:Nat → Prop} {w w':World} {b:Nat} {op name:ByteArray} {e:Int} (h:FaultAt w b op name e) (hf:Fr O w w') (hn:¬ O b) : FaultAt w' b op name e := ⟨hf.get h.h hn⟩
theorem FaultAt.in_ {w:World} {b:Nat} {op name:ByteArray} {e:Int} (h:FaultAt w b op name e) : (EV.fault b (.no e)).In w := ⟨⟨_,_,zeroId,rfl,h.h⟩,trivial⟩
theorem c_refused {op name:ByteArray} {e:Int} (hs:op.size ≤ 1000) (hk:∀ w',FaultAt w' w.heap.size op name e → Fr (fun _ => False) w w' → w'.heap.size = w.heap.size + 1 → k (EV.fault w.heap.size (.no e)).val w') : pFn P 67 [.string op,.string name,i64 e] w k := by
 refine F67_in _ _ _ _ _ ?_
 unfold F67_0
 refine s_addS (by show 5 + _ ≤ _; omega) ?_
 refine s_mki (by kernel_rfl) ?_
 refine px_ok (w' := w) (v := .agg (faultCells (fopB ++ op) name zeroId (EV.no e).val)) ?_ ?_
 ·exact run_build w _ _ _ (by
   show P.built 77 [(0,.string (fopB ++ op)),(1,.string name),(3,(EV.no e).val)] = _
   generalize fopB ++ op = o
   kernel_rfl)
 refine s_box (s_mki (by kernel_rfl) ?_)
 refine hk _ ⟨?_⟩ (Fr.alloc _ _ _) (by simp)
 exact alloc_new _ _
end
open Go.Proofs.XSep
def BytesA (v:Value) (bs:Bytes) : Asrt where
 h w O I := SBytes w v bs ∧ (0 < bs.length → ∀ b,sblk v = some b → I b) ∧ (∀ b,¬ O b) ∧ ∀ b,I b → b < w.heap.size
 fr := fun ⟨h1,h2,h3,h4⟩ hf hm => ⟨SBytes.fr0 h1 hf fun h0 b hb e => (hm b e).2 (h2 h0 b hb),h2,h3,fun b hb => Nat.lt_of_lt_of_le (h4 b hb) hf.size⟩
 lt := fun ⟨h1,h2,h3,h4⟩ b hb => hb.elim (fun h => absurd h (h3 b)) (h4 b)
 ap := fun ⟨h1,h2,h3,h4⟩ b hb => absurd hb (h3 b)
section
variable {w w0:World} {k:KV} {W:World} {D E c:Nat} {S T:AD} {l:List Asrt}
theorem data_low {dv:Value} {d:Bytes} (h:SBytes W dv d) : 0 < d.length → ∀ b,sblk dv = some b → b < W.heap.size := fun h0 b hb => Src.lt (size := 1) h (by omega) h0 hb
theorem BytesA.mk {w:World} {v:Value} {bs:Bytes} (h:SBytes w v bs) : (BytesA v bs).h w (fun _ => False) (fun b => 0 < bs.length ∧ sblk v = some b) :=
 ⟨h,fun h0 b hb => ⟨h0,hb⟩,fun _ h => h,fun b hb => Src.lt (size := 1) h (by omega) hb.1 hb.2⟩
theorem s_read {l:List Asrt} {i:Nat} {D:Nat} {S:AD} {c:Nat} (hS:Sep l w) (hi:l[i]? = some (Dk D S)) (ok:S.Ok c) (name:ByteArray) (hs:name.size ≤ 9223372036854775807) (a n:Int) (hn:-9223372036854775808 ≤ a ∧ a ≤ 9223372036854775807)
    (hk:∀ w' v,Sep (l.set i (star (Dk D (S.read name a n).2.2) (BytesA v (S.read name a n).2.1))) w' → k (.tuple #[v,i64 (S.read name a n).1]) w') : pFn P 77 [ptr D,.string name,i64 a,i64 n] w k := by
  obtain ⟨O,I,J,⟨L,h1⟩,g1,g2,nx⟩ := hS.at_ i hi
  refine c_read h1 ok name hs a n hn fun w' O' I' L' v hx hv hb => hk w' v (nx _ w' O' (fun b => I' b ∨ (0 < (S.read name a n).2.1.length ∧ sblk v = some b)) ⟨O',I',_,_,⟨L',hx.rep⟩,BytesA.mk hv,⟨fun b hb' => ⟨id,fun e => (hb b e.2).2 hb'⟩,fun b hb' => hb'.elim⟩,fun b => by simp,fun b => Iff.rfl⟩ ⟨hx.fr,hx.on,fun b hb' => ?_⟩)
  rcases hb' with hb' | hb'
  · exact (hx.in_ b hb').imp (g1 b) id
  · exact .inr (hb b hb'.2).1
theorem names_len (S:AD) {c:Nat} (ok:S.Ok c) (p:ByteArray) : (AD.listA S p).length ≤ 256 := by
 unfold AD.listA
 split
 ·simp
 ·refine Nat.le_trans (List.length_filter_le _ _) ?_
  rw [List.length_map]; exact ok.turns.len.1
theorem crash_names {S:AD} {c:Nat} (ok:S.Ok c) (picks:List Int) : ∀ p ∈ S.crashNames picks,p.1.size ≤ maxLen := fun p hp => by have := ok.crashNames_small picks p hp; unfold maxLen; omega
end
end Go.Proofs.YteeeggphkhimcaaGreatDoor

namespace Go.Proofs.YteeeggphkhimcaaGreatDoor
open Go Go.Proofs Go.Proofs.XRed Tryz
open Go.Instr (fieldAt loadAt storeAt indexAt sliceAt extract)
noncomputable def F19B : Code := bodyOf f19
noncomputable def F19C0 : Code := sub F19B []
noncomputable def F19X0 : Code := sub F19B [0]
noncomputable def F19p0B : Code := F19X0
def F19p0A (N E:KE) (q:List Nat) (ρ:Env) (w:World) : Prop := At prog 92 F19p0B (endN N E) q ρ w
def F19p0_0 (N:KE) (E:KE) (ρ:Env) (w:World) : Prop :=
 px prog (Instr.box 24 (ρ 0)) w fun v3 w =>
 px prog (Instr.box 9 (ρ 1)) w fun v4 w =>
 px prog (Instr.alloc 31 true (.tuple #[])) w fun v6 w =>
 N (put (put (put ρ 3 v3) 4 v4) 6 v6) w
theorem F19p0_0_eq (N:KE) (E:KE) (ρ:Env) (w:World) : F19p0A N E [] ρ w = F19p0_0 N E ρ w := by kernel_rfl
noncomputable def F19C1 : Code := sub F19B [1]
noncomputable def F19X1 : Code := sub F19B [1,0]
noncomputable def F19p1B : Code := F19X1
def F19p1A (N E:KE) (q:List Nat) (ρ:Env) (w:World) : Prop := At prog 92 F19p1B (endN N E) q ρ w
def F19p1_0 (N:KE) (E:KE) (ρ:Env) (w:World) : Prop :=
 px prog (loadAt 9 (ρ 4)) w fun v18 w =>
 pFn prog 66 [v18,(.int .i64 111)] w fun v19 w =>
 px prog (Op.unary .not v19) w fun v20 w =>
 pG v20 false (fun k => px prog (loadAt 9 (ρ 4)) w k) (w := w) (next := fun v22 w =>
 pG v20 false (fun k => px prog (Instr.index 9 v22 (.int .i64 0)) w k) (w := w) (next := fun v23 w =>
 pG v20 false (fun k => px prog (binSem .eql 5 (.tmp 23) (.const (.int .u8 43)) v23 (.int .u8 43)) w k) (w := w) (next := fun v24 w =>
 px prog (pickSem v20 (.bool true) v24) w fun v25 w =>
 pC v25 (
 px prog (loadAt 9 (ρ 4)) w fun v26 w =>
 pFn prog 67 [(.string (ByteArray.mk #[112,117,116])),v26,(.int .i64 51)] w fun v27 w =>
 pu prog (storeAt 31 (ρ 6) v27) w fun w =>
 E (put (put (put (put (put (put (put (put (put (put ρ 18 v18) 19 v19) 20 v20) 21 v20) 22 v22) 23 v23) 24 v24) 25 v25) 26 v26) 27 v27) w)
 (
 N (put (put (put (put (put (put (put (put ρ 18 v18) 19 v19) 20 v20) 21 v20) 22 v22) 23 v23) 24 v24) 25 v25) w))))
theorem F19p1_0_eq (N:KE) (E:KE) (ρ:Env) (w:World) : F19p1A N E [] ρ w = F19p1_0 N E ρ w := by kernel_rfl
noncomputable def F19C2 : Code := sub F19B [1,1]
noncomputable def F19X2 : Code := sub F19B [1,1,0]
noncomputable def F19p2B : Code := F19X2
def F19p2A (N E:KE) (q:List Nat) (ρ:Env) (w:World) : Prop := At prog 92 F19p2B (endN N E) q ρ w
def F19p2_0 (N:KE) (E:KE) (ρ:Env) (w:World) : Prop :=
 px prog (loadAt 24 (ρ 3)) w fun v28 w =>
 pFn prog 59 [v28] w fun v29 w =>
 pC v29 (
 px prog (loadAt 9 (ρ 4)) w fun v30 w =>
 pFn prog 67 [(.string (ByteArray.mk #[112,117,116])),v30,(.int .i64 50)] w fun v31 w =>
 pu prog (storeAt 31 (ρ 6) v31) w fun w =>
 E (put (put (put (put ρ 28 v28) 29 v29) 30 v30) 31 v31) w)
 (
 N (put (put ρ 28 v28) 29 v29) w)
theorem F19p2_0_eq (N:KE) (E:KE) (ρ:Env) (w:World) : F19p2A N E [] ρ w = F19p2_0 N E ρ w := by kernel_rfl
noncomputable def F19C3 : Code := sub F19B [1,1,1]
noncomputable def F19X3 : Code := sub F19B [1,1,1,0]
noncomputable def F19p3B : Code := F19X3
def F19p3A (N E:KE) (q:List Nat) (ρ:Env) (w:World) : Prop := At prog 92 F19p3B (endN N E) q ρ w
def F19p3_0 (N:KE) (E:KE) (ρ:Env) (w:World) : Prop :=
 px prog (loadAt 9 (ρ 4)) w fun v32 w =>
 px prog (binSem .add 9 (.const (.string (ByteArray.mk #[43]))) (.tmp 32) (.string (ByteArray.mk #[43])) v32) w fun v33 w =>
 px prog (Instr.alloc 9 true (.tuple #[])) w fun v7 w =>
 pu prog (storeAt 9 v7 v33) w fun w =>
 N (put (put (put ρ 32 v32) 33 v33) 7 v7) w
theorem F19p3_0_eq (N:KE) (E:KE) (ρ:Env) (w:World) : F19p3A N E [] ρ w = F19p3_0 N E ρ w := by kernel_rfl
noncomputable def F19C4 : Code := sub F19B [1,1,1,1]
noncomputable def F19X4 : Code := sub F19B [1,1,1,1,0]
noncomputable def F19p4B : Code := F19X4
def F19p4A (N E:KE) (q:List Nat) (ρ:Env) (w:World) : Prop := At prog 92 F19p4B (endN N E) q ρ w
def F19p4_0 (N:KE) (E:KE) (ρ:Env) (w:World) : Prop :=
 px prog (Instr.alloc 4 true (.tuple #[])) w fun v8 w =>
 px prog (Instr.alloc 4 true (.tuple #[])) w fun v9 w =>
 pu prog (storeAt 4 v8 (.bool false)) w fun w =>
 pu prog (storeAt 4 v9 (.bool false)) w fun w =>
 N (put (put ρ 8 v8) 9 v9) w
theorem F19p4_0_eq (N:KE) (E:KE) (ρ:Env) (w:World) : F19p4A N E [] ρ w = F19p4_0 N E ρ w := by kernel_rfl
noncomputable def F19C5 : Code := sub F19B [1,1,1,1,1]
noncomputable def F19C6 : Code := sub F19B [1,1,1,1,1,1]
def F19ops : Array Oper := #[(Oper.mk (some 34) (Op.makeFunc (Fn.func 68) #[] #[(.tmp 6), (.tmp 8), (.tmp 3), (.tmp 7), (.tmp 4), (.tmp 9)]) 1 "file.go:41" #[] none), (Oper.mk none (Op.defer (Call.mk (Callee.value (.tmp 34)) #[] #[])) 0 "file.go:41" #[(Edge.mk 0 Ground.data)] none)]
theorem F19_t5 : F19C5 = .seq (.region 7 F19ops false) F19C6 := by kernel_rfl
def F19d (K:List Deferred → KE) (ds:List Deferred) (ρ:Env) (w:World) : Prop :=
 (px prog (Instr.makeFunc (Fn.func 68) #[] #[(ρ 6),(ρ 8),(ρ 3),(ρ 7),(ρ 4),(ρ 9)])) w fun v34 w =>
 ∃ d,(resolve (ev (put ρ 34 v34)) (Call.mk (Callee.value (.tmp 34)) #[] #[]) 0).run prog w = .ok d w ∧ (
 K (d :: ds) (put ρ 34 v34) w)
theorem F19d_eq (K:List Deferred → KE) (ds:List Deferred) (ρ:Env) (w:World) : redOpsD prog F19ops.toList K F19ops.toList ds ρ w = F19d K ds ρ w := by kernel_rfl
noncomputable def F19zB : Code := F19C6
def F19zA (N E:KE) (q:List Nat) (ρ:Env) (w:World) : Prop := At prog 92 F19zB (endN N E) q ρ w
def F19z_0 (N:KE) (E:KE) (ρ:Env) (w:World) : Prop :=
 px prog (loadAt 24 (ρ 3)) w fun v36 w =>
 px prog (loadAt 9 (ρ 7)) w fun v37 w =>
 pFn prog 72 [v36,v37] w fun v38 w =>
 px prog (extract v38 0) w fun v39 w =>
 px prog (extract v38 1) w fun v40 w =>
 px prog (binSem .eql 25 (.tmp 41) (.const (.int .i64 0)) v40 (.int .i64 0)) w fun v42 w =>
 pC v42 (
 px prog (loadAt 24 (ρ 3)) w fun v43 w =>
 px prog (loadAt 9 (ρ 7)) w fun v44 w =>
 pFn prog 70 [v43,v44] w fun v45 w =>
 px prog (binSem .neq 25 (.tmp 46) (.const (.int .i64 0)) v45 (.int .i64 0)) w fun v47 w =>
 pC v47 (
 px prog (loadAt 9 (ρ 4)) w fun v48 w =>
 pFn prog 67 [(.string (ByteArray.mk #[112,117,116])),v48,v45] w fun v50 w =>
 pu prog (storeAt 31 (ρ 6) v50) w fun w =>
 E (put (put (put (put (put (put (put (put (put (put (put (put (put (put (put (put (put (put (put ρ 36 v36) 37 v37) 38 v38) 35 v38) 39 v39) 40 v40) 10 v39) 11 v40) 41 v40) 42 v42) 43 v43) 44 v44) 45 v45) 12 v45) 46 v45) 47 v47) 48 v48) 49 v45) 50 v50) w)
 (
 pu prog (storeAt 4 (ρ 9) (.bool true)) w fun w =>
 F19zA N E [1] (put (put (put (put (put (put (put (put (put (put (put (put (put (put (put (put ρ 36 v36) 37 v37) 38 v38) 35 v38) 39 v39) 40 v40) 10 v39) 11 v40) 41 v40) 42 v42) 43 v43) 44 v44) 45 v45) 12 v45) 46 v45) 47 v47) w))
 (
 F19zA N E [1] (put (put (put (put (put (put (put (put (put (put ρ 36 v36) 37 v37) 38 v38) 35 v38) 39 v39) 40 v40) 10 v39) 11 v40) 41 v40) 42 v42) w)
theorem F19z_0_eq (N:KE) (E:KE) (ρ:Env) (w:World) : F19zA N E [] ρ w = F19z_0 N E ρ w := by kernel_rfl
def F19z_1 (N:KE) (E:KE) (ρ:Env) (w:World) : Prop :=
 px prog (loadAt 24 (ρ 3)) w fun v51 w =>
 px prog (loadAt 9 (ρ 7)) w fun v52 w =>
 pFn prog 73 [v51,v52] w fun v53 w =>
 px prog (binSem .neq 25 (.tmp 54) (.const (.int .i64 0)) v53 (.int .i64 0)) w fun v55 w =>
 pC v55 (
 px prog (loadAt 9 (ρ 4)) w fun v56 w =>
 pFn prog 67 [(.string (ByteArray.mk #[112,117,116])),v56,v53] w fun v58 w =>
 pu prog (storeAt 31 (ρ 6) v58) w fun w =>
 E (put (put (put (put (put (put (put (put (put ρ 51 v51) 52 v52) 53 v53) 13 v53) 54 v53) 55 v55) 56 v56) 57 v53) 58 v58) w)
 (
 pu prog (storeAt 4 (ρ 8) (.bool true)) w fun w =>
 px prog (loadAt 24 (ρ 3)) w fun v59 w =>
 px prog (loadAt 9 (ρ 7)) w fun v60 w =>
 pFn prog 74 [v59,v60,(ρ 2)] w fun v62 w =>
 px prog (binSem .neq 25 (.tmp 63) (.const (.int .i64 0)) v62 (.int .i64 0)) w fun v64 w =>
 pC v64 (
 px prog (loadAt 9 (ρ 4)) w fun v65 w =>
 pFn prog 67 [(.string (ByteArray.mk #[112,117,116])),v65,v62] w fun v67 w =>
 pu prog (storeAt 31 (ρ 6) v67) w fun w =>
 E (put (put (put (put (put (put (put (put (put (put (put (put (put (put (put (put ρ 51 v51) 52 v52) 53 v53) 13 v53) 54 v53) 55 v55) 59 v59) 60 v60) 61 (ρ 2)) 62 v62) 14 v62) 63 v62) 64 v64) 65 v65) 66 v62) 67 v67) w)
 (
 px prog (loadAt 24 (ρ 3)) w fun v68 w =>
 px prog (loadAt 9 (ρ 7)) w fun v69 w =>
 pFn prog 75 [v68,v69] w fun v70 w =>
 px prog (binSem .neq 25 (.tmp 71) (.const (.int .i64 0)) v70 (.int .i64 0)) w fun v72 w =>
 pC v72 (
 px prog (loadAt 9 (ρ 4)) w fun v73 w =>
 pFn prog 67 [(.string (ByteArray.mk #[112,117,116])),v73,v70] w fun v75 w =>
 pu prog (storeAt 31 (ρ 6) v75) w fun w =>
 E (put (put (put (put (put (put (put (put (put (put (put (put (put (put (put (put (put (put (put (put (put (put ρ 51 v51) 52 v52) 53 v53) 13 v53) 54 v53) 55 v55) 59 v59) 60 v60) 61 (ρ 2)) 62 v62) 14 v62) 63 v62) 64 v64) 68 v68) 69 v69) 70 v70) 15 v70) 71 v70) 72 v72) 73 v73) 74 v70) 75 v75) w)
 (
 px prog (loadAt 24 (ρ 3)) w fun v76 w =>
 px prog (loadAt 9 (ρ 7)) w fun v77 w =>
 px prog (loadAt 9 (ρ 4)) w fun v78 w =>
 pFn prog 76 [v76,v77,v78] w fun v79 w =>
 px prog (binSem .neq 25 (.tmp 80) (.const (.int .i64 0)) v79 (.int .i64 0)) w fun v81 w =>
 pC v81 (
 px prog (loadAt 9 (ρ 4)) w fun v82 w =>
 pFn prog 67 [(.string (ByteArray.mk #[112,117,116])),v82,v79] w fun v84 w =>
 pu prog (storeAt 31 (ρ 6) v84) w fun w =>
 E (put (put (put (put (put (put (put (put (put (put (put (put (put (put (put (put (put (put (put (put (put (put (put (put (put (put (put (put (put ρ 51 v51) 52 v52) 53 v53) 13 v53) 54 v53) 55 v55) 59 v59) 60 v60) 61 (ρ 2)) 62 v62) 14 v62) 63 v62) 64 v64) 68 v68) 69 v69) 70 v70) 15 v70) 71 v70) 72 v72) 76 v76) 77 v77) 78 v78) 79 v79) 16 v79) 80 v79) 81 v81) 82 v82) 83 v79) 84 v84) w)
 (
 px prog (loadAt 24 (ρ 3)) w fun v85 w =>
 pFn prog 71 [v85] w fun v86 w =>
 px prog (binSem .neq 25 (.tmp 87) (.const (.int .i64 0)) v86 (.int .i64 0)) w fun v88 w =>
 pC v88 (
 px prog (loadAt 9 (ρ 4)) w fun v89 w =>
 pFn prog 67 [(.string (ByteArray.mk #[112,117,116])),v89,v86] w fun v91 w =>
 pu prog (storeAt 31 (ρ 6) v91) w fun w =>
 E (put (put (put (put (put (put (put (put (put (put (put (put (put (put (put (put (put (put (put (put (put (put (put (put (put (put (put (put (put (put (put (put (put (put ρ 51 v51) 52 v52) 53 v53) 13 v53) 54 v53) 55 v55) 59 v59) 60 v60) 61 (ρ 2)) 62 v62) 14 v62) 63 v62) 64 v64) 68 v68) 69 v69) 70 v70) 15 v70) 71 v70) 72 v72) 76 v76) 77 v77) 78 v78) 79 v79) 16 v79) 80 v79) 81 v81) 85 v85) 86 v86) 17 v86) 87 v86) 88 v88) 89 v89) 90 v86) 91 v91) w)
 (
 pu prog (storeAt 31 (ρ 6) .nilIface) w fun w =>
 E (put (put (put (put (put (put (put (put (put (put (put (put (put (put (put (put (put (put (put (put (put (put (put (put (put (put (put (put (put (put (put ρ 51 v51) 52 v52) 53 v53) 13 v53) 54 v53) 55 v55) 59 v59) 60 v60) 61 (ρ 2)) 62 v62) 14 v62) 63 v62) 64 v64) 68 v68) 69 v69) 70 v70) 15 v70) 71 v70) 72 v72) 76 v76) 77 v77) 78 v78) 79 v79) 16 v79) 80 v79) 81 v81) 85 v85) 86 v86) 17 v86) 87 v86) 88 v88) w)))))
theorem F19z_1_eq (N:KE) (E:KE) (ρ:Env) (w:World) : F19zA N E [1] ρ w = F19z_1 N E ρ w := by kernel_rfl
theorem F19_t0 : F19C0 = .seq F19X0 F19C1 := by kernel_rfl
theorem F19_t1 : F19C1 = .seq F19X1 F19C2 := by kernel_rfl
theorem F19_t2 : F19C2 = .seq F19X2 F19C3 := by kernel_rfl
theorem F19_t3 : F19C3 = .seq F19X3 F19C4 := by kernel_rfl
theorem F19_t4 : F19C4 = .seq F19X4 F19C5 := by kernel_rfl
noncomputable def F68B : Code := bodyOf f68
def F68A (k:KV) (q:List Nat) (ρ:Env) (w:World) : Prop := At prog 38 F68B (retQ prog f68.results.toList k) q ρ w
def F68_0 (a0:Value) (a1:Value) (a2:Value) (a3:Value) (a4:Value) (a5:Value) (w:World) (k:KV) : Prop :=
 px prog (loadAt 31 a0) w fun v8 w =>
 px prog (Instr.makeInterface 25 (.int .i64 55)) w fun v9 w =>
 pFn prog 69 [v8,v9] w fun v10 w =>
 px prog (Op.unary .not v10) w fun v11 w =>
 pG v11 true (fun k => px prog (loadAt 31 a0) w k) (w := w) (next := fun v13 w =>
 pG v11 true (fun k => px prog (Instr.makeInterface 25 (.int .i64 56)) w k) (w := w) (next := fun v14 w =>
 pG v11 true (fun k => pFn prog 69 [v13,v14] w k) (w := w) (next := fun v15 w =>
 pG v11 true (fun k => px prog (Op.unary .not v15) w k) (w := w) (next := fun v16 w =>
 px prog (pickSem v11 v16 (.bool false)) w fun v17 w =>
 pC v17 (
 k (.tuple #[]) w)
 (
 px prog (loadAt 4 a1) w fun v18 w =>
 pC v18 (
 px prog (loadAt 24 a2) w fun v19 w =>
 px prog (loadAt 9 a3) w fun v20 w =>
 pFn prog 70 [v19,v20] w fun v21 w =>
 px prog (binSem .neq 25 (.tmp 22) (.const (.int .i64 0)) v21 (.int .i64 0)) w fun v23 w =>
 pC v23 (
 px prog (loadAt 9 a4) w fun v24 w =>
 pFn prog 67 [(.string (ByteArray.mk #[112,117,116])),v24,v21] w fun v26 w =>
 pu prog (storeAt 31 a0 v26) w fun w =>
 k (.tuple #[]) w)
 (
 F68A k [1,1] (put (put (put (put (put (put (put (put (put (put (put (put (put (put (put (put (put (argEnv [a0,a1,a2,a3,a4,a5]) 8 v8) 9 v9) 10 v10) 11 v11) 12 v11) 13 v13) 14 v14) 15 v15) 16 v16) 17 v17) 18 v18) 19 v19) 20 v20) 21 v21) 6 v21) 22 v21) 23 v23) w))
 (
 F68A k [1,1] (put (put (put (put (put (put (put (put (put (put (put (argEnv [a0,a1,a2,a3,a4,a5]) 8 v8) 9 v9) 10 v10) 11 v11) 12 v11) 13 v13) 14 v14) 15 v15) 16 v16) 17 v17) 18 v18) w))))))
theorem F68_0_eq (a0:Value) (a1:Value) (a2:Value) (a3:Value) (a4:Value) (a5:Value) (w:World) (k:KV) : F68A k [] (argEnv [a0,a1,a2,a3,a4,a5]) w = F68_0 a0 a1 a2 a3 a4 a5 w k := by kernel_rfl
def F68_1 (k:KV) (ρ:Env) (w:World) : Prop :=
 px prog (loadAt 4 (ρ 1)) w fun v27 w =>
 pG v27 false (fun k => px prog (loadAt 4 (ρ 5)) w k) (w := w) (next := fun v29 w =>
 px prog (pickSem v27 (.bool true) v29) w fun v30 w =>
 pC v30 (
 px prog (loadAt 24 (ρ 2)) w fun v31 w =>
 pFn prog 71 [v31] w fun v32 w =>
 px prog (binSem .neq 25 (.tmp 33) (.const (.int .i64 0)) v32 (.int .i64 0)) w fun v34 w =>
 pC v34 (
 px prog (loadAt 9 (ρ 4)) w fun v35 w =>
 pFn prog 67 [(.string (ByteArray.mk #[112,117,116])),v35,v32] w fun v37 w =>
 pu prog (storeAt 31 (ρ 0) v37) w fun w =>
 k (.tuple #[]) w)
 (
 k (.tuple #[]) w))
 (
 k (.tuple #[]) w))
theorem F68_1_eq (k:KV) (ρ:Env) (w:World) : F68A k [1,1] ρ w = F68_1 k ρ w := by kernel_rfl
end Go.Proofs.YteeeggphkhimcaaGreatDoor

namespace Go.Proofs.YteeeggphkhimcaaGreatDoor
open Go Go.Proofs Go.RowKit Go.Proofs.XRed Go.Proofs.XHeap Go.Proofs.XMaps Go.Proofs.XSlices Go.Proofs.XDisk Go.Proofs.XCalls Go.Proofs.XSep Tryz
def ErrA (v:Value) (op name:ByteArray) (e:Int) : Asrt where
 h w O I := ((e = 0 ∧ v = .nilIface ∧ ∀ b,¬ O b) ∨ (e ≠ 0 ∧ ∃ b,v = (EV.fault b (.no e)).val ∧ FaultAt w b op name e ∧ ∀ c,O c ↔ c = b)) ∧ ∀ b,¬ I b
 fr := fun ⟨h1,h2⟩ hf hm => ⟨h1.imp id fun ⟨he,b,hv,hb,ho⟩ => ⟨he,b,hv,hb.fr hf fun h => (hm b h).1 ((ho b).2 rfl),ho⟩,h2⟩
 lt := fun ⟨h1,h2⟩ b hb => by
  rcases hb with hb | hb
  ·rcases h1 with ⟨_,_,h⟩ | ⟨_,c,_,hc,ho⟩
   ·exact absurd hb (h b)
   ·rw [(ho b).1 hb]; exact lt_of_get hc.h
  ·exact absurd hb (h2 b)
 ap := fun ⟨_,h2⟩ b _ => h2 b
def putB : ByteArray := ByteArray.mk #[112,117,116]
section
variable {w:World} {k:KV} {D c:Nat} {S:AD} {l:List Asrt} {name:ByteArray}
theorem Sep.noErr {op:ByteArray} (h:Sep l w) : Sep (ErrA .nilIface op name 0 :: l) w :=
 h.new (M := fun _ => False) (O' := fun _ => False) (I' := fun _ => False) (Fr.refl _ _) (fun _ h => h.elim) ⟨.inl ⟨rfl,rfl,fun _ h => h⟩,fun _ h => h⟩ (fun _ h => h.elim) fun _ h => h.elim
theorem sd_refused {op:ByteArray} {e:Int} (hS:Sep l w) (he:e ≠ 0) (hs:op.size ≤ 1000) (hk:∀ w' v,Sep (ErrA v op name e :: l) w' → k v w') : pFn P 67 [.string op,.string name,i64 e] w k := by
 refine c_refused hs fun w' h f z => hk w' _ ?_
 exact hS.new (M := fun _ => False) (O' := fun b => b = w.heap.size) (I' := fun _ => False) f (fun _ h => h.elim) ⟨.inr ⟨he,_,rfl,h,fun _ => Iff.rfl⟩,fun _ h => h⟩ (fun b hb => by omega) fun _ h => h.elim
theorem sd_remove (hS:Sep l w) (i:Nat) (hi:l[i]? = some (Dk D S)) (ok:S.Ok c) (hs:name.size ≤ 9223372036854775807) (hk:∀ w',Sep (l.set i (Dk D (S.remove name).2)) w' → k (i64 (S.remove name).1) w') : pFn P 70 [ptr D,.string name] w k := by
 obtain ⟨O,I,L,hd,nx⟩ := Sep.disk hS i hi
 exact c_remove hd ok name hs fun w1 O1 I1 L1 hx => hk w1 (nx _ _ _ _ _ hx)
theorem sd_create (hS:Sep l w) (i:Nat) (hi:l[i]? = some (Dk D S)) (ok:S.Ok c) (hs:name.size ≤ 9223372036854775807) (hk:∀ w',Sep (l.set i (Dk D (S.create name).2)) w' → k (i64 (S.create name).1) w') : pFn P 73 [ptr D,.string name] w k := by
 obtain ⟨O,I,L,hd,nx⟩ := Sep.disk hS i hi
 exact c_create hd ok name hs fun w1 O1 I1 L1 hx => hk w1 (nx _ _ _ _ _ hx)
theorem sd_sync (hS:Sep l w) (i:Nat) (hi:l[i]? = some (Dk D S)) (ok:S.Ok c) (hs:name.size ≤ 9223372036854775807) (hk:∀ w',Sep (l.set i (Dk D (S.sync name).2)) w' → k (i64 (S.sync name).1) w') : pFn P 75 [ptr D,.string name] w k := by
 obtain ⟨O,I,L,hd,nx⟩ := Sep.disk hS i hi
 exact c_sync hd ok name hs fun w1 O1 I1 L1 hx => hk w1 (nx _ _ _ _ _ hx)
theorem sd_rename {b:ByteArray} (hS:Sep l w) (i:Nat) (hi:l[i]? = some (Dk D S)) (ok:S.Ok c) (hs:name.size ≤ 9223372036854775807) (hb:b.size ≤ 9223372036854775807) (hk:∀ w',Sep (l.set i (Dk D (S.rename name b).2)) w' → k (i64 (S.rename name b).1) w') : pFn P 76 [ptr D,.string name,.string b] w k := by
 obtain ⟨O,I,L,hd,nx⟩ := Sep.disk hS i hi
 exact c_renameF hd ok name b hs hb fun w1 O1 I1 L1 hx => hk w1 (nx _ _ _ _ _ hx)
theorem sd_syncNames (hS:Sep l w) (i:Nat) (hi:l[i]? = some (Dk D S)) (ok:S.Ok c) (hk:∀ w',Sep (l.set i (Dk D S.syncNames.2)) w' → k (i64 S.syncNames.1) w') : pFn P 71 [ptr D] w k := by
 obtain ⟨O,I,L,hd,nx⟩ := Sep.disk hS i hi
 exact c_syncNames hd ok fun w1 O1 I1 L1 hx => hk w1 (nx _ _ _ _ _ hx)
theorem sd_off (hS:Sep l w) (i:Nat) (hi:l[i]? = some (Dk D S)) (ok:S.Ok c) (hk:k (.bool S.off) w) : pFn P 59 [ptr D] w k := by
 obtain ⟨O,I,L,hd,nx⟩ := Sep.disk hS i hi
 exact c_off hd.disk ok.room.1 hk
theorem sd_size (hS:Sep l w) (i:Nat) (hi:l[i]? = some (Dk D S)) (ok:S.Ok c) (hs:name.size ≤ 9223372036854775807) (hk:k (.tuple #[i64 (AD.sizeOf S name),i64 (S.look name)]) w) : pFn P 72 [ptr D,.string name] w k := by
 obtain ⟨O,I,L,hd,nx⟩ := Sep.disk hS i hi
 exact c_size hd ok name hs hk
def Holds (X:Asrt) (dv:Value) (d:Bytes) : Prop := ∀ w O I,X.h w O I → SBytes w dv d ∧ (0 < d.length → ∀ b,sblk dv = some b → O b ∨ I b)
theorem holds_bytes (dv:Value) (d:Bytes) : Holds (BytesA dv d) dv d := fun w O I h => ⟨h.1,fun h0 b hb => .inr (h.2.1 h0 b hb)⟩
theorem sd_append {X:Asrt} {dv:Value} {d:Bytes} (hX:Holds X dv d) (hS:Sep l w) (i j:Nat) (hij:i ≠ j) (hi:l[i]? = some (Dk D S)) (hj:l[j]? = some X) (ok:S.Ok c) (hs:name.size ≤ 9223372036854775807) (hdl:d.length ≤ 549755813888)
    (hk:∀ w',Sep (l.set i (Dk D (S.append name d).2)) w' → k (i64 (S.append name d).1) w') : pFn P 74 [ptr D,.string name,dv] w k := by
  obtain ⟨O,I,O2,I2,J,⟨L,h1⟩,hx,g1,g2,g3,g4,g5⟩ := hS.at2 i j hij hi hj
  obtain ⟨b1,b2⟩ := hX _ _ _ hx
  exact c_append0 h1 ok name hs b1 (fun h0 b hb ho => (b2 h0 b hb).elim (g1 b ho).1 (g1 b ho).2) hdl fun w1 O1 I1 L1 hx => hk w1 (g5 _ w1 O1 I1 ⟨L1,hx.rep⟩ (hx.nxt g3))
end
end Go.Proofs.YteeeggphkhimcaaGreatDoor
