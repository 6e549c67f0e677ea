/- Put together by a program (wip/tools/shake.py): CLoad,CLoad2,RLoad2,RLoad3,RLoad4,RLoad5,RLoad6,XSep2,XSep3. -/
import Derived.Test.YtcdcojpfealppaaGreatY15
import Derived.Test.YtcdcojpfealppaaGreatY21
set_option linter.unusedVariables false
set_option linter.unusedSimpArgs false
set_option maxRecDepth 100000
namespace Go.Proofs.YtcdcojpfealppaaGreat
open Go Go.Proofs Go.RowKit Go.Proofs.XRed Go.Proofs.XHeap Go.Proofs.XMaps Go.Proofs.XSlices Go.Proofs.XDisk Go.Proofs.XCalls Go.Proofs.XSep Tryz
section
variable {w w0:World} {D:Nat} {S S':AD} {O I:Nat → Prop} {L L':Lay} {k:KV}
theorem map_ne_cells {m b:Nat} {l:List (ByteArray × Value)} (h:SMap w m l) {c:Array Value} {T:TypeId} {f:Nat × Nat} (hb:w.heap[b]? = some (.cells c T f)) : b ≠ m := by
 rintro rfl
 obtain ⟨es,cl,he,_⟩ := h
 rw [he] at hb; cases hb
theorem DRep.addFile {w':World} {f:FileA} {T:Nat} {I':Nat → Prop} (h:DRep w D S O I L) (hn:∀ t,reach S t → t < S.next) (hrow:S.row = []) (e1:alGet S.shown f.1 = none) (e2:alGet S.safe f.1 = none)
    (hf:Fr (fun b => b = L.sh ∨ b = L.sf) w w') (hT:¬ O T) (hTlt:T < w'.heap.size)
    (hsh:SMap w' L.sh (mapVals L L.lsh ++ [(f.1,ptr T)])) (hsf:SMap w' L.sf (mapVals L L.lsf ++ [(f.1,ptr T)]))
    (hR:TRep w' (fun b => O b ∨ b = T) I' T (.slice none 0 0) ⟨f.2,f.2,[]⟩) (hII:∀ b,I b → I' b) (hIO:∀ b,I' b → ¬ O b ∧ b ≠ T ∧ b < w'.heap.size) :
    DRep w' D (S.addFile f) (fun b => O b ∨ b = T) I' { L with loc := fun i => if i = S.next then T else L.loc i,trow := fun i => if i = S.next then .slice none 0 0 else L.trow i,lsh := L.lsh ++ [(f.1,S.next)],lsf := L.lsf ++ [(f.1,S.next)] } := by
  have hM : ∀ {b c T f},w.heap[b]? = some (.cells c T f) → ¬ (b = L.sh ∨ b = L.sf) := by
    rintro b c T f hb (e | e)
    · exact map_ne_cells h.sh hb e
    · exact map_ne_cells h.sf hb e
  have hMI : ∀ b,I b → ¬ (b = L.sh ∨ b = L.sf) := by
    rintro b hb (e | e)
    · exact h.apart _ (e ▸ h.osh) (e ▸ hb)
    · exact h.apart _ (e ▸ h.osf) (e ▸ hb)
  have hreach : ∀ t,reach (S.addFile f) t → t = S.next ∨ reach S t := by
    have key : ∀ (m:ByteArray) (l:Names) t,(m,t) ∈ setN l f.1 S.next → t = S.next ∨ (m,t) ∈ l := by
      intro m l t hm
      rcases mem_setN.1 hm with e | hm
      · exact .inl (congrArg Prod.snd e)
      · exact .inr hm.1
    rintro t (⟨m,hm⟩ | ⟨m,hm⟩ | ⟨m,hm⟩)
    · exact (key m _ t hm).imp id fun h => .inl ⟨m,h⟩
    · exact (key m _ t hm).imp id fun h => .inr (.inl ⟨m,h⟩)
    · have e : (S.addFile f).row = [] := hrow
      rw [e] at hm; cases hm
  have hne : ∀ t,reach S t → t ≠ S.next := fun t ht e => by have := hn t ht; omega
  have hTR : ∀ t,reach S t → TRep w' O I (L.loc t) (L.trow t) (S.things t) := fun t ht => by
    have hU := h.things t ht
    obtain ⟨c,hc⟩ := hU.obj
    exact hU.fr (O' := O) hf (hM hc) (fun b hb => by obtain ⟨c',hc'⟩ := hU.robj hb; exact hM hc') hMI
  have hloc : ∀ t,reach S t → L.loc t ≠ T := fun t ht e => hT (e ▸ (h.things t ht).own)
  exact {
    disk := hf.get h.disk (hM h.disk)
    sh := by
      have e : mapVals { L with loc := fun i => if i = S.next then T else L.loc i,trow := fun i => if i = S.next then .slice none 0 0 else L.trow i,lsh := L.lsh ++ [(f.1,S.next)],lsf := L.lsf ++ [(f.1,S.next)] } (L.lsh ++ [(f.1,S.next)]) = mapVals L L.lsh ++ [(f.1,ptr T)] := by
        unfold mapVals
        rw [List.map_append]
        congr 1
        · exact List.map_congr_left fun p hp => by
            have := hne p.2 (.inl ⟨p.1,h.shp.mem_iff.1 hp⟩)
            simp [this]
        · simp
      exact e ▸ hsh
    shp := by
      show (L.lsh ++ [(f.1,S.next)]).Perm (setN S.shown f.1 S.next)
      refine List.Perm.trans ?_ (setN_perm S.shown f.1 S.next).symm
      rw [alDel_none (alGet_none_iff.1 e1)]
      exact (List.perm_append_singleton _ _).trans (List.Perm.cons _ h.shp)
    sf := by
      have e : mapVals { L with loc := fun i => if i = S.next then T else L.loc i,trow := fun i => if i = S.next then .slice none 0 0 else L.trow i,lsh := L.lsh ++ [(f.1,S.next)],lsf := L.lsf ++ [(f.1,S.next)] } (L.lsf ++ [(f.1,S.next)]) = mapVals L L.lsf ++ [(f.1,ptr T)] := by
        unfold mapVals
        rw [List.map_append]
        congr 1
        · exact List.map_congr_left fun p hp => by
            have := hne p.2 (.inr (.inl ⟨p.1,h.sfp.mem_iff.1 hp⟩))
            simp [this]
        · simp
      exact e ▸ hsf
    sfp := by
      show (L.lsf ++ [(f.1,S.next)]).Perm (setN S.safe f.1 S.next)
      refine List.Perm.trans ?_ (setN_perm S.safe f.1 S.next).symm
      rw [alDel_none (alGet_none_iff.1 e2)]
      exact (List.perm_append_singleton _ _).trans (List.Perm.cons _ h.sfp)
    ne := h.ne
    row := by
      have hr := h.row
      have e : (S.addFile f).row = S.row := rfl
      rw [e,hrow]
      rw [hrow] at hr
      exact own_fr hr hf fun b hb => by obtain ⟨c,hc⟩ := own_obj hr hb; exact hM hc
    reads := own_fr h.reads hf fun b hb => by obtain ⟨c,hc⟩ := own_obj h.reads hb; exact hM hc
    things := fun t ht => by
      show TRep w' _ I' (if t = S.next then T else L.loc t) (if t = S.next then .slice none 0 0 else L.trow t) (if t = S.next then ⟨f.2,f.2,[]⟩ else S.things t)
      rcases hreach t ht with rfl | ht
      · simp only [if_true]; exact hR
      · have hx := hne t ht
        simp only [if_neg hx]
        exact (hTR t ht).mono (O := O) (fun b => .inl) hII
    inj := fun t u ht hu e => by
      have e : (if t = S.next then T else L.loc t) = (if u = S.next then T else L.loc u) := e
      rcases hreach t ht with rfl | ht <;> rcases hreach u hu with rfl | hu
      · rfl
      · simp only [if_true,if_neg (hne u hu)] at e
        exact absurd e.symm (hloc u hu)
      · simp only [if_true,if_neg (hne t ht)] at e
        exact absurd e (hloc t ht)
      · simp only [if_neg (hne t ht),if_neg (hne u hu)] at e
        exact h.inj t u ht hu e
    rows := fun t u ht hu hd => by
      show ∀ b,sblk (if t = S.next then .slice none 0 0 else L.trow t) = some b → sblk (if u = S.next then .slice none 0 0 else L.trow u) ≠ some b
      rcases hreach t ht with rfl | ht <;> rcases hreach u hu with rfl | hu
      · exact absurd rfl hd
      · simp only [if_true]; intro b hb; cases hb
      · simp only [if_true,if_neg (hne t ht)]; intro b _ hb; cases hb
      · simp only [if_neg (hne t ht),if_neg (hne u hu)]; exact h.rows t u ht hu hd
    oD := .inl h.oD
    osh := .inl h.osh
    osf := .inl h.osf
    orow := fun b hb => .inl (h.orow b hb)
    oreads := fun b hb => .inl (h.oreads b hb)
    apart := by
      rintro b (hb | rfl) hi
      · exact (hIO b hi).1 hb
      · exact (hIO b hi).2.1 rfl
    lt := by
      rintro b ((hb | rfl) | hb)
      · exact Nat.lt_of_lt_of_le (h.lt b (.inl hb)) hf.size
      · exact hTlt
      · exact (hIO b hb).2.2 }
theorem c_indexF {v:Value} {l:FilesL} (hv:FilesS w v l) (hl:l.length ≤ 4611686018427387904) (hsz:∀ f ∈ l.plain,f.1.size ≤ 9223372036854775807) (h0:l.plain.any (fun f => !isName f.1) = false → ∀ w',Fr no w w' → k (i64 (-1)) w') (h1:l.plain.any (fun f => !isName f.1) = true → ∀ (i:Nat) w',Fr no w w' → k (i64 i) w') : pFn P 131 [v,.func (.func 97) #[] #[]] w k := by
 refine F131_in _ _ _ _ ?_
 unfold F131_0
 refine s_lenS usl71 hv.src ?_
 refine F131L1_inv (m := l.length) k (fun m ρ w' => ∃ i : Nat,i + m = l.length ∧ Fr no w w' ∧ ρ 0 = v ∧ ρ 1 = .func (.func 97) #[] #[] ∧ ρ 7 = i64 l.length ∧ ρ 8 = i64 i ∧ ∀ j (hj:j < l.length),j < i → isName l[j].1.1 = true) ?_
  ⟨0,by omega,Fr.refl _ _,rfl,rfl,rfl,rfl,fun j hj h => absurd h (by omega)⟩
 rintro m ρ w' ⟨i,him,hf,e0,e1,e7,e8,hall⟩
 rw [F131_1_eq]
 unfold F131_1
 rw [e0,e1,e7,e8]
 by_cases hi : i < l.length
 ·obtain ⟨b,o,c,ev,c0,c1⟩ := (hv.fr hf).at_ hi
  refine s_lt_t (by omega) (pC_true ?_)
  rw [ev]
  refine s_ix (i := (i:Int)) usl71 (sze71 _) (by omega) (by omega) (s_ld2 (isAgg83 _) (sizeOf83 _) (by simpa using c0) (by simpa using c1) ?_)
  show pFn P 97 [.agg #[.string l[i].1.1,l[i].2]] w' _
  refine F97_in _ _ _ ?_
  unfold F97_0
  refine s_box ?_
  have hb := alloc_new w' (.cells #[.string l[i].1.1,l[i].2] 83)
  have fb := Fr.alloc no w' (.cells #[.string l[i].1.1,l[i].2] 83)
  show px P _ (w'.alloc (.cells #[.string l[i].1.1,l[i].2] 83)) _
  generalize w'.alloc (.cells #[.string l[i].1.1,l[i].2] 83) = w1 at *
  have hf1 : Fr no w w1 := hf.trans fb fun b hb => .inl hb
  refine fa83_0 (s_ldb (v := .string l[i].1.1) (isAgg9 _) hb rfl ?_)
  have hmem : l[i].1 ∈ l.plain := List.mem_map.2 ⟨l[i],List.getElem_mem hi,rfl⟩
  refine c_isName _ (hsz _ hmem) (s_not ?_)
  cases hn : isName l[i].1.1 with
  | false =>
   refine pC_true (h1 ?_ i w1 hf1)
   exact List.any_eq_true.2 ⟨l[i].1,hmem,by rw [hn]; rfl⟩
  | true =>
   refine pC_false (s_add_in (by omega) ⟨m - 1,by omega,i + 1,by omega,hf1,e0.trans (by first | rfl | exact ev),e1,e7,?_,fun j hj h => ?_⟩)
   ·show i64 _ = i64 _; simp
   ·rcases Nat.lt_or_ge j i with h' | h'
    ·exact hall j hj h'
    ·have : j = i := by omega
     subst this; exact hn
 ·refine s_lt_f (by omega) (pC_false ?_)
  rw [F131_2_eq]
  unfold F131_2
  refine h0 ?_ w' hf
  rw [List.any_eq_false]
  intro f hf'
  obtain ⟨q,hq,rfl⟩ := List.mem_map.1 hf'
  obtain ⟨j,hj,rfl⟩ := List.mem_iff_getElem.1 hq
  rw [hall j hj (by omega)]; simp
theorem c_containsF {v:Value} {l:FilesL} (hv:FilesS w v l) (hl:l.length ≤ 4611686018427387904) (hsz:∀ f ∈ l.plain,f.1.size ≤ 9223372036854775807) (hk:∀ w',Fr no w w' → k (.bool (l.plain.any fun f => !isName f.1)) w') : pFn P 96 [v,.func (.func 97) #[] #[]] w k := by
 refine F96_in _ _ _ _ ?_
 unfold F96_0
 refine c_indexF hv hl hsz (fun h w' f => ?_) fun h i w' f => ?_
 ·rw [h] at hk; exact s_ge_f (by omega) (hk w' f)
 ·rw [h] at hk; exact s_ge_t (by omega) (hk w' f)
end
section
variable {W w w0:World} {D E:Nat} {S S':AD} {O I:Nat → Prop} {L L':Lay} {k:KV} {room:Int} {v:Value} {l:FilesL}
abbrev LoadC (W:World) (room:Int) (l:FilesL) (E i:Nat) (w:World) : Prop :=
 ∃ O I L,DRep w E (AD.loadTo room l.plain i) O I L ∧ (∀ b,O b ∨ I b → W.heap.size ≤ b) ∧ Fr no W w ∧ ∀ j,j < i → dupAt room l.plain j = false
theorem plain_at' {l:FilesL} {i:Nat} (hi:i < l.length) : l.plain[i]'(by unfold FilesL.plain; simpa using hi) = l[i].1 := by unfold FilesL.plain; simp
theorem dup_true' {i:Nat} (hi:i < l.length) : dupAt room l.plain i = (alGet (AD.loadTo room l.plain i).shown l[i].1.1).isSome := by
 unfold dupAt FilesL.plain
 rw [List.getElem?_map,List.getElem?_eq_getElem hi]; rfl
set_option maxHeartbeats 2000000 in
theorem c_load1 (hr:1 ≤ room ∧ room ≤ 1048576) (hv:FilesS W v l) (hl:l.length ≤ 256) (hd:∀ p ∈ l,p.1.2.length ≤ 1048576) (hnm:∀ f ∈ l.plain,isName f.1 = true)
    (hdup:(List.range l.plain.length).any (dupAt room l.plain) = true → ∀ w',Fr no W w' → k (.tuple #[.pointer none,i64 52]) w')
    (hk:(∀ j,j < l.length → dupAt room l.plain j = false) → ∀ (ρ:Env) w',ρ 0 = i64 room → ρ 6 = ptr E → LoadC W room l E l.length w' → F49_2 k ρ w')
    {ρ:Env} {w:World} (e0:ρ 0 = i64 room) (e6:ρ 6 = ptr E) (e28:ρ 28 = v) (e29:ρ 29 = i64 l.length) (e30:ρ 30 = i64 0) (h:LoadC W room l E 0 w) : F49L1 k ρ w := by
  have hpl : l.plain.length = l.length := by unfold FilesL.plain; simp
  have hsz : ∀ f ∈ l.plain,f.1.size ≤ 112 := fun f hf => by
    have := hnm f hf
    unfold isName at this
    simp only [Bool.and_eq_true,decide_eq_true_eq] at this
    exact this.2
  have hdl : ∀ f ∈ l.plain,f.2.length ≤ 1048576 := fun f hf => by obtain ⟨p,hp,rfl⟩ := List.mem_map.1 hf; exact hd p hp
  refine F49L1_inv (m := l.length) k (fun m ρ w' => ∃ i : Nat,i + m = l.length ∧ ρ 0 = i64 room ∧ ρ 6 = ptr E ∧ ρ 28 = v ∧ ρ 29 = i64 l.length ∧ ρ 30 = i64 i ∧ LoadC W room l E i w') ?_
    ⟨0,by omega,e0,e6,e28,e29,e30,h⟩
  rintro m ρ w' ⟨i,him,e0,e6,e28,e29,e30,h⟩
  rw [F49_1_eq]
  unfold F49_1
  obtain ⟨O,I,L,hrep,hlow,hfr,hdj⟩ := id h
  rw [e28,e29,e30,e6]
  have hload := loading_to hr (l := l.plain) (by omega) hsz hdl i (by omega) hdj
  by_cases hi : i < l.length
  · obtain ⟨b,o,c,ev,c0,c1⟩ := (hv.fr hfr).at_ hi
    refine s_lt_t (by omega) (pC_true ?_)
    rw [ev]
    refine s_ix (i := (i:Int)) usl71 (sze71 _) (by omega) (by omega) (s_ld2 (isAgg83 _) (sizeOf83 _) (by simpa using c0) (by simpa using c1) ?_)
    refine s_alloc (zeroValue83 _) ?_
    have bF := alloc_new w' (.cells #[.string .empty,.slice none 0 0] 83)
    have fF := Fr.alloc no w' (.cells #[.string .empty,.slice none 0 0] 83)
    have zF : (w'.alloc (.cells #[.string .empty,.slice none 0 0] 83)).heap.size = w'.heap.size + 1 := by simp
    show pu P _ (w'.alloc (.cells #[.string .empty,.slice none 0 0] 83)) _
    generalize w'.alloc (.cells #[.string .empty,.slice none 0 0] 83) = w1 at *
    have hbb := (hv.fr hfr).all _ (List.getElem_mem hi)
    have hbl := hd _ (List.getElem_mem hi)
    obtain ⟨Ab,cb,eb,-⟩ := hbb.form
    refine s_stN (n := 2) (vs := [.string l[i].1.1,l[i].2]) (sizeOf83 _) rfl (by intro u hu; simp at hu; rcases hu with rfl | rfl <;> first | rfl | (rw [eb]; rfl)) bF (by show 0 + 2 ≤ 2; decide) fun w2 b2 f2 z2 => ?_
    have b2 : w2.heap[w'.heap.size]? = some (.cells #[.string l[i].1.1,l[i].2] 83 (0,0)) := by rw [b2]; simp
    have f02 : Fr no w' w2 := fF.trans f2 fun b hb => .inr (by omega)
    have fd : Fr no w' w2.drew := f02.trans (Fr.drew _ _) fun b hb => .inl hb
    have bd : w2.drew.heap[w'.heap.size]? = some (.cells #[.string l[i].1.1,l[i].2] 83 (0,0)) := b2
    have zd : w2.drew.heap.size = w'.heap.size + 1 := by show w2.heap.size = _; omega
    clear bF fF zF f2 z2 b2 f02
    generalize w2.drew = w3 at *
    have h3 := hrep.fr fd fun b hb => hb.elim
    refine ⟨fun u => DRep u E (AD.loadTo room l.plain i) O I L ∧ u.heap[w'.heap.size]? = some (.cells #[.string l[i].1.1,l[i].2] 83 (0,0)),⟨h3,bd⟩,?_⟩
    refine q_of _ (fun w_ hS => s_nil ⟨rfl,rfl⟩) (q_of _ (fun w_ hS => fa58_1 ⟨rfl,rfl⟩) (q_of (.map (some L.sh)) (fun w_ hS => s_ldb (isAgg54 _) hS.1.disk rfl ⟨rfl,rfl⟩) ?_))
    refine q_of _ (fun w_ hS => fa83_0 ⟨rfl,rfl⟩) (q_of (.string l[i].1.1) (fun w_ hS => s_ldb (isAgg9 _) hS.2 rfl ⟨rfl,rfl⟩) ?_)
    refine q_of _ (fun w_ hS => lk54 hS.1.sh l[i].1.1 (zeroValue117 _) ⟨rfl,rfl⟩) ?_
    rw [h3.get]
    cases hg : alGet (AD.loadTo room l.plain i).shown l[i].1.1 with
    | some t =>
      refine q_of (.bool true) (fun w_ hS => s_nepn upt117 ⟨rfl,rfl⟩) (pC_true (hdup ?_ _ (hfr.trans fd fun b hb => .inl hb)))
      refine List.any_eq_true.2 ⟨i,List.mem_range.2 (by omega),?_⟩
      rw [dup_true' hi,hg]; rfl
    | none =>
      refine q_of (.bool false) (fun w_ hS => s_nepn upt117 ⟨rfl,rfl⟩) (pC_false ?_)
      refine fa83_1 (s_ldb (v := l[i].2) (isAgg36 _) bd rfl ?_)
      refine c_cloneB (hbb.fr fd fun _ _ h => h) (by omega) fun w4 bv s4 hb4 f4 => ?_
      have f04 : Fr no w' w4 := fd.trans f4 fun b hb => .inl hb
      have hz4 := f4.size
      obtain ⟨A4,c4,e4,-⟩ := s4.form
      refine px_ok (w' := w4) (v := .agg #[bv,bv,.slice none 0 0]) (by rw [e4]; kernel_rfl) (s_boxC (cs := #[bv,bv,.slice none 0 0]) (by rw [e4]; rfl) ?_)
      have bT := alloc_new w4 (.cells #[bv,bv,.slice none 0 0] 124)
      have fT := Fr.alloc no w4 (.cells #[bv,bv,.slice none 0 0] 124)
      have zT : (w4.alloc (.cells #[bv,bv,.slice none 0 0] 124)).heap.size = w4.heap.size + 1 := by simp
      generalize w4.alloc (.cells #[bv,bv,.slice none 0 0] 124) = w5 at *
      have f05 : Fr no w' w5.drew := (f04.trans fT fun b hb => .inl hb).trans (Fr.drew _ _) fun b hb => .inl hb
      have h6 := hrep.fr f05 fun b hb => hb.elim
      have bF6 : w5.drew.heap[w'.heap.size]? = some (.cells #[.string l[i].1.1,l[i].2] 83 (0,0)) := fT.get (f4.get bd id) id
      have bT6 : w5.drew.heap[w4.heap.size]? = some (.cells #[bv,bv,.slice none 0 0] 124 (0,0)) := bT
      have s6 : SBytes w5.drew bv l[i].1.2 := s4.fr (fT.trans (Fr.drew _ _) fun b hb => .inl hb) fun _ _ h => h
      have z6 : w5.drew.heap.size = w4.heap.size + 1 := zT
      clear bT fT zT
      generalize w5.drew = w6 at *
      have hnk : ∀ p ∈ mapVals L L.lsh,p.1 ≠ l[i].1.1 := alGet_none_iff.1 (by rw [h6.get,hg]; rfl)
      have hgs : alGet (AD.loadTo room l.plain i).safe l[i].1.1 = none := by rw [hload.safe]; exact hg
      have hnf : ∀ p ∈ mapVals L L.lsf,p.1 ≠ l[i].1.1 := alGet_none_iff.1 (by rw [mapVals_get,alGet_perm h6.sfp h6.lsfn,hgs]; rfl)
      have hmF : ∀ {u:World} {c T f} {m:Nat} {q:List (ByteArray × Value)} {b:Nat},SMap u m q → u.heap[b]? = some (.cells c T f) → ¬ b = m := fun h1 h2 => map_ne_cells h1 h2
      refine ⟨fun u => u.heap[E]? = some (.cells (dcells (AD.loadTo room l.plain i) L) 58 (0,0)) ∧ u.heap[w'.heap.size]? = some (.cells #[.string l[i].1.1,l[i].2] 83 (0,0)),⟨h6.disk,bF6⟩,?_⟩
      refine q_of _ (fun w_ hS => s_nil ⟨rfl,rfl⟩) (q_of _ (fun w_ hS => fa58_1 ⟨rfl,rfl⟩) (q_of (.map (some L.sh)) (fun w_ hS => s_ldb (isAgg54 _) hS.1 rfl ⟨rfl,rfl⟩) ?_))
      refine q_of _ (fun w_ hS => fa83_0 ⟨rfl,rfl⟩) (q_of (.string l[i].1.1) (fun w_ hS => s_ldb (isAgg9 _) hS.2 rfl ⟨rfl,rfl⟩) ?_)
      refine q_of _ (fun w_ hS => s_nil ⟨rfl,rfl⟩) (q_of _ (fun w_ hS => fa58_2 ⟨rfl,rfl⟩) (q_of (.map (some L.sf)) (fun w_ hS => s_ldb (isAgg54 _) hS.1 rfl ⟨rfl,rfl⟩) ?_))
      refine q_of _ (fun w_ hS => fa83_0 ⟨rfl,rfl⟩) (q_of (.string l[i].1.1) (fun w_ hS => s_ldb (isAgg9 _) hS.2 rfl ⟨rfl,rfl⟩) ?_)
      obtain ⟨wa,ca,ra,ga,za,nexta⟩ := h6.sh.entry_new underlying54 underlying9 (z := .pointer none) (fun w => zeroValue117 w) l[i].1.1 hnk
      refine px_ok ra ⟨⟨ga.get h6.disk (hmF h6.sh h6.disk),ga.get bF6 (hmF h6.sh bF6)⟩,q_of (i64 ca) (fun w_ hS => s_ext rfl ⟨rfl,rfl⟩) ?_⟩
      obtain ⟨wb,rb,mb,gb,zb⟩ := nexta (ptr w4.heap.size) wa rfl
      have gab : Fr (fun b => b = L.sh) w6 wb := ga.trans gb fun b hb => .inl hb
      refine pu_ok rb ⟨⟨gab.get h6.disk (hmF h6.sh h6.disk),gab.get bF6 (hmF h6.sh bF6)⟩,?_⟩
      obtain ⟨wc,cc,rc,gc,zc,nextc⟩ := (h6.sf.fr gab (fun e => h6.ne e.symm)).entry_new underlying54 underlying9 (z := .pointer none) (fun w => zeroValue117 w) l[i].1.1 hnf
      have dB := gab.get h6.disk (hmF h6.sh h6.disk)
      have fB := gab.get bF6 (hmF h6.sh bF6)
      have mB := h6.sf.fr gab (fun e => h6.ne e.symm)
      refine px_ok rc ⟨⟨gc.get dB (hmF mB dB),gc.get fB (hmF mB fB)⟩,q_of (i64 cc) (fun w_ hS => s_ext rfl ⟨rfl,rfl⟩) ?_⟩
      obtain ⟨wd,rd,md,gd,zd'⟩ := nextc (ptr w4.heap.size) wc rfl
      refine pu_ok rd (s_add_in (by omega) ?_)
      have gcd : Fr (fun b => b = L.sf) wb wd := gc.trans gd fun b hb => .inl hb
      have gall : Fr (fun b => b = L.sh ∨ b = L.sf) w6 wd := gab.or gcd
      have hal := hg
      have hOlt : ∀ b,O b ∨ I b → b < w'.heap.size := hrep.lt
      have hx : (AD.loadTo room l.plain i).addFile l[i].1 = AD.loadTo room l.plain (i + 1) := by rw [loadTo_succ room (by omega),plain_at' hi]
      have hzall := gall.size
      have hne6 : ∀ b,O b ∨ I b → b ≠ w4.heap.size := fun b hb => by have := hOlt b hb; omega
      have bTd : wd.heap[w4.heap.size]? = some (.cells #[bv,bv,.slice none 0 0] 124 (0,0)) := gall.get bT6 (by
        rintro (e | e)
        · exact hne6 _ (.inl h6.osh) e.symm
        · exact hne6 _ (.inl h6.osf) e.symm)
      have sd : SBytes wd bv l[i].1.2 := s6.fr gall fun b hb hM => by
        have := hb4 b hb
        rcases hM with e | e
        · have := hOlt _ (.inl h6.osh); omega
        · have := hOlt _ (.inl h6.osf); omega
      have hA := h6.addFile (f := l[i].1) (T := w4.heap.size) (I' := fun b => I b ∨ (w3.heap.size ≤ b ∧ b < w4.heap.size)) hload.ok.next hload.row hg hgs gall (fun hO => hne6 _ (.inl hO) rfl) (by omega)
        (mb.fr gcd (fun e => h6.ne e)) md
        ⟨⟨bv,bv,[],bTd,⟨sd,fun b hb => .inr (hb4 b hb)⟩,⟨sd,fun b hb => .inr (hb4 b hb)⟩,⟨rfl,.inl ⟨rfl,rfl⟩⟩,.nil⟩,.inr rfl,by rintro b hb; cases hb⟩
        (fun b => .inl) (by
          rintro b (hb | hb)
          · have := hOlt b (.inr hb); exact ⟨fun h => hrep.apart b h hb,by omega,by omega⟩
          · exact ⟨fun h => by have := hOlt b (.inl h); omega,by omega,by omega⟩)
      rw [hx] at hA
      have hWs := hfr.size
      refine ⟨m - 1,by omega,i + 1,by omega,e0,e6,e28.trans ev,e29,?_,_,_,_,hA,?_,?_,?_⟩
      · show i64 _ = i64 _; simp
      · rintro b ((hb | hb) | (hb | hb))
        · exact hlow b (.inl hb)
        · omega
        · exact hlow b (.inr hb)
        · omega
      · refine (hfr.trans f05 fun b hb => .inl hb).trans gall ?_
        rintro b (rfl | rfl)
        · exact .inr (hlow _ (.inl h6.osh))
        · exact .inr (hlow _ (.inl h6.osf))
      · intro j hj
        rcases Nat.lt_or_ge j i with h' | h'
        · exact hdj j h'
        · have : j = i := by omega
          subst this
          rw [dup_true' hi,hg]; rfl
  · refine s_lt_f (by omega) (pC_false ?_)
    rw [F49_2_eq]
    have hil : i = l.length := by omega
    subst hil
    exact hk hdj _ _ e0 e6 h
theorem c_load (hv:FilesS w v l) (hd:∀ p ∈ l,p.1.2.length ≤ 1048576) (hl:l.length ≤ 4611686018427387904) (hns:∀ f ∈ l.plain,f.1.size ≤ 9223372036854775807)
    (hno:AD.loadCode room l.plain ≠ 0 → ∀ w',Fr no w w' → k (.tuple #[.pointer none,i64 (AD.loadCode room l.plain)]) w')
    (hk:AD.loadCode room l.plain = 0 → ∀ w' E O I L,DRep w' E (AD.loadTo room l.plain l.length) O I L → (∀ b,O b ∨ I b → w.heap.size ≤ b) → Fr no w w' → k (.tuple #[ptr E,i64 0]) w') : pFn P 49 [i64 room,v] w k := by
  have hpl : l.plain.length = l.length := by unfold FilesL.plain; simp
  refine F49_in _ _ _ _ ?_
  unfold F49_0
  refine c_new (fun hr => ?_) fun hr w1 L1 h1 f1 => ?_
  · have hc : AD.loadCode room l.plain = 1 := by unfold AD.loadCode; rw [if_pos hr]
    rw [hc] at hno
    exact s_ext rfl (s_ext rfl (s_nei_t (by omega) (pC_true (hno (by omega) w (Fr.refl _ _)))))
  refine s_ext rfl (s_ext rfl (s_nei_f (by omega) (pC_false ?_)))
  have hv1 := hv.fr f1
  refine s_lenS usl71 hv1.src ?_
  unfold AD.loadCode at hno hk
  rw [if_neg (by omega:¬ ¬ (1 ≤ room ∧ room ≤ 1048576)),hpl] at hno hk
  by_cases hlen : l.length > 256
  · rw [if_pos hlen] at hno
    exact s_gt_t (by omega) (pC_true (hno (by omega) w1 f1))
  rw [if_neg hlen] at hno hk
  refine s_gt_f (by omega) (pC_false ?_)
  refine c_containsF hv1 (by omega) hns fun w2 f2 => ?_
  have f02 : Fr no w w2 := f1.trans f2 fun b hb => .inl hb
  cases hall : l.plain.any (fun f => !isName f.1) with
  | true =>
    rw [if_pos hall] at hno
    exact pC_true (hno (by omega) w2 f02)
  | false =>
  rw [if_neg (by rw [hall]; simp)] at hno hk
  have hnm : ∀ f ∈ l.plain,isName f.1 = true := fun f hf => by
    rw [List.any_eq_false] at hall
    simpa using hall f hf
  refine pC_false (s_lenS usl71 (hv1.fr f2).src ?_)
  have hsz : ∀ f ∈ l.plain,f.1.size ≤ 112 := fun f hf => by
    have := hnm f hf
    unfold isName at this
    simp only [Bool.and_eq_true,decide_eq_true_eq] at this
    exact this.2
  have hdl : ∀ f ∈ l.plain,f.2.length ≤ 1048576 := fun f hf => by obtain ⟨p,hp,rfl⟩ := List.mem_map.1 hf; exact hd p hp
  have h2 := h1.fr f2 fun b hb => hb.elim
  refine c_load1 (W := w) (room := room) (v := v) (E := w.heap.size + 2) hr hv (by omega) hd hnm (fun hdup w3 f3 => ?_) (fun hnd ρ w3 b0 b6 hL => ?_) rfl rfl rfl rfl rfl ⟨_,_,_,h2,?_,f02,fun j hj => absurd hj (Nat.not_lt_zero _)⟩
  · rw [hpl] at hdup
    rw [if_pos hdup] at hno
    exact hno (by omega) w3 f3
  · have hdn : (List.range l.length).any (dupAt room l.plain) = false := by
      rw [List.any_eq_false]; intro j hj; rw [hnd j (List.mem_range.1 hj)]; simp
    rw [if_neg (by rw [hdn]; simp)] at hno hk
    have hload := loading_to hr (l := l.plain) (by omega) hsz hdl l.length (by omega) hnd
    obtain ⟨O,I,L,hrep,hlow,hfr,-⟩ := hL
    unfold F49_2
    rw [b0,b6]
    refine c_used hrep hload.ok.room.1 (by have := used_le hload.ok; omega) fun w4 f4 => ?_
    have f04 : Fr no w w4 := hfr.trans f4 fun b hb => .inl hb
    by_cases hfull : ((AD.loadTo room l.plain l.length).used : Int) > room
    · rw [if_pos hfull] at hno
      exact s_gt_t hfull (pC_true (hno (by omega) w4 f04))
    rw [if_neg hfull] at hk
    refine s_gt_f hfull (pC_false ?_)
    exact hk rfl _ _ O I L (hrep.fr f4 fun b hb => hb.elim) hlow f04
  · rintro b (hb | hb)
    · exact hb.1
    · exact hb.elim
end
section
variable {w w0:World} {D E:Nat} {S S':AD} {O I:Nat → Prop} {L L':RLay} {k:KV} {room:Int} {v:Value} {l:FilesL}
theorem r_loadNames (hv:FilesS w v l) (hl:l.length ≤ 256) (hbad:l.plain.any (fun f => !isName f.1) = true → k (.tuple #[.pointer none,i64 51]) w)
    (hk:(∀ f ∈ l.plain,isName f.1 = true) → ∀ ρ : Env,ρ 0 = i64 room → ρ 1 = v → ρ 6 = ptr E → F50_2 k ρ w)
    {ρ:Env} (e0:ρ 0 = i64 room) (e1:ρ 1 = v) (e6:ρ 6 = ptr E) (e8:ρ 8 = i64 0) : F50L1 k ρ w := by
  refine F50L1_inv (m := l.length) k (fun m ρ w' => ∃ i : Nat,i + m = l.length ∧ w' = w ∧ ρ 0 = i64 room ∧ ρ 1 = v ∧ ρ 6 = ptr E ∧ ρ 8 = i64 i ∧ ∀ j (hj:j < l.length),j < i → isName l[j].1.1 = true) ?_
    ⟨0,by omega,rfl,e0,e1,e6,e8,fun j hj h => absurd h (by omega)⟩
  rintro m ρ w' ⟨i,him,rfl,e0,e1,e6,e8,hall⟩
  rw [F50_1_eq]
  unfold F50_1
  rw [e1,e8]
  refine s_lenS usl71 hv.src ?_
  by_cases hi : i < l.length
  · obtain ⟨b,o,c,ev,c0,c1⟩ := hv.at_ hi
    refine s_lt_t (by omega) (pC_true ?_)
    rw [ev]
    refine s_ix (i := (i:Int)) usl71 (sze71 _) (by omega) (by omega) (fa83_0 (s_ld (v := .string l[i].1.1) (isAgg9 _) (by simpa using c0) ?_))
    refine r_isName _ (s_not ?_)
    cases hn : isName l[i].1.1 with
    | false =>
      refine pC_true (hbad ?_)
      exact List.any_eq_true.2 ⟨l[i].1,List.mem_map.2 ⟨l[i],List.getElem_mem hi,rfl⟩,by rw [hn]; rfl⟩
    | true =>
      refine pC_false (s_add_in (by omega) ⟨m - 1,by omega,i + 1,by omega,rfl,e0,e1.trans ev,e6,?_,fun j hj h => ?_⟩)
      · show i64 _ = i64 _; simp
      · rcases Nat.lt_or_ge j i with h' | h'
        · exact hall j hj h'
        · have : j = i := by omega
          subst this; exact hn
  · refine s_lt_f (by omega) (pC_false ?_)
    rw [F50_2_eq]
    refine hk (fun f hf => ?_) _ e0 e1 e6
    obtain ⟨q,hq,rfl⟩ := List.mem_map.1 hf
    obtain ⟨j,hj,rfl⟩ := List.mem_iff_getElem.1 hq
    exact hall j hj (by omega)
end
section
variable {w w0:World} {D E:Nat} {S S':AD} {O I:Nat → Prop} {L L':RLay} {k:KV} {room:Int} {v:Value} {l:FilesL}
theorem RRep.named {w':World} {v':Value} {l':Names} {lo:Nat} (h:RRep w D S O I L) (hn:NewNm w0 w L.loc v' l') (hlo:w0.heap.size = lo) (hO:∀ b,O b → b < lo) (hr:∀ p ∈ l',L.has p.2) (hw:w' = w.setCell ⟨D,2,none⟩ v') :
    RRep w' D { S with shown := l' } O (fun b => I b ∨ (lo ≤ b ∧ b < w.heap.size)) { L with nowv := v' } := by
  have hf : Fr (fun b => b = D) w w' := hw ▸ Fr.setCell w ⟨D,2,none⟩ v'
  have hz : w'.heap.size = w.heap.size := by rw [hw]; simp
  have hOI : ∀ b,O b → ¬ (I b ∨ (lo ≤ b ∧ b < w.heap.size)) := fun b hb hi => hi.elim (h.apart b hb) fun h' => by have := hO b hb; omega
  have hII : ∀ b,I b → b ≠ D := fun b hb e => h.apart D h.oD (e ▸ hb)
  refine h.plain (M := fun b => b = D) (S' := { S with shown := l' }) hf (fun b hb => .inl (.inl hb)) ?_ rfl ?_ rfl rfl rfl (Nat.le_refl _) ?_ ?_ ?_ ?_ (fun b => id) (fun b => .inl) h.oturn h.otold hOI ?_
  · rw [hw]
    exact set_same h.disk 2 v'
  · rintro t (⟨n,hm⟩ | hm)
    · exact hr _ hm
    · exact h.sub t (.inr hm)
  · exact (hn.nv.fr hf fun b hb e => by have := hO D h.oD; have := hb.1; omega).mono fun b hb => .inr ⟨by omega,hb.2⟩
  · exact (h.bef.fr hf hII).mono fun b => .inl
  · refine own_fr h.turns hf fun b hb e => ?_
    obtain ⟨_,h'⟩ := own_obj h.turns hb
    rw [show b = D from e] at h'
    have := two_types h.disk h'
    revert this; decide
  · refine own_fr h.told hf fun b hb e => ?_
    obtain ⟨_,h'⟩ := own_obj h.told hb
    rw [show b = D from e] at h'
    have := two_types h.disk h'
    revert this; decide
  · rintro b (hb | hb | hb)
    · rw [hz]; exact h.lt b (.inl hb)
    · rw [hz]; exact h.lt b (.inr hb)
    · rw [hz]; exact hb.2
end
section
variable {W w w0:World} {D E:Nat} {S S':AD} {O I:Nat → Prop} {L L':RLay} {k:KV} {room:Int} {v:Value} {l:FilesL}
theorem FilesS.cells {w:World} (h:FilesS w v l) {i:Nat} (hi:i < l.length) {b o c:Nat} (ev:v = .slice (some ⟨b,o,Option.none⟩) l.length c) : w.cell? ⟨b,o + i * 2,Option.none⟩ = some (.string l[i].1.1) ∧ w.cell? ⟨b,o + i * 2 + 1,Option.none⟩ = some l[i].2 := by
 obtain ⟨b',o',c',ev',c0,c1⟩ := h.at_ hi
 have := ev.symm.trans ev'
 injection this with h1
 injection h1 with h1
 injection h1 with h1 h2
 subst h1 h2
 exact ⟨c0,c1⟩
abbrev LoadS (W:World) (room:Int) (l:FilesL) (E i:Nat) (w:World) : Prop :=
 ∃ O I L,RRep w E (AD.loadTo room l.plain i).part O I L ∧ (∀ b,O b ∨ I b → W.heap.size ≤ b) ∧ Fr no W w ∧ ∀ j,j < i → dupAt room l.plain j = false
end
section
variable {W w w0:World} {D E:Nat} {S S':AD} {O I:Nat → Prop} {L L':RLay} {k:KV} {room:Int} {v:Value} {l:FilesL}
theorem src_form {w:World} {x:Value} {size m:Nat} {cs:List Value} (h:Src w x size m cs) : ∃ A c,x = .slice A m c ∧ m ≤ c := by
 obtain ⟨A,c,hv,hc,_⟩ := h; exact ⟨A,c,hv,hc⟩
theorem plain_at {l:FilesL} {i:Nat} (hi:i < l.length) : l.plain[i]'(by unfold FilesL.plain; simpa using hi) = l[i].1 := by unfold FilesL.plain; simp
theorem r_withAt {loc:Nat → Nat} {v:Value} {nl:Names} {s:ByteArray} {t T:Nat} (hv:Src w v 2 nl.length (nmCells loc nl)) (hl:nl.length ≤ 549755813888) (hT:T = loc t) (hk:∀ v' w',NewNm w w' loc v' (setN nl s t) → Fr no w w' → k v' w') : pFn P 101 [v,.string s,ptr T] w k := by
 subst hT; exact r_with hv hl hk
theorem used_lt {S:AD} (ok:S.Ok 0) : S.used ≤ 268435456 := used_le ok
theorem dup_true {i:Nat} (hi:i < l.length) : dupAt room l.plain i = (alGet (AD.loadTo room l.plain i).shown l[i].1.1).isSome := by
 unfold dupAt FilesL.plain
 rw [List.getElem?_map,List.getElem?_eq_getElem hi]; rfl
set_option maxHeartbeats 2000000 in
theorem r_load2 (hr:1 ≤ room ∧ room ≤ 1048576) (hv:FilesS W v l) (hl:l.length ≤ 256) (hd:∀ p ∈ l,p.1.2.length ≤ 1048576) (hnm:∀ f ∈ l.plain,isName f.1 = true)
    (hdup:(List.range l.plain.length).any (dupAt room l.plain) = true → ∀ w',Fr no W w' → k (.tuple #[.pointer none,i64 52]) w')
    (hk:(∀ j,j < l.length → dupAt room l.plain j = false) → ∀ (ρ:Env) w',ρ 0 = i64 room → ρ 6 = ptr E → ρ 9 = i64 (AD.loadTo room l.plain l.length).used → LoadS W room l E l.length w' → F50_4 k ρ w')
    {ρ:Env} {w:World} (e0:ρ 0 = i64 room) (e1:ρ 1 = v) (e6:ρ 6 = ptr E) (e9:ρ 9 = i64 0) (e10:ρ 10 = i64 0) (h:LoadS W room l E 0 w) : F50L2 k ρ w := by
  have hpl : l.plain.length = l.length := by unfold FilesL.plain; simp
  have hsz : ∀ f ∈ l.plain,f.1.size ≤ 112 := fun f hf => by
    have := hnm f hf
    unfold isName at this
    simp only [Bool.and_eq_true,decide_eq_true_eq] at this
    exact this.2
  have hdl : ∀ f ∈ l.plain,f.2.length ≤ 1048576 := fun f hf => by obtain ⟨p,hp,rfl⟩ := List.mem_map.1 hf; exact hd p hp
  refine F50L2_inv (m := l.length) k (fun m ρ w' => ∃ i : Nat,i + m = l.length ∧ ρ 0 = i64 room ∧ ρ 1 = v ∧ ρ 6 = ptr E ∧ ρ 9 = i64 (AD.loadTo room l.plain i).used ∧ ρ 10 = i64 i ∧ LoadS W room l E i w') ?_
    ⟨0,by omega,e0,e1,e6,e9,e10,h⟩
  rintro m ρ w' ⟨i,him,e0,e1,e6,e9,e10,h⟩
  rw [F50_3_eq]
  unfold F50_3
  obtain ⟨O,I,L,hrep,hlow,hfr,hdj⟩ := id h
  have hvw := hv.fr hfr
  rw [e1,e6,e9,e10]
  refine s_lenS usl71 hvw.src ?_
  have hload := loading_to hr (l := l.plain) (by omega) hsz hdl i (by omega) hdj
  by_cases hi : i < l.length
  · obtain ⟨b,o,c,ev,c0,c1⟩ := hvw.at_ hi
    have hcell : ∀ {u:World},Fr no W u → u.cell? ⟨b,o + i * 2,none⟩ = some (.string l[i].1.1) ∧ u.cell? ⟨b,o + i * 2 + 1,none⟩ = some l[i].2 := fun hf => (hv.fr hf).cells hi ev
    refine s_lt_t (by omega) (pC_true ?_)
    have fd : Fr no W w'.drew := hfr.trans (Fr.drew _ _) fun b hb => .inl hb
    have hrd := hrep.fr (Fr.drew no w') fun b hb => hb.elim
    have hnow : ∀ {w:World} {S:AD} {O I:Nat → Prop} {L:RLay},RRep w E S O I L → w.heap[E]? = some (.cells (rcells S L) 62 (0,0)) := fun h => h.disk
    rw [ev]
    refine ⟨fun u => u.heap[E]? = some (.cells (rcells (AD.loadTo room l.plain i).part L) 62 (0,0)) ∧ u.cell? ⟨b,o + i * 2,none⟩ = some (.string l[i].1.1),⟨hrd.disk,(hcell fd).1⟩,?_⟩
    refine q_of _ (fun w_ hS => s_nil ⟨rfl,rfl⟩) (q_of _ (fun w_ hS => fa62_2 ⟨rfl,rfl⟩) (q_of L.nowv (fun w_ hS => s_ldb (isAgg59 _) hS.1 rfl ⟨rfl,rfl⟩) ?_))
    refine q_of _ (fun w_ hS => s_ix (i := (i:Int)) usl71 (sze71 _) (by omega) (by omega) ⟨rfl,rfl⟩) (q_of _ (fun w_ hS => fa83_0 ⟨rfl,rfl⟩) (q_of (.string l[i].1.1) (fun w_ hS => s_ld (isAgg9 _) (by simpa using hS.2) ⟨rfl,rfl⟩) ?_))
    have hlen : (AD.loadTo room l.plain i).shown.length ≤ 256 := by rw [hload.len]; omega
    refine r_find hrd.now.1 (by show (AD.loadTo room l.plain i).shown.length ≤ _; omega) (fun j hj e => ?_) fun hno => ?_
    · refine ⟨⟨hrd.disk,(hcell fd).1⟩,q_of (.bool true) (fun w_ hS => s_ge_t (by omega) ⟨rfl,rfl⟩) (pC_true (hdup ?_ _ fd))⟩
      refine List.any_eq_true.2 ⟨i,List.mem_range.2 (by omega),?_⟩
      rw [dup_true hi]
      have hg : alGet (AD.loadTo room l.plain i).shown l[i].1.1 = some (AD.loadTo room l.plain i).shown[j].2 := by
        rw [← e]; exact alGet_at (shown_nd hload.ok) (List.getElem?_eq_getElem hj)
      rw [hg]; rfl
    · refine ⟨⟨hrd.disk,(hcell fd).1⟩,q_of (.bool false) (fun w_ hS => s_ge_f (by omega) ⟨rfl,rfl⟩) (pC_false ?_)⟩
      generalize w'.drew = u0 at *
      have fd2 : Fr no W u0.drew := fd.trans (Fr.drew _ _) fun b hb => .inl hb
      have hr2 := hrd.fr (Fr.drew no u0) fun b hb => hb.elim
      generalize u0.drew = u1 at *
      have hb := (hv.fr fd2).all _ (List.getElem_mem hi)
      have hbl := hd _ (List.getElem_mem hi)
      refine ⟨fun u => u.cell? ⟨b,o + i * 2 + 1,none⟩ = some l[i].2,(hcell fd2).2,?_⟩
      refine q_of _ (fun w_ hS => s_ix (i := (i:Int)) usl71 (sze71 _) (by omega) (by omega) ⟨rfl,rfl⟩) (q_of _ (fun w_ hS => fa83_1 ⟨rfl,rfl⟩) (q_of l[i].2 (fun w_ hS => s_ld (isAgg36 _) (by simpa using hS) ⟨rfl,rfl⟩) ?_))
      refine q_of _ (fun w_ hS => s_ix (i := (i:Int)) usl71 (sze71 _) (by omega) (by omega) ⟨rfl,rfl⟩) (q_of _ (fun w_ hS => fa83_1 ⟨rfl,rfl⟩) (q_of l[i].2 (fun w_ hS => s_ld (isAgg36 _) (by simpa using hS) ⟨rfl,rfl⟩) ?_))
      refine r_copied hb (by omega) fun v1 w1 n1 f1 => ⟨(hcell (fd2.trans f1 fun b hb => .inl hb)).2,?_⟩
      have fw1 : Fr no W w1 := fd2.trans f1 fun b hb => .inl hb
      refine r_copied (hb.fr f1 fun _ _ h => h) (by omega) fun v2 w2 n2 f2 => ⟨(hcell (fw1.trans f2 fun b hb => .inl hb)).2,?_⟩
      have fw2 : Fr no W w2 := fw1.trans f2 fun b hb => .inl hb
      have s1 : SBytes w2 v1 l[i].1.2 := n1.sb.fr f2 fun _ _ h => h
      have s2 : SBytes w2 v2 l[i].1.2 := n2.sb
      have b1 : ∀ b,sblk v1 = some b → u1.heap.size ≤ b ∧ b < w2.heap.size := fun b hb => by have := n1.blk b hb; have := f2.size; omega
      have b2 : ∀ b,sblk v2 = some b → u1.heap.size ≤ b ∧ b < w2.heap.size := fun b hb => by have := n2.blk b hb; have := f1.size; omega
      have hz12 : u1.heap.size ≤ w2.heap.size := Nat.le_trans f1.size f2.size
      have f12 : Fr no u1 w2 := f1.trans f2 fun b hb => .inl hb
      clear n1 n2 f1 f2 hb fw1
      obtain ⟨A1,c1',rfl,-⟩ := s1.form
      obtain ⟨A2,c2',rfl,-⟩ := s2.form
      refine q_of (.agg #[.slice A1 l[i].1.2.length c1',.slice A2 l[i].1.2.length c2',.slice none 0 0]) (fun w_ hS => px_ok (w' := w_) (v := .agg #[.slice A1 l[i].1.2.length c1',.slice A2 l[i].1.2.length c2',.slice none 0 0]) (by kernel_rfl) ⟨rfl,rfl⟩) (s_boxC (cs := #[.slice A1 l[i].1.2.length c1',.slice A2 l[i].1.2.length c2',.slice none 0 0]) rfl ?_)
      have bT := alloc_new w2 (.cells #[.slice A1 l[i].1.2.length c1',.slice A2 l[i].1.2.length c2',.slice none 0 0] 156)
      have fT := Fr.alloc no w2 (.cells #[.slice A1 l[i].1.2.length c1',.slice A2 l[i].1.2.length c2',.slice none 0 0] 156)
      have zT : (w2.alloc (.cells #[.slice A1 l[i].1.2.length c1',.slice A2 l[i].1.2.length c2',.slice none 0 0] 156)).heap.size = w2.heap.size + 1 := by simp
      generalize w2.alloc (.cells #[.slice A1 l[i].1.2.length c1',.slice A2 l[i].1.2.length c2',.slice none 0 0] 156) = w3 at *
      have fw3 : Fr no W w3 := fw2.trans fT fun b hb => .inl hb
      refine ⟨(hcell fw3).2,?_⟩
      have hn : ¬ L.has (AD.loadTo room l.plain i).next := fun hh => absurd (hrep.below _ hh) (Nat.lt_irrefl _)
      have hr3 := hr2.fr (f12.trans fT fun b hb => .inl hb) fun b hb => hb.elim
      have hOlt : ∀ b,O b ∨ I b → b < u1.heap.size := hr2.lt
      have hx : (AD.loadTo room l.plain i).addFile l[i].1 = AD.loadTo room l.plain (i + 1) := by rw [loadTo_succ room (by omega),plain_at hi]
      have hP := hr3.placeX (AD.loadTo room l.plain i).next w2.heap.size hn { (AD.loadTo room l.plain i).part with things := fun j => if j = (AD.loadTo room l.plain i).next then ⟨l[i].1.2,l[i].1.2,[]⟩ else (AD.loadTo room l.plain i).things j,next := (AD.loadTo room l.plain i).next + 1 } rfl rfl rfl rfl rfl
        (fun t ht => by show (if t = _ then _ else _) = _; rw [if_neg ht]; rfl) (fun hO => by have := hOlt _ (.inl hO); omega) (fun hO => by have := hOlt _ (.inr hO); omega) (by omega) (Nat.lt_succ_self _) (Nat.le_succ _)
        (I' := fun b => I b ∨ (u1.heap.size ≤ b ∧ b < w2.heap.size))
        (by
          show RTRep _ _ _ _ _ (if _ = _ then _ else _)
          rw [if_pos rfl]
          exact ⟨⟨_,_,[],bT,⟨s1.fr fT fun _ _ h => h,fun b hb => .inr (b1 b hb)⟩,⟨s2.fr fT fun _ _ h => h,fun b hb => .inr (b2 b hb)⟩,⟨rfl,.inl ⟨rfl,rfl⟩⟩,rfl,by simp⟩,.inr rfl,by rintro b hb; cases hb⟩)
        (fun b => .inl)
        (by
          rintro b (hb | hb)
          · have := hOlt b (.inr hb); exact ⟨fun h => hrep.apart b h hb,by omega,by omega⟩
          · exact ⟨fun h => by have := hOlt b (.inl h); omega,by omega,by omega⟩)
      clear hr3
      have hP4 := hP.fr (Fr.drew no w3) fun b hb => hb.elim
      have fw4 : Fr no W w3.drew := fw3.trans (Fr.drew _ _) fun b hb => .inl hb
      have z4 : w3.drew.heap.size = w3.heap.size := rfl
      clear hP
      generalize w3.drew = w4 at *
      refine ⟨fun u => u.heap[E]? = some (.cells (rcells (AD.loadTo room l.plain i).part L) 62 (0,0)) ∧ u.cell? ⟨b,o + i * 2,none⟩ = some (.string l[i].1.1),⟨hP4.disk,(hcell fw4).1⟩,?_⟩
      refine q_of _ (fun w_ hS => s_nil ⟨rfl,rfl⟩) (q_of _ (fun w_ hS => fa62_2 ⟨rfl,rfl⟩) (q_of L.nowv (fun w_ hS => s_ldb (isAgg59 _) hS.1 rfl ⟨rfl,rfl⟩) ?_))
      refine q_of _ (fun w_ hS => s_ix (i := (i:Int)) usl71 (sze71 _) (by omega) (by omega) ⟨rfl,rfl⟩) (q_of _ (fun w_ hS => fa83_0 ⟨rfl,rfl⟩) (q_of (.string l[i].1.1) (fun w_ hS => s_ld (isAgg9 _) (by simpa using hS.2) ⟨rfl,rfl⟩) ?_))
      refine r_withAt (t := (AD.loadTo room l.plain i).next) hP4.now.1 (by show (AD.loadTo room l.plain i).shown.length ≤ _; omega) (by show w2.heap.size = if _ = _ then _ else _; rw [if_pos rfl]) fun v' w5 hn5 f5 => ?_
      have hP5 := hP4.fr f5 fun b hb => hb.elim
      have fw5 : Fr no W w5 := fw4.trans f5 fun b hb => .inl hb
      refine ⟨⟨hP5.disk,(hcell fw5).1⟩,q_of _ (fun w_ hS => s_nil ⟨rfl,rfl⟩) (q_of _ (fun w_ hS => fa62_2 ⟨rfl,rfl⟩) ?_)⟩
      obtain ⟨A5,c5,rfl,-⟩ := src_form (Src.of_own hn5)
      refine s_st (sizeOf59 _) rfl rfl hP5.disk (by show 2 < 11; omega) ?_
      have f6 : Fr (fun b => b = E) w5 (w5.setCell ⟨E,2,none⟩ (.slice A5 (setN (AD.loadTo room l.plain i).shown l[i].1.1 (AD.loadTo room l.plain i).next).length c5)) := Fr.setCell w5 ⟨E,2,none⟩ _
      have hEW : W.heap.size ≤ E := hlow _ (.inl hrep.oD)
      show px P _ (w5.setCell ⟨E,2,none⟩ (.slice A5 (setN (AD.loadTo room l.plain i).shown l[i].1.1 (AD.loadTo room l.plain i).next).length c5)) _
      generalize hwe : w5.setCell ⟨E,2,none⟩ (.slice A5 (setN (AD.loadTo room l.plain i).shown l[i].1.1 (AD.loadTo room l.plain i).next).length c5) = w6 at *
      have hN := hP5.named (w' := w6) hn5 rfl (fun b hb => Nat.lt_of_lt_of_le (hP4.lt b (.inl hb)) (Nat.le_refl _)) (by
        intro p hp
        rcases mem_setN.1 hp with rfl | hp
        · exact .inr rfl
        · exact .inl (hrep.sub _ (.inl ⟨p.1,hp.1⟩))) hwe.symm
      have fw6 : Fr no W w6 := fw5.trans f6 fun b hb => .inr (by omega)
      refine s_ix (i := (i:Int)) usl71 (sze71 _) (by omega) (by omega) (fa83_1 (s_ld (v := l[i].2) (isAgg36 _) (by simpa using (hcell fw6).2) ?_))
      obtain ⟨A7,c7,e7,-⟩ := ((hv.fr fw6).all _ (List.getElem_mem hi)).form
      rw [e7]
      have hal : alGet (AD.loadTo room l.plain i).shown l[i].1.1 = none := alGet_none_iff.2 hno
      have hu := used_add hload hal
      rw [hx] at hu
      have hub := (used_lt (hload.ok))
      refine s_len usl36 (s_add_in (by omega) (s_add_in (by omega) ?_))
      have hN2 : RRep w6 E ((AD.loadTo room l.plain i).addFile l[i].1).part _ _ _ := hN
      rw [hx] at hN2
      refine ⟨m - 1,by omega,i + 1,by omega,e0,e1.trans ev,e6,?_,?_,_,_,_,hN2,?_,fw6,?_⟩
      · show i64 _ = i64 _; rw [hu]; simp
      · show i64 _ = i64 _; simp
      · rintro b ((hb | hb) | ((hb | hb) | hb))
        · exact hlow b (.inl hb)
        · have := fw2.size; omega
        · exact hlow b (.inr hb)
        · have := fd2.size; omega
        · have := fw4.size; omega
      · intro j hj
        rcases Nat.lt_or_ge j i with h' | h'
        · exact hdj j h'
        · have : j = i := by omega
          subst this
          rw [dup_true hi,hal]; rfl
  · refine s_lt_f (by omega) (pC_false ?_)
    rw [F50_4_eq]
    have hil : i = l.length := by omega
    subst hil
    exact hk hdj _ _ e0 e6 e9 h
end
section
variable {W w w0:World} {D E:Nat} {S S':AD} {O I:Nat → Prop} {L L':RLay} {k:KV} {room:Int} {v:Value} {l:FilesL}
theorem RRep.settled {w':World} (h:RRep w D S.part O I L) (hs:S.safe = S.shown) (hw:w' = w.setCell ⟨D,3,none⟩ L.nowv) : RRep w' D S O I { L with befv := L.nowv } := by
 have hf : Fr (fun b => b = D) w w' := hw ▸ Fr.setCell w ⟨D,3,none⟩ L.nowv
 have hz : w'.heap.size = w.heap.size := by rw [hw]; simp
 have hII : ∀ b,I b → b ≠ D := fun b hb e => h.apart D h.oD (e ▸ hb)
 refine h.plain (M := fun b => b = D) (S' := S) hf (fun b hb => .inl (.inl hb)) ?_ rfl ?_ rfl rfl rfl (Nat.le_refl _) ?_ ?_ ?_ ?_ (fun b => id) (fun b => id) h.oturn h.otold h.apart ?_
 ·rw [hw]
  exact set_same h.disk 3 L.nowv
 ·rintro t (⟨n,hm⟩ | ⟨n,hm⟩ | hm)
  ·exact h.sub t (.inl ⟨n,hm⟩)
  ·rw [hs] at hm; exact h.sub t (.inl ⟨n,hm⟩)
  ·exact h.sub t (.inr (.inr hm))
 ·exact h.now.fr hf hII
 ·rw [hs]; exact h.now.fr hf hII
 ·refine own_fr h.turns hf fun b hb e => ?_
  obtain ⟨_,h'⟩ := own_obj h.turns hb
  rw [show b = D from e] at h'
  have := two_types h.disk h'
  revert this; decide
 ·refine own_fr h.told hf fun b hb e => ?_
  obtain ⟨_,h'⟩ := own_obj h.told hb
  rw [show b = D from e] at h'
  have := two_types h.disk h'
  revert this; decide
 ·intro b hb; rw [hz]; exact h.lt b hb
theorem r_load (hv:FilesS w v l) (hd:∀ p ∈ l,p.1.2.length ≤ 1048576) (hl:l.length ≤ 4611686018427387904)
    (hno:AD.loadCode room l.plain ≠ 0 → ∀ w',Fr no w w' → k (.tuple #[.pointer none,i64 (AD.loadCode room l.plain)]) w')
    (hk:AD.loadCode room l.plain = 0 → ∀ w' E O I L,RRep w' E (AD.loadTo room l.plain l.length) O I L → (∀ b,O b ∨ I b → w.heap.size ≤ b) → Fr no w w' → k (.tuple #[ptr E,i64 0]) w') : pFn P 50 [i64 room,v] w k := by
  have hpl : l.plain.length = l.length := by unfold FilesL.plain; simp
  refine F50_in _ _ _ _ ?_
  unfold F50_0
  refine r_new (fun hr => ?_) fun hr w1 L1 h1 f1 z1 => ?_
  · have hc : AD.loadCode room l.plain = 1 := by unfold AD.loadCode; rw [if_pos hr]
    rw [hc] at hno
    exact s_ext rfl (s_ext rfl (s_nei_t (by omega) (pC_true (hno (by omega) w (Fr.refl _ _)))))
  refine s_ext rfl (s_ext rfl (s_nei_f (by omega) (pC_false ?_)))
  have hv1 := hv.fr f1
  refine s_lenS usl71 hv1.src ?_
  unfold AD.loadCode at hno hk
  rw [if_neg (by omega:¬ ¬ (1 ≤ room ∧ room ≤ 1048576)),hpl] at hno hk
  by_cases hlen : l.length > 256
  · rw [if_pos hlen] at hno
    exact s_gt_t (by omega) (pC_true (hno (by omega) w1 f1))
  rw [if_neg hlen] at hno hk
  refine s_gt_f (by omega) (pC_false ?_)
  refine r_loadNames (room := room) (v := v) (E := w.heap.size) hv1 (by omega) (fun hbad => ?_) (fun hnm ρ a0 a1 a6 => ?_) rfl rfl rfl rfl
  · rw [if_pos hbad] at hno
    exact hno (by omega) w1 f1
  have hall : l.plain.any (fun f => !isName f.1) = false := by
    rw [List.any_eq_false]; intro f hf; rw [hnm f hf]; simp
  rw [if_neg (by rw [hall]; simp)] at hno hk
  unfold F50_2
  have hsz : ∀ f ∈ l.plain,f.1.size ≤ 112 := fun f hf => by
    have := hnm f hf
    unfold isName at this
    simp only [Bool.and_eq_true,decide_eq_true_eq] at this
    exact this.2
  have hdl : ∀ f ∈ l.plain,f.2.length ≤ 1048576 := fun f hf => by obtain ⟨p,hp,rfl⟩ := List.mem_map.1 hf; exact hd p hp
  refine r_load2 (W := w) (room := room) (v := v) (E := w.heap.size) hr hv (by omega) hd hnm (fun hdup w2 f2 => ?_) (fun hnd ρ w2 b0 b6 b9 hL => ?_) a0 a1 a6 ?_ rfl ⟨_,_,_,h1,?_,f1,fun j hj => absurd hj (Nat.not_lt_zero _)⟩
  · rw [hpl] at hdup
    rw [if_pos hdup] at hno
    exact hno (by omega) w2 f2
  · have hdn : (List.range l.length).any (dupAt room l.plain) = false := by
      rw [List.any_eq_false]; intro j hj; rw [hnd j (List.mem_range.1 hj)]; simp
    rw [if_neg (by rw [hdn]; simp)] at hno hk
    have hload := loading_to hr (l := l.plain) (by omega) hsz hdl l.length (by omega) hnd
    obtain ⟨O,I,L,hrep,hlow,hfr,-⟩ := hL
    unfold F50_4
    rw [b0,b6,b9]
    by_cases hfull : ((AD.loadTo room l.plain l.length).used : Int) > room
    · rw [if_pos hfull] at hno
      exact s_gt_t hfull (pC_true (hno (by omega) w2 hfr))
    rw [if_neg hfull] at hk
    refine s_gt_f hfull (pC_false ?_)
    obtain ⟨A5,c5,e5,-⟩ := src_form hrep.now.1
    refine s_nil (fa62_2 (s_ldb (v := L.nowv) (isAgg59 _) hrep.disk rfl (s_nil (fa62_3 ?_))))
    refine s_st (sizeOf59 _) (by rw [e5]; rfl) (by rw [e5]; rfl) hrep.disk (by show 3 < 11; omega) ?_
    have hR := hrep.settled hload.safe rfl
    refine hk rfl _ _ O I _ hR hlow (hfr.trans (Fr.setCell _ _ _) fun b hb => .inr ?_)
    have := hlow _ (.inl hrep.oD)
    rw [hb]; exact this
  · exact rfl
  · rintro b (rfl | hb)
    · exact Nat.le_refl _
    · exact hb.elim
end
end Go.Proofs.YtcdcojpfealppaaGreat

namespace Go.Proofs.XSep
open Go Go.RowKit Go.Proofs.XRed Go.Proofs.XHeap
theorem Seps.at2 {w:World} {J:Blks} {a b:Asrt} : ∀ {l:List Asrt} {i j:Nat} {O I:Blks},Seps l w O I → (∀ b,O b → ¬ J b) → i ≠ j → l[i]? = some a → l[j]? = some b →
    ∃ O1 I1 O2 I2,a.h w O1 I1 ∧ b.h w O2 I2 ∧ (∀ x,O1 x → ¬ O2 x ∧ ¬ I2 x) ∧ (∀ x,O2 x → ¬ O1 x ∧ ¬ I1 x) ∧ (∀ b,O1 b → O b) ∧ (∀ b,I1 b → I b) ∧ ∀ c w' O' I',c.h w' O' I' → Nxt w O1 J w' O' I' → ∃ O3 I3,Seps (l.set i c) w' O3 I3 ∧ Fr O w w' ∧ (∀ b,O3 b → O b ∨ w.heap.size ≤ b) ∧ ∀ b,I3 b → I b ∨ J b ∨ w.heap.size ≤ b
  | [],_,_,_,_,_,_,_,h,_ => by simp at h
  | x :: l,0,0,_,_,_,_,h,_,_ => absurd rfl h
  | x :: l,0,j + 1,O,I,hs,hJ,_,hi,hj => by
    have hs0 := hs
    obtain ⟨Oa,Ia,Ob,Ib,h1,h2,h3,h4,h5⟩ := hs
    simp at hi; subst hi
    obtain ⟨O2,I2,g1,g2,g3,_⟩ := h2.at_ (J := fun _ => False) (i := j) (a := b) (fun _ _ h => h) (by simpa using hj)
    refine ⟨Oa,Ia,O2,I2,h1,g1,fun x hx => ⟨fun h => (h3.1 x hx).1 (g2 x h),fun h => (h3.1 x hx).2 (g3 x h)⟩,fun x hx => h3.2 x (g2 x hx),fun b hb => (h4 b).2 (.inl hb),fun b hb => (h5 b).2 (.inl hb),fun c w' O' I' hc hn => ?_⟩
    refine ⟨fun b => O' b ∨ Ob b,fun b => I' b ∨ Ib b,⟨O',I',Ob,Ib,hc,Seps.fr hn.fr h2 h3.1,⟨fun b hb => ?_,fun b hb => ?_⟩,fun _ => Iff.rfl,fun _ => Iff.rfl⟩,?_,?_,?_⟩
    · rcases hn.on b hb with h | h
      · exact h3.1 b h
      · exact ⟨fun h' => absurd (h2.lt b (.inl h')) (by omega),fun h' => absurd (h2.lt b (.inr h')) (by omega)⟩
    · have hlt := h2.lt b (.inl hb)
      refine ⟨fun h => ?_,fun h => ?_⟩
      · rcases hn.on b h with h | h
        · exact (h3.1 b h).1 hb
        · omega
      · rcases hn.in_ b h with h | h
        · exact hJ b ((h4 b).2 (.inr hb)) h
        · omega
    · exact hn.fr.mono fun b hb => .inl ((h4 b).2 (.inl hb))
    · rintro b (hb | hb)
      · exact (hn.on b hb).imp (fun h => (h4 b).2 (.inl h)) id
      · exact .inl ((h4 b).2 (.inr hb))
    · rintro b (hb | hb)
      · exact .inr (hn.in_ b hb)
      · exact .inl ((h5 b).2 (.inr hb))
  | x :: l,i + 1,j,O,I,⟨O1,I1,O2,I2,h1,h2,h3,h4,h5⟩,hJ,hij,hi,hj => by
    have main : ∀ Oa Ia,a.h w Oa Ia → (∀ b,Oa b → O2 b) → (∀ b,Ia b → I2 b) → (∀ c w' O' I',c.h w' O' I' → Nxt w Oa J w' O' I' → ∃ O3 I3,Seps (l.set i c) w' O3 I3 ∧ Fr O2 w w' ∧ (∀ b,O3 b → O2 b ∨ w.heap.size ≤ b) ∧ ∀ b,I3 b → I2 b ∨ J b ∨ w.heap.size ≤ b) →
        ∀ c w' O' I',c.h w' O' I' → Nxt w Oa J w' O' I' → ∃ O3 I3,Seps ((x :: l).set (i + 1) c) w' O3 I3 ∧ Fr O w w' ∧ (∀ b,O3 b → O b ∨ w.heap.size ≤ b) ∧ ∀ b,I3 b → I b ∨ J b ∨ w.heap.size ≤ b := by
      intro Oa Ia ha ho hi2 hs c w' O' I' hc hn
      obtain ⟨O3,I3,hs3,hf,hon,hin⟩ := hs c w' O' I' hc hn
      refine ⟨fun b => O1 b ∨ O3 b,fun b => I1 b ∨ I3 b,⟨O1,I1,O3,I3,x.fr h1 hf h3.2,hs3,⟨fun b hb => ?_,fun b hb => ?_⟩,fun _ => Iff.rfl,fun _ => Iff.rfl⟩,?_,?_,?_⟩
      · have hlt := x.lt h1 b (.inl hb)
        refine ⟨fun h => ?_,fun h => ?_⟩
        · rcases hon b h with h | h
          · exact (h3.1 b hb).1 h
          · omega
        · rcases hin b h with h | h | h
          · exact (h3.1 b hb).2 h
          · exact hJ b ((h4 b).2 (.inl hb)) h
          · omega
      · rcases hon b hb with h | h
        · exact h3.2 b h
        · exact ⟨fun h' => absurd (x.lt h1 b (.inl h')) (by omega),fun h' => absurd (x.lt h1 b (.inr h')) (by omega)⟩
      · exact hf.mono fun b hb => .inl ((h4 b).2 (.inr hb))
      · rintro b (hb | hb)
        · exact .inl ((h4 b).2 (.inl hb))
        · exact (hon b hb).imp (fun h => (h4 b).2 (.inr h)) id
      · rintro b (hb | hb)
        · exact .inl ((h5 b).2 (.inl hb))
        · rcases hin b hb with h | h
          · exact .inl ((h5 b).2 (.inr h))
          · exact .inr h
    cases j with
    | zero =>
      simp at hj; subst hj
      obtain ⟨Oa,Ia,ha,ho,hi2,hs⟩ := h2.at_ (J := J) (i := i) (a := a) (fun b hb => hJ b ((h4 b).2 (.inr hb))) (by simpa using hi)
      exact ⟨Oa,Ia,O1,I1,ha,h1,fun y hy => h3.2 y (ho y hy),fun y hy => ⟨fun h => (h3.1 y hy).1 (ho y h),fun h => (h3.1 y hy).2 (hi2 y h)⟩,fun b hb => (h4 b).2 (.inr (ho b hb)),fun b hb => (h5 b).2 (.inr (hi2 b hb)),main Oa Ia ha ho hi2 hs⟩
    | succ j =>
      obtain ⟨Oa,Ia,Oc,Ic,ha,hc,g1,g2,ho,hi2,hs⟩ := Seps.at2 (J := J) (i := i) (j := j) h2 (fun b hb => hJ b ((h4 b).2 (.inr hb))) (by omega) (by simpa using hi) (by simpa using hj)
      exact ⟨Oa,Ia,Oc,Ic,ha,hc,g1,g2,fun b hb => (h4 b).2 (.inr (ho b hb)),fun b hb => (h5 b).2 (.inr (hi2 b hb)),main Oa Ia ha ho hi2 hs⟩
theorem Sep.at2 {l:List Asrt} {w:World} (h:Sep l w) (i j:Nat) {a b:Asrt} (hij:i ≠ j) (hi:l[i]? = some a) (hj:l[j]? = some b) :
    ∃ O I O2 I2 J,a.h w O I ∧ b.h w O2 I2 ∧ (∀ x,O x → ¬ O2 x ∧ ¬ I2 x) ∧ (∀ x,O2 x → ¬ O x ∧ ¬ I x) ∧ (∀ b,I b → J b) ∧ (∀ b,O b → ¬ J b) ∧ ∀ c w' O' I',c.h w' O' I' → Nxt w O J w' O' I' → Sep (l.set i c) w' := by
  obtain ⟨O,I,hs⟩ := h
  obtain ⟨O1,I1,O2,I2,h1,h2,g1,g2,h3,h4,h5⟩ := hs.at2 (J := I) hs.ap hij hi hj
  refine ⟨O1,I1,O2,I2,I,h1,h2,g1,g2,h4,fun b hb => hs.ap b (h3 b hb),fun c w' O' I' hc hn => ?_⟩
  obtain ⟨O3,I3,h6,-⟩ := h5 c w' O' I' hc hn
  exact ⟨O3,I3,h6⟩
theorem perm_front {α:Type} : ∀ {l:List α} {i:Nat} {a:α},l[i]? = some a → l.Perm (a :: l.eraseIdx i)
 | [],_,_,h => by simp at h
 | x :: l,0,a,h => by simp at h; subst h; exact .refl _
 | x :: l,i + 1,a,h => (List.Perm.cons x (perm_front (l := l) (i := i) (by simpa using h))).trans (List.Perm.swap _ _ _)
theorem Sep.front {w:World} {l:List Asrt} (h:Sep l w) (i:Nat) {a:Asrt} (hi:l[i]? = some a) : Sep (a :: l.eraseIdx i) w := h.perm (perm_front hi)
theorem Sep.erase {w:World} {l:List Asrt} (h:Sep l w) (i:Nat) {a:Asrt} (hi:l[i]? = some a) : Sep (l.eraseIdx i) w := (h.front i hi).drop
theorem Sep.left {w:World} {l:List Asrt} (h:Sep l w) (i:Nat) {a b:Asrt} (hi:l[i]? = some (star a b)) : Sep (l.set i a) w := by
 obtain ⟨O,I,J,⟨O1,I1,O2,I2,h1,h2,h3,h4,h5⟩,g1,g2,g3⟩ := h.at_ i hi
 exact g3 a w O1 I1 h1 ⟨Fr.refl _ _,fun b hb => .inl ((h4 b).2 (.inl hb)),fun b hb => .inl (g1 b ((h5 b).2 (.inl hb)))⟩
theorem Sep.right {w:World} {l:List Asrt} (h:Sep l w) (i:Nat) {a b:Asrt} (hi:l[i]? = some (star a b)) : ∃ O I,b.h w O I := by
 obtain ⟨O,I,⟨O1,I1,O2,I2,h1,h2,_⟩⟩ := h.get i hi
 exact ⟨O2,I2,h2⟩
end Go.Proofs.XSep
