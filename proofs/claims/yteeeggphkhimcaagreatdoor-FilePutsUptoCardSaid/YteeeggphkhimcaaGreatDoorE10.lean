/- Put together by a program (wip/tools/shake.py): Ops2,Ops3,Ops4,Left,Sorted,Files. -/
import Derived.Test.YteeeggphkhimcaaGreatDoorE9
import Derived.Test.YteeeggphkhimcaaGreatDoorE8
set_option linter.unusedVariables false
set_option linter.unusedSimpArgs false
set_option maxRecDepth 100000
namespace Go.Proofs.YteeeggphkhimcaaGreatDoor
open Go Go.Proofs Go.RowKit Go.Proofs.XRed Go.Proofs.XHeap Go.Proofs.XMaps Go.Proofs.XSlices Go.Proofs.XDisk Go.Proofs.XCalls Go.Proofs.XRange Tryz
section
variable {w:World} {D:Nat} {S S':AD} {O I:Nat → Prop} {L:Lay} {k:KV}
theorem c_cloneMap {m:Nat} {l:List (ByteArray × Value)} (h:SMap w m l) (hk:∀ w',SMap w' w.heap.size l → Fr no w w' → w'.heap.size = w.heap.size + 1 → k (.map (some w.heap.size)) w') : pFn P 96 [.map (some m)] w k := by
 refine F96_in _ _ _ ?_
 unfold F96_0
 refine s_eqmn underlying82 (pC_false (s_mki cc82 ?_))
 refine pFn_extern func152 (by kernel_rfl) (by kernel_rfl) (by kernel_rfl) (e := Extern.MapsClone.clone) (by kernel_rfl) ?_
 exact s_clonem h fun w' h' hf hz => s_ta underlying82 (hk w' h' hf hz)
def AD.fixed (S:AD) : AD := { S with safe := S.shown,row := [] }
theorem c_syncNamesC {b1:Nat} (h:DRep w D S O I L) (hb1:w.heap[b1]? = some (.cells #[ptr D] 24 (0,0)))
    (hk:∀ w' O' L',Nx w D O I w' (AD.fixed S) O' I L' → k (.tuple #[]) w') : pFn P 126 [ptr b1] w k := by
  refine F126_in _ _ _ ?_
  unfold F126_0
  have hbD : b1 ≠ D := by rintro rfl; exact absurd (two_types hb1 h.disk) (by decide)
  refine ⟨fun w' => w'.heap[b1]? = some (.cells #[ptr D] 24 (0,0)) ∧ ∃ cs,w'.heap[D]? = some (.cells cs 88 (0,0)) ∧ cs[1]? = some (.map (some L.sh)),⟨hb1,_,h.disk,rfl⟩,?_⟩
  refine q_of (ptr D) (fun w_ hS => s_ldb (isAgg24 _) hS.1 rfl ⟨rfl,rfl⟩) ?_
  refine q_of (ptr D) (fun w_ hS => s_ldb (isAgg24 _) hS.1 rfl ⟨rfl,rfl⟩) ?_
  refine q_of (ptr D) (fun w_ hS => s_ldb (isAgg24 _) hS.1 rfl ⟨rfl,rfl⟩) ?_
  refine q_of _ (fun w_ hS => s_nil ⟨rfl,rfl⟩) ?_
  refine q_of _ (fun w_ hS => fa88_1 ⟨rfl,rfl⟩) ?_
  refine q_of (.map (some L.sh)) (fun w_ hS => by obtain ⟨_,cs,h1,h2⟩ := hS; exact s_ldb (isAgg82 _) h1 h2 ⟨rfl,rfl⟩) ?_
  have f0 : Fr no w w.drew := Fr.drew _ _
  refine c_cloneMap (h.sh.fr f0 id) fun w1 hm f1 z1 => ?_
  have z0 : w.drew.heap.size = w.heap.size := rfl
  rw [z0] at hm z1
  have hd1 := f1.get (f0.get h.disk id) id
  have hb11 := f1.get (f0.get hb1 id) id
  refine ⟨⟨hb11,_,hd1,rfl⟩,?_⟩
  refine q_of _ (fun w_ hS => s_nil ⟨rfl,rfl⟩) ?_
  refine q_of _ (fun w_ hS => fa88_2 ⟨rfl,rfl⟩) ?_
  refine s_st (sizeOf82 _) rfl rfl hd1 (by show 2 < 11; decide) ?_
  have hd2 := set_same hd1 2 (.map (some w.heap.size))
  have f2 : Fr (fun b => b = D) w1 (w1.setCell ⟨D,2,none⟩ (.map (some w.heap.size))) := Fr.setCell w1 ⟨D,2,none⟩ _
  have z2 : (w1.setCell ⟨D,2,none⟩ (.map (some w.heap.size))).heap.size = w1.heap.size := by simp [World.setCell]
  have hb12 := f2.get hb11 hbD
  show (fun w' => w'.heap[b1]? = some (.cells #[ptr D] 24 (0,0)) ∧ ∃ cs,w'.heap[D]? = some (.cells cs 88 (0,0)) ∧ cs[1]? = some (.map (some L.sh))) (w1.setCell ⟨D,2,none⟩ (.map (some w.heap.size))) ∧ _
  refine ⟨⟨hb12,_,hd2,rfl⟩,?_⟩
  refine q_of _ (fun w_ hS => s_nil ⟨rfl,rfl⟩) ?_
  refine q_of _ (fun w_ hS => fa88_3 ⟨rfl,rfl⟩) ?_
  refine s_st (sizeOf83 _) rfl rfl hd2 (by show 3 < 11; decide) ?_
  have hd3 := set_same hd2 3 (.slice none 0 0)
  have f3 : Fr (fun b => b = D) (w1.setCell ⟨D,2,none⟩ (.map (some w.heap.size))) ((w1.setCell ⟨D,2,none⟩ (.map (some w.heap.size))).setCell ⟨D,3,none⟩ (.slice none 0 0)) := Fr.setCell _ ⟨D,3,none⟩ _
  have z3 : ((w1.setCell ⟨D,2,none⟩ (.map (some w.heap.size))).setCell ⟨D,3,none⟩ (.slice none 0 0)).heap.size = w.heap.size + 1 := by simp [World.setCell,z1]
  have hfr : Fr (fun b => b = D) w ((w1.setCell ⟨D,2,none⟩ (.map (some w.heap.size))).setCell ⟨D,3,none⟩ (.slice none 0 0)) := (((f0.or f1).or f2).or f3).mono (by rintro b (((hb | hb) | hb) | hb); exact hb.elim; exact hb.elim; exact .inl hb; exact .inl hb)
  have hDlt := h.lt D (.inl h.oD)
  have hm3 : SMap ((w1.setCell ⟨D,2,none⟩ (.map (some w.heap.size))).setCell ⟨D,3,none⟩ (.slice none 0 0)) w.heap.size (mapVals L L.lsh) := (hm.fr f2 (by omega)).fr f3 (by omega)
  show k _ ((w1.setCell ⟨D,2,none⟩ (.map (some w.heap.size))).setCell ⟨D,3,none⟩ (.slice none 0 0))
  generalize (w1.setCell ⟨D,2,none⟩ (.map (some w.heap.size))).setCell ⟨D,3,none⟩ (.slice none 0 0) = w3 at *
  have h1 := h.plain (S' := S) hfr
  have hO1 : Own L D D := .inl rfl
  have sep : ∀ {b},Own L D b → b ≠ D → ¬ b = D := fun _ h => h
  have hne : L.sh ≠ D := by rintro e; obtain ⟨es,c1,h1⟩ := SMap.obj h.sh; rw [e,h.disk] at h1; cases h1
  have hr : ∀ t,reach (AD.fixed S) t → reach S t := by
    rintro t (⟨n,h'⟩ | ⟨n,h'⟩ | ⟨n,h'⟩)
    · exact .inl ⟨n,h'⟩
    · exact .inl ⟨n,h'⟩
    · cases h'
  refine hk w3 (fun b => O b ∨ b = w.heap.size) { L with sf := w.heap.size,lsf := L.lsh,rowv := .slice none 0 0 } ⟨?_,hfr.mono fun b hb => .inl (hb ▸ h.oD),fun b => .inl,fun b => id,?_,fun b => .inl⟩
  · exact {
      disk := hd3
      sh := h.sh.fr hfr hne
      shp := h.shp
      sf := hm3
      sfp := h.shp
      ne := by have := h.lt L.sh (.inl h.osh); show L.sh ≠ w.heap.size; omega
      row := ⟨rfl,.inl ⟨rfl,rfl⟩⟩
      reads := own_fr h.reads hfr (by rintro b hb e; obtain ⟨c1,h1⟩ := own_obj h.reads hb; rw [e] at h1; exact absurd (two_types h1 h.disk) (by decide))
      things := fun t ht => ((h.things t (hr t ht)).stay h hfr fun b hb => .inl (.inl hb)).mono (O := O) (fun b => .inl) fun b => id
      inj := fun t u ht hu => h.inj t u (hr t ht) (hr u hu)
      rows := fun t u ht hu => h.rows t u (hr t ht) (hr u hu)
      oD := .inl h.oD
      osh := .inl h.osh
      osf := .inr rfl
      orow := by rintro b hb; cases hb
      oreads := fun b hb => .inl (h.oreads b hb)
      apart := by
        rintro b (hb | rfl) hi
        · exact h.apart b hb hi
        · exact absurd (h.lt _ (.inr hi)) (Nat.lt_irrefl _)
      lt := by
        rintro b ((hb | rfl) | hb)
        · have := h.lt b (.inl hb); omega
        · omega
        · have := h.lt b (.inr hb); omega }
  · rintro b (hb | rfl)
    · exact .inl hb
    · exact .inr (Nat.le_refl _)
theorem c_syncNames {c:Nat} (h:DRep w D S O I L) (ok:S.Ok c) (hk:∀ w' O' I' L',Nx w D O I w' S.syncNames.2 O' I' L' → k (i64 S.syncNames.1) w') : pFn P 71 [ptr D] w k := by
 refine F71_in _ _ _ ?_
 unfold F71_0
 have hz := h.lt
 refine s_box ?_
 have f1 := Fr.alloc no w (.cells #[ptr D] 24)
 have b1 := alloc_new w (.cells #[ptr D] 24)
 have z1 : (w.alloc (.cells #[ptr D] 24)).heap.size = w.heap.size + 1 := by simp
 show px P _ (w.alloc (.cells #[ptr D] 24)) _
 generalize w.alloc (.cells #[ptr D] 24) = w1 at *
 have h1 := h.fr f1 fun b hb => hb.elim
 have hN0 : Nx w D O I w1 S O I L := Nx.from f1 (Nx.refl h1) hz
 refine s_ldb (v := ptr D) (isAgg24 _) b1 rfl (c_off h1.disk ok.room.1 ?_)
 cases ho : S.off with
 | true =>
  have ec : S.syncNames = (50,S) := by unfold AD.syncNames; simp [ho]
  have := hk w1 O I L (by rw [ec]; exact hN0)
  rw [ec] at this; exact pC_true this
 | false =>
  refine pC_false (s_ldb (v := ptr D) (isAgg24 _) b1 rfl (s_mkf ?_))
  have ec : S.syncNames = S.stroke 2 0 AD.fixed := by unfold AD.syncNames; simp [ho]; rfl
  refine c_stroke (act := AD.fixed) 2 0 _ h1 ⟨ok.strokes.1,by have := ok.strokes.2; have := ok.small; omega⟩ ⟨ok.since.1,by have := ok.since.2; have := ok.small; omega⟩ (fun T => rfl) ?_ ?_
  ·intro _ w3 hR f3 K hK
   have g1 : w3.heap[w.heap.size]? = some (.cells #[ptr D] 24 (0,0)) := f3.get b1 (by rintro e; exact absurd (hz D (.inl h.oD)) (by omega))
   exact c_syncNamesC hR g1 fun w' O' L' hx => hK _ w' O' _ L' hx
  ·intro w' O' I' L' hx
   rw [← ec]
   exact hk w' O' I' L' (by rw [ec]; exact Nx.from f1 hx hz)
def planVal (p:PlanA) : Value := .agg #[i64 p.off,i64 p.from_,i64 p.to_]
theorem c_plan (h:DRep w D S O I L) (hr:1 ≤ S.room) (p:PlanA) (hk:∀ w' O' I' L',Nx w D O I w' (S.plans p) O' I' L' → k (.tuple #[]) w') : pFn P 55 [ptr D,planVal p] w k := by
 refine F55_in _ _ _ _ ?_
 unfold F55_0
 have hz := h.lt
 refine s_box ?_
 have f1 := Fr.alloc no w (.cells #[i64 p.off,i64 p.from_,i64 p.to_] 85)
 have b1 := alloc_new w (.cells #[i64 p.off,i64 p.from_,i64 p.to_] 85)
 show pFn P _ _ (w.alloc (.cells #[i64 p.off,i64 p.from_,i64 p.to_] 85)) _
 generalize w.alloc (.cells #[i64 p.off,i64 p.from_,i64 p.to_] 85) = w1 at *
 have h1 := h.fr f1 fun b hb => hb.elim
 refine c_off h1.disk hr (s_not ?_)
 cases ho : S.off with
 | true =>
  refine pC_false (hk w1 O I L ?_)
  have : S.plans p = S := by unfold AD.plans; simp [ho]
  rw [this]; exact Nx.from f1 (Nx.refl h1) hz
 | false =>
  have ec : S.plans p = { S with plan := p,since := 0 } := by unfold AD.plans; simp [ho]
  refine pC_true ?_
  refine s_ldAgg (m := 3) (isAgg85 _) (sizeOf85 _) b1 (by show 0 + 3 ≤ 3; decide) ?_
  refine s_nil (fa88_5 ?_)
  refine s_stN (vs := [i64 p.off,i64 p.from_,i64 p.to_]) (sizeOf85 _) rfl (by intro v hv; simp at hv; rcases hv with rfl | rfl | rfl <;> rfl) h1.disk (by show 5 + 3 ≤ 11; decide) fun w2 hd2 f2 z2 => ?_
  refine s_nil (fa88_6 (s_st (sizeOf3 _) rfl rfl hd2 (by show 8 < 11; decide) ?_))
  have hd3 := set_same hd2 8 (i64 0)
  have f3 : Fr (fun b => b = D) w2 (w2.setCell ⟨D,8,none⟩ (i64 0)) := Fr.setCell w2 ⟨D,8,none⟩ _
  refine hk _ O I L ?_
  rw [ec]
  exact Nx.from f1 (Nx.plain h1 ((f2.or f3).mono fun b hb => hb.elim .inl .inl) hd3 rfl rfl rfl rfl rfl) hz
end
section
variable {w:World} {D:Nat} {S S':AD} {O I:Nat → Prop} {L:Lay} {k:KV}
theorem SBytes.none {A:Option Addr} {n c:Nat} {bs:Bytes} (h:SBytes w (.slice A n c) bs) (hA:A = none) : bs = [] := by
 obtain ⟨A',c',he,hc,hl,hr⟩ := h
 injection he with e1 e2 e3
 rcases Nat.eq_zero_or_pos bs.length with h0 | h0
 ·exact List.eq_nil_of_length_eq_zero h0
 ·obtain ⟨b,o,e,_⟩ := hr h0
  rw [← e1,hA] at e; cases e
theorem c_cloneB {v:Value} {bs:Bytes} (h:SBytes w v bs) (hb:bs.length ≤ 1099511627776) (hk:∀ w' v',SBytes w' v' bs → (∀ b,sblk v' = some b → w.heap.size ≤ b ∧ b < w'.heap.size) → Fr no w w' → k v' w') : pFn P 80 [v] w k := by
 refine F80_in _ _ _ ?_
 unfold F80_0
 obtain ⟨A,c,rfl,hc⟩ := h.form
 refine s_eqsn underlying23 ?_
 cases A with
 | none =>
  have := SBytes.none h rfl
  subst this
  exact pC_true (hk w _ (SBytes.nil _) (by rintro b hb; cases hb) (Fr.refl _ _))
 | some a =>
  refine pC_false (lit0_23 ?_)
  have f1 := Fr.alloc no w (.cells #[] 5)
  have ho := own_lit w 0 5 1 #[] 0 (Nat.zero_le _) (by unfold maxLen; omega) rfl
  have z1 : (w.alloc (.cells #[] 5)).heap.size = w.heap.size + 1 := by simp
  show px P _ (w.alloc (.cells #[] 5)) _
  generalize w.alloc (.cells #[] 5) = w1 at *
  refine ap23 ho (h.fr f1 fun _ _ => id) u8s_one (by omega) (Nat.zero_le _) fun v' w2 h2 f2 hb2 => ?_
  have hS := Src.of_own h2
  have hz := f2.size
  have e0 : 0 + bs.length = bs.length := Nat.zero_add _
  rw [e0] at hS
  refine hk w2 v' hS ?_ ((f1.or f2).mono ?_)
  ·intro b hb'
   have := (own_blk_lt h2 hb').2
   rcases hb2 with e | e
   ·rw [e] at hb'; injection hb' with hb'; have hb'' : w.heap.size = b := hb'; omega
   ·rw [e] at hb'; injection hb' with hb'; omega
  ·rintro b (hb' | hb')
   ·exact .inl hb'
   ·injection hb' with hb'; have hb'' : b = w.heap.size := hb'; exact .inr (by omega)
theorem DRep.moreI {I':Nat → Prop} (h:DRep w D S O I L) (hi:∀ b,I b → I' b) (ha:∀ b,O b → ¬ I' b) (hl:∀ b,I' b → b < w.heap.size) : DRep w D S O I' L :=
 { h with
  things := fun t ht => (h.things t ht).mono (O := O) (fun b => id) hi
  apart := ha
  lt := fun b hb => hb.elim (fun hb => h.lt b (.inl hb)) (hl b) }
theorem Nx.lessI {w':World} {O' I1 I':Nat → Prop} {L':Lay} {w0:World} (h:Nx w D O I1 w' S' O' I' L') (hz:w0.heap.size ≤ w.heap.size) (hf:Fr no w0 w) (h1:∀ b,I b → I1 b) (h2:∀ b,I1 b → I b ∨ w0.heap.size ≤ b) : Nx w0 D O I w' S' O' I' L' where
 rep := h.rep
 fr := (hf.or h.fr).mono fun b hb => hb.elim (fun h => h.elim) .inl
 oo := h.oo
 ii := fun b hb => h.ii b (h1 b hb)
 on := fun b hb => (h.on b hb).imp id (Nat.le_trans hz)
 in_ := fun b hb => (h.in_ b hb).elim (h2 b) fun hb => .inr (Nat.le_trans hz hb)
theorem c_writeAtC {c t b1 b2 b3 a:Nat} {dv:Value} {d:Bytes} (h:DRep w D S O I L) (ht:reach S t) (hT:(S.things t).Ok c) (hc:c ≤ 1099511627776) (ha:a ≤ (S.things t).shown.length) (hd:d.length ≤ 549755813888)
    (hb1:w.heap[b1]? = some (.cells #[ptr (L.loc t)] 132 (0,0))) (hb2:w.heap[b2]? = some (.cells #[i64 a] 3 (0,0))) (hb3:w.heap[b3]? = some (.cells #[dv] 23 (0,0))) (hdv:SBytes w dv d)
    (hk:∀ w' O' I' L',Nx w D O I w' (S.setThing t ((S.things t).add (.wr a d))) O' I' L' → k (.tuple #[]) w') : pFn P 171 [ptr b1,ptr b2,ptr b3] w k := by
  refine F171_in _ _ _ _ _ ?_
  unfold F171_0
  refine ⟨fun w' => w'.heap[b1]? = some (.cells #[ptr (L.loc t)] 132 (0,0)) ∧ w'.heap[b2]? = some (.cells #[i64 a] 3 (0,0)) ∧ w'.heap[b3]? = some (.cells #[dv] 23 (0,0)),⟨hb1,hb2,hb3⟩,?_⟩
  refine q_of (ptr (L.loc t)) (fun w_ hS => s_ldb (isAgg132 _) hS.1 rfl ⟨rfl,rfl⟩) ?_
  refine q_of (i64 a) (fun w_ hS => s_ldb (isAgg3 _) hS.2.1 rfl ⟨rfl,rfl⟩) ?_
  refine q_of dv (fun w_ hS => s_ldb (isAgg23 _) hS.2.2 rfl ⟨rfl,rfl⟩) ?_
  have f0 : Fr no w w.drew := Fr.drew _ _
  refine c_cloneB (hdv.fr f0 fun _ _ => id) (by omega) fun w1 v1 h1 hb f1 => ?_
  refine ⟨⟨f1.get hb1 id,f1.get hb2 id,f1.get hb3 id⟩,?_⟩
  have f01 : Fr no w w1 := (f0.or f1).mono fun b hb => hb.elim (fun h => h.elim) fun h => h.elim
  obtain ⟨A1,c1,hv1,_⟩ := h1.form
  refine q_of (.agg #[i64 a,v1]) (fun w_ hS => px_ok (w' := w_) (v := .agg #[i64 a,v1]) (by subst hv1; kernel_rfl) ⟨rfl,rfl⟩) ?_
  refine q_of _ (fun w_ hS => s_mki cc284 ⟨rfl,rfl⟩) ?_
  have hb' : ∀ b,sblk v1 = some b → w.heap.size ≤ b ∧ b < w1.heap.size := hb
  have hI1 : DRep w1 D S O (fun b => I b ∨ sblk v1 = some b) L := (h.fr f01 fun b hb => hb.elim).moreI (fun b => .inl) (by
    rintro b ho (hi | hi)
    · exact h.apart b ho hi
    · have := h.lt b (.inl ho); have := hb' b hi; omega) (by
    rintro b (hi | hi)
    · have := h.lt b (.inr hi); have := f01.size; omega
    · exact (hb' b hi).2)
  have hlen := hT.ok.len.1
  have hv : ChgV w1 (fun b => I b ∨ sblk v1 = some b) (.wr a d) (.iface 284 (.agg #[i64 a,v1])) := ⟨v1,rfl,h1,fun b hb => .inr hb⟩
  refine c_add (c := .wr a d) hI1 ht hv (by have := hT.row; omega) (by omega) (by intro m e; cases e) (by intro a' d' e; injection e with e1 e2; subst e1 e2; omega) fun w' O' I' L' hx => ?_
  exact hk w' O' I' L' (hx.lessI f01.size f01 (fun b => .inl) fun b hb => hb.imp id fun hb => (hb' b hb).1)
end
theorem used_le {S:AD} {c:Nat} (ok:S.Ok c) : S.used ≤ 268435456 := by
 have h1 := ok.turns.len.1
 have h2 : ∀ p ∈ S.shown,(S.things p.2).shown.length ≤ 1048576 := fun p hp => (ok.thing p.2 (.inl ⟨p.1,hp⟩)).ok.len.1
 unfold AD.used
 have : ∀ (l:Names),(∀ p ∈ l,(S.things p.2).shown.length ≤ 1048576) → (l.map fun p => (S.things p.2).shown.length).sum ≤ l.length * 1048576 := by
  intro l
  induction l with
  | nil => intro _; simp
  | cons p r ih =>
   intro h
   have h3 := h p List.mem_cons_self
   have h4 := ih fun q hq => h q (List.mem_cons_of_mem _ hq)
   simp only [List.map_cons,List.sum_cons,List.length_cons]
   omega
 have := this _ h2
 omega
theorem SBytes.fr1 {O:Nat → Prop} {w w':World} {x:Value} {bs:Bytes} (h:SBytes w x bs) (hf:Fr O w w') (hn:0 < bs.length → ∀ b,sblk x = some b → ¬ O b) : SBytes w' x bs := by
 rcases Nat.eq_zero_or_pos bs.length with h0 | h0
 ·obtain ⟨A,c,rfl,hc,hl,hr⟩ := h
  exact ⟨A,c,rfl,hc,hl,fun h1 => absurd h1 (by omega)⟩
 ·exact h.fr hf (hn h0)
section
variable {w:World} {D:Nat} {S S':AD} {O I:Nat → Prop} {L:Lay} {k:KV}
theorem c_writeAt0 {c:Nat} (h:DRep w D S O I L) (ok:S.Ok c) (name:ByteArray) (hs:name.size ≤ 9223372036854775807) (a:Int) {dv:Value} {d:Bytes} (hdv:SBytes w dv d) (hdO:0 < d.length → ∀ b,sblk dv = some b → ¬ O b) (hdl:d.length ≤ 549755813888)
    (hk:∀ w' O' I' L',Nx w D O I w' (S.writeAt name a d).2 O' I' L' → k (i64 (S.writeAt name a d).1) w') : pFn P 128 [ptr D,.string name,i64 a,dv] w k := by
  refine F128_in _ _ _ _ _ _ ?_
  unfold F128_0
  have hz := h.lt
  refine s_box ?_
  have f1 := Fr.alloc no w (.cells #[i64 a] 3)
  have b1 := alloc_new w (.cells #[i64 a] 3)
  have z1 : (w.alloc (.cells #[i64 a] 3)).heap.size = w.heap.size + 1 := by simp
  show px P _ (w.alloc (.cells #[i64 a] 3)) _
  generalize w.alloc (.cells #[i64 a] 3) = w1 at *
  obtain ⟨Ad,cd,rfl,hcd⟩ := hdv.form
  refine s_box ?_
  have f2 := Fr.alloc no w1 (.cells #[.slice Ad d.length cd] 23)
  have b2 := alloc_new w1 (.cells #[.slice Ad d.length cd] 23)
  have z2 : (w1.alloc (.cells #[.slice Ad d.length cd] 23)).heap.size = w1.heap.size + 1 := by simp
  show pFn P _ _ (w1.alloc (.cells #[.slice Ad d.length cd] 23)) _
  generalize w1.alloc (.cells #[.slice Ad d.length cd] 23) = w2 at *
  have f12 : Fr no w w2 := (f1.or f2).mono fun b hb => hb.elim (fun h => h.elim) fun h => h.elim
  have h2 := h.fr f12 fun b hb => hb.elim
  refine c_look h2 ok.room.1 name hs (s_ext rfl (s_ext rfl ?_))
  generalize hlv : (if S.look name = 0 then ptr (L.loc (S.of name)) else .pointer none) = lv
  refine s_alloc (zeroValue132 _) ?_
  have f3 := Fr.alloc no w2 (.cells #[.pointer none] 132)
  have b3 := alloc_new w2 (.cells #[.pointer none] 132)
  have z3 : (w2.alloc (.cells #[.pointer none] 132)).heap.size = w2.heap.size + 1 := by simp
  show pu P _ (w2.alloc (.cells #[.pointer none] 132)) _
  generalize w2.alloc (.cells #[.pointer none] 132) = w3 at *
  have hl1 : lv.cells = #[lv] ∧ lv.oneCell' = true := by rw [← hlv]; split <;> exact ⟨rfl,rfl⟩
  refine s_st (sizeOf132 _) hl1.1 hl1.2 b3 (by show 0 < 1; decide) ?_
  have b4 := set_same b3 0 lv
  have f4 : Fr (fun b => b = w2.heap.size) w3 (w3.setCell ⟨w2.heap.size,0,none⟩ lv) := Fr.setCell w3 ⟨w2.heap.size,0,none⟩ _
  have z4 : (w3.setCell ⟨w2.heap.size,0,none⟩ lv).heap.size = w3.heap.size := by simp [World.setCell]
  have b1' := f4.get (f3.get (f2.get b1 id) id) (by omega)
  have b2' := f4.get (f3.get b2 id) (by omega)
  show px P _ (w3.setCell ⟨w2.heap.size,0,none⟩ lv) _
  generalize w3.setCell ⟨w2.heap.size,0,none⟩ lv = w4 at *
  have f04 : Fr no w w4 := ((f12.or f3).or f4).mono (by rintro b ((hb | hb) | hb); exact hb.elim; exact hb.elim; exact .inr (by omega))
  have h4 := h.fr f04 fun b hb => hb.elim
  have hN0 : Nx w D O I w4 S O I L := Nx.from f04 (Nx.refl h4) hz
  by_cases hl : S.look name = 0
  · have hg : alGet S.shown name = some (S.of name) := by
      rcases look_vals S name with h | h | h | h
      · rw [h] at hl; cases hl
      · rw [h] at hl; cases hl
      · rw [h] at hl; cases hl
      · exact h.2
    have hr : reach S (S.of name) := .inl ⟨name,mem_of_alGet hg⟩
    rw [if_pos hl] at hlv
    subst hlv
    rw [hl]
    refine s_nei_f rfl (pC_false ?_)
    have b3' : w4.heap[w2.heap.size]? = some (.cells #[ptr (L.loc (S.of name))] 132 (0,0)) := b4
    have hT0 := h4.things _ hr
    obtain ⟨sv,hv,cs,hbT,_,hsh,_⟩ := hT0.ex
    obtain ⟨A,c',rfl,hc'⟩ := hsh.1.form
    have hlen := (ok.thing _ hr).ok.len.1
    have hul := used_le ok
    -- what the three variables and the thing hold
    let SS : World → Prop := fun w' : World => w'.heap[w.heap.size]? = some (.cells #[i64 a] 3 (0,0)) ∧ w'.heap[w1.heap.size]? = some (.cells #[.slice Ad d.length cd] 23 (0,0)) ∧ w'.heap[w2.heap.size]? = some (.cells #[ptr (L.loc (S.of name))] 132 (0,0)) ∧ w'.heap[L.loc (S.of name)]? = some (.cells #[sv,.slice A (S.things (S.of name)).shown.length c',L.trow (S.of name)] 131 (0,0)) ∧ w'.heap[D]? = some (.cells (dcells S L) 88 (0,0))
    have Sok : ∀ w',Fr no w4 w' → SS w' :=
      fun w' f => ⟨f.get b1' id,f.get b2' id,f.get b3' id,f.get hbT id,f.get h4.disk id⟩
    have f5 : Fr no w4 w4.drew := Fr.drew _ _
    refine ⟨SS,Sok _ f5,?_⟩
    refine q_of (i64 a) (fun w_ hS => s_ldb (isAgg3 _) hS.1 rfl ⟨rfl,rfl⟩) ?_
    have el : ((S.bytes name).length : Int) = ((S.things (S.of name)).shown.length : Int) := rfl
    have beyond : (a < 0 ∨ a > (S.bytes name).length) → k (i64 54) w4.drew := by
      intro hbad
      have f05 : Fr no w w4.drew := (f04.or f5).mono fun b hb => hb.elim (fun h => h.elim) fun h => h.elim
      have h5 : DRep w4.drew D S O I L := h4.fr f5 fun b hb => hb.elim
      have ec : S.writeAt name a d = (54,S) := by unfold AD.writeAt; rw [if_neg (by simp [hl]),if_pos hbad]
      have := hk w4.drew O I L (by rw [ec]; exact Nx.from f05 (Nx.refl h5) hz)
      rw [ec] at this; exact this
    by_cases a0 : a < 0
    · refine q_of _ (fun w_ hS => s_lt_t a0 ⟨rfl,rfl⟩) ?_
      repeat (first | refine pGq_skf ?_ | refine pGq_un ?_)
      exact q_of _ (fun w_ hS => s_pick_t ⟨rfl,rfl⟩) (pC_true (beyond (.inl a0)))
    refine q_of _ (fun w_ hS => s_lt_f a0 ⟨rfl,rfl⟩) ?_
    refine pGq_yes rfl ?_
    refine q_of (i64 a) (fun w_ hS => s_ldb (isAgg3 _) hS.1 rfl ⟨rfl,rfl⟩) ?_
    refine pGq_yes rfl ?_
    refine q_of (ptr (L.loc (S.of name))) (fun w_ hS => s_ldb (isAgg132 _) hS.2.2.1 rfl ⟨rfl,rfl⟩) ?_
    refine pGq_yes rfl ?_
    refine q_of _ (fun w_ hS => s_nil ⟨rfl,rfl⟩) ?_
    refine pGq_yes rfl ?_
    refine q_of _ (fun w_ hS => fa131_1 ⟨rfl,rfl⟩) ?_
    refine pGq_yes rfl ?_
    refine q_of (.slice A (S.things (S.of name)).shown.length c') (fun w_ hS => s_ldb (isAgg23 _) hS.2.2.2.1 rfl ⟨rfl,rfl⟩) ?_
    refine pGq_yes rfl ?_
    refine q_of _ (fun w_ hS => s_len usl23 ⟨rfl,rfl⟩) ?_
    refine pGq_yes rfl ?_
    by_cases a1 : a > (S.things (S.of name)).shown.length
    · refine q_of _ (fun w_ hS => s_gt_t a1 ⟨rfl,rfl⟩) ?_
      exact q_of _ (fun w_ hS => s_pick_f ⟨rfl,rfl⟩) (pC_true (beyond (.inr a1)))
    refine q_of _ (fun w_ hS => s_gt_f a1 ⟨rfl,rfl⟩) ?_
    refine q_of _ (fun w_ hS => s_pick_f ⟨rfl,rfl⟩) (pC_false ?_)
    -- more
    have f6 : Fr no w4 w4.drew.drew := (f5.or (Fr.drew no _)).mono fun b hb => hb.elim (fun h => h.elim) fun h => h.elim
    refine ⟨SS,Sok _ f6,?_⟩
    refine q_of (i64 a) (fun w_ hS => s_ldb (isAgg3 _) hS.1 rfl ⟨rfl,rfl⟩) ?_
    refine q_of (.slice Ad d.length cd) (fun w_ hS => s_ldb (isAgg23 _) hS.2.1 rfl ⟨rfl,rfl⟩) ?_
    refine q_of _ (fun w_ hS => s_len usl23 ⟨rfl,rfl⟩) ?_
    refine q_of (i64 (a + d.length)) (fun w_ hS => s_add_in (by omega) ⟨rfl,rfl⟩) ?_
    refine q_of (ptr (L.loc (S.of name))) (fun w_ hS => s_ldb (isAgg132 _) hS.2.2.1 rfl ⟨rfl,rfl⟩) ?_
    refine q_of _ (fun w_ hS => s_nil ⟨rfl,rfl⟩) ?_
    refine q_of _ (fun w_ hS => fa131_1 ⟨rfl,rfl⟩) ?_
    refine q_of (.slice A (S.things (S.of name)).shown.length c') (fun w_ hS => s_ldb (isAgg23 _) hS.2.2.2.1 rfl ⟨rfl,rfl⟩) ?_
    refine q_of _ (fun w_ hS => s_len usl23 ⟨rfl,rfl⟩) ?_
    refine q_of (i64 (a + d.length - (S.things (S.of name)).shown.length)) (fun w_ hS => s_sub_in (by omega) ⟨rfl,rfl⟩) ?_
    generalize hm : a + d.length - (S.things (S.of name)).shown.length = more
    -- is there room
    have go : ∀ w7,Fr no w4 w7 → ∀ ρ r,ρ 0 = ptr D → ρ 6 = ptr w.heap.size → ρ 7 = ptr w1.heap.size → ρ 9 = ptr w2.heap.size → ρ 11 = i64 r → r = (if more > 0 ∧ S.used + more > S.room then 55 else 0) → F128A k [1,1,1,1,1,1] ρ w7 := by
      intro w7 f7 ρ r e0 e6 e7 e9 e11 er
      rw [F128_1_eq]
      unfold F128_1
      rw [e0,e6,e7,e9,e11]
      refine s_mkf ?_
      have f07 : Fr no w w7 := (f04.or f7).mono fun b hb => hb.elim (fun h => h.elim) fun h => h.elim
      have h7 : DRep w7 D S O I L := h4.fr f7 fun b hb => hb.elim
      have ec : S.writeAt name a d = S.stroke 1 r (fun T => T.setThing (S.of name) ((T.things (S.of name)).add (.wr a.toNat d))) := by
        unfold AD.writeAt
        rw [if_neg (by simp [hl]),if_neg (by rw [el]; omega),el,hm,er]
      refine c_stroke (act := fun T => T.setThing (S.of name) ((T.things (S.of name)).add (.wr a.toNat d))) 1 r _ h7 ⟨ok.strokes.1,by have := ok.strokes.2; have := ok.small; omega⟩ ⟨ok.since.1,by have := ok.since.2; have := ok.small; omega⟩ (fun T => rfl) ?_ ?_
      · intro _ w8 hR f8 K hK
        have hD := hz D (.inl h.oD)
        have g1 : w8.heap[w.heap.size]? = some (.cells #[i64 a.toNat] 3 (0,0)) := by
          have e : ((a.toNat : Nat) : Int) = a := by omega
          rw [e]; exact f8.get (f7.get b1' id) (by omega)
        have g2 := f8.get (f7.get b2' id) (by omega)
        have g3 := f8.get (f7.get b3' id) (by omega)
        have hdv8 : SBytes w8 (.slice Ad d.length cd) d := SBytes.fr1 (hdv.fr f07 fun _ _ => id) f8 fun h0 b hb e => hdO h0 b hb (e ▸ h.oD)
        exact c_writeAtC (c := c) hR hr (ok.thing _ hr) ok.small (by show a.toNat ≤ (S.things (S.of name)).shown.length; omega) hdl g3 g1 g2 hdv8 fun w' O' I' L' hx => hK _ w' O' I' L' hx
      · intro w' O' I' L' hx
        rw [← ec]
        exact hk w' O' I' L' (by rw [ec]; exact Nx.from f07 hx hz)
    have f7 : Fr no w4 w4.drew.drew.drew := (f6.or (Fr.drew no _)).mono fun b hb => hb.elim (fun h => h.elim) fun h => h.elim
    refine ⟨SS,Sok _ f7,?_⟩
    by_cases m0 : more > 0
    · refine q_of _ (fun w_ hS => s_gt_t m0 ⟨rfl,rfl⟩) ?_
      refine pGq_yes rfl (pGq_yes rfl (pGq_yes rfl (pGq_yes rfl ?_)))
      refine q_of _ (fun w_ hS => s_nil ⟨rfl,rfl⟩) ?_
      refine pGq_yes rfl ?_
      refine q_of _ (fun w_ hS => fa88_0 ⟨rfl,rfl⟩) ?_
      refine pGq_yes rfl ?_
      refine q_of (i64 S.room) (fun w_ hS => s_ldb (isAgg3 _) hS.2.2.2.2 rfl ⟨rfl,rfl⟩) ?_
      refine pG_yes rfl ?_
      have h7 : DRep w4.drew.drew.drew D S O I L := h4.fr f7 fun b hb => hb.elim
      refine c_used h7 ok.room.1 (by omega) fun w8 f8 => ?_
      have f48 : Fr no w4 w8 := (f7.or f8).mono fun b hb => hb.elim (fun h => h.elim) fun h => h.elim
      refine ⟨Sok _ f48,?_⟩
      refine pGq_yes rfl ?_
      refine q_of (i64 (S.used + more)) (fun w_ hS => s_add_in (by omega) ⟨rfl,rfl⟩) ?_
      refine pGq_yes rfl ?_
      by_cases m1 : S.used + more > S.room
      · refine q_of _ (fun w_ hS => s_gt_t m1 ⟨rfl,rfl⟩) ?_
        refine q_of _ (fun w_ hS => s_pick_t ⟨rfl,rfl⟩) (pC_true ?_)
        exact go w8 f48 _ 55 rfl rfl rfl rfl rfl (by rw [if_pos ⟨m0,m1⟩])
      · refine q_of _ (fun w_ hS => s_gt_f m1 ⟨rfl,rfl⟩) ?_
        refine q_of _ (fun w_ hS => s_pick_t ⟨rfl,rfl⟩) (pC_false ?_)
        exact go w8 f48 _ 0 rfl rfl rfl rfl rfl (by rw [if_neg (fun h => m1 h.2)])
    · refine q_of _ (fun w_ hS => s_gt_f m0 ⟨rfl,rfl⟩) ?_
      repeat (first | refine pGq_sk ?_ | refine pGq_un ?_)
      refine pG_sk ?_
      refine ⟨Sok _ f7,?_⟩
      repeat (first | refine pGq_sk ?_ | refine pGq_un ?_)
      refine q_of _ (fun w_ hS => s_pick_f ⟨rfl,rfl⟩) (pC_false ?_)
      exact go _ f7 _ 0 rfl rfl rfl rfl rfl (by rw [if_neg (fun h => m0 h.1)])
  · have ec : S.writeAt name a d = (S.look name,S) := by unfold AD.writeAt; rw [if_pos hl]
    refine s_nei_t hl (pC_true ?_)
    have := hk w4 O I L (by rw [ec]; exact hN0)
    rw [ec] at this; exact this
theorem c_append0 {c:Nat} (h:DRep w D S O I L) (ok:S.Ok c) (name:ByteArray) (hs:name.size ≤ 9223372036854775807) {dv:Value} {d:Bytes} (hdv:SBytes w dv d) (hdO:0 < d.length → ∀ b,sblk dv = some b → ¬ O b) (hdl:d.length ≤ 549755813888)
    (hk:∀ w' O' I' L',Nx w D O I w' (S.append name d).2 O' I' L' → k (i64 (S.append name d).1) w') : pFn P 74 [ptr D,.string name,dv] w k := by
  refine F74_in _ _ _ _ _ ?_
  unfold F74_0
  refine c_look h ok.room.1 name hs (s_ext rfl (s_ext rfl ?_))
  by_cases hl : S.look name = 0
  · have hg : alGet S.shown name = some (S.of name) := by
      rcases look_vals S name with h | h | h | h
      · rw [h] at hl; cases hl
      · rw [h] at hl; cases hl
      · rw [h] at hl; cases hl
      · exact h.2
    have hr : reach S (S.of name) := .inl ⟨name,mem_of_alGet hg⟩
    rw [if_pos hl,hl]
    refine s_nei_f rfl (pC_false ?_)
    obtain ⟨sv,hv,cs,hbT,_,hsh,_⟩ := (h.things _ hr).ex
    obtain ⟨A,c',rfl,hc'⟩ := hsh.1.form
    refine s_nil (fa131_1 (s_ldb (v := .slice A (S.things (S.of name)).shown.length c') (isAgg23 _) hbT rfl (s_len usl23 ?_)))
    have ec : S.append name d = S.writeAt name (S.things (S.of name)).shown.length d := by unfold AD.append; rw [if_neg (by simp [hl])]; rfl
    refine c_writeAt0 h ok name hs _ hdv hdO hdl fun w' O' I' L' hx => ?_
    rw [← ec] at hx ⊢
    exact hk w' O' I' L' hx
  · have ec : S.append name d = (S.look name,S) := by unfold AD.append; rw [if_pos hl]
    refine s_nei_t hl (pC_true ?_)
    have := hk w O I L (by rw [ec]; exact Nx.refl h)
    rw [ec] at this; exact this
end
section
variable {w:World} {D:Nat} {S S':AD} {O I:Nat → Prop} {L:Lay} {k:KV}
theorem c_tunits {T c:Nat} {rb:Value} {x:Thg} (hT:TRep w O I T rb x) (ok:x.Ok c) (hc:c ≤ 1099511627776) (hk:∀ w',Fr no w w' → k (i64 (unitsOf x.row)) w') : pFn P 98 [ptr T] w k := by
 refine F98_in _ _ _ ?_
 unfold F98_0
 obtain ⟨sv,hv,cs,hb,h1,h2,h3,h4⟩ := hT.ex
 have hU := ok.ok.units_at
 have hrow := ok.row
 refine s_nil (fa131_2 (s_ldb (v := rb) (isAgg129 _) hb rfl ?_))
 obtain ⟨A,cap,hrb,hcap⟩ : ∃ A cap,rb = .slice A x.row.length cap ∧ x.row.length ≤ cap := by
  obtain ⟨A,cap,e,hc,_⟩ := Src.of_own h3; exact ⟨A,cap,e,hc⟩
 subst hrb
 refine s_len usl129 ?_
 refine F98L1_inv (m := x.row.length) k (fun m ρ w' => ∃ i : Nat,i + m = x.row.length ∧ Fr no w w' ∧ ρ 9 = .slice A x.row.length cap ∧ ρ 10 = i64 x.row.length ∧ ρ 11 = i64 i ∧ ρ 3 = i64 (unitsOf (x.row.take i))) ?_
  ⟨0,by omega,Fr.refl _ _,rfl,rfl,rfl,rfl⟩
 rintro m ρ w' ⟨i,him,hf,h9,h10,h11,hacc⟩
 rw [F98_1_eq]
 unfold F98_1
 rw [h9,h10,h11,hacc]
 by_cases hi : i < x.row.length
 ·refine s_lt_t (by omega) (pC_true ?_)
  have hS : Src w' (.slice A x.row.length cap) 1 x.row.length cs := (Src.of_own h3).fr (by omega) hf fun _ _ h => h
  refine s_ix_src usl129 (sze129 _) hS (by omega) (by omega) fun b o hcell => ?_
  obtain ⟨v,hv',hcv⟩ := h4.at_ (i := i) (a := x.row[i]) (by simp [hi])
  refine s_ld (v := v) (isAgg240 _) (by have := hcell 0 v (by omega) (by simpa using hv'); simpa using this) ?_
  have hcm : x.row[i] ∈ x.row := List.getElem_mem hi
  have hu := hU _ hcm
  have hpre : unitsOf (x.row.take i) ≤ i * 1048576 := by
   have := unitsOf_le (l := x.row.take i) fun c hc => hU c (List.mem_of_mem_take hc)
   have e : (x.row.take i).length = i := by rw [List.length_take]; omega
   rw [e] at this; exact this
  refine c_units (hcv.fr hf fun _ _ h => h) fun w2 f2 => ?_
  refine s_add_in (by omega) (s_add_in (by omega) ?_)
  refine ⟨m - 1,by omega,i + 1,by omega,(hf.or f2).mono fun b hb => hb.elim (fun h => h.elim) fun h => h.elim,h9,h10,?_,?_⟩
  ·show i64 _ = i64 _; simp
  ·show i64 _ = i64 _
   have : unitsOf (x.row.take (i + 1)) = unitsOf (x.row.take i) + x.row[i].units := by
    unfold unitsOf
    rw [List.take_succ_eq_append_getElem hi,List.map_append,List.sum_append]
    simp
   rw [this]; simp
 ·refine s_lt_f (by omega) (pC_false ?_)
  rw [F98_2_eq]
  unfold F98_2
  have e : x.row.take i = x.row := List.take_of_length_le (by omega)
  rw [e] at hacc
  show k (ρ 3) w'
  rw [hacc]
  exact hk w' hf
theorem c_left {T c u:Nat} {rb:Value} {x:Thg} (hT:TRep w O I T rb x) (ok:x.Ok c) (hc:c ≤ 1099511627776) (hu:u ≤ 4611686018427387904)
    (hk:∀ w' v',SBytes w' v' (x.left u) → (∀ b,sblk v' = some b → w.heap.size ≤ b ∧ b < w'.heap.size) → Fr no w w' → k v' w') : pFn P 97 [ptr T,i64 u] w k := by
  refine F97_in _ _ _ _ ?_
  unfold F97_0
  obtain ⟨sv,hv,cs,hb,h1,h2,h3,h4⟩ := hT.ex
  refine s_nil (fa131_0 (s_ldb (v := sv) (isAgg23 _) hb rfl ?_))
  refine s_nil (fa131_2 (s_ldb (v := rb) (isAgg129 _) hb rfl ?_))
  obtain ⟨A,cap,hrb,hcap⟩ : ∃ A cap,rb = .slice A x.row.length cap ∧ x.row.length ≤ cap := by
    obtain ⟨A,cap,e,hc,_⟩ := Src.of_own h3; exact ⟨A,cap,e,hc⟩
  subst hrb
  have hrow := ok.row
  refine s_len usl129 ?_
  let J : Nat → Prop := fun b => I b ∨ w.heap.size ≤ b
  refine F97L1_inv (m := x.row.length) k (fun m ρ w' => ∃ (i u':Nat) (b:Bytes),i + m = x.row.length ∧ Fr no w w' ∧ ρ 16 = .slice A x.row.length cap ∧ ρ 17 = i64 x.row.length ∧ ρ 18 = i64 i ∧ SB w' J (ρ 5) b ∧ ρ 1 = i64 u' ∧ u' ≤ u ∧ midOk b (x.row.drop i) u' x.shown ∧ XDisk.leftOf b (x.row.drop i) u' = x.left u) ?_
    ⟨0,u,x.safe,by omega,Fr.refl _ _,rfl,rfl,rfl,⟨h1.1,fun b hb => .inl (h1.2 b hb)⟩,rfl,Nat.le_refl _,.inl ok.ok,rfl⟩
  rintro m ρ w' ⟨i,u',b,him,hf,h16,h17,h18,h5,hu1,hule,hmid,hleft⟩
  rw [F97_1_eq]
  unfold F97_1
  rw [h16,h17,h18,hu1]
  by_cases hi : i < x.row.length
  · refine s_lt_t (by omega) (pC_true ?_)
    have hS : Src w' (.slice A x.row.length cap) 1 x.row.length cs := (Src.of_own h3).fr (by omega) hf fun _ _ h => h
    refine s_ix_src usl129 (sze129 _) hS (by omega) (by omega) fun bb o hcell => ?_
    obtain ⟨v,hv',hcv⟩ := h4.at_ (i := i) (a := x.row[i]) (by simp [hi])
    refine s_ld (v := v) (isAgg240 _) (by have := hcell 0 v (by omega) (by simpa using hv'); simpa using this) ?_
    have hdrop : x.row.drop i = x.row[i] :: x.row.drop (i + 1) := List.drop_eq_getElem_cons hi
    rw [hdrop] at hmid hleft
    generalize hce : x.row[i] = ch at *
    obtain ⟨hmid',hb20,hcu,hcut,hwr⟩ := hmid.step
    have hcv' : ChgV w' J ch v := (hcv.fr hf fun _ _ h => h).mono fun b hb => .inl hb
    refine c_units hcv' fun w2 f2 => ?_
    refine s_min ?_
    have emin : (if (ch.units : Int) < (u':Int) then (ch.units : Int) else (u':Int)) = ((min u' ch.units : Nat) : Int) := by split <;> omega
    rw [emin]
    have f02 : Fr no w w2 := (hf.or f2).mono fun b hb => hb.elim (fun h => h.elim) fun h => h.elim
    refine c_made (hcv'.fr f2 fun _ _ h => h) (h5.fr f2 fun _ _ h => h) (Nat.min_le_right _ _) (by omega) hcut (fun a d e h0 => ?_) fun w3 v3 hv3 hi3 f3 => ?_
    · have := hwr a d e h0; omega
    have f03 : Fr no w w3 := (f02.or f3).mono fun b hb => hb.elim (fun h => h.elim) fun h => h.elim
    refine s_sub_in (by omega) (s_add_in (by omega) ?_)
    refine ⟨m - 1,by omega,i + 1,u' - min u' ch.units,ch.made b (min u' ch.units),by omega,f03,h16,h17,?_,⟨hv3,?_⟩,?_,by omega,hmid',hleft⟩
    · show i64 _ = i64 _; simp
    · intro bk hbk
      rcases hi3 bk hbk with h | h
      · exact h
      · have := f02.size; exact .inr (by omega)
    · show i64 _ = i64 _
      have : ((u' - min u' ch.units : Nat) : Int) = (u':Int) - ((min u' ch.units : Nat) : Int) := by omega
      rw [this]
  · refine s_lt_f (by omega) (pC_false ?_)
    rw [F97_2_eq]
    unfold F97_2
    have e : x.row.drop i = [] := List.drop_of_length_le (by omega)
    rw [e] at hleft
    have hlen := hmid.len
    refine c_cloneB (v := ρ 5) h5.1 (by omega) fun w2 v2 hv2 hb2 f2 => ?_
    have el : b = x.left u := hleft
    rw [← el] at hk
    exact hk w2 v2 hv2 (fun bk hbk => by have h1 := hb2 bk hbk; have h2 := hf.size; exact ⟨by omega,h1.2⟩) ((hf.or f2).mono fun b hb => hb.elim (fun h => h.elim) fun h => h.elim)
end
open Go.Proofs.XKeys
structure SortsKeys : Prop where
 keys : ∀ (m:Nat) (W:World),Calls P 133 #[.map (some m)] W fun e w' => e = .returned (.func (.func 174) #[] #[.pointer (some ⟨W.heap.size,0,none⟩)]) ∧ w' = W.alloc (.cells #[.map (some m)] 82)
 sort : ∀ (b nn:Nat) (D0:DataW Unit) (w:World),w.ownsMap P 9 R0 b nn D0 → Maps.size D0 ≤ maxLen → Maps.size D0 * 16 ≤ 140737488355328 →
  Calls P 132 #[.func (.func 174) #[] #[.pointer (some ⟨w.heap.size,0,none⟩)]] (w.alloc (.cells #[.map (some b)] 82)) fun e w' => ∃ (v:Value) (ss:List (List UInt8)),e = .returned v ∧ ss.Perm (strKeys D0) ∧
   w'.ownsRow (w.alloc (.cells #[.map (some b)] 82)).heap.size 9 1 v ss.length ((ss.mergeSort (fun x y => decide (x ≤ y))).map encStr) ∧ (v = .slice none 0 0 ↔ ss = []) ∧ Below (w.alloc (.cells #[.map (some b)] 82)).heap.size (w.alloc (.cells #[.map (some b)] 82)) w'
def nameVals (l:Names) : List Value := l.map fun p => .string p.1
section
variable {w:World} {D:Nat} {S S':AD} {O I:Nat → Prop} {L:Lay} {k:KV}
theorem c_sorted (sk:SortsKeys) {m:Nat} {l l':Names} (h:SMap w m (mapVals L l)) (hp:l.Perm l') (ho:Ordered l') (hs:∀ p ∈ l',p.1.size ≤ maxLen) (hl:l'.length ≤ 1099511627776)
    (hk:∀ w' v,w'.ownsRow 0 9 1 v l'.length (nameVals l') → (∀ b,sblk v = some b → w.heap.size ≤ b) → Fr no w w' → k v w') : pFn P 79 [.map (some m)] w k := by
  refine F79_in _ _ _ ?_
  unfold F79_0
  refine pFn_of_calls func133 (by kernel_rfl) (by kernel_rfl) (Calls.mono (sk.keys m w) ?_)
  rintro e w1 ⟨rfl,rfl⟩
  refine ⟨_,rfl,?_⟩
  have hlen := hp.length_eq
  have hml : (mapVals L l).length = l.length := by simp [mapVals]
  obtain ⟨D0,h1,h2,h3⟩ := owns_of (P := P) underlying9 h (by
    intro p hpm
    obtain ⟨q,hq,rfl⟩ := List.mem_map.1 hpm
    exact hs q (hp.mem_iff.1 hq)) (by unfold maxLen; omega)
  refine pFn_of_calls func132 (by kernel_rfl) (by kernel_rfl) (Calls.mono (sk.sort m _ D0 w h1 (by unfold maxLen; omega) (by omega)) ?_)
  rintro e w2 ⟨v,ss,rfl,h4,h5,_,h6⟩
  refine ⟨v,rfl,?_⟩
  have e1 : (mapVals L l).map (fun p => p.1.data.toList) = l.map fun p => p.1.data.toList := by simp [mapVals,Function.comp_def]
  have h7 : ss.Perm (l.map fun p => p.1.data.toList) := by rw [← e1]; exact h4.trans h3
  rw [sorted_keys hp ho h7] at h5
  have e2 : ss.length = l'.length := by have := h7.length_eq; simp at this; omega
  rw [e2] at h5
  have hf : Fr no w (w.alloc (.cells #[.map (some m)] 82)) := Fr.alloc ..
  have z1 : (w.alloc (.cells #[.map (some m)] 82)).heap.size = w.heap.size + 1 := by simp
  refine hk w2 v (own_less h5 (Nat.zero_le _)) (fun b hb => by have := (own_blk_lt h5 hb).1; omega) ((hf.or (Fr.below h6)).mono ?_)
  rintro b (hb | hb)
  · exact hb.elim
  · exact .inr (by omega)
end
def FilesV (w:World) (B:Nat) (v:Value) (fs:List (ByteArray × Bytes)) : Prop :=
 ∃ ps : List (ByteArray × Value),All2 (fun f p => f.1 = p.1 ∧ SBytes w p.2 f.2 ∧ ∀ b,sblk p.2 = some b → B ≤ b ∧ b < w.heap.size ∧ sblk v ≠ some b) fs ps ∧ w.ownsRow 0 107 2 v fs.length (ps.flatMap fun p => [.string p.1,p.2]) ∧ ∀ b,sblk v = some b → B ≤ b
theorem FilesV.mono {w:World} {B B':Nat} {v:Value} {fs:List (ByteArray × Bytes)} (h:FilesV w B v fs) (hb:B' ≤ B) : FilesV w B' v fs := by
 obtain ⟨ps,h1,h2,h3⟩ := h
 exact ⟨ps,all2_imp h1 fun f p ⟨a,b,c⟩ => ⟨a,b,fun i hi => ⟨Nat.le_trans hb (c i hi).1,(c i hi).2⟩⟩,h2,fun b hb' => Nat.le_trans hb (h3 b hb')⟩
section
variable {w:World} {D:Nat} {S S':AD} {O I:Nat → Prop} {L:Lay} {k:KV}
theorem c_files (sk:SortsKeys) {c:Nat} (h:DRep w D S O I L) (ok:S.Ok c) (hs:∀ p ∈ S.shown,p.1.size ≤ maxLen)
    (hk:∀ w' v,FilesV w' w.heap.size v (S.files) → Fr no w w' → k v w') : pFn P 22 [ptr D] w k := by
  refine F22_in _ _ _ ?_
  unfold F22_0
  refine c_none h.disk ok.room.1 (pC_false ?_)
  refine s_nil (fa88_1 (s_ldb (v := .map (some L.sh)) (isAgg82 _) h.disk rfl ?_))
  have hlen : S.shown.length ≤ 256 := ok.turns.len.1
  refine c_sorted sk h.sh h.shp ok.shown hs (by omega) fun w1 nv hnv hnb f1 => ?_
  obtain ⟨A,cap,hne,hcap⟩ : ∃ A cap,nv = .slice A S.shown.length cap ∧ S.shown.length ≤ cap := by
    obtain ⟨A,cap,e,hc,_⟩ := Src.of_own hnv; exact ⟨A,cap,e,hc⟩
  subst hne
  have hsrc := Src.of_own hnv
  refine s_len usl22 ?_
  refine F22L1_inv (m := S.shown.length) k (fun m ρ w' => ∃ (i:Nat),i + m = S.shown.length ∧ Fr no w1 w' ∧ ρ 0 = ptr D ∧ ρ 12 = .slice A S.shown.length cap ∧ ρ 13 = i64 S.shown.length ∧ ρ 14 = i64 i ∧ FilesV w' w1.heap.size (ρ 3) ((S.files).take i)) ?_
    ⟨0,by omega,Fr.refl _ _,rfl,rfl,rfl,rfl,⟨[],.nil,⟨rfl,.inl ⟨rfl,rfl⟩⟩,by rintro b hb; cases hb⟩⟩
  rintro m ρ w' ⟨i,him,hf,h0,h12,h13,h14,hfv⟩
  rw [F22_1_eq]
  unfold F22_1
  rw [h0,h12,h13,h14]
  have f0' : Fr no w w' := (f1.or hf).mono fun b hb => hb.elim (fun h => h.elim) fun h => h.elim
  have hR : DRep w' D S O I L := h.fr f0' fun b hb => hb.elim
  have hspl : (S.files).length = S.shown.length := by simp [AD.files,AD.safes]
  by_cases hi : i < S.shown.length
  · refine s_lt_t (by omega) (pC_true ?_)
    refine s_ix_src usl22 (sze22 _) (hsrc.fr (by omega) hf fun _ _ h => h) (by omega) (by omega) fun bb o hcell => ?_
    generalize hp : S.shown[i] = p
    have hpm : p ∈ S.shown := hp ▸ List.getElem_mem hi
    refine s_ld (v := .string p.1) (isAgg9 _) (by have := hcell 0 (.string p.1) (by omega) (by simp [nameVals,hi,hp]); simpa using this) ?_
    refine s_nil (fa88_1 (s_ldb (v := .map (some L.sh)) (isAgg82 _) hR.disk rfl ?_))
    refine lk82 hR.sh p.1 (zeroValue132 _) ?_
    have hg : alGet (mapVals L L.lsh) p.1 = some (ptr (L.loc p.2)) := by
      rw [mapVals_get,alGet_perm h.shp h.lshn,alGet_mem ok.shown.nodup hpm]; rfl
    rw [hg]
    have hr : reach S p.2 := .inl ⟨p.1,hpm⟩
    obtain ⟨sv,hv,cs,hbT,h1,h2,_⟩ := (hR.things _ hr).ex
    refine s_nil (fa131_1 (s_ldb (v := hv) (isAgg23 _) hbT rfl ?_))
    have hTok := (ok.thing _ hr).ok.len
    refine c_cloneB (h2).1 (by omega) fun w2 v2 hv2 hb2 f2 => ?_
    obtain ⟨A2,c2,e2,hc2⟩ := hv2.form
    refine px_ok (w' := w2) (v := .agg #[.string p.1,v2]) (by subst e2; kernel_rfl) ?_
    refine px_ok (w' := w2.alloc (.cells #[.string p.1,v2] 107)) (v := .slice (some ⟨w2.heap.size,0,none⟩) 1 1) (by subst e2; kernel_rfl) ?_
    have f3 := Fr.alloc no w2 (.cells #[.string p.1,v2] 107)
    have hl := own_lit w2 0 107 2 #[.string p.1,v2] 1 (Nat.zero_le _) (by unfold maxLen; omega) rfl
    have z3 : (w2.alloc (.cells #[.string p.1,v2] 107)).heap.size = w2.heap.size + 1 := by simp
    show px P _ (w2.alloc (.cells #[.string p.1,v2] 107)) _
    generalize w2.alloc (.cells #[.string p.1,v2] 107) = w3 at *
    obtain ⟨ps,hps,hrow,hvb⟩ := hfv
    have f23 : Fr no w' w3 := (f2.or f3).mono fun b hb => hb.elim (fun h => h.elim) fun h => h.elim
    have hfl : ((S.files).take i).length = i := by rw [List.length_take]; omega
    refine ap36 (own_fr hrow f23 fun _ _ h => h) (Src.of_own hl) (by intro u hu; simp at hu; rcases hu with rfl | rfl; rfl; rw [e2]; rfl) (by rw [hfl]; omega) (Nat.zero_le _) fun v4 w4 h4 f4 hb4 => ?_
    refine s_add_in (by omega) ?_
    have hz2 := f2.size
    have hz3 := f0'.size
    have hz4 := f4.size
    have hzf := hf.size
    have hvb' : ∀ b,sblk (ρ 3) = some b → w1.heap.size ≤ b := hvb
    have f04 : Fr no w1 w4 := ((hf.or f23).or f4).mono (by
      rintro b ((hb | hb) | hb)
      · exact hb.elim
      · exact hb.elim
      · exact .inr (hvb' b hb.symm))
    have hvlt : ∀ b,sblk (ρ 3) = some b → b < w'.heap.size := fun b hb => (own_blk_lt hrow hb).2
    have hv4 : ∀ b,sblk v4 = some b → sblk (ρ 3) = some b ∨ b = w3.heap.size := by
      intro b hb
      rcases hb4 with e | e
      · left; rw [← e]; exact hb
      · right; rw [e] at hb; injection hb with hb; exact hb.symm
    have espec : (S.files).take (i + 1) = (S.files).take i ++ [(p.1,(S.things p.2).shown)] := by
      rw [List.take_succ_eq_append_getElem (by omega)]
      congr 2
      subst hp
      simp [AD.files,AD.safes]
    refine ⟨m - 1,by omega,i + 1,by omega,f04,h0,h12,h13,?_,?_⟩
    · show i64 _ = i64 _; simp
    show FilesV w4 w1.heap.size v4 _
    rw [espec]
    refine ⟨ps ++ [(p.1,v2)],?_,?_,?_⟩
    · refine All2.snoc (all2_imp hps fun f q hfq => ?_) ?_
      · obtain ⟨e,hS,hq⟩ := hfq
        refine ⟨e,(hS.fr f23 fun _ _ h => h).fr f4 fun b hb e' => (hq b hb).2.2 e'.symm,fun b hb => ?_⟩
        obtain ⟨q1,q2,q3⟩ := hq b hb
        refine ⟨q1,by omega,fun e' => ?_⟩
        rcases hv4 b e' with h' | h'
        · exact q3 h'
        · omega
      · refine ⟨rfl,(hv2.fr f3 fun _ _ h => h).fr f4 fun b hb e' => ?_,fun b hb => ?_⟩
        · have := hb2 b hb; have := hvlt b e'.symm; omega
        · have h5 := hb2 b hb
          refine ⟨by omega,by omega,fun e' => ?_⟩
          rcases hv4 b e' with h' | h'
          · have := hvlt b h'; omega
          · omega
    · have e1 : ((S.files).take i ++ [(p.1,(S.things p.2).shown)]).length = ((S.files).take i).length + 1 := by simp
      have e2 : (ps ++ [(p.1,v2)]).flatMap (fun p => [Value.string p.1,p.2]) = (ps.flatMap fun p => [Value.string p.1,p.2]) ++ #[Value.string p.1,v2].toList := by simp
      rw [e1,e2]; exact h4
    · intro b hb
      rcases hv4 b hb with h' | h'
      · exact hvb' b h'
      · omega
  · refine s_lt_f (by omega) (pC_false ?_)
    rw [F22_2_eq]
    unfold F22_2
    have e : (S.files).take i = S.files := List.take_of_length_le (by omega)
    rw [e] at hfv
    exact hk w' (ρ 3) (hfv.mono f1.size) f0'
end
end Go.Proofs.YteeeggphkhimcaaGreatDoor
