/- Put together by a program (wip/tools/shake.py): Crash,Crash2,Crash3. -/
import Derived.Test.YteeeggphkhimcaaGreatDoorE10
set_option linter.unusedVariables false
set_option linter.unusedSimpArgs false
set_option maxRecDepth 100000
namespace Go.Proofs.YteeeggphkhimcaaGreatDoor
open Go Go.Proofs Go.RowKit Go.Proofs.XRed Go.Proofs.XHeap Go.Proofs.XMaps Go.Proofs.XSlices Go.Proofs.XDisk Go.Proofs.XCalls Go.Proofs.XRange Go.Proofs.XKeys Tryz
theorem turnsOk.at_ {s:Names} : ∀ {r:List Turn} {l:Names},turnsOk l r s → ∀ {i:Nat} {a b:ByteArray},r[i]? = some (.give a b) → alGet ((r.take i).foldl (fun l c => c.on l) l) a ≠ none
 | [],l,_,i,a,b,h => by simp at h
 | c :: r,l,ho,i,a,b,h => by
  cases i with
  | zero => simp only [List.getElem?_cons_zero,Option.some.injEq] at h; exact ho.2.1 a b h
  | succ i => exact turnsOk.at_ (r := r) (l := c.on l) ho.2.2 (by simpa using h)
theorem onL_fold_perm {r:List Turn} : ∀ {l l':Names},l.Perm l' → (alKeys l).Nodup → (r.foldl (fun l c => c.onL l) l).Perm (r.foldl (fun l c => c.on l) l') ∧ (alKeys (r.foldl (fun l c => c.onL l) l)).Nodup := by
 induction r with
 | nil => intro l l' h hn; exact ⟨h,hn⟩
 | cons c r ih =>
  intro l l' h hn
  have h1 := c.onL_perm h hn
  have h2 : (alKeys (c.on l')).Nodup := c.on_nodup ((alKeys_perm h).nodup_iff.1 hn)
  exact ih h1 ((alKeys_perm h1).nodup_iff.2 h2)
def Picks (w:World) (n0 b:Nat) (ps:List Int) : Prop := n0 ≤ b ∧ ∃ v,w.heap[b]? = some (.cells #[v] 58 (0,0)) ∧ Src w v 1 ps.length (ps.map i64) ∧ (0 < ps.length → ∀ c,sblk v = some c → c < n0)
theorem src_frz {O:Nat → Prop} {w w':World} {x:Value} {size m:Nat} {cs:List Value} (h:Src w x size m cs) (hs:0 < size) (hf:Fr O w w') (hn:0 < m → ∀ b,sblk x = some b → ¬ O b) : Src w' x size m cs := by
 rcases Nat.eq_zero_or_pos m with h0 | h0
 ·obtain ⟨A,c,e,hc,hl,_⟩ := h
  exact ⟨A,c,e,hc,hl,fun h => absurd h (by omega)⟩
 ·exact h.fr hs hf (hn h0)
theorem Picks.fr {O:Nat → Prop} {w w':World} {n0 b:Nat} {ps:List Int} (h:Picks w n0 b ps) (hf:Fr O w w') (hb:¬ O b) (hv:∀ c,c < n0 → ¬ O c) : Picks w' n0 b ps := by
 obtain ⟨h0,v,h1,h2,h3⟩ := h
 exact ⟨h0,v,hf.get h1 hb,src_frz h2 (by omega) hf fun hp c hc => hv c (h3 hp c hc),h3⟩
def pickHd (ps:List Int) (most:Nat) : Nat := match ps with
 | [] => 0
 | p :: _ => roundA p most
theorem roundA_cast (p:Int) (most:Nat) : ((roundA p most:Nat) : Int) = p.emod (most + 1) := by
 unfold roundA
 exact Int.toNat_of_nonneg (Int.emod_nonneg p (by omega))
theorem roundA_le (p:Int) (most:Nat) : roundA p most ≤ most := by
 have h1 := roundA_cast p most
 have h2 : p.emod (most + 1) < most + 1 := Int.emod_lt_of_pos p (by omega)
 omega
theorem pickHd_le (ps:List Int) (most:Nat) : pickHd ps most ≤ most := by
 cases ps with
 | nil => exact Nat.zero_le _
 | cons p r => exact roundA_le p most
section
variable {w:World} {D:Nat} {S S':AD} {O I:Nat → Prop} {L:Lay} {k:KV}
theorem c_next {n0 b most:Nat} {ps:List Int} (h:Picks w n0 b ps) (hm:most ≤ 4611686018427387904) (hp:ps.length ≤ 4611686018427387904)
    (hk:∀ w',Picks w' n0 b ps.tail → Fr (fun c => c = b) w w' → w'.heap.size = w.heap.size → k (i64 (pickHd ps most)) w') : pFn P 94 [i64 most,ptr b] w k := by
  refine F94_in _ _ _ _ ?_
  unfold F94_0
  obtain ⟨hn0,v,h1,h2,h3⟩ := h
  obtain ⟨A,c,hv,hc⟩ : ∃ A c,v = .slice A ps.length c ∧ ps.length ≤ c := by obtain ⟨A,c,e,hc,_⟩ := h2; exact ⟨A,c,e,hc⟩
  subst hv
  refine s_ldb (v := .slice A ps.length c) (isAgg58 _) h1 rfl (s_len usl58 ?_)
  cases ps with
  | nil => exact s_eqi_t rfl (pC_true (hk w ⟨hn0,_,h1,h2,h3⟩ (Fr.refl _ _) rfl))
  | cons p r =>
    refine s_eqi_f (by have hpr:(p :: r).length = r.length + 1 := rfl; omega) (pC_false ?_)
    refine s_ldb (v := .slice A (p :: r).length c) (isAgg58 _) h1 rfl ?_
    refine s_ix_src usl58 (sze58 _) h2 (by omega) (by have hpr:(p :: r).length = r.length + 1 := rfl; omega) fun bb o hcell => ?_
    refine s_ld (v := i64 p) (isAgg3 _) (by have := hcell 0 (i64 p) (by omega) (by simp); simpa using this) ?_
    refine s_ldb (v := .slice A (p :: r).length c) (isAgg58 _) h1 rfl ?_
    refine s_sl_l usl58 (sze58 _) (by omega) (by have hpr:(p :: r).length = r.length + 1 := rfl; omega) ?_
    have hcut := Src.cut h2 (l := 1) (h' := (p :: r).length) (by simp) (Nat.le_refl _)
    have e1 : ((i64 p :: r.map i64).drop (1 * 1)).take (((p :: r).length - 1) * 1) = r.map i64 := by
      simp only [Nat.mul_one,List.drop_succ_cons,List.drop_zero,List.length_cons,Nat.add_sub_cancel]
      exact List.take_of_length_le (by simp)
    have e2 : (p :: r).length - 1 = r.length := by simp
    simp only [List.map_cons] at hcut
    rw [e1,e2] at hcut
    have e3 : (1 : Int).toNat = 1 := rfl
    rw [e3]
    have hbl : ∀ x,sblk (sliced A 1 (p :: r).length c 1) = some x → sblk (.slice A (p :: r).length c) = some x := by
      intro x hx
      unfold sliced at hx
      cases A with
      | none => simp at hx; cases hx
      | some a =>
        split at hx
        · exact hx
        · simp only [Option.map_some,sblk,Option.some.injEq] at hx ⊢
          rw [← hx]; unfold Addr.add; split <;> rfl
    have h1c : (sliced A 1 (p :: r).length c 1).cells = #[sliced A 1 (p :: r).length c 1] ∧ (sliced A 1 (p :: r).length c 1).oneCell' = true := ⟨rfl,rfl⟩
    refine s_st (sizeOf58 _) h1c.1 h1c.2 h1 (by show 0 < 1; decide) ?_
    have hb' := set_same h1 0 (sliced A 1 (p :: r).length c 1)
    have f1 : Fr (fun x => x = b) w (w.setCell ⟨b,0,none⟩ (sliced A 1 (p :: r).length c 1)) := Fr.setCell w ⟨b,0,none⟩ _
    refine c_round (by omega) (by omega) ?_
    have e4 : p.emod ((most:Int) + 1) = ((pickHd (p :: r) most : Nat) : Int) := (roundA_cast p most).symm
    rw [e4]
    refine hk _ ⟨hn0,_,hb',hcut.fr (by omega) f1 fun x hx => by have := h3 (by simp) x (hbl x hx); omega,fun _ x hx => h3 (by simp) x (hbl x hx)⟩ f1 (by simp [World.setCell])
def AD.after (S:AD) (th:Nat → Thg) (next:Nat) (N:Names) : AD := { S with things := th,next := next,shown := N,safe := N,row := [],off := false,plan := .zero,since := 0,strokes := 0 }
theorem crash_end {ρ:Env} {m:Nat} {lst N:Names} {L1:Lay} {Ob Ib:Nat → Prop} {th:Nat → Thg} {next:Nat} (h:DRep w D S O I L) (h0:ρ 0 = ptr D) (h5:ρ 5 = .map (some m)) (hm:SMap w m (mapVals L1 lst)) (hp:lst.Perm N)
    (hT:∀ p ∈ N,TRep w Ob Ib (L1.loc p.2) (.slice none 0 0) (th p.2)) (hinj:∀ p ∈ N,∀ q ∈ N,L1.loc p.2 = L1.loc q.2 → p.2 = q.2) (hmO:Ob m) (hdis:∀ b,Ob b → ¬ O b ∧ ¬ I b ∧ ¬ Ib b) (hdisI:∀ b,Ib b → ¬ O b) (hlt:∀ b,Ob b ∨ Ib b → b < w.heap.size)
    (hk:∀ w' O' I' L',DRep w' D (AD.after S th next N) O' I' L' → Fr (fun b => b = D) w w' → (∀ b,O b → O' b) → (∀ b,I b → I' b) → (∀ b,O' b → O b ∨ Ob b ∨ w.heap.size ≤ b) → (∀ b,I' b → I b ∨ Ib b) → k (.tuple #[]) w') : F57_4 k ρ w := by
  unfold F57_4
  rw [h0,h5]
  refine c_cloneMap hm fun w1 hm1 f1 z1 => ?_
  have hd1 := f1.get h.disk id
  refine s_nil (fa88_2 (s_st (sizeOf82 _) rfl rfl hd1 (by show 2 < 11; decide) ?_))
  have hd2 := set_same hd1 2 (.map (some m))
  have f2 : Fr (fun b => b = D) w1 _ := Fr.setCell w1 ⟨D,2,none⟩ (.map (some m))
  refine s_nil (fa88_1 (s_st (sizeOf82 _) rfl rfl hd2 (by show 1 < 11; decide) ?_))
  have hd3 := set_same hd2 1 (.map (some w.heap.size))
  have f3 : Fr (fun b => b = D) _ _ := Fr.setCell (w1.setCell ⟨D,2,none⟩ (.map (some m))) ⟨D,1,none⟩ (.map (some w.heap.size))
  refine s_nil (fa88_3 (s_st (sizeOf83 _) rfl rfl hd3 (by show 3 < 11; decide) ?_))
  have hd4 := set_same hd3 3 (.slice none 0 0)
  have f4 : Fr (fun b => b = D) _ _ := Fr.setCell ((w1.setCell ⟨D,2,none⟩ (.map (some m))).setCell ⟨D,1,none⟩ (.map (some w.heap.size))) ⟨D,3,none⟩ (.slice none 0 0)
  have f24 := (f2.or f3).or f4
  generalize hw4 : (((w1.setCell ⟨D,2,none⟩ (.map (some m))).setCell ⟨D,1,none⟩ (.map (some w.heap.size))).setCell ⟨D,3,none⟩ (.slice none 0 0)) = w4 at *
  have hd4' : w4.heap[D]? = some (.cells #[i64 S.room,.map (some w.heap.size),.map (some m),.slice none 0 0,i64 S.strokes,i64 S.plan.off,i64 S.plan.from_,i64 S.plan.to_,i64 S.since,.bool S.off,L.readsv] 88 (0,0)) := hd4.trans (by kernel_rfl)
  clear hd4
  refine px_ok (w' := w4) (v := .agg #[i64 0,i64 0,i64 0]) (by kernel_rfl) ?_
  refine s_nil (fa88_7 (s_st (sizeOf4 _) rfl rfl hd4' (by show 9 < 11; decide) ?_))
  have hd5 := set_same hd4' 9 (.bool false)
  have f5 : Fr (fun b => b = D) w4 (w4.setCell ⟨D,9,none⟩ (.bool false)) := Fr.setCell w4 ⟨D,9,none⟩ (.bool false)
  refine s_nil (fa88_5 ?_)
  refine s_stN (vs := [i64 0,i64 0,i64 0]) (sizeOf85 _) rfl (by intro v hv; simp at hv; subst hv; rfl) hd5 (by show 5 + 3 ≤ 11; decide) fun w6 hd6 f6 z6 => ?_
  have hd6' : w6.heap[D]? = some (.cells #[i64 S.room,.map (some w.heap.size),.map (some m),.slice none 0 0,i64 S.strokes,i64 0,i64 0,i64 0,i64 S.since,.bool false,L.readsv] 88 (0,0)) := hd6.trans (by kernel_rfl)
  clear hd6 hd5
  refine s_nil (fa88_6 (s_st (sizeOf3 _) rfl rfl hd6' (by show 8 < 11; decide) ?_))
  have hd7 := set_same hd6' 8 (i64 0)
  have f7 : Fr (fun b => b = D) w6 (w6.setCell ⟨D,8,none⟩ (i64 0)) := Fr.setCell w6 ⟨D,8,none⟩ (i64 0)
  refine s_nil (fa88_4 (s_st (sizeOf3 _) rfl rfl hd7 (by show 4 < 11; decide) ?_))
  have hd8 := set_same hd7 4 (i64 0)
  have f8 : Fr (fun b => b = D) _ ((w6.setCell ⟨D,8,none⟩ (i64 0)).setCell ⟨D,4,none⟩ (i64 0)) := Fr.setCell (w6.setCell ⟨D,8,none⟩ (i64 0)) ⟨D,4,none⟩ (i64 0)
  show k _ ((w6.setCell ⟨D,8,none⟩ (i64 0)).setCell ⟨D,4,none⟩ (i64 0))
  generalize (w6.setCell ⟨D,8,none⟩ (i64 0)).setCell ⟨D,4,none⟩ (i64 0) = w8 at *
  have f18 : Fr (fun b => b = D) w1 w8 := ((((f24.or f5).or f6).or f7).or f8).mono (by
    rintro b ((((((hb | hb) | hb) | hb) | hb) | hb) | hb) <;> exact .inl hb)
  have f08 : Fr (fun b => b = D) w w8 := (f1.or f18).mono fun b hb => hb.elim (fun h => h.elim) .inl
  have hDO := h.oD
  have hDlt := h.lt D (.inl hDO)
  have hmD : m ≠ D := fun e => (hdis m hmO).1 (e ▸ hDO)
  have hz8 := f08.size
  have hz18 := f18.size
  have hTD : ∀ b,Ob b → b ≠ D := fun b hb e => (hdis b hb).1 (e ▸ hDO)
  have hmlt := hlt m (.inl hmO)
  have hr : ∀ t,reach (AD.after S th next N) t → ∃ p ∈ N,p.2 = t := by
    rintro t (⟨n,h'⟩ | ⟨n,h'⟩ | ⟨n,h'⟩)
    · exact ⟨_,h',rfl⟩
    · exact ⟨_,h',rfl⟩
    · cases h'
  refine hk w8 (fun b => O b ∨ Ob b ∨ b = w.heap.size) (fun b => I b ∨ Ib b) { L with sh := w.heap.size,sf := m,lsh := lst,lsf := lst,loc := L1.loc,trow := fun _ => .slice none 0 0,rowv := .slice none 0 0 } ?_ f08 (fun b => .inl) (fun b => .inl) ?_ fun b => id
  · exact {
      disk := hd8
      sh := hm1.fr f18 (by omega)
      shp := hp
      sf := (hm.fr f1 id).fr f18 hmD
      sfp := hp
      ne := by show w.heap.size ≠ m; omega
      row := ⟨rfl,.inl ⟨rfl,rfl⟩⟩
      reads := own_fr h.reads f08 (by rintro b hb e; obtain ⟨c1,h1⟩ := own_obj h.reads hb; rw [e] at h1; exact absurd (two_types h1 h.disk) (by decide))
      things := fun t ht => by
        obtain ⟨p,hpN,rfl⟩ := hr t ht
        have h1 := hT p hpN
        have h2 := h1.fr (O' := O) f08 (fun e => hTD _ h1.own e) (by rintro b hb; cases hb) (fun b hb e => hdisI b hb (e ▸ hDO))
        exact h2.mono (O := Ob) (fun b hb => .inr (.inl hb)) fun b hb => .inr hb
      inj := fun t u ht hu e => by
        obtain ⟨p,hpN,rfl⟩ := hr t ht
        obtain ⟨q,hqN,rfl⟩ := hr u hu
        exact hinj p hpN q hqN e
      rows := by intro t u _ _ _ b hb; cases hb
      oD := .inl hDO
      osh := .inr (.inr rfl)
      osf := .inr (.inl hmO)
      orow := by rintro b hb; cases hb
      oreads := fun b hb => .inl (h.oreads b hb)
      apart := by
        rintro b (hb | hb | hb) (hi | hi)
        · exact h.apart b hb hi
        · exact hdisI b hi hb
        · exact (hdis b hb).2.1 hi
        · exact (hdis b hb).2.2 hi
        · have := h.lt b (.inr hi); omega
        · have := hlt b (.inr hi); omega
      lt := by
        rintro b ((hb | hb | hb) | (hb | hb))
        · have := h.lt b (.inl hb); omega
        · have := hlt b (.inl hb); omega
        · omega
        · have := h.lt b (.inr hb); omega
        · have := hlt b (.inr hb); omega }
  · rintro b (hb | hb | hb)
    · exact .inl hb
    · exact .inr (.inl hb)
    · exact .inr (.inr (by omega))
theorem pickHd_drop (picks:List Int) (k most:Nat) : pickHd (picks.drop k) most = pickA picks k most := by
 unfold pickA
 rw [← List.head?_drop]
 cases picks.drop k <;> rfl
theorem tail_drop (picks:List Int) (k:Nat) : (picks.drop k).tail = picks.drop (k + 1) := by rw [List.tail_drop]
def midNames (N:Names) (next j:Nat) : Names := N.zipIdx.map fun q => (q.1.1,if q.2 < j then next + q.2 else q.1.2)
theorem midNames_keys (N:Names) (next j:Nat) : alKeys (midNames N next j) = alKeys N := by
 unfold midNames alKeys
 rw [List.map_map]
 have : ((fun p:ByteArray × Nat => p.1) ∘ fun q : (ByteArray × Nat) × Nat => (q.1.1,if q.2 < j then next + q.2 else q.1.2)) = (fun p:ByteArray × Nat => p.1) ∘ Prod.fst := rfl
 rw [this,← List.map_map,List.zipIdx_map_fst]
theorem midNames_len (N:Names) (next j:Nat) : (midNames N next j).length = N.length := by simp [midNames]
theorem midNames_at (N:Names) (next j i:Nat) (h:i < N.length) : (midNames N next j)[i]? = some (N[i].1,if i < j then next + i else N[i].2) := by
 simp [midNames,List.getElem?_zipIdx,h]
theorem midNames_zero (N:Names) (next:Nat) : midNames N next 0 = N := by
 apply List.ext_getElem?
 intro i
 by_cases h : i < N.length
 ·rw [midNames_at N next 0 i h]; simp [h]
 ·rw [List.getElem?_eq_none (by rw [midNames_len]; omega),List.getElem?_eq_none (by omega)]
theorem midNames_step (N:Names) (next j:Nat) (hn:(alKeys N).Nodup) (h:j < N.length) : alSet (midNames N next j) N[j].1 (next + j) = midNames N next (j + 1) := by
 have hmem : (N[j].1,N[j].2) ∈ midNames N next j := List.mem_of_getElem? (by rw [midNames_at N next j j h]; simp)
 unfold alSet
 rw [if_pos (List.any_eq_true.2 ⟨_,hmem,by simp⟩)]
 apply List.ext_getElem?
 intro i
 by_cases hi : i < N.length
 ·rw [List.getElem?_map,midNames_at N next j i hi,midNames_at N next (j + 1) i hi]
  simp only [Option.map_some]
  by_cases e : i = j
  ·subst e; simp
  ·have hne : N[i].1 ≠ N[j].1 := by
    intro he
    have hli : i < (alKeys N).length := by simpa [alKeys] using hi
    have hlj : j < (alKeys N).length := by simpa [alKeys] using h
    have h1 : (alKeys N)[i] = (alKeys N)[j] := by simpa [alKeys] using he
    rcases Nat.lt_or_gt_of_ne e with hlt | hlt
    ·exact (List.pairwise_iff_getElem.1 hn) i j hli hlj hlt h1
    ·exact (List.pairwise_iff_getElem.1 hn) j i hlj hli hlt h1.symm
   rw [if_neg hne]
   have : (i < j + 1) ↔ (i < j) := by omega
   simp [this]
 ·rw [List.getElem?_map,List.getElem?_eq_none (by rw [midNames_len]; omega),List.getElem?_eq_none (by rw [midNames_len]; omega)]; rfl
end
def crashThing (S:AD) (picks:List Int) (i t:Nat) : Thg := ⟨S.crashBytes picks i t,S.crashBytes picks i t,[]⟩
structure Mid (w0 w:World) (S:AD) (L:Lay) (N:Names) (m b3:Nat) (picks:List Int) (j:Nat) (lst:Names) (L1:Lay) (Ob Ib:Nat → Prop) : Prop where
 map : SMap w m (mapVals L1 lst)
 perm : lst.Perm (midNames N S.next j)
 loc : ∀ t,t < S.next → L1.loc t = L.loc t
 pk : Picks w w0.heap.size b3 (picks.drop (j + 1))
 things : ∀ i p,i < j → N[i]? = some p → TRep w Ob Ib (L1.loc (S.next + i)) (.slice none 0 0) (crashThing S picks i p.2)
 inj : ∀ i i',i < j → i' < j → L1.loc (S.next + i) = L1.loc (S.next + i') → i = i'
 om : Ob m
 new : ∀ b,Ob b ∨ Ib b → w0.heap.size ≤ b ∧ b < w.heap.size
 dis : ∀ b,Ob b → ¬ Ib b
 ob3 : ¬ Ob b3
 ib3 : ¬ Ib b3
 fr : Fr no w0 w
section
variable {w w0:World} {D:Nat} {S S':AD} {O I:Nat → Prop} {L:Lay} {k:KV}
theorem Mid.step {N lst:Names} {m b3:Nat} {picks:List Int} {j:Nat} {L1:Lay} {Ob Ib:Nat → Prop} (h:DRep w0 D S O I L) {c:Nat} (ok:S.Ok c) (M:Mid w0 w S L N m b3 picks j lst L1 Ob Ib) (hN:∀ p ∈ N,reach S p.2) (hNn:(alKeys N).Nodup) (hj:j < N.length) (hpl:picks.length ≤ 4611686018427387904) {kk:Value → Value → Value → Value → Value → Value → KV}
    (hk:∀ w' lst' L1' Ob' Ib',Mid w0 w' S L N m b3 picks (j + 1) lst' L1' Ob' Ib' → Fr (fun b => b = m ∨ b = b3) w w' → ∀ v1 v2 v3 v4 v5 v6 v7,kk v1 v2 v3 v4 v5 v6 v7 w') :
    ∃ Sx : World → Prop,Sx w.drew ∧ pq P Sx (Instr.lookup 82 (.map (some m)) (.string N[j].1) false) fun v49 => pq P Sx (Instr.lookup 82 (.map (some m)) (.string N[j].1) false) fun v53 =>
      pFn P 98 [v53] w.drew fun v54 w => Sx w ∧ (pFn P 94 [v54,ptr b3] w fun v55 w => Sx w ∧ (pFn P 97 [v49,v55] w fun v56 w => Sx w ∧ (
        px P (Instr.build 131 #[(0,v56),(1,v56)]) w fun v61 w => px P (Instr.box 131 v61) w fun v62 w => pu P (Instr.mapUpdate 82 (.map (some m)) (.string N[j].1) v62) w fun w => kk v49 v53 v54 v55 v56 v61 v62 w))) := by
  have hlstn : (alKeys lst).Nodup := by have := M.map.nodup; rwa [mapVals_keys] at this
  have hmid : (alKeys (midNames N S.next j)).Nodup := by rw [midNames_keys]; exact hNn
  have hr : reach S N[j].2 := hN _ (List.getElem_mem hj)
  have hlt := ok.next _ hr
  have hget : alGet (mapVals L1 lst) N[j].1 = some (ptr (L.loc N[j].2)) := by
    rw [mapVals_get,alGet_perm M.perm hlstn]
    have : (N[j].1,N[j].2) ∈ midNames N S.next j := List.mem_of_getElem? (by rw [midNames_at N S.next j j hj]; simp)
    rw [alGet_mem hmid this]
    simp [M.loc _ hlt]
  have hb3 := M.pk.1
  have hmb3 : m ≠ b3 := fun e => M.ob3 (e ▸ M.om)
  have f0 : Fr no w w.drew := Fr.drew _ _
  refine ⟨fun w' => SMap w' m (mapVals L1 lst),M.map.fr f0 id,?_⟩
  refine q_of (ptr (L.loc N[j].2)) (fun w_ hS => lk82 hS N[j].1 (zeroValue132 _) ⟨by rw [hget]; rfl,rfl⟩) ?_
  refine q_of (ptr (L.loc N[j].2)) (fun w_ hS => lk82 hS N[j].1 (zeroValue132 _) ⟨by rw [hget]; rfl,rfl⟩) ?_
  have tok := ok.thing _ hr
  have fd : Fr no w0 w.drew := (M.fr.or f0).mono fun b hb => hb.elim (fun h => h.elim) fun h => h.elim
  have hT1 := (h.things _ hr).fr (O' := O) fd (fun h => h) (fun _ _ h => h) (fun _ _ h => h)
  have hu : unitsOf (S.things N[j].2).row ≤ 4611686018427387904 := by
    have h1 := unitsOf_le tok.ok.units_at
    have h2 := tok.row
    have h3 := ok.small
    have h4 : (S.things N[j].2).row.length * 1048576 ≤ 1099511627776 * 1048576 := Nat.mul_le_mul_right _ (by omega)
    omega
  refine c_tunits hT1 tok ok.small fun w1 f1 => ?_
  have m1 := (M.map.fr f0 id).fr f1 id
  refine ⟨m1,?_⟩
  have p1 := ((M.pk.fr f0 id fun _ _ h => h).fr f1 id fun _ _ h => h)
  refine c_next p1 hu (by have:(picks.drop (j + 1)).length ≤ picks.length := by rw [List.length_drop]; omega
                          omega) fun w2 p2 f2 z2 => ?_
  have m2 := m1.fr f2 hmb3
  refine ⟨m2,?_⟩
  rw [pickHd_drop,tail_drop] at *
  have hsz1 := fd.size
  have f02 : Fr no w0 w2 := ((fd.or f1).or f2).mono (by
    rintro b ((hb | hb) | hb)
    · exact hb.elim
    · exact hb.elim
    · exact .inr (by omega))
  have hT2 := (h.things _ hr).fr (O' := O) f02 (fun h => h) (fun _ _ h => h) (fun _ _ h => h)
  have hpk : pickA picks (j + 1) (unitsOf (S.things N[j].2).row) ≤ unitsOf (S.things N[j].2).row := by rw [← pickHd_drop]; exact pickHd_le _ _
  refine c_left hT2 tok ok.small (by omega) fun w3 v3 h3 hb3' f3 => ?_
  refine ⟨m2.fr f3 id,?_⟩
  obtain ⟨A3,c3,e3,hc3⟩ := h3.form
  refine px_ok (w' := w3) (v := .agg #[v3,v3,.slice none 0 0]) (by subst e3; kernel_rfl) ?_
  refine s_box ?_
  have hT := alloc_new w3 (.cells #[v3,v3,.slice none 0 0] 131)
  have f4 := Fr.alloc no w3 (.cells #[v3,v3,.slice none 0 0] 131)
  have z4 : (w3.alloc (.cells #[v3,v3,.slice none 0 0] 131)).heap.size = w3.heap.size + 1 := by simp
  show pu P _ (w3.alloc (.cells #[v3,v3,.slice none 0 0] 131)) _
  generalize w3.alloc (.cells #[v3,v3,.slice none 0 0] 131) = w4 at *
  have m4 := (m2.fr f3 id).fr f4 id
  refine up82 m4 N[j].1 (ptr w3.heap.size) fun w5 m5 f5 z5 => ?_
  have hz0 : w.drew.heap.size = w.heap.size := rfl
  have hz1 := f1.size
  have hz3 := f3.size
  have hm0 := M.new m (.inl M.om)
  have fw5 : Fr (fun b => b = m ∨ b = b3) w w5 := (((((f0.or f1).or f2).or f3).or f4).or f5).mono (by
    rintro b (((((hb | hb) | hb) | hb) | hb) | hb)
    · exact hb.elim
    · exact hb.elim
    · exact .inl (.inr hb)
    · exact hb.elim
    · exact hb.elim
    · exact .inl (.inl hb))
  have f05 : Fr no w0 w5 := (M.fr.or fw5).mono (by
    rintro b (hb | hb | hb)
    · exact hb.elim
    · exact .inr (by omega)
    · exact .inr (by omega))
  have hbd : ∀ x,Ob x ∨ Ib x → x < w.heap.size := fun x hx => (M.new x hx).2
  -- the new place
  let L2 : Lay := { L1 with loc := fun t => if t = S.next + j then w3.heap.size else L1.loc t }
  let Ob' : Nat → Prop := fun x => Ob x ∨ x = w3.heap.size
  let Ib' : Nat → Prop := fun x => Ib x ∨ sblk v3 = some x
  have hv3 : ∀ x,sblk v3 = some x → w2.heap.size ≤ x ∧ x < w3.heap.size := hb3'
  have hL2 : mapVals L2 lst = mapVals L1 lst := mapVals_congr fun p hp => by
    have h1 := M.perm.mem_iff.1 hp
    unfold midNames at h1
    obtain ⟨q,hq,rfl⟩ := List.mem_map.1 h1
    have hq2 := List.mem_zipIdx hq
    show (if (if q.2 < j then S.next + q.2 else q.1.2) = S.next + j then w3.heap.size else _) = _
    refine if_neg ?_
    split
    · omega
    · have : q.1 ∈ N := by rw [hq2.2.2]; exact List.getElem_mem _
      have := ok.next _ (hN _ this); omega
  rw [← hL2] at m5
  have m5' : SMap w5 m (mapVals L2 (alSet lst N[j].1 (S.next + j))) := by
    have : ptr w3.heap.size = ptr (L2.loc (S.next + j)) := by show ptr w3.heap.size = ptr (if S.next + j = S.next + j then _ else _); rw [if_pos rfl]
    rw [this,mapVals_set] at m5; exact m5
  have hperm : (alSet lst N[j].1 (S.next + j)).Perm (midNames N S.next (j + 1)) := by
    rw [← midNames_step N S.next j hNn hj]
    exact (alSet_perm hlstn _ _).trans ((List.Perm.cons _ (alDel_perm M.perm _)).trans (alSet_perm hmid _ _).symm)
  have hIbm : ∀ x,Ib x → x ≠ m ∧ x ≠ b3 := fun x hx => ⟨fun e => M.dis m M.om (e ▸ hx),fun e => M.ib3 (e ▸ hx)⟩
  refine hk w5 (alSet lst N[j].1 (S.next + j)) L2 Ob' Ib' ?_ fw5 _ _ _ _ _ _ _
  have hT5 := f5.get hT (by omega)
  have h35 : SBytes w5 v3 (S.crashBytes picks j N[j].2) := (h3.fr f4 fun _ _ h => h).fr f5 fun x hx e => by have := hv3 x hx; omega
  exact {
    map := m5'
    perm := hperm
    loc := fun t ht => by
      show (if t = S.next + j then _ else L1.loc t) = _
      rw [if_neg (by omega)]; exact M.loc t ht
    pk := ((p2.fr f3 id fun _ _ h => h).fr f4 id fun _ _ h => h).fr f5 (fun e => hmb3 e.symm) (fun x hx e => by omega)
    things := fun i p hi hp => by
      by_cases e : i = j
      · subst e
        have : p = N[i] := by rw [List.getElem?_eq_getElem hj] at hp; injection hp with hp; exact hp.symm
        subst this
        show TRep w5 Ob' Ib' (if S.next + i = S.next + i then w3.heap.size else _) _ _
        rw [if_pos rfl]
        exact ⟨⟨_,_,[],hT5,⟨h35,fun x hx => .inr hx⟩,⟨h35,fun x hx => .inr hx⟩,⟨rfl,.inl ⟨rfl,rfl⟩⟩,.nil⟩,.inr rfl,by rintro x hx; cases hx⟩
      · show TRep w5 Ob' Ib' (if S.next + i = S.next + j then w3.heap.size else L1.loc (S.next + i)) _ _
        rw [if_neg (by omega)]
        have h1 := M.things i p (by omega) hp
        have h2 := h1.fr (O' := Ob) fw5 (by
          rintro (e' | e')
          · obtain ⟨cc,hcc⟩ := h1.obj
            obtain ⟨es,cl,hmm⟩ := SMap.obj M.map
            rw [e',hmm] at hcc; cases hcc
          · exact M.ob3 (e' ▸ h1.own)) (by rintro x hx; cases hx) (by
          rintro x hx (e' | e')
          · exact (hIbm x hx).1 e'
          · exact (hIbm x hx).2 e')
        exact h2.mono (O := Ob) (fun x => .inl) fun x => .inl
    inj := fun i i' hi hi' e => by
      have e' : (if S.next + i = S.next + j then w3.heap.size else L1.loc (S.next + i)) = (if S.next + i' = S.next + j then w3.heap.size else L1.loc (S.next + i')) := e
      have hown : ∀ a,a < j → L1.loc (S.next + a) < w.heap.size := by
        intro a ha
        have hal : a < N.length := by omega
        exact hbd _ (.inl (M.things a N[a] ha (by simp [hal])).own)
      by_cases c1 : i = j <;> by_cases c2 : i' = j
      · omega
      · rw [if_pos (by omega),if_neg (by omega)] at e'
        have := hown i' (by omega); omega
      · rw [if_neg (by omega),if_pos (by omega)] at e'
        have := hown i (by omega); omega
      · rw [if_neg (by omega),if_neg (by omega)] at e'
        exact M.inj i i' (by omega) (by omega) e'
    om := .inl M.om
    new := by
      rintro x ((hx | hx) | (hx | hx))
      · have := M.new x (.inl hx); exact ⟨this.1,by omega⟩
      · have := M.fr.size; exact ⟨by omega,by omega⟩
      · have := M.new x (.inr hx); exact ⟨this.1,by omega⟩
      · have h1 := hv3 x hx; have := M.fr.size; exact ⟨by omega,by omega⟩
    dis := by
      rintro x (hx | hx) (hi | hi)
      · exact M.dis x hx hi
      · have := hbd x (.inl hx); have := hv3 x hi; omega
      · have := hbd x (.inr hi); omega
      · have := hv3 x hi; omega
    ob3 := by
      rintro (hx | hx)
      · exact M.ob3 hx
      · obtain ⟨_,pv,hp,_⟩ := M.pk; have := lt_of_get hp; omega
    ib3 := by
      rintro (hx | hx)
      · exact M.ib3 hx
      · obtain ⟨_,pv,hp,_⟩ := M.pk; have := lt_of_get hp; have := hv3 _ hx; omega
    fr := f05 }
end
theorem on_from {c:Turn} {l:Names} (hc:∀ a b,c = .give a b → alGet l a ≠ none) {n:ByteArray} {t:Nat} (h:(n,t) ∈ c.on l) : (∃ n',(n',t) ∈ l) ∨ ∃ n',c = .mk n' t := by
 cases c with
 | mk m u =>
  rcases mem_setN.1 h with h | h
  ·injection h with h1 h2; subst h2; exact .inr ⟨m,rfl⟩
  ·exact .inl ⟨n,h.1⟩
 | give a b =>
  rcases mem_setN.1 h with h | h
  ·injection h with h1 h2
   cases hg : alGet l a with
   | none => exact absurd hg (hc a b rfl)
   | some u => rw [hg] at h2; subst h2; exact .inl ⟨a,mem_of_alGet hg⟩
  ·exact .inl ⟨n,(mem_alDel.1 h.1).1⟩
 | take m => exact .inl ⟨n,(mem_alDel.1 h).1⟩
theorem fold_from {s:Names} : ∀ {r:List Turn} {l:Names},turnsOk l r s → ∀ {n:ByteArray} {t:Nat},(n,t) ∈ s → (∃ n',(n',t) ∈ l) ∨ ∃ n',Turn.mk n' t ∈ r
 | [],l,h,n,t,hm => by rw [h.1] at hm; exact .inl ⟨n,hm⟩
 | c :: r,l,h,n,t,hm => by
  rcases fold_from (r := r) (l := c.on l) h.2.2 hm with ⟨n',h1⟩ | ⟨n',h1⟩
  ·rcases on_from h.2.1 h1 with ⟨m,h2⟩ | ⟨m,h2⟩
   ·exact .inl ⟨m,h2⟩
   ·exact .inr ⟨m,h2 ▸ List.mem_cons_self⟩
  ·exact .inr ⟨n',List.mem_cons_of_mem _ h1⟩
theorem crash_reach {S:AD} {c:Nat} (ok:S.Ok c) (picks:List Int) : ∀ p ∈ S.crashNames picks,reach S p.2 := by
 intro p hp
 have h1 := ok.turns.take (pickA picks 0 S.row.length)
 rcases fold_from h1 (n := p.1) (t := p.2) hp with ⟨n,h⟩ | ⟨n,h⟩
 ·exact .inr (.inl ⟨n,h⟩)
 ·exact .inr (.inr ⟨n,List.mem_of_mem_take h⟩)
def crashThings (S:AD) (picks:List Int) : Nat → Thg := fun j => if j < S.next then S.things j else match (S.crashNames picks)[j - S.next]? with
 | some p => crashThing S picks (j - S.next) p.2
 | none => S.things j
theorem crash_after (S:AD) (picks:List Int) : S.crash picks = AD.after S (crashThings S picks) (S.next + (S.crashNames picks).length) (midNames (S.crashNames picks) S.next (S.crashNames picks).length) := by
 have e : midNames (S.crashNames picks) S.next (S.crashNames picks).length = (S.crashNames picks).zipIdx.map fun q => (q.1.1,S.next + q.2) := by
  unfold midNames
  refine List.map_congr_left fun q hq => ?_
  have := (List.mem_zipIdx hq).2.1
  rw [if_pos (by omega)]
 rw [e]; rfl
section
variable {w w0:World} {D:Nat} {S S':AD} {O I:Nat → Prop} {L:Lay} {k:KV}
theorem crash_loop2 {c:Nat} {picks:List Int} {m b3 cap:Nat} {A:Option Addr} (h:DRep w0 D S O I L) (ok:S.Ok c) (hpl:picks.length ≤ 4611686018427387904)
    (hk:∀ w' O' I' L',Nx w0 D O I w' (S.crash picks) O' I' L' → k (.tuple #[]) w') (hnb:∀ b,A = some b → b.block ≠ m ∧ b.block ≠ b3)
    (j:Nat) (hj:j ≤ (S.crashNames picks).length) (lst:Names) (L1:Lay) (Ob Ib:Nat → Prop) (M:Mid w0 w S L (S.crashNames picks) m b3 picks j lst L1 Ob Ib) (hsrc:Src w (.slice A (S.crashNames picks).length cap) 1 (S.crashNames picks).length (nameVals (S.crashNames picks)))
    (ρ:Env) (h0:ρ 0 = ptr D) (h4:ρ 4 = .func (.func 94) #[] #[ptr b3]) (h5:ρ 5 = .map (some m)) (h41:ρ 41 = .slice A (S.crashNames picks).length cap) (h42:ρ 42 = i64 (S.crashNames picks).length) (h43:ρ 43 = i64 j) : F57L2 k ρ w := by
  generalize hN : S.crashNames picks = N at *
  have hNo : Ordered N := by rw [← hN]; exact ok.safe.fold
  have hNr : ∀ p ∈ N,reach S p.2 := by rw [← hN]; exact crash_reach ok picks
  have hNl : N.length ≤ 256 := by rw [← hN]; exact (ok.turns.take (pickA picks 0 S.row.length)).len.1
  refine F57L2_inv (m := N.length - j) k (fun n ρ w' => ∃ (j:Nat) (lst:Names) (L1:Lay) (Ob Ib:Nat → Prop),j + n = N.length ∧ Mid w0 w' S L N m b3 picks j lst L1 Ob Ib ∧ Src w' (.slice A N.length cap) 1 N.length (nameVals N) ∧ ρ 0 = ptr D ∧ ρ 4 = .func (.func 94) #[] #[ptr b3] ∧ ρ 5 = .map (some m) ∧ ρ 41 = .slice A N.length cap ∧ ρ 42 = i64 N.length ∧ ρ 43 = i64 j) ?_
    ⟨j,lst,L1,Ob,Ib,by omega,M,hsrc,h0,h4,h5,h41,h42,h43⟩
  clear M hsrc h0 h4 h5 h41 h42 h43
  rintro n ρ w' ⟨j,lst,L1,Ob,Ib,hjn,M,hsrc,h0,h4,h5,h41,h42,h43⟩
  rw [F57_3_eq]
  unfold F57_3
  rw [h4,h5,h41,h42,h43]
  by_cases hj : j < N.length
  · refine s_lt_t (by omega) (pC_true ?_)
    refine s_ix_src usl22 (sze22 _) hsrc (by omega) (by omega) fun bb o hcell => ?_
    refine s_ld (v := .string N[j].1) (isAgg9 _) (by have := hcell 0 (.string N[j].1) (by omega) (by simp [nameVals,hj]); simpa using this) ?_
    refine M.step (kk := fun v1 v2 v3 v4 v5 v6 v7 w => px P (binSem .add 3 (.tmp 43) (.const (.int .i64 1)) (i64 j) (.int .i64 1)) w _) h ok hNr hNo.nodup hj hpl fun w5 lst' L1' Ob' Ib' M' f5 v1 v2 v3 v4 v5 v6 v7 => ?_
    refine s_add_in (by omega) ?_
    refine ⟨n - 1,by omega,j + 1,lst',L1',Ob',Ib',by omega,M',hsrc.fr (by omega) f5 ?_,h0,h4,h5,h41,h42,?_⟩
    · intro b hb hb'
      cases A with
      | none => cases hb
      | some a =>
        injection hb with hb
        have := hnb a rfl
        rcases hb' with e | e
        · exact this.1 (hb.trans e)
        · exact this.2 (hb.trans e)
    · show i64 _ = i64 _; simp
  · refine s_lt_f (by omega) (pC_false ?_)
    have hjN : j = N.length := by omega
    subst hjN
    rw [F57_4_eq]
    have hR : DRep w' D S O I L := h.fr M.fr fun b hb => hb.elim
    have hat : ∀ p ∈ midNames N S.next N.length,∃ i,∃ hi : i < N.length,p.2 = S.next + i ∧ N[i]? = some N[i] := by
      intro p hp
      obtain ⟨i,hi⟩ := List.getElem?_of_mem hp
      have hil : i < N.length := by
        rcases Nat.lt_or_ge i N.length with h' | h'
        · exact h'
        · rw [List.getElem?_eq_none (by rw [midNames_len]; omega)] at hi; cases hi
      rw [midNames_at N S.next N.length i hil,if_pos hil] at hi
      injection hi with hi
      exact ⟨i,hil,by rw [← hi],by simp [hil]⟩
    refine crash_end (ρ := put ρ 44 (.bool false)) (m := m) (lst := lst) (N := midNames N S.next N.length) (L1 := L1) (Ob := Ob) (Ib := Ib) (th := crashThings S picks) (next := S.next + N.length) hR h0 h5 M.map M.perm ?_ ?_ M.om ?_ ?_ (fun b hb => (M.new b hb).2) ?_
    · intro p hp
      obtain ⟨i,hi,e,e2⟩ := hat p hp
      rw [e]
      have := M.things i N[i] hi e2
      unfold crashThings
      rw [if_neg (by omega),hN]
      have e3 : S.next + i - S.next = i := by omega
      rw [e3,e2]; exact this
    · intro p hp q hq e
      obtain ⟨i,hi,e1,_⟩ := hat p hp
      obtain ⟨i',hi',e2,_⟩ := hat q hq
      rw [e1,e2] at e ⊢
      rw [M.inj i i' hi hi' e]
    · intro b hb
      have := (M.new b (.inl hb)).1
      exact ⟨fun ho => by have := h.lt b (.inl ho); omega,fun hi => by have := h.lt b (.inr hi); omega,M.dis b hb⟩
    · intro b hb ho
      have := (M.new b (.inr hb)).1
      have := h.lt b (.inl ho); omega
    · intro w6 O' I' L6 hR6 f6 ho hi ho' hi'
      have ec : S.crash picks = AD.after S (crashThings S picks) (S.next + N.length) (midNames N S.next N.length) := by rw [crash_after,hN]
      refine hk w6 O' I' L6 ⟨by rw [ec]; exact hR6,(M.fr.or f6).mono ?_,ho,hi,?_,?_⟩
      · rintro b (hb | hb)
        · exact hb.elim
        · exact .inl (hb ▸ h.oD)
      · intro b hb
        rcases ho' b hb with hb | hb | hb
        · exact .inl hb
        · exact .inr (M.new b (.inl hb)).1
        · have := M.fr.size; exact .inr (by omega)
      · intro b hb
        rcases hi' b hb with hb | hb
        · exact .inl hb
        · exact .inr (M.new b (.inr hb)).1
theorem c_crashP (sk:SortsKeys) {c:Nat} {picks:List Int} {pv:Value} (h:DRep w D S O I L) (ok:S.Ok c) (hpl:picks.length ≤ 4611686018427387904) (hpv:Src w pv 1 picks.length (picks.map i64))
    (hnm:∀ p ∈ S.crashNames picks,p.1.size ≤ maxLen) (hk:∀ w' O' I' L',Nx w D O I w' (S.crash picks) O' I' L' → k (.tuple #[]) w') : pFn P 57 [ptr D,pv] w k := by
  refine F57_in _ _ _ _ ?_
  unfold F57_0
  obtain ⟨Ap,cp,hpe,hcp⟩ : ∃ A c,pv = .slice A picks.length c ∧ picks.length ≤ c := by obtain ⟨A,c,e,hc,_⟩ := hpv; exact ⟨A,c,e,hc⟩
  subst hpe
  refine s_box ?_
  have f1 := Fr.alloc no w (.cells #[.slice Ap picks.length cp] 58)
  have b1 := alloc_new w (.cells #[.slice Ap picks.length cp] 58)
  have z1 : (w.alloc (.cells #[.slice Ap picks.length cp] 58)).heap.size = w.heap.size + 1 := by simp
  show pFn P _ _ (w.alloc (.cells #[.slice Ap picks.length cp] 58)) _
  generalize w.alloc (.cells #[.slice Ap picks.length cp] 58) = w1 at *
  have h1 := h.fr f1 fun b hb => hb.elim
  have pk1 : Picks w1 w.heap.size w.heap.size picks := ⟨Nat.le_refl _,_,b1,hpv.fr (by omega) f1 fun _ _ h => h,fun hp b hb => hpv.lt (by omega) hp hb⟩
  refine c_none h1.disk ok.room.1 (pC_false (s_mkf ?_))
  refine s_nil (fa88_2 (s_ldb (v := .map (some L.sf)) (isAgg82 _) h1.disk rfl ?_))
  refine c_cloneMap h1.sf fun w2 m2 f2 z2 => ?_
  have f2d : Fr no w1 w2.drew := (f2.or (Fr.drew no w2)).mono fun b hb => hb.elim (fun h => h.elim) fun h => h.elim
  have h2 := h1.fr f2d fun b hb => hb.elim
  have pk2 := pk1.fr f2d id fun _ _ h => h
  have m2d : SMap w2.drew w1.heap.size (mapVals L L.lsf) := m2.fr (Fr.drew no w2) id
  have zd : w2.drew.heap.size = w2.heap.size := rfl
  have hrowl := ok.row
  have hsm := ok.small
  obtain ⟨Ar,cr,hre,hcr⟩ : ∃ A c,L.rowv = .slice A S.row.length c ∧ S.row.length ≤ c := by obtain ⟨A,c,e,hc,_⟩ := Src.of_own h.row; exact ⟨A,c,e,hc⟩
  refine ⟨fun w' => w'.heap[D]? = some (.cells (dcells S L) 88 (0,0)),h2.disk,?_⟩
  refine q_of _ (fun w_ hS => s_nil ⟨rfl,rfl⟩) ?_
  refine q_of _ (fun w_ hS => fa88_3 ⟨rfl,rfl⟩) ?_
  refine q_of L.rowv (fun w_ hS => s_ldb (isAgg83 _) hS rfl ⟨rfl,rfl⟩) ?_
  refine q_of _ (fun w_ hS => s_nil ⟨rfl,rfl⟩) ?_
  refine q_of _ (fun w_ hS => fa88_3 ⟨rfl,rfl⟩) ?_
  refine q_of L.rowv (fun w_ hS => s_ldb (isAgg83 _) hS rfl ⟨rfl,rfl⟩) ?_
  rw [hre]
  refine q_of _ (fun w_ hS => s_len usl83 ⟨rfl,rfl⟩) ?_
  refine c_next pk2 (by omega) hpl fun w3 pk3 f3 z3 => ?_
  have hDlt := h.lt D (.inl h.oD)
  have hd3 := f3.get h2.disk (by omega)
  refine ⟨hd3,?_⟩
  have e0 : pickHd picks S.row.length = pickA picks 0 S.row.length := by rw [← pickHd_drop]; rfl
  have hq : pickHd picks S.row.length ≤ S.row.length := pickHd_le _ _
  rw [e0] at hq ⊢
  refine q_of (.slice Ar (pickA picks 0 S.row.length) cr) (fun w_ hS => s_sl_h usl83 (sze83 _) (by omega) (by omega) ⟨by rw [Int.toNat_natCast],rfl⟩) ?_
  refine q_of _ (fun w_ hS => s_len usl83 ⟨rfl,rfl⟩) ?_
  generalize hqe : pickA picks 0 S.row.length = q at *
  have f03 : Fr no w w3 := ((f1.or f2d).or f3).mono (by
    rintro b ((hb | hb) | hb)
    · exact hb.elim
    · exact hb.elim
    · exact .inr (by omega))
  have m3 : SMap w3 w1.heap.size (mapVals L L.lsf) := m2d.fr f3 (by omega)
  have hsrc3 : Src w3 (.slice Ar q cr) 1 q ((S.row.map (turnVal L.loc)).take q) := by
    have h5 := Src.of_own (own_fr h.row f03 fun _ _ h => h)
    rw [hre] at h5
    have h6 := Src.front h5 hq
    rwa [Nat.mul_one] at h6
  have etl : picks.tail = picks.drop 1 := by rw [List.drop_one]
  rw [etl] at pk3
  refine F57L1_inv (m := q) k (fun n ρ w' => ∃ i : Nat,i + n = q ∧ Fr no w w' ∧ Fr (fun b => b = w1.heap.size) w3 w' ∧ SMap w' w1.heap.size (mapVals L ((S.row.take i).foldl (fun l c => c.onL l) L.lsf)) ∧ ρ 0 = ptr D ∧ ρ 4 = .func (.func 94) #[] #[ptr w.heap.size] ∧ ρ 5 = .map (some w1.heap.size) ∧ ρ 30 = .slice Ar q cr ∧ ρ 31 = i64 q ∧ ρ 32 = i64 i) ?_
    ⟨0,by omega,f03,Fr.refl _ _,m3,rfl,rfl,rfl,rfl,rfl,rfl⟩
  rintro n ρ w' ⟨i,hin,hf,hf3,hm,r0,r4,r5,r30,r31,r32⟩
  rw [F57_1_eq]
  unfold F57_1
  rw [r5,r30,r31,r32]
  have hfold := onL_fold_perm (r := S.row.take i) h.sfp h.lsfn
  by_cases hi : i < q
  · refine s_lt_t (by omega) (pC_true ?_)
    have hs' : Src w' (.slice Ar q cr) 1 q ((S.row.map (turnVal L.loc)).take q) := hsrc3.fr (by omega) hf3 fun b hb e => by
      have h7 : sblk L.rowv = some b := by rw [hre]; cases Ar <;> exact hb
      have := h.lt b (.inl (h.orow b h7)); omega
    refine s_ix_src usl83 (sze83 _) hs' (by omega) (by omega) fun bb o hcell => ?_
    have hir : i < S.row.length := by omega
    refine s_ld (v := turnVal L.loc S.row[i]) (isAgg174 _) (by have := hcell 0 (turnVal L.loc S.row[i]) (by omega) (by simp [List.getElem?_take,hi,hir]); simpa using this) ?_
    refine c_on S.row[i] (fun a b e => ?_) hm fun w5 hm5 f5 => ?_
    · rw [alGet_perm hfold.1 hfold.2]
      exact turnsOk.at_ ok.turns (i := i) (a := a) (b := b) (by rw [List.getElem?_eq_getElem hir,e])
    refine s_add_in (by omega) ?_
    refine ⟨n - 1,by omega,i + 1,by omega,(hf.or f5).mono (by rintro b (hb | hb); exact hb.elim; exact .inr (by omega)),(hf3.or f5).mono (fun b hb => hb.elim .inl .inl),?_,r0,r4,r5,r30,r31,?_⟩
    · rw [List.take_succ_eq_append_getElem hir,List.foldl_append]; exact hm5
    · show i64 _ = i64 _; simp
  · refine s_lt_f (by omega) (pC_false ?_)
    have hiq : i = q := by omega
    subst hiq
    rw [F57_2_eq]
    unfold F57_2
    have r5' : put ρ 33 (.bool false) 5 = .map (some w1.heap.size) := r5
    rw [r5']
    have eN : (S.row.take i).foldl (fun l c => c.on l) S.safe = S.crashNames picks := by unfold AD.crashNames; rw [hqe]
    rw [eN] at hfold
    have hNo : Ordered (S.crashNames picks) := ok.safe.fold
    have hNl : (S.crashNames picks).length ≤ 256 := (ok.turns.take (pickA picks 0 S.row.length)).len.1
    refine c_sorted sk hm hfold.1 hNo hnm (by omega) fun w5 nv hnv hnb f5 => ?_
    obtain ⟨An,cn,hne,hcn⟩ : ∃ A c,nv = .slice A (S.crashNames picks).length c ∧ (S.crashNames picks).length ≤ c := by obtain ⟨A,c,e,hc,_⟩ := Src.of_own hnv; exact ⟨A,c,e,hc⟩
    subst hne
    refine s_len usl22 ?_
    have zf3 := hf3.size
    have f05 : Fr no w w5 := (hf.or f5).mono fun b hb => hb.elim (fun h => h.elim) fun h => h.elim
    have pk5 : Picks w5 w.heap.size w.heap.size (picks.drop 1) := (pk3.fr hf3 (by omega) fun c hc => by omega).fr f5 id fun _ _ h => h
    refine crash_loop2 (m := w1.heap.size) (b3 := w.heap.size) h ok hpl hk ?_ 0 (Nat.zero_le _) _ L (fun b => b = w1.heap.size) no ⟨hm.fr f5 id,by rw [midNames_zero]; exact hfold.1,fun _ _ => rfl,pk5,fun i p hi => absurd hi (Nat.not_lt_zero _),fun i i' hi => absurd hi (Nat.not_lt_zero _),rfl,?_,fun b _ h => h,by show ¬ w.heap.size = w1.heap.size; omega,id,f05⟩ (Src.of_own hnv) _ r0 r4 r5 rfl rfl rfl
    · intro b hb
      have := hnb b.block (by rw [hb]; rfl)
      exact ⟨by omega,by omega⟩
    · rintro b (hb | hb)
      · have := f5.size; exact ⟨by omega,by omega⟩
      · exact hb.elim
end
end Go.Proofs.YteeeggphkhimcaaGreatDoor
