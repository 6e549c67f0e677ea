/- Put together by a program (wip/tools/shake.py): Desk,Roomy,Roomy2,LLeft. -/
import Derived.Test.YtcdcojpfealppaaGreatY23
import Derived.Test.YtcdcojpfealppaaGreatY14
import Derived.Test.YtcdcojpfealppaaGreatY15
import Derived.Test.YtcdcojpfealppaaGreatY21
import Derived.Test.YtcdcojpfealppaaGreatY12
set_option linter.unusedVariables false
set_option linter.unusedSimpArgs false
set_option maxRecDepth 100000
namespace Go.Proofs.YtcdcojpfealppaaGreat
open Go Go.Proofs Go.RowKit Go.Proofs.XRed Go.Proofs.XHeap Go.Proofs.XMaps Go.Proofs.XSlices Go.Proofs.XDisk Go.Proofs.XCalls Go.Proofs.XSep Tryz
section
variable {w w0:World} {k:KV}
theorem s_ixo {t:TypeId} {g n c i:Nat} (h:P.underlying t = some (.slice (P.elem t))) (hs:(sizeOf (P.elem t)).run P w = .ok 1 w) (hi:i < n) (hk:k (.pointer (some ⟨g,i,none⟩)) w) : px P (Instr.indexAt t (.slice (some ⟨g,0,none⟩) n c) (i64 i)) w k :=
 s_ix (i := (i:Int)) h hs (by omega) (by omega) (by simpa using hk)
theorem own_copy {base n:Nat} {e:TypeId} {v:Value} {xs cs:List Value} (h:w.ownsRow base e 1 v n xs) (h0:0 < n) (hc:cs.length ≤ n) : ∃ g cap cur,v = .slice (some ⟨g,0,none⟩) n cap ∧ n ≤ cap ∧ base ≤ g ∧ w.heap[g]? = some (.cells cur e (0,0)) ∧ n ≤ cur.size ∧
    ∀ w' : World,w'.heap[g]? = some (.cells (cur.toList.take 0 ++ cs.take n ++ cur.toList.drop (0 + min cs.length n)).toArray e (0,0)) → w'.ownsRow base e 1 v n (cs ++ xs.drop cs.length) := by
  obtain ⟨hl,h2⟩ := h
  rcases h2 with ⟨_,h0'⟩ | ⟨g,cap,cur,hv,hb,hg,hnc,hcm,hcs,ht⟩
  · omega
  · refine ⟨g,cap,cur,hv,hnc,hb,hg,by omega,fun w' hw' => ⟨by simp; omega,.inr ⟨g,cap,_,hv,hb,hw',hnc,hcm,?_,?_⟩⟩⟩
    · simp; omega
    · rw [List.take_zero,List.nil_append,List.take_of_length_le hc,Nat.min_eq_left hc,Nat.zero_add,Nat.mul_one]
      rw [Nat.mul_one] at ht
      rw [List.toList_toArray,List.take_append,List.take_of_length_le hc,← ht,List.drop_take]
theorem fill_set_lay (bb:List UInt8) (i:Nat) (hi:i < bb.length) : (List.replicate i (171 : UInt8) ++ bb.drop i).set i 171 = List.replicate (i + 1) 171 ++ bb.drop (i + 1) := by
 rw [List.set_append_right _ _ (by simp),List.length_replicate,Nat.sub_self,List.drop_eq_getElem_cons hi,List.set_cons_zero,List.replicate_succ']
 simp
set_option maxHeartbeats 1000000 in
theorem c_lay2 {K:Nat} {pv bv:Value} {bb d:List UInt8} {dv:Value} (hK:w.heap[K]? = some (.cells #[bv,pv] 51 (0,0))) (hb:w.ownsRow 0 5 1 bv bb.length (u8s bb)) (hd:SBytes w dv d) (hdn:0 < d.length → ∀ b,sblk dv = some b → sblk bv ≠ some b) (hl:bb.length ≤ 1099511627776) (h5:d.length + 5 ≤ bb.length) {ρ:Env} (e0:ρ 0 = ptr K) (e1:ρ 1 = dv) (e5:ρ 5 = i64 0)
    (hk:∀ w' v,w'.heap[K]? = some (.cells #[bv,pv] 51 (0,0)) → w'.ownsRow 0 5 1 bv bb.length (u8s (d ++ List.replicate (bb.length - d.length) 171)) → SBytes w' v d → (∀ b,sblk v = some b → sblk bv = some b) → Fr (fun b => sblk bv = some b) w w' → k v w') : F63L1 k ρ w := by
  have hbK : ∀ {w':World} {n:Nat} {xs:List Value},w'.heap[K]? = some (.cells #[bv,pv] 51 (0,0)) → w'.ownsRow 0 5 1 bv n xs → ∀ b,sblk bv = some b → b ≠ K := by
    rintro w' n xs hK' ho b hb rfl
    obtain ⟨c1,h1⟩ := own_obj ho hb
    exact absurd (two_types h1 hK') (by decide)
  refine F63L1_inv (m := bb.length) k (fun m ρ w' => ∃ i : Nat,i + m = bb.length ∧ w'.heap[K]? = some (.cells #[bv,pv] 51 (0,0)) ∧ w'.ownsRow 0 5 1 bv bb.length (u8s (List.replicate i 171 ++ bb.drop i)) ∧ Fr (fun b => sblk bv = some b) w w' ∧ ρ 0 = ptr K ∧ ρ 1 = dv ∧ ρ 5 = i64 i) ?_
    ⟨0,by omega,hK,by simpa using hb,Fr.refl _ _,e0,e1,e5⟩
  rintro m ρ w' ⟨i,him,hK',ho,hf,e0,e1,e5⟩
  rw [F63_2_eq]
  unfold F63_2
  rw [e0,e5]
  refine s_nil (fa51_0 (s_ldb (v := bv) (isAgg36 _) hK' rfl (s_lenS usl36 (Src.of_own ho) ?_)))
  by_cases hi : i < bb.length
  · refine s_lt_t (by omega) (pC_true (s_nil (fa51_0 (s_ldb (v := bv) (isAgg36 _) hK' rfl ?_))))
    obtain ⟨g,cap,cur,ev,hcap,hbase,hg,hic,hce,hset⟩ := own_at (i := i) ho (by omega)
    have hgb : sblk bv = some g := by rw [ev]; rfl
    have hgK := hbK hK' ho g hgb
    have hn' := hset (.int .u8 (171 : UInt8).toNat)
    rw [u8s_set,fill_set_lay bb i hi] at hn'
    have f2 : Fr (fun b => sblk bv = some b) w' (w'.setCell ⟨g,i,none⟩ (.int .u8 (171 : UInt8).toNat)) := (Fr.setCell w' ⟨g,i,none⟩ _).mono fun b hb' => .inl (by rw [show b = g from hb']; exact hgb)
    rw [ev] at hK' ⊢
    refine s_ixo usl36 (sze36 _) hi (s_st (sizeOf5 _) rfl rfl hg hic (s_add_in (by omega) ⟨m - 1,by omega,i + 1,by omega,set_other i (.int .u8 (171 : UInt8).toNat) (fun e => hgK e.symm) hK',by rw [← ev]; exact hn',by rw [← ev]; exact hf.trans f2 fun b => .inl,e0,e1,?_⟩))
    show i64 _ = i64 _; simp
  · refine s_lt_f (by omega) (pC_false ?_)
    rw [F63_3_eq]
    suffices hs : ∀ ρ2 : Env,ρ2 0 = ptr K → ρ2 1 = dv → F63_3 k ρ2 w' from hs _ e0 e1
    intro ρ2 a0 a1
    unfold F63_3
    rw [a0,a1]
    have hi' : i = bb.length := by omega
    rw [hi',List.drop_eq_nil_of_le (Nat.le_refl _),List.append_nil] at ho
    obtain ⟨g,cap,cur,ev,hcap,hbase,hg,hcs,hcopy⟩ := own_copy (cs := u8s d) ho (by omega) (by simp [u8s]; omega)
    have hgb : sblk bv = some g := by rw [ev]; rfl
    have hgK := hbK hK' ho g hgb
    have hd' : SBytes w' dv d := SBytes.fr0 hd hf fun h0 b hb' e => hdn h0 b hb' e
    refine s_nil (fa51_0 (s_ldb (v := bv) (isAgg36 _) hK' rfl ?_))
    have hK2 := hK'
    rw [ev] at hK' ⊢
    refine s_copy usl36 (by kernel_rfl) hg hd' u8s_one (by rw [Nat.zero_add]; omega) fun w2 hg2 f2 z2 => ?_
    have hlen : (u8s d).length = d.length := by simp [u8s]
    rw [hlen] at hcopy
    have ho2 := hcopy w2 hg2
    have henc : u8s d ++ (u8s (List.replicate bb.length 171)).drop d.length = u8s (d ++ List.replicate (bb.length - d.length) 171) := by
      simp [u8s]
    rw [henc] at ho2
    have hK3 : w2.heap[K]? = some (.cells #[bv,pv] 51 (0,0)) := f2.get hK2 fun e => hgK e.symm
    rw [ev] at hK3 ho2
    have hd2 : SBytes w2 dv d := SBytes.fr0 hd' f2 fun h0 b hb' e => hdn h0 b hb' (by rw [ev,show b = g from e]; rfl)
    refine s_nil (fa51_0 (s_ldb (v := .slice (some ⟨g,0,none⟩) bb.length cap) (isAgg36 _) hK3 rfl (s_lenS usl36 hd2 ?_)))
    refine s_sl_h (i := (d.length : Int)) usl36 (sze36 _) (by omega) (by omega) ?_
    have hfront := Src.front (m := d.length) (Src.of_own ho2) (by omega)
    have htk : (u8s (d ++ List.replicate (bb.length - d.length) 171)).take (d.length * 1) = u8s d := by
      rw [Nat.mul_one]
      have : (d ++ List.replicate (bb.length - d.length) (171 : UInt8)).take d.length = d := by simp
      conv => rhs; rw [← this]
      simp [u8s]
    rw [htk] at hfront
    refine hk w2 _ (by rw [ev]; exact hK3) (by rw [ev]; exact ho2) hfront (fun b hb' => ?_) ?_
    · rw [ev]; exact hb'
    · exact hf.trans f2 fun b hb' => .inl (by rw [show b = g from hb']; exact hgb)
def i64s (l:List Int) : List Value := l.map i64
def SInts (w:World) (v:Value) (l:List Int) : Prop := Src w v 1 l.length (i64s l)
theorem i64s_set (l:List Int) (i:Nat) (x:Int) : (i64s l).set i (.int .i64 x) = i64s (l.set i x) := by unfold i64s; rw [List.map_set]
theorem i64s_one {l:List Int} : ∀ u ∈ i64s l,u.oneCell' = true := by intro u hu; obtain ⟨x,_,rfl⟩ := List.mem_map.1 hu; rfl
theorem SInts.fr0 {O:Nat → Prop} {w w':World} {v:Value} {l:List Int} (h:SInts w v l) (hf:Fr O w w') (hn:0 < l.length → ∀ b,sblk v = some b → ¬ O b) : SInts w' v l := Src.fr0 h (by omega) hf hn
theorem SInts.fr {O:Nat → Prop} {w w':World} {v:Value} {l:List Int} (h:SInts w v l) (hf:Fr O w w') (hn:∀ b,sblk v = some b → ¬ O b) : SInts w' v l := Src.fr h (by omega) hf hn
theorem fill_set_picks (bb:List Int) (i:Nat) (hi:i < bb.length) : (List.replicate i (77 : Int) ++ bb.drop i).set i 77 = List.replicate (i + 1) 77 ++ bb.drop (i + 1) := by
 rw [List.set_append_right _ _ (by simp),List.length_replicate,Nat.sub_self,List.drop_eq_getElem_cons hi,List.set_cons_zero,List.replicate_succ']
 simp
set_option maxHeartbeats 1000000 in
theorem c_picks2 {K:Nat} {bv pv:Value} {bb d:List Int} {dv:Value} (hK:w.heap[K]? = some (.cells #[bv,pv] 51 (0,0))) (hb:w.ownsRow 0 3 1 pv bb.length (i64s bb)) (hd:SInts w dv d) (hdn:0 < d.length → ∀ b,sblk dv = some b → sblk pv ≠ some b) (hl:bb.length ≤ 1099511627776) (h5:d.length + 3 ≤ bb.length) {ρ:Env} (e0:ρ 0 = ptr K) (e1:ρ 1 = dv) (e5:ρ 5 = i64 0)
    (hk:∀ w' v,w'.heap[K]? = some (.cells #[bv,pv] 51 (0,0)) → w'.ownsRow 0 3 1 pv bb.length (i64s (d ++ List.replicate (bb.length - d.length) 77)) → SInts w' v d → (∀ b,sblk v = some b → sblk pv = some b) → Fr (fun b => sblk pv = some b) w w' → k v w') : F122L1 k ρ w := by
  have hbK : ∀ {w':World} {n:Nat} {xs:List Value},w'.heap[K]? = some (.cells #[bv,pv] 51 (0,0)) → w'.ownsRow 0 3 1 pv n xs → ∀ b,sblk pv = some b → b ≠ K := by
    rintro w' n xs hK' ho b hb rfl
    obtain ⟨c1,h1⟩ := own_obj ho hb
    exact absurd (two_types h1 hK') (by decide)
  refine F122L1_inv (m := bb.length) k (fun m ρ w' => ∃ i : Nat,i + m = bb.length ∧ w'.heap[K]? = some (.cells #[bv,pv] 51 (0,0)) ∧ w'.ownsRow 0 3 1 pv bb.length (i64s (List.replicate i 77 ++ bb.drop i)) ∧ Fr (fun b => sblk pv = some b) w w' ∧ ρ 0 = ptr K ∧ ρ 1 = dv ∧ ρ 5 = i64 i) ?_
    ⟨0,by omega,hK,by simpa using hb,Fr.refl _ _,e0,e1,e5⟩
  rintro m ρ w' ⟨i,him,hK',ho,hf,e0,e1,e5⟩
  rw [F122_1_eq]
  unfold F122_1
  rw [e0,e5]
  refine s_nil (fa51_1 (s_ldb (v := pv) (isAgg39 _) hK' rfl (s_lenS usl39 (Src.of_own ho) ?_)))
  by_cases hi : i < bb.length
  · refine s_lt_t (by omega) (pC_true (s_nil (fa51_1 (s_ldb (v := pv) (isAgg39 _) hK' rfl ?_))))
    obtain ⟨g,cap,cur,ev,hcap,hbase,hg,hic,hce,hset⟩ := own_at (i := i) ho (by omega)
    have hgb : sblk pv = some g := by rw [ev]; rfl
    have hgK := hbK hK' ho g hgb
    have hn' := hset (.int .i64 77)
    rw [i64s_set,fill_set_picks bb i hi] at hn'
    have f2 : Fr (fun b => sblk pv = some b) w' (w'.setCell ⟨g,i,none⟩ (.int .i64 77)) := (Fr.setCell w' ⟨g,i,none⟩ _).mono fun b hb' => .inl (by rw [show b = g from hb']; exact hgb)
    rw [ev] at hK' ⊢
    refine s_ixo usl39 (sze39 _) hi (s_st (sizeOf3 _) rfl rfl hg hic (s_add_in (by omega) ⟨m - 1,by omega,i + 1,by omega,set_other i (.int .i64 77) (fun e => hgK e.symm) hK',by rw [← ev]; exact hn',by rw [← ev]; exact hf.trans f2 fun b => .inl,e0,e1,?_⟩))
    show i64 _ = i64 _; simp
  · refine s_lt_f (by omega) (pC_false ?_)
    rw [F122_2_eq]
    suffices hs : ∀ ρ2 : Env,ρ2 0 = ptr K → ρ2 1 = dv → F122_2 k ρ2 w' from hs _ e0 e1
    intro ρ2 a0 a1
    unfold F122_2
    rw [a0,a1]
    have hi' : i = bb.length := by omega
    rw [hi',List.drop_eq_nil_of_le (Nat.le_refl _),List.append_nil] at ho
    obtain ⟨g,cap,cur,ev,hcap,hbase,hg,hcs,hcopy⟩ := own_copy (cs := i64s d) ho (by omega) (by simp [i64s]; omega)
    have hgb : sblk pv = some g := by rw [ev]; rfl
    have hgK := hbK hK' ho g hgb
    have hd' : SInts w' dv d := SInts.fr0 hd hf fun h0 b hb' e => hdn h0 b hb' e
    refine s_nil (fa51_1 (s_ldb (v := pv) (isAgg39 _) hK' rfl ?_))
    have hK2 := hK'
    rw [ev] at hK' ⊢
    refine s_copy usl39 (by kernel_rfl) hg hd' i64s_one (by rw [Nat.zero_add]; omega) fun w2 hg2 f2 z2 => ?_
    have hlen : (i64s d).length = d.length := by simp [i64s]
    rw [hlen] at hcopy
    have ho2 := hcopy w2 hg2
    have henc : i64s d ++ (i64s (List.replicate bb.length 77)).drop d.length = i64s (d ++ List.replicate (bb.length - d.length) 77) := by
      simp [i64s]
    rw [henc] at ho2
    have hK3 : w2.heap[K]? = some (.cells #[bv,pv] 51 (0,0)) := f2.get hK2 fun e => hgK e.symm
    rw [ev] at hK3 ho2
    have hd2 : SInts w2 dv d := SInts.fr0 hd' f2 fun h0 b hb' e => hdn h0 b hb' (by rw [ev,show b = g from e]; rfl)
    refine s_nil (fa51_1 (s_ldb (v := .slice (some ⟨g,0,none⟩) bb.length cap) (isAgg39 _) hK3 rfl (s_lenS usl39 hd2 ?_)))
    refine s_sl_h (i := (d.length : Int)) usl39 (sze39 _) (by omega) (by omega) ?_
    have hfront := Src.front (m := d.length) (Src.of_own ho2) (by omega)
    have htk : (i64s (d ++ List.replicate (bb.length - d.length) 77)).take (d.length * 1) = i64s d := by
      rw [Nat.mul_one]
      have : (d ++ List.replicate (bb.length - d.length) (77 : Int)).take d.length = d := by simp
      conv => rhs; rw [← this]
      simp [i64s]
    rw [htk] at hfront
    refine hk w2 _ (by rw [ev]; exact hK3) (by rw [ev]; exact ho2) hfront (fun b hb' => ?_) ?_
    · rw [ev]; exact hb'
    · exact hf.trans f2 fun b hb' => .inl (by rw [show b = g from hb']; exact hgb)
theorem c_lay {K:Nat} {bv pv dv:Value} {bb d:Bytes} (hK:w.heap[K]? = some (.cells #[bv,pv] 51 (0,0))) (hb:w.ownsRow 0 5 1 bv bb.length (u8s bb)) (hd:SBytes w dv d) (hdn:0 < d.length → ∀ b,sblk dv = some b → sblk bv ≠ some b ∧ b ≠ K) (hl:bb.length ≤ 1099511627776) (hdl:d.length ≤ 274877906944)
    (hk:∀ w' bv' v bb' n,w'.heap[K]? = some (.cells #[bv',pv] 51 (0,0)) → bb' = d ++ List.replicate n 171 → bb'.length ≤ max bb.length (2 * d.length + 40) → w'.ownsRow 0 5 1 bv' bb'.length (u8s bb') → SBytes w' v d → (∀ b,sblk v = some b → sblk bv' = some b) → Fr (fun b => b = K ∨ sblk bv = some b) w w' → (∀ b,sblk bv' = some b → sblk bv = some b ∨ w.heap.size ≤ b) → k v w') :
    pFn P 63 [ptr K,dv] w k := by
  refine F63_in _ _ _ _ ?_
  unfold F63_0
  refine s_nil (fa51_0 (s_ldb (v := bv) (isAgg36 _) hK rfl (s_lenS usl36 (Src.of_own hb) (s_lenS usl36 hd (s_add_in (by omega) ?_)))))
  by_cases hs : bb.length < d.length + 5
  · refine s_lt_t (by omega) (pC_true (s_lenS usl36 hd (s_mul ?_)))
    rw [wrap_in (by omega)]
    refine s_add_in (by omega) ?_
    refine s_mks (t := 36) (e := 5) (i := t5) (z := .int .u8 0) (by kernel_rfl) (by kernel_rfl) (by kernel_rfl) (by omega) (by show (1 : Int) * (2 * (d.length : Int) + 40) ≤ _; omega) (by omega) ?_
    have hN : (2 * (d.length : Int) + 40).toNat = 2 * d.length + 40 := by omega
    have hmc : madeCells (Value.int IntKind.u8 0).cells ((2 * (d.length : Int) + 40).toNat * t5.size) = (List.replicate (2 * d.length + 40) (.int .u8 0)).toArray := by
      rw [madeCells_one _ rfl,hN,show t5.size = 1 by kernel_rfl,Nat.mul_one]
    rw [hmc,hN]
    have b1 := alloc_new w (.cells (List.replicate (2 * d.length + 40) (.int .u8 0)).toArray 5)
    have f1 := Fr.alloc no w (.cells (List.replicate (2 * d.length + 40) (.int .u8 0)).toArray 5)
    have z1 : (w.alloc (.cells (List.replicate (2 * d.length + 40) (.int .u8 0)).toArray 5)).heap.size = w.heap.size + 1 := by simp
    generalize w.alloc (.cells (List.replicate (2 * d.length + 40) (.int .u8 0)).toArray 5) = w1 at *
    have ho1 := own_blk (base := 0) (size := 1) (n := 2 * d.length + 40) b1 (Nat.zero_le _) (by unfold maxLen; omega) (by simp)
    have hKw := lt_of_get hK
    refine s_nil (fa51_0 (s_st (sizeOf36 _) rfl rfl (f1.get hK id) (by show 0 < 2; decide) ?_))
    have b2 := set_same (f1.get hK id) 0 (.slice (some ⟨w.heap.size,0,none⟩) (2 * d.length + 40) (2 * d.length + 40))
    have f2 : Fr (fun b => b = K) w1 (w1.setCell ⟨K,0,none⟩ (.slice (some ⟨w.heap.size,0,none⟩) (2 * d.length + 40) (2 * d.length + 40))) := Fr.setCell w1 ⟨K,0,none⟩ _
    rw [F63_1_eq]
    unfold F63_1
    have ho2 := own_fr ho1 f2 fun b hb' (e:b = K) => by injection hb' with hb'; have : w.heap.size = b := hb'; omega
    have f02 : Fr (fun b => b = K) w (w1.setCell ⟨K,0,none⟩ (.slice (some ⟨w.heap.size,0,none⟩) (2 * d.length + 40) (2 * d.length + 40))) := (f1.mono fun b hb' => hb'.elim).trans f2 fun b => .inl
    show F63L1 k _ (w1.setCell ⟨K,0,none⟩ (.slice (some ⟨w.heap.size,0,none⟩) (2 * d.length + 40) (2 * d.length + 40)))
    generalize w1.setCell ⟨K,0,none⟩ (.slice (some ⟨w.heap.size,0,none⟩) (2 * d.length + 40) (2 * d.length + 40)) = w2 at *
    have hbl : ∀ b,sblk (.slice (some ⟨w.heap.size,0,none⟩) (2 * d.length + 40) (2 * d.length + 40)) = some b → b = w.heap.size := fun b hb' => by injection hb' with hb'; exact hb'.symm
    refine c_lay2 (bb := List.replicate (2 * d.length + 40) 0) (bv := .slice (some ⟨w.heap.size,0,none⟩) (2 * d.length + 40) (2 * d.length + 40)) (d := d) (pv := pv) b2 ?_ (SBytes.fr0 hd f02 fun h0 b hb' => (hdn h0 b hb').2) (fun h0 b hb' e => ?_) (by simp; omega) (by simp; omega) rfl rfl rfl fun w' v g1 g2 g3 g4 g5 => ?_
    · simpa [u8s] using ho2
    · have hbw := hbl b e
      have := Src.lt (size := 1) hd (by omega) h0 hb'
      omega
    · rw [List.length_replicate] at g2
      refine hk w' _ v _ (2 * d.length + 40 - d.length) g1 rfl (by simp; omega) ?_ g3 g4 (f02.mono (fun b hb' => .inl (.inl hb')) |>.trans g5 fun b hb' => .inr (Nat.le_of_eq (hbl b hb').symm)) fun b hb' => .inr (Nat.le_of_eq (hbl b hb').symm)
      have : (d ++ List.replicate (2 * d.length + 40 - d.length) (171 : UInt8)).length = 2 * d.length + 40 := by simp; omega
      rw [this]; simpa using g2
  · refine s_lt_f (by omega) (pC_false ?_)
    rw [F63_1_eq]
    unfold F63_1
    refine c_lay2 (bb := bb) (d := d) (bv := bv) (pv := pv) hK hb hd (fun h0 b hb' => (hdn h0 b hb').1) hl (by omega) rfl rfl rfl fun w' v g1 g2 g3 g4 g5 => ?_
    refine hk w' bv v _ (bb.length - d.length) g1 rfl (by simp; omega) ?_ g3 g4 (g5.mono fun b hb' => .inl (.inr hb')) fun b => .inl
    have : (d ++ List.replicate (bb.length - d.length) (171 : UInt8)).length = bb.length := by simp; omega
    rw [this]; exact g2
end
section
variable {W w w0:World} {k:KV} {v:Value} {l:FilesL}
def markB : ByteArray := ByteArray.mk #[109,97,114,107]
def fsOf (l:List FileA) : List FileA := l ++ List.replicate 5 (markB,[])
def rmRow (f:FileA) : Bytes := f.2 ++ List.replicate 5 171
abbrev RowsP := List (FileA × Nat)
def gCells (ps:RowsP) : List Value := ps.flatMap fun p => [.string p.1.1,.slice (some ⟨p.2,0,none⟩) p.1.2.length (p.1.2.length + 5)]
def rCells (ps:RowsP) : List Value := ps.map fun p => .slice (some ⟨p.2,0,none⟩) (p.1.2.length + 5) (p.1.2.length + 5)
def RowAt (w:World) (lo:Nat) (p:FileA × Nat) : Prop := lo ≤ p.2 ∧ w.heap[p.2]? = some (.cells (u8s (rmRow p.1)).toArray 5 (0,0))
structure Roomy (w:World) (lo:Nat) (gv rv:Value) (ps:RowsP) : Prop where
 given : ∃ G cap,gv = .slice (some ⟨G,0,none⟩) ps.length cap ∧ ps.length ≤ cap ∧ lo ≤ G ∧ w.heap[G]? = some (.cells (gCells ps).toArray 83 (0,0))
 rows : w.ownsRow lo 36 1 rv ps.length (rCells ps)
 row : ∀ p ∈ ps,RowAt w lo p
theorem gCells_len (ps:RowsP) : (gCells ps).length = ps.length * 2 := by
 unfold gCells
 induction ps with
 | nil => rfl
 | cons p r ih => rw [List.flatMap_cons,List.length_append,ih]; simp; omega
theorem fsOf_len (l:List FileA) : (fsOf l).length = l.length + 5 := by simp [fsOf]
theorem s_byteAt {v:Value} {bs:Bytes} (h:SBytes w v bs) {i:Nat} (hi:i < bs.length) {kk:Value → KV} (hk:∀ p,kk p (.int .u8 (bs[i].toNat : Int)) w) : px P (Instr.indexAt 36 v (i64 i)) w fun p w => px P (Instr.loadAt 5 p) w (kk p) :=
 s_elem usl36 (sze36 _) (isAgg5 _) h hi (by unfold u8s; simp [hi]) hk
theorem set_fill (d:Bytes) (n i:Nat) (x:UInt8) (cs:Bytes) (hc:cs.length = n) (hi:i < n) (ht:cs.take i = d) : (cs.set i x).take (i + 1) = d ++ [x] := by
 subst hc
 rw [List.take_succ_eq_append_getElem (by simpa using hi),List.getElem_set_self,List.take_set_of_le (Nat.le_refl _),ht]
theorem w_roomy2 {ρ0:Env} {w1:World} {N1:KE} {B i:Nat} {f:FileA} {len:Nat} (hf2:f.2.length ≤ 1099511627776) (hlen:len ≤ 1099511627776) (hi:i < len + 5)
    (hfi:(fsOf l.plain)[i]? = some f) (hll:l.length = len) (hv:FilesS W v l) (hW:Fr no W w1) (hB:W.heap.size ≤ B) (e0:ρ0 0 = v) (e6:ρ0 6 = i64 i) (e7:ρ0 7 = i64 f.2.length) (e8:ρ0 8 = .slice (some ⟨B,0,none⟩) (f.2.length + 5) (f.2.length + 5)) (e9:ρ0 9 = i64 0)
    (hb:∃ cs : Bytes,cs.length = f.2.length + 5 ∧ w1.heap[B]? = some (.cells (u8s cs).toArray 5 (0,0)))
    (hk:∀ (ρ:Env) w2,(∀ t,t ≠ 9 → t < 10 → ρ t = ρ0 t) → Fr (fun b => b = B) w1 w2 → w2.heap.size = w1.heap.size → w2.heap[B]? = some (.cells (u8s (rmRow f)).toArray 5 (0,0)) → F48_6 k N1 ρ w2) : F48L2 k N1 ρ0 w1 := by
  obtain ⟨cs0,hc0,hb0⟩ := hb
  refine F48L2_inv (m := f.2.length + 5) k N1 (fun m ρ w' => ∃ (j:Nat) (cs:Bytes),j + m = f.2.length + 5 ∧ cs.length = f.2.length + 5 ∧ cs.take j = (rmRow f).take j ∧ w'.heap[B]? = some (.cells (u8s cs).toArray 5 (0,0)) ∧ Fr (fun b => b = B) w1 w' ∧ w'.heap.size = w1.heap.size ∧ (∀ t,t ≠ 9 → t < 10 → ρ t = ρ0 t) ∧ ρ 9 = i64 j) ?_
    ⟨0,cs0,by omega,hc0,by simp,hb0,Fr.refl _ _,rfl,fun t _ _ => rfl,e9⟩
  rintro m ρ w' ⟨j,cs,hjm,hc,htk,hb,hf,hz,hρ,e9⟩
  rw [F48_4_eq]
  unfold F48_4
  have a0 : ρ 0 = v := (hρ 0 (by omega) (by omega)).trans e0
  have a6 : ρ 6 = i64 i := (hρ 6 (by omega) (by omega)).trans e6
  have a7 : ρ 7 = i64 f.2.length := (hρ 7 (by omega) (by omega)).trans e7
  have a8 := (hρ 8 (by omega) (by omega)).trans e8
  rw [a0,a6,a7,a8,e9]
  refine s_len usl36 ?_
  have hrl : (rmRow f).length = f.2.length + 5 := by simp [rmRow]
  by_cases hj : j < f.2.length + 5
  · refine s_lt_t (by omega) (pC_true (s_ixo usl36 (sze36 _) hj (s_st (sizeOf5 _) rfl rfl hb (by simp [u8s]; omega) ?_)))
    have hb1 := set_same hb j (.int .u8 171)
    have f1 : Fr (fun b => b = B) w' (w'.setCell ⟨B,j,none⟩ (.int .u8 171)) := Fr.setCell w' ⟨B,j,none⟩ _
    have z1 : (w'.setCell ⟨B,j,none⟩ (.int .u8 171)).heap.size = w'.heap.size := by simp [World.setCell]
    have e1 : (u8s cs).toArray.setIfInBounds j (.int .u8 171) = (u8s (cs.set j 171)).toArray := by
      have : Value.int .u8 171 = .int .u8 (((171 : UInt8).toNat : Nat) : Int) := rfl
      rw [this,← u8s_set]; simp
    rw [e1] at hb1
    show px P _ (w'.setCell ⟨B,j,none⟩ (.int .u8 171)) _
    generalize w'.setCell ⟨B,j,none⟩ (.int .u8 171) = w2 at *
    have hf12 : Fr (fun b => b = B) w1 w2 := hf.trans f1 fun b => .inl
    have done : ∀ (x:UInt8) (cs2:Bytes) (ρ':Env) (w3:World),cs2.length = f.2.length + 5 → cs2.take (j + 1) = (rmRow f).take (j + 1) → w3.heap[B]? = some (.cells (u8s cs2).toArray 5 (0,0)) → Fr (fun b => b = B) w1 w3 → w3.heap.size = w1.heap.size → (∀ t,t ≠ 9 → t < 10 → ρ' t = ρ0 t) → ρ' 9 = i64 j →
        F48_5 k N1 (fun ρ' w' => ∃ m',m' < m ∧ ∃ (j:Nat) (cs:Bytes),j + m' = f.2.length + 5 ∧ cs.length = f.2.length + 5 ∧ cs.take j = (rmRow f).take j ∧ w'.heap[B]? = some (.cells (u8s cs).toArray 5 (0,0)) ∧ Fr (fun b => b = B) w1 w' ∧ w'.heap.size = w1.heap.size ∧ (∀ t,t ≠ 9 → t < 10 → ρ' t = ρ0 t) ∧ ρ' 9 = i64 j) ρ' w3 := by
      intro x cs2 ρ' w3 h1 h2 h3 h4 h5 h6 h7
      unfold F48_5
      rw [h7]
      refine s_add_in (by omega) ⟨m - 1,by omega,j + 1,cs2,by omega,h1,h2,h3,h4,h5,?_,?_⟩
      · intro t ht ht2
        have e1 : t ≠ 50 := by omega
        have e2 : t ≠ 51 := by omega
        rw [put_ne _ _ _ _ ht,put_ne _ _ _ _ e2,put_ne _ _ _ _ e1]
        exact h6 t ht ht2
      · show i64 _ = i64 _; simp
    have hgr : (rmRow f).take (j + 1) = (rmRow f).take j ++ [(rmRow f)[j]] := List.take_succ_eq_append_getElem (by omega)
    have keep : ∀ (ρ':Env),(∀ t,t < 10 → ρ' t = ρ t) → (∀ t,t ≠ 9 → t < 10 → ρ' t = ρ0 t) := fun ρ' h t h1 h2 => (h t h2).trans (hρ t h1 h2)
    by_cases hjn : j < f.2.length
    · refine s_lt_t (by omega) (pC_true ?_)
      have hil : i < l.length := by
        rcases Nat.lt_or_ge i l.length with h | h
        · exact h
        · exfalso
          unfold fsOf at hfi
          have hpl : l.plain.length = l.length := by unfold FilesL.plain; simp
          rw [List.getElem?_append_right (by omega),List.getElem?_replicate] at hfi
          split at hfi
          · injection hfi with hfi; subst hfi; simp at hjn
          · cases hfi
      have hfe : l[i].1 = f := by
        have hpl : l.plain.length = l.length := by unfold FilesL.plain; simp
        unfold fsOf at hfi
        rw [List.getElem?_append_left (by omega)] at hfi
        unfold FilesL.plain at hfi
        rw [List.getElem?_map,List.getElem?_eq_getElem hil] at hfi
        injection hfi
      have fW2 : Fr no W w2 := hW.trans hf12 fun b hb => .inr (by omega)
      have hv2 := hv.fr fW2
      obtain ⟨b,o,c,ev,-,c1⟩ := hv2.at_ hil
      have hbs := hv2.all _ (List.getElem_mem hil)
      rw [hfe] at hbs
      rw [ev]
      refine s_ix (i := (i:Int)) usl71 (sze71 _) (by omega) (by omega) (fa83_1 (s_ld (v := l[i].2) (isAgg36 _) (by simpa using c1) ?_))
      refine s_byteAt hbs hjn fun q => ?_
      refine s_ixo usl36 (sze36 _) hj (s_st (sizeOf5 _) rfl rfl hb1 (by simp [u8s]; omega) ?_)
      have hb2 := set_same hb1 j (.int .u8 (f.2[j].toNat : Int))
      have f2 : Fr (fun b => b = B) w2 (w2.setCell ⟨B,j,none⟩ (.int .u8 (f.2[j].toNat : Int))) := Fr.setCell w2 ⟨B,j,none⟩ _
      have z2 : (w2.setCell ⟨B,j,none⟩ (.int .u8 (f.2[j].toNat : Int))).heap.size = w2.heap.size := by simp [World.setCell]
      have e2 : (u8s (cs.set j 171)).toArray.setIfInBounds j (.int .u8 (f.2[j].toNat : Int)) = (u8s ((cs.set j 171).set j f.2[j])).toArray := by
        rw [← u8s_set]; simp [u8s_set]
      rw [e2] at hb2
      rw [F48_5_eq]
      refine done f.2[j] _ _ _ (by simp; omega) ?_ hb2 (hf12.trans f2 fun b => .inl) (by omega) (keep _ fun t ht => ?_) e9
      · rw [set_fill ((rmRow f).take j) _ j _ (cs.set j 171) (by rw [List.length_set]; exact hc) hj (by rw [List.take_set_of_le (Nat.le_refl _),htk]),hgr]
        congr 2
        unfold rmRow
        rw [List.getElem_append_left hjn]
      · have n1 : ∀ u,46 ≤ u → t ≠ u := fun u h => by omega
        repeat rw [put_ne _ _ _ _ (n1 _ (by omega))]
    · refine s_lt_f (by omega) (pC_false ?_)
      rw [F48_5_eq]
      refine done 171 _ _ _ (by simp; omega) ?_ hb1 hf12 (by omega) (keep _ fun t ht => ?_) e9
      · rw [set_fill ((rmRow f).take j) _ j _ cs hc hj htk,hgr]
        congr 2
        unfold rmRow
        rw [List.getElem_append_right (by omega),List.getElem_replicate]
      · have n1 : ∀ u,46 ≤ u → t ≠ u := fun u h => by omega
        repeat rw [put_ne _ _ _ _ (n1 _ (by omega))]
  · refine s_lt_f (by omega) (pC_false ?_)
    rw [F48_6_eq]
    have hje : j = f.2.length + 5 := by omega
    subst hje
    rw [List.take_of_length_le (by omega),List.take_of_length_le (by omega)] at htk
    refine hk _ w' (fun t h1 h2 => ?_) hf hz (htk ▸ hb)
    have n1 : ∀ u,46 ≤ u → t ≠ u := fun u h => by omega
    repeat rw [put_ne _ _ _ _ (n1 _ (by omega))]
    exact hρ t h1 h2
end
section
variable {W w w0:World} {k:KV} {v:Value} {l:FilesL}
theorem gCells_snoc (ps:RowsP) (f:FileA) (B:Nat) : gCells (ps ++ [(f,B)]) = gCells ps ++ [.string f.1,.slice (some ⟨B,0,none⟩) f.2.length (f.2.length + 5)] := by
 unfold gCells; rw [List.flatMap_append]; rfl
theorem rCells_snoc (ps:RowsP) (f:FileA) (B:Nat) : rCells (ps ++ [(f,B)]) = rCells ps ++ [.slice (some ⟨B,0,none⟩) (f.2.length + 5) (f.2.length + 5)] := by
 unfold rCells; rw [List.map_append]; rfl
theorem RowAt.fr {M:Nat → Prop} {w w':World} {lo:Nat} {p:FileA × Nat} (h:RowAt w lo p) (hf:Fr M w w') (hm:¬ M p.2) : RowAt w' lo p := ⟨h.1,hf.get h.2 hm⟩
theorem set_take2 {cs:List Value} {i n:Nat} (hc:cs.length = n * 2) (hi:i < n) (a b c:Value) : ((((cs.set (i * 2) a).set (i * 2) b).set (i * 2 + 1) c).take ((i + 1) * 2)) = cs.take (i * 2) ++ [b,c] := by
 have h1 : ((((cs.set (i * 2) a).set (i * 2) b).set (i * 2 + 1) c)).length = n * 2 := by simp [hc]
 apply List.ext_getElem?
 intro j
 rcases Nat.lt_or_ge j (i * 2) with h | h
 ·rw [List.getElem?_take_of_lt (by omega),List.getElem?_append_left (by simp; omega),List.getElem?_take_of_lt h,List.getElem?_set_ne (by omega),List.getElem?_set_ne (by omega),List.getElem?_set_ne (by omega)]
 ·rw [List.getElem?_append_right (by simp; omega)]
  have hl : (cs.take (i * 2)).length = i * 2 := by simp; omega
  rw [hl]
  rcases Nat.lt_or_ge j ((i + 1) * 2) with h2 | h2
  ·rw [List.getElem?_take_of_lt h2]
   have : j = i * 2 ∨ j = i * 2 + 1 := by omega
   rcases this with rfl | rfl
   ·rw [List.getElem?_set_ne (by omega),List.getElem?_set_self (by simp; omega)]; simp
   ·rw [List.getElem?_set_self (by simp; omega)]; simp
  ·rw [List.getElem?_eq_none (by simp; omega),List.getElem?_eq_none (by simp; omega)]
theorem fsOf_at (l:List FileA) {i:Nat} (hi:i < l.length + 5) : ∃ f,(fsOf l)[i]? = some f ∧ (∀ h : i < l.length,f = l[i]) ∧ (l.length ≤ i → f = (markB,[])) := by
 unfold fsOf
 rcases Nat.lt_or_ge i l.length with h | h
 ·exact ⟨l[i],by rw [List.getElem?_append_left h,List.getElem?_eq_getElem h],fun _ => rfl,fun h' => absurd h (by omega)⟩
 ·refine ⟨(markB,[]),?_,fun h' => absurd h' (by omega),fun _ => rfl⟩
  rw [List.getElem?_append_right h,List.getElem?_replicate,if_pos (by omega)]
theorem w_roomyRest {i:Nat} {ps:RowsP} {cs cs3:Array Value} {f:FileA} {ρ ρ':Env} {w w3:World} {N1:KE} (hv:FilesS W v l) (hl:l.length ≤ 100000) (hfl:f.2.length ≤ 100000) (hi:i < l.length + 5) (hfi:(fsOf l.plain)[i]? = some f)
    (hps:ps.map (·.1) = (fsOf l.plain).take i) (hG:w.heap[W.heap.size]? = some (.cells cs 83 (0,0))) (htk:cs.toList.take (i * 2) = gCells ps) (hrow:w.ownsRow W.heap.size 36 1 (ρ 4) i (rCells ps)) (hat:∀ p ∈ ps,RowAt w W.heap.size p) (hf:Fr no W w)
    (hc3:cs3.size = (l.length + 5) * 2) (hG3:w3.heap[W.heap.size]? = some (.cells cs3 83 (0,0))) (hset3:∀ u,(cs3.toList.set (i * 2 + 1) u).take ((i + 1) * 2) = cs.toList.take (i * 2) ++ [.string f.1,u]) (hf3:Fr (fun b => b = W.heap.size) w w3) (hz3:w3.heap.size = w.heap.size)
    (a0:ρ' 0 = v) (a4:ρ' 4 = ρ 4) (a5:ρ' 5 = .slice (some ⟨W.heap.size,0,none⟩) (l.length + 5) (l.length + 5)) (a6:ρ' 6 = i64 i) (a7:ρ' 7 = i64 f.2.length)
    (hN:∀ (ρ':Env) (w':World) (ps:RowsP) (cs:Array Value),ps.map (·.1) = (fsOf l.plain).take (i + 1) → cs.size = (l.length + 5) * 2 → w'.heap[W.heap.size]? = some (.cells cs 83 (0,0)) → cs.toList.take ((i + 1) * 2) = gCells ps →
      w'.ownsRow W.heap.size 36 1 (ρ' 4) (i + 1) (rCells ps) → (∀ p ∈ ps,RowAt w' W.heap.size p) → Fr no W w' → ρ' 0 = v → ρ' 5 = .slice (some ⟨W.heap.size,0,none⟩) (l.length + 5) (l.length + 5) → ρ' 6 = i64 (i + 1 : Nat) → N1 ρ' w') : F48_2 k N1 ρ' w3 := by
  have hfz := hf.size
  unfold F48_2
  rw [a7]
  refine s_add_in (by omega) ?_
  refine s_mks (t := 36) (e := 5) (i := t5) (z := .int .u8 0) (by kernel_rfl) (by kernel_rfl) (by kernel_rfl) (by omega) (by show (1 : Int) * ((f.2.length : Int) + 5) ≤ _; omega) (by omega) ?_
  have hNf : ((f.2.length : Int) + 5).toNat = f.2.length + 5 := by omega
  have hsz1 : t5.size = 1 := by kernel_rfl
  rw [hNf,hsz1,Nat.mul_one,madeCells_one _ rfl]
  have e0s : (List.replicate (f.2.length + 5) (Value.int .u8 0)).toArray = (u8s (List.replicate (f.2.length + 5) 0)).toArray := by simp [u8s]
  rw [e0s]
  have bB := alloc_new w3 (.cells (u8s (List.replicate (f.2.length + 5) 0)).toArray 5)
  have fB := Fr.alloc no w3 (.cells (u8s (List.replicate (f.2.length + 5) 0)).toArray 5)
  have zB : (w3.alloc (.cells (u8s (List.replicate (f.2.length + 5) 0)).toArray 5)).heap.size = w3.heap.size + 1 := by simp
  generalize w3.alloc (.cells (u8s (List.replicate (f.2.length + 5) 0)).toArray 5) = w4 at *
  have fW3 : Fr no W w3 := hf.trans hf3 fun b hb => .inr (by omega)
  have fW4 : Fr no W w4 := fW3.trans fB fun b hb => .inl hb
  refine w_roomy2 (W := W) (v := v) (l := l) (B := w3.heap.size) (i := i) (f := f) (len := l.length) (by omega) (by omega) hi hfi rfl hv fW4 (by omega) a0 a6 a7 rfl rfl ⟨_,by simp,bB⟩ fun ρ2 w5 hρ f5 z5 hb5 => ?_
  have b0 : ρ2 0 = v := (hρ 0 (by omega) (by omega)).trans a0
  have b4 : ρ2 4 = ρ 4 := (hρ 4 (by omega) (by omega)).trans a4
  have b5 : ρ2 5 = .slice (some ⟨W.heap.size,0,none⟩) (l.length + 5) (l.length + 5) := (hρ 5 (by omega) (by omega)).trans a5
  have b6 : ρ2 6 = i64 i := (hρ 6 (by omega) (by omega)).trans a6
  have b7 : ρ2 7 = i64 f.2.length := (hρ 7 (by omega) (by omega)).trans a7
  have b8 : ρ2 8 = .slice (some ⟨w3.heap.size,0,none⟩) (f.2.length + 5) (f.2.length + 5) := hρ 8 (by omega) (by omega)
  unfold F48_6
  rw [b4,b5,b6,b7,b8]
  refine s_sl_h (i := (f.2.length : Int)) usl36 (sze36 _) (by omega) (by omega) ?_
  have hW3 : W.heap.size < w3.heap.size := lt_of_get hG3
  have hG5 : w5.heap[W.heap.size]? = some (.cells cs3 83 (0,0)) := f5.get (fB.get hG3 id) (by omega)
  refine s_ix (i := (i:Int)) usl71 (sze71 _) (by omega) (by omega) (fa83_1 ?_)
  refine s_st (sizeOf36 _) rfl rfl hG5 (by simp; omega) ?_
  have hG6 := set_same hG5 (0 + ((i:Int)).toNat * 2 + 1) (.slice (some ⟨w3.heap.size,0,none⟩) f.2.length (f.2.length + 5))
  have f6 : Fr (fun b => b = W.heap.size) w5 (w5.setCell ⟨W.heap.size,0 + ((i:Int)).toNat * 2 + 1,none⟩ (.slice (some ⟨w3.heap.size,0,none⟩) f.2.length (f.2.length + 5))) := Fr.setCell w5 ⟨W.heap.size,0 + ((i:Int)).toNat * 2 + 1,none⟩ _
  have z6 : (w5.setCell ⟨W.heap.size,0 + ((i:Int)).toNat * 2 + 1,none⟩ (.slice (some ⟨w3.heap.size,0,none⟩) f.2.length (f.2.length + 5))).heap.size = w5.heap.size := by simp [World.setCell]
  show px P _ (w5.setCell ⟨W.heap.size,0 + ((i:Int)).toNat * 2 + 1,none⟩ (.slice (some ⟨w3.heap.size,0,none⟩) f.2.length (f.2.length + 5))) _
  generalize w5.setCell ⟨W.heap.size,0 + ((i:Int)).toNat * 2 + 1,none⟩ (.slice (some ⟨w3.heap.size,0,none⟩) f.2.length (f.2.length + 5)) = w6 at *
  have hGty : ∀ {b:Nat} {c:Array Value} {T:TypeId} {fr},w.heap[b]? = some (.cells c T fr) → T ≠ 83 → ¬ b = W.heap.size := by
    rintro b c T fr hb hT rfl
    exact hT (two_types hb hG)
  have f36 : Fr (fun b => b = W.heap.size) w3 w6 := ((fB.mono fun b hb => hb.elim).trans f5 fun b hb => .inr (by omega)).trans f6 fun b hb => .inl hb
  have fw6 : Fr (fun b => b = W.heap.size) w w6 := hf3.trans f36 fun b => .inl
  have hrow6 : w6.ownsRow W.heap.size 36 1 (ρ 4) i (rCells ps) := own_fr hrow fw6 fun b hb => by obtain ⟨c,hc⟩ := own_obj hrow hb; exact hGty hc (by decide)
  refine pl93 hrow6 rfl (by intro u hu; simp at hu; subst hu; rfl) (by omega) (by omega) fun u7 v7 w7 h7 f7 hb7 => s_add_in (by omega) ?_
  have hRne : ∀ {b:Nat} {c:Array Value} {T:TypeId} {fr},w6.heap[b]? = some (.cells c T fr) → T ≠ 36 → ¬ some b = sblk (ρ 4) := by
    rintro b c T fr hb hT e
    obtain ⟨c',hc'⟩ := own_obj hrow6 e.symm
    exact hT (two_types hb hc')
  refine hN _ _ (ps ++ [(f,w3.heap.size)]) _ ?_ ?_ (f7.get hG6 (hRne hG6 (by decide))) ?_ ?_ ?_ ?_ b0 b5 ?_
  · rw [List.map_append,hps,List.take_add_one,hfi]; rfl
  · simp [hc3]
  · rw [Array.toList_setIfInBounds]
    have e1 : 0 + ((i:Int)).toNat * 2 + 1 = i * 2 + 1 := by omega
    rw [e1,hset3,htk,gCells_snoc]
  · rw [rCells_snoc]; exact h7
  · intro p hp
    rcases List.mem_append.1 hp with hp | hp
    · have := (hat p hp).fr fw6 (hGty (hat p hp).2 (by decide))
      exact this.fr f7 (hRne this.2 (by decide))
    · rw [List.mem_singleton.1 hp]
      have h6 : w6.heap[w3.heap.size]? = some (.cells (u8s (rmRow f)).toArray 5 (0,0)) := f6.get hb5 (by omega)
      exact ⟨by show W.heap.size ≤ w3.heap.size; omega,f7.get h6 (hRne h6 (by decide))⟩
  · have : Fr no W w6 := hf.trans fw6 fun b hb => .inr (by omega)
    exact this.trans f7 fun b hb => .inr (own_blk_lt hrow6 hb.symm).1
  · show i64 _ = i64 _; simp
set_option maxHeartbeats 1000000 in
theorem c_roomy (hv:FilesS W v l) (hl:l.length ≤ 100000) (hd:∀ p ∈ l,p.1.2.length ≤ 100000) (hk:∀ w' gv rv ps,Roomy w' W.heap.size gv rv ps → ps.map (·.1) = fsOf l.plain → Fr no W w' → k (.tuple #[gv,rv]) w') : pFn P 48 [v] W k := by
  have hpl : l.plain.length = l.length := by unfold FilesL.plain; simp
  refine F48_in _ _ _ ?_
  unfold F48_0
  refine s_lenS usl71 hv.src (s_add_in (by omega) ?_)
  refine s_mks (t := 71) (e := 83) (i := t83) (z := .agg #[.string .empty,.slice none 0 0]) (by kernel_rfl) (by kernel_rfl) (by kernel_rfl) (by omega) (by show (40 : Int) * ((l.length : Int) + 5) ≤ _; omega) (by omega) ?_
  have hN : ((l.length : Int) + 5).toNat = l.length + 5 := by omega
  rw [hN]
  have hsz2 : t83.size = 2 := by kernel_rfl
  have bG0 := alloc_new W (.cells (madeCells (Value.agg #[.string .empty,.slice none 0 0]).cells ((l.length + 5) * t83.size)) 83)
  have fG := Fr.alloc no W (.cells (madeCells (Value.agg #[.string .empty,.slice none 0 0]).cells ((l.length + 5) * t83.size)) 83)
  have zG : (W.alloc (.cells (madeCells (Value.agg #[.string .empty,.slice none 0 0]).cells ((l.length + 5) * t83.size)) 83)).heap.size = W.heap.size + 1 := by simp
  generalize W.alloc (.cells (madeCells (Value.agg #[.string .empty,.slice none 0 0]).cells ((l.length + 5) * t83.size)) 83) = w1 at *
  have bG : ∃ cs : Array Value,cs.size = (l.length + 5) * 2 ∧ w1.heap[W.heap.size]? = some (.cells cs 83 (0,0)) := ⟨_,by rw [hsz2]; simp [madeCells],bG0⟩
  clear bG0
  refine F48L1_inv (m := l.length + 5) k (fun m ρ w => ∃ (i:Nat) (ps:RowsP) (cs:Array Value),i + m = l.length + 5 ∧ ps.map (·.1) = (fsOf l.plain).take i ∧ cs.size = (l.length + 5) * 2 ∧ w.heap[W.heap.size]? = some (.cells cs 83 (0,0)) ∧ cs.toList.take (i * 2) = gCells ps ∧
      w.ownsRow W.heap.size 36 1 (ρ 4) i (rCells ps) ∧ (∀ p ∈ ps,RowAt w W.heap.size p) ∧ Fr no W w ∧ ρ 0 = v ∧ ρ 5 = .slice (some ⟨W.heap.size,0,none⟩) (l.length + 5) (l.length + 5) ∧ ρ 6 = i64 i) ?_ ?_
  · rintro m ρ w ⟨i,ps,cs,him,hps,hcs,hG,htk,hrow,hat,hf,e0,e5,e6⟩
    rw [F48_1_eq]
    unfold F48_1
    rw [e0,e5,e6]
    refine s_len usl71 ?_
    have hpsl : ps.length = i := by have := congrArg List.length hps; simp [fsOf_len] at this; omega
    by_cases hi : i < l.length + 5
    · obtain ⟨f,hfi,hf1,hf2⟩ := fsOf_at l.plain (i := i) (by omega)
      have hfl : f.2.length ≤ 100000 := by
        rcases Nat.lt_or_ge i l.length with h | h
        · rw [hf1 (by omega)]
          have : l.plain[i]'(by omega) = l[i].1 := by unfold FilesL.plain; simp
          rw [this]; exact hd _ (List.getElem_mem h)
        · rw [hf2 (by omega)]; simp
      refine s_lt_t (by omega) (pC_true (s_ix (i := (i:Int)) usl71 (sze71 _) (by omega) (by omega) (fa83_0 ?_)))
      refine s_st (sizeOf9 _) rfl rfl hG (by simp; omega) ?_
      have hG1 := set_same hG (0 + ((i:Int)).toNat * 2 + 0) (.string markB)
      have f1 : Fr (fun b => b = W.heap.size) w (w.setCell ⟨W.heap.size,0 + ((i:Int)).toNat * 2 + 0,none⟩ (.string markB)) := Fr.setCell w ⟨W.heap.size,0 + ((i:Int)).toNat * 2 + 0,none⟩ _
      have z1 : (w.setCell ⟨W.heap.size,0 + ((i:Int)).toNat * 2 + 0,none⟩ (.string markB)).heap.size = w.heap.size := by simp [World.setCell]
      show px P _ (w.setCell ⟨W.heap.size,0 + ((i:Int)).toNat * 2 + 0,none⟩ (.string markB)) _
      generalize w.setCell ⟨W.heap.size,0 + ((i:Int)).toNat * 2 + 0,none⟩ (.string markB) = w2 at *
      have hfz := hf.size
      have fW2 : Fr no W w2 := hf.trans f1 fun b hb => .inr (by omega)
      refine s_lenS usl71 (hv.fr fW2).src ?_
      have e1 : 0 + ((i:Int)).toNat * 2 + 0 = i * 2 := by omega
      rw [e1] at hG1
      have hcl : cs.toList.length = (l.length + 5) * 2 := by simpa using hcs
      by_cases hil : i < l.length
      · have hfe : f = l[i].1 := by rw [hf1 (by omega)]; unfold FilesL.plain; simp
        obtain ⟨b,o,c,ev,c0,c1⟩ := (hv.fr fW2).at_ hil
        refine s_lt_t (by omega) (pC_true ?_)
        rw [ev]
        refine s_ix (i := (i:Int)) usl71 (sze71 _) (by omega) (by omega) (fa83_0 (s_ld (v := .string l[i].1.1) (isAgg9 _) (by simpa using c0) ?_))
        refine s_ix (i := (i:Int)) usl71 (sze71 _) (by omega) (by omega) (fa83_0 ?_)
        refine s_st (sizeOf9 _) rfl rfl hG1 (by simp; omega) ?_
        have hG2 := set_same hG1 (0 + ((i:Int)).toNat * 2 + 0) (.string l[i].1.1)
        have f2 : Fr (fun b => b = W.heap.size) w2 (w2.setCell ⟨W.heap.size,0 + ((i:Int)).toNat * 2 + 0,none⟩ (.string l[i].1.1)) := Fr.setCell w2 ⟨W.heap.size,0 + ((i:Int)).toNat * 2 + 0,none⟩ _
        have z2 : (w2.setCell ⟨W.heap.size,0 + ((i:Int)).toNat * 2 + 0,none⟩ (.string l[i].1.1)).heap.size = w2.heap.size := by simp [World.setCell]
        show px P _ (w2.setCell ⟨W.heap.size,0 + ((i:Int)).toNat * 2 + 0,none⟩ (.string l[i].1.1)) _
        generalize w2.setCell ⟨W.heap.size,0 + ((i:Int)).toNat * 2 + 0,none⟩ (.string l[i].1.1) = w3 at *
        rw [e1] at hG2
        have f12 : Fr (fun b => b = W.heap.size) w w3 := f1.trans f2 fun b => .inl
        have fW3 : Fr no W w3 := hf.trans f12 fun b hb => .inr (by omega)
        obtain ⟨b',o',c',ev',c0',c1'⟩ := (hv.fr fW3).at_ hil
        rw [← ev,ev']
        refine s_ix (i := (i:Int)) usl71 (sze71 _) (by omega) (by omega) (fa83_1 (s_ld (v := l[i].2) (isAgg36 _) (by simpa using c1') ?_))
        refine s_lenS usl36 ((hv.fr fW3).all _ (List.getElem_mem hil)) ?_
        rw [F48_2_eq]
        refine w_roomyRest (N1 := _) hv hl hfl hi hfi hps hG htk hrow hat hf (by simp [hcs]) hG2 (fun u => ?_) f12 (by omega) e0 rfl e5 e6 ?_ (fun ρ' w' ps cs h1 h2 h3 h4 h5 h6 h7 h8 h9 h10 => ⟨m - 1,by omega,i + 1,ps,cs,by omega,h1,h2,h3,h4,h5,h6,h7,h8.trans ev',h9,h10⟩)
        · rw [Array.toList_setIfInBounds,Array.toList_setIfInBounds,set_take2 hcl hi,hfe]
        · show i64 _ = i64 _; rw [hfe]
      · have hfe : f = (markB,[]) := hf2 (by omega)
        refine s_lt_f (by omega) (pC_false ?_)
        rw [F48_2_eq]
        refine w_roomyRest (N1 := _) hv hl hfl hi hfi hps hG htk hrow hat hf (by simp [hcs]) hG1 (fun u => ?_) f1 (by omega) e0 rfl e5 e6 ?_ (fun ρ' w' ps cs h1 h2 h3 h4 h5 h6 h7 h8 h9 h10 => ⟨m - 1,by omega,i + 1,ps,cs,by omega,h1,h2,h3,h4,h5,h6,h7,h8,h9,h10⟩)
        · have := set_take2 hcl hi (.string markB) (.string markB) u
          rw [List.set_set] at this
          rw [Array.toList_setIfInBounds,this,hfe]
        · show i64 _ = i64 _; rw [hfe]; rfl
    · refine s_lt_f (by omega) (pC_false ?_)
      rw [F48_3_eq]
      suffices hs : ∀ ρ2 : Env,ρ2 4 = ρ 4 → ρ2 5 = .slice (some ⟨W.heap.size,0,none⟩) (l.length + 5) (l.length + 5) → F48_3 k ρ2 w from hs _ rfl e5
      intro ρ2 a4 a5
      unfold F48_3
      rw [a4,a5]
      have hie : i = l.length + 5 := by omega
      subst hie
      rw [List.take_of_length_le (by simp; omega)] at htk
      refine hk w _ _ ps ⟨⟨W.heap.size,l.length + 5,by rw [hpsl],by omega,Nat.le_refl _,by rw [hG,← htk]⟩,by rw [hpsl]; exact hrow,hat⟩ ?_ hf
      rw [hps,List.take_of_length_le (by rw [fsOf_len]; omega)]
  · obtain ⟨cs,hcs,hG⟩ := bG
    exact ⟨0,[],cs,by omega,by simp,hcs,hG,by simp [gCells],⟨rfl,.inl ⟨rfl,rfl⟩⟩,by simp,fG,rfl,rfl,rfl⟩
end
section
variable {W w w0:World} {k:KV} {v gv rv:Value} {l:FilesL} {ps:RowsP} {lo:Nat}
theorem Roomy.fr {w':World} (h:Roomy w lo gv rv ps) (hf:Fr no w w') : Roomy w' lo gv rv ps := by
 obtain ⟨⟨G,cap,e,hc,hlo,hG⟩,h2,h3⟩ := h
 exact ⟨⟨G,cap,e,hc,hlo,hf.get hG id⟩,own_fr h2 hf fun _ _ => id,fun p hp => (h3 p hp).fr hf id⟩
theorem gCells_at {i:Nat} (hi:i < ps.length) : (gCells ps)[i * 2]? = some (.string ps[i].1.1) ∧ (gCells ps)[i * 2 + 1]? = some (.slice (some ⟨ps[i].2,0,none⟩) ps[i].1.2.length (ps[i].1.2.length + 5)) := by
 have key := fun j (hj:j < 2) => flatAt (f := fun p : FileA × Nat => [Value.string p.1.1,.slice (some ⟨p.2,0,none⟩) p.1.2.length (p.1.2.length + 5)]) (n := 2) (fun _ => rfl) (l := ps) (i := i) (j := j) (a := ps[i]) (by simp [hi]) hj
 exact ⟨by have := key 0 (by omega); simpa [gCells] using this,by have := key 1 (by omega); simpa [gCells] using this⟩
theorem rCells_at {i:Nat} (hi:i < ps.length) : (rCells ps)[i]? = some (.slice (some ⟨ps[i].2,0,none⟩) (ps[i].1.2.length + 5) (ps[i].1.2.length + 5)) := by unfold rCells; simp [hi]
theorem RowAt.whole {p:FileA × Nat} (h:RowAt w lo p) : SBytes w (.slice (some ⟨p.2,0,none⟩) (p.1.2.length + 5) (p.1.2.length + 5)) (rmRow p.1) := by
 have hl : (rmRow p.1).length = p.1.2.length + 5 := by simp [rmRow]
 have := SBytes.blk (c := p.1.2.length + 5) h.2 (by omega)
 rw [hl] at this; exact this
theorem RowAt.front {p:FileA × Nat} (h:RowAt w lo p) : SBytes w (.slice (some ⟨p.2,0,none⟩) p.1.2.length (p.1.2.length + 5)) p.1.2 := by
 have hl : (rmRow p.1).length = p.1.2.length + 5 := by simp [rmRow]
 have h1 := SBytes.blk (c := p.1.2.length + 5) h.2 (by omega)
 have h2 := SBytes.front (m := p.1.2.length) h1 (by omega)
 have e : (rmRow p.1).take p.1.2.length = p.1.2 := by unfold rmRow; simp
 rw [e] at h2; exact h2
theorem w_left2 {ρ0:Env} {w1:World} {N1:KE} {i:Nat} (hR:Roomy w1 lo gv rv ps) (hi:i < ps.length) (hd:ps[i].1.2.length ≤ 100000) (e1:ρ0 1 = rv) (e7:ρ0 7 = i64 i) (e9:ρ0 9 = i64 ps[i].1.2.length)
    (hk:∀ (ρ:Env),(∀ t,t < 9 → ρ t = ρ0 t) → F51_4 k N1 ρ w1) : F51L2 k N1 ρ0 w1 := by
  refine F51L2_inv (m := 5) k N1 (fun m ρ w' => ∃ j : Nat,j + m = 5 ∧ w' = w1 ∧ (∀ t,t < 9 → ρ t = ρ0 t) ∧ ρ 9 = i64 (ps[i].1.2.length + j : Nat)) ?_
    ⟨0,by omega,rfl,fun _ _ => rfl,e9⟩
  rintro m ρ w' ⟨j,hjm,rfl,hρ,e9⟩
  rw [F51_2_eq]
  unfold F51_2
  rw [(hρ 1 (by omega)).trans e1,(hρ 7 (by omega)).trans e7,e9]
  have hat := hR.row _ (List.getElem_mem hi)
  refine s_elem usl93 (sze93 _) (isAgg36 _) (Src.of_own hR.rows) hi (rCells_at hi) fun q => ?_
  refine s_len usl36 ?_
  have n1 : ∀ t u,t < 9 → 90 ≤ u → t ≠ u := fun t u h h' => by omega
  by_cases hj : j < 5
  · refine s_lt_t (by omega) (pC_true ?_)
    refine s_elem usl93 (sze93 _) (isAgg36 _) (Src.of_own hR.rows) hi (rCells_at hi) fun q => ?_
    have hl : (rmRow ps[i].1).length = ps[i].1.2.length + 5 := by simp [rmRow]
    refine s_byteAt hat.whole (by omega) fun q => ?_
    have he : (rmRow ps[i].1)[ps[i].1.2.length + j]'(by omega) = 171 := by
      unfold rmRow; rw [List.getElem_append_right (by omega),List.getElem_replicate]
    rw [he]
    refine s_nei_f (by decide) (pC_false (s_add_in (by omega) ⟨m - 1,by omega,j + 1,by omega,rfl,fun t ht => ?_,?_⟩))
    · have e : t ≠ 9 := by omega
      rw [put_ne _ _ _ _ e]
      repeat rw [put_ne _ _ _ _ (n1 _ _ ht (by omega))]
      exact hρ t ht
    · show i64 _ = i64 _; congr 1; try omega
  · refine s_lt_f (by omega) (pC_false ?_)
    rw [F51_4_eq]
    refine hk _ fun t ht => ?_
    repeat rw [put_ne _ _ _ _ (n1 _ _ ht (by omega))]
    exact hρ t ht
set_option maxHeartbeats 2000000 in
theorem c_lleft (hR:Roomy w lo gv rv ps) (hps:ps.map (·.1) = fsOf l.plain) (hv:FilesS w v l) (hl:l.length ≤ 100000) (hd:∀ p ∈ l,p.1.2.length ≤ 100000) (hk:∀ w',Fr no w w' → k (.bool true) w') : pFn P 51 [gv,rv,v] w k := by
  have hpl : l.plain.length = l.length := by unfold FilesL.plain; simp
  have hN : ps.length = l.length + 5 := by have := congrArg List.length hps; simpa [fsOf_len,hpl] using this
  have hpi : ∀ i (hi:i < ps.length),(fsOf l.plain)[i]? = some ps[i].1 := fun i hi => by rw [← hps]; simp [hi]
  refine F51_in _ _ _ _ _ ?_
  unfold F51_0
  refine F51L1_inv (m := ps.length) k (fun m ρ w' => ∃ i : Nat,i + m = ps.length ∧ Fr no w w' ∧ ρ 0 = gv ∧ ρ 1 = rv ∧ ρ 2 = v ∧ ρ 7 = i64 i) ?_
    ⟨0,by omega,Fr.refl _ _,rfl,rfl,rfl,rfl⟩
  rintro m ρ w' ⟨i,him,hf,e0,e1,e2,e7⟩
  rw [F51_1_eq]
  unfold F51_1
  have hR' := hR.fr hf
  obtain ⟨G,cap,egv,hcap,hlo,hG⟩ := id hR'.given
  rw [e0,e1,e2,e7,egv]
  refine s_len usl71 ?_
  by_cases hi : i < ps.length
  · obtain ⟨f,hfi,hf1,hf2⟩ := fsOf_at l.plain (i := i) (by omega)
    have hfe : ps[i].1 = f := by have := hpi i hi; rw [hfi] at this; injection this with this; exact this.symm
    have hfl : f.2.length ≤ 100000 := by
      rcases Nat.lt_or_ge i l.length with h | h
      · rw [hf1 (by omega)]
        have : l.plain[i]'(by omega) = l[i].1 := by unfold FilesL.plain; simp
        rw [this]; exact hd _ (List.getElem_mem h)
      · rw [hf2 (by omega)]; simp
    have hpl2 : ps[i].1.2.length ≤ 100000 := by rw [hfe]; exact hfl
    refine s_lt_t (by omega) (pC_true ?_)
    refine s_elem usl93 (sze93 _) (isAgg36 _) (Src.of_own hR'.rows) hi (rCells_at hi) fun q => ?_
    refine s_len usl36 (s_sub_in (by omega) ?_)
    have hn5 : ((ps[i].1.2.length + 5 : Nat) : Int) - 5 = (ps[i].1.2.length : Int) := by omega
    rw [hn5]
    have hR1 := hR'.fr (Fr.drew no w')
    have hv1 := (hv.fr hf).fr (Fr.drew no w')
    have hf1' := hf.trans (Fr.drew no w') fun b hb => .inl hb
    generalize w'.drew = w1 at *
    have rG : ∀ u,Fr no w1 u → u.heap[G]? = some (.cells (gCells ps).toArray 83 (0,0)) := fun u hu => by
      obtain ⟨G',cap',e',_,_,hG'⟩ := (hR1.fr hu).given
      rw [egv] at e'; injection e' with e' ; injection e' with e'; injection e' with e'; subst e'; exact hG'
    have c0 : ∀ u,Fr no w1 u → u.cell? ⟨G,0 + i * 2,none⟩ = some (.string ps[i].1.1) := fun u hu => cell_blk (rG u hu) (by simpa using (gCells_at hi).1)
    have c1 : ∀ u,Fr no w1 u → u.cell? ⟨G,0 + i * 2 + 1,none⟩ = some (.slice (some ⟨ps[i].2,0,none⟩) ps[i].1.2.length (ps[i].1.2.length + 5)) := fun u hu => cell_blk (rG u hu) (by simpa using (gCells_at hi).2)
    have fin : ∀ (N:KE) (ρ2:Env) (w2:World),Fr no w1 w2 → ρ2 0 = .slice (some ⟨G,0,none⟩) ps.length cap → ρ2 1 = rv → ρ2 2 = v → ρ2 7 = i64 i → ρ2 9 = i64 ps[i].1.2.length →
        (∀ (ρ':Env) (w':World),Fr no w w' → ρ' 0 = .slice (some ⟨G,0,none⟩) ps.length cap → ρ' 1 = rv → ρ' 2 = v → ρ' 7 = i64 (i + 1 : Nat) → N ρ' w') → F51L2 k N ρ2 w2 := by
      intro N ρ2 w2 g a0 a1 a2 a7 a9 hN
      refine w_left2 (hR1.fr g) hi (by rw [hfe]; exact hfl) a1 a7 a9 fun ρ3 h3 => ?_
      unfold F51_4
      rw [(h3 7 (by omega)).trans a7]
      refine s_add_in (by omega) (hN _ _ (hf1'.trans g fun b hb => .inl hb) ((h3 0 (by omega)).trans a0) ((h3 1 (by omega)).trans a1) ((h3 2 (by omega)).trans a2) ?_)
      show i64 _ = i64 _; simp
    refine ⟨fun u => Fr no w1 u,Fr.refl _ _,?_⟩
    refine q_of _ (fun w_ hS => s_lenS usl71 (hv1.fr hS).src ⟨rfl,rfl⟩) ?_
    by_cases hil : i < l.length
    · have hfl1 : f = l[i].1 := by rw [hf1 (by omega)]; unfold FilesL.plain; simp
      obtain ⟨b,o,c,ev,_,_⟩ := hv1.at_ hil
      have d0 : ∀ u,Fr no w1 u → u.cell? ⟨b,o + i * 2,none⟩ = some (.string l[i].1.1) ∧ u.cell? ⟨b,o + i * 2 + 1,none⟩ = some l[i].2 := fun u hu => by
        obtain ⟨b',o',c',ev',q0,q1⟩ := (hv1.fr hu).at_ hil
        have := ev.symm.trans ev'
        injection this with h1
        injection h1 with h1
        injection h1 with h1 h2
        subst h1 h2
        exact ⟨q0,q1⟩
      rw [ev]
      refine q_of (.bool true) (fun w_ hS => s_lt_t (by omega) ⟨rfl,rfl⟩) (pGq_yes rfl (pGq_yes rfl ?_))
      refine pGq_yes rfl (q_of _ (fun w_ hS => s_ix (i := (i:Int)) usl71 (sze71 _) (by omega) (by omega) ⟨rfl,rfl⟩) ?_)
      refine pGq_yes rfl (q_of _ (fun w_ hS => fa83_0 ⟨rfl,rfl⟩) ?_)
      refine pGq_yes rfl (q_of (.string ps[i].1.1) (fun w_ hS => s_ld (isAgg9 _) (by simpa using c0 _ hS) ⟨rfl,rfl⟩) ?_)
      refine pGq_yes rfl (pGq_yes rfl (pGq_yes rfl (q_of _ (fun w_ hS => s_ix (i := (i:Int)) usl71 (sze71 _) (by omega) (by omega) ⟨rfl,rfl⟩) ?_)))
      refine pGq_yes rfl (q_of _ (fun w_ hS => fa83_0 ⟨rfl,rfl⟩) ?_)
      refine pGq_yes rfl (q_of (.string l[i].1.1) (fun w_ hS => s_ld (isAgg9 _) (by simpa using (d0 _ hS).1) ⟨rfl,rfl⟩) ?_)
      refine pGq_yes rfl (q_of (.bool false) (fun w_ hS => s_nes ⟨by rw [hfe,hfl1]; simp,rfl⟩) ?_)
      refine pGq_yes rfl (pGq_yes rfl (pGq_yes rfl ?_))
      refine pGq_yes rfl (q_of _ (fun w_ hS => s_ix (i := (i:Int)) usl71 (sze71 _) (by omega) (by omega) ⟨rfl,rfl⟩) ?_)
      refine pGq_yes rfl (q_of _ (fun w_ hS => fa83_1 ⟨rfl,rfl⟩) ?_)
      refine pGq_yes rfl (q_of _ (fun w_ hS => s_ld (isAgg36 _) (by simpa using c1 _ hS) ⟨rfl,rfl⟩) ?_)
      refine pGq_yes rfl (pGq_yes rfl (pGq_yes rfl (q_of _ (fun w_ hS => s_ix (i := (i:Int)) usl71 (sze71 _) (by omega) (by omega) ⟨rfl,rfl⟩) ?_)))
      refine pGq_yes rfl (q_of _ (fun w_ hS => fa83_1 ⟨rfl,rfl⟩) ?_)
      refine pGq_yes rfl (q_of l[i].2 (fun w_ hS => s_ld (isAgg36 _) (by simpa using (d0 _ hS).2) ⟨rfl,rfl⟩) ?_)
      have hrow := hR1.row _ (List.getElem_mem hi)
      have hdat := hv1.all _ (List.getElem_mem hil)
      have hde : ps[i].1.2 = l[i].1.2 := by rw [hfe,hfl1]
      refine pG_yes rfl (c_bytes hrow.front hdat (by rw [hfe]; omega) fun w2 g2 => ⟨g2,?_⟩)
      rw [decide_eq_true hde]
      refine pGq_yes rfl (q_of (.bool false) (fun w_ hS => s_not ⟨rfl,rfl⟩) ?_)
      refine pGq_yes rfl (q_of (.bool false) (fun w_ hS => s_pick_f ⟨rfl,rfl⟩) ?_)
      refine pGq_yes rfl (pGq_yes rfl (pGq_yes rfl ?_))
      obtain ⟨R,oR,cR,eR,hRc⟩ := (Src.of_own hR1.rows).place hi (by omega)
      have hRd : ∀ u,Fr no w1 u → u.cell? ⟨R,oR + i * 1 + 0,none⟩ = some (.slice (some ⟨ps[i].2,0,none⟩) (ps[i].1.2.length + 5) (ps[i].1.2.length + 5)) := fun u hu => by
        obtain ⟨R',oR',cR',eR',hRc'⟩ := (Src.of_own (hR1.fr hu).rows).place hi (by omega)
        rw [eR] at eR'; injection eR' with h1; injection h1 with h1; injection h1 with h1 h2; subst h1 h2
        exact hRc' 0 _ (by omega) (by simpa using rCells_at hi)
      rw [eR]
      refine pGq_yes rfl (q_of _ (fun w_ hS => s_ix (i := (i:Int)) usl93 (sze93 _) (by omega) (by omega) ⟨rfl,rfl⟩) ?_)
      refine pGq_yes rfl (q_of _ (fun w_ hS => s_ld (isAgg36 _) (by simpa using hRd _ hS) ⟨rfl,rfl⟩) ?_)
      refine pGq_yes rfl ?_
      refine pGq_yes rfl (q_of _ (fun w_ hS => s_sl_h (i := (ps[i].1.2.length : Int)) usl36 (sze36 _) (by omega) (by omega) ⟨rfl,rfl⟩) ?_)
      refine pGq_yes rfl (pGq_yes rfl (pGq_yes rfl (q_of _ (fun w_ hS => s_ix (i := (i:Int)) usl71 (sze71 _) (by omega) (by omega) ⟨rfl,rfl⟩) ?_)))
      refine pGq_yes rfl (q_of _ (fun w_ hS => fa83_1 ⟨rfl,rfl⟩) ?_)
      refine pGq_yes rfl (q_of l[i].2 (fun w_ hS => s_ld (isAgg36 _) (by simpa using (d0 _ hS).2) ⟨rfl,rfl⟩) ?_)
      refine pG_yes rfl (c_bytes (hrow.fr g2 id).front (hdat.fr g2 fun _ _ h => h) (by rw [hfe]; omega) fun w3 g3 => ⟨g2.trans g3 fun b hb => .inl hb,?_⟩)
      rw [decide_eq_true hde]
      refine pGq_yes rfl (q_of (.bool false) (fun w_ hS => s_not ⟨rfl,rfl⟩) ?_)
      refine pGq_yes rfl (q_of (.bool false) (fun w_ hS => s_pick_f ⟨rfl,rfl⟩) ?_)
      refine q_of (.bool false) (fun w_ hS => s_pick_t ⟨rfl,rfl⟩) ?_
      refine pGq_yes rfl (pGq_yes rfl (pGq_yes rfl (q_of _ (fun w_ hS => s_len usl71 ⟨rfl,rfl⟩) ?_)))
      refine pGq_yes rfl (q_of (.bool false) (fun w_ hS => s_ge_f (by omega) ⟨rfl,rfl⟩) (pGq_yes rfl ?_))
      iterate 7 refine pGq_sk ?_
      iterate 7 refine pGq_un ?_
      refine pGq_sk (pGq_yes rfl (q_of (.bool false) (fun w_ hS => s_pick_f ⟨rfl,rfl⟩) ?_))
      refine q_of (.bool false) (fun w_ hS => s_pick_f ⟨rfl,rfl⟩) (pC_false ?_)
      exact fin _ _ w3 (g2.trans g3 fun b hb => .inl hb) (e0.trans egv) e1 e2 e7 rfl fun ρ' w' h0 h1 h2 h3 h4 => ⟨m - 1,by omega,i + 1,by omega,h0,h1,h2.trans eR,h3.trans ev,h4⟩
    · have hfm : f = (markB,[]) := hf2 (by omega)
      refine q_of (.bool false) (fun w_ hS => s_lt_f (by omega) ⟨rfl,rfl⟩) ?_
      iterate 12 refine pGq_sk ?_
      iterate 10 refine pGq_un ?_
      refine pG_un ⟨Fr.refl _ _,pGq_un (pGq_sk (pGq_sk ?_))⟩
      iterate 11 refine pGq_un ?_
      refine pG_un ⟨Fr.refl _ _,pGq_un (pGq_sk ?_)⟩
      refine q_of (.bool false) (fun w_ hS => s_pick_f ⟨rfl,rfl⟩) (pGq_yes rfl (pGq_yes rfl ?_))
      refine pGq_yes rfl (q_of _ (fun w_ hS => s_lenS usl71 (hv1.fr hS).src ⟨rfl,rfl⟩) ?_)
      refine pGq_yes rfl (q_of (.bool true) (fun w_ hS => s_ge_t (by omega) ⟨rfl,rfl⟩) (pGq_yes rfl (pGq_yes rfl (pGq_yes rfl ?_))))
      refine pGq_yes rfl (q_of _ (fun w_ hS => s_ix (i := (i:Int)) usl71 (sze71 _) (by omega) (by omega) ⟨rfl,rfl⟩) ?_)
      refine pGq_yes rfl (q_of _ (fun w_ hS => fa83_0 ⟨rfl,rfl⟩) ?_)
      refine pGq_yes rfl (q_of (.string ps[i].1.1) (fun w_ hS => s_ld (isAgg9 _) (by simpa using c0 _ hS) ⟨rfl,rfl⟩) ?_)
      refine pGq_yes rfl (q_of (.bool false) (fun w_ hS => s_nes ⟨by rw [hfe,hfm]; simp [markB],rfl⟩) ?_)
      refine pGq_yes rfl (pGq_yes rfl (pGq_yes rfl ?_))
      refine pGq_yes rfl (q_of _ (fun w_ hS => s_ix (i := (i:Int)) usl71 (sze71 _) (by omega) (by omega) ⟨rfl,rfl⟩) ?_)
      refine pGq_yes rfl (q_of _ (fun w_ hS => fa83_1 ⟨rfl,rfl⟩) ?_)
      refine pGq_yes rfl (q_of _ (fun w_ hS => s_ld (isAgg36 _) (by simpa using c1 _ hS) ⟨rfl,rfl⟩) ?_)
      refine pGq_yes rfl (q_of _ (fun w_ hS => s_len usl36 ⟨rfl,rfl⟩) ?_)
      refine pGq_yes rfl (q_of (.bool false) (fun w_ hS => s_nei_f (by rw [hfe,hfm]; simp) ⟨rfl,rfl⟩) ?_)
      refine pGq_yes rfl (q_of (.bool false) (fun w_ hS => s_pick_f ⟨rfl,rfl⟩) ?_)
      refine pGq_yes rfl (q_of (.bool false) (fun w_ hS => s_pick_t ⟨rfl,rfl⟩) ?_)
      refine q_of (.bool false) (fun w_ hS => s_pick_f ⟨rfl,rfl⟩) (pC_false ?_)
      exact fin _ _ w1 (Fr.refl _ _) (e0.trans egv) e1 e2 e7 rfl fun ρ' w' h0 h1 h2 h3 h4 => ⟨m - 1,by omega,i + 1,by omega,h0,h1,h2,h3,h4⟩
  · refine s_lt_f (by omega) (pC_false ?_)
    rw [F51_3_eq]
    unfold F51_3
    exact hk w' hf
end
end Go.Proofs.YtcdcojpfealppaaGreat
