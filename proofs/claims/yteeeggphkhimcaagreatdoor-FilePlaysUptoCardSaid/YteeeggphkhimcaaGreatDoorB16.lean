/- Put together by a program (wip/tools/shake.py): ROps,ROps2,ROps3,ROps4. -/
import Derived.Test.YteeeggphkhimcaaGreatDoorB15
import Derived.Test.YteeeggphkhimcaaGreatDoorB7
set_option linter.unusedVariables false
set_option linter.unusedSimpArgs false
set_option maxRecDepth 100000
namespace Go.Proofs.YteeeggphkhimcaaGreatDoor
open Go Go.Proofs Go.RowKit Go.Proofs.XRed Go.Proofs.XHeap Go.Proofs.XMaps Go.Proofs.XSlices Go.Proofs.XDisk Go.Proofs.XCalls Go.Proofs.XSep Tryz
section
variable {w w0:World} {D:Nat} {S S':AD} {O I:Nat → Prop} {L L':RLay} {k:KV}
theorem s_lts {t:TypeId} {x y:Operand} {a b:ByteArray} (hk:k (.bool (blt a b)) w) : px P (binSem .lss t x y (.string a) (.string b)) w k := by
 refine s_bin (by simp) (by simp) ?_ hk
 simp only [binOp,Op.stringOp,bytesLess_eq,Sem.run_pure]
 unfold blt
 rw [Lib.toList_data,Lib.toList_data]
theorem nm_at {loc:Nat → Nat} {v:Value} {l:Names} (hv:Src w v 2 l.length (nmCells loc l)) {i:Nat} (hi:i < l.length) :
    ∃ b o c,v = .slice (some ⟨b,o,none⟩) l.length c ∧ w.cell? ⟨b,o + i * 2,none⟩ = some (.string l[i].1) ∧ w.cell? ⟨b,o + i * 2 + 1,none⟩ = some (ptr (loc l[i].2)) := by
  obtain ⟨b,o,c,e,hc⟩ := hv.place hi (by omega)
  have hf : ∀ j,j < 2 → (nmCells loc l)[i * 2 + j]? = ([.string l[i].1,ptr (loc l[i].2)] : List Value)[j]? := fun j hj =>
    flatAt (f := fun p : ByteArray × Nat => [Value.string p.1,ptr (loc p.2)]) (fun _ => rfl) (List.getElem?_eq_getElem hi) hj
  exact ⟨b,o,c,e,hc 0 _ (by omega) (hf 0 (by omega)),hc 1 _ (by omega) (hf 1 (by omega))⟩
theorem nm_name {loc:Nat → Nat} {v:Value} {l:Names} (hv:Src w v 2 l.length (nmCells loc l)) {i:Nat} (hi:i < l.length) {kk:Value → Value → KV} (hk:∀ p q,kk p q (.string l[i].1) w) :
    px P (Instr.indexAt 242 v (i64 i)) w fun p w => px P (Instr.fieldAt 264 p 0) w fun q w => px P (Instr.loadAt 9 q) w (kk p q) := by
  obtain ⟨b,o,c,e,g0,g1⟩ := nm_at hv hi
  subst e
  exact s_ix (i := (i:Int)) usl242 (sze242 _) (by omega) (by omega) (fa264_0 (s_ld (isAgg9 _) (by simpa using g0) (hk _ _)))
theorem nm_thing {loc:Nat → Nat} {v:Value} {l:Names} (hv:Src w v 2 l.length (nmCells loc l)) {i:Nat} (hi:i < l.length) {kk:Value → Value → KV} (hk:∀ p q,kk p q (ptr (loc l[i].2)) w) :
    px P (Instr.indexAt 242 v (i64 i)) w fun p w => px P (Instr.fieldAt 264 p 1) w fun q w => px P (Instr.loadAt 255 q) w (kk p q) := by
  obtain ⟨b,o,c,e,g0,g1⟩ := nm_at hv hi
  subst e
  exact s_ix (i := (i:Int)) usl242 (sze242 _) (by omega) (by omega) (fa264_1 (s_ld (isAgg255 _) (by simpa using g1) (hk _ _)))
theorem nm_both {loc:Nat → Nat} {v:Value} {l:Names} (hv:Src w v 2 l.length (nmCells loc l)) {i:Nat} (hi:i < l.length) {kk:Value → KV} (hk:∀ p,kk p (.agg #[.string l[i].1,ptr (loc l[i].2)]) w) :
    px P (Instr.indexAt 242 v (i64 i)) w fun p w => px P (Instr.loadAt 264 p) w (kk p) := by
  obtain ⟨b,o,c,e,g0,g1⟩ := nm_at hv hi
  subst e
  exact s_ix (i := (i:Int)) usl242 (sze242 _) (by omega) (by omega) (s_ld2 (isAgg264 _) (sizeOf264 _) (by simpa using g0) (by simpa using g1) (hk _))
theorem r_find {loc:Nat → Nat} {v:Value} {l:Names} {s:ByteArray} (hv:Src w v 2 l.length (nmCells loc l)) (hl:l.length ≤ 4611686018427387904) (h1:∀ i (hi:i < l.length),l[i].1 = s → k (i64 i) w) (h0:(∀ p ∈ l,p.1 ≠ s) → k (i64 (-1)) w) : pFn P 158 [v,.string s] w k := by
 refine F158_in _ _ _ _ ?_
 unfold F158_0
 refine F158L1_inv (m := l.length) k (fun m ρ w' => ∃ i : Nat,i + m = l.length ∧ w' = w ∧ ρ 0 = v ∧ ρ 1 = .string s ∧ ρ 5 = i64 i ∧ ∀ p ∈ l.take i,p.1 ≠ s) ?_ ⟨0,by omega,rfl,rfl,rfl,rfl,fun p hp => by simp at hp⟩
 rintro m ρ w' ⟨i,him,rfl,e0,e1,e5,hall⟩
 rw [F158_1_eq]
 unfold F158_1
 rw [e0,e1,e5]
 refine s_lenS usl242 hv ?_
 by_cases hi : i < l.length
 ·refine s_lt_t (by omega) (pC_true (nm_name hv hi fun p q => s_eqs ?_))
  by_cases e : l[i].1 = s
  ·rw [decide_eq_true e]; exact pC_true (h1 i hi e)
  ·rw [decide_eq_false e]
   refine pC_false (s_add_in (by omega) ⟨m - 1,by omega,i + 1,by omega,rfl,e0,e1,?_,fun p hp => ?_⟩)
   ·show i64 _ = i64 _; simp
   ·rw [List.take_succ_eq_append_getElem hi] at hp
    rcases List.mem_append.1 hp with hp | hp
    ·exact hall p hp
    ·rw [List.mem_singleton] at hp; subst hp; exact e
 ·refine s_lt_f (by omega) (pC_false ?_)
  rw [F158_2_eq]
  exact h0 fun p hp => hall p (by rw [List.take_of_length_le (by omega)]; exact hp)
def NewNm (w0 w:World) (loc:Nat → Nat) (v:Value) (l:Names) : Prop := w.ownsRow w0.heap.size 264 2 v l.length (nmCells loc l)
theorem nmCells_app (loc:Nat → Nat) (a b:Names) : nmCells loc (a ++ b) = nmCells loc a ++ nmCells loc b := by unfold nmCells; rw [List.flatMap_append]
theorem NewNm.none (loc:Nat → Nat) : NewNm w w loc (.slice none 0 0) [] := ⟨rfl,.inl ⟨rfl,rfl⟩⟩
theorem NewNm.push {loc:Nat → Nat} {v:Value} {l:Names} (h:NewNm w0 w loc v l) (hf:Fr no w0 w) (hl:l.length ≤ 1099511627776) (p:ByteArray × Nat) {kk:Value → KV}
    (hk:∀ u v' w',NewNm w0 w' loc v' (l ++ [p]) → Fr no w0 w' → kk u v' w') :
    px P (Instr.buildSlice 242 1 #[(0,.agg #[.string p.1,ptr (loc p.2)])]) w fun u w => px P (bSem .append #[242,242] 242 #[v,u]) w (kk u) := by
  refine pl242 h (by intro u hu; simp at hu; rcases hu with rfl | rfl <;> rfl) (by omega) hf.size fun u v' w' h2 f2 hb2 => hk u v' w' ?_ (hf.trans f2 fun b hb => .inr (own_blk_lt h hb.symm).1)
  unfold NewNm
  rw [List.length_append,nmCells_app]; exact h2
theorem r_without {loc:Nat → Nat} {v:Value} {l:Names} {s:ByteArray} (hv:Src w v 2 l.length (nmCells loc l)) (hl:l.length ≤ 1099511627776) (hk:∀ v' w',NewNm w w' loc v' (alDel l s) → Fr no w w' → k v' w') : pFn P 188 [v,.string s] w k := by
  refine F188_in _ _ _ _ ?_
  unfold F188_0
  refine F188L1_inv (m := l.length) k (fun m ρ w' => ∃ i : Nat,i + m = l.length ∧ Fr no w w' ∧ ρ 0 = v ∧ ρ 1 = .string s ∧ ρ 6 = i64 i ∧ NewNm w w' loc (ρ 5) (alDel (l.take i) s)) ?_ ⟨0,by omega,Fr.refl _ _,rfl,rfl,rfl,NewNm.none loc⟩
  rintro m ρ w' ⟨i,him,hf,e0,e1,e6,hn⟩
  rw [F188_1_eq]
  unfold F188_1
  rw [e0,e1,e6]
  have hv' : Src w' v 2 l.length (nmCells loc l) := hv.fr (by omega) hf fun _ _ h => h
  refine s_lenS usl242 hv' ?_
  by_cases hi : i < l.length
  · have next : ∀ (ρ':Env) (w2:World),Fr no w w2 → ρ' 0 = v → ρ' 1 = .string s → ρ' 6 = i64 i → NewNm w w2 loc (ρ' 5) (alDel (l.take (i + 1)) s) →
        F188_2 k (fun ρ' w' => ∃ m',m' < m ∧ ∃ i : Nat,i + m' = l.length ∧ Fr no w w' ∧ ρ' 0 = v ∧ ρ' 1 = .string s ∧ ρ' 6 = i64 i ∧ NewNm w w' loc (ρ' 5) (alDel (l.take i) s)) ρ' w2 := by
      intro ρ' w2 g a0 a1 a6 hn2
      unfold F188_2
      rw [a6]
      refine s_add_in (by omega) ⟨m - 1,by omega,i + 1,by omega,g,a0,a1,?_,hn2⟩
      show i64 _ = i64 _; simp
    refine s_lt_t (by omega) (pC_true (nm_name hv' hi fun p q => s_nes ?_))
    rw [List.take_succ_eq_append_getElem hi] at next
    by_cases e : l[i].1 = s
    · rw [decide_eq_true e]
      refine pC_false ?_
      rw [F188_2_eq]
      have : alDel (l.take i ++ [l[i]]) s = alDel (l.take i) s := by unfold alDel; rw [List.filter_append,List.filter_cons_of_neg (by simp [e])]; simp
      exact next _ _ hf e0 e1 e6 (by rw [this]; exact hn)
    · rw [decide_eq_false e]
      refine pC_true (nm_both hv' hi fun p => hn.push hf (by unfold alDel; refine Nat.le_trans (List.length_filter_le _ _) ?_; rw [List.length_take]; omega) l[i] fun u1 v1 w1 hn1 hf1 => ?_)
      rw [F188_2_eq]
      have : alDel (l.take i ++ [l[i]]) s = alDel (l.take i) s ++ [l[i]] := by unfold alDel; rw [List.filter_append,List.filter_cons_of_pos (by simp [e])]; simp
      exact next _ _ hf1 e0 e1 e6 (by rw [this]; exact hn1)
  · refine s_lt_f (by omega) (pC_false ?_)
    rw [F188_3_eq]
    unfold F188_3
    rw [List.take_of_length_le (by omega)] at hn
    exact hk _ _ hn hf
theorem alDel_len {β:Type} (l:List (ByteArray × β)) (s:ByteArray) : (alDel l s).length ≤ l.length := List.length_filter_le _ _
theorem insN_len (s:ByteArray) (t:Nat) (l:Names) : (insN l s t).length = l.length + 1 := (insN_perm s t l).length_eq
set_option maxHeartbeats 1000000 in
theorem r_with {loc:Nat → Nat} {v:Value} {l:Names} {s:ByteArray} {t:Nat} (hv:Src w v 2 l.length (nmCells loc l)) (hl:l.length ≤ 549755813888) (hk:∀ v' w',NewNm w w' loc v' (setN l s t) → Fr no w w' → k v' w') : pFn P 187 [v,.string s,ptr (loc t)] w k := by
  refine F187_in _ _ _ _ _ ?_
  unfold F187_0
  refine r_without hv (by omega) fun v1 w1 hn1 f1 => ?_
  have hv1 := Src.of_own hn1
  have hl1 : (alDel l s).length ≤ 549755813888 := Nat.le_trans (alDel_len l s) hl
  have hgoal : setN l s t = insN (alDel l s) s t := rfl
  rw [hgoal] at hk
  generalize alDel l s = r at *
  replace hk : ∀ v' w',NewNm w1 w' loc v' (insN r s t) → Fr no w1 w' → k v' w' := fun v' w' h f => hk v' w' (own_less h f1.size) (f1.trans f fun b hb => .inl hb)
  clear hn1
  have hput0 : ∀ (out:Names) (done:Bool) (i:Nat),out ++ putL done (r.drop i) s t = insN r s t → i ≤ r.length → out.length ≤ i + 1 ∧ (done = false → out.length = i) := by
    intro out done i h hi
    have hl := congrArg List.length h
    rw [insN_len,List.length_append] at hl
    cases done with
    | true => simp only [putL,if_true,List.length_drop] at hl; exact ⟨by omega,by simp⟩
    | false => simp only [putL,Bool.false_eq_true,if_false,insN_len,List.length_drop] at hl; exact ⟨by omega,fun _ => by omega⟩
  refine F187L1_inv (m := r.length) k (fun m ρ w' => ∃ (i:Nat) (out:Names) (done:Bool),i + m = r.length ∧ Fr no w1 w' ∧ ρ 0 = v1 ∧ ρ 1 = .string s ∧ ρ 2 = ptr (loc t) ∧ ρ 8 = .bool done ∧ ρ 9 = i64 i ∧ NewNm w1 w' loc (ρ 7) out ∧ out ++ putL done (r.drop i) s t = insN r s t) ?_
    ⟨0,[],false,by omega,Fr.refl _ _,rfl,rfl,rfl,rfl,rfl,NewNm.none loc,rfl⟩
  rintro m ρ w' ⟨i,out,done,him,hf1,e0,e1,e2,e8,e9,hn,hput⟩
  have hlen := hput0 out done i hput (by omega)
  rw [F187_1_eq]
  unfold F187_1
  rw [e0,e1,e2,e8,e9]
  have hv' : Src w' v1 2 r.length (nmCells loc r) := hv1.fr (by omega) hf1 fun _ _ h => h
  refine s_lenS usl242 hv' ?_
  by_cases hi : i < r.length
  · refine s_lt_t (by omega) (pC_true (s_not ?_))
    rw [List.drop_eq_getElem_cons hi] at hput
    have next : ∀ (ρ':Env) (w2:World) (out2:Names) (done2:Bool),Fr no w1 w2 → ρ' 0 = v1 → ρ' 1 = .string s → ρ' 2 = ptr (loc t) → ρ' 8 = .bool done2 → ρ' 9 = i64 i → NewNm w1 w2 loc (ρ' 7) out2 → out2 ++ r[i] :: putL done2 (r.drop (i + 1)) s t = insN r s t → out2.length ≤ i + 1 →
        F187_2 k (fun ρ' w' => ∃ m',m' < m ∧ ∃ (i:Nat) (out:Names) (done:Bool),i + m' = r.length ∧ Fr no w1 w' ∧ ρ' 0 = v1 ∧ ρ' 1 = .string s ∧ ρ' 2 = ptr (loc t) ∧ ρ' 8 = .bool done ∧ ρ' 9 = i64 i ∧ NewNm w1 w' loc (ρ' 7) out ∧ out ++ putL done (r.drop i) s t = insN r s t) ρ' w2 := by
      intro ρ' w2 out2 done2 g1 a0 a1 a2 a8 a9 hn2 hput2 hlen2
      unfold F187_2
      rw [a0,a9]
      have hv2 : Src w2 v1 2 r.length (nmCells loc r) := hv1.fr (by omega) g1 fun _ _ h => h
      refine nm_both hv2 hi fun p => hn2.push g1 (by omega) r[i] fun u3 v3 w3 hn3 g3 => ?_
      refine s_add_in (by omega) ⟨m - 1,by omega,i + 1,out2 ++ [r[i]],done2,by omega,g3,a0,a1,a2,a8,?_,hn3,by rw [List.append_assoc]; exact hput2⟩
      show i64 _ = i64 _; simp
    cases done with
    | true =>
      simp only [Bool.not_true]
      repeat (first | refine pG_sk ?_ | refine pG_un ?_)
      refine s_pick_f (pC_false ?_)
      rw [F187_2_eq]
      exact next _ _ out true hf1 e0 e1 e2 e8 e9 hn hput hlen.1
    | false =>
      simp only [Bool.not_false]
      obtain ⟨b,o,c,ev,g0,g1⟩ := nm_at hv' hi
      subst ev
      refine pG_yes rfl (pG_yes rfl (pG_yes rfl (pG_yes rfl (s_ix (i := (i:Int)) usl242 (sze242 _) (by omega) (by omega) (pG_yes rfl (fa264_0 (pG_yes rfl (s_ld (isAgg9 _) (by simpa using g0) (pG_yes rfl (s_lts (s_pick_t ?_)))))))))))
      cases hb : blt s r[i].1 with
      | true =>
        rw [putL_step hb] at hput
        have hol : out.length ≤ 1099511627776 := by have := hlen.1; omega
        have hol2 : (out ++ [(s,t)]).length ≤ i + 1 := by have := hlen.2 rfl; simp; omega
        rw [show out ++ (s,t) :: r[i] :: putL true (r.drop (i + 1)) s t = (out ++ [(s,t)]) ++ r[i] :: putL true (r.drop (i + 1)) s t by rw [List.append_assoc]; rfl] at hput
        refine pC_true ?_
        refine px_ok (w' := w') (v := .agg #[.string s,ptr (loc t)]) (by kernel_rfl) ?_
        refine NewNm.push (p := (s,t)) hn hf1 hol ?_
        intro u3 v3 w3 hn3 g3
        rw [F187_2_eq]
        exact next _ _ (out ++ [(s,t)]) true g3 e0 e1 e2 rfl e9 hn3 hput hol2
      | false =>
        rw [putL_skip hb] at hput
        refine pC_false ?_
        rw [F187_2_eq]
        exact next _ _ out false hf1 e0 e1 e2 e8 e9 hn hput hlen.1
  · refine s_lt_f (by omega) (pC_false ?_)
    rw [F187_3_eq]
    unfold F187_3
    show px P (Op.unary UnOp.not (ρ 8)) w' _
    rw [e8]
    refine s_not ?_
    rw [List.drop_eq_nil_of_le (by omega)] at hput
    cases done with
    | true =>
      refine pC_false ?_
      rw [F187_4_eq]
      have e : out = insN r s t := by rw [← hput]; simp [putL]
      rw [← e] at hk
      exact hk _ _ hn hf1
    | false =>
      rw [putL_end] at hput
      refine pC_true ?_
      show px P (Instr.build 264 #[(0,ρ 1),(1,ρ 2)]) w' _
      rw [e1,e2]
      have hol : out.length ≤ 1099511627776 := by have := hlen.1; omega
      refine px_ok (w' := w') (v := .agg #[.string s,ptr (loc t)]) (by kernel_rfl) ?_
      refine NewNm.push (p := (s,t)) hn hf1 hol ?_
      intro u3 v3 w3 hn3 g3
      rw [F187_4_eq]
      rw [hput] at hn3
      exact hk _ _ hn3 g3
def turnArg (loc:Nat → Nat) (c:Turn) : Value := .agg (rturn loc c).toArray
theorem r_turn {loc:Nat → Nat} {v:Value} {l:Names} {c:Turn} (hv:Src w v 2 l.length (nmCells loc l)) (hl:l.length ≤ 549755813888) (hc:∀ a b,c = .give a b → alGet l a ≠ none) (hnd:(alKeys l).Nodup) (hk:∀ v' w',Src w' v' 2 (c.on l).length (nmCells loc (c.on l)) → (∀ b,sblk v' = some b → w.heap.size ≤ b ∧ b < w'.heap.size) → Fr no w w' → k v' w') : pFn P 161 [v,turnArg loc c] w k := by
 refine F161_in _ _ _ _ ?_
 unfold F161_0
 cases c with
 | mk n t =>
  refine s_box ?_
  have b1 := alloc_new w (.cells #[i64 1,.string n,.string noB,ptr (loc t)] 260)
  have f1 := Fr.alloc no w (.cells #[i64 1,.string n,.string noB,ptr (loc t)] 260)
  show px P _ (w.alloc (.cells #[i64 1,.string n,.string noB,ptr (loc t)] 260)) _
  generalize w.alloc (.cells #[i64 1,.string n,.string noB,ptr (loc t)] 260) = w1 at *
  refine fa260_0 (s_ldb (v := i64 1) (isAgg3 _) b1 rfl (s_eqi_t rfl (pC_true ?_)))
  refine fa260_1 (s_ldb (v := .string n) (isAgg9 _) b1 rfl (fa260_3 (s_ldb (v := ptr (loc t)) (isAgg255 _) b1 rfl ?_)))
  refine r_with (hv.fr (by omega) f1 fun _ _ h => h) hl fun v' w' hn f2 => hk v' w' (Src.of_own hn) (fun b hb => ⟨Nat.le_trans f1.size (own_blk_lt hn hb).1,(own_blk_lt hn hb).2⟩) (f1.trans f2 fun b hb => .inl hb)
 | give a b =>
  refine s_box ?_
  have b1 := alloc_new w (.cells #[i64 2,.string a,.string b,.pointer none] 260)
  have f1 := Fr.alloc no w (.cells #[i64 2,.string a,.string b,.pointer none] 260)
  have z1 : (w.alloc (.cells #[i64 2,.string a,.string b,.pointer none] 260)).heap.size = w.heap.size + 1 := by simp
  show px P _ (w.alloc (.cells #[i64 2,.string a,.string b,.pointer none] 260)) _
  generalize w.alloc (.cells #[i64 2,.string a,.string b,.pointer none] 260) = w1 at *
  refine fa260_0 (s_ldb (v := i64 2) (isAgg3 _) b1 rfl (s_eqi_f (by omega) (pC_false (s_eqi_t rfl (pC_true ?_)))))
  have hv1 : Src w1 v 2 l.length (nmCells loc l) := hv.fr (by omega) f1 fun _ _ h => h
  refine fa260_1 (s_ldb (v := .string a) (isAgg9 _) b1 rfl (r_find hv1 (by omega) (fun i hi e => ?_) fun h => absurd (alGet_none_iff.2 h) (hc a b rfl)))
  have hg : (alGet l a).getD 0 = l[i].2 := by rw [← e,alGet_at hnd (List.getElem?_eq_getElem hi)]; rfl
  obtain ⟨vb,vo,vc,ev,g0,g1⟩ := nm_at hv1 hi
  have hv1d : vb < w1.heap.size := World.block_lt_of_cell? _ ⟨vb,vo + i * 2,none⟩ g0
  have fd : Fr no w1 w1.drew := Fr.drew _ _
  subst ev
  refine ⟨fun u => u.heap[w.heap.size]? = some (.cells #[i64 2,.string a,.string b,.pointer none] 260 (0,0)) ∧ u.cell? ⟨vb,vo + i * 2 + 1,none⟩ = some (ptr (loc l[i].2)),⟨b1,g1⟩,?_⟩
  have keep : ∀ w2,Fr no w1 w2 → w2.heap[w.heap.size]? = some (.cells #[i64 2,.string a,.string b,.pointer none] 260 (0,0)) ∧ w2.cell? ⟨vb,vo + i * 2 + 1,none⟩ = some (ptr (loc l[i].2)) := fun w2 f =>
   ⟨f.get b1 id,by rw [World.cell?_of_block (w := w1) (f.block vb hv1d id)]; exact g1⟩
  refine q_of _ (fun w_ hS => fa260_1 ⟨rfl,rfl⟩) ?_
  refine q_of (.string a) (fun w_ hS => s_ldb (isAgg9 _) hS.1 rfl ⟨rfl,rfl⟩) ?_
  refine q_of _ (fun w_ hS => fa260_2 ⟨rfl,rfl⟩) ?_
  refine q_of (.string b) (fun w_ hS => s_ldb (isAgg9 _) hS.1 rfl ⟨rfl,rfl⟩) ?_
  refine q_of (.pointer (some ⟨vb,vo + i * 2,none⟩)) (fun w_ hS => s_ix (i := (i:Int)) usl242 (sze242 _) (by omega) (by omega) ⟨by simp,rfl⟩) ?_
  refine q_of _ (fun w_ hS => fa264_1 ⟨rfl,rfl⟩) ?_
  refine q_of _ (fun w_ hS => s_ld (isAgg255 _) hS.2 ⟨rfl,rfl⟩) ?_
  have hvd : Src w1.drew (.slice (some ⟨vb,vo,none⟩) l.length vc) 2 l.length (nmCells loc l) := hv1.fr (by omega) fd fun _ _ h => h
  refine r_without hvd (by omega) fun v2 w2 hn2 f2 => ⟨keep w2 (fd.trans f2 fun b hb => .inl hb),?_⟩
  refine r_with (Src.of_own hn2) (Nat.le_trans (alDel_len l a) hl) fun v3 w3 hn3 f3 => ⟨keep w3 ((fd.trans f2 fun b hb => .inl hb).trans f3 fun b hb => .inl hb),?_⟩
  rw [← hg] at hn3
  exact hk v3 w3 (Src.of_own hn3) (fun b hb => ⟨Nat.le_trans (Nat.le_trans f1.size (Nat.le_trans fd.size f2.size)) (own_blk_lt hn3 hb).1,(own_blk_lt hn3 hb).2⟩) (((f1.trans fd fun b hb => .inl hb).trans f2 fun b hb => .inl hb).trans f3 fun b hb => .inl hb)
 | take n =>
  refine s_box ?_
  have b1 := alloc_new w (.cells #[i64 3,.string n,.string noB,.pointer none] 260)
  have f1 := Fr.alloc no w (.cells #[i64 3,.string n,.string noB,.pointer none] 260)
  show px P _ (w.alloc (.cells #[i64 3,.string n,.string noB,.pointer none] 260)) _
  generalize w.alloc (.cells #[i64 3,.string n,.string noB,.pointer none] 260) = w1 at *
  refine fa260_0 (s_ldb (v := i64 3) (isAgg3 _) b1 rfl (s_eqi_f (by omega) (pC_false (s_eqi_f (by omega) (pC_false ?_)))))
  refine fa260_1 (s_ldb (v := .string n) (isAgg9 _) b1 rfl ?_)
  refine r_without (hv.fr (by omega) f1 fun _ _ h => h) (by omega) fun v' w' hn f2 => hk v' w' (Src.of_own hn) (fun b hb => ⟨Nat.le_trans f1.size (own_blk_lt hn hb).1,(own_blk_lt hn hb).2⟩) (f1.trans f2 fun b hb => .inl hb)
end
section
variable {w w0:World} {D:Nat} {S S':AD} {O I:Nat → Prop} {L L':RLay} {k:KV}
def NewB (w0 w:World) (v:Value) (bs:Bytes) : Prop := w.ownsRow w0.heap.size 5 1 v bs.length (u8s bs)
theorem NewB.sb {v:Value} {bs:Bytes} (h:NewB w0 w v bs) : SBytes w v bs := Src.of_own h
theorem NewB.blk {v:Value} {bs:Bytes} (h:NewB w0 w v bs) : ∀ b,sblk v = some b → w0.heap.size ≤ b ∧ b < w.heap.size := fun b hb => own_blk_lt h hb
theorem r_copied {v:Value} {bs:Bytes} (h:SBytes w v bs) (hl:bs.length ≤ 70368744177664) (hk:∀ v' w',NewB w w' v' bs → Fr no w w' → k v' w') : pFn P 167 [v] w k := by
 refine F167_in _ _ _ ?_
 unfold F167_0
 refine lit0_23 ?_
 have f1 := Fr.alloc no w (.cells #[] 5)
 have ho := own_lit w w.heap.size 5 1 #[] 0 (Nat.le_refl _) (by unfold maxLen; omega) rfl
 have z1 : (w.alloc (.cells #[] 5)).heap.size = w.heap.size + 1 := by simp
 show px P _ (w.alloc (.cells #[] 5)) _
 generalize w.alloc (.cells #[] 5) = w1 at *
 refine ap23 ho (h.fr f1 fun _ _ h => h) u8s_one (by omega) (by omega) fun v' w2 h2 f2 hb2 => ?_
 rw [Nat.zero_add] at h2
 exact hk v' w2 h2 (f1.trans f2 fun b hb => .inr (by injection hb with hb; have hb' : b = w.heap.size := hb; omega))
theorem r_units {p:Chg × Value} (h:ChgOk w I p) (hk:∀ w',Fr no w w' → k (i64 p.1.units) w') : pFn P 169 [.agg (chCells p).toArray] w k := by
 obtain ⟨c,s⟩ := p
 refine F169_in _ _ _ ?_
 unfold F169_0
 cases c with
 | wr a d =>
  obtain ⟨A,cp,rfl,_⟩ := SBytes.form (SB.fr h (Fr.refl no w) fun _ _ h => h).1
  refine s_box ?_
  have b1 := alloc_new w (.cells #[.bool false,i64 a,.slice A d.length cp] 268)
  have f1 := Fr.alloc no w (.cells #[.bool false,i64 a,.slice A d.length cp] 268)
  show px P _ (w.alloc (.cells #[.bool false,i64 a,.slice A d.length cp] 268)) _
  generalize w.alloc (.cells #[.bool false,i64 a,.slice A d.length cp] 268) = w1 at *
  refine fa268_0 (s_ldb (v := .bool false) (isAgg4 _) b1 rfl (pC_false (fa268_2 (s_ldb (v := .slice A d.length cp) (isAgg23 _) b1 rfl (s_len usl23 ?_)))))
  exact hk w1 f1
 | cut n =>
  refine s_box ?_
  have b1 := alloc_new w (.cells #[.bool true,i64 n,s] 268)
  have f1 := Fr.alloc no w (.cells #[.bool true,i64 n,s] 268)
  show px P _ (w.alloc (.cells #[.bool true,i64 n,s] 268)) _
  generalize w.alloc (.cells #[.bool true,i64 n,s] 268) = w1 at *
  exact fa268_0 (s_ldb (v := .bool true) (isAgg4 _) b1 rfl (pC_true (hk w1 f1)))
theorem u8s_at {d:Bytes} {i:Nat} (hi:i < d.length) : (u8s d)[i]? = some (.int .u8 (d[i]).toNat) := by unfold u8s; simp [hi]
theorem u8s_set (b:Bytes) (i:Nat) (x:UInt8) : (u8s b).set i (.int .u8 x.toNat) = u8s (b.set i x) := by unfold u8s; rw [List.map_set]
set_option maxHeartbeats 1000000 in
theorem r_change {p:Chg × Value} {bv:Value} {b:Bytes} {u:Nat} (hp:ChgOk w I p) (hb:SBytes w bv b) (hu:u ≤ p.1.units) (hl:b.length ≤ 1099511627776) (hcut:∀ n,p.1 = .cut n → u ≠ 0 → n ≤ b.length) (hwr:∀ a d,p.1 = .wr a d → a ≤ b.length ∧ a + d.length ≤ 1099511627776)
    (hk:∀ v' w',SBytes w' v' (p.1.made b u) → (∀ x,sblk v' = some x → sblk bv = some x ∨ (w.heap.size ≤ x ∧ x < w'.heap.size)) → Fr no w w' → k v' w') : pFn P 166 [bv,.agg (chCells p).toArray,i64 u] w k := by
  obtain ⟨c,s⟩ := p
  refine F166_in _ _ _ _ _ ?_
  unfold F166_0
  cases c with
  | cut n =>
    refine s_box ?_
    have b1 := alloc_new w (.cells #[.bool true,i64 n,s] 268)
    have f1 := Fr.alloc no w (.cells #[.bool true,i64 n,s] 268)
    show px P _ (w.alloc (.cells #[.bool true,i64 n,s] 268)) _
    generalize w.alloc (.cells #[.bool true,i64 n,s] 268) = w1 at *
    refine fa268_0 (s_ldb (v := .bool true) (isAgg4 _) b1 rfl (pC_true ?_))
    have hb1 : SBytes w1 bv b := hb.fr f1 fun _ _ h => h
    by_cases h0 : u = 0
    · subst h0
      refine s_lt_t (by omega) (pC_true (hk bv w1 (by rw [made_zero]; exact hb1) (fun x hx => .inl hx) f1))
    · refine s_lt_f (by omega) (pC_false ?_)
      refine fa268_1 (s_ldb (v := i64 n) (isAgg3 _) b1 rfl ?_)
      have hn := hcut n rfl h0
      obtain ⟨A,cp,rfl,hc⟩ := hb1.form
      refine s_sl_h (i := (n:Int)) usl23 (sze23 _) (by omega) (by omega) ?_
      refine r_copied (bs := b.take n) (SBytes.front hb1 hn) (by rw [List.length_take]; omega) fun v' w2 h2 f2 => ?_
      have hm : Chg.made b u (.cut n) = b.take n := by simp [Chg.made,h0]
      refine hk v' w2 (by rw [hm]; exact h2.sb) (fun x hx => .inr ⟨Nat.le_trans f1.size (h2.blk x hx).1,(h2.blk x hx).2⟩) (f1.trans f2 fun b hb => .inl hb)
  | wr a d =>
    obtain ⟨ha,had⟩ := hwr a d rfl
    have hu' : u ≤ d.length := hu
    obtain ⟨A,cp,rfl,_⟩ := SBytes.form (SB.fr hp (Fr.refl no w) fun _ _ h => h).1
    have hs : SBytes w (.slice A d.length cp) d := SB.fr hp (Fr.refl no w) (fun _ _ h => h) |>.1
    refine s_box ?_
    have b1 := alloc_new w (.cells #[.bool false,i64 a,.slice A d.length cp] 268)
    have f1 := Fr.alloc no w (.cells #[.bool false,i64 a,.slice A d.length cp] 268)
    show px P _ (w.alloc (.cells #[.bool false,i64 a,.slice A d.length cp] 268)) _
    have hC : w.heap.size < (w.alloc (.cells #[.bool false,i64 a,.slice A d.length cp] 268)).heap.size := by simp
    generalize w.alloc (.cells #[.bool false,i64 a,.slice A d.length cp] 268) = w1 at *
    refine fa268_0 (s_ldb (v := .bool false) (isAgg4 _) b1 rfl (pC_false (fa268_2 (s_ldb (v := .slice A d.length cp) (isAgg23 _) b1 rfl (s_len usl23 (s_gt_f (by omega) (pC_false ?_)))))))
    rw [F166_1_eq]
    unfold F166_1
    have hs1 : SBytes w1 (.slice A d.length cp) d := hs.fr f1 fun _ _ h => h
    refine r_copied (hb.fr f1 fun _ _ h => h) (by omega) fun v2 w2 h2 f2 => ?_
    refine F166L1_inv (m := u) k (fun m ρ w' => ∃ i : Nat,i + m = u ∧ Fr no w1 w' ∧ ρ 4 = ptr w.heap.size ∧ ρ 2 = i64 u ∧ ρ 7 = i64 i ∧ NewB w1 w' (ρ 0) (Chg.made b i (.wr a d))) ?_
      ⟨0,by omega,f2,rfl,rfl,rfl,by rw [made_zero]; exact h2⟩
    rintro m ρ w' ⟨i,him,hf,e4,e2,e7,hn⟩
    rw [F166_2_eq]
    unfold F166_2
    rw [e4,e2,e7]
    by_cases hi : i < u
    · have next : ∀ (ρ':Env) (w3:World),Fr no w1 w3 → ρ' 4 = ptr w.heap.size → ρ' 2 = i64 u → ρ' 7 = i64 i → NewB w1 w3 (ρ' 0) (Chg.made b (i + 1) (.wr a d)) →
          F166_3 k (fun ρ' w' => ∃ m',m' < m ∧ ∃ i : Nat,i + m' = u ∧ Fr no w1 w' ∧ ρ' 4 = ptr w.heap.size ∧ ρ' 2 = i64 u ∧ ρ' 7 = i64 i ∧ NewB w1 w' (ρ' 0) (Chg.made b i (.wr a d))) ρ' w3 := by
        intro ρ' w3 g a4 a2 a7 hn3
        unfold F166_3
        rw [a7]
        refine s_add_in (by omega) ⟨m - 1,by omega,i + 1,by omega,g,a4,a2,?_,hn3⟩
        show i64 _ = i64 _; simp
      have bw : w'.heap[w.heap.size]? = some (.cells #[.bool false,i64 a,.slice A d.length cp] 268 (0,0)) := hf.get b1 id
      have hsw : SBytes w' (.slice A d.length cp) d := hs1.fr hf fun _ _ h => h
      have hid : i < d.length := by omega
      refine s_lt_t (by omega) (pC_true (fa268_1 (s_ldb (v := i64 a) (isAgg3 _) bw rfl (s_add_in (by omega) (s_lenS usl23 (Src.of_own hn) ?_)))))
      by_cases hlt : a + i < (Chg.made b i (.wr a d)).length
      · rw [made_step ha hid hlt] at next
        obtain ⟨g,cap,cur,ev,hcap,hbase,hg,hic,hce,hset⟩ := own_at (i := a + i) hn (by omega)
        refine s_lt_t (by omega) (pC_true ?_)
        obtain ⟨b',o',c',es,hcell⟩ := Src.place (size := 1) hsw hid (by omega)
        have g0 : w'.cell? ⟨b',o' + i * 1,none⟩ = some (.int .u8 (d[i]).toNat) := hcell 0 _ (by omega) (by simpa using u8s_at hid)
        have hb' : b' < w1.heap.size := by
          have hin : sblk (.slice A d.length cp) = some b' := by rw [es]; rfl
          exact Src.lt (size := 1) hs1 (by omega) (by omega) hin
        have hgw : w1.heap.size ≤ g := hbase
        rw [ev]
        have fd : Fr no w' w'.drew := Fr.drew _ _
        refine ⟨fun x => x.heap[w.heap.size]? = some (.cells #[.bool false,i64 a,.slice A d.length cp] 268 (0,0)) ∧ x.cell? ⟨b',o' + i * 1,none⟩ = some (.int .u8 (d[i]).toNat),⟨bw,g0⟩,?_⟩
        refine q_of _ (fun w_ hS => fa268_1 ⟨rfl,rfl⟩) ?_
        refine q_of (i64 a) (fun w_ hS => s_ldb (isAgg3 _) hS.1 rfl ⟨rfl,rfl⟩) ?_
        refine q_of (i64 (a + i)) (fun w_ hS => s_add_in (by omega) ⟨rfl,rfl⟩) ?_
        refine q_of _ (fun w_ hS => fa268_2 ⟨rfl,rfl⟩) ?_
        refine q_of (.slice A d.length cp) (fun w_ hS => s_ldb (isAgg23 _) hS.1 rfl ⟨rfl,rfl⟩) ?_
        rw [es]
        refine q_of (.pointer (some ⟨b',o' + i * 1,none⟩)) (fun w_ hS => s_ix (i := (i:Int)) usl23 (sze23 _) (by omega) (by omega) ⟨by simp,rfl⟩) ?_
        refine q_of _ (fun w_ hS => s_ld (isAgg5 _) hS.2 ⟨rfl,rfl⟩) ?_
        refine q_of (.pointer (some ⟨g,a + i,none⟩)) (fun w_ hS => s_ix (i := (a + i : Int)) usl23 (sze23 _) (by omega) (by omega) ⟨by simp,rfl⟩) ?_
        refine s_st (sizeOf5 _) rfl rfl (by exact hg) hic ?_
        rw [F166_3_eq]
        have hn' := hset (.int .u8 (d[i]).toNat)
        rw [u8s_set] at hn'
        refine next _ _ ?_ e4 e2 e7 ?_
        · exact (hf.trans fd fun b hb => .inl hb).trans (Fr.setCell w'.drew ⟨g,a + i,none⟩ _) fun x hx => .inr (by rw [hx]; exact hgw)
        · unfold NewB
          rw [List.length_set]
          exact hn'
      · rw [made_push ha hid hlt] at next
        refine s_lt_f (by omega) (pC_false (fa268_2 (s_ldb (v := .slice A d.length cp) (isAgg23 _) bw rfl ?_)))
        refine s_elem (u := .int .u8 (d[i]).toNat) usl23 (sze23 _) (isAgg5 _) hsw hid (u8s_at hid) fun _ => ?_
        refine pl23 hn rfl (by intro u hu; simp at hu; subst hu; rfl) ?_ hf.size fun u3 v3 w3 h3 f3 hb3 => ?_
        · have := congrArg List.length (made_wr ha (show i ≤ d.length by omega)); simp at this; omega
        · rw [F166_3_eq]
          refine next _ _ (hf.trans f3 fun x hx => .inr (own_blk_lt hn hx.symm).1) e4 e2 e7 ?_
          unfold NewB
          rw [List.length_append,u8s_append]; exact h3
    · refine s_lt_f (by omega) (pC_false ?_)
      rw [F166_4_eq]
      unfold F166_4
      have : i = u := by omega
      subst this
      exact hk _ _ hn.sb (fun x hx => .inr ⟨Nat.le_trans f1.size (hn.blk x hx).1,(hn.blk x hx).2⟩) (f1.trans hf fun b hb => .inl hb)
end
section
variable {w w0:World} {D:Nat} {S S':AD} {O I:Nat → Prop} {L L':RLay} {k:KV}
theorem okByte_nat (c:UInt8) : okByte c = decide ((97 ≤ c.toNat ∧ c.toNat ≤ 122) ∨ (48 ≤ c.toNat ∧ c.toNat ≤ 57) ∨ c.toNat = 46 ∨ c.toNat = 45 ∨ c.toNat = 95 ∨ c.toNat = 43) := by
 unfold okByte
 have e : ∀ d : UInt8,(c == d) = decide (c.toNat = d.toNat) := by
  intro d
  by_cases h : c = d
  ·subst h; simp
  ·have : c.toNat ≠ d.toNat := fun h' => h (UInt8.toNat_inj.1 h')
   simp [h,this]
 rw [e 46,e 45,e 95,e 43]
 simp [UInt8.le_iff_toNat_le,Bool.or_assoc]
set_option maxHeartbeats 4000000 in
theorem r_isName (s:ByteArray) (hk:k (.bool (isName s)) w) : pFn P 48 [.string s] w k := by
 refine F48_in _ _ _ ?_
 unfold F48_0
 refine s_lens underlying9 ?_
 have short : s.size < 1 ∨ s.size > 112 → k (.bool false) w := by
  intro h
  have : isName s = false := by
   unfold isName
   have h2 : (decide (1 ≤ s.size) && decide (s.size ≤ 112)) = false := by
    rcases h with h | h
    ·rw [decide_eq_false (by omega)]; rfl
    ·rw [decide_eq_false (by omega:¬ s.size ≤ 112)]; simp
   rw [Bool.and_assoc,h2]; simp
  rwa [this] at hk
 by_cases h1 : s.size < 1
 ·refine s_lt_t (by omega) ?_
  repeat (first | refine pG_skf ?_ | refine pG_un ?_)
  exact s_pick_t (pC_true (short (.inl h1)))
 refine s_lt_f (by omega) (pG_yes rfl (pG_yes rfl (s_lens underlying9 (pG_yes rfl ?_))))
 by_cases h2 : s.size > 112
 ·exact s_gt_t (by omega) (s_pick_f (pC_true (short (.inr h2))))
 refine s_gt_f (by omega) (s_pick_f (pC_false ?_))
 clear short
 have hall : isName s = s.data.toList.all okByte := by
  unfold isName
  rw [decide_eq_true (by omega),decide_eq_true (by omega)]; simp
 rw [hall] at hk
 refine F48L1_inv (m := s.size) k (fun m ρ w' => ∃ i : Nat,i + m = s.size ∧ w' = w ∧ ρ 0 = .string s ∧ ρ 3 = i64 i ∧ ∀ j (hj:j < s.size),j < i → okByte s[j] = true) ?_ ⟨0,by omega,rfl,rfl,rfl,fun j _ hj => absurd hj (by omega)⟩
 rintro m ρ w' ⟨i,him,rfl,e0,e3,hok⟩
 rw [F48_1_eq]
 unfold F48_1
 rw [e0,e3]
 refine s_lens underlying9 ?_
 by_cases hi : i < s.size
 ·refine s_lt_t (by omega) (pC_true (s_ixs underlying9 hi ?_))
  have hb := okByte_nat s[i]
  have hlt := s[i].toNat_lt
  have good : okByte s[i] = true → ∀ j (hj:j < s.size),j < i + 1 → okByte s[j] = true := by
   intro h j hj hji
   by_cases e : j = i
   ·subst e; exact h
   ·exact hok j hj (by omega)
  have bad : okByte s[i] = false → k (.bool false) w' := by
   intro h
   have : s.data.toList.all okByte = false := by
    rw [Bool.eq_false_iff]
    intro ha
    rw [List.all_eq_true] at ha
    have := ha s[i] (by
     have : i < s.data.toList.length := by simpa using hi
     have e : s[i] = s.data.toList[i] := rfl
     rw [e]; exact List.getElem_mem _)
    rw [h] at this; cases this
   rwa [this] at hk
  clear hk hall
  generalize s[i].toNat = n at *
  generalize okByte s[i] = okb at *
  have cases_ : (97 ≤ n ∧ n ≤ 122) ∨ (48 ≤ n ∧ n ≤ 57) ∨ n = 46 ∨ n = 45 ∨ n = 95 ∨ n = 43 ∨ n < 43 ∨ n = 44 ∨ n = 47 ∨ (58 ≤ n ∧ n ≤ 94) ∨ n = 96 ∨ 122 < n := by omega
  have fin : ∀ (ρ':Env),ρ' 0 = .string s → ρ' 3 = i64 (i + 1) → okb = true → (∃ m',m' < m ∧ ∃ i : Nat,i + m' = s.size ∧ w' = w' ∧ ρ' 0 = .string s ∧ ρ' 3 = i64 i ∧ ∀ j (hj:j < s.size),j < i → okByte s[j] = true) :=
   fun ρ' a0 a3 h => ⟨m - 1,by omega,i + 1,by omega,rfl,a0,by rw [a3]; show i64 _ = i64 _; simp,good h⟩
  rcases cases_ with h | h | h | h | h | h | h | h | h | h | h | h
  all_goals
   repeat (first | refine pG_yes rfl ?_ | refine pG_sk ?_ | refine pG_skf ?_ | refine pG_un ?_ | refine s_pick_t ?_ | refine s_pick_f ?_ | refine s_not ?_ | refine pC_true ?_ | refine pC_false ?_ | refine s_ge_t (by omega) ?_ | refine s_ge_f (by omega) ?_ | refine s_le_t (by omega) ?_ | refine s_le_f (by omega) ?_ | refine s_eqi_t (by omega) ?_ | refine s_eqi_f (by omega) ?_)
   first
    | exact bad (by rw [hb]; exact decide_eq_false (by omega))
    | exact s_add_in (by omega) (fin _ e0 rfl (by rw [hb]; exact decide_eq_true (by omega)))
 ·refine s_lt_f (by omega) (pC_false ?_)
  rw [F48_2_eq]
  have : s.data.toList.all okByte = true := by
   rw [List.all_eq_true]
   intro c hc
   obtain ⟨j,hj,rfl⟩ := List.getElem_of_mem hc
   have hj' : j < s.size := by simpa using hj
   exact hok j hj' (by omega)
  rw [this] at hk
  exact hk
theorem r_off (h:RRep w D S O I L) (hk:k (.bool S.off) w) : pFn P 114 [ptr D] w k := by
 refine F114_in _ _ _ ?_
 unfold F114_0 ptr
 refine s_eqpn upt177 (pG_yes rfl (pG_yes rfl (s_nil (pG_yes rfl (fa245_0 (pG_yes rfl (s_ldb (v := .bool (!S.off)) (isAgg4 _) h.disk rfl (pG_yes rfl (s_not (s_pick_f ?_))))))))))
 rw [Bool.not_not]; exact hk
theorem r_strokes (h:RRep w D S O I L) (hk:k (i64 S.strokes) w) : pFn P 115 [ptr D] w k := by
 refine F115_in _ _ _ ?_
 unfold F115_0 ptr
 exact s_eqpn upt177 (pC_false (s_nil (fa245_5 (s_ldb (v := i64 S.strokes) (isAgg3 _) h.disk rfl hk))))
theorem r_there (h:RRep w D S O I L) (hl:S.shown.length ≤ 4611686018427387904) (hnd:(alKeys S.shown).Nodup) (s:ByteArray) (h0:S.look s ≠ 0 → ∀ i : Int,k (.tuple #[i64 i,i64 (S.look s)]) w) (h1:S.look s = 0 → ∀ i (hi:i < S.shown.length),S.shown[i] = (s,S.of s) → k (.tuple #[i64 i,i64 0]) w) :
    pFn P 162 [ptr D,.string s] w k := by
  refine F162_in _ _ _ _ ?_
  unfold F162_0
  refine r_off h ?_
  unfold AD.look at h0 h1
  cases ho : S.off with
  | true => rw [ho] at h0; exact pC_true (h0 (by simp) 0)
  | false =>
    rw [ho] at h0 h1
    simp only [Bool.false_eq_true,if_false] at h0 h1
    refine pC_false (r_isName s (s_not ?_))
    cases hn : isName s with
    | false =>
      rw [hn] at h0
      exact pC_true (h0 (by simp) 0)
    | true =>
      rw [hn] at h0 h1
      simp only [Bool.not_true,Bool.false_eq_true,if_false] at h0 h1
      refine pC_false (s_nil (fa245_2 (s_ldb (v := L.nowv) (isAgg242 _) h.disk rfl ?_)))
      refine r_find h.now.1 hl (fun i hi e => ?_) fun hno => ?_
      · have hg : alGet S.shown s = some S.shown[i].2 := by rw [← e]; exact alGet_at hnd (List.getElem?_eq_getElem hi)
        rw [hg] at h1
        refine s_lt_f (by omega) (pC_false (h1 rfl i hi ?_))
        unfold AD.of
        rw [hg]; exact Prod.ext e rfl
      · rw [alGet_none_iff.2 hno] at h0
        exact s_lt_t (by omega) (pC_true (h0 (by simp) 0))
theorem r_stroke (h:RRep w D S O I L) (hb1:0 ≤ S.strokes ∧ S.strokes ≤ 4611686018427387904) (hb2:0 ≤ S.since ∧ S.since ≤ 4611686018427387904)
    (hk:∀ w',RNx w D O I w' S.ticked O I L → k (.tuple #[.bool (decide (S.since + 1 ≥ S.plan.from_) && decide (S.since + 1 ≤ S.plan.to_)),.bool (decide (S.since + 1 = S.plan.off))]) w') : pFn P 159 [ptr D] w k := by
  refine F159_in _ _ _ ?_
  unfold F159_0 ptr
  refine s_nil (fa245_5 (s_ldb (v := i64 S.strokes) (isAgg3 _) h.disk rfl (s_add_in (by omega) (s_nil (fa245_5 (s_st (sizeOf3 _) rfl rfl h.disk (by show 5 < 11; decide) ?_))))))
  have d1 := set_same h.disk 5 (i64 (S.strokes + 1))
  have f1 : Fr (fun b => b = D) w (w.setCell ⟨D,5,none⟩ (i64 (S.strokes + 1))) := Fr.setCell w ⟨D,5,none⟩ _
  show px P _ (w.setCell ⟨D,5,none⟩ (i64 (S.strokes + 1))) _
  generalize w.setCell ⟨D,5,none⟩ (i64 (S.strokes + 1)) = w1 at *
  refine s_nil (fa245_6 (s_ldb (v := i64 S.since) (isAgg3 _) d1 rfl (s_add_in (by omega) (s_nil (fa245_6 (s_st (sizeOf3 _) rfl rfl d1 (by show 6 < 11; decide) ?_))))))
  have d2 := set_same d1 6 (i64 (S.since + 1))
  have f2 : Fr (fun b => b = D) w1 (w1.setCell ⟨D,6,none⟩ (i64 (S.since + 1))) := Fr.setCell w1 ⟨D,6,none⟩ _
  show ∃ S_ : World → Prop,_
  have fd := Fr.drew (fun b => b = D) (w1.setCell ⟨D,6,none⟩ (i64 (S.since + 1)))
  have d3 : (w1.setCell ⟨D,6,none⟩ (i64 (S.since + 1))).drew.heap[D]? = some (.cells (rcells S.ticked L) 245 (0,0)) := d2
  have hn := h.cell (S' := S.ticked) ((f1.trans f2 fun b => .inl).trans fd fun b => .inl) d3 rfl rfl rfl rfl rfl rfl
  have hk' := hk _ hn
  clear hk hn
  refine ⟨fun u => u.heap[D]? = some (.cells (rcells S.ticked L) 245 (0,0)),d3,?_⟩
  refine q_of _ (fun w_ hS => s_nil ⟨rfl,rfl⟩) (q_of _ (fun w_ hS => fa245_6 ⟨rfl,rfl⟩) (q_of (i64 (S.since + 1)) (fun w_ hS => s_ldb (isAgg3 _) hS rfl ⟨rfl,rfl⟩) ?_))
  refine q_of _ (fun w_ hS => s_nil ⟨rfl,rfl⟩) (q_of _ (fun w_ hS => fa245_7 ⟨rfl,rfl⟩) (q_of _ (fun w_ hS => fa85_1 ⟨rfl,rfl⟩) (q_of (i64 S.plan.from_) (fun w_ hS => s_ldb (isAgg3 _) hS rfl ⟨rfl,rfl⟩) ?_)))
  have last : ∀ x : Bool,x = (decide (S.since + 1 ≥ S.plan.from_) && decide (S.since + 1 ≤ S.plan.to_)) → ∀ (kk:Value → Value → Value → Value → Value → Value → Value → Value → Value → Value → Prop),True := fun _ _ _ => trivial
  clear last
  by_cases a : S.since + 1 ≥ S.plan.from_
  · rw [decide_eq_true a,Bool.true_and] at hk'
    refine q_of _ (fun w_ hS => s_ge_t a ⟨rfl,rfl⟩) (pGq_yes rfl (pGq_yes rfl ?_))
    refine q_of _ (fun w_ hS => s_nil ⟨rfl,rfl⟩) (pGq_yes rfl (q_of _ (fun w_ hS => fa245_6 ⟨rfl,rfl⟩) (pGq_yes rfl (q_of (i64 (S.since + 1)) (fun w_ hS => s_ldb (isAgg3 _) hS rfl ⟨rfl,rfl⟩) ?_))))
    refine pGq_yes rfl (pGq_yes rfl (q_of _ (fun w_ hS => s_nil ⟨rfl,rfl⟩) (pGq_yes rfl (q_of _ (fun w_ hS => fa245_7 ⟨rfl,rfl⟩) (pGq_yes rfl (q_of _ (fun w_ hS => fa85_2 ⟨rfl,rfl⟩) (pGq_yes rfl (q_of (i64 S.plan.to_) (fun w_ hS => s_ldb (isAgg3 _) hS rfl ⟨rfl,rfl⟩) (pGq_yes rfl ?_)))))))))
    refine q_of _ (fun w_ hS => s_le ⟨rfl,rfl⟩) (q_of _ (fun w_ hS => s_pick_t ⟨rfl,rfl⟩) ?_)
    refine q_of _ (fun w_ hS => s_nil ⟨rfl,rfl⟩) (q_of _ (fun w_ hS => fa245_6 ⟨rfl,rfl⟩) (q_of (i64 (S.since + 1)) (fun w_ hS => s_ldb (isAgg3 _) hS rfl ⟨rfl,rfl⟩) ?_))
    refine q_of _ (fun w_ hS => s_nil ⟨rfl,rfl⟩) (q_of _ (fun w_ hS => fa245_7 ⟨rfl,rfl⟩) (q_of _ (fun w_ hS => fa85_0 ⟨rfl,rfl⟩) (q_of (i64 S.plan.off) (fun w_ hS => s_ldb (isAgg3 _) hS rfl ⟨rfl,rfl⟩) ?_)))
    refine q_of _ (fun w_ hS => s_eqi ⟨rfl,rfl⟩) ?_
    rw [show (S.since + 1 == S.plan.off) = decide (S.since + 1 = S.plan.off) from rfl]
    exact hk'
  · rw [decide_eq_false a,Bool.false_and] at hk'
    refine q_of _ (fun w_ hS => s_ge_f a ⟨rfl,rfl⟩) ?_
    repeat (first | refine pGq_sk ?_ | refine pGq_un ?_)
    refine q_of _ (fun w_ hS => s_pick_f ⟨rfl,rfl⟩) ?_
    refine q_of _ (fun w_ hS => s_nil ⟨rfl,rfl⟩) (q_of _ (fun w_ hS => fa245_6 ⟨rfl,rfl⟩) (q_of (i64 (S.since + 1)) (fun w_ hS => s_ldb (isAgg3 _) hS rfl ⟨rfl,rfl⟩) ?_))
    refine q_of _ (fun w_ hS => s_nil ⟨rfl,rfl⟩) (q_of _ (fun w_ hS => fa245_7 ⟨rfl,rfl⟩) (q_of _ (fun w_ hS => fa85_0 ⟨rfl,rfl⟩) (q_of (i64 S.plan.off) (fun w_ hS => s_ldb (isAgg3 _) hS rfl ⟨rfl,rfl⟩) ?_)))
    refine q_of _ (fun w_ hS => s_eqi ⟨rfl,rfl⟩) ?_
    rw [show (S.since + 1 == S.plan.off) = decide (S.since + 1 = S.plan.off) from rfl]
    exact hk'
theorem r_end (h:RRep w D S O I L) (hoff:S.off = false) (out:Bool) (e:Int) (hk:∀ w',RNx w D O I w' { S with off := out } O I L → k (i64 (if out then 50 else e)) w') : pFn P 160 [ptr D,.bool out,i64 e] w k := by
 refine F160_in _ _ _ _ _ ?_
 unfold F160_0 ptr
 cases out with
 | true =>
  refine pC_true (s_nil (fa245_0 (s_st (sizeOf4 _) rfl rfl h.disk (by show 0 < 11; decide) ?_)))
  exact hk _ (h.cell (S' := { S with off := true }) (Fr.setCell w ⟨D,0,none⟩ _) (set_same h.disk 0 _) rfl rfl rfl rfl rfl rfl)
 | false =>
  refine pC_false ?_
  have : ({ S with off := false } : AD) = S := by cases S; simp only at hoff; subst hoff; rfl
  rw [this] at hk
  exact hk w (RNx.refl h)
theorem usedOf_take (S:AD) {l:Names} {i:Nat} (hi:i < l.length) : usedOf S (l.take (i + 1)) = usedOf S (l.take i) + (S.things l[i].2).shown.length := by
 unfold usedOf
 rw [List.take_succ_eq_append_getElem hi]
 simp only [List.map_append,List.map_cons,List.map_nil,List.sum_append,List.sum_cons,List.sum_nil,Nat.add_zero]
theorem usedOf_take_le (S:AD) (l:Names) (i:Nat) : usedOf S (l.take i) ≤ usedOf S l := by
 unfold usedOf
 conv => rhs; rw [← List.take_append_drop i l,List.map_append,List.sum_append]
 omega
theorem r_used (h:RRep w D S O I L) (hl:S.shown.length ≤ 1152921504606846976) (hu:S.used ≤ 1152921504606846976) (hk:k (i64 S.used) w) : pFn P 189 [ptr D] w k := by
 refine F189_in _ _ _ ?_
 unfold F189_0
 refine s_eqpn upt177 (pC_false ?_)
 refine F189L1_inv (m := S.shown.length) k (fun m ρ w' => ∃ i : Nat,i + m = S.shown.length ∧ w' = w ∧ ρ 0 = ptr D ∧ ρ 4 = i64 i ∧ ρ 3 = i64 (usedOf S (S.shown.take i))) ?_ ⟨0,by omega,rfl,rfl,rfl,rfl⟩
 rintro m ρ w' ⟨i,him,rfl,e0,e4,e3⟩
 rw [F189_1_eq]
 unfold F189_1
 rw [e0,e4,e3]
 refine s_nil (fa245_2 (s_ldb (v := L.nowv) (isAgg242 _) h.disk rfl (s_lenS usl242 h.now.1 ?_)))
 have hS : S.used = usedOf S S.shown := rfl
 by_cases hi : i < S.shown.length
 ·have e1 := usedOf_take S hi
  have e2 := usedOf_take_le S S.shown (i + 1)
  refine s_lt_t (by omega) (pC_true (s_nil (fa245_2 (s_ldb (v := L.nowv) (isAgg242 _) h.disk rfl (nm_thing h.now.1 hi fun p q => ?_)))))
  have hr : L.has S.shown[i].2 := h.sub _ (.inl ⟨S.shown[i].1,List.getElem_mem hi⟩)
  obtain ⟨sv,hv,ps,hb,h1,h2,_⟩ := (h.things _ hr).ex
  obtain ⟨A,c,ev,_⟩ := h2.1.form
  subst ev
  refine s_nil (fa258_1 (s_ldb (v := .slice A (S.things S.shown[i].2).shown.length c) (isAgg23 _) hb rfl (s_len usl23 (s_add_in (by omega) (s_add_in (by omega) ⟨m - 1,by omega,i + 1,by omega,rfl,e0,?_,?_⟩)))))
  ·show i64 _ = i64 _; simp
  ·show i64 _ = i64 _; rw [e1]; simp
 ·refine s_lt_f (by omega) (pC_false ?_)
  rw [F189_2_eq]
  unfold F189_2
  rw [List.take_of_length_le (by omega)] at e3
  show k (ρ 3) w'
  rw [e3]; exact hk
end
section
variable {w w0:World} {D:Nat} {S S':AD} {O I:Nat → Prop} {L L':RLay} {k:KV}
theorem on_reach {c:Turn} {l:Names} (hc:∀ a b,c = .give a b → alGet l a ≠ none) {n:ByteArray} {t:Nat} (h:(n,t) ∈ c.on l) : (∃ m,(m,t) ∈ l) ∨ ∃ m,c = .mk m t := by
 cases c with
 | mk m u =>
  rcases mem_setN.1 h with h | h
  ·injection h with h1 h2; subst h2; exact .inr ⟨m,rfl⟩
  ·exact .inl ⟨n,h.1⟩
 | give a b =>
  rcases mem_setN.1 h with h | h
  ·injection h with h1 h2
   cases hg : alGet l a with
   | none => exact absurd hg (hc a b rfl)
   | some u => rw [hg] at h2; subst h2; exact .inl ⟨a,mem_of_alGet hg⟩
  ·exact .inl ⟨n,(mem_alDel.1 h.1).1⟩
 | take m => exact .inl ⟨n,(mem_alDel.1 h).1⟩
theorem rturn_len (loc:Nat → Nat) (c:Turn) : (rturn loc c).length = 4 := by cases c <;> rfl
theorem rturn_one (loc:Nat → Nat) (c:Turn) : ∀ u ∈ rturn loc c,u.oneCell' = true := by
 intro u hu
 cases c <;> simp [rturn] at hu <;> rcases hu with rfl | rfl | rfl | rfl <;> rfl
theorem s_ldTurn {loc:Nat → Nat} {c:Turn} {a:Nat} {w:World} {k:KV} (ha:w.heap[a]? = some (.cells (rturn loc c).toArray 260 (0,0))) (hk:k (turnArg loc c) w) : px P (Instr.loadAt 260 (ptr a)) w k := by
 refine s_ldAgg (m := 4) (isAgg260 _) (sizeOf260 _) ha (by simp [rturn_len]) ?_
 have : (((rturn loc c).toArray.toList.drop 0).take 4).toArray = (rturn loc c).toArray := by rw [List.drop_zero,List.take_of_length_le (by simp [rturn_len])]
 rw [this]; exact hk
set_option maxHeartbeats 1000000 in
theorem r_turned {a:Nat} {c:Turn} {kk:Value → Value → Value → Value → Value → Value → Value → Value → Value → Value → Value → Value → Value → Value → KV} (h:RRep w D S O I L) (hrow:S.row.length ≤ 1099511627776) (hl:S.shown.length ≤ 549755813888) (hnd:(alKeys S.shown).Nodup)
    (hc:∀ a b,c = .give a b → alGet S.shown a ≠ none) (hm:∀ n t,c = .mk n t → L.has t) (ha:w.heap[a]? = some (.cells (rturn L.loc c).toArray 260 (0,0))) (haO:¬ O a)
    (hk:∀ w' O' I' L',RNx w D O I w' (S.turned c) O' I' L' → ∀ x1 x2 x3 x4 x5 x6 x7 x8 x9 x10 x11 x12 x13 x14 x15,kk x1 x2 x3 x4 x5 x6 x7 x8 x9 x10 x11 x12 x13 x14 x15 w') :
    ∃ S_ : World → Prop,S_ w.drew ∧ (fun w =>
      pq P S_ (nilSem (ptr D)) fun v44 =>
      pq P S_ (Instr.fieldAt 245 v44 2) fun v45 =>
      pq P S_ (Instr.loadAt 242 v45) fun v46 =>
      pq P S_ (Instr.loadAt 260 (ptr a)) fun v47 =>
      pFn P 161 [v46,v47] w fun v48 w => S_ w ∧ (
      pq P S_ (nilSem (ptr D)) fun v49 =>
      pq P S_ (Instr.fieldAt 245 v49 2) fun v50 =>
      pu P (Instr.storeAt 242 v50 v48) w fun w => (
      ∃ S_2 : World → Prop,S_2 w.drew ∧ (fun w =>
      pq P S_2 (nilSem (ptr D)) fun v53 =>
      pq P S_2 (Instr.fieldAt 245 v53 4) fun v54 =>
      pq P S_2 (Instr.loadAt 243 v54) fun v55 =>
      pq P S_2 (Instr.loadAt 260 (ptr a)) fun v56 =>
      px P (Instr.buildSlice 243 1 #[(0,v56)]) w fun v57 w => S_2 w ∧ (
      px P (bSem .append #[243,243] 243 #[v55,v57]) w fun v58 w => S_2 w ∧ (
      pq P S_2 (nilSem (ptr D)) fun v59 =>
      pq P S_2 (Instr.fieldAt 245 v59 4) fun v60 =>
      pu P (Instr.storeAt 243 v60 v58) w fun w => (
      kk v44 v45 v46 v47 v48 v49 v50 v53 v54 v55 v56 v57 v58 v59 v60 w)))) w.drew))) w.drew := by
  have haD : a ≠ D := fun e => haO (e ▸ h.oD)
  have hDs : D < w.heap.size := h.lt D (.inl h.oD)
  have has : a < w.heap.size := lt_of_get ha
  have f0 : Fr no w w.drew := Fr.drew _ _
  have hTD : ∀ b,sblk L.turnv = some b → b ≠ D ∧ b < w.heap.size := fun b hb => by
    refine ⟨?_,h.lt b (.inl (h.oturn b hb))⟩
    rintro rfl
    obtain ⟨c1,h1⟩ := own_obj h.turns hb
    exact absurd (two_types h1 h.disk) (by decide)
  have hTa : ∀ b,sblk L.turnv = some b → b ≠ a := fun b hb e => haO (e ▸ h.oturn b hb)
  refine ⟨fun u => u.heap[D]? = some (.cells (rcells S L) 245 (0,0)) ∧ u.heap[a]? = some (.cells (rturn L.loc c).toArray 260 (0,0)),⟨h.disk,ha⟩,?_⟩
  refine q_of _ (fun w_ hS => s_nil ⟨rfl,rfl⟩) (q_of _ (fun w_ hS => fa245_2 ⟨rfl,rfl⟩) (q_of L.nowv (fun w_ hS => s_ldb (isAgg242 _) hS.1 rfl ⟨rfl,rfl⟩) (q_of (turnArg L.loc c) (fun w_ hS => s_ldTurn hS.2 ⟨rfl,rfl⟩) ?_)))
  refine r_turn (h.now.1.fr (by omega) f0 fun _ _ h => h) hl hc hnd fun v1 w1 hv1 hb1 f1 => ?_
  obtain ⟨A1,c1,ev1⟩ : ∃ A c',v1 = .slice A (c.on S.shown).length c' := by obtain ⟨A,c',e,_⟩ := hv1; exact ⟨A,c',e⟩
  subst ev1
  have f01 : Fr no w w1 := f0.trans f1 fun b hb => .inl hb
  have d1 := f01.get h.disk id
  have a1 := f01.get ha id
  refine ⟨⟨d1,a1⟩,?_⟩
  refine q_of _ (fun w_ hS => s_nil ⟨rfl,rfl⟩) (q_of _ (fun w_ hS => fa245_2 ⟨rfl,rfl⟩) ?_)
  refine s_st (sizeOf242 _) rfl rfl d1 (by show 2 < 11; decide) ?_
  have d2 := set_same d1 2 (.slice A1 (c.on S.shown).length c1)
  have a2 := set_other 2 (.slice A1 (c.on S.shown).length c1) haD a1
  have f2 : Fr (fun b => b = D) w1 (w1.setCell ⟨D,2,none⟩ (.slice A1 (c.on S.shown).length c1)) := Fr.setCell w1 ⟨D,2,none⟩ _
  have z2 : (w1.setCell ⟨D,2,none⟩ (.slice A1 (c.on S.shown).length c1)).heap.size = w1.heap.size := by simp [World.setCell]
  have fd2 : Fr no (w1.setCell ⟨D,2,none⟩ (.slice A1 (c.on S.shown).length c1)) (w1.setCell ⟨D,2,none⟩ (.slice A1 (c.on S.shown).length c1)).drew := Fr.drew _ _
  show ∃ S_2 : World → Prop,S_2 (w1.setCell ⟨D,2,none⟩ (.slice A1 (c.on S.shown).length c1)).drew ∧ _
  have f12 : Fr (fun b => b = D) w (w1.setCell ⟨D,2,none⟩ (.slice A1 (c.on S.shown).length c1)).drew := ((f01.mono fun b hb => hb.elim).trans f2 fun b => .inl).trans fd2 fun b hb => hb.elim
  have f12' : Fr (fun b => b = D) w1 (w1.setCell ⟨D,2,none⟩ (.slice A1 (c.on S.shown).length c1)).drew := f2.trans fd2 fun b hb => hb.elim
  have d2' : (w1.setCell ⟨D,2,none⟩ (.slice A1 (c.on S.shown).length c1)).drew.heap[D]? = _ := d2
  have a2' : (w1.setCell ⟨D,2,none⟩ (.slice A1 (c.on S.shown).length c1)).drew.heap[a]? = _ := a2
  have z2' : (w1.setCell ⟨D,2,none⟩ (.slice A1 (c.on S.shown).length c1)).drew.heap.size = w1.heap.size := z2
  generalize (w1.setCell ⟨D,2,none⟩ (.slice A1 (c.on S.shown).length c1)).drew = w2 at *
  clear d2 a2 f2 z2 fd2
  refine ⟨fun u => u.heap[D]? = some (.cells ((rcells S L).setIfInBounds 2 (.slice A1 (c.on S.shown).length c1)) 245 (0,0)) ∧ u.heap[a]? = some (.cells (rturn L.loc c).toArray 260 (0,0)),⟨d2',a2'⟩,?_⟩
  refine q_of _ (fun w_ hS => s_nil ⟨rfl,rfl⟩) (q_of _ (fun w_ hS => fa245_4 ⟨rfl,rfl⟩) (q_of L.turnv (fun w_ hS => s_ldb (isAgg243 _) hS.1 rfl ⟨rfl,rfl⟩) (q_of (turnArg L.loc c) (fun w_ hS => s_ldTurn hS.2 ⟨rfl,rfl⟩) ?_)))
  refine px_ok (w' := w2.alloc (.cells (rturn L.loc c).toArray 260)) (v := .slice (some ⟨w2.heap.size,0,none⟩) 1 1) (by unfold turnArg; cases c <;> kernel_rfl) ?_
  have f3 := Fr.alloc no w2 (.cells (rturn L.loc c).toArray 260)
  have ho3 := own_lit w2 0 260 4 (rturn L.loc c).toArray 1 (Nat.zero_le _) (by unfold maxLen; omega) (by simp [rturn_len])
  have z3 : (w2.alloc (.cells (rturn L.loc c).toArray 260)).heap.size = w2.heap.size + 1 := by simp
  generalize w2.alloc (.cells (rturn L.loc c).toArray 260) = w3 at *
  have z12 := f01.size
  refine ⟨⟨f3.get d2' id,f3.get a2' id⟩,?_⟩
  have own2 : w2.ownsRow 0 260 4 L.turnv S.row.length (S.row.flatMap (rturn L.loc)) := own_fr h.turns f12 fun b hb => (hTD b hb).1
  refine ap243 (own_fr own2 f3 fun _ _ h => h) (Src.of_own ho3) (by simpa using rturn_one L.loc c) (by omega) (Nat.zero_le _) fun v4 w4 h4 f4 hb4 => ?_
  have hne4 : ∀ b,some b = sblk L.turnv → b ≠ D ∧ b ≠ a := fun b hb => ⟨(hTD b hb.symm).1,hTa b hb.symm⟩
  have d4 := f4.get (f3.get d2' id) fun hb => (hne4 D hb).1 rfl
  have a4 := f4.get (f3.get a2' id) fun hb => (hne4 a hb).2 rfl
  refine ⟨⟨d4,a4⟩,?_⟩
  refine q_of _ (fun w_ hS => s_nil ⟨rfl,rfl⟩) (q_of _ (fun w_ hS => fa245_4 ⟨rfl,rfl⟩) ?_)
  have v4o := own_one h4
  refine s_st (sizeOf243 _) v4o.1 v4o.2 d4 (by show 4 < 11; decide) ?_
  have d5 := set_same d4 4 v4
  have f5 : Fr (fun b => b = D) w4 (w4.setCell ⟨D,4,none⟩ v4) := Fr.setCell w4 ⟨D,4,none⟩ _
  have z5 : (w4.setCell ⟨D,4,none⟩ v4).heap.size = w4.heap.size := by simp [World.setCell]
  have hv4D : ∀ b,sblk v4 = some b → b ≠ D := by
    intro b hb
    rcases hb4 with e | e
    · exact (hTD b (e ▸ hb)).1
    · rw [e] at hb; injection hb with hb; omega
  have z34 := f4.size
  have hblk4 : ∀ b,sblk v4 = some b → sblk L.turnv = some b ∨ w3.heap.size ≤ b := by
    intro b hb
    rcases hb4 with e | e
    · exact .inl (e ▸ hb)
    · rw [e] at hb; injection hb with hb; exact .inr (by omega)
  have v4lt : ∀ b,sblk v4 = some b → b < w4.heap.size := fun b hb => (own_blk_lt h4 hb).2
  have hrow5 : w4.ownsRow 0 260 4 v4 (S.row.length + 1) ((S.row ++ [c]).flatMap (rturn L.loc)) := by
    rw [List.flatMap_append]
    simpa using h4
  have hrow6 : (w4.setCell ⟨D,4,none⟩ v4).ownsRow 0 260 4 v4 (S.row.length + 1) ((S.row ++ [c]).flatMap (rturn L.loc)) := own_fr hrow5 f5 hv4D
  show kk _ _ _ _ _ _ _ _ _ _ _ _ _ _ _ (w4.setCell ⟨D,4,none⟩ v4)
  generalize w4.setCell ⟨D,4,none⟩ v4 = w5 at *
  have g14 : Fr (fun b => b = D ∨ sblk L.turnv = some b) w1 w4 := ((f12'.mono fun b hb => .inl (.inl hb)).trans f3 fun b hb => hb.elim).trans f4 fun b hb => .inl (.inr hb.symm)
  have g15 : Fr (fun b => b = D ∨ sblk L.turnv = some b) w1 w5 := g14.trans f5 fun b hb => .inl (.inl hb)
  have g05 : Fr (fun b => b = D ∨ sblk L.turnv = some b) w w5 := (f01.mono fun b hb => hb.elim).trans g15 fun b hb => .inl hb
  have hnI : ∀ b,I b → ¬ (b = D ∨ sblk L.turnv = some b) := by
    rintro b hb (rfl | e)
    · exact h.apart b h.oD hb
    · exact h.apart b (h.oturn b e) hb
  have htold : ∀ b,sblk L.toldv = some b → ¬ (b = D ∨ sblk L.turnv = some b) := by
    rintro b hb (rfl | e)
    · obtain ⟨c1,h1⟩ := own_obj h.told hb; exact absurd (two_types h1 h.disk) (by decide)
    · obtain ⟨c1,h1⟩ := own_obj h.told hb
      obtain ⟨c2,h2⟩ := own_obj h.turns e
      exact absurd (two_types h1 h2) (by decide)
  refine hk w5 (fun b => O b ∨ sblk v4 = some b) (fun b => I b ∨ sblk (.slice A1 (c.on S.shown).length c1) = some b) { L with nowv := .slice A1 (c.on S.shown).length c1,turnv := v4 } ⟨?_,?_,fun b => .inl,fun b => .inl,?_,?_⟩ _ _ _ _ _ _ _ _ _ _ _ _ _ _ _
  · refine h.plain (L' := { L with nowv := .slice A1 (c.on S.shown).length c1,turnv := v4 }) g05 (fun b hb => .inl (hb.elim .inl fun h => .inr (.inl h))) d5 rfl ?_ rfl rfl rfl (Nat.le_refl _) ⟨?_,fun b hb => .inr hb⟩ ?_ ?_ ?_ (fun b => .inl) (fun b => .inl) (fun b hb => .inr hb) (fun b hb => .inl (h.otold b hb)) ?_ ?_
    · rintro t (⟨n,ht⟩ | ⟨n,ht⟩ | ⟨n,ht⟩)
      · rcases on_reach hc ht with ⟨m,hm'⟩ | ⟨m,hm'⟩
        · exact h.sub t (.inl ⟨m,hm'⟩)
        · exact hm m t hm'
      · exact h.sub t (.inr (.inl ⟨n,ht⟩))
      · rcases List.mem_append.1 ht with ht | ht
        · exact h.sub t (.inr (.inr ⟨n,ht⟩))
        · rw [List.mem_singleton] at ht; exact hm n t ht.symm
    · refine hv1.fr (by omega) g15 fun b hb => ?_
      have := (hb1 b hb).1
      have f0s := f0.size
      rintro (rfl | e)
      · omega
      · have := (hTD b e).2; omega
    · exact (h.bef.fr g05 hnI).mono fun b => .inl
    · show w5.ownsRow 0 260 4 v4 (S.row ++ [c]).length ((S.row ++ [c]).flatMap (rturn L.loc))
      rw [List.length_append]; exact hrow6
    · exact own_fr h.told g05 htold
    · rintro b (hb | hb) (hi | hi)
      · exact h.apart b hb hi
      · have := (hb1 b hi).1
        have := h.lt b (.inl hb)
        have f0s := f0.size; omega
      · rcases hblk4 b hb with e | e
        · exact h.apart b (h.oturn b e) hi
        · have := h.lt b (.inr hi); omega
      · have := hb1 b hi
        rcases hblk4 b hb with e | e
        · have := (hTD b e).2
          have f0s := f0.size; omega
        · omega
    · rintro b ((hb | hb) | (hb | hb))
      · have := h.lt b (.inl hb); omega
      · have := v4lt b hb; omega
      · have := h.lt b (.inr hb); omega
      · have := (hb1 b hb).2; omega
  · exact g05.mono fun b hb => .inl (hb.elim (fun e => e ▸ h.oD) (h.oturn b))
  · rintro b (hb | hb)
    · exact .inl hb
    · rcases hblk4 b hb with e | e
      · exact .inl (h.oturn b e)
      · exact .inr (by omega)
  · rintro b (hb | hb)
    · exact .inl hb
    · have := (hb1 b hb).1
      have f0s := f0.size
      exact .inr (by omega)
end
end Go.Proofs.YteeeggphkhimcaaGreatDoor
