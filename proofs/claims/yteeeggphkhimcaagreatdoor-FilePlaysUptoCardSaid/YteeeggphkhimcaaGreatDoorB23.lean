/- Put together by a program (wip/tools/shake.py): Plays6C,Plays6D,Script6. -/
import Derived.Test.YteeeggphkhimcaaGreatDoorB22
import Derived.Test.YteeeggphkhimcaaGreatDoorB18
set_option linter.unusedVariables false
set_option linter.unusedSimpArgs false
set_option maxRecDepth 100000
namespace Go.Proofs.YteeeggphkhimcaaGreatDoor
open Go Go.Proofs Go.RowKit Go.Proofs.XRed Go.Proofs.XHeap Go.Proofs.XMaps Go.Proofs.XSlices Go.Proofs.XDisk Go.Proofs.XCalls Go.Proofs.XSep Tryz
section
variable {w:World} {k:KV} {W:World} {xb Pb D E c:Nat} {x:StepA} {dv pv:Value} {S T:AD} {l:List Asrt}
theorem s_mk0 {n:Int} (h0:0 ≤ n) (hn:n ≤ 1099511627776) (hS:Sep l w) (hk:∀ v w',Sep (OwnA 5 1 v 0 [] :: l) w' → k v w') : px P (Instr.makeSlice 23 (i64 0) (i64 n)) w k := by
 refine px_ok (run_make w 23 5 t5 (.int .u8 0) (by kernel_rfl) (by kernel_rfl) (by kernel_rfl) .i64 .i64 0 n (by decide) h0 (by show (1 : Int) * n ≤ _; omega) (by omega)) ?_
 have e : madeCells (Value.int IntKind.u8 0).cells (n.toNat * t5.size) = (List.replicate n.toNat (.int .u8 0)).toArray := by
  rw [madeCells_one _ rfl,show t5.size = 1 by kernel_rfl,Nat.mul_one]
 rw [e]
 have f1 := Fr.alloc no w (.cells (List.replicate n.toNat (.int .u8 0)).toArray 5)
 refine hk _ _ (hS.newrow f1 (fun b hb => hb.elim) ⟨by simp,.inr ⟨w.heap.size,n.toNat,_,rfl,Nat.zero_le _,alloc_new _ _,Nat.zero_le _,by unfold maxLen; omega,by simp,by simp⟩⟩ fun b hb => ?_)
 injection hb with hb; exact Nat.le_of_eq hb
theorem sep_apb {m n:Nat} {v y:Value} {xs cs:List Value} (hS:Sep (OwnA 5 1 v n xs :: l) w) (HS:Src w y 1 m cs) (h1:∀ u ∈ cs,u.oneCell' = true) (hb:n + m ≤ 1099511627776) (hk:∀ v' w',Sep (OwnA 5 1 v' (n + m) (xs ++ cs) :: l) w' → k v' w') : px P (bSem .append #[23,23] 23 #[v,y]) w k :=
 ap23 (hS.own 0 rfl) HS h1 (by omega) (Nat.zero_le _) fun v' w' ho hf hb => hk v' w' (hS.ownapp 0 rfl ho hf hb)
theorem fill77 (bb:List UInt8) (i:Nat) (hi:i < bb.length) : (List.replicate i (77 : UInt8) ++ bb.drop i).set i 77 = List.replicate (i + 1) 77 ++ bb.drop (i + 1) := by
 apply List.ext_getElem?
 intro j
 rw [List.getElem?_set]
 simp only [List.getElem?_append,List.length_replicate,List.length_append,List.length_drop,List.getElem?_replicate,List.getElem?_drop]
 by_cases h : i = j
 ·subst h; simp; omega
 ·rw [if_neg h]
  by_cases h2 : j < i
  ·rw [if_pos h2,if_pos h2,if_pos (by omega),if_pos (by omega)]
  ·rw [if_neg h2,if_neg (by omega)]; congr 1; omega
theorem u8s_set77 (l:List UInt8) (i:Nat) : (u8s l).set i (.int .u8 77) = u8s (l.set i 77) := by unfold u8s; rw [List.map_set]; rfl
theorem holds_own {v:Value} {g cap n:Nat} {d r:Bytes} (hn:n = d.length + r.length) (hv:v = .slice (some ⟨g,0,none⟩) n cap) : Holds (OwnA 5 1 v n (u8s (d ++ r))) (.slice (some ⟨g,0,none⟩) d.length cap) d := by
 rintro w O I ⟨h1,h2,h3⟩
 obtain ⟨A,c',e,hc,hl,hr⟩ := Src.of_own h1
 rw [hv] at e
 injection e with e1 e2 e3
 subst e3
 refine ⟨⟨_,_,rfl,by omega,by simp [u8s],fun h0 => ?_⟩,fun h0 b hb => .inl ((h2 b).2 (by rw [hv]; exact hb))⟩
 obtain ⟨b,o,q,hcell⟩ := hr (by omega)
 rw [← e1] at q
 injection q with q
 refine ⟨g,0,rfl,fun j u hj => ?_⟩
 have hlt : j < (u8s d).length := (List.getElem?_eq_some_iff.1 hj).1
 have := hcell j u (by rw [u8s_append,List.getElem?_append_left hlt]; exact hj)
 injection q with q1 q2 q3
 subst q1; subst q2
 exact this
theorem getF_len (ok:S.Ok c) (name:ByteArray) : (S.getF name).2.1.length ≤ 1048576 := by
 unfold AD.getF
 split
 ·simp
 ·split
  ·simp
  ·exact read_len ok name _ _
def callA (S:AD) (x:StepA) : AD :=
 if x.kind = 1 then (S.putF x.name x.data).2 else if x.kind = 2 then (S.getF x.name).2.2 else if x.kind = 3 then (S.dropF x.name).2 else (S.cleanF (AD.listA S x.name)).2
abbrev C6 (W:World) (xb:Nat) (x:StepA) (dv pv:Value) (Pb D E:Nat) (S T:AD) (v:Value) (bb:Bytes) : List Asrt := OwnA 5 1 v bb.length (u8s bb) :: S6 W xb x dv pv Pb D E S T
theorem seen6' {l:List Asrt} {i j:Nat} (h:Sep l w) (hi:l[i]? = some (Cells xb (step6Cells x dv pv).toArray 113)) (hj:l[j]? = some (Cells Pb #[ptr D,ptr E] 181)) : Seen6 xb x dv pv Pb D E w := ⟨h.cells i hi,h.cells j hj⟩
theorem errT_base (hg:ErrT W) (hf:Fr no W w) : ErrT w := hg.fr hf fun h => h
theorem call_1 {ρ:Env} {v:Value} (hS:Sep (C6 W xb x dv pv Pb D E S S v x.data) w) (hd:x.data.length ≤ 549755813000) (e0:ρ 0 = ptr Pb) (e3:ρ 3 = ptr xb) (e5:ρ 5 = v) (e6:ρ 6 = i64 0)
    (hk:∀ (ρ':Env) w' v',Sep (C6 W xb x dv pv Pb D E S S v' (x.data ++ List.replicate 40 99)) w' → ρ' 0 = ptr Pb → ρ' 3 = ptr xb → ρ' 5 = v' → F63_2 k ρ' w') : F63L1 k ρ w := by
  refine F63L1_inv (m := 40) k (fun m ρ w' => ∃ (i:Nat) (v:Value),i + m = 40 ∧ Sep (C6 W xb x dv pv Pb D E S S v (x.data ++ List.replicate i 99)) w' ∧ ρ 0 = ptr Pb ∧ ρ 3 = ptr xb ∧ ρ 5 = v ∧ ρ 6 = i64 i) ?_ ⟨0,v,by omega,by simpa using hS,e0,e3,e5,e6⟩
  clear hS e0 e3 e5 e6
  rintro m ρ w' ⟨i,v,him,hS,e0,e3,e5,e6⟩
  rw [F63_1_eq]
  unfold F63_1
  rw [e5,e6]
  by_cases hi : i < 40
  · refine s_lt_t (by omega) (pC_true (lit1_23 rfl ?_))
    have hS2 := hS.q (Fr.alloc no w' (.cells #[(.int .u8 99)] 5))
    have g2 : SBytes (w'.alloc (.cells #[(.int .u8 99)] 5)) (.slice (some ⟨w'.heap.size,0,none⟩) 1 1) [99] := SBytes.blk (bs := [99]) (alloc_new w' (.cells (u8s [99]).toArray 5)) (Nat.le_refl _)
    generalize w'.alloc (.cells #[(.int .u8 99)] 5) = w2 at *
    refine sep_apb hS2 g2 u8s_one (by simp; omega) fun v' w3 hS3 => ?_
    refine s_add_in (by omega) ?_
    refine ⟨m - 1,by omega,i + 1,v',by omega,?_,e0,e3,rfl,?_⟩
    · have e : x.data ++ List.replicate (i + 1) (99 : UInt8) = (x.data ++ List.replicate i 99) ++ [99] := by rw [List.replicate_succ',List.append_assoc]
      have e2 : ((x.data ++ List.replicate i (99 : UInt8)) ++ [99]).length = (x.data ++ List.replicate i (99 : UInt8)).length + [(99 : UInt8)].length := by rw [List.length_append]
      show Sep (OwnA 5 1 v' (x.data ++ List.replicate (i + 1) (99 : UInt8)).length (u8s (x.data ++ List.replicate (i + 1) (99 : UInt8))) :: S6 W xb x dv pv Pb D E S S) w3
      rw [e,e2,u8s_append]; exact hS3
    · show i64 _ = i64 _; simp
  · refine s_lt_f (by omega) (pC_false ?_)
    rw [F63_2_eq]
    have : i = 40 := by omega
    subst this
    exact hk _ w' v hS e0 e3 e5
set_option maxHeartbeats 1000000 in
/-- The bytes that were handed in are as they were; they are written over. -/
theorem call_3 {ρ:Env} {v:Value} (hS:Sep (C6 W xb x dv pv Pb D E S S v (x.data ++ List.replicate 40 99)) w) (hv:StepV W x dv pv) (hd:x.data.length ≤ 549755813000) (e0:ρ 0 = ptr Pb) (e3:ρ 3 = ptr xb) (e5:ρ 5 = v) (e7:ρ 7 = .bool true) (e8:ρ 8 = i64 0)
    (hk:∀ w',Sep (L6 W Pb D E S S) w' → k (.bool true) w') : F63L2 k ρ w := by
  have hbl : (x.data ++ List.replicate 40 (99 : UInt8)).length = x.data.length + 40 := by simp
  refine F63L2_inv (m := x.data.length + 40) k (fun m ρ w' => ∃ (i:Nat),i + m = x.data.length + 40 ∧ Sep (OwnA 5 1 v (x.data.length + 40) (u8s (List.replicate i 77 ++ (x.data ++ List.replicate 40 99).drop i)) :: S6 W xb x dv pv Pb D E S S) w' ∧ ρ 3 = ptr xb ∧ ρ 5 = v ∧ ρ 7 = .bool true ∧ ρ 8 = i64 i) ?_ ⟨0,by omega,by rw [← hbl]; exact hS,e3,e5,e7,e8⟩
  clear hS e0 e3 e5 e7 e8
  rintro m ρ w' ⟨i,him,hS,e3,e5,e7,e8⟩
  rw [F63_3_eq]
  unfold F63_3
  rw [e3,e5,e8]
  refine s_lenS usl23 (Src.of_own (hS.own 0 rfl)) ?_
  by_cases hi : i < x.data.length + 40
  · refine s_lt_t (by omega) (pC_true ?_)
    have hS0 := hS
    replace hS := hS.q (Fr.drew _ _)
    obtain ⟨g,cap,cur,ev,hcap,-,hgc,hic,hcu,-⟩ := own_at (i := i) (hS.own 0 rfl) (by omega)
    have hfill : (List.replicate i (77 : UInt8) ++ (x.data ++ List.replicate 40 99).drop i)[i]? = (x.data ++ List.replicate 40 (99 : UInt8))[i]? := by
      rw [List.getElem?_append_right (by simp)]; simp [List.getElem?_drop]
    have hdat : (hi':i < x.data.length) → ∃ b o c',dv = .slice (some ⟨b,o,none⟩) x.data.length c' ∧ w'.drew.cell? ⟨b,o + i,none⟩ = some (.int .u8 (x.data[i].toNat)) := fun hi' => bytes_at ((hv.fr (hS.base_at 5 rfl)).data) hi'
    obtain ⟨Ad,cd,ed,_⟩ := hv.data.form
    rw [u8s,List.getElem?_map,hfill] at hcu
    subst ev
    have next : ∀ ρ',ρ' 3 = ptr xb → ρ' 5 = .slice (some ⟨g,0,none⟩) (x.data.length + 40) cap → ρ' 7 = .bool true → ρ' 8 = i64 i → F63A2 k (fun ρ' w' => ∃ m',m' < m ∧ ∃ (i:Nat),i + m' = x.data.length + 40 ∧ Sep (OwnA 5 1 (.slice (some ⟨g,0,none⟩) (x.data.length + 40) cap) (x.data.length + 40) (u8s (List.replicate i 77 ++ (x.data ++ List.replicate 40 99).drop i)) :: S6 W xb x dv pv Pb D E S S) w' ∧ ρ' 3 = ptr xb ∧ ρ' 5 = .slice (some ⟨g,0,none⟩) (x.data.length + 40) cap ∧ ρ' 7 = .bool true ∧ ρ' 8 = i64 i) [1,0,0,1] ρ' w'.drew := by
      intro ρ' q3 q5 q7 q8
      rw [F63_4_eq]
      unfold F63_4
      rw [q5,q8]
      refine s_ix (i := (i:Int)) (usl23) (sze23 _) (by omega) (by omega) ?_
      obtain ⟨g',cap',cur',ev',hg',hi',hset⟩ := hS.ownset 0 rfl (i := i) (by omega)
      injection ev' with ev1
      injection ev1 with ev1
      injection ev1 with ev1
      subst ev1
      rw [show (0 + (i:Int).toNat * 1) = i by simp]
      refine s_st (sizeOf5 _) rfl rfl hg' hi' ?_
      have hS2 := hset (.int .u8 77)
      refine s_add_in (by omega) ?_
      refine ⟨m - 1,by omega,i + 1,by omega,?_,q3,q5,q7,?_⟩
      · rw [u8s_set77,fill77 _ _ (by rw [hbl]; omega)] at hS2
        exact hS2
      · show i64 _ = i64 _; simp
    by_cases hx : i < x.data.length
    · obtain ⟨b,o,c',edv,hdc⟩ := bytes_at ((hv.fr (hS.base_at 5 rfl)).data) hx
      have hcu' : cur[i]? = some (.int .u8 (x.data[i].toNat)) := by
        rw [hcu,List.getElem?_append_left hx]; simp [hx]
      subst edv
      refine ⟨fun w => Seen6 xb x (.slice (some ⟨b,o,none⟩) x.data.length c') pv Pb D E w ∧ w.heap[g]? = some (.cells cur 5 (0,0)) ∧ w.cell? ⟨b,o + i,none⟩ = some (.int .u8 (x.data[i].toNat)),⟨seen6' hS (i := 1) (j := 2) rfl rfl,hgc,hdc⟩,?_⟩
      refine q_of _ (fun w_ hS => fa113_3 ⟨rfl,rfl⟩) (q_of (.slice (some ⟨b,o,none⟩) x.data.length c') (fun w_ hS => s_ldb (isAgg23 _) hS.1.1 rfl ⟨rfl,rfl⟩) ?_)
      refine q_of _ (fun w_ hS => s_len usl23 ⟨rfl,rfl⟩) (q_of (.bool true) (fun w_ hS => s_lt_t (by omega) ⟨rfl,rfl⟩) ?_)
      refine pGq_yes rfl (pGq_yes rfl (pGq_yes rfl (q_of _ (fun w_ hS => s_ix (i := (i:Int)) usl23 (sze23 _) (by omega) (by omega) ⟨rfl,rfl⟩) ?_)))
      rw [show (0 + (i:Int).toNat * 1) = i by simp]
      refine pGq_yes rfl (q_of _ (fun w_ hS => s_ldb (isAgg5 _) hS.2.1 hcu' ⟨rfl,rfl⟩) ?_)
      refine pGq_yes rfl (q_of _ (fun w_ hS => fa113_3 ⟨rfl,rfl⟩) (pGq_yes rfl (q_of (.slice (some ⟨b,o,none⟩) x.data.length c') (fun w_ hS => s_ldb (isAgg23 _) hS.1.1 rfl ⟨rfl,rfl⟩) ?_)))
      refine pGq_yes rfl (pGq_yes rfl (q_of _ (fun w_ hS => s_ix (i := (i:Int)) usl23 (sze23 _) (by omega) (by omega) ⟨rfl,rfl⟩) ?_))
      rw [show (o + (i:Int).toNat * 1) = o + i by simp]
      refine pGq_yes rfl (q_of _ (fun w_ hS => s_ld (isAgg5 _) hS.2.2 ⟨rfl,rfl⟩) ?_)
      refine pGq_yes rfl (q_of (.bool false) (fun w_ hS => s_nei_f rfl ⟨rfl,rfl⟩) (q_of (.bool false) (fun w_ hS => s_pick_t ⟨rfl,rfl⟩) ?_))
      refine pGq_yes rfl (pGq_yes rfl (q_of _ (fun w_ hS => fa113_3 ⟨rfl,rfl⟩) (pGq_yes rfl (q_of (.slice (some ⟨b,o,none⟩) x.data.length c') (fun w_ hS => s_ldb (isAgg23 _) hS.1.1 rfl ⟨rfl,rfl⟩) ?_))))
      refine pGq_yes rfl (q_of _ (fun w_ hS => s_len usl23 ⟨rfl,rfl⟩) (pGq_yes rfl (q_of (.bool false) (fun w_ hS => s_ge_f (by omega) ⟨rfl,rfl⟩) (pGq_yes rfl ?_))))
      refine pGq_sk ?_
      refine pGq_sk ?_
      refine pGq_sk ?_
      refine pGq_sk ?_
      refine pGq_sk ?_
      refine pGq_yes rfl (q_of (.bool false) (fun w_ hS => s_pick_f ⟨rfl,rfl⟩) (q_of (.bool false) (fun w_ hS => s_pick_f ⟨rfl,rfl⟩) (pC_false ?_)))
      exact next _ (by exact e3) (by exact e5) (by exact e7) (by exact e8)
    · have hcu' : cur[i]? = some (.int .u8 99) := by
        rw [hcu,List.getElem?_append_right (by omega),List.getElem?_replicate,if_pos (by omega)]; rfl
      subst ed
      refine ⟨fun w => Seen6 xb x (.slice Ad x.data.length cd) pv Pb D E w ∧ w.heap[g]? = some (.cells cur 5 (0,0)),⟨seen6' hS (i := 1) (j := 2) rfl rfl,hgc⟩,?_⟩
      refine q_of _ (fun w_ hS => fa113_3 ⟨rfl,rfl⟩) (q_of (.slice Ad x.data.length cd) (fun w_ hS => s_ldb (isAgg23 _) hS.1.1 rfl ⟨rfl,rfl⟩) ?_)
      refine q_of _ (fun w_ hS => s_len usl23 ⟨rfl,rfl⟩) (q_of (.bool false) (fun w_ hS => s_lt_f (by omega) ⟨rfl,rfl⟩) ?_)
      refine pGq_sk (pGq_sk (pGq_sk (pGq_sk (pGq_sk (pGq_sk (pGq_sk (pGq_sk (pGq_sk (pGq_sk ?_)))))))))
      refine q_of (.bool false) (fun w_ hS => s_pick_f ⟨rfl,rfl⟩) ?_
      refine pGq_yes rfl (pGq_yes rfl (q_of _ (fun w_ hS => fa113_3 ⟨rfl,rfl⟩) (pGq_yes rfl (q_of (.slice Ad x.data.length cd) (fun w_ hS => s_ldb (isAgg23 _) hS.1.1 rfl ⟨rfl,rfl⟩) ?_))))
      refine pGq_yes rfl (q_of _ (fun w_ hS => s_len usl23 ⟨rfl,rfl⟩) (pGq_yes rfl (q_of (.bool true) (fun w_ hS => s_ge_t (by omega) ⟨rfl,rfl⟩) (pGq_yes rfl ?_))))
      refine pGq_yes rfl (pGq_yes rfl (pGq_yes rfl (q_of _ (fun w_ hS => s_ix (i := (i:Int)) usl23 (sze23 _) (by omega) (by omega) ⟨rfl,rfl⟩) ?_)))
      rw [show (0 + (i:Int).toNat * 1) = i by simp]
      refine pGq_yes rfl (q_of _ (fun w_ hS => s_ldb (isAgg5 _) hS.2 hcu' ⟨rfl,rfl⟩) ?_)
      refine pGq_yes rfl (q_of (.bool false) (fun w_ hS => s_nei_f rfl ⟨rfl,rfl⟩) ?_)
      refine pGq_yes rfl (q_of (.bool false) (fun w_ hS => s_pick_t ⟨rfl,rfl⟩) (q_of (.bool false) (fun w_ hS => s_pick_f ⟨rfl,rfl⟩) (pC_false ?_)))
      exact next _ (by exact e3) (by exact e5) (by exact e7) (by exact e8)
  · refine s_lt_f (by omega) (pC_false ?_)
    rw [F63_5_eq]
    unfold F63_5
    show k (ρ 7) w'
    rw [e7]
    exact hk w' (sep_mv [] 2 hS rfl)
set_option maxHeartbeats 4000000 in
theorem c_call6 (hS:Sep (L6 W Pb D E S S) w) (hg:ErrT W) (ok:S.Ok c) (hc:c ≤ 100000) (hv:StepV W x dv pv) (hd:x.data.length ≤ 549755813000) (hk:∀ w',Sep (L6 W Pb D E (callA S x) (callA S x)) w' → k (.bool true) w') : pFn P 63 [ptr Pb,step6Val x dv pv] w k := by
 have hn : x.name.size ≤ 9223372036854775807 := by have := hv.name; unfold maxLen at this; omega
 refine F63_in _ _ _ _ ?_
 unfold F63_0
 refine s_box ?_
 replace hS : Sep (S6 W w.heap.size x dv pv Pb D E S S) (w.alloc (.cells (step6Cells x dv pv).toArray 113)) := hS.cell _ _
 rw [show (step6Val x dv pv).cells = (step6Cells x dv pv).toArray from rfl]
 generalize w.alloc (.cells (step6Cells x dv pv).toArray 113) = w1 at *
 show px P (Instr.fieldAt 113 (ptr w.heap.size) 0) w1 _
 generalize w.heap.size = xb at *
 refine fa113_0 (s_ldb (v := i64 x.kind) (isAgg3 _) (hS.cells 0 rfl) rfl ?_)
 unfold callA at hk
 by_cases k1 : x.kind = 1
 ·rw [if_pos k1] at hk
  refine s_eqi_t k1 (pC_true ?_)
  replace hS := hS.q (Fr.drew _ _)
  refine ⟨Seen6 xb x dv pv Pb D E,seen6 hS,?_⟩
  obtain ⟨Ad,cd,ed,_⟩ := hv.data.form
  refine q_of _ (fun w_ hS => fa113_3 ⟨rfl,rfl⟩) (q_of (dv) (fun w_ hS => s_ldb (isAgg23 _) hS.1 rfl ⟨rfl,rfl⟩) ?_)
  refine q_of (i64 x.data.length) (fun w_ hS => by rw [ed]; exact s_len usl23 ⟨rfl,rfl⟩) (q_of _ (fun w_ hS => s_add_in (by omega) ⟨rfl,rfl⟩) ?_)
  refine q_of _ (fun w_ hS => fa113_3 ⟨rfl,rfl⟩) (q_of (dv) (fun w_ hS => s_ldb (isAgg23 _) hS.1 rfl ⟨rfl,rfl⟩) ?_)
  refine s_mk0 (by omega) (by omega) hS fun v2 w2 hS2 => ⟨seen6' hS2 (i := 1) (j := 2) rfl rfl,?_⟩
  refine sep_apb hS2 (hv.fr (hS2.base_at 5 rfl)).data u8s_one (by omega) fun v3 w3 hS3 => ⟨seen6' hS3 (i := 1) (j := 2) rfl rfl,?_⟩
  replace hS3 : Sep (C6 W xb x dv pv Pb D E S S v3 x.data) w3 := by
   have e : 0 + x.data.length = x.data.length := by omega
   rw [e] at hS3; exact hS3
  refine call_1 hS3 hd rfl rfl rfl rfl fun ρ' w4 v4 hS4 e0 e3 e5 => ?_
  unfold F63_2
  rw [e0,e3,e5]
  replace hS4 := hS4.q (Fr.drew _ _)
  refine ⟨Seen6 xb x dv pv Pb D E,seen6' hS4 (i := 1) (j := 2) rfl rfl,?_⟩
  have hbl : (x.data ++ List.replicate 40 (99 : UInt8)).length = x.data.length + (List.replicate 40 (99 : UInt8)).length := by rw [List.length_append]
  obtain ⟨g,cap,cur,ev,hcap,-,hgc,hic,hcu,-⟩ := own_at (i := 0) (hS4.own 0 rfl) (by rw [hbl]; simp)
  rw [hbl] at ev hcap
  refine q_of _ (fun w_ hS => s_nil ⟨rfl,rfl⟩) (q_of _ (fun w_ hS => fa181_0 ⟨rfl,rfl⟩) (q_of (ptr D) (fun w_ hS => s_ldb (isAgg24 _) hS.2 rfl ⟨rfl,rfl⟩) ?_))
  refine q_of _ (fun w_ hS => fa113_1 ⟨rfl,rfl⟩) (q_of (.string x.name) (fun w_ hS => s_ldb (isAgg9 _) hS.1 rfl ⟨rfl,rfl⟩) ?_)
  refine q_of _ (fun w_ hS => fa113_3 ⟨rfl,rfl⟩) (q_of (dv) (fun w_ hS => s_ldb (isAgg23 _) hS.1 rfl ⟨rfl,rfl⟩) ?_)
  refine q_of (i64 x.data.length) (fun w_ hS => by rw [ed]; exact s_len usl23 ⟨rfl,rfl⟩) ?_
  refine q_of (.slice (some ⟨g,0,none⟩) x.data.length cap) (fun w_ hS => by rw [ev]; exact s_sl_h usl23 (sze23 _) (by omega) (by omega) ⟨by simp,rfl⟩) ?_
  refine q_of _ (fun w_ hS => fa113_1 ⟨rfl,rfl⟩) (q_of (.string x.name) (fun w_ hS => s_ldb (isAgg9 _) hS.1 rfl ⟨rfl,rfl⟩) ?_)
  refine q_of _ (fun w_ hS => s_nil ⟨rfl,rfl⟩) (q_of _ (fun w_ hS => fa181_1 ⟨rfl,rfl⟩) (q_of (ptr E) (fun w_ hS => s_ldb (isAgg177 _) hS.2 rfl ⟨rfl,rfl⟩) ?_))
  refine q_of _ (fun w_ hS => fa113_1 ⟨rfl,rfl⟩) (q_of (.string x.name) (fun w_ hS => s_ldb (isAgg9 _) hS.1 rfl ⟨rfl,rfl⟩) ?_)
  refine q_of _ (fun w_ hS => fa113_3 ⟨rfl,rfl⟩) (q_of (dv) (fun w_ hS => s_ldb (isAgg23 _) hS.1 rfl ⟨rfl,rfl⟩) ?_)
  have hX := holds_own (d := x.data) (r := List.replicate 40 99) rfl ev
  have h5 : Sep (Dk D S :: OwnA 5 1 v4 (x.data ++ List.replicate 40 (99 : UInt8)).length (u8s (x.data ++ List.replicate 40 (99 : UInt8))) :: [Cells xb (step6Cells x dv pv).toArray 113,Cells Pb #[ptr D,ptr E] 181,Rk E S,Base W]) w4.drew := sep_mv [3] 0 hS4 rfl
  rw [hbl] at h5
  refine c_fPut (name := x.name) (d := x.data) hX h5 ok (by omega) hn (by omega) fun w5 ev5 h5 => ⟨seen6' h5 (i := 3) (j := 4) rfl rfl,?_⟩
  have h6 : Sep (Rk E S :: Base W :: [ErrA ev5 putB x.name (S.putF x.name x.data).1,Dk D (S.putF x.name x.data).2,OwnA 5 1 v4 (x.data.length + (List.replicate 40 (99 : UInt8)).length) (u8s (x.data ++ List.replicate 40 (99 : UInt8))),Cells xb (step6Cells x dv pv).toArray 113,Cells Pb #[ptr D,ptr E] 181]) w5 := sep_mv [6,6] 0 h5 rfl
  refine r6_put (name := x.name) (d := x.data) (holds_base hv.data) h6 ok (by omega) (by omega) fun w6 h6 => ⟨seen6' h6 (i := 5) (j := 6) rfl rfl,?_⟩
  refine sd_says h6 (errT_base hg (h6.base_at 1 rfl)) 2 rfl (by decide) fun w7 f7 => ?_
  replace h6 := h6.q f7
  refine ⟨seen6' h6 (i := 5) (j := 6) rfl rfl,?_⟩
  have h7 : Sep (OwnA 5 1 v4 (x.data.length + (List.replicate 40 (99 : UInt8)).length) (u8s (x.data ++ List.replicate 40 (99 : UInt8))) :: S6 W xb x dv pv Pb D E (S.putF x.name x.data).2 (S.putF x.name x.data).2) w7 := sep_mv [3,6,6,6,6] 1 h6 rfl
  rw [← hbl] at h7
  exact call_3 h7 hv hd e0 e3 e5 rfl rfl hk
 rw [if_neg k1] at hk
 refine s_eqi_f k1 (pC_false ?_)
 by_cases k2 : x.kind = 2
 ·rw [if_pos k2] at hk
  refine s_eqi_t k2 (pC_true ?_)
  replace hS := hS.q (Fr.drew _ _)
  refine ⟨Seen6 xb x dv pv Pb D E,seen6 hS,?_⟩
  refine q_of _ (fun w_ hS => s_nil ⟨rfl,rfl⟩) (q_of _ (fun w_ hS => fa181_0 ⟨rfl,rfl⟩) (q_of (ptr D) (fun w_ hS => s_ldb (isAgg24 _) hS.2 rfl ⟨rfl,rfl⟩) ?_))
  refine q_of _ (fun w_ hS => fa113_1 ⟨rfl,rfl⟩) (q_of (.string x.name) (fun w_ hS => s_ldb (isAgg9 _) hS.1 rfl ⟨rfl,rfl⟩) ?_)
  have h2 : Sep (Dk D S :: [Cells xb (step6Cells x dv pv).toArray 113,Cells Pb #[ptr D,ptr E] 181,Rk E S,Base W]) w1.drew := sep_mv [2] 0 hS rfl
  refine c_fGet h2 ok hn fun w2 v2 ev2 h2 => ⟨seen6' h2 (i := 3) (j := 4) rfl rfl,?_⟩
  refine q_of _ (fun w_ hS => s_ext rfl ⟨rfl,rfl⟩) (q_of _ (fun w_ hS => s_ext rfl ⟨rfl,rfl⟩) ?_)
  replace h2 := h2.q (Fr.drew _ _)
  refine ⟨Seen6 xb x dv pv Pb D E,seen6' h2 (i := 3) (j := 4) rfl rfl,?_⟩
  refine q_of _ (fun w_ hS => s_nil ⟨rfl,rfl⟩) (q_of _ (fun w_ hS => fa181_1 ⟨rfl,rfl⟩) (q_of (ptr E) (fun w_ hS => s_ldb (isAgg177 _) hS.2 rfl ⟨rfl,rfl⟩) ?_))
  refine q_of _ (fun w_ hS => fa113_1 ⟨rfl,rfl⟩) (q_of (.string x.name) (fun w_ hS => s_ldb (isAgg9 _) hS.1 rfl ⟨rfl,rfl⟩) ?_)
  have h3 : Sep (Rk E S :: [ErrA ev2 getB x.name (S.getF x.name).1,BytesA v2 (S.getF x.name).2.1,Dk D (S.getF x.name).2.2,Cells xb (step6Cells x dv pv).toArray 113,Cells Pb #[ptr D,ptr E] 181,Base W]) w2.drew := sep_mv [5] 0 h2 rfl
  have hlen : (S.getF x.name).2.1.length ≤ 4611686018427387904 := by
   have := getF_len ok x.name; omega
  refine r6_get h3 ok fun w3 v3 h3 => ⟨seen6' h3 (i := 5) (j := 6) rfl rfl,?_⟩
  refine q_of _ (fun w_ hS => s_ext rfl ⟨rfl,rfl⟩) (q_of _ (fun w_ hS => s_ext rfl ⟨rfl,rfl⟩) ?_)
  refine fa113_1 (s_ldb (v := .string x.name) (isAgg9 _) (h3.cells 5 rfl) rfl ?_)
  refine sd_says h3 (errT_base hg (h3.base_at 7 rfl)) 2 rfl (by decide) fun w4 f4 => ?_
  replace h3 := h3.q f4
  refine pG_yes rfl (pG_yes rfl (pG_yes rfl (c_bytes (Sep.bytes h3 3 rfl) (Sep.bytes h3 0 rfl) hlen fun w5 f5 => ?_)))
  rw [decide_eq_true rfl]
  replace h3 := h3.q f5
  refine s_pick_t (hk w5 ?_)
  exact sep_mv [1,4,6,6,6,6,6] 4 h3 rfl
 rw [if_neg k2] at hk
 refine s_eqi_f k2 (pC_false ?_)
 by_cases k3 : x.kind = 3
 ·rw [if_pos k3] at hk
  refine s_eqi_t k3 (pC_true ?_)
  replace hS := hS.q (Fr.drew _ _)
  refine ⟨Seen6 xb x dv pv Pb D E,seen6 hS,?_⟩
  refine q_of _ (fun w_ hS => s_nil ⟨rfl,rfl⟩) (q_of _ (fun w_ hS => fa181_0 ⟨rfl,rfl⟩) (q_of (ptr D) (fun w_ hS => s_ldb (isAgg24 _) hS.2 rfl ⟨rfl,rfl⟩) ?_))
  refine q_of _ (fun w_ hS => fa113_1 ⟨rfl,rfl⟩) (q_of (.string x.name) (fun w_ hS => s_ldb (isAgg9 _) hS.1 rfl ⟨rfl,rfl⟩) ?_)
  refine q_of _ (fun w_ hS => fa113_1 ⟨rfl,rfl⟩) (q_of (.string x.name) (fun w_ hS => s_ldb (isAgg9 _) hS.1 rfl ⟨rfl,rfl⟩) ?_)
  refine q_of _ (fun w_ hS => s_nil ⟨rfl,rfl⟩) (q_of _ (fun w_ hS => fa181_1 ⟨rfl,rfl⟩) (q_of (ptr E) (fun w_ hS => s_ldb (isAgg177 _) hS.2 rfl ⟨rfl,rfl⟩) ?_))
  refine q_of _ (fun w_ hS => fa113_1 ⟨rfl,rfl⟩) (q_of (.string x.name) (fun w_ hS => s_ldb (isAgg9 _) hS.1 rfl ⟨rfl,rfl⟩) ?_)
  have h2 : Sep (Dk D S :: [Cells xb (step6Cells x dv pv).toArray 113,Cells Pb #[ptr D,ptr E] 181,Rk E S,Base W]) w1.drew := sep_mv [2] 0 hS rfl
  refine c_fDrop h2 ok (by omega) hn fun w2 ev2 h2 => ⟨seen6' h2 (i := 2) (j := 3) rfl rfl,?_⟩
  have h3 : Sep (Rk E S :: [ErrA ev2 dropB x.name (S.dropF x.name).1,Dk D (S.dropF x.name).2,Cells xb (step6Cells x dv pv).toArray 113,Cells Pb #[ptr D,ptr E] 181,Base W]) w2 := sep_mv [4] 0 h2 rfl
  refine r6_drop h3 ok (by omega) fun w3 h3 => ⟨seen6' h3 (i := 3) (j := 4) rfl rfl,?_⟩
  refine sd_says h3 (errT_base hg (h3.base_at 5 rfl)) 1 rfl (by decide) fun w4 f4 => ?_
  replace h3 := h3.q f4
  refine ⟨seen6' h3 (i := 3) (j := 4) rfl rfl,hk w4 ?_⟩
  exact sep_mv [2,4,4,4] 2 h3 rfl
 rw [if_neg k3] at hk
 refine s_eqi_f k3 (pC_false ?_)
 replace hS := hS.q (Fr.drew _ _)
 refine ⟨Seen6 xb x dv pv Pb D E,seen6 hS,?_⟩
 refine q_of _ (fun w_ hS => s_nil ⟨rfl,rfl⟩) (q_of _ (fun w_ hS => fa181_0 ⟨rfl,rfl⟩) (q_of (ptr D) (fun w_ hS => s_ldb (isAgg24 _) hS.2 rfl ⟨rfl,rfl⟩) ?_))
 refine q_of _ (fun w_ hS => fa113_1 ⟨rfl,rfl⟩) (q_of (.string x.name) (fun w_ hS => s_ldb (isAgg9 _) hS.1 rfl ⟨rfl,rfl⟩) ?_)
 refine q_of _ (fun w_ hS => fa113_1 ⟨rfl,rfl⟩) (q_of (.string x.name) (fun w_ hS => s_ldb (isAgg9 _) hS.1 rfl ⟨rfl,rfl⟩) ?_)
 refine q_of _ (fun w_ hS => s_nil ⟨rfl,rfl⟩) (q_of _ (fun w_ hS => fa181_1 ⟨rfl,rfl⟩) (q_of (ptr E) (fun w_ hS => s_ldb (isAgg177 _) hS.2 rfl ⟨rfl,rfl⟩) ?_))
 refine q_of _ (fun w_ hS => fa113_1 ⟨rfl,rfl⟩) (q_of (.string x.name) (fun w_ hS => s_ldb (isAgg9 _) hS.1 rfl ⟨rfl,rfl⟩) ?_)
 have h2 : Sep (Dk D S :: [Cells xb (step6Cells x dv pv).toArray 113,Cells Pb #[ptr D,ptr E] 181,Rk E S,Base W]) w1.drew := sep_mv [2] 0 hS rfl
 refine c_fClean h2 ok (by omega) fun w2 ev2 h2 => ⟨seen6' h2 (i := 2) (j := 3) rfl rfl,?_⟩
 have h3 : Sep (Rk E S :: [ErrA ev2 cleanB x.name (S.cleanF (AD.listA S x.name)).1,Dk D (S.cleanF (AD.listA S x.name)).2,Cells xb (step6Cells x dv pv).toArray 113,Cells Pb #[ptr D,ptr E] 181,Base W]) w2 := sep_mv [4] 0 h2 rfl
 refine r6_clean h3 ok (by omega) fun w3 h3 => ⟨seen6' h3 (i := 3) (j := 4) rfl rfl,?_⟩
 refine sd_says h3 (errT_base hg (h3.base_at 5 rfl)) 1 rfl (by decide) fun w4 f4 => ?_
 replace h3 := h3.q f4
 refine ⟨seen6' h3 (i := 3) (j := 4) rfl rfl,hk w4 ?_⟩
 exact sep_mv [2,4,4,4] 2 h3 rfl
end
abbrev Script6 := List (StepA × Value × Value)
def script6Cells (l:Script6) : List Value := l.flatMap fun p => step6Cells p.1 p.2.1 p.2.2
structure Script6V (W:World) (v:Value) (l:Script6) : Prop where
 src : Src W v 9 l.length (script6Cells l)
 all : ∀ p ∈ l,StepV W p.1 p.2.1 p.2.2
theorem Script6V.fr {W w:World} {v:Value} {l:Script6} (h:Script6V W v l) (hf:Fr no W w) : Script6V w v l := ⟨h.src.fr (by omega) hf fun _ _ h => h,fun p hp => (h.all p hp).fr hf⟩
theorem Script6V.at_ {W:World} {v:Value} {l:Script6} (h:Script6V W v l) {i:Nat} (hi:i < l.length) : ∃ b o c,v = .slice (some ⟨b,o,none⟩) l.length c ∧ ∀ j u,(step6Cells l[i].1 l[i].2.1 l[i].2.2)[j]? = some u → W.cell? ⟨b,o + i * 9 + j,none⟩ = some u := by
 obtain ⟨b,o,c,e,hc⟩ := h.src.place hi (by omega)
 refine ⟨b,o,c,e,fun j u hj => ?_⟩
 have hlt : j < 9 := (List.getElem?_eq_some_iff.1 hj).1
 refine hc j u hlt ?_
 have := flatAt (f := fun p : StepA × Value × Value => step6Cells p.1 p.2.1 p.2.2) (n := 9) (fun _ => rfl) (l := l) (i := i) (j := j) (a := l[i]) (by simp [hi]) hlt
 unfold script6Cells
 rw [this]; exact hj
section
variable {w:World} {k:KV} {W:World} {xb Pb D E c:Nat} {x:StepA} {dv pv:Value} {S T:AD}
theorem run_ldStep6 {b o:Nat} (h:∀ j u,(step6Cells x dv pv)[j]? = some u → w.cell? ⟨b,o + j,none⟩ = some u) : (Instr.loadAt 113 (.pointer (some ⟨b,o,none⟩))).run P w = .ok (step6Val x dv pv) w := by
 have := run_loadCells_list (P := P) w ⟨b,o,none⟩ (step6Cells x dv pv) (fun j v hj => by rw [add_at]; exact h j v hj)
 have e : (step6Cells x dv pv).length = 9 := rfl
 rw [e] at this
 have hr : (Instr.loadAt 113 (.pointer (some ⟨b,o,none⟩))).run P w = .ok (.agg (step6Cells x dv pv).toArray) w := by
  simp [Instr.loadAt,Instr.sureAddr,loadVar,isAgg113,sizeOf113,this,Result.andThen]
 exact hr
theorem s_step6 {v:Value} {l:Script6} {i:Nat} (h:Script6V w v l) (hi:i < l.length) {kk:Value → KV} (hk:∀ p,kk p (step6Val l[i].1 l[i].2.1 l[i].2.2) w) :
    px P (Instr.indexAt 108 v (i64 i)) w fun p w => px P (Instr.loadAt 113 p) w (kk p) := by
  obtain ⟨b,o,c,ev,hc⟩ := h.at_ hi
  rw [ev]
  refine s_ix (i := (i:Int)) usl108 (sze108 _) (by omega) (by omega) ?_
  exact px_ok (run_ldStep6 (x := l[i].1) (dv := l[i].2.1) (pv := l[i].2.2) (fun j u hj => by have := hc j u hj; simpa using this)) (hk _)
theorem s_own6 (hv:StepV W x dv pv) {kk:KV} (hk:∀ b w',w'.heap[b]? = some (.cells (step6Cells x dv pv).toArray 113 (0,0)) → Fr no w w' → kk (ptr b) w') :
    px P (Instr.alloc 113 true (.tuple #[])) w fun v8 w => pu P (Instr.storeAt 113 v8 (step6Val x dv pv)) w fun w => kk v8 w := by
  obtain ⟨Ad,cd,ed,_⟩ := hv.data.form
  obtain ⟨Ap,cp,ep,_⟩ := hv.picks
  refine s_alloc (z := step6Val ⟨0,.empty,.empty,0,0,[],⟨0,0,0⟩,[]⟩ (.slice none 0 0) (.slice none 0 0)) (by kernel_rfl) ?_
  have b1 := alloc_new w (.cells (step6Val ⟨0,.empty,.empty,0,0,[],⟨0,0,0⟩,[]⟩ (.slice none 0 0) (.slice none 0 0)).cells 113)
  have f1 := Fr.alloc no w (.cells (step6Val ⟨0,.empty,.empty,0,0,[],⟨0,0,0⟩,[]⟩ (.slice none 0 0) (.slice none 0 0)).cells 113)
  generalize w.alloc (.cells (step6Val ⟨0,.empty,.empty,0,0,[],⟨0,0,0⟩,[]⟩ (.slice none 0 0) (.slice none 0 0)).cells 113) = w1 at *
  refine s_stN (n := 9) (vs := step6Cells x dv pv) (sizeOf113 _) rfl (by intro u hu; subst ed; subst ep; simp [step6Cells] at hu; rcases hu with rfl | rfl | rfl | rfl | rfl | rfl | rfl | rfl | rfl <;> rfl) b1 (by show 0 + 9 ≤ 9; decide) fun w3 h3 f3 z3 => ?_
  exact hk _ w3 h3 (f1.trans f3 fun b hb => .inr (Nat.le_of_eq hb.symm))
def step6A (S:AD) (x:StepA) : AD := if 1 ≤ x.kind ∧ x.kind ≤ 4 then callA S x else belowA S x
theorem ok_clean (ok:S.Ok c) (hc:c + 300 ≤ 1099511627776) (p:ByteArray) : (S.cleanF (AD.listA S p)).2.Ok (c + 300) := by
 have hl := listA_len ok p
 generalize AD.listA S p = L at *
 have h1 := ok_removeAll L ok (by omega)
 unfold AD.cleanF
 split
 ·exact ok.mono (by omega) (by omega)
 ·refine ok_andE (c := c + L.length) h1 (fun e => h1.mono (by omega) (by omega)) ?_
  split
  ·exact h1.mono (by omega) (by omega)
  ·exact (h1.syncNames (by omega)).mono (by omega) (by omega)
theorem ok_step6 (ok:S.Ok c) (hc:c ≤ 100000) (x:StepA) : (step6A S x).Ok (c + 300) := by
 have up : ∀ {T:AD} {a:Nat},T.Ok a → a ≤ c + 300 → T.Ok (c + 300) := fun h h2 => h.mono h2 (by omega)
 unfold step6A
 split
 ·unfold callA
  split
  ·exact up (ok_putF ok (by omega) _ _) (by omega)
  ·split
   ·exact up (ok_getF ok (by omega) _) (by omega)
   ·split
    ·exact up (ok_dropF ok (by omega) _) (by omega)
    ·exact ok_clean ok (by omega) _
 ·unfold belowA
  have h3 : (x.n.emod 300).toNat < 300 := by
   have h1 := Int.emod_nonneg x.n (show (300 : Int) ≠ 0 by decide)
   have h2 := Int.emod_lt_of_pos x.n (show (0 : Int) < 300 by decide)
   have h3 : x.n.emod 300 = x.n % 300 := rfl
   omega
  repeat' split
  ·exact up (ok.create (by omega) _) (by omega)
  ·exact up (ok.append (by omega) _ _) (by omega)
  ·exact up (ok.truncate (by omega) _ _) (by omega)
  ·exact up (ok.rename (by omega) _ _) (by omega)
  ·exact up (ok.remove (by omega) _) (by omega)
  ·exact up (ok.sync (by omega) _) (by omega)
  ·exact up (ok.syncNames (by omega)) (by omega)
  ·exact up (ok.plans _) (by omega)
  ·exact up (ok.crash _) (by omega)
  ·exact up (ok_many ok _ (by omega)) (by omega)
  ·exact up ok (by omega)
set_option maxHeartbeats 1000000 in
theorem w_plays6 {v:Value} {s:Script6} (hg:ErrT W) (hv:Script6V W v s) (hbd:∀ p ∈ s,p.1.data.length ≤ 549755813000 ∧ p.1.picks.length ≤ 4611686018427387904) (hk:∀ w',Fr no W w' → k (.bool true) w')
    {ρ:Env} {w:World} (e1:ρ 1 = v) (e5:ρ 5 = ptr Pb) (e7:ρ 7 = i64 0) (hS:Sep (L6 W Pb D E S S) w) (ok:S.Ok 0) : F16L1 k ρ w := by
  refine F16L1_inv (m := s.length) k (fun m ρ w => ∃ (i:Nat) (S:AD),i + m = s.length ∧ i ≤ 60 ∧ ρ 1 = v ∧ ρ 5 = ptr Pb ∧ ρ 7 = i64 i ∧ Sep (L6 W Pb D E S S) w ∧ S.Ok (i * 300)) ?_
    ⟨0,S,by omega,by omega,e1,e5,e7,hS,by simpa using ok⟩
  clear e1 e5 e7 hS ok
  rintro m ρ w ⟨i,S,him,hi60,e1,e5,e7,hS,ok⟩
  rw [F16_1_eq]
  unfold F16_1
  have hf := hS.base_at 3 rfl
  have hvw := hv.fr hf
  rw [e1,e5,e7]
  refine s_lenS usl108 hvw.src ?_
  have done : ∀ ρ,F16A k [1,1,1,1] ρ w := by
    intro ρ
    rw [F16_3_eq]
    unfold F16_3
    exact hk w hf
  by_cases hi : i < s.length
  · refine s_lt_t (by omega) (pG_yes rfl (pG_yes rfl ?_))
    by_cases h60 : i < 60
    · refine s_lt_t (by omega) (s_pick_t (pC_true (s_step6 hvw hi fun p => ?_)))
      have hm : s[i] ∈ s := List.getElem_mem hi
      have hvi := hv.all _ hm
      obtain ⟨bd1,bd2⟩ := hbd _ hm
      generalize s[i] = q at *
      obtain ⟨x,dv,pv⟩ := q
      replace bd1 : x.data.length ≤ 549755813000 := bd1
      have bd3 : x.data.length ≤ 549755813888 := Nat.le_trans bd1 (by decide)
      refine s_own6 hvi fun b w1 h1 f1 => ?_
      replace hS := hS.q f1
      have after : ∀ ρ' w',Sep (L6 W Pb D E (step6A S x) (step6A S x)) w' → ρ' 1 = v → ρ' 5 = ptr Pb → ρ' 7 = i64 i → ρ' 6 = .bool true → F16A1 k (fun ρ' w' => ∃ m',m' < m ∧ ∃ (i:Nat) (S:AD),i + m' = s.length ∧ i ≤ 60 ∧ ρ' 1 = v ∧ ρ' 5 = ptr Pb ∧ ρ' 7 = i64 i ∧ Sep (L6 W Pb D E S S) w' ∧ S.Ok (i * 300)) [1,0,0,1,1] ρ' w' := by
        intro ρ' w' hS' q1 q5 q7 q6
        have ok' := ok_step6 ok (by omega) x
        rw [F16_2_eq]
        unfold F16_2
        rw [q5,q6,q7]
        refine s_not (pG_yes rfl (pG_yes rfl (st6_stands hS' ok' fun w3 h3 => pG_yes rfl (s_not (s_pick_f (pC_false (s_add_in (by omega) ?_)))))))
        refine ⟨m - 1,by omega,i + 1,_,by omega,by omega,q1,q5,?_,h3,by rw [show (i + 1) * 300 = i * 300 + 300 by omega]; exact ok'⟩
        show i64 _ = i64 _; simp
      refine fa113_0 (s_ldb (v := i64 x.kind) (isAgg3 _) h1 rfl ?_)
      by_cases hk1 : 1 ≤ x.kind
      · refine s_ge_t (by omega) (pG_yes rfl (fa113_0 (pG_yes rfl (s_ldb (v := i64 x.kind) (isAgg3 _) h1 rfl (pG_yes rfl ?_)))))
        by_cases hk4 : x.kind ≤ 4
        · refine s_le_t (by omega) (s_pick_t (pC_true (s_ldAgg (m := 9) (isAgg113 _) (sizeOf113 _) h1 (by show 0 + 9 ≤ 9; decide) ?_)))
          refine c_call6 hS hg ok (by omega) hvi bd1 fun w2 h2 => ?_
          refine after _ w2 ?_ (by exact e1) (by exact e5) (by exact e7) rfl
          unfold step6A
          rw [if_pos ⟨hk1,hk4⟩]; exact h2
        · refine s_le_f (by omega) (s_pick_t (pC_false (s_ldAgg (m := 9) (isAgg113 _) (sizeOf113 _) h1 (by show 0 + 9 ≤ 9; decide) ?_)))
          refine c_below6 hS ok (by omega) hvi bd3 bd2 fun w2 h2 => ?_
          refine after _ w2 ?_ (by exact e1) (by exact e5) (by exact e7) rfl
          unfold step6A
          rw [if_neg (fun h => hk4 h.2)]; exact h2
      · refine s_ge_f (by omega) ?_
        refine pG_sk (pG_sk (pG_sk (s_pick_f (pC_false (s_ldAgg (m := 9) (isAgg113 _) (sizeOf113 _) h1 (by show 0 + 9 ≤ 9; decide) ?_)))))
        refine c_below6 hS ok (by omega) hvi bd3 bd2 fun w2 h2 => ?_
        refine after _ w2 ?_ (by exact e1) (by exact e5) (by exact e7) rfl
        unfold step6A
        rw [if_neg (fun h => hk1 h.1)]; exact h2
    · refine s_lt_f (by omega) (s_pick_t (pC_false (done _)))
  · refine s_lt_f (by omega) ?_
    refine pG_sk (pG_sk (s_pick_f (pC_false (done _))))
theorem w_filePlays {v:Value} {s:Script6} {room:Int} (hg:ErrT W) (hv:Script6V W v s) (hbd:∀ p ∈ s,p.1.data.length ≤ 549755813000 ∧ p.1.picks.length ≤ 4611686018427387904) (hk:∀ w',Fr no W w' → k (.bool true) w') : pFn P 16 [i64 room,v] W k := by
 refine F16_in _ _ _ _ ?_
 unfold F16_0
 refine c_round6 rfl (by decide) (by decide) ?_
 have h3 : 0 ≤ room.emod 4000 ∧ room.emod 4000 < 4000 := ⟨Int.emod_nonneg _ (by decide),Int.emod_lt_of_pos _ (by decide)⟩
 refine s_add_in (by omega) ?_
 refine st6_made (W := W) (by omega) (fun w1 Pb D E hS => ?_) (Sep.base W)
 refine s_ext rfl (s_ext rfl ?_)
 refine c_known6 (errT_base hg (hS.base_at 3 rfl)) fun w2 f2 => s_not (pG_yes rfl (pG_yes rfl (s_not (s_pick_f (pC_false ?_)))))
 exact w_plays6 hg hv hbd hk rfl rfl rfl (hS.q f2) (AD.Ok.new (by omega))
end
end Go.Proofs.YteeeggphkhimcaaGreatDoor

namespace Go.Proofs.YteeeggphkhimcaaGreatDoor
open Go Go.ChangeShapes Go.WideShapes Go.ChangeAt Go.RowKit Go.Proofs Go.Proofs.XRed Go.Proofs.XHeap Go.Proofs.XSlices Go.Proofs.XRow Go.Proofs.XDisk Tryz
section
variable {H:Type} {enc:TypeId × Value → H}
variable {W:World}
def Fits6 (d:DataW H) : Prop := ∀ parts,d = .agg parts → (∀ q n,parts[3]? = some q → Len q n → n ≤ 1048576) ∧ ∀ q n,parts[6]? = some q → Len q n → n ≤ 1048576
theorem fits6_bulk {d:DataW H} (h:Rows.uptoBulk d ≤ 1048576) : Fits6 d := by
 rintro parts rfl
 refine ⟨fun q n hq hl => ?_,fun q n hq hl => ?_⟩
 ·have := hl.bulk; have := bulk_agg (List.mem_of_getElem? hq); omega
 ·have := hl.bulk; have := bulk_agg (List.mem_of_getElem? hq); omega
theorem script6_bulk {d:DataW H} (h:Rows.uptoBulk d ≤ 1048576) : ∀ elems spare,d = .slice elems spare → ∀ e ∈ elems,Fits6 e := by
 rintro elems spare rfl e he
 exact fits6_bulk (Nat.le_trans (bulk_elem he) h)
theorem open_step6 {fuel:Nat} {cs:List Value} {x:DataW H × List MemPlace} (hb:Fits6 x.1) (h:DataW.trod enc prog W 0 (fun _ => true) true fuel 113 cs = some x) : ∃ (s:StepA) (dv pv:Value),cs = step6Cells s dv pv ∧ StepV W s dv pv ∧ s.data.length ≤ 1048576 ∧ s.picks.length ≤ 1048576 := by
 obtain ⟨xs,k,rfl,rfl,hlen,hxl,hf⟩ := DataW.trod_struct underlying113 h
 have c9 : prog.cellsOf 113 = 9 := by kernel_rfl
 rw [c9] at hlen
 match cs,hlen with
 | [c0,c1,c2,c3,c4,c5,c6,c7,c8],_ =>
 match xs,hxl with
 | [x0,x1,x2,x3,x4,x5,x6],_ =>
 have g0 : DataW.trod enc prog W 0 (fun _ => true) true k 3 (([c0,c1,c2,c3,c4,c5,c6,c7,c8].drop 0).take (prog.cellsOf 3)) = some x0 := hf 0 _ rfl
 have g1 : DataW.trod enc prog W 0 (fun _ => true) true k 9 (([c0,c1,c2,c3,c4,c5,c6,c7,c8].drop 1).take (prog.cellsOf 9)) = some x1 := hf 1 _ rfl
 have g2 : DataW.trod enc prog W 0 (fun _ => true) true k 9 (([c0,c1,c2,c3,c4,c5,c6,c7,c8].drop 2).take (prog.cellsOf 9)) = some x2 := hf 2 _ rfl
 have g3 : DataW.trod enc prog W 0 (fun _ => true) true k 23 (([c0,c1,c2,c3,c4,c5,c6,c7,c8].drop 3).take (prog.cellsOf 23)) = some x3 := hf 3 _ rfl
 have g4 : DataW.trod enc prog W 0 (fun _ => true) true k 3 (([c0,c1,c2,c3,c4,c5,c6,c7,c8].drop 4).take (prog.cellsOf 3)) = some x4 := hf 4 _ rfl
 have g5 : DataW.trod enc prog W 0 (fun _ => true) true k 85 (([c0,c1,c2,c3,c4,c5,c6,c7,c8].drop 5).take (prog.cellsOf 85)) = some x5 := hf 5 _ rfl
 have g6 : DataW.trod enc prog W 0 (fun _ => true) true k 58 (([c0,c1,c2,c3,c4,c5,c6,c7,c8].drop 8).take (prog.cellsOf 58)) = some x6 := hf 6 _ rfl
 have k3 : prog.cellsOf 3 = 1 := by kernel_rfl
 have k9 : prog.cellsOf 9 = 1 := by kernel_rfl
 have k30 : prog.cellsOf 23 = 1 := by kernel_rfl
 have k46 : prog.cellsOf 85 = 3 := by kernel_rfl
 have k57 : prog.cellsOf 58 = 1 := by kernel_rfl
 simp only [k3,k9,k30,k46,k57,List.drop_zero,List.drop_succ_cons,List.take_succ_cons,List.take_zero,List.getElem?_cons_zero,List.getElem?_cons_succ] at g0 g1 g2 g3 g4 g5 g6
 obtain ⟨n0,e0,r0,w0⟩ := DataW.trod_int underlying3 g0
 obtain ⟨s1,e1,r1,w1⟩ := DataW.trod_string underlying9 g1
 obtain ⟨s2,e2,r2,w2⟩ := DataW.trod_string underlying9 g2
 obtain ⟨dv,d3,e3,s3,l3⟩ := open_bytes g3
 obtain ⟨n4,e4,r4,w4⟩ := DataW.trod_int underlying3 g4
 obtain ⟨pv,d6,e6,s6,l6⟩ := open_intsV g6
 obtain ⟨ys,k',hk',hx6,hlen6,hyl,hf6⟩ := DataW.trod_struct underlying85 g5
 match ys,hyl with
 | [y0,y1,y2],_ =>
 have p0 : DataW.trod enc prog W 0 (fun _ => true) true k' 3 (([c5,c6,c7].drop 0).take (prog.cellsOf 3)) = some y0 := hf6 0 _ rfl
 have p1 : DataW.trod enc prog W 0 (fun _ => true) true k' 3 (([c5,c6,c7].drop 1).take (prog.cellsOf 3)) = some y1 := hf6 1 _ rfl
 have p2 : DataW.trod enc prog W 0 (fun _ => true) true k' 3 (([c5,c6,c7].drop 2).take (prog.cellsOf 3)) = some y2 := hf6 2 _ rfl
 simp only [k3,List.drop_zero,List.drop_succ_cons,List.take_succ_cons,List.take_zero,List.getElem?_cons_zero,List.getElem?_cons_succ] at p0 p1 p2
 obtain ⟨m0,q0,_,_⟩ := DataW.trod_int underlying3 p0
 obtain ⟨m1,q1,_,_⟩ := DataW.trod_int underlying3 p1
 obtain ⟨m2,q2,_,_⟩ := DataW.trod_int underlying3 p2
 simp only [List.cons.injEq,and_true] at e0 e1 e2 e3 e4 e6 q0 q1 q2
 subst e0 e1 e2 e3 e4 e6 q0 q1 q2
 obtain ⟨hb3,hb6⟩ := hb _ rfl
 have z3 := hb3 _ _ rfl l3
 have z6 := hb6 _ _ rfl l6
 exact ⟨⟨n0,s1,s2,0,n4,d3,⟨m0,m1,m2⟩,d6⟩,c3,c8,rfl,⟨s3,s6,w1,w2,by show (-9223372036854775808 : Int) ≤ 0 ∧ (0 : Int) ≤ 9223372036854775807; decide,by show d3.length ≤ _; omega,by show d6.length ≤ _; omega⟩,z3,z6⟩
theorem open_script6 {v:Value} {d:DataW H} {ps:List MemPlace} (hbk:Rows.uptoBulk d ≤ 1048576) (hv:Value.okWide prog W .any 0 108 v) (h:DataW.Trod enc prog W 0 (fun _ => true) true 108 v d ps) : ∃ l : Script6,Script6V W v l ∧ ∀ p ∈ l,p.1.data.length ≤ 549755813000 ∧ p.1.picks.length ≤ 4611686018427387904 := by
 have hb := script6_bulk hbk
 obtain ⟨a0,len,cap,rfl⟩ := okWide_slice underlying108 hv
 obtain ⟨fuel,hf⟩ := h
 have c9 : prog.cellsOf 113 = 9 := by kernel_rfl
 rcases Go.Deep.open_slice underlying108 hf with ⟨hcs,hx⟩ | ⟨a,len',cap',m,n,Ds,Pl,hcs,_,hl,hm,hmm,hx,hcell⟩
 ·simp [Value.cells] at hcs
  obtain ⟨rfl,rfl,rfl⟩ := hcs
  exact ⟨[],⟨Src.nil _ _,fun p hp => by cases hp⟩,fun p hp => by cases hp⟩
 ·simp [Value.cells] at hcs
  obtain ⟨rfl,rfl,rfl⟩ := hcs
  simp only [if_true] at hmm
  rw [c9] at hcell
  injection hx with hx _
  have each : ∀ i,i < len → ∃ p : StepA × Value × Value,StepV W p.1 p.2.1 p.2.2 ∧ (p.1.data.length ≤ 1048576 ∧ p.1.picks.length ≤ 1048576) ∧ ∀ j u,(step6Cells p.1 p.2.1 p.2.2)[j]? = some u → W.cell? ((a.add (i * 9)).add j) = some u := by
   intro i hi
   obtain ⟨cs',h1,h2⟩ := hcell i (by omega)
   obtain ⟨_,hlen,hc⟩ := World.cells?_some h1
   have hD : Fits6 (Ds i) := hb _ _ hx _ (List.mem_map.2 ⟨i,List.mem_range.2 hi,rfl⟩)
   obtain ⟨s,dv,pv,rfl,hs,hs2⟩ := open_step6 (x := (Ds i,Pl i)) hD h2
   refine ⟨(s,dv,pv),hs,hs2,fun j u hj => ?_⟩
   rw [hc j (List.getElem?_eq_some_iff.1 hj).1]; exact hj
  have hS : ∃ g : Nat → StepA × Value × Value,∀ i,i < len → StepV W (g i).1 (g i).2.1 (g i).2.2 ∧ ((g i).1.data.length ≤ 1048576 ∧ (g i).1.picks.length ≤ 1048576) ∧ ∀ j u,(step6Cells (g i).1 (g i).2.1 (g i).2.2)[j]? = some u → W.cell? ((a.add (i * 9)).add j) = some u := by
   classical
   refine ⟨fun i => if h : i < len then Classical.choose (each i h) else (⟨0,.empty,.empty,0,0,[],⟨0,0,0⟩,[]⟩,undef,undef),fun i hi => ?_⟩
   simp only [dif_pos hi]
   exact Classical.choose_spec (each i hi)
  obtain ⟨g,hg⟩ := hS
  refine ⟨(List.range len).map g,⟨?_,?_⟩,?_⟩
  ·rw [List.length_map,List.length_range]
   have hfl : (script6Cells ((List.range len).map g)).length = len * 9 := by
    have : ∀ l : Script6,(script6Cells l).length = l.length * 9 := by
     intro l
     induction l with
     | nil => rfl
     | cons p r ih => unfold script6Cells at *; rw [List.flatMap_cons,List.length_append,ih]; simp [step6Cells]; omega
    rw [this]; simp
   obtain ⟨b,off,spot⟩ := a
   refine ⟨some ⟨b,off,spot⟩,cap,rfl,hl,hfl,fun hpos => ?_⟩
   have h00 := (hg 0 hpos).2.2 0 _ rfl
   have hspot : spot = none := by simpa [Addr.add] using World.cell?_spot h00
   subst hspot
   refine ⟨b,off,rfl,fun j u hj => ?_⟩
   have hjl : j < len * 9 := by have := (List.getElem?_eq_some_iff.1 hj).1; rw [hfl] at this; exact this
   have hi : j / 9 < len := by omega
   have hgi : ((List.range len).map g)[j / 9]? = some (g (j / 9)) := by simp [hi]
   have hfa := flatAt (f := fun p : StepA × Value × Value => step6Cells p.1 p.2.1 p.2.2) (n := 9) (fun _ => rfl) (l := (List.range len).map g) (i := j / 9) (j := j % 9) hgi (Nat.mod_lt _ (by omega))
   have e : j / 9 * 9 + j % 9 = j := by omega
   rw [e] at hfa
   unfold script6Cells at hj
   rw [hfa] at hj
   have := (hg (j / 9) hi).2.2 (j % 9) u hj
   rw [add_at,add_at] at this
   have e2 : off + j / 9 * 9 + j % 9 = off + j := by omega
   rw [e2] at this
   exact this
  ·intro p hp
   obtain ⟨i,hi,rfl⟩ := List.mem_map.1 hp
   exact (hg i (List.mem_range.1 hi)).1
  ·intro p hp
   obtain ⟨i,hi,rfl⟩ := List.mem_map.1 hp
   have := (hg i (List.mem_range.1 hi)).2.1
   exact ⟨Nat.le_trans this.1 (by decide),Nat.le_trans this.2 (by decide)⟩
theorem w_plays6S {k:KV} {v:Value} {s:Script6} {room:Int} (hg:ErrT W) (_:-9223372036854775808 ≤ room ∧ room ≤ 9223372036854775807) (hv:Script6V W v s) (hbd:∀ p ∈ s,p.1.data.length ≤ 549755813000 ∧ p.1.picks.length ≤ 4611686018427387904) (hk:∀ w',Fr no W w' → k (.bool true) w') : pFn P 16 [i64 room,v] W k := w_filePlays hg hv hbd hk
end
end Go.Proofs.YteeeggphkhimcaaGreatDoor
