/- Put together by a program (wip/tools/shake.py): Known6,None,Nothing6,Nothing7,ROps11,ROps12,ROps13. -/
import Derived.Laws.IdiomStrings
import Derived.Lib.SlBytesConst
import Derived.Test.YteeeggphkhimcaaGreatDoorB19
import Derived.Test.YteeeggphkhimcaaGreatDoorB20
import Derived.Test.YteeeggphkhimcaaGreatDoorB15
import Derived.Test.YteeeggphkhimcaaGreatDoorB8
import Derived.Test.YteeeggphkhimcaaGreatDoorB16
import Derived.Test.YteeeggphkhimcaaGreatDoorB18
set_option linter.unusedVariables false
set_option linter.unusedSimpArgs false
set_option maxRecDepth 100000
namespace Go.Proofs.YteeeggphkhimcaaGreatDoor
open Go Go.Proofs Go.RowKit Go.Proofs.XRed Go.Proofs.XHeap Go.Proofs.XMaps Go.Proofs.XSlices Go.Proofs.XDisk Go.Proofs.XCalls Go.Proofs.XSep Tryz
def J0 : AD := AD.new 50
def J1 : AD := (J0.putF nA [120,121]).2
def J2 : AD := (J1.getF nA).2.2
def J3 : AD := (J2.getF nB).2.2
theorem J_res : (J0.putF nA [120,121]).1 = 0 ∧ (J1.getF nA).1 = 0 ∧ (J1.getF nA).2.1 = [120,121] ∧ (J2.getF nB).1 = 53 ∧ J3.strokes = 5 ∧ J3.room = 50 := by
 refine ⟨?_,?_,?_,?_,?_,?_⟩ <;> kernel_rfl
section
variable {w:World} {k:KV} {D c:Nat} {S:AD} {l:List Asrt} {name op:ByteArray} {v:Value}
theorem errA_nil (hS:Sep l w) (i:Nat) (hi:l[i]? = some (ErrA v op name 0)) : v = .nilIface := by
 obtain ⟨O,I,h,_⟩ := hS.get i hi
 rcases h with ⟨_,h,_⟩ | ⟨h,_⟩
 ·exact h
 ·exact absurd rfl h
theorem sd_strokes (hS:Sep l w) (i:Nat) (hi:l[i]? = some (Dk D S)) (ok:S.Ok c) (hk:k (i64 S.strokes) w) : pFn P 56 [ptr D] w k := by
 obtain ⟨O,I,L,hd,nx⟩ := Sep.disk hS i hi
 exact c_strokes hd.disk ok.room.1 hk
theorem sd_new {room:Int} (hS:Sep l w) (hb:¬ (1 ≤ room ∧ room ≤ 1048576) → k (.tuple #[.pointer none,i64 1]) w) (hk:1 ≤ room ∧ room ≤ 1048576 → ∀ w' D,Sep (Dk D (AD.new room) :: l) w' → k (.tuple #[ptr D,i64 0]) w') : pFn P 17 [i64 room] w k := by
 refine c_new hb fun hr w' L h f => hk hr w' _ ?_
 exact hS.new f (fun b hb => hb.elim) ⟨L,h⟩ (fun b hb => hb.1) fun b hb => hb.elim
theorem c_known6 (hg:ErrT w) (hk:∀ w',Fr no w w' → k (.bool true) w') : pFn P 18 [] w k := by
 refine F18_in _ _ ?_
 unfold F18_0
 obtain ⟨r1,r2,r3,r4,r5,r6⟩ := J_res
 have ok0 : J0.Ok 0 := AD.Ok.new (by decide)
 have ok1 : J1.Ok 8 := ok_putF ok0 (by decide) nA _
 have ok2 : J2.Ok 9 := ok_getF ok1 (by decide) nA
 have ok3 : J3.Ok 10 := ok_getF ok2 (by decide) nB
 have hsA : nA.size ≤ 9223372036854775807 := by decide
 have hsB : nB.size ≤ 9223372036854775807 := by decide
 refine sd_new (Sep.base w) (fun h => absurd (by decide) h) fun _ w1 D h1 => ?_
 refine s_ext rfl (s_ext rfl (s_nei_f rfl (pG_yes rfl (pG_yes rfl ?_))))
 refine s_eqpn upt24 (s_pick_f (pG_yes rfl (pG_yes rfl ?_)))
 refine px_ok (w' := w1.alloc (.cells (u8s [120,121]).toArray 5)) (v := .slice (some ⟨w1.heap.size,0,none⟩) 2 2) (by kernel_rfl) (pG_yes rfl ?_)
 refine px_ok (Lib.run_convert_bytes_const w1 23 5 (u8s [120,121]).toArray _ _ (by kernel_rfl) (by kernel_rfl)) (pG_yes rfl ?_)
 have f2 : Fr no w1 (w1.alloc (.cells (u8s [120,121]).toArray 5 ((u8s [120,121]).toArray.size,(u8s [120,121]).toArray.size + 1))) := Fr.alloc ..
 have h2 : Sep (BytesA (.slice (some ⟨w1.heap.size,0,none⟩) 2 2) [120,121] :: Dk D (AD.new 50) :: [Base w]) (w1.alloc (.cells (u8s [120,121]).toArray 5 ((u8s [120,121]).toArray.size,(u8s [120,121]).toArray.size + 1))) :=
  h1.new (M := no) (O' := fun _ => False) (I' := fun b => b = w1.heap.size) f2 (fun b hb => hb.elim) ⟨SBytes.blk (alloc_new _ _) (Nat.le_refl _),fun _ b hb => by injection hb with hb; exact hb.symm,fun _ h => h,fun b hb => by rw [hb]; simp⟩ (fun _ h => h.elim) fun b hb => by omega
 generalize w1.alloc (.cells (u8s [120,121]).toArray 5 ((u8s [120,121]).toArray.size,(u8s [120,121]).toArray.size + 1)) = w2 at *
 have h2' : Sep (Dk D J0 :: BytesA (.slice (some ⟨w1.heap.size,0,none⟩) 2 2) [120,121] :: [Base w]) w2 := sep_mv [1] 0 h2 rfl
 refine c_fPut (S := J0) (d := [120,121]) (name := nA) (holds_bytes _ _) h2' ok0 (by decide) hsA (by decide) fun w3 v3 h3 => ?_
 rw [r1] at h3
 have e3 := errA_nil h3 0 rfl
 subst e3
 replace h3 : Sep (Dk D J1 :: [Base w]) w3 := sep_mv [2,1] 2 h3 rfl
 refine pG_yes rfl (s_nenn (s_pick_f (pC_false ?_)))
 refine c_fGet (name := nA) h3 ok1 hsA fun w4 v4 e4 h4 => ?_
 rw [r2,r3] at h4
 have e4' := errA_nil h4 0 rfl
 subst e4'
 replace h4 : Sep (Dk D J2 :: BytesA v4 [120,121] :: [Base w]) w4 := sep_mv [1] 0 h4.drop rfl
 refine s_ext rfl (s_ext rfl ?_)
 refine c_fGet (name := nB) h4 ok2 hsB fun w5 v5 e5 h5 => ?_
 rw [r4] at h5
 replace h5 : Sep (ErrA e5 getB nB 53 :: Dk D J3 :: BytesA v4 [120,121] :: [Base w]) w5 := sep_mv [1] 1 h5 rfl
 have hg5 : ErrT w5 := hg.fr (h5.base_at 3 rfl) fun h => h
 refine s_ext rfl (s_ext rfl (s_eqnn (pG_yes rfl (pG_yes rfl (s_conv_str (Sep.bytes h5 2 rfl) (by decide) (pG_yes rfl (s_eqs ?_)))))))
 rw [show decide ((⟨([120,121] : List UInt8).toArray⟩ : ByteArray) = ByteArray.mk #[120,121]) = true from by decide]
 refine s_pick_t (pG_yes rfl (pG_yes rfl (sd_strokes h5 1 rfl ok3 ?_)))
 rw [r5]
 refine pG_yes rfl (s_eqi_t rfl (s_pick_t (pG_yes rfl (pG_yes rfl ?_))))
 refine sd_says (op := getB) h5 hg5 0 rfl (by decide) fun w6 f6 => s_pick_t (hk w6 ?_)
 exact (h5.base_at 3 rfl).trans f6 fun b hb => hb.elim
end
end Go.Proofs.YteeeggphkhimcaaGreatDoor

namespace Go.Proofs.YteeeggphkhimcaaGreatDoor
open Go Go.Proofs Go.RowKit Go.Proofs.XRed Go.Proofs.XHeap Go.Proofs.XMaps Go.Proofs.XSlices Go.Proofs.XDisk Go.Proofs.XCalls Tryz
section
variable {w:World} {p:Option Addr} {k:KV}
end
open Go.Proofs.XSep
section
variable {w:World} {k:KV} {l:List Asrt} {name:ByteArray} {p:Option Addr} {dv:Value}
end
section
variable {w W:World} {k:KV} {l:List Asrt} {name:ByteArray} {p:Option Addr} {dv:Value}
theorem r_lays (hk:k (.bool (lays name)) w) : pFn P 47 [.string name] w k := by
 refine F47_in _ _ _ ?_
 unfold F47_0
 refine r_isName name ?_
 cases hn : isName name with
 | false =>
  have : lays name = false := by
   cases hl : lays name with
   | false => rfl
   | true => rw [(lays_name hl).1] at hn; cases hn
  rw [this] at hk
  exact pG_sk (pG_sk (pG_sk (s_pick_f (pG_sk (pG_sk (pG_sk (s_pick_f hk)))))))
 | true =>
  refine pG_yes rfl (pG_yes rfl (s_lens (by kernel_rfl) (pG_yes rfl (s_lt (s_pick_t ?_)))))
  have hsz := isName_small hn
  have hpos : 0 < name.size := by unfold isName at hn; simp only [Bool.and_eq_true,decide_eq_true_eq] at hn; omega
  have hall : name.data.toList.all okByte = true := by unfold isName at hn; simp only [Bool.and_eq_true] at hn; exact hn.1.1
  by_cases h112 : (name.size : Int) < 112
  ·rw [decide_eq_true h112]
   refine pG_yes rfl (pG_yes rfl (s_ixs (by kernel_rfl) hpos (pG_yes rfl (s_nei ?_))))
   have hd := head_at name hpos
   have hl : lays name = (((name[0]'hpos).toNat : Int) != 43) := by
    unfold lays
    rw [hall,decide_eq_true (show 1 ≤ name.size by omega),decide_eq_true (show name.size ≤ 111 by omega)]
    simp only [Bool.true_and]
    by_cases h : ((name[0]'hpos).toNat : Int) = 43
    ·rw [decide_eq_false (fun h' => h' (hd.2 h))]; simp [h]
    ·rw [decide_eq_true (show name.data.toList.head? ≠ some 43 from fun h' => h (hd.1 h'))]; simp [h]
   rw [hl] at hk
   exact s_pick_t hk
  ·rw [decide_eq_false h112]
   have : lays name = false := by unfold lays; rw [decide_eq_false (show ¬ name.size ≤ 111 by omega)]; simp
   rw [this] at hk
   exact pG_sk (pG_sk (pG_sk (s_pick_f hk)))
end
section
variable {w w0:World} {D:Nat} {S S':AD} {O I:Nat → Prop} {L L':RLay} {k:KV}
theorem unitsOf_le' {b s:Bytes} {row:List Chg} {c:Nat} (h:rowOk b row s) (hc:row.length ≤ 1099511627776) (i:Nat) : unitsOf (row.take i) ≤ 1152921504606846976 := by
 have h1 := unitsOf_le (l := row.take i) fun c hc => h.units_at c (List.mem_of_mem_take hc)
 have h2 : (row.take i).length ≤ row.length := by rw [List.length_take]; omega
 have h3 : (row.take i).length * 1048576 ≤ 1099511627776 * 1048576 := Nat.mul_le_mul_right _ (by omega)
 omega
theorem s_rowAt {T:Nat} {rb:Value} {x:Thg} {w:World} (ht:RTRep w O I T rb x) {i:Nat} (hi:i < x.row.length) {kk:Value → Value → Value → Value → KV} (hk:∀ q1 q2 q3 p,ChgOk w I p → p.1 = x.row[i] → kk q1 q2 rb q3 (.agg (chCells p).toArray) w) :
    px P (nilSem (ptr T)) w fun q1 w => px P (Instr.fieldAt 258 q1 2) w fun q2 w => px P (Instr.loadAt 256 q2) w fun v w => px P (Instr.indexAt 256 v (i64 i)) w fun q3 w => px P (Instr.loadAt 268 q3) w (kk q1 q2 v q3) := by
  obtain ⟨sv,hv,ps,hb,g1,g2,g3,g4,g5⟩ := ht.ex
  refine s_nil (fa258_2 (s_ldb (v := rb) (isAgg256 _) hb rfl ?_))
  have hl : ps.length = x.row.length := by rw [← g4,List.length_map]
  have hip : i < ps.length := by omega
  refine s_elemN (m := 0) (vs := chCells ps[i]) usl256 (sze256 _) (isAgg268 _) (sizeOf268 _) (Src.of_own g3) hi (by omega) (chCells_len _) (fun j hj => flatAt (f := chCells) chCells_len (List.getElem?_eq_getElem hip) hj) fun q3 => ?_
  refine hk _ _ _ ps[i] (g5 _ (List.getElem_mem hip)) ?_
  have : (ps.map (·.1))[i]? = x.row[i]? := by rw [g4]
  rw [List.getElem?_map,List.getElem?_eq_getElem hip,List.getElem?_eq_getElem hi] at this
  simpa using this
theorem s_rowLen {T:Nat} {rb:Value} {x:Thg} {w:World} (ht:RTRep w O I T rb x) {kk:Value → Value → Value → KV} (hk:∀ q1 q2,kk q1 q2 rb (i64 x.row.length) w) :
    px P (nilSem (ptr T)) w fun q1 w => px P (Instr.fieldAt 258 q1 2) w fun q2 w => px P (Instr.loadAt 256 q2) w fun v w => px P (bSem .len #[256] 3 #[v]) w (kk q1 q2 v) := by
  obtain ⟨sv,hv,ps,hb,g1,g2,g3,g4,g5⟩ := ht.ex
  exact s_nil (fa258_2 (s_ldb (v := rb) (isAgg256 _) hb rfl (s_lenS usl256 (Src.of_own g3) (hk _ _))))
theorem r_cr3 {t i c:Nat} {pv lv:Value} {N2:KE} (h:RRep w D S O I L) (ht:L.has t) (hT:(S.things t).Ok c) (hc:c ≤ 1099511627776) {ρ:Env} (e0:ρ 0 = ptr D) (e1:ρ 1 = pv) (e4:ρ 4 = lv) (e8:ρ 8 = i64 i) (e9:ρ 9 = ptr (L.loc t)) (e10:ρ 10 = i64 0) (e11:ρ 11 = i64 0)
    (hk:∀ ρ' w',Fr no w w' → ρ' 0 = ptr D → ρ' 1 = pv → ρ' 4 = lv → ρ' 7 = ρ 7 → ρ' 8 = i64 i → ρ' 9 = ptr (L.loc t) → ρ' 10 = i64 (unitsOf (S.things t).row) → F113_6 k N2 ρ' w') : F113L3 k N2 ρ w := by
  have hrl := hT.row
  refine F113L3_inv (m := (S.things t).row.length) k N2 (fun m ρ' w' => ∃ j : Nat,j + m = (S.things t).row.length ∧ Fr no w w' ∧ ρ' 0 = ptr D ∧ ρ' 1 = pv ∧ ρ' 4 = lv ∧ ρ' 7 = ρ 7 ∧ ρ' 8 = i64 i ∧ ρ' 9 = ptr (L.loc t) ∧ ρ' 10 = i64 (unitsOf ((S.things t).row.take j)) ∧ ρ' 11 = i64 j) ?_
    ⟨0,by omega,Fr.refl _ _,e0,e1,e4,rfl,e8,e9,e10,e11⟩
  rintro m ρ' w' ⟨j,hjm,hf,a0,a1,a4,a7,a8,a9,a10,a11⟩
  rw [F113_4_eq]
  unfold F113_4
  rw [a9,a10,a11]
  have hT' := (h.fr hf fun b hb => hb.elim).things t ht
  refine s_rowLen hT' fun q1 q2 => ?_
  by_cases hj : j < (S.things t).row.length
  · refine s_lt_t (by omega) (pC_true (s_rowAt hT' hj fun q1 q2 q3 p hp hpe => ?_))
    refine r_units hp fun w2 f2 => ?_
    rw [hpe]
    have hu := unitsOf_le' (c := c) hT.ok (by omega) (j + 1)
    have hs := units_take (S.things t).row hj
    refine s_add_in (by omega) (s_add_in (by omega) ⟨m - 1,by omega,j + 1,by omega,hf.trans f2 fun b => .inl,a0,a1,a4,a7,a8,a9,?_,?_⟩)
    · show i64 _ = i64 _; rw [hs]; simp
    · show i64 _ = i64 _; simp
  · refine s_lt_f (by omega) (pC_false ?_)
    rw [F113_6_eq]
    rw [List.take_of_length_le (by omega)] at a10
    exact hk _ w' hf a0 a1 a4 a7 a8 a9 a10
theorem r_cr6 {t i c:Nat} {pv lv:Value} {picks:List Int} {N2:KE} (h:RRep w D S O I L) (ht:L.has t) (hT:(S.things t).Ok c) (hc:c ≤ 1099511627776) (hp:Src w pv 1 picks.length (picks.map i64)) (hi:i ≤ 1099511627776) {ρ:Env} (e0:ρ 0 = ptr D) (e1:ρ 1 = pv) (e4:ρ 4 = lv) (e8:ρ 8 = i64 i) (e9:ρ 9 = ptr (L.loc t)) (e10:ρ 10 = i64 (unitsOf (S.things t).row))
    (hk:∀ ρ' w',Fr no w w' → ρ' 0 = ptr D → ρ' 1 = pv → ρ' 4 = lv → ρ' 7 = ρ 7 → ρ' 8 = i64 i → SBytes w' (ρ' 13) (S.crashBytes picks i t) → (∀ b,sblk (ρ' 13) = some b → w.heap.size ≤ b ∧ b < w'.heap.size) → F113_9 k N2 ρ' w') : F113_6 k N2 ρ w := by
  have hrl := hT.row
  unfold F113_6
  rw [e1,e8,e9,e10]
  have hu := unitsOf_le' (c := c) hT.ok (by omega) (S.things t).row.length
  rw [List.take_length] at hu
  refine s_add_in (by omega) ?_
  show pFn P 168 [pv,i64 ((i + 1 : Nat) : Int),_] w _
  refine r_round hp (i + 1) _ (by omega) (by omega) ?_
  obtain ⟨sv,hv,ps,hb,g1,g2,g3,g4,g5⟩ := (h.things t ht).ex
  refine s_nil (fa258_0 (s_ldb (v := sv) (isAgg23 _) hb rfl (r_copied g1.1 (by have := hT.ok.len.2; omega) fun v1 w1 n1 f1 => ?_)))
  have hcb : S.crashBytes picks i t = XDisk.leftOf (S.things t).safe (S.things t).row (pickA picks (i + 1) (unitsOf (S.things t).row)) := rfl
  rw [hcb] at hk
  have hple : pickA picks (i + 1) (unitsOf (S.things t).row) ≤ unitsOf (S.things t).row := by
    unfold pickA
    split
    · rename_i p _
      unfold roundA
      have h1 := Int.emod_lt_of_pos p (show (0 : Int) < (unitsOf (S.things t).row : Int) + 1 by omega)
      have : p.emod ((unitsOf (S.things t).row : Int) + 1) < (unitsOf (S.things t).row : Int) + 1 := h1
      omega
    · omega
  generalize pickA picks (i + 1) (unitsOf (S.things t).row) = u0 at *
  refine F113L4_inv (m := (S.things t).row.length) k N2 (fun m ρ' w' => ∃ (j u:Nat) (b:Bytes),j + m = (S.things t).row.length ∧ Fr no w w' ∧ ρ' 0 = ptr D ∧ ρ' 1 = pv ∧ ρ' 4 = lv ∧ ρ' 7 = ρ 7 ∧ ρ' 8 = i64 i ∧ ρ' 9 = ptr (L.loc t) ∧ ρ' 12 = i64 u ∧ ρ' 14 = i64 j ∧ u ≤ u0 ∧ SBytes w' (ρ' 13) b ∧ (∀ x,sblk (ρ' 13) = some x → w.heap.size ≤ x ∧ x < w'.heap.size) ∧
      XDisk.leftOf (S.things t).safe (S.things t).row u0 = XDisk.leftOf b ((S.things t).row.drop j) u ∧ midOk b ((S.things t).row.drop j) u (S.things t).shown) ?_
    ⟨0,u0,(S.things t).safe,by omega,f1,e0,e1,e4,rfl,e8,e9,rfl,rfl,Nat.le_refl _,n1.sb,n1.blk,rfl,.inl hT.ok⟩
  rintro m ρ' w' ⟨j,u,b,hjm,hf,a0,a1,a4,a7,a8,a9,a12,a14,hu0,hsb,hblk,hleft,hmid⟩
  rw [F113_7_eq]
  unfold F113_7
  rw [a9,a12,a14]
  have hT' := (h.fr hf fun b hb => hb.elim).things t ht
  have fin : XDisk.leftOf b ((S.things t).row.drop j) u = b → ∀ ρ'',ρ'' 0 = ptr D → ρ'' 1 = pv → ρ'' 4 = lv → ρ'' 7 = ρ 7 → ρ'' 8 = i64 i → ρ'' 13 = ρ' 13 → F113_9 k N2 ρ'' w' := by
    intro he ρ'' b0 b1 b4 b7 b8 b13
    refine hk ρ'' w' hf b0 b1 b4 b7 b8 ?_ (by rw [b13]; exact hblk)
    rw [b13,hleft,he]; exact hsb
  refine s_rowLen hT' fun q1 q2 => ?_
  by_cases hj : j < (S.things t).row.length
  · refine s_lt_t (by omega) (pG_yes rfl (pG_yes rfl ?_))
    by_cases hu1 : u = 0
    · refine s_gt_f (by omega) (s_pick_t (pC_false ?_))
      rw [F113_9_eq]
      exact fin (by rw [hu1]; exact leftOf_zero _ _) _ a0 a1 a4 a7 a8 rfl
    · refine s_gt_t (by omega) (s_pick_t (pC_true (s_rowAt hT' hj fun q1 q2 q3 p hpk hpe => ?_)))
      refine r_units hpk fun w2 f2 => ?_
      have hlf := leftOf_drop (u := u) (b := b) hj
      rw [List.drop_eq_getElem_cons hj] at hmid
      obtain ⟨hm1,hbl,hcu,hm4,hm5⟩ := hmid.step
      have hrow : rowOk b ((S.things t).row[j] :: (S.things t).row.drop (j + 1)) (S.things t).shown := hmid.resolve_right fun h => hu1 h.1
      have next : ∀ (ρ2:Env) (v:Nat),v = min u (S.things t).row[j].units → ρ2 0 = ptr D → ρ2 1 = pv → ρ2 4 = lv → ρ2 7 = ρ 7 → ρ2 8 = i64 i → ρ2 9 = ptr (L.loc t) → ρ2 12 = i64 u → ρ2 13 = ρ' 13 → ρ2 14 = i64 j → ρ2 15 = i64 v →
          F113_8 k N2 (fun ρ' w' => ∃ m',m' < m ∧ ∃ (j u:Nat) (b:Bytes),j + m' = (S.things t).row.length ∧ Fr no w w' ∧ ρ' 0 = ptr D ∧ ρ' 1 = pv ∧ ρ' 4 = lv ∧ ρ' 7 = ρ 7 ∧ ρ' 8 = i64 i ∧ ρ' 9 = ptr (L.loc t) ∧ ρ' 12 = i64 u ∧ ρ' 14 = i64 j ∧ u ≤ u0 ∧ SBytes w' (ρ' 13) b ∧ (∀ x,sblk (ρ' 13) = some x → w.heap.size ≤ x ∧ x < w'.heap.size) ∧
            XDisk.leftOf (S.things t).safe (S.things t).row u0 = XDisk.leftOf b ((S.things t).row.drop j) u ∧ midOk b ((S.things t).row.drop j) u (S.things t).shown) ρ2 w2 := by
        intro ρ2 v hv b0 b1 b4 b7 b8 b9 b12 b13 b14 b15
        unfold F113_8
        rw [b9,b12,b13,b14,b15]
        have hT2 := hT'.fr f2 (fun h => h) (fun _ _ h => h) fun _ _ h => h
        refine s_rowAt hT2 hj fun q1 q2 q3 p2 hpk2 hpe2 => ?_
        refine r_change hpk2 (hsb.fr f2 fun _ _ h => h) (by rw [hpe2,hv]; omega) (by omega) (fun n e _ => ?_) (fun a d e => ?_) fun v3 w3 h3 hb3 f3 => ?_
        · rw [hpe2] at e; exact hrow.2.1 n e
        · rw [hpe2] at e
          have := hrow.2.2.1 a d e; omega
        · rw [hpe2,hv] at h3
          have z2 := f2.size
          have z3 := f3.size
          have zw := hf.size
          refine s_sub_in (by omega) (s_add_in (by omega) ⟨m - 1,by omega,j + 1,u - min u (S.things t).row[j].units,_,by omega,(hf.trans f2 fun b => .inl).trans f3 fun b => .inl,b0,b1,b4,b7,b8,b9,?_,?_,by omega,h3,fun x hx => ?_,hleft.trans hlf,hm1⟩)
          · show i64 _ = i64 _; congr 1; omega
          · show i64 _ = i64 _; simp
          · rcases hb3 x hx with e | e
            · have := hblk x e; omega
            · omega
      by_cases hg : (S.things t).row[j].units > u
      · refine s_gt_t (by rw [hpe]; omega) (pC_true ?_)
        rw [F113_8_eq]
        exact next _ u (by omega) a0 a1 a4 a7 a8 a9 a12 rfl a14 rfl
      · refine s_gt_f (by rw [hpe]; omega) (pC_false ?_)
        rw [F113_8_eq]
        exact next _ p.1.units (by rw [hpe]; omega) a0 a1 a4 a7 a8 a9 a12 rfl a14 rfl
  · refine s_lt_f (by omega) ?_
    repeat (first | refine pG_sk ?_ | refine pG_un ?_)
    refine s_pick_f (pC_false ?_)
    rw [F113_9_eq]
    exact fin (by rw [List.drop_eq_nil_of_le (by omega)]; rfl) _ a0 a1 a4 a7 a8 rfl
end
section
variable {w w0:World} {D:Nat} {S S':AD} {O I:Nat → Prop} {L L':RLay} {k:KV}
def NowCells (l:Names) (ts:List Nat) : List Value := (l.zip ts).flatMap fun q => [.string q.1.1,ptr q.2]
structure CrMid (w:World) (B:Nat) (rowv:Value) (l:Names) (f:Nat → Nat → Bytes) (ts:List Nat) : Prop where
 row : w.ownsRow B 264 2 rowv ts.length (NowCells l ts)
 nd : ts.Nodup
 len : ts.length ≤ l.length
 th : ∀ (j T:Nat),ts[j]? = some T → ∀ p,l[j]? = some p → ∃ sv hv,w.heap[T]? = some (.cells #[sv,hv,.slice none 0 0] 258 (0,0)) ∧ B ≤ T ∧ SBytes w sv (f j p.2) ∧ SBytes w hv (f j p.2) ∧ ∀ b,sblk sv = some b ∨ sblk hv = some b → B ≤ b ∧ b < w.heap.size ∧ sblk rowv ≠ some b ∧ b ∉ ts
theorem CrMid.fr {w w':World} {B:Nat} {rowv:Value} {l:Names} {f:Nat → Nat → Bytes} {ts:List Nat} (h:CrMid w B rowv l f ts) (hf:Fr no w w') : CrMid w' B rowv l f ts where
 row := own_fr h.row hf fun _ _ h => h
 nd := h.nd
 len := h.len
 th := fun j T hT p hp => by
  obtain ⟨sv,hv,h1,h2,h3,h4,h5⟩ := h.th j T hT p hp
  exact ⟨sv,hv,hf.get h1 id,h2,h3.fr hf fun _ _ h => h,h4.fr hf fun _ _ h => h,fun b hb => ⟨(h5 b hb).1,Nat.lt_of_lt_of_le (h5 b hb).2.1 hf.size,(h5 b hb).2.2⟩⟩
theorem CrMid.lt {w:World} {B:Nat} {rowv:Value} {l:Names} {f:Nat → Nat → Bytes} {ts:List Nat} (h:CrMid w B rowv l f ts) : ∀ T ∈ ts,B ≤ T ∧ T < w.heap.size ∧ sblk rowv ≠ some T := by
 intro T hT
 obtain ⟨j,hj⟩ := List.getElem?_of_mem hT
 have hjl : j < l.length := Nat.lt_of_lt_of_le (List.getElem?_eq_some_iff.1 hj).1 h.len
 obtain ⟨sv,hv,h1,h2,_⟩ := h.th j T hj _ (List.getElem?_eq_getElem hjl)
 refine ⟨h2,lt_of_get h1,fun e => ?_⟩
 obtain ⟨c,hc⟩ := own_obj h.row e
 exact absurd (two_types hc h1) (by decide)
theorem zip_snoc {α β:Type} : ∀ {l:List α} {ts:List β} {T:β} (h:ts.length < l.length),l.zip (ts ++ [T]) = l.zip ts ++ [(l[ts.length],T)]
 | [],ts,T,h => by simp at h
 | p :: l,[],T,h => by simp
 | p :: l,t :: ts,T,h => by
  have := zip_snoc (l := l) (ts := ts) (T := T) (by simpa using h)
  simpa using this
theorem NowCells_snoc {l:Names} {ts:List Nat} {T:Nat} (h:ts.length < l.length) : NowCells l (ts ++ [T]) = NowCells l ts ++ [.string l[ts.length].1,ptr T] := by
 unfold NowCells
 rw [zip_snoc h,List.flatMap_append]
 simp
set_option maxHeartbeats 1000000 in
theorem r_cr9 {i:Nat} {pv lv:Value} {l:Names} {f:Nat → Nat → Bytes} {ts:List Nat} {wl:World} {N2:KE} (hl:Src wl lv 2 l.length (nmCells L.loc l)) (hlw:Fr no wl w) (hi:ts.length < l.length) (hlen:l.length ≤ 256) {ρ7:Value} (hm:CrMid w wl.heap.size ρ7 l f ts)
    {ρ:Env} (e0:ρ 0 = ptr D) (e1:ρ 1 = pv) (e4:ρ 4 = lv) (e8:ρ 8 = i64 ts.length) (e7:ρ 7 = ρ7) {w1:World} (hf1:Fr no w w1) (hb:SBytes w1 (ρ 13) (f ts.length l[ts.length].2)) (hbl:(f ts.length l[ts.length].2).length ≤ 1099511627776) (hbb:∀ b,sblk (ρ 13) = some b → w.heap.size ≤ b ∧ b < w1.heap.size)
    (hk:∀ ρ' w' T,Fr no wl w' → CrMid w' wl.heap.size (ρ' 7) l f (ts ++ [T]) → ρ' 0 = ptr D → ρ' 1 = pv → ρ' 4 = lv → ρ' 8 = i64 (ts.length + 1) → N2 ρ' w') : F113_9 k N2 ρ w1 := by
  unfold F113_9
  rw [e4,e8,e7]
  have f01 := hlw.trans hf1 fun b => .inl
  have hl1 : Src w1 lv 2 l.length (nmCells L.loc l) := hl.fr (by omega) f01 fun _ _ h => h
  obtain ⟨b,o,cc,ev,q0,q1⟩ := nm_at hl1 hi
  have hbl0 : b < wl.heap.size := Src.lt hl (by omega) (by omega) (by rw [ev]; rfl)
  have fd : Fr no w1 w1.drew := Fr.drew _ _
  have keep : ∀ w2 : World,w2.heap[b]? = w1.heap[b]? → w2.cell? ⟨b,o + ts.length * 2,none⟩ = some (.string l[ts.length].1) := fun w2 e => by rw [World.cell?_of_block (w := w1) e]; exact q0
  have hb1 : b < w1.heap.size := Nat.lt_of_lt_of_le hbl0 f01.size
  refine ⟨fun w2 : World => w2.cell? ⟨b,o + ts.length * 2,none⟩ = some (.string l[ts.length].1),q0,?_⟩
  refine q_of (.pointer (some ⟨b,o + ts.length * 2,none⟩)) (fun w_ hS => by rw [ev]; exact s_ix (i := (ts.length : Int)) usl242 (sze242 _) (by omega) (by omega) ⟨by simp,rfl⟩) ?_
  refine q_of _ (fun w_ hS => fa264_0 ⟨rfl,rfl⟩) (q_of _ (fun w_ hS => s_ld (isAgg9 _) hS ⟨rfl,rfl⟩) ?_)
  obtain ⟨A3,c3,ev3,_⟩ := hb.form
  refine r_copied (hb.fr fd fun _ _ h => h) (by omega) fun v2 w2 n2 f2 => ?_
  obtain ⟨A2,c2,ev2,_⟩ := n2.sb.form
  subst ev2
  rw [ev3]
  rw [ev3] at hb hbb
  have f12 : Fr no w1 w2 := fd.trans f2 fun b => .inl
  have zd : w1.drew.heap.size = w1.heap.size := rfl
  have hn2 := n2.blk
  generalize hD : f ts.length l[ts.length].2 = bs at *
  refine ⟨keep w2 (f12.block b hb1 id),q_of (.agg #[.slice A3 bs.length c3,.slice A2 bs.length c2,.slice none 0 0]) (fun w_ hS => px_ok (w' := w_) (by kernel_rfl) ⟨rfl,rfl⟩) (s_box ?_)⟩
  have bT := alloc_new w2 (.cells #[.slice A3 bs.length c3,.slice A2 bs.length c2,.slice none 0 0] 258)
  have fT := Fr.alloc no w2 (.cells #[.slice A3 bs.length c3,.slice A2 bs.length c2,.slice none 0 0] 258)
  have zT : (w2.alloc (.cells #[.slice A3 bs.length c3,.slice A2 bs.length c2,.slice none 0 0] 258)).heap.size = w2.heap.size + 1 := by simp
  show _ ∧ _
  have hwT : w2.alloc (.cells (Value.agg #[.slice A3 bs.length c3,.slice A2 bs.length c2,.slice none 0 0]).cells 258) = w2.alloc (.cells #[.slice A3 bs.length c3,.slice A2 bs.length c2,.slice none 0 0] 258) := rfl
  rw [hwT]
  generalize w2.alloc (.cells #[.slice A3 bs.length c3,.slice A2 bs.length c2,.slice none 0 0] 258) = w3 at *
  have f13 : Fr no w1 w3 := f12.trans fT fun b => .inl
  refine ⟨keep w3 (f13.block b hb1 id),q_of (.agg #[.string l[ts.length].1,ptr w2.heap.size]) (fun w_ hS => px_ok (w' := w_) (by unfold ptr; kernel_rfl) ⟨rfl,rfl⟩) ?_⟩
  refine px_ok (w' := w3.alloc (.cells #[.string l[ts.length].1,ptr w2.heap.size] 264)) (v := .slice (some ⟨w3.heap.size,0,none⟩) 1 1) (by unfold ptr; kernel_rfl) ?_
  have f4 := Fr.alloc no w3 (.cells #[.string l[ts.length].1,ptr w2.heap.size] 264)
  have ho4 := own_lit w3 0 264 2 #[.string l[ts.length].1,ptr w2.heap.size] 1 (Nat.zero_le _) (by unfold maxLen; omega) rfl
  have z4 : (w3.alloc (.cells #[.string l[ts.length].1,ptr w2.heap.size] 264)).heap.size = w3.heap.size + 1 := by simp
  generalize w3.alloc (.cells #[.string l[ts.length].1,ptr w2.heap.size] 264) = w4 at *
  have f14 : Fr no w1 w4 := f13.trans f4 fun b => .inl
  refine ⟨keep w4 (f14.block b hb1 id),?_⟩
  have f04 : Fr no w w4 := hf1.trans f14 fun b => .inl
  have hm4 := hm.fr f04
  have zw1 := hf1.size
  have zlw := hlw.size
  have zf2 := f2.size
  refine ap242 (base := wl.heap.size) hm4.row (Src.of_own ho4) (by intro u hu; simp at hu; rcases hu with rfl | rfl <;> rfl) (by omega) (by omega) fun v5 w5 h5 f5 hb5 => ?_
  have z5 := f5.size
  have hrb : ∀ x,sblk ρ7 = some x → wl.heap.size ≤ x ∧ x < w.heap.size := fun x hx => own_blk_lt hm.row hx
  have hold : ∀ x,x ≠ (fun y => y) x ∨ some x ≠ sblk ρ7 → x < w4.heap.size → w5.heap[x]? = w4.heap[x]? := fun x h hx => f5.block x hx fun e => by
    rcases h with h | h
    · exact h rfl
    · exact h e
  have hb5' : ∀ x,sblk v5 = some x → sblk ρ7 = some x ∨ w4.heap.size ≤ x := by
    intro x hx
    rcases hb5 with e | e
    · exact .inl (e ▸ hx)
    · rw [e] at hx; injection hx with hx; exact .inr (by omega)
  have hbw : some b ≠ sblk ρ7 := fun e => by have := (hrb b e.symm).1; omega
  refine ⟨keep w5 ((hold b (.inr hbw) (by omega)).trans (f14.block b hb1 id)),s_add_in (by omega) ?_⟩
  refine hk _ w5 w2.heap.size ((hlw.trans f04 fun b => .inl).trans f5 fun x hx => .inr (hrb x hx.symm).1) ⟨?_,?_,by rw [List.length_append]; exact hi,?_⟩ e0 e1 e4 rfl
  · show w5.ownsRow _ _ _ v5 _ _
    rw [List.length_append,NowCells_snoc hi]; exact h5
  · rw [List.nodup_append]
    refine ⟨hm.nd,by simp,fun x hx y hy => ?_⟩
    rw [List.mem_singleton] at hy; subst hy
    have := (hm.lt x hx).2.1; omega
  · intro j T hT p hp
    show ∃ sv hv,_ ∧ _ ∧ _ ∧ _ ∧ ∀ x,sblk sv = some x ∨ sblk hv = some x → _ ∧ _ ∧ sblk v5 ≠ some x ∧ _
    rcases Nat.lt_or_ge j ts.length with hj | hj
    · rw [List.getElem?_append_left hj] at hT
      obtain ⟨sv,hv,g1,g2,g3,g4,g5⟩ := hm4.th j T hT p hp
      have hTm := hm4.lt T (List.mem_of_getElem? hT)
      refine ⟨sv,hv,f5.get g1 fun e => hTm.2.2 e.symm,g2,g3.fr f5 fun x hx e => (g5 x (.inl hx)).2.2.1 e.symm,g4.fr f5 fun x hx e => (g5 x (.inr hx)).2.2.1 e.symm,fun x hx => ?_⟩
      have g6 := g5 x hx
      have hxw : x < w.heap.size := by
        obtain ⟨sv',hv',k1,_,_,_,k5⟩ := hm.th j T hT p hp
        have : w4.heap[T]? = w.heap[T]? := f04.block T (lt_of_get k1) id
        rw [g1,k1] at this
        injection this with this; injection this with this
        have e1 : sv = sv' := by have := congrArg (fun a:Array Value => a[0]?) this; simpa using this
        have e2 : hv = hv' := by have := congrArg (fun a:Array Value => a[1]?) this; simpa using this
        subst e1; subst e2
        exact (k5 x hx).2.1
      refine ⟨g6.1,by omega,fun e => ?_,fun hm' => ?_⟩
      · rcases hb5' x e with e | e
        · exact g6.2.2.1 e
        · omega
      · rcases List.mem_append.1 hm' with hm' | hm'
        · exact g6.2.2.2 hm'
        · rw [List.mem_singleton] at hm'; omega
    · have hj' : j = ts.length := by
        have := (List.getElem?_eq_some_iff.1 hT).1
        simp at this; omega
      subst hj'
      rw [List.getElem?_append_right (Nat.le_refl _),Nat.sub_self] at hT
      simp at hT; subst hT
      have hp' : p = l[ts.length] := by rw [List.getElem?_eq_getElem hi] at hp; injection hp with hp; exact hp.symm
      subst hp'
      rw [hD]
      have hTr : some w2.heap.size ≠ sblk ρ7 := fun e => by have := (hrb _ e.symm).2; omega
      have hnr : ∀ x,w.heap.size ≤ x → some x ≠ sblk ρ7 := fun x hx e => by have := (hrb x e.symm).2; omega
      refine ⟨.slice A3 bs.length c3,.slice A2 bs.length c2,f5.get (f4.get bT id) hTr,by omega,(hb.fr f14 fun _ _ h => h).fr f5 fun x hx e => hnr x (hbb x hx).1 e,((n2.sb.fr fT fun _ _ h => h).fr f4 fun _ _ h => h).fr f5 fun x hx e => hnr x (by have := hn2 x hx; omega) e,fun x hx => ?_⟩
      have hx2 : w.heap.size ≤ x ∧ x < w2.heap.size := by
        rcases hx with hx | hx
        · have := hbb x hx; omega
        · have := hn2 x hx; omega
      refine ⟨by omega,by omega,fun e => ?_,fun hm' => ?_⟩
      · rcases hb5' x e with e | e
        · exact hnr x hx2.1 e.symm
        · omega
      · rcases List.mem_append.1 hm' with hm' | hm'
        · have := (hm.lt x hm').2.1; omega
        · rw [List.mem_singleton] at hm'; omega
end
section
variable {w w0:World} {D:Nat} {S S':AD} {O I:Nat → Prop} {L L':RLay} {k:KV}
def nowOf (l:Names) (n:Nat) : Names := l.zipIdx.map fun (p,i) => (p.1,n + i)
theorem nowOf_len (l:Names) (n:Nat) : (nowOf l n).length = l.length := by unfold nowOf; simp
theorem nowCells_eq : ∀ (l:Names) (ts:List Nat) (n j:Nat) (loc:Nat → Nat),ts.length = l.length → (∀ i T,ts[i]? = some T → loc (n + (j + i)) = T) → nmCells loc ((l.zipIdx j).map fun (p,i) => (p.1,n + i)) = NowCells l ts
 | [],[],_,_,_,_,_ => rfl
 | [],t :: ts,_,_,_,h,_ => by simp at h
 | p :: l,[],_,_,_,h,_ => by simp at h
 | p :: l,t :: ts,n,j,loc,h,hl => by
  have ih := nowCells_eq l ts n (j + 1) loc (by simpa using h) fun i T hi => by
   have := hl (i + 1) T (by simpa using hi)
   rw [show j + 1 + i = j + (i + 1) by omega]; exact this
  have h0 := hl 0 t rfl
  unfold nmCells NowCells at *
  simp only [List.zipIdx_cons,List.map_cons,List.flatMap_cons,List.zip_cons_cons]
  rw [ih]
  rw [show n + j = n + (j + 0) by omega,h0]
theorem mem_nowOf {l:Names} {n t:Nat} {s:ByteArray} (h:(s,t) ∈ nowOf l n) : n ≤ t ∧ t < n + l.length := by
 unfold nowOf at h
 obtain ⟨q,hq,e⟩ := List.mem_map.1 h
 have := List.mem_zipIdx hq
 injection e with e1 e2
 omega
set_option maxHeartbeats 2000000 in
theorem r_crash {c:Nat} {picks:List Int} {pv:Value} (h:RRep w D S O I L) (ok:S.Ok c) (hp:Src w pv 1 picks.length (picks.map i64)) (hk:∀ w' O' I' L',RNx w D O I w' (S.crash picks) O' I' L' → k (.tuple #[]) w') : pFn P 113 [ptr D,pv] w k := by
 have hsm := ok.small
 have hrow := ok.row
 have hroom := ok.room
 refine F113_in _ _ _ _ ?_
 unfold F113_0
 show px P (binSem BinOp.eql 177 _ _ (ptr D) (.pointer none)) w _
 refine s_eqpn upt177 (pG_yes rfl (pG_yes rfl (s_nil (pG_yes rfl (fa245_1 (pG_yes rfl (s_ldb (v := i64 S.room) (isAgg3 _) h.disk rfl (pG_yes rfl (s_eqi_f (by omega) (s_pick_f (pC_false ?_)))))))))))
 refine s_nil (fa245_3 (s_ldb (v := L.befv) (isAgg242 _) h.disk rfl (s_nil (fa245_4 (s_ldb (v := L.turnv) (isAgg243 _) h.disk rfl (s_lenS usl243 (Src.of_own h.turns) ?_))))))
 refine r_round hp 0 S.row.length (by omega) (by omega) ?_
 have hple : pickA picks 0 S.row.length ≤ S.row.length := by
  unfold pickA
  split
  ·rename_i p _
   unfold roundA
   have h1 : p.emod ((S.row.length : Int) + 1) < (S.row.length : Int) + 1 := Int.emod_lt_of_pos p (show (0 : Int) < (S.row.length : Int) + 1 by omega)
   omega
  ·omega
 have hcn : S.crashNames picks = (S.row.take (pickA picks 0 S.row.length)).foldl (fun l c => c.on l) S.safe := rfl
 generalize pickA picks 0 S.row.length = n0 at *
 refine F113L1_inv (m := n0) k (fun m ρ w' => ∃ i : Nat,i + m = n0 ∧ Fr no w w' ∧ ρ 0 = ptr D ∧ ρ 1 = pv ∧ ρ 5 = i64 n0 ∧ ρ 6 = i64 i ∧ Src w' (ρ 4) 2 ((S.row.take i).foldl (fun l c => c.on l) S.safe).length (nmCells L.loc ((S.row.take i).foldl (fun l c => c.on l) S.safe))) ?_
  ⟨0,by omega,Fr.refl _ _,rfl,rfl,rfl,rfl,h.bef.1⟩
 rintro m ρ w' ⟨i,him,hf,e0,e1,e5,e6,hsrc⟩
 rw [F113_1_eq]
 unfold F113_1
 rw [e0,e5,e6]
 have h' := h.fr hf fun b hb => hb.elim
 by_cases hi : i < n0
 ·have hir : i < S.row.length := by omega
  obtain ⟨hgive,hlen⟩ := ok.turns.at_ (List.getElem?_eq_getElem hir)
  refine s_lt_t (by omega) (pC_true (s_nil (fa245_4 (s_ldb (v := L.turnv) (isAgg243 _) h'.disk rfl ?_))))
  refine s_elemN (m := 0) (vs := rturn L.loc S.row[i]) usl243 (sze243 _) (isAgg260 _) (sizeOf260 _) (Src.of_own h'.turns) hir (by omega) (rturn_len _ _) (fun j hj => flatAt (f := rturn L.loc) (rturn_len L.loc) (List.getElem?_eq_getElem hir) hj) fun q3 => ?_
  refine r_turn (c := S.row[i]) hsrc (by omega) hgive (Ordered.fold ok.safe).nodup fun v2 w2 hv2 hb2 f2 => ?_
  refine s_add_in (by omega) ⟨m - 1,by omega,i + 1,by omega,hf.trans f2 fun b => .inl,e0,e1,e5,?_,?_⟩
  ·show i64 _ = i64 _; simp
  ·rw [List.take_succ_eq_append_getElem hir,List.foldl_append]
   exact hv2
 refine s_lt_f (by omega) (pC_false ?_)
 rw [F113_2_eq]
 unfold F113_2
 have hin : i = n0 := by omega
 subst hin
 rw [← hcn] at hsrc
 have hcl : (S.crashNames picks).length ≤ 256 := by
  rw [hcn]
  rcases Nat.lt_or_ge i S.row.length with h1 | h1
  ·exact (ok.turns.at_ (List.getElem?_eq_getElem h1)).2
  ·rw [List.take_of_length_le h1,← ok.turns.eq]; exact ok.turns.len.1
 have hreach := ok.crash_reach picks
 clear hcn hple him
 generalize hl : S.crashNames picks = l at *
 have hp' : Src w' pv 1 picks.length (picks.map i64) := hp.fr (by omega) hf fun _ _ h => h
 -- the second loop
 refine F113L2_inv (m := l.length) k (fun m ρ' w2 => ∃ ts : List Nat,ts.length + m = l.length ∧ Fr no w' w2 ∧ ρ' 0 = ptr D ∧ ρ' 1 = pv ∧ ρ' 4 = ρ 4 ∧ ρ' 8 = i64 ts.length ∧ CrMid w2 w'.heap.size (ρ' 7) l (S.crashBytes picks) ts) ?_
  ⟨[],by simp,Fr.refl _ _,e0,e1,rfl,rfl,⟨⟨by simp [NowCells],.inl ⟨rfl,rfl⟩⟩,List.nodup_nil,Nat.zero_le _,fun j T hT => by simp at hT⟩⟩
 rintro m ρ' w2 ⟨ts,htm,f2,a0,a1,a4,a8,hm⟩
 rw [F113_3_eq]
 unfold F113_3
 rw [a4,a8]
 have hsrc2 : Src w2 (ρ 4) 2 l.length (nmCells L.loc l) := hsrc.fr (by omega) f2 fun _ _ h => h
 refine s_lenS usl242 hsrc2 ?_
 by_cases hi : ts.length < l.length
 ·refine s_lt_t (by omega) (pC_true (nm_thing hsrc2 hi fun q1 q2 => ?_))
  have hre := hreach l[ts.length] (List.getElem_mem hi)
  have hhas : L.has l[ts.length].2 := h.sub _ hre
  have hTok := ok.thing _ hre
  have f02 : Fr no w w2 := hf.trans f2 fun b => .inl
  have h2 := h.fr f02 fun b hb => hb.elim
  refine r_cr3 (i := ts.length) h2 hhas hTok (by omega) a0 a1 a4 a8 rfl rfl rfl fun ρ3 w3 f3 b0 b1 b4 b7 b8 b9 b10 => ?_
  have h3 := h2.fr f3 fun b hb => hb.elim
  refine r_cr6 h3 hhas hTok (by omega) ((hp'.fr (by omega) f2 fun _ _ h => h).fr (by omega) f3 fun _ _ h => h) (by omega) b0 b1 b4 b8 b9 b10 fun ρ4 w4 f4 d0 d1 d4 d7 d8 hb hbb => ?_
  have hbl : (S.crashBytes picks ts.length l[ts.length].2).length ≤ 1099511627776 := by
   have : (S.crashBytes picks ts.length l[ts.length].2).length ≤ 1048576 := leftOf_len (.inl hTok.ok)
   omega
  refine r_cr9 (i := 0) (D := D) (L := L) (w := w3) hsrc (f2.trans f3 fun b => .inl) hi hcl (hm.fr f3) d0 d1 d4 d8 (by rw [d7,b7]; rfl) f4 hb hbl hbb fun ρ5 w5 T f5 hm5 g0 g1 g4 g8 => ?_
  exact ⟨m - 1,by omega,ts ++ [T],by rw [List.length_append]; show ts.length + 1 + _ = _; omega,f5,g0,g1,g4,by rw [List.length_append]; exact g8,hm5⟩
 refine s_lt_f (by omega) (pC_false ?_)
 rw [F113_5_eq]
 have hlen : ts.length = l.length := by have := hm.len; omega
 have f02 : Fr no w w2 := hf.trans f2 fun b => .inl
 have h2 := h.fr f02 fun b hb => hb.elim
 obtain ⟨A7,c7,ev7⟩ : ∃ A c',ρ' 7 = .slice A l.length c' := by
  obtain ⟨A,c',e,_⟩ := Src.of_own hm.row
  rw [hlen] at e; exact ⟨A,c',e⟩
 suffices hs : ∀ ρ2 : Env,ρ2 0 = ptr D → ρ2 7 = .slice A7 l.length c7 → F113_5 k ρ2 w2 from hs _ a0 ev7
 intro ρ2 r0 r7
 unfold F113_5
 rw [r0,r7]
 rw [ev7] at hm
 have dk := h2.disk
 have fk : Fr (fun b => b = D) w2 w2 := Fr.refl _ _
 have zk : w2.heap.size = w2.heap.size := rfl
 refine s_nil (fa245_2 ?_)
 refine s_st (sizeOf242 _) rfl rfl dk (by show 2 < 11; decide) ?_
 replace dk := set_same dk 2 (.slice A7 l.length c7)
 replace fk : Fr (fun b => b = D) w2 (w2.setCell ⟨D,2,none⟩ (.slice A7 l.length c7)) := fk.trans (Fr.setCell w2 ⟨D,2,none⟩ _) fun b => .inl
 replace zk : (w2.setCell ⟨D,2,none⟩ (.slice A7 l.length c7)).heap.size = w2.heap.size := by rw [← zk]; simp [World.setCell]
 generalize hg1 : w2.setCell ⟨D,2,none⟩ (.slice A7 l.length c7) = u1 at *
 refine s_nil (fa245_3 ?_)
 refine s_st (sizeOf242 _) rfl rfl dk (by show 3 < 11; decide) ?_
 replace dk := set_same dk 3 (.slice A7 l.length c7)
 replace fk : Fr (fun b => b = D) w2 (u1.setCell ⟨D,3,none⟩ (.slice A7 l.length c7)) := fk.trans (Fr.setCell u1 ⟨D,3,none⟩ _) fun b => .inl
 replace zk : (u1.setCell ⟨D,3,none⟩ (.slice A7 l.length c7)).heap.size = w2.heap.size := by rw [← zk]; simp [World.setCell]
 generalize hg2 : u1.setCell ⟨D,3,none⟩ (.slice A7 l.length c7) = u2 at *
 refine s_nil (fa245_4 ?_)
 refine s_st (sizeOf243 _) rfl rfl dk (by show 4 < 11; decide) ?_
 replace dk := set_same dk 4 (.slice none 0 0)
 replace fk : Fr (fun b => b = D) w2 (u2.setCell ⟨D,4,none⟩ (.slice none 0 0)) := fk.trans (Fr.setCell u2 ⟨D,4,none⟩ _) fun b => .inl
 replace zk : (u2.setCell ⟨D,4,none⟩ (.slice none 0 0)).heap.size = w2.heap.size := by rw [← zk]; simp [World.setCell]
 generalize hg3 : u2.setCell ⟨D,4,none⟩ (.slice none 0 0) = u3 at *
 refine s_nil (fa245_0 ?_)
 refine s_st (sizeOf4 _) rfl rfl dk (by show 0 < 11; decide) ?_
 replace dk := set_same dk 0 (.bool true)
 replace fk : Fr (fun b => b = D) w2 (u3.setCell ⟨D,0,none⟩ (.bool true)) := fk.trans (Fr.setCell u3 ⟨D,0,none⟩ _) fun b => .inl
 replace zk : (u3.setCell ⟨D,0,none⟩ (.bool true)).heap.size = w2.heap.size := by rw [← zk]; simp [World.setCell]
 generalize hg4 : u3.setCell ⟨D,0,none⟩ (.bool true) = u4 at *
 refine px_ok (w' := u4) (v := .agg #[i64 0,i64 0,i64 0]) (by kernel_rfl) ?_
 refine s_nil (fa245_7 (s_stN (n := 3) (vs := [i64 0,i64 0,i64 0]) (sizeOf85 _) rfl (by intro v hv; simp at hv; subst hv; rfl) dk (by show 7 + 3 ≤ 11; decide) fun u5 dk5 f5 z5 => ?_))
 replace dk := dk5
 replace fk : Fr (fun b => b = D) w2 u5 := fk.trans f5 fun b => .inl
 replace zk : u5.heap.size = w2.heap.size := z5.trans zk
 clear dk5 f5 z5
 refine s_nil (fa245_5 ?_)
 refine s_st (sizeOf3 _) rfl rfl dk (by show 5 < 11; decide) ?_
 replace dk := set_same dk 5 (i64 0)
 replace fk : Fr (fun b => b = D) w2 (u5.setCell ⟨D,5,none⟩ (i64 0)) := fk.trans (Fr.setCell u5 ⟨D,5,none⟩ _) fun b => .inl
 replace zk : (u5.setCell ⟨D,5,none⟩ (i64 0)).heap.size = w2.heap.size := by rw [← zk]; simp [World.setCell]
 generalize hg6 : u5.setCell ⟨D,5,none⟩ (i64 0) = u6 at *
 refine s_nil (fa245_6 ?_)
 refine s_st (sizeOf3 _) rfl rfl dk (by show 6 < 11; decide) ?_
 replace dk := set_same dk 6 (i64 0)
 replace fk : Fr (fun b => b = D) w2 (u6.setCell ⟨D,6,none⟩ (i64 0)) := fk.trans (Fr.setCell u6 ⟨D,6,none⟩ _) fun b => .inl
 replace zk : (u6.setCell ⟨D,6,none⟩ (i64 0)).heap.size = w2.heap.size := by rw [← zk]; simp [World.setCell]
 generalize hg7 : u6.setCell ⟨D,6,none⟩ (i64 0) = u7 at *
 have hdc : u7.heap[D]? = some (.cells (rcells (S.crash picks) { L with has := fun t => S.next ≤ t ∧ t < S.next + l.length,loc := fun t => ts.getD (t - S.next) 0,trow := fun _ => .slice none 0 0,nowv := .slice A7 l.length c7,befv := .slice A7 l.length c7,turnv := .slice none 0 0 }) 245 (0,0)) := by rw [dk]; rfl
 have hshown : (S.crash picks).shown = nowOf l S.next := by unfold AD.crash; rw [hl]; rfl
 have hsafe : (S.crash picks).safe = nowOf l S.next := by unfold AD.crash; rw [hl]; rfl
 have hrowc : (S.crash picks).row = [] := rfl
 have hreads : (S.crash picks).reads = S.reads := rfl
 have hnext : (S.crash picks).next = S.next + l.length := by unfold AD.crash; rw [hl]
 have hthing : ∀ j (hj:j < l.length),(S.crash picks).things (S.next + j) = ⟨S.crashBytes picks j l[j].2,S.crashBytes picks j l[j].2,[]⟩ := by
  intro j hj
  show (if S.next + j < S.next then S.things (S.next + j) else match (S.crashNames picks)[S.next + j - S.next]? with | some p => _ | none => _) = _
  rw [if_neg (by omega),show S.next + j - S.next = j by omega,hl,List.getElem?_eq_getElem hj]
 have zw := f02.size
 have fin : Fr (fun b => b = D) w u7 := (f02.mono fun b hb => hb.elim).trans fk fun b => .inl
 have hDw := h.lt D (.inl h.oD)
 have zw' := hf.size
 have hDn : ∀ b,w.heap.size ≤ b → ¬ (b = D) := fun b hb e => by omega
 have hnI : ∀ b,I b → ¬ (b = D) := fun b hb e => h.apart b (e ▸ h.oD) hb
 have hrb : ∀ b,sblk (.slice A7 l.length c7) = some b → w'.heap.size ≤ b ∧ b < w2.heap.size := fun b hb => own_blk_lt hm.row hb
 have hrt : ∀ b,sblk (.slice A7 l.length c7) = some b → b ∉ ts := fun b hb hm' => (hm.lt b hm').2.2 hb
 have hcells : nmCells (fun t => ts.getD (t - S.next) 0) (nowOf l S.next) = NowCells l ts := nowCells_eq l ts S.next 0 _ hlen fun i T hi => by
  show ts.getD (S.next + (0 + i) - S.next) 0 = T
  rw [show S.next + (0 + i) - S.next = i by omega,List.getD,hi]; rfl
 have hnv : NV u7 (fun b => I b ∨ (w.heap.size ≤ b ∧ b < u7.heap.size ∧ b ∉ ts)) (fun t => ts.getD (t - S.next) 0) (.slice A7 l.length c7) (nowOf l S.next) := by
  refine ⟨?_,fun b hb => .inr ⟨by have := hrb b hb; omega,by have := hrb b hb; omega,hrt b hb⟩⟩
  rw [hcells,nowOf_len]
  have hS := (Src.of_own hm.row).fr (by omega) fk fun b hb (e:b = D) => by
   have := (hrb b hb).1; omega
  rw [hlen] at hS
  exact hS
 refine hk u7 (fun b => O b ∨ b ∈ ts) (fun b => I b ∨ (w.heap.size ≤ b ∧ b < u7.heap.size ∧ b ∉ ts)) _ ⟨⟨hdc,by rw [hshown]; exact hnv,by rw [hsafe]; exact hnv,⟨rfl,.inl ⟨rfl,rfl⟩⟩,own_fr h.told fin ?_,?_,?_,?_,?_,?_,.inl h.oD,(by rintro b hb; cases hb),fun b hb => .inl (h.otold b hb),?_,?_⟩,fin.mono fun b hb => .inl (hb ▸ h.oD),fun b => .inl,fun b => .inl,?_,?_⟩
 ·rintro b hb rfl
  obtain ⟨c1,h1⟩ := own_obj h.told hb
  exact absurd (two_types h1 h.disk) (by decide)
 ·rintro t (⟨n,ht⟩ | ⟨n,ht⟩ | ⟨n,ht⟩)
  ·rw [hshown] at ht; exact mem_nowOf ht
  ·rw [hsafe] at ht; exact mem_nowOf ht
  ·cases ht
 ·rintro t ⟨h1,h2⟩
  rw [hnext]; exact h2
 ·rintro t ⟨h1,h2⟩
  obtain ⟨j,rfl⟩ : ∃ j,t = S.next + j := ⟨t - S.next,by omega⟩
  have hj : j < l.length := by omega
  have hjt : j < ts.length := by omega
  obtain ⟨sv,hv,g1,g2,g3,g4,g5⟩ := hm.th j ts[j] (List.getElem?_eq_getElem hjt) l[j] (List.getElem?_eq_getElem hj)
  rw [hthing j hj]
  show RTRep u7 _ _ (ts.getD (S.next + j - S.next) 0) _ _
  rw [show S.next + j - S.next = j by omega,show ts.getD j 0 = ts[j] by rw [List.getD,List.getElem?_eq_getElem hjt]; rfl]
  have nD : ∀ b,sblk sv = some b ∨ sblk hv = some b → ¬ (b = D) ∧ (w.heap.size ≤ b ∧ b < u7.heap.size ∧ b ∉ ts) := fun b hb => by have := g5 b hb; exact ⟨by omega,by omega,by omega,this.2.2.2⟩
  exact ⟨⟨sv,hv,[],fk.get g1 fun e => by have : ts[j] = D := e; omega,⟨g3.fr fk fun b hb => (nD b (.inl hb)).1,fun b hb => .inr (nD b (.inl hb)).2⟩,⟨g4.fr fk fun b hb => (nD b (.inr hb)).1,fun b hb => .inr (nD b (.inr hb)).2⟩,⟨rfl,.inl ⟨rfl,rfl⟩⟩,rfl,by simp⟩,.inr (List.getElem_mem hjt),by rintro b hb; cases hb⟩
 ·rintro t u ⟨h1,h2⟩ ⟨h3,h4⟩ e
  have e' : ts.getD (t - S.next) 0 = ts.getD (u - S.next) 0 := e
  rw [List.getD,List.getD,List.getElem?_eq_getElem (by omega),List.getElem?_eq_getElem (by omega)] at e'
  have e2 : ts[t - S.next]'(by omega) = ts[u - S.next]'(by omega) := e'
  rcases Nat.lt_trichotomy (t - S.next) (u - S.next) with hlt | heq | hgt
  ·exact absurd e2 (List.pairwise_iff_getElem.1 hm.nd _ _ (by omega) (by omega) hlt)
  ·omega
  ·exact absurd e2.symm (List.pairwise_iff_getElem.1 hm.nd _ _ (by omega) (by omega) hgt)
 ·intro t u _ _ _ b hb
  cases hb
 ·rintro b (hb | hb) (hi' | hi')
  ·exact h.apart b hb hi'
  ·have := h.lt b (.inl hb); omega
  ·have := h.lt b (.inr hi')
   have := (hm.lt b hb).1; omega
  ·exact hi'.2.2 hb
 ·rintro b ((hb | hb) | (hb | hb))
  ·have := h.lt b (.inl hb); omega
  ·have := (hm.lt b hb).2.1; omega
  ·have := h.lt b (.inr hb); omega
  ·exact hb.2.1
 ·rintro b (hb | hb)
  ·exact .inl hb
  ·have := (hm.lt b hb).1; exact .inr (by omega)
 ·rintro b (hb | hb)
  ·exact .inl hb
  ·exact .inr hb.1
end
end Go.Proofs.YteeeggphkhimcaaGreatDoor
