/- Put together by a program (wip/tools/shake.py): Law6,Known6,None,Nothing6,Nothing7,ROps11,ROps12,ROps13,RFile6,Plays6A,Plays6B,Law6A,Law6B,Law6C,Plays6C,Drops6. -/
import Derived.Stop.BytesEq
import Derived.Test.YteeeggphkhimcaaGreatDoorE16
import Derived.Test.YteeeggphkhimcaaGreatDoorE12
import Derived.Laws.IdiomStrings
import Derived.Lib.SlBytesConst
import Derived.Test.YteeeggphkhimcaaGreatDoorE14
import Derived.Test.YteeeggphkhimcaaGreatDoorE13
import Derived.Test.YteeeggphkhimcaaGreatDoorE8
import Derived.Test.YteeeggphkhimcaaGreatDoorE15
set_option linter.unusedVariables false
set_option linter.unusedSimpArgs false
set_option maxRecDepth 100000
namespace Go.Proofs.YteeeggphkhimcaaGreatDoor
open Go Go.Proofs Go.RowKit Go.Proofs.XRed Go.Proofs.XHeap Go.Proofs.XMaps Go.Proofs.XSlices Go.Proofs.XDisk Go.Proofs.XCalls Go.Proofs.XSep Tryz
section
variable {w:World} {k:KV} {l:List Asrt} {name op:ByteArray} {v:Value} {e:Int}
theorem idGuard : P.eqGuardType P.depth 44 = false := by kernel_rfl
theorem s_eqid {x y:Operand} {a b:List UInt8} (ha:a.length = 32) (hb:b.length = 32) (hk:k (.bool (a == b)) w) : px P (binSem .eql 44 x y (.agg (u8s a).toArray) (.agg (u8s b).toArray)) w k := by
 refine px_ok (w' := w) (v := .bool (a == b)) ?_ hk
 have h := run_eql_bytes (P := P) w 44 5 32 underlying44 underlying5 (fun w => sizeOf5 w) a b ha hb
 unfold binSem
 simp only [Sem.run_bind,run_eqGuard_agg w .eql 44 x y _ _ idGuard,Result.andThen]
 exact h
theorem build_id (w:World) : (Instr.build 44 #[]).run P w = .ok (.agg (u8s zeroId).toArray) w := by kernel_rfl
theorem zeroId_len : zeroId.length = 32 := rfl
theorem sd_says (hS:Sep l w) (hg:ErrT w) (i:Nat) (hi:l[i]? = some (ErrA v op name e)) (hs:op.size ≤ 1000) (hk:∀ w',Fr no w w' → k (.bool true) w') : pFn P 49 [v,.string op,.string name,i64 e] w k := by
 refine F49_in _ _ _ _ _ _ ?_
 unfold F49_0
 obtain ⟨O,I,h,_⟩ := hS.get i hi
 rcases h with ⟨rfl,rfl,_⟩ | ⟨he,b,rfl,hb,_⟩
 ·exact s_eqi_t rfl (pC_true (s_eqnn (hk w (Fr.refl _ _))))
 ·refine s_eqi_f he (pC_false (s_alloc (zeroValue73 _) ?_))
  have a1 := alloc_new w (.cells #[.pointer none] 73)
  have f1 := Fr.alloc no w (.cells #[.pointer none] 73)
  show px P _ (w.alloc (.cells #[.pointer none] 73)) _
  generalize w.alloc (.cells #[.pointer none] 73) = w1 at *
  have hb1 := hb.fr f1 fun h => h
  have hbw : b ≠ w.heap.size := by have := lt_of_get hb.h; omega
  refine s_nein (pG_yes rfl (pG_yes rfl (s_mki (by kernel_rfl) (pG_yes rfl ?_))))
  refine c_errAs true (E := .fault b (.no e)) (tb := w.heap.size) (hg.fr f1 fun h => h) hb1.in_ a1 (fun x w2 hx f2 h2 => ?_) fun w2 hx f2 => by simp [EV.first] at hx
  simp only [EV.first,if_true,Option.some.injEq] at hx
  subst hx
  have f2' : Fr no w w2 := f1.trans f2 fun b hb => .inr (by omega)
  have hb2 := hb.fr f2' fun h => h
  have ldF : ∀ {kk:KV},kk (ptr b) w2 → px P (Instr.loadAt 73 (ptr w.heap.size)) w2 kk := fun h => s_ldb (v := ptr b) (isAgg73 _) h2 rfl h
  refine s_pick_t (pG_yes rfl (ldF (pG_yes rfl (s_nepn upt73 (s_pick_t ?_)))))
  refine pG_yes rfl (ldF (pG_yes rfl (s_nil (pG_yes rfl (fa77_0 (pG_yes rfl (s_ldb (v := .string (fopB ++ op)) (isAgg9 _) hb2.h rfl (pG_yes rfl (pG_yes rfl (s_addS (by show 5 + _ ≤ _; omega) (pG_yes rfl (s_eqs ?_))))))))))))
  rw [decide_eq_true (show (fopB ++ op : ByteArray) = ByteArray.mk #[102,105,108,101,46] ++ op from rfl)]
  refine s_pick_t (pG_yes rfl (ldF (pG_yes rfl (s_nil (pG_yes rfl (fa77_1 (pG_yes rfl (s_ldb (v := .string name) (isAgg9 _) hb2.h rfl (pG_yes rfl (pG_yes rfl (s_eqs ?_)))))))))))
  rw [decide_eq_true rfl]
  refine s_pick_t (pG_yes rfl (ldF (pG_yes rfl (s_nil (pG_yes rfl (fa77_2 (pG_yes rfl (s_ldAgg (m := 32) (isAgg44 _) (sizeOf44 _) hb2.h (by simp [faultCells,zeroId,u8s]) ?_))))))))
  refine pG_yes rfl (px_ok (build_id _) (pG_yes rfl (s_eqid (a := zeroId) zeroId_len zeroId_len ?_)))
  rw [show (zeroId == zeroId) = true from rfl]
  refine s_pick_t (pG_yes rfl (pG_yes rfl (pG_yes rfl (s_mki (by kernel_rfl) (pG_yes rfl ?_)))))
  refine c_errIs (E := .fault b (.no e)) (T := .no e) hb2.in_ trivial ?_
  rw [show (EV.fault b (.no e)).has (.no e) = true by simp [EV.has,EV.links,EV.eqv]]
  refine s_pick_t (pG_yes rfl (pG_yes rfl ?_))
  refine c_code (E := .fault b (.no e)) (hg.fr f2' fun h => h) hb2.in_ fun w3 f3 => ?_
  refine pG_yes rfl (pG_yes rfl (s_eqi_t rfl (s_pick_t (hk w3 (f2'.trans f3 fun b hb => hb.elim)))))
end
def J0 : AD := AD.new 50
def J1 : AD := (J0.putF nA [120,121]).2
def J2 : AD := (J1.getF nA).2.2
def J3 : AD := (J2.getF nB).2.2
theorem J_res : (J0.putF nA [120,121]).1 = 0 ∧ (J1.getF nA).1 = 0 ∧ (J1.getF nA).2.1 = [120,121] ∧ (J2.getF nB).1 = 53 ∧ J3.strokes = 5 ∧ J3.room = 50 := by
 refine ⟨?_,?_,?_,?_,?_,?_⟩ <;> kernel_rfl
section
variable {w:World} {k:KV} {D c:Nat} {S:AD} {l:List Asrt} {name op:ByteArray} {v:Value}
theorem errA_nil (hS:Sep l w) (i:Nat) (hi:l[i]? = some (ErrA v op name 0)) : v = .nilIface := by
 obtain ⟨O,I,h,_⟩ := hS.get i hi
 rcases h with ⟨_,h,_⟩ | ⟨h,_⟩
 ·exact h
 ·exact absurd rfl h
theorem sd_strokes (hS:Sep l w) (i:Nat) (hi:l[i]? = some (Dk D S)) (ok:S.Ok c) (hk:k (i64 S.strokes) w) : pFn P 56 [ptr D] w k := by
 obtain ⟨O,I,L,hd,nx⟩ := Sep.disk hS i hi
 exact c_strokes hd.disk ok.room.1 hk
theorem sd_new {room:Int} (hS:Sep l w) (hb:¬ (1 ≤ room ∧ room ≤ 1048576) → k (.tuple #[.pointer none,i64 1]) w) (hk:1 ≤ room ∧ room ≤ 1048576 → ∀ w' D,Sep (Dk D (AD.new room) :: l) w' → k (.tuple #[ptr D,i64 0]) w') : pFn P 17 [i64 room] w k := by
 refine c_new hb fun hr w' L h f => hk hr w' _ ?_
 exact hS.new f (fun b hb => hb.elim) ⟨L,h⟩ (fun b hb => hb.1) fun b hb => hb.elim
theorem c_known6 (hg:ErrT w) (hk:∀ w',Fr no w w' → k (.bool true) w') : pFn P 18 [] w k := by
 refine F18_in _ _ ?_
 unfold F18_0
 obtain ⟨r1,r2,r3,r4,r5,r6⟩ := J_res
 have ok0 : J0.Ok 0 := AD.Ok.new (by decide)
 have ok1 : J1.Ok 8 := ok_putF ok0 (by decide) nA _
 have ok2 : J2.Ok 9 := ok_getF ok1 (by decide) nA
 have ok3 : J3.Ok 10 := ok_getF ok2 (by decide) nB
 have hsA : nA.size ≤ 9223372036854775807 := by decide
 have hsB : nB.size ≤ 9223372036854775807 := by decide
 refine sd_new (Sep.base w) (fun h => absurd (by decide) h) fun _ w1 D h1 => ?_
 refine s_ext rfl (s_ext rfl (s_nei_f rfl (pG_yes rfl (pG_yes rfl ?_))))
 refine s_eqpn upt24 (s_pick_f (pG_yes rfl (pG_yes rfl ?_)))
 refine px_ok (w' := w1.alloc (.cells (u8s [120,121]).toArray 5)) (v := .slice (some ⟨w1.heap.size,0,none⟩) 2 2) (by kernel_rfl) (pG_yes rfl ?_)
 refine px_ok (Lib.run_convert_bytes_const w1 23 5 (u8s [120,121]).toArray _ _ (by kernel_rfl) (by kernel_rfl)) (pG_yes rfl ?_)
 have f2 : Fr no w1 (w1.alloc (.cells (u8s [120,121]).toArray 5 ((u8s [120,121]).toArray.size,(u8s [120,121]).toArray.size + 1))) := Fr.alloc ..
 have h2 : Sep (BytesA (.slice (some ⟨w1.heap.size,0,none⟩) 2 2) [120,121] :: Dk D (AD.new 50) :: [Base w]) (w1.alloc (.cells (u8s [120,121]).toArray 5 ((u8s [120,121]).toArray.size,(u8s [120,121]).toArray.size + 1))) :=
  h1.new (M := no) (O' := fun _ => False) (I' := fun b => b = w1.heap.size) f2 (fun b hb => hb.elim) ⟨SBytes.blk (alloc_new _ _) (Nat.le_refl _),fun _ b hb => by injection hb with hb; exact hb.symm,fun _ h => h,fun b hb => by rw [hb]; simp⟩ (fun _ h => h.elim) fun b hb => by omega
 generalize w1.alloc (.cells (u8s [120,121]).toArray 5 ((u8s [120,121]).toArray.size,(u8s [120,121]).toArray.size + 1)) = w2 at *
 have h2' : Sep (Dk D J0 :: BytesA (.slice (some ⟨w1.heap.size,0,none⟩) 2 2) [120,121] :: [Base w]) w2 := sep_mv [1] 0 h2 rfl
 refine c_fPut (S := J0) (d := [120,121]) (name := nA) (holds_bytes _ _) h2' ok0 (by decide) hsA (by decide) fun w3 v3 h3 => ?_
 rw [r1] at h3
 have e3 := errA_nil h3 0 rfl
 subst e3
 replace h3 : Sep (Dk D J1 :: [Base w]) w3 := sep_mv [2,1] 2 h3 rfl
 refine pG_yes rfl (s_nenn (s_pick_f (pC_false ?_)))
 refine c_fGet (name := nA) h3 ok1 hsA fun w4 v4 e4 h4 => ?_
 rw [r2,r3] at h4
 have e4' := errA_nil h4 0 rfl
 subst e4'
 replace h4 : Sep (Dk D J2 :: BytesA v4 [120,121] :: [Base w]) w4 := sep_mv [1] 0 h4.drop rfl
 refine s_ext rfl (s_ext rfl ?_)
 refine c_fGet (name := nB) h4 ok2 hsB fun w5 v5 e5 h5 => ?_
 rw [r4] at h5
 replace h5 : Sep (ErrA e5 getB nB 53 :: Dk D J3 :: BytesA v4 [120,121] :: [Base w]) w5 := sep_mv [1] 1 h5 rfl
 have hg5 : ErrT w5 := hg.fr (h5.base_at 3 rfl) fun h => h
 refine s_ext rfl (s_ext rfl (s_eqnn (pG_yes rfl (pG_yes rfl (s_conv_str (Sep.bytes h5 2 rfl) (by decide) (pG_yes rfl (s_eqs ?_)))))))
 rw [show decide ((⟨([120,121] : List UInt8).toArray⟩ : ByteArray) = ByteArray.mk #[120,121]) = true from by decide]
 refine s_pick_t (pG_yes rfl (pG_yes rfl (sd_strokes h5 1 rfl ok3 ?_)))
 rw [r5]
 refine pG_yes rfl (s_eqi_t rfl (s_pick_t (pG_yes rfl (pG_yes rfl ?_))))
 refine sd_says (op := getB) h5 hg5 0 rfl (by decide) fun w6 f6 => s_pick_t (hk w6 ?_)
 exact (h5.base_at 3 rfl).trans f6 fun b hb => hb.elim
end
end Go.Proofs.YteeeggphkhimcaaGreatDoor

namespace Go.Proofs.YteeeggphkhimcaaGreatDoor
open Go Go.Proofs Go.RowKit Go.Proofs.XRed Go.Proofs.XHeap Go.Proofs.XMaps Go.Proofs.XSlices Go.Proofs.XDisk Go.Proofs.XCalls Tryz
section
variable {w:World} {p:Option Addr} {k:KV}
end
open Go.Proofs.XSep
section
variable {w:World} {k:KV} {l:List Asrt} {name:ByteArray} {p:Option Addr} {dv:Value}
end
section
variable {w W:World} {k:KV} {l:List Asrt} {name:ByteArray} {p:Option Addr} {dv:Value}
theorem r_lays (hk:k (.bool (lays name)) w) : pFn P 47 [.string name] w k := by
 refine F47_in _ _ _ ?_
 unfold F47_0
 refine r_isName name ?_
 cases hn : isName name with
 | false =>
  have : lays name = false := by
   cases hl : lays name with
   | false => rfl
   | true => rw [(lays_name hl).1] at hn; cases hn
  rw [this] at hk
  exact pG_sk (pG_sk (pG_sk (s_pick_f (pG_sk (pG_sk (pG_sk (s_pick_f hk)))))))
 | true =>
  refine pG_yes rfl (pG_yes rfl (s_lens (by kernel_rfl) (pG_yes rfl (s_lt (s_pick_t ?_)))))
  have hsz := isName_small hn
  have hpos : 0 < name.size := by unfold isName at hn; simp only [Bool.and_eq_true,decide_eq_true_eq] at hn; omega
  have hall : name.data.toList.all okByte = true := by unfold isName at hn; simp only [Bool.and_eq_true] at hn; exact hn.1.1
  by_cases h112 : (name.size : Int) < 112
  ·rw [decide_eq_true h112]
   refine pG_yes rfl (pG_yes rfl (s_ixs (by kernel_rfl) hpos (pG_yes rfl (s_nei ?_))))
   have hd := head_at name hpos
   have hl : lays name = (((name[0]'hpos).toNat : Int) != 43) := by
    unfold lays
    rw [hall,decide_eq_true (show 1 ≤ name.size by omega),decide_eq_true (show name.size ≤ 111 by omega)]
    simp only [Bool.true_and]
    by_cases h : ((name[0]'hpos).toNat : Int) = 43
    ·rw [decide_eq_false (fun h' => h' (hd.2 h))]; simp [h]
    ·rw [decide_eq_true (show name.data.toList.head? ≠ some 43 from fun h' => h (hd.1 h'))]; simp [h]
   rw [hl] at hk
   exact s_pick_t hk
  ·rw [decide_eq_false h112]
   have : lays name = false := by unfold lays; rw [decide_eq_false (show ¬ name.size ≤ 111 by omega)]; simp
   rw [this] at hk
   exact pG_sk (pG_sk (pG_sk (s_pick_f hk)))
end
section
variable {w w0:World} {D:Nat} {S S':AD} {O I:Nat → Prop} {L L':RLay} {k:KV}
end
section
variable {w w0:World} {D:Nat} {S S':AD} {O I:Nat → Prop} {L L':RLay} {k:KV}
end
section
variable {w w0:World} {D:Nat} {S S':AD} {O I:Nat → Prop} {L L':RLay} {k:KV}
end
section
variable {w:World} {k:KV} {E c:Nat} {S:AD} {l:List Asrt} {name:ByteArray} {dv:Value} {d:Bytes}
end
section
variable {w:World} {k:KV} {W:World} {xb Pb D E c:Nat} {x:StepA} {dv pv:Value} {S T:AD} {l:List Asrt}
theorem holds_base {W:World} {dv:Value} {d:Bytes} (h:SBytes W dv d) : Holds (Base W) dv d := fun w O I ⟨h1,h2,h3⟩ =>
 ⟨h.fr h1 fun _ _ h => h,fun h0 b hb => .inr ((h3 b).2 (Src.lt (size := 1) h (by omega) h0 hb))⟩
theorem c_round6 {v:Value} {a n:Int} (hv:v = i64 a) (h0:0 < n) (h1:n ≤ 4611686018427387904) (hk:k (i64 (a.emod n)) w) : pFn P 52 [v,i64 n] w k := by
 subst hv
 refine F52_in _ _ _ _ ?_
 unfold F52_0
 have e : (if a.tmod n < 0 then a.tmod n + n else a.tmod n) = a.emod n := by
  have := Int.tmod_eq_emod (a := a) (b := n)
  have hp := Int.emod_nonneg a (show n ≠ 0 by omega)
  have hl := Int.emod_lt_of_pos a h0
  have hz : (n.natAbs : Int) = n := by omega
  by_cases h : 0 ≤ a ∨ n ∣ a
  ·rw [if_pos h] at this
   rw [if_neg (by simp only [Int.natCast_zero] at this; omega)]; show _ = a % n; simp only [Int.natCast_zero] at this; omega
  ·rw [if_neg h] at this
   have : a % n ≠ 0 := fun h' => h (.inr (Int.dvd_of_emod_eq_zero h'))
   rw [if_pos (by omega)]; show _ = a % n; omega
 have hlt : -n ≤ a.tmod n ∧ a.tmod n < n := by
  have := Int.emod_nonneg a (show n ≠ 0 by omega)
  have hl := Int.emod_lt_of_pos a h0
  have e' : (if a.tmod n < 0 then a.tmod n + n else a.tmod n) = a % n := e
  split at e' <;> omega
 refine s_rem (by omega) (s_lt ?_)
 by_cases h : a.tmod n < 0
 ·rw [if_pos h] at e
  rw [decide_eq_true h]
  refine pC_true (s_add_in (by omega) ?_)
  rw [F52_1_eq]
  unfold F52_1
  show k (i64 (a.tmod n + n)) w
  rw [e]; exact hk
 ·rw [if_neg h] at e
  rw [decide_eq_false h]
  refine pC_false ?_
  rw [F52_1_eq]
  unfold F52_1
  show k (i64 (a.tmod n)) w
  rw [e]; exact hk
theorem shownMax {c:Nat} {S:AD} (ok:S.Ok c) : ∀ p ∈ S.shown,p.1.size ≤ maxLen := fun p hp => by have := ok.shownNames p hp; unfold maxLen; omega
theorem s6_eqb {a b:Bool} {w:World} {x y:Operand} {k:KV} (h:a = b) (hk:k (.bool true) w) : px P (binSem .eql 4 x y (.bool a) (.bool b)) w k := by
 subst h
 exact s_bin (by simp) (by simp) (run_eql_bool w 4 a a underlying4) (by simpa using hk)
end
section
variable {w:World} {k:KV} {W:World} {xb Pb D E c:Nat} {x:StepA} {dv pv:Value} {S T:AD} {l:List Asrt}
theorem sd_plan (hS:Sep l w) (i:Nat) (hi:l[i]? = some (Dk D S)) (ok:S.Ok c) (p:PlanA) (hk:∀ w',Sep (l.set i (Dk D (S.plans p))) w' → k (.tuple #[]) w') : pFn P 55 [ptr D,planVal p] w k := by
 obtain ⟨O,I,L,hd,nx⟩ := Sep.disk hS i hi
 exact c_plan hd ok.room.1 p fun w1 O1 I1 L1 hx => hk w1 (nx _ _ _ _ _ hx)
theorem sd_crash {picks:List Int} {pv:Value} (hS:Sep l w) (i:Nat) (hi:l[i]? = some (Dk D S)) (ok:S.Ok c) (hpl:picks.length ≤ 4611686018427387904) (hp:Src w pv 1 picks.length (picks.map i64)) (hk:∀ w',Sep (l.set i (Dk D (S.crash picks))) w' → k (.tuple #[]) w') : pFn P 57 [ptr D,pv] w k := by
 obtain ⟨O,I,L,hd,nx⟩ := Sep.disk hS i hi
 exact c_crashP sortsKeys hd ok hpl hp (crash_names ok picks) fun w1 O1 I1 L1 hx => hk w1 (nx _ _ _ _ _ hx)
end
section
variable {w:World} {k:KV} {v v1 v2:Value} {l l1 l2:FilesL} {L:List Asrt} {D c:Nat} {S:AD} {name op:ByteArray} {e:Int}
theorem plain_len (l:FilesL) : l.plain.length = l.length := by unfold FilesL.plain; simp
theorem plain_get {i:Nat} (h:i < l.length) : l.plain[i]'(by rw [plain_len]; exact h) = l[i].1 := List.getElem_map (fun p:FileA × Value => p.1)
theorem filesS_at (h:FilesS w v l) {i:Nat} (hi:i < l.plain.length) : ∃ b o c u,v = .slice (some ⟨b,o,none⟩) l.plain.length c ∧ w.cell? ⟨b,o + i * 2,none⟩ = some (.string l.plain[i].1) ∧ w.cell? ⟨b,o + i * 2 + 1,none⟩ = some u ∧ SBytes w u l.plain[i].2 := by
 have hi' : i < l.length := by rw [← plain_len]; exact hi
 obtain ⟨b,o,c,e,h1,h2⟩ := h.at_ hi'
 have ep : l.plain[i] = l[i].1 := plain_get hi'
 exact ⟨b,o,c,_,by rw [e,plain_len],by rw [ep]; exact h1,h2,by rw [ep]; exact h.all _ (List.getElem_mem hi')⟩
theorem c_files6 (hx:FilesS w v1 l1) (hy:FilesS w v2 l2) (hl:l1.plain.length ≤ 4611686018427387904) (hlb:∀ f ∈ l1.plain,f.2.length ≤ 4611686018427387904) (hk:∀ w',Fr no w w' → k (.bool (decide (l1.plain = l2.plain))) w') : pFn P 24 [v1,v2] w k := by
 refine F24_in _ _ _ _ ?_
 unfold F24_0
 obtain ⟨A1,c1,e1⟩ : ∃ A c,v1 = .slice A l1.plain.length c := by obtain ⟨A,c,e,_⟩ := hx.src; exact ⟨A,c,by rw [e,plain_len]⟩
 obtain ⟨A2,c2,e2⟩ : ∃ A c,v2 = .slice A l2.plain.length c := by obtain ⟨A,c,e,_⟩ := hy.src; exact ⟨A,c,by rw [e,plain_len]⟩
 rw [e1,e2]
 refine s_len usl36 (s_len usl36 ?_)
 by_cases hlen : l1.plain.length = l2.plain.length
 ·refine s_nei_f (by omega) (pC_false ?_)
  refine F24L1_inv (m := l1.plain.length) k (fun m ρ w' => ∃ i : Nat,i + m = l1.plain.length ∧ Fr no w w' ∧ ρ 0 = .slice A1 l1.plain.length c1 ∧ ρ 1 = .slice A2 l2.plain.length c2 ∧ ρ 5 = i64 i ∧ l1.plain.take i = l2.plain.take i) ?_
   ⟨0,by omega,Fr.refl _ _,rfl,rfl,rfl,rfl⟩
  rintro m ρ w' ⟨i,him,hf,h0,h1,h5,heq⟩
  rw [F24_1_eq]
  unfold F24_1
  rw [h0,h1,h5]
  refine s_len usl36 ?_
  by_cases hi : i < l1.plain.length
  ·refine s_lt_t (by omega) (pC_true ?_)
   have fd : Fr no w' w'.drew := Fr.drew _ _
   have hiy : i < l2.plain.length := by omega
   have ff : Fr no w w'.drew := (hf.or fd).mono fun b hb => hb.elim (fun h => h.elim) fun h => h.elim
   obtain ⟨b1,o1,d1,u1,f1,g1,g1',g1''⟩ := filesS_at (hx.fr ff) hi
   obtain ⟨b2,o2,d2,u2,f2,g2,g2',g2''⟩ := filesS_at (hy.fr ff) hiy
   rw [e1] at f1; rw [e2] at f2
   injection f1 with q1 q2 q3
   injection f2 with r1 r2 r3
   subst q1; subst r1
   have keep : ∀ w2,Fr no w'.drew w2 → (fun w':World => w'.cell? ⟨b1,o1 + i * 2,none⟩ = some (.string l1.plain[i].1) ∧ w'.cell? ⟨b1,o1 + i * 2 + 1,none⟩ = some u1 ∧ w'.cell? ⟨b2,o2 + i * 2,none⟩ = some (.string l2.plain[i].1) ∧ w'.cell? ⟨b2,o2 + i * 2 + 1,none⟩ = some u2) w2 := by
    intro w2 f
    have kc : ∀ {b o:Nat} {u:Value},w'.drew.cell? ⟨b,o,none⟩ = some u → w2.cell? ⟨b,o,none⟩ = some u := by
     intro b o u hc
     rw [World.cell?_of_block (w := w'.drew) (f.block b (World.block_lt_of_cell? _ ⟨b,o,none⟩ hc) id)]; exact hc
    exact ⟨kc g1,kc g1',kc g2,kc g2'⟩
   refine ⟨fun w' => w'.cell? ⟨b1,o1 + i * 2,none⟩ = some (.string l1.plain[i].1) ∧ w'.cell? ⟨b1,o1 + i * 2 + 1,none⟩ = some u1 ∧ w'.cell? ⟨b2,o2 + i * 2,none⟩ = some (.string l2.plain[i].1) ∧ w'.cell? ⟨b2,o2 + i * 2 + 1,none⟩ = some u2,keep _ (Fr.refl _ _),?_⟩
   refine q_of (.pointer (some ⟨b1,o1 + i * 2,none⟩)) (fun w_ hS => s_ix (i := (i:Int)) usl36 (sze36 _) (by omega) (by omega) ⟨by simp,rfl⟩) ?_
   refine q_of (.pointer (some ⟨b1,o1 + i * 2,none⟩)) (fun w_ hS => fa107_0 ⟨rfl,rfl⟩) ?_
   refine q_of _ (fun w_ hS => s_ld (isAgg9 _) hS.1 ⟨rfl,rfl⟩) ?_
   refine q_of (.pointer (some ⟨b2,o2 + i * 2,none⟩)) (fun w_ hS => s_ix (i := (i:Int)) usl36 (sze36 _) (by omega) (by omega) ⟨by simp,rfl⟩) ?_
   refine q_of (.pointer (some ⟨b2,o2 + i * 2,none⟩)) (fun w_ hS => fa107_0 ⟨rfl,rfl⟩) ?_
   refine q_of _ (fun w_ hS => s_ld (isAgg9 _) hS.2.2.1 ⟨rfl,rfl⟩) ?_
   refine q_of _ (fun w_ hS => s_nes ⟨rfl,rfl⟩) ?_
   have bad : l1.plain[i] ≠ l2.plain[i] → ∀ w2,Fr no w'.drew w2 → k (.bool false) w2 := by
    intro hne w2 f
    have := hk w2 ((ff.or f).mono fun b hb => hb.elim (fun h => h.elim) fun h => h.elim)
    rwa [decide_eq_false (fun h => hne (List.getElem_of_eq h hi))] at this
   by_cases hn : l1.plain[i].1 = l2.plain[i].1
   ·rw [decide_eq_true hn]
    refine pGq_yes rfl (pGq_yes rfl (pGq_yes rfl ?_))
    refine q_of (.pointer (some ⟨b1,o1 + i * 2,none⟩)) (fun w_ hS => s_ix (i := (i:Int)) usl36 (sze36 _) (by omega) (by omega) ⟨by simp,rfl⟩) ?_
    refine pGq_yes rfl ?_
    refine q_of (.pointer (some ⟨b1,o1 + i * 2 + 1,none⟩)) (fun w_ hS => fa107_1 ⟨rfl,rfl⟩) ?_
    refine pGq_yes rfl ?_
    refine q_of _ (fun w_ hS => s_ld (isAgg23 _) hS.2.1 ⟨rfl,rfl⟩) ?_
    refine pGq_yes rfl (pGq_yes rfl (pGq_yes rfl ?_))
    refine q_of (.pointer (some ⟨b2,o2 + i * 2,none⟩)) (fun w_ hS => s_ix (i := (i:Int)) usl36 (sze36 _) (by omega) (by omega) ⟨by simp,rfl⟩) ?_
    refine pGq_yes rfl ?_
    refine q_of (.pointer (some ⟨b2,o2 + i * 2 + 1,none⟩)) (fun w_ hS => fa107_1 ⟨rfl,rfl⟩) ?_
    refine pGq_yes rfl ?_
    refine q_of _ (fun w_ hS => s_ld (isAgg23 _) hS.2.2.2 ⟨rfl,rfl⟩) ?_
    refine pG_yes rfl ?_
    refine c_bytes g1'' g2'' (hlb _ (List.getElem_mem hi)) fun w2 f2 => ?_
    refine ⟨keep w2 f2,?_⟩
    refine pGq_yes rfl ?_
    refine q_of _ (fun w_ hS => s_not ⟨rfl,rfl⟩) ?_
    refine q_of _ (fun w_ hS => s_pick_f ⟨rfl,rfl⟩) ?_
    by_cases hb : l1.plain[i].2 = l2.plain[i].2
    ·have hxy : l1.plain[i] = l2.plain[i] := Prod.ext hn hb
     rw [decide_eq_true hb]
     refine pC_false (s_add_in (by omega) ?_)
     refine ⟨m - 1,by omega,i + 1,by omega,(ff.or f2).mono fun b hb => hb.elim (fun h => h.elim) fun h => h.elim,h0,h1,?_,?_⟩
     ·show i64 _ = i64 _; simp
     ·rw [List.take_succ_eq_append_getElem hi,List.take_succ_eq_append_getElem hiy,heq,hxy]
    ·rw [decide_eq_false hb]
     exact pC_true (bad (fun h => hb (by rw [h])) w2 f2)
   ·rw [decide_eq_false hn]
    repeat (first | refine pGq_skf ?_ | refine pGq_un ?_)
    refine pG_skf ?_
    refine ⟨keep _ (Fr.refl _ _),?_⟩
    repeat (first | refine pGq_skf ?_ | refine pGq_un ?_)
    exact q_of _ (fun w_ hS => s_pick_t ⟨rfl,rfl⟩) (pC_true (bad (fun h => hn (by rw [h])) _ (Fr.refl _ _)))
  ·refine s_lt_f (by omega) (pC_false ?_)
   rw [F24_2_eq]
   unfold F24_2
   have hxy : l1.plain = l2.plain := by
    have a1 := List.take_of_length_le (l := l1.plain) (i := i) (by omega)
    have a2 := List.take_of_length_le (l := l2.plain) (i := i) (by omega)
    rw [← a1,heq,a2]
   have := hk w' hf
   rwa [decide_eq_true hxy] at this
 ·refine s_nei_t (by omega) (pC_true ?_)
  have := hk w (Fr.refl _ _)
  rwa [decide_eq_false (fun h => hlen (by rw [h]))] at this
def FlsA (v:Value) (l:FilesL) : Asrt where
 h w O I := FilesS w v l ∧ (0 < l.length → ∀ b,sblk v = some b → I b) ∧ (∀ p ∈ l,0 < p.1.2.length → ∀ b,sblk p.2 = some b → I b) ∧ (∀ b,¬ O b) ∧ ∀ b,I b → b < w.heap.size
 fr := fun ⟨h1,h2,h3,h4,h5⟩ hf hm => ⟨⟨Src.fr0 h1.src (by omega) hf fun h0 b hb e => (hm b e).2 (h2 h0 b hb),fun p hp => SBytes.fr0 (h1.all p hp) hf fun h0 b hb e => (hm b e).2 (h3 p hp h0 b hb)⟩,h2,h3,h4,fun b hb => Nat.lt_of_lt_of_le (h5 b hb) hf.size⟩
 lt := fun ⟨h1,h2,h3,h4,h5⟩ b hb => hb.elim (fun h => absurd h (h4 b)) (h5 b)
 ap := fun ⟨h1,h2,h3,h4,h5⟩ b hb => absurd hb (h4 b)
theorem Sep.fls {L:List Asrt} (h:Sep L w) (i:Nat) (hi:L[i]? = some (FlsA v l)) : FilesS w v l := by obtain ⟨O,I,h,_⟩ := h.get i hi; exact h
theorem filesV_S {B:Nat} {fs:List FileA} (h:FilesV w B v fs) : ∃ l : FilesL,l.plain = fs ∧ FilesS w v l ∧ (∀ b,sblk v = some b → B ≤ b ∧ b < w.heap.size) ∧ ∀ p ∈ l,∀ b,sblk p.2 = some b → B ≤ b ∧ b < w.heap.size := by
  obtain ⟨ps,h1,h2,h3⟩ := h
  have key : ∀ {fs:List FileA} {ps:List (ByteArray × Value)},All2 (fun f p => f.1 = p.1 ∧ SBytes w p.2 f.2 ∧ ∀ b,sblk p.2 = some b → B ≤ b ∧ b < w.heap.size ∧ sblk v ≠ some b) fs ps →
      ∃ l : FilesL,l.plain = fs ∧ (l.flatMap fun p => ([.string p.1.1,p.2] : List Value)) = (ps.flatMap fun p => [.string p.1,p.2]) ∧ (∀ p ∈ l,SBytes w p.2 p.1.2) ∧ ∀ p ∈ l,∀ b,sblk p.2 = some b → B ≤ b ∧ b < w.heap.size := by
    intro fs ps h
    induction h with
    | nil => exact ⟨[],rfl,rfl,fun p hp => (by cases hp),fun p hp => (by cases hp)⟩
    | cons hh _ ih =>
      obtain ⟨l,e1,e2,e3,e4⟩ := ih
      rename_i f p _ _ _
      refine ⟨(f,p.2) :: l,by unfold FilesL.plain at *; rw [List.map_cons,e1],?_,?_,?_⟩
      · rw [List.flatMap_cons,List.flatMap_cons,e2,hh.1]
      · intro q hq
        rcases List.mem_cons.1 hq with rfl | hq
        · exact hh.2.1
        · exact e3 q hq
      · intro q hq
        rcases List.mem_cons.1 hq with rfl | hq
        · exact fun b hb => ⟨(hh.2.2 b hb).1,(hh.2.2 b hb).2.1⟩
        · exact e4 q hq
  obtain ⟨l,e1,e2,e3,e4⟩ := key h1
  refine ⟨l,e1,⟨?_,e3⟩,fun b hb => ⟨h3 b hb,(own_blk_lt h2 hb).2⟩,e4⟩
  have := Src.of_own h2
  rw [e2,← plain_len,e1]; exact this
theorem Sep.newFls {w':World} {fs:List FileA} (hS:Sep L w) (hf:Fr no w w') (h:FilesV w' w.heap.size v fs) : ∃ l : FilesL,l.plain = fs ∧ Sep (FlsA v l :: L) w' := by
 obtain ⟨l,e1,e2,e3,e4⟩ := filesV_S h
 exact ⟨l,e1,hS.new (O' := no) (I' := fun b => w.heap.size ≤ b ∧ b < w'.heap.size) hf (fun b hb => hb.elim) ⟨e2,fun _ b hb => e3 b hb,fun p hp _ b hb => e4 p hp b hb,fun _ h => h,fun b hb => hb.2⟩ (fun b hb => hb.elim) fun b hb => hb.1⟩
theorem sd_files (hS:Sep L w) (i:Nat) (hi:L[i]? = some (Dk D S)) (ok:S.Ok c) (hk:∀ w' v l,l.plain = S.files → Sep (FlsA v l :: L) w' → k v w') : pFn P 22 [ptr D] w k := by
 obtain ⟨O,I,Ly,d,-⟩ := Sep.disk hS i hi
 refine c_files sortsKeys d ok (shownMax ok) fun w2 v2 g2 f2 => ?_
 obtain ⟨l,e,h⟩ := Sep.newFls hS f2 g2
 exact hk w2 v2 l e h
def atFrom : List FileA → ByteArray → Nat → Int
 | [],_,_ => -1
 | f :: r,n,i => if f.1 = n then i else atFrom r n (i + 1)
theorem c_at6 (hv:FilesS w v l) (hl:l.length ≤ 4611686018427387904) (hk:k (i64 (atFrom l.plain name 0)) w) : pFn P 92 [v,.string name] w k := by
 generalize hR : atFrom l.plain name 0 = R at hk
 refine F92_in _ _ _ _ ?_
 unfold F92_0
 refine F92L1_inv (m := l.length) k (fun m ρ w' => ∃ i : Nat,i + m = l.length ∧ w' = w ∧ ρ 0 = v ∧ ρ 1 = .string name ∧ ρ 5 = i64 i ∧ atFrom (l.plain.drop i) name i = R) ?_ ⟨0,by omega,rfl,rfl,rfl,rfl,by rw [List.drop_zero]; exact hR⟩
 clear hR
 rintro m ρ w' ⟨i,him,rfl,e0,e1,e5,hat⟩
 rw [F92_1_eq]
 unfold F92_1
 rw [e0,e1,e5]
 refine s_lenS usl36 hv.src ?_
 by_cases hi : i < l.length
 ·refine s_lt_t (by omega) (pC_true ?_)
  obtain ⟨b,o,c,e,h1,h2⟩ := hv.at_ hi
  subst e
  have hd : l.plain.drop i = l[i].1 :: l.plain.drop (i + 1) := by
   rw [List.drop_eq_getElem_cons (by rw [plain_len]; exact hi)]; rw [plain_get hi]
  rw [hd] at hat
  unfold atFrom at hat
  refine s_ix (i := (i:Int)) usl36 (sze36 _) (by omega) (by omega) ?_
  rw [show (o + (i:Int).toNat * 2) = o + i * 2 by simp]
  refine fa107_0 (s_ld (isAgg9 _) h1 (s_eqs ?_))
  by_cases hn : l[i].1.1 = name
  ·rw [decide_eq_true hn]
   rw [if_pos hn] at hat
   refine pC_true ?_
   rw [hat]; exact hk
  ·rw [decide_eq_false hn]
   rw [if_neg hn] at hat
   refine pC_false (s_add_in (by omega) ⟨m - 1,by omega,i + 1,by omega,rfl,e0,e1,?_,hat⟩)
   show i64 _ = i64 _; simp
 ·refine s_lt_f (by omega) (pC_false ?_)
  rw [F92_2_eq]
  unfold F92_2
  have : l.plain.drop i = [] := List.drop_of_length_le (by rw [plain_len]; omega)
  rw [this] at hat
  unfold atFrom at hat
  rw [← hat] at hk; exact hk
theorem atFrom_get : ∀ (fs:List FileA) (n:ByteArray) (i:Nat),(atFrom fs n i = -1 ∧ alGet fs n = none) ∨ ∃ j,∃ h : j < fs.length,atFrom fs n i = ((i + j : Nat) : Int) ∧ alGet fs n = some fs[j].2
 | [],_,_ => .inl ⟨rfl,rfl⟩
 | f :: r,n,i => by
  unfold atFrom
  rw [← show (f.1,f.2) = f from rfl,alGet_cons]
  by_cases e : f.1 = n
  ·rw [if_pos e,if_pos e]; exact .inr ⟨0,by simp,by simp,rfl⟩
  ·rw [if_neg e,if_neg e]
   rcases atFrom_get r n (i + 1) with h | ⟨j,hj,h1,h2⟩
   ·exact .inl h
   ·exact .inr ⟨j + 1,by simp; omega,by rw [h1]; congr 1; omega,by rw [h2]; rfl⟩
def undV (l:FilesL) (n:ByteArray) : Value := if h : 0 ≤ atFrom l.plain n 0 ∧ (atFrom l.plain n 0).toNat < l.length then (l[(atFrom l.plain n 0).toNat]'h.2).2 else .slice none 0 0
theorem und_bytes (hv:FilesS w v l) (n:ByteArray) : SBytes w (undV l n) ((alGet l.plain n).getD []) := by
 unfold undV
 rcases atFrom_get l.plain n 0 with ⟨h1,h2⟩ | ⟨j,hj,h1,h2⟩
 ·rw [dif_neg (by rw [h1]; simp),h2]; exact SBytes.nil w
 ·have hj' : j < l.length := by rw [← plain_len]; exact hj
  have e : (atFrom l.plain n 0).toNat = j := by rw [h1]; simp
  rw [dif_pos ⟨by rw [h1]; omega,by omega⟩,h2]
  have ep : l.plain[j] = l[j].1 := plain_get hj'
  simp only [e,Option.getD_some,ep]
  exact hv.all _ (List.getElem_mem hj')
theorem c_under6 (hv:FilesS w v l) (hl:l.length ≤ 4611686018427387904) (hk:k (.tuple #[undV l name,.bool (alGet l.plain name).isSome]) w) : pFn P 54 [v,.string name] w k := by
 refine F54_in _ _ _ _ ?_
 unfold F54_0
 refine c_at6 hv hl ?_
 unfold undV at hk
 rcases atFrom_get l.plain name 0 with ⟨h1,h2⟩ | ⟨j,hj,h1,h2⟩
 ·rw [dif_neg (by rw [h1]; simp),h2] at hk
  rw [h1]
  exact s_lt_t (by decide) (pC_true hk)
 ·have hj' : j < l.length := by rw [← plain_len]; exact hj
  have e : (atFrom l.plain name 0).toNat = j := by rw [h1]; simp
  rw [dif_pos ⟨by rw [h1]; omega,by omega⟩,h2] at hk
  simp only [e] at hk
  rw [h1]
  obtain ⟨b,o,c,ev,g1,g2⟩ := hv.at_ hj'
  subst ev
  refine s_lt_f (by omega) (pC_false (s_ix (i := ((0 + j : Nat) : Int)) usl36 (sze36 _) (by omega) (by omega) ?_))
  rw [show (o + ((0 + j : Nat) : Int).toNat * 2) = o + j * 2 by simp]
  exact fa107_1 (s_ld (isAgg23 _) g2 hk)
end
section
variable {w:World} {k:KV} {v va vb v1 v2:Value} {l la lb:FilesL} {L:List Asrt} {D c:Nat} {S:AD} {name op one two:ByteArray} {e:Int}
def flC (l:FilesL) : List Value := l.flatMap fun p => [.string p.1.1,p.2]
theorem flC_snoc (l:FilesL) (p:FileA × Value) : flC (l ++ [p]) = flC l ++ [.string p.1.1,p.2] := by unfold flC; simp
structure GrowV (W w:World) (v:Value) (l:FilesL) : Prop where
 fr : Fr no W w
 own : w.ownsRow W.heap.size 107 2 v l.length (flC l)
 all : ∀ p ∈ l,SBytes W p.2 p.1.2
theorem GrowV.fs {W:World} (h:GrowV W w v l) : FilesS w v l := ⟨Src.of_own h.own,fun p hp => (h.all p hp).fr h.fr fun _ _ h => h⟩
theorem GrowV.nil (W:World) : GrowV W W (.slice none 0 0) [] := ⟨Fr.refl _ _,⟨rfl,.inl ⟨rfl,rfl⟩⟩,fun p hp => by cases hp⟩
theorem GrowV.q {W w':World} (h:GrowV W w v l) (hf:Fr no w w') : GrowV W w' v l := ⟨h.fr.trans hf fun b hb => hb.elim,own_fr h.own hf fun _ _ h => h,h.all⟩
theorem GrowV.put {W:World} {p:FileA × Value} (h:GrowV W w v l) (hl:l.length ≤ 1000000) (hp:SBytes W p.2 p.1.2) {kk:Value → KV} (hk:∀ u v' w',GrowV W w' v' (l ++ [p]) → Fr (fun b => W.heap.size ≤ b) w w' → (∀ b,sblk v' = some b → W.heap.size ≤ b) → (Fr (fun b => some b = sblk v) w w') → kk u v' w') :
    px P (Instr.buildSlice 36 1 #[(0,.agg #[.string p.1.1,p.2])]) w fun u w => px P (bSem .append #[36,36] 36 #[v,u]) w (kk u) := by
  obtain ⟨A,c,e,_⟩ := hp.form
  refine pl36 h.own (by intro u hu; simp at hu; rcases hu with rfl | rfl; rfl; rw [e]; rfl) (by omega) h.fr.size fun u v' w' ho hf hb => ?_
  have hlow : ∀ b,some b = sblk v → W.heap.size ≤ b := fun b hb' => (own_blk_lt h.own hb'.symm).1
  refine hk u v' w' ⟨h.fr.trans hf fun b hb' => .inr (hlow b hb'),?_,fun q hq => ?_⟩ (hf.mono fun b hb' => .inl (hlow b hb')) (fun b hb' => (own_blk_lt ho hb').1) hf
  · rw [List.length_append,flC_snoc]; exact ho
  · rcases List.mem_append.1 hq with hq | hq
    · exact h.all q hq
    · rw [List.mem_singleton.1 hq]; exact hp
theorem s_file {i:Nat} (hv:FilesS w v l) (hi:i < l.length) {kk:Value → KV} (hk:∀ p,kk p (.agg #[.string l[i].1.1,l[i].2]) w) : px P (Instr.indexAt 36 v (i64 i)) w fun p w => px P (Instr.loadAt 107 p) w (kk p) := by
 obtain ⟨b,o,c,e,h1,h2⟩ := hv.at_ hi
 rw [e]
 refine s_ix (i := (i:Int)) usl36 (sze36 _) (by omega) (by omega) ?_
 rw [show (o + (i:Int).toNat * 2) = o + i * 2 by simp]
 exact s_ld2 (isAgg107 _) (sizeOf107 _) h1 h2 (hk _)
theorem s_fname {i:Nat} (hv:FilesS w v l) (hi:i < l.length) {kk:Value → Value → KV} (hk:∀ p q,kk p q (.string l[i].1.1) w) : px P (Instr.indexAt 36 v (i64 i)) w fun p w => px P (Instr.fieldAt 107 p 0) w fun q w => px P (Instr.loadAt 9 q) w (kk p q) := by
 obtain ⟨b,o,c,e,h1,h2⟩ := hv.at_ hi
 rw [e]
 refine s_ix (i := (i:Int)) usl36 (sze36 _) (by omega) (by omega) ?_
 rw [show (o + (i:Int).toNat * 2) = o + i * 2 by simp]
 exact fa107_0 (s_ld (isAgg9 _) h1 (hk _ _))
def keepB (one two:ByteArray) (p:FileA × Value) : Bool := decide (p.1.1 ≠ one) && decide (p.1.1 ≠ two)
theorem keep_plain (l:FilesL) : FilesL.plain (l.filter (keepB one two)) = rst one two l.plain := by
 unfold FilesL.plain rst
 rw [List.filter_map]; rfl
theorem take_filter (f:FileA × Value → Bool) {i:Nat} (hi:i < l.length) : (l.take (i + 1)).filter f = (l.take i).filter f ++ (if f l[i] then [l[i]] else []) := by
 rw [List.take_succ_eq_append_getElem hi,List.filter_append]
 congr 1
 rw [List.filter_cons]
 split <;> rfl
set_option maxHeartbeats 1000000 in
theorem c_others6 (ha:FilesS w va la) (hb:FilesS w vb lb) (hla:la.length ≤ 1000) (hlb:lb.length ≤ 1000) (hda:∀ p ∈ la,p.1.2.length ≤ 1099511627776) (hk:∀ w',Fr no w w' → k (.bool (decide (rst one two la.plain = rst one two lb.plain))) w') : pFn P 58 [va,vb,.string one,.string two] w k := by
  refine F58_in _ _ _ _ _ _ ?_
  unfold F58_0
  refine F58L1_inv (m := la.length) k (fun m ρ w' => ∃ (i:Nat) (v:Value),i + m = la.length ∧ GrowV w w' v ((la.take i).filter (keepB one two)) ∧ ρ 0 = va ∧ ρ 1 = vb ∧ ρ 2 = .string one ∧ ρ 3 = .string two ∧ ρ 9 = v ∧ ρ 10 = .slice none 0 0 ∧ ρ 11 = i64 i) ?_ ⟨0,_,by omega,GrowV.nil w,rfl,rfl,rfl,rfl,rfl,rfl,rfl⟩
  rintro m ρ w' ⟨i,v,him,hg,e0,e1,e2,e3,e9,e10,e11⟩
  rw [F58_1_eq]
  unfold F58_1
  rw [e0,e2,e3,e9,e11]
  have haw := ha.fr hg.fr
  have hlen : ((la.take i).filter (keepB one two)).length ≤ 1000 := Nat.le_trans (List.length_filter_le _ _) (by rw [List.length_take]; omega)
  refine s_lenS usl36 haw.src ?_
  by_cases hi : i < la.length
  · refine s_lt_t (by omega) (pC_true (s_fname haw hi fun _ _ => s_nes ?_))
    have next : ∀ ρ' w2 v2,GrowV w w2 v2 ((la.take (i + 1)).filter (keepB one two)) → ρ' 0 = va → ρ' 1 = vb → ρ' 2 = .string one → ρ' 3 = .string two → ρ' 9 = v2 → ρ' 10 = .slice none 0 0 → ρ' 11 = i64 i →
        F58A1 k (fun ρ w' => ∃ m',m' < m ∧ ∃ (i:Nat) (v:Value),i + m' = la.length ∧ GrowV w w' v ((la.take i).filter (keepB one two)) ∧ ρ 0 = va ∧ ρ 1 = vb ∧ ρ 2 = .string one ∧ ρ 3 = .string two ∧ ρ 9 = v ∧ ρ 10 = .slice none 0 0 ∧ ρ 11 = i64 i) [1,1] ρ' w2 := by
      intro ρ' w2 v2 hg2 q0 q1 q2 q3 q9 q10 q11
      rw [F58_2_eq]
      unfold F58_2
      rw [q11]
      refine s_add_in (by omega) ⟨m - 1,by omega,i + 1,v2,by omega,hg2,q0,q1,q2,q3,q9,q10,?_⟩
      show i64 _ = i64 _; simp
    have htf := take_filter (keepB one two) hi
    have skip : keepB one two la[i] = false → GrowV w w' v ((la.take (i + 1)).filter (keepB one two)) := fun h => by
      rw [htf,h]; simpa using hg
    by_cases h1 : la[i].1.1 = one
    · rw [decide_eq_true h1]
      refine pG_sk (pG_sk (pG_sk (pG_sk (pG_sk (pG_sk (pG_sk (s_pick_f (pC_false ?_))))))))
      exact next _ w' v (skip (by unfold keepB; rw [decide_eq_false (fun h => h h1),Bool.false_and])) (by exact e0) (by exact e1) (by exact e2) (by exact e3) (by exact e9) (by exact e10) (by exact e11)
    · rw [decide_eq_false h1]
      refine pG_yes rfl (pG_yes rfl (pG_yes rfl ?_))
      obtain ⟨b,o,c,ev,c1,c2⟩ := haw.at_ hi
      rw [ev]
      refine s_ix (i := (i:Int)) usl36 (sze36 _) (by omega) (by omega) ?_
      rw [show (o + (i:Int).toNat * 2) = o + i * 2 by simp,← ev]
      refine pG_yes rfl (fa107_0 (pG_yes rfl (s_ld (isAgg9 _) c1 (pG_yes rfl (pG_yes rfl (s_nes ?_))))))
      by_cases h2 : la[i].1.1 = two
      · rw [decide_eq_true h2]
        refine s_pick_t (pC_false ?_)
        exact next _ w' v (skip (by unfold keepB; simp [h2])) (by exact e0) (by exact e1) (by exact e2) (by exact e3) (by exact e9) (by exact e10) (by exact e11)
      · rw [decide_eq_false h2]
        refine s_pick_t (pC_true (s_file haw hi fun _ => ?_))
        refine hg.put (p := la[i]) (by omega) (ha.all _ (List.getElem_mem hi)) fun _ v2 w2 hg2 _ _ _ => ?_
        have hkp : keepB one two la[i] = true := by unfold keepB; rw [decide_eq_true h1,decide_eq_true h2]; rfl
        rw [hkp,if_pos rfl] at htf
        rw [← htf] at hg2
        exact next _ w2 v2 hg2 (by exact e0) (by exact e1) (by exact e2) (by exact e3) rfl (by exact e10) (by exact e11)
  · refine s_lt_f (by omega) (pC_false ?_)
    rw [F58_3_eq]
    unfold F58_3
    have hil : i = la.length := by omega
    rw [hil,List.take_length] at hg
    generalize hX : la.filter (keepB one two) = X at *
    have hXl : X.length ≤ 1000 := by rw [← hX]; exact Nat.le_trans (List.length_filter_le _ _) hla
    have hXd : ∀ f ∈ FilesL.plain X,f.2.length ≤ 4611686018427387904 := fun f hf => by
      obtain ⟨p,hp,rfl⟩ := List.mem_map.1 hf
      rw [← hX] at hp
      have := hda p (List.mem_filter.1 hp).1; omega
    clear hi hlen him
    refine F58L2_inv (m := lb.length) k (fun m ρ w2 => ∃ (i:Nat) (u:Value),i + m = lb.length ∧ GrowV w' w2 u ((lb.take i).filter (keepB one two)) ∧ ρ 1 = vb ∧ ρ 2 = .string one ∧ ρ 3 = .string two ∧ ρ 9 = v ∧ ρ 10 = u ∧ ρ 12 = i64 i) ?_ ⟨0,_,by omega,GrowV.nil w',e1,e2,e3,e9,e10,rfl⟩
    clear e0 e1 e2 e3 e9 e10 e11
    rintro m ρ w2 ⟨i,u,him,hg2,e1,e2,e3,e9,e10,e12⟩
    rw [F58_4_eq]
    unfold F58_4
    rw [e1,e2,e3,e10,e12]
    have hbw' := hb.fr hg.fr
    have hbw := hbw'.fr hg2.fr
    have hlen : ((lb.take i).filter (keepB one two)).length ≤ 1000 := Nat.le_trans (List.length_filter_le _ _) (by rw [List.length_take]; omega)
    refine s_lenS usl36 hbw.src ?_
    by_cases hi : i < lb.length
    · refine s_lt_t (by omega) (pC_true (s_fname hbw hi fun _ _ => s_nes ?_))
      have next : ∀ ρ' w2 v2,GrowV w' w2 v2 ((lb.take (i + 1)).filter (keepB one two)) → ρ' 1 = vb → ρ' 2 = .string one → ρ' 3 = .string two → ρ' 9 = v → ρ' 10 = v2 → ρ' 12 = i64 i →
          F58A2 k (fun ρ w2 => ∃ m',m' < m ∧ ∃ (i:Nat) (u:Value),i + m' = lb.length ∧ GrowV w' w2 u ((lb.take i).filter (keepB one two)) ∧ ρ 1 = vb ∧ ρ 2 = .string one ∧ ρ 3 = .string two ∧ ρ 9 = v ∧ ρ 10 = u ∧ ρ 12 = i64 i) [1,1] ρ' w2 := by
        intro ρ' w2 v2 hg2 q1 q2 q3 q9 q10 q12
        rw [F58_5_eq]
        unfold F58_5
        rw [q12]
        refine s_add_in (by omega) ⟨m - 1,by omega,i + 1,v2,by omega,hg2,q1,q2,q3,q9,q10,?_⟩
        show i64 _ = i64 _; simp
      have htf := take_filter (keepB one two) hi
      have skip : keepB one two lb[i] = false → GrowV w' w2 u ((lb.take (i + 1)).filter (keepB one two)) := fun h => by
        rw [htf,h]; simpa using hg2
      by_cases h1 : lb[i].1.1 = one
      · rw [decide_eq_true h1]
        refine pG_sk (pG_sk (pG_sk (pG_sk (pG_sk (pG_sk (pG_sk (s_pick_f (pC_false ?_))))))))
        exact next _ w2 u (skip (by unfold keepB; rw [decide_eq_false (fun h => h h1),Bool.false_and])) (by exact e1) (by exact e2) (by exact e3) (by exact e9) (by exact e10) (by exact e12)
      · rw [decide_eq_false h1]
        refine pG_yes rfl (pG_yes rfl (pG_yes rfl ?_))
        obtain ⟨b,o,c,ev,c1,c2⟩ := hbw.at_ hi
        rw [ev]
        refine s_ix (i := (i:Int)) usl36 (sze36 _) (by omega) (by omega) ?_
        rw [show (o + (i:Int).toNat * 2) = o + i * 2 by simp,← ev]
        refine pG_yes rfl (fa107_0 (pG_yes rfl (s_ld (isAgg9 _) c1 (pG_yes rfl (pG_yes rfl (s_nes ?_))))))
        by_cases h2 : lb[i].1.1 = two
        · rw [decide_eq_true h2]
          refine s_pick_t (pC_false ?_)
          exact next _ w2 u (skip (by unfold keepB; simp [h2])) (by exact e1) (by exact e2) (by exact e3) (by exact e9) (by exact e10) (by exact e12)
        · rw [decide_eq_false h2]
          refine s_pick_t (pC_true (s_file hbw hi fun _ => ?_))
          refine hg2.put (p := lb[i]) (by omega) (hbw'.all _ (List.getElem_mem hi)) fun _ v2 w3 hg3 _ _ _ => ?_
          have hkp : keepB one two lb[i] = true := by unfold keepB; rw [decide_eq_true h1,decide_eq_true h2]; rfl
          rw [hkp,if_pos rfl] at htf
          rw [← htf] at hg3
          exact next _ w3 v2 hg3 (by exact e1) (by exact e2) (by exact e3) (by exact e9) rfl (by exact e12)
    · refine s_lt_f (by omega) (pC_false ?_)
      rw [F58_6_eq]
      unfold F58_6
      have hil : i = lb.length := by omega
      rw [hil,List.take_length] at hg2
      show pFn P _ [ρ 9,ρ 10] w2 _
      rw [e9,e10]
      refine c_files6 (hg.fs.fr hg2.fr) hg2.fs (by rw [plain_len]; omega) hXd fun w3 f3 => ?_
      have := hk w3 ((hg.fr.trans hg2.fr fun b hb => hb.elim).trans f3 fun b hb => hb.elim)
      rw [← hX,keep_plain,keep_plain]
      exact this
end
structure Loaded (S:AD) : Prop where
 rest : AtRest S
 names : ∀ q ∈ S.shown,isName q.1 = true
 strokes : S.strokes = 0
 since : S.since = 0
 plan : S.plan = .zero
 ok : S.Ok 0
section
variable {W w:World} {k:KV} {v:Value} {l:FilesL} {room:Int}
theorem s_own2 {nm:ByteArray} {dv:Value} {d:Bytes} (hd:SBytes w dv d) {kk:KV} (hk:∀ b w',w'.heap[b]? = some (.cells #[.string nm,dv] 107 (0,0)) → Fr no w w' → kk (ptr b) w') :
    px P (Instr.alloc 107 true (.tuple #[])) w fun v8 w => pu P (Instr.storeAt 107 v8 (.agg #[.string nm,dv])) w fun w => kk v8 w := by
  obtain ⟨Ad,cd,ed,_⟩ := hd.form
  refine s_alloc (z := .agg #[.string .empty,.slice none 0 0]) (by kernel_rfl) ?_
  have b1 := alloc_new w (.cells (Value.agg #[.string .empty,.slice none 0 0]).cells 107)
  have f1 := Fr.alloc no w (.cells (Value.agg #[.string .empty,.slice none 0 0]).cells 107)
  generalize w.alloc (.cells (Value.agg #[.string .empty,.slice none 0 0]).cells 107) = w1 at *
  refine s_stN (n := 2) (vs := [.string nm,dv]) (sizeOf107 _) rfl (by intro u hu; subst ed; simp at hu; rcases hu with rfl | rfl <;> rfl) b1 (by show 0 + 2 ≤ 2; decide) fun w3 h3 f3 z3 => ?_
  exact hk _ w3 h3 (f1.trans f3 fun b hb => .inr (Nat.le_of_eq hb.symm))
set_option maxHeartbeats 1000000 in
theorem c_loaded6 (hv:FilesS W v l) (hr:1 ≤ room ∧ room ≤ 1048576) (hns:∀ p ∈ l,p.1.1.size ≤ 9223372036854775807) (hdl:∀ p ∈ l,p.1.2.length ≤ 140737488355328)
    (hk:∀ w' E S va la,Loaded S → la.plain = S.files → Sep [FlsA va la,Dk E S,Base W] w' → k (.tuple #[ptr E,va]) w') : pFn P 53 [i64 room,v] W k := by
  refine F53_in _ _ _ _ ?_
  unfold F53_0
  generalize hR : pickGo room (l.take 20) [] = R
  have hpk := pickGo_ok (room := room) (l.take 20) [] ⟨fun f hf => (by cases hf),List.nodup_nil,by show ((0 : Nat) : Int) ≤ room; omega⟩
  rw [hR] at hpk
  have htl : (l.take 20).length ≤ 20 := by rw [List.length_take]; omega
  obtain ⟨hpk,hRl⟩ := hpk
  replace hRl : R.length ≤ 20 := by simpa using Nat.le_trans hRl (by simpa using htl)
  refine F53L1_inv (m := l.length) k (fun m ρ w' => ∃ (i:Nat) (va:Value) (acc:FilesL),i + m = l.length ∧ GrowV W w' va acc ∧ acc.length ≤ i ∧ i ≤ 20 ∧ (∀ p ∈ acc,p ∈ l) ∧ pickGo room ((l.take 20).drop i) acc = R ∧ Picked room acc.plain ∧ ρ 0 = i64 room ∧ ρ 1 = v ∧ ρ 6 = va ∧ ρ 7 = i64 (sizes acc.plain) ∧ ρ 8 = i64 i) ?_ ⟨0,_,[],by omega,GrowV.nil W,Nat.le_refl _,by omega,fun p hp => (by cases hp),by rw [List.drop_zero]; exact hR,⟨fun f hf => (by cases hf),List.nodup_nil,by show ((0 : Nat) : Int) ≤ room; omega⟩,rfl,rfl,rfl,rfl,rfl⟩
  clear hR
  rintro m ρ w ⟨i,va,acc,him,hg,hal,hi20,hsub,hgo,hpa,e0,e1,e6,e7,e8⟩
  rw [F53_1_eq]
  unfold F53_1
  rw [e0,e1,e6,e7,e8]
  have hw := hv.fr hg.fr
  have hsum := hpa.sum
  have done : (l.take 20).drop i = [] → ∀ ρ',ρ' 0 = i64 room → ρ' 6 = va → F53A k [1,1,1,1] ρ' w := by
    intro hnil ρ' q0 q6
    rw [hnil] at hgo
    unfold pickGo at hgo
    subst hgo
    rw [F53_3_eq]
    unfold F53_3
    rw [q0,q6]
    obtain ⟨hcode,hrest,hnm⟩ := load_all hr hpk (by rw [List.length_map]; omega)
    have hpl : acc.plain = acc.map (·.1) := rfl
    rw [← hpl] at hcode hrest hnm hpk
    have hd1 : ∀ p ∈ acc,p.1.2.length ≤ 1048576 := fun p hp => by
      have := sizes_mem (fs := acc.plain) (List.mem_map_of_mem hp); omega
    refine c_load hg.fs hd1 (by omega) (fun f hf => ?_) (fun h => absurd hcode h) fun _ w2 E O I L hD hlow f2 => ?_
    · obtain ⟨p,hp,rfl⟩ := List.mem_map.1 hf
      exact hns p (hsub p hp)
    · have hlen : acc.plain.length = acc.length := plain_len acc
      rw [← hlen] at hD
      have hLd : Loaded (AD.loadTo room acc.plain acc.plain.length) := by
        obtain ⟨r1,r2,r3,r4⟩ := load_rest (room := room) (fs := acc.plain) _ (Nat.le_refl _)
        exact ⟨hrest,hnm,r2,r3,r4,(loading_to (room := room) hr (by rw [hlen]; omega) (fun f hf => isName_size (hpk.names f hf)) (fun f hf => by have := sizes_mem hf; omega) _ (Nat.le_refl _) (fun j hj => load_dup hpk j hj)).ok⟩
      generalize AD.loadTo room acc.plain acc.plain.length = S at *
      have hW : Fr no W w2 := hg.fr.trans f2 fun b hb => hb.elim
      have hS : Sep [Dk E S,Base W] w2 := (Sep.base W).new (O' := O) (I' := I) hW (fun b hb => hb.elim) ⟨L,hD⟩ (fun b hb => Nat.le_trans hg.fr.size (hlow b (.inl hb))) fun b hb => Nat.le_trans hg.fr.size (hlow b (.inr hb))
      refine s_ext rfl (s_ext rfl (s_nei_f rfl (pG_yes rfl (pG_yes rfl ?_))))
      unfold ptr
      refine s_eqpn upt24 (s_pick_f (pC_false ?_))
      refine sd_files hS 0 rfl hLd.ok fun w3 v3 l3 e3 h3 => ?_
      exact hk w3 E S v3 l3 hLd e3 h3
  refine s_lenS usl36 hw.src ?_
  by_cases hi : i < l.length
  · refine s_lt_t (by omega) (pG_yes rfl (pG_yes rfl ?_))
    by_cases h20 : i < 20
    · refine s_lt_t (by omega) (s_pick_t (pC_true (s_file hw hi fun _ => ?_)))
      have hm : l[i] ∈ l := List.getElem_mem hi
      have hd0 : (l.take 20).drop i = l[i] :: (l.take 20).drop (i + 1) := by
        rw [List.drop_eq_getElem_cons (by rw [List.length_take]; omega)]; simp
      rw [hd0] at hgo
      unfold pickGo at hgo
      have hns' := hns _ hm
      have hdl' := hdl _ hm
      have hby := hv.all _ hm
      generalize l[i] = x at *
      obtain ⟨⟨nm,d⟩,dv⟩ := x
      simp only at hgo hns' hdl' hby
      have hbw := hby.fr hg.fr fun _ _ h => h
      refine s_own2 hbw fun b w1 h1 f1 => ?_
      have hg1 := hg.q f1
      have hbw1 := hbw.fr f1 fun _ _ h => h
      have next : ∀ ρ' w2 va' acc',GrowV W w2 va' acc' → acc'.length ≤ i + 1 → (∀ p ∈ acc',p ∈ l) → pickGo room ((l.take 20).drop (i + 1)) acc' = R → Picked room acc'.plain → ρ' 0 = i64 room → ρ' 1 = v → ρ' 6 = va' → ρ' 7 = i64 (sizes acc'.plain) → ρ' 8 = i64 i →
          F53A1 k (fun ρ w' => ∃ m',m' < m ∧ ∃ (i:Nat) (va:Value) (acc:FilesL),i + m' = l.length ∧ GrowV W w' va acc ∧ acc.length ≤ i ∧ i ≤ 20 ∧ (∀ p ∈ acc,p ∈ l) ∧ pickGo room ((l.take 20).drop i) acc = R ∧ Picked room acc.plain ∧ ρ 0 = i64 room ∧ ρ 1 = v ∧ ρ 6 = va ∧ ρ 7 = i64 (sizes acc.plain) ∧ ρ 8 = i64 i) [1,1] ρ' w2 := by
        intro ρ' w2 va' acc' g1 g2 g3 g4 g5 q0 q1 q6 q7 q8
        rw [F53_2_eq]
        unfold F53_2
        rw [q8]
        refine s_add_in (by omega) ⟨m - 1,by omega,i + 1,va',acc',by omega,g1,g2,by omega,g3,g4,g5,q0,q1,q6,q7,?_⟩
        show i64 _ = i64 _; simp
      have skip := fun (ρ':Env) (hc:isName nm = false ∨ ((sizes (acc.map (·.1)) : Nat) : Int) + (d.length : Int) > room ∨ (alGet (acc.map (·.1)) nm).isSome = true) (q0:ρ' 0 = i64 room) (q1:ρ' 1 = v) (q6:ρ' 6 = va) (q7:ρ' 7 = i64 (sizes acc.plain)) (q8:ρ' 8 = i64 i) =>
        next ρ' w1 va acc hg1 (by omega) hsub (by rw [if_pos hc] at hgo; exact hgo) hpa q0 q1 q6 q7 q8
      refine fa107_0 (s_ldb (v := .string nm) (isAgg9 _) h1 rfl ?_)
      refine r_isName nm (s_not ?_)
      cases hn : isName nm with
      | false =>
        refine pG_skf (pG_skf (pG_skf (pG_skf (pG_skf (pG_skf (pG_skf (s_pick_t ?_)))))))
        refine pG_skf (pG_skf (pG_skf (pG_skf (pG_skf (s_pick_t (pC_true ?_))))))
        exact skip _ (.inl hn) (by exact e0) (by exact e1) (by exact e6) (by exact e7) (by exact e8)
      | true =>
        refine pG_yes rfl (pG_yes rfl (fa107_1 (pG_yes rfl (s_ldb (v := dv) (isAgg23 _) h1 rfl (pG_yes rfl (s_lenS usl23 hbw1 (pG_yes rfl (s_add_in (by omega) (pG_yes rfl (pG_yes rfl ?_))))))))))
        by_cases hroom : ((sizes acc.plain : Nat) : Int) + (d.length : Int) > room
        · refine s_gt_t (by omega) (s_pick_f ?_)
          refine pG_skf (pG_skf (pG_skf (pG_skf (pG_skf (s_pick_t (pC_true ?_))))))
          exact skip _ (.inr (.inl hroom)) (by exact e0) (by exact e1) (by exact e6) (by exact e7) (by exact e8)
        · refine s_gt_f (by omega) (s_pick_f ?_)
          refine pG_yes rfl (pG_yes rfl (fa107_0 (pG_yes rfl (s_ldb (v := .string nm) (isAgg9 _) h1 rfl (pG_yes rfl (c_at6 hg1.fs (by omega) (pG_yes rfl ?_)))))))
          rcases atFrom_get acc.plain nm 0 with ⟨a1,a2⟩ | ⟨j,hj,a1,a2⟩
          · rw [a1]
            refine s_ge_f (by decide) (s_pick_f (pC_false ?_))
            refine fa107_1 (s_ldb (v := dv) (isAgg23 _) h1 rfl (s_lenS usl23 hbw1 (s_add_in (by omega) ?_)))
            refine s_ldAgg (m := 2) (isAgg107 _) (sizeOf107 _) h1 (by show 0 + 2 ≤ 2; decide) ?_
            have hc : ¬ (isName nm = false ∨ ((sizes (acc.map (·.1)) : Nat) : Int) + (d.length : Int) > room ∨ (alGet (acc.map (·.1)) nm).isSome = true) := by
              rintro (h | h | h)
              · rw [hn] at h; cases h
              · exact hroom h
              · have a2' : alGet (acc.map (·.1)) nm = none := a2
                rw [a2'] at h; cases h
            rw [if_neg hc] at hgo
            have hpl2 : FilesL.plain (acc ++ [((nm,d),dv)]) = acc.plain ++ [(nm,d)] := by unfold FilesL.plain; simp
            refine hg1.put (p := ((nm,d),dv)) (by omega) hby fun _ v2 w2 hg2 _ _ _ => ?_
            refine next _ w2 v2 _ hg2 (by simp; omega) (fun p hp => ?_) hgo ?_ (by exact e0) (by exact e1) rfl ?_ (by exact e8)
            · rcases List.mem_append.1 hp with hp | hp
              · exact hsub p hp
              · rw [List.mem_singleton.1 hp]; exact hm
            · rw [hpl2]
              refine ⟨fun f hf => ?_,?_,?_⟩
              · rcases List.mem_append.1 hf with hf | hf
                · exact hpa.names f hf
                · rw [List.mem_singleton.1 hf]; exact hn
              · rw [List.map_append,List.nodup_append]
                refine ⟨hpa.nd,by simp,fun a ha b' hb e => ?_⟩
                obtain ⟨f,hf,rfl⟩ := List.mem_map.1 ha
                have hb' : b' = nm := by simpa using hb
                exact alGet_none_iff.1 a2 f hf (e.trans hb')
              · rw [sizes_snoc]; show ((sizes acc.plain + d.length : Nat) : Int) ≤ room; omega
            · show i64 _ = i64 _
              rw [hpl2,sizes_snoc]; simp
          · rw [a1]
            refine s_ge_t (by omega) (s_pick_f (pC_true ?_))
            have a2' : alGet (acc.map (·.1)) nm = some acc.plain[j].2 := a2
            exact skip _ (.inr (.inr (by rw [a2']; rfl))) (by exact e0) (by exact e1) (by exact e6) (by exact e7) (by exact e8)
    · refine s_lt_f (by omega) (s_pick_t (pC_false (done (List.drop_of_length_le (by omega)) _ (by exact e0) (by exact e6))))
  · refine s_lt_f (by omega) (pG_sk (pG_sk (s_pick_f (pC_false (done (List.drop_of_length_le (by rw [List.length_take]; omega)) _ (by exact e0) (by exact e6))))))
end
section
variable {w:World} {k:KV} {W:World} {xb Pb D E c:Nat} {x:StepA} {dv pv:Value} {S T:AD} {l:List Asrt}
theorem errT_base (hg:ErrT W) (hf:Fr no W w) : ErrT w := hg.fr hf fun h => h
end
section
variable {W w:World} {k:KV} {L:List Asrt} {v va pv:Value} {l la:FilesL} {S:AD} {E c:Nat} {op name:ByteArray} {e:Int} {picks:List Int}
theorem sd_code (hS:Sep L w) (hg:ErrT w) (i:Nat) (hi:L[i]? = some (ErrA v op name e)) (hk:∀ w',Fr no w w' → k (i64 e) w') : pFn P 43 [v] w k := by
 obtain ⟨O,I,h1,h2⟩ := hS.get i hi
 rcases h1 with ⟨he,hv,_⟩ | ⟨he,b,hv,hb,_⟩
 ·subst he; subst hv; exact c_codeNil hk
 ·subst hv
  exact c_code hg hb.in_ hk
theorem fls_len (ok:S.Ok c) (h:la.plain = S.files) : la.length ≤ 256 := by
 have := ok.turns.len.1
 rw [← plain_len,h]; unfold AD.files; rw [List.length_map]; exact this
theorem fls_data (ok:S.Ok c) (h:la.plain = S.files) : ∀ p ∈ la,p.1.2.length ≤ 1048576 := fun p hp => by
 have hm : p.1 ∈ S.files := by rw [← h]; exact List.mem_map_of_mem hp
 obtain ⟨q,hq,e⟩ := List.mem_map.1 hm
 have := (ok.thing q.2 (.inl ⟨q.1,hq⟩)).ok.len.1
 rw [← e]; exact this
theorem fls_dataP (ok:S.Ok c) (h:la.plain = S.files) : ∀ f ∈ la.plain,f.2.length ≤ 4611686018427387904 := fun f hf => by
 obtain ⟨p,hp,rfl⟩ := List.mem_map.1 hf
 have := fls_data ok h p hp; omega
end
end Go.Proofs.YteeeggphkhimcaaGreatDoor
