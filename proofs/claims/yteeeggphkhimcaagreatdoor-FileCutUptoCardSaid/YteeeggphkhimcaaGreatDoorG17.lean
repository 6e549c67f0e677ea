/- Put together by a program (wip/tools/shake.py): File3,File4,File5,File6,Law6,Known6,None,Nothing6,Nothing7,ROps11,ROps12,ROps13,RFile6,Plays6A. -/
import Derived.Test.YteeeggphkhimcaaGreatDoorG16
import Derived.Stop.BytesEq
import Derived.Test.YteeeggphkhimcaaGreatDoorG12
import Derived.Laws.IdiomStrings
import Derived.Lib.SlBytesConst
import Derived.Test.YteeeggphkhimcaaGreatDoorG14
import Derived.Test.YteeeggphkhimcaaGreatDoorG13
import Derived.Test.YteeeggphkhimcaaGreatDoorG8
import Derived.Test.YteeeggphkhimcaaGreatDoorG15
set_option linter.unusedVariables false
set_option linter.unusedSimpArgs false
set_option maxRecDepth 100000
namespace Go.Proofs.YteeeggphkhimcaaGreatDoor
open Go Go.Proofs Go.RowKit Go.Proofs.XRed Go.Proofs.XHeap Go.Proofs.XMaps Go.Proofs.XSlices Go.Proofs.XDisk Go.Proofs.XCalls Go.Proofs.XSep Tryz
section
variable {w:World} {k:KV} {D c:Nat} {S:AD} {l:List Asrt} {name:ByteArray}
theorem errA_one {op:ByteArray} {v:Value} {e:Int} (hS:Sep l w) (i:Nat) (hi:l[i]? = some (ErrA v op name e)) : v.cells = #[v] ∧ v.oneCell' = true := by
 obtain ⟨O,I,h,_⟩ := hS.get i hi
 rcases h with ⟨_,rfl,_⟩ | ⟨_,b,rfl,_⟩
 ·exact ⟨rfl,rfl⟩
 ·exact ⟨rfl,rfl⟩
theorem sd_is {op:ByteArray} {v:Value} {e:Int} (hS:Sep l w) (i:Nat) (hi:l[i]? = some (ErrA v op name e)) (n:Int) (hn:n ≠ 0) (hk:k (.bool (decide (e = n))) w) : pFn P 69 [v,.iface 25 (i64 n)] w k := by
 obtain ⟨O,I,h,_⟩ := hS.get i hi
 rcases h with ⟨rfl,rfl,_⟩ | ⟨_,b,rfl,hb,_⟩
 ·rw [decide_eq_false (Ne.symm hn)] at hk
  exact c_errIsNil (T := .no n) hk
 ·refine c_errIs (E := .fault b (.no e)) (T := .no n) hb.in_ trivial ?_
  have : (EV.fault b (.no e)).has (.no n) = decide (e = n) := by
   simp only [EV.has,EV.links,EV.eqv,List.any_cons,List.any_nil,Bool.or_false,Bool.false_or]
   by_cases h : e = n <;> simp [h]
  rw [this]; exact hk
abbrev PutL (e6 p7 b8 r9 d3 n4 D:Nat) (S:AD) (ev:Value) (name:ByteArray) (bg rm:Bool) (X:Asrt) (l:List Asrt) : List Asrt :=
 Cells e6 #[ev] 31 :: Cells p7 #[.string (plusOf name)] 9 :: Cells b8 #[.bool bg] 4 :: Cells r9 #[.bool rm] 4 :: Cells d3 #[ptr D] 24 :: Cells n4 #[.string name] 9 :: Dk D S :: X :: l
variable {e6 p7 b8 r9 d3 n4:Nat} {bg rm:Bool} {dv ev:Value} {d:Bytes} {e:Int} {X:Asrt}
theorem put_err {e':Int} {a6:Value} {kk:KV} (hS:Sep (ErrA ev putB name e :: PutL e6 p7 b8 r9 d3 n4 D S ev name bg rm X l) w) (he:e' ≠ 0) (h6:a6 = ptr e6)
    (hk:∀ w' v,Sep (ErrA v putB name e' :: PutL e6 p7 b8 r9 d3 n4 D S v name bg rm X l) w' → kk v w') :
    pFn P 67 [.string (ByteArray.mk #[112,117,116]),.string name,i64 e'] w fun v w => pu P (Instr.storeAt 31 a6 v) w (kk v) := by
  subst h6
  refine sd_refused (op := putB) hS he (by decide) fun w1 v h1 => ?_
  obtain ⟨hc,h1'⟩ := errA_one h1 0 rfl
  refine s_st (sizeOf31 _) hc h1' (h1.cells 2 rfl) (by simp) ?_
  have h2 : Sep (ErrA v putB name e' :: ErrA ev putB name e :: PutL e6 p7 b8 r9 d3 n4 D S v name bg rm X l) (w1.setCell ⟨e6,0,none⟩ v) := h1.set 2 rfl 0 v
  exact hk _ v (h2.erase 1 rfl)
def syncE (S:AD) (b:Bool) (e:Int) : Int × AD := if b then (if S.syncNames.1 ≠ 0 then S.syncNames else (e,S.syncNames.2)) else (e,S)
theorem putC_1 {ρ:Env} (hS:Sep (ErrA ev putB name e :: PutL e6 p7 b8 r9 d3 n4 D S ev name bg rm X l) w) (ok:S.Ok c) (e0:ρ 0 = ptr e6) (e1:ρ 1 = ptr b8) (e2:ρ 2 = ptr d3) (e4:ρ 4 = ptr n4) (e5:ρ 5 = ptr r9)
    (hk:∀ w' v,Sep (ErrA v putB name (syncE S (bg || rm) e).1 :: PutL e6 p7 b8 r9 d3 n4 D (syncE S (bg || rm) e).2 v name bg rm X l) w' → k (.tuple #[]) w') : F68_1 k ρ w := by
  unfold F68_1
  rw [e0,e1,e2,e4,e5]
  refine s_ldb (v := .bool bg) (isAgg4 _) (hS.cells 3 rfl) rfl ?_
  have go : bg = true ∨ rm = true → pC (.bool true) (px P (Instr.loadAt 24 (ptr d3)) w fun v31 w => pFn P 71 [v31] w fun v32 w => px P (binSem BinOp.neq 25 (.tmp 33) (.const (i64 0)) v32 (i64 0)) w fun v34 w =>
      pC v34 (px P (Instr.loadAt 9 (ptr n4)) w fun v35 w => pFn P 67 [.string (ByteArray.mk #[112,117,116]),v35,v32] w fun v37 w => pu P (Instr.storeAt 31 (ptr e6) v37) w fun w => k (.tuple #[]) w) (k (.tuple #[]) w)) (k (.tuple #[]) w) := by
    intro hor
    have hb : (bg || rm) = true := by rcases hor with h | h <;> simp [h]
    rw [hb] at hk
    unfold syncE at hk
    simp only [if_true] at hk
    refine pC_true (s_ldb (v := ptr D) (isAgg24 _) (hS.cells 5 rfl) rfl ?_)
    refine sd_syncNames hS 7 rfl ok fun w1 h1 => ?_
    replace h1 : Sep (ErrA ev putB name e :: PutL e6 p7 b8 r9 d3 n4 D S.syncNames.2 ev name bg rm X l) w1 := h1
    by_cases hz : S.syncNames.1 = 0
    · rw [if_neg (by simpa using hz)] at hk
      exact s_nei_f hz (pC_false (hk w1 ev h1))
    · rw [if_pos hz] at hk
      refine s_nei_t hz (pC_true (s_ldb (v := .string name) (isAgg9 _) (h1.cells 6 rfl) rfl ?_))
      exact put_err h1 hz rfl fun w2 v h2 => hk w2 v h2
  cases bg with
  | true => exact pG_skf (s_pick_t (go (.inl rfl)))
  | false =>
    refine pG_yes rfl (s_ldb (v := .bool rm) (isAgg4 _) (hS.cells 4 rfl) rfl (s_pick_f ?_))
    cases rm with
    | true => exact go (.inr rfl)
    | false => exact pC_false (hk w ev hS)
theorem putC_0 {K1:Value → Value → Value → Value → KV} {K2:KV} (hS:Sep (ErrA ev putB name e :: PutL e6 p7 b8 r9 d3 n4 D S ev name bg rm X l) w) (ok:S.Ok c) (hs:name.size ≤ 1000)
    (h0:bg = true → ∀ w' v,(S.remove (plusOf name)).1 ≠ 0 → Sep (ErrA v putB name (S.remove (plusOf name)).1 :: PutL e6 p7 b8 r9 d3 n4 D (S.remove (plusOf name)).2 v name bg rm X l) w' → k (.tuple #[]) w')
    (h1:bg = true → ∀ v18 v19 v20 v21 v23 w',(S.remove (plusOf name)).1 = 0 → Sep (ErrA ev putB name e :: PutL e6 p7 b8 r9 d3 n4 D (S.remove (plusOf name)).2 ev name bg rm X l) w' → K1 v18 v19 v20 v21 v23 w')
    (h2:bg = false → ∀ v18,K2 v18 w) :
    px P (Instr.loadAt 4 (ptr b8)) w fun v18 w => pC v18
      (px P (Instr.loadAt 24 (ptr d3)) w fun v19 w => px P (Instr.loadAt 9 (ptr p7)) w fun v20 w => pFn P 70 [v19,v20] w fun v21 w => px P (binSem BinOp.neq 25 (.tmp 22) (.const (i64 0)) v21 (i64 0)) w fun v23 w =>
        pC v23 (px P (Instr.loadAt 9 (ptr n4)) w fun v24 w => pFn P 67 [.string (ByteArray.mk #[112,117,116]),v24,v21] w fun v26 w => pu P (Instr.storeAt 31 (ptr e6) v26) w fun w => k (.tuple #[]) w)
          (K1 v18 v19 v20 v21 v23 w)) (K2 v18 w) := by
  have hps : (plusOf name).size ≤ 9223372036854775807 := by rw [plusOf_size]; omega
  refine s_ldb (v := .bool bg) (isAgg4 _) (hS.cells 3 rfl) rfl ?_
  cases bg with
  | false => exact pC_false (h2 rfl _)
  | true =>
    refine pC_true (s_ldb (v := ptr D) (isAgg24 _) (hS.cells 5 rfl) rfl (s_ldb (v := .string (plusOf name)) (isAgg9 _) (hS.cells 2 rfl) rfl ?_))
    refine sd_remove hS 7 rfl ok hps fun w1 g1 => ?_
    replace g1 : Sep (ErrA ev putB name e :: PutL e6 p7 b8 r9 d3 n4 D (S.remove (plusOf name)).2 ev name true rm X l) w1 := g1
    by_cases hz : (S.remove (plusOf name)).1 = 0
    · exact s_nei_f hz (pC_false (h1 rfl _ _ _ _ _ w1 hz g1))
    · refine s_nei_t hz (pC_true (s_ldb (v := .string name) (isAgg9 _) (g1.cells 6 rfl) rfl ?_))
      exact put_err g1 hz rfl fun w2 v g2 => h0 rfl w2 v hz g2
theorem undo_no {T:AD} {plus:ByteArray} {b r:Bool} {e:Int} (h:e ≠ 55 ∧ e ≠ 56) : T.undo plus b r e = (e,T) := by unfold AD.undo; rw [if_pos h]
theorem undo_t {T:AD} {plus:ByteArray} {r:Bool} {e:Int} (h:e = 55 ∨ e = 56) (hz:(T.remove plus).1 ≠ 0) : T.undo plus true r e = T.remove plus := by unfold AD.undo; rw [if_neg (by omega),if_pos rfl,if_pos hz]
theorem undo_s {T:AD} {plus:ByteArray} {r:Bool} {e:Int} (h:e = 55 ∨ e = 56) (hz:(T.remove plus).1 = 0) : T.undo plus true r e = syncE (T.remove plus).2 (true || r) e := by
 unfold AD.undo syncE; rw [if_neg (by omega),if_pos rfl,if_neg (by simpa using hz)]; rfl
theorem undo_f {T:AD} {plus:ByteArray} {r:Bool} {e:Int} (h:e = 55 ∨ e = 56) : T.undo plus false r e = syncE T (false || r) e := by
 unfold AD.undo syncE; rw [if_neg (by omega)]; simp
theorem c_putC (hS:Sep (ErrA ev putB name e :: PutL e6 p7 b8 r9 d3 n4 D S ev name bg rm X l) w) (ok:S.Ok c) (hc:c < 1099511627776) (hs:name.size ≤ 1000)
    (hk:∀ w' v,Sep (ErrA v putB name (S.undo (plusOf name) bg rm e).1 :: PutL e6 p7 b8 r9 d3 n4 D (S.undo (plusOf name) bg rm e).2 v name bg rm X l) w' → k (.tuple #[]) w') : F68_0 (ptr e6) (ptr b8) (ptr d3) (ptr p7) (ptr n4) (ptr r9) w k := by
  unfold F68_0
  refine s_ldb (v := ev) (isAgg31 _) (hS.cells 1 rfl) rfl (s_mki (by kernel_rfl) (sd_is hS 0 rfl 55 (by decide) (s_not ?_)))
  have g0 : ∀ (he:e = 55 ∨ e = 56),bg = true → ∀ w' v,(S.remove (plusOf name)).1 ≠ 0 → Sep (ErrA v putB name (S.remove (plusOf name)).1 :: PutL e6 p7 b8 r9 d3 n4 D (S.remove (plusOf name)).2 v name bg rm X l) w' → k (.tuple #[]) w' := by
    intro he hb w' v hz h
    subst hb
    rw [undo_t he hz] at hk
    exact hk w' v h
  have g1 : ∀ (he:e = 55 ∨ e = 56) (ρ:Env) w',bg = true → (S.remove (plusOf name)).1 = 0 → (ρ 0 = ptr e6 ∧ ρ 1 = ptr b8 ∧ ρ 2 = ptr d3 ∧ ρ 4 = ptr n4 ∧ ρ 5 = ptr r9) → Sep (ErrA ev putB name e :: PutL e6 p7 b8 r9 d3 n4 D (S.remove (plusOf name)).2 ev name bg rm X l) w' → F68A k [1,1] ρ w' := by
    intro he ρ w' hb hz ⟨e0,e1,e2,e4,e5⟩ h
    subst hb
    rw [undo_s he hz] at hk
    rw [F68_1_eq]
    exact putC_1 h (ok.remove hc (plusOf name)) e0 e1 e2 e4 e5 hk
  have g2 : ∀ (he:e = 55 ∨ e = 56) (ρ:Env),bg = false → (ρ 0 = ptr e6 ∧ ρ 1 = ptr b8 ∧ ρ 2 = ptr d3 ∧ ρ 4 = ptr n4 ∧ ρ 5 = ptr r9) → F68A k [1,1] ρ w := by
    intro he ρ hb ⟨e0,e1,e2,e4,e5⟩
    subst hb
    rw [undo_f he] at hk
    rw [F68_1_eq]
    exact putC_1 hS ok e0 e1 e2 e4 e5 hk
  by_cases h55 : e = 55
  · rw [decide_eq_true h55]
    refine pG_sk (pG_sk (pG_sk (pG_sk (s_pick_f (pC_false ?_)))))
    exact putC_0 hS ok hs (g0 (.inl h55)) (fun hb v18 v19 v20 v21 v23 w' hz h => g1 (.inl h55) _ w' hb hz ⟨rfl,rfl,rfl,rfl,rfl⟩ h) fun hb v18 => g2 (.inl h55) _ hb ⟨rfl,rfl,rfl,rfl,rfl⟩
  · rw [decide_eq_false h55]
    refine pG_yes rfl (s_ldb (v := ev) (isAgg31 _) (hS.cells 1 rfl) rfl (pG_yes rfl (s_mki (by kernel_rfl) (pG_yes rfl (sd_is hS 0 rfl 56 (by decide) (pG_yes rfl (s_not ?_)))))))
    refine s_pick_t ?_
    by_cases h56 : e = 56
    · rw [decide_eq_true h56]
      refine pC_false ?_
      exact putC_0 hS ok hs (g0 (.inr h56)) (fun hb v18 v19 v20 v21 v23 w' hz h => g1 (.inr h56) _ w' hb hz ⟨rfl,rfl,rfl,rfl,rfl⟩ h) fun hb v18 => g2 (.inr h56) _ hb ⟨rfl,rfl,rfl,rfl,rfl⟩
    · rw [decide_eq_false h56]
      refine pC_true ?_
      rw [undo_no ⟨h55,h56⟩] at hk
      exact hk w ev hS
end
section
variable {w:World} {k:KV} {D c:Nat} {S:AD} {l:List Asrt} {name:ByteArray}
variable {e6 p7 b8 r9 d3 n4:Nat} {bg rm:Bool} {dv ev:Value} {d:Bytes} {e:Int} {X:Asrt}
def put1 (rm:Bool) (name:ByteArray) (d:Bytes) (S1:AD) : Int × AD :=
 andE (S1.create (plusOf name)) (fun T e => T.undo (plusOf name) false rm e) fun S2 =>
 andE (S2.append (plusOf name) d) (fun T e => T.undo (plusOf name) true rm e) fun S3 =>
 andE (S3.sync (plusOf name)) (fun T e => T.undo (plusOf name) true rm e) fun S4 =>
 andE (S4.rename (plusOf name) name) (fun T e => T.undo (plusOf name) true rm e) fun S5 =>
 andE S5.syncNames (fun T e => T.undo (plusOf name) true rm e) fun S6 => (0,S6)
theorem putF_put1 {S:AD} (hl:lays name = true) (ho:S.off = false) : S.putF name d =
    andE (if S.has (plusOf name) then S.remove (plusOf name) else (0,S)) (fun T e => T.undo (plusOf name) false false e) (put1 (S.has (plusOf name)) name d) := by
  unfold AD.putF; rw [hl,ho]; rfl
theorem andE_t {r:Int × AD} {u:AD → Int → Int × AD} {n:AD → Int × AD} (h:r.1 ≠ 0) : andE r u n = u r.2 r.1 := by unfold andE; rw [if_pos h]
theorem andE_f {r:Int × AD} {u:AD → Int → Int × AD} {n:AD → Int × AD} (h:r.1 = 0) : andE r u n = n r.2 := by unfold andE; rw [if_neg (by simpa using h)]
def dfr (e6 b8 d3 p7 n4 r9:Nat) : Deferred := { target := .fn (.func 68) #[ptr e6,ptr b8,ptr d3,ptr p7,ptr n4,ptr r9],args := #[] }
theorem f_results : f19.results = #[.cell 6 31] := by kernel_rfl
theorem put_end {ρ:Env} (hS:Sep (ErrA ev putB name e :: PutL e6 p7 b8 r9 d3 n4 D S ev name bg rm X l) w) (ok:S.Ok c) (hc:c < 1099511627776) (hs:name.size ≤ 1000) (h6:ρ 6 = ptr e6)
    (hk:∀ w' v,Sep (ErrA v putB name (S.undo (plusOf name) bg rm e).1 :: Dk D (S.undo (plusOf name) bg rm e).2 :: X :: l) w' → k v w') : pEnd P f19 k [dfr e6 b8 d3 p7 n4 r9] ρ w := by
  refine ⟨_,_,68,[ptr e6,ptr b8,ptr d3,ptr p7,ptr n4,ptr r9].toArray,rfl,by kernel_rfl,?_⟩
  refine CallsD.mono (callsD_of_at (k := fun _ w' => pEnd P f19 k [] ρ w') mixed func68 (by kernel_rfl) ntmps68 (by kernel_rfl) (by kernel_rfl) (by simp) ((F68_0_eq _ _ _ _ _ _ w _).mpr ?_)) fun e u' w' h => h
  refine c_putC hS ok hc hs fun w1 v h1 => ?_
  obtain ⟨hv1,-⟩ := errA_one h1 0 rfl
  refine endV_cell f_results h6 (v := v) ?_ (hk w1 v ?_)
  · have hcell : w1.cell? ⟨e6,0,none⟩ = some v := cell_blk (h1.cells 1 rfl) rfl
    simp [loadVar,isAgg31,hcell,Result.andThen]
  · exact sep_mv [1,2,3,4,5,6] 6 h1 rfl
theorem put_z1 {ρ:Env} (hX:Holds X dv d) (hS:Sep (ErrA .nilIface putB name 0 :: PutL e6 p7 b8 r9 d3 n4 D S .nilIface name false rm X l) w) (ok:S.Ok c) (hc:c + 10 ≤ 1099511627776) (hs:name.size ≤ 1000) (hdl:d.length ≤ 549755813888)
    (h2:ρ 2 = dv) (h3:ρ 3 = ptr d3) (h4:ρ 4 = ptr n4) (h6:ρ 6 = ptr e6) (h7:ρ 7 = ptr p7) (h8:ρ 8 = ptr b8)
    (hk:∀ w' v,Sep (ErrA v putB name (put1 rm name d S).1 :: Dk D (put1 rm name d S).2 :: X :: l) w' → k v w') : F19z_1 (pEnd P f19 k [dfr e6 b8 d3 p7 n4 r9]) (pEnd P f19 k [dfr e6 b8 d3 p7 n4 r9]) ρ w := by
  unfold F19z_1
  rw [h2,h3,h4,h6,h7,h8]
  have hps : (plusOf name).size ≤ 9223372036854775807 := by rw [plusOf_size]; omega
  have hns : name.size ≤ 9223372036854775807 := by omega
  have hR : put1 rm name d S = put1 rm name d S := rfl
  conv at hR => rhs; unfold put1
  have ld3 : ∀ {T:AD} {b:Bool} {w:World} {kk:KV},Sep (ErrA .nilIface putB name 0 :: PutL e6 p7 b8 r9 d3 n4 D T .nilIface name b rm X l) w → kk (ptr D) w → px P (Instr.loadAt 24 (ptr d3)) w kk := fun g h => s_ldb (v := ptr D) (isAgg24 _) (g.cells 5 rfl) rfl h
  have ld7 : ∀ {T:AD} {b:Bool} {w:World} {kk:KV},Sep (ErrA .nilIface putB name 0 :: PutL e6 p7 b8 r9 d3 n4 D T .nilIface name b rm X l) w → kk (.string (plusOf name)) w → px P (Instr.loadAt 9 (ptr p7)) w kk := fun g h => s_ldb (v := .string (plusOf name)) (isAgg9 _) (g.cells 2 rfl) rfl h
  have ld4 : ∀ {T:AD} {b:Bool} {w:World} {kk:KV},Sep (ErrA .nilIface putB name 0 :: PutL e6 p7 b8 r9 d3 n4 D T .nilIface name b rm X l) w → kk (.string name) w → px P (Instr.loadAt 9 (ptr n4)) w kk := fun g h => s_ldb (v := .string name) (isAgg9 _) (g.cells 6 rfl) rfl h
  refine ld3 hS (ld7 hS (sd_create hS 7 rfl ok hps fun w0 g0 => ?_))
  replace g0 : Sep (ErrA .nilIface putB name 0 :: PutL e6 p7 b8 r9 d3 n4 D (S.create (plusOf name)).2 .nilIface name false rm X l) w0 := g0
  have ok0 := ok.create (by omega) (plusOf name)
  generalize hr0 : (S.create (plusOf name)) = r0 at *
  obtain ⟨x0,S0⟩ := r0
  dsimp only at g0 ok0 ⊢
  by_cases hz0 : x0 = 0
  case neg =>
    rw [andE_t (by exact hz0)] at hR
    refine s_nei_t hz0 (pC_true (ld4 g0 ?_))
    exact put_err g0 hz0 rfl fun w' v g => put_end g ok0 (by omega) hs h6 (by rw [hR] at hk; exact hk)
  rw [andE_f (by exact hz0)] at hR
  refine s_nei_f hz0 (pC_false ?_)
  refine s_st (sizeOf4 _) rfl rfl (g0.cells 3 rfl) (by simp) ?_
  have gb : Sep (ErrA .nilIface putB name 0 :: PutL e6 p7 b8 r9 d3 n4 D S0 .nilIface name true rm X l) (w0.setCell ⟨b8,0,none⟩ (.bool true)) := g0.set 3 rfl 0 (.bool true)
  generalize w0.setCell ⟨b8,0,none⟩ (.bool true) = wb at *
  refine ld3 gb (ld7 gb (sd_append hX gb 7 8 (by decide) rfl rfl ok0 hps hdl fun w1 g1 => ?_))
  replace g1 : Sep (ErrA .nilIface putB name 0 :: PutL e6 p7 b8 r9 d3 n4 D (S0.append (plusOf name) d).2 .nilIface name true rm X l) w1 := g1
  have ok1 := ok0.append (by omega) (plusOf name) d
  generalize hr1 : (S0.append (plusOf name) d) = r1 at *
  obtain ⟨x1,S1⟩ := r1
  dsimp only at g1 ok1 ⊢
  by_cases hz1 : x1 = 0
  case neg =>
    rw [andE_t (by exact hz1)] at hR
    refine s_nei_t hz1 (pC_true (ld4 g1 ?_))
    exact put_err g1 hz1 rfl fun w' v g => put_end g ok1 (by omega) hs h6 (by rw [hR] at hk; exact hk)
  rw [andE_f (by exact hz1)] at hR
  refine s_nei_f hz1 (pC_false ?_)
  refine ld3 g1 (ld7 g1 (sd_sync g1 7 rfl ok1 hps fun w2 g2 => ?_))
  replace g2 : Sep (ErrA .nilIface putB name 0 :: PutL e6 p7 b8 r9 d3 n4 D (S1.sync (plusOf name)).2 .nilIface name true rm X l) w2 := g2
  have ok2 := ok1.sync (by omega) (plusOf name)
  generalize hr2 : (S1.sync (plusOf name)) = r2 at *
  obtain ⟨x2,S2⟩ := r2
  dsimp only at g2 ok2 ⊢
  by_cases hz2 : x2 = 0
  case neg =>
    rw [andE_t (by exact hz2)] at hR
    refine s_nei_t hz2 (pC_true (ld4 g2 ?_))
    exact put_err g2 hz2 rfl fun w' v g => put_end g ok2 (by omega) hs h6 (by rw [hR] at hk; exact hk)
  rw [andE_f (by exact hz2)] at hR
  refine s_nei_f hz2 (pC_false ?_)
  refine ld3 g2 (ld7 g2 (ld4 g2 (sd_rename g2 7 rfl ok2 hps hns fun w3 g3 => ?_)))
  replace g3 : Sep (ErrA .nilIface putB name 0 :: PutL e6 p7 b8 r9 d3 n4 D (S2.rename (plusOf name) name).2 .nilIface name true rm X l) w3 := g3
  have ok3 := ok2.rename (by omega) (plusOf name) name
  generalize hr3 : (S2.rename (plusOf name) name) = r3 at *
  obtain ⟨x3,S3⟩ := r3
  dsimp only at g3 ok3 ⊢
  by_cases hz3 : x3 = 0
  case neg =>
    rw [andE_t (by exact hz3)] at hR
    refine s_nei_t hz3 (pC_true (ld4 g3 ?_))
    exact put_err g3 hz3 rfl fun w' v g => put_end g ok3 (by omega) hs h6 (by rw [hR] at hk; exact hk)
  rw [andE_f (by exact hz3)] at hR
  refine s_nei_f hz3 (pC_false ?_)
  refine ld3 g3 (sd_syncNames g3 7 rfl ok3 fun w4 g4 => ?_)
  replace g4 : Sep (ErrA .nilIface putB name 0 :: PutL e6 p7 b8 r9 d3 n4 D S3.syncNames.2 .nilIface name true rm X l) w4 := g4
  have ok4 := ok3.syncNames (by omega)
  generalize hr4 : S3.syncNames = r4 at *
  obtain ⟨x4,S4⟩ := r4
  dsimp only at g4 ok4 ⊢
  by_cases hz4 : x4 = 0
  case neg =>
    rw [andE_t (by exact hz4)] at hR
    refine s_nei_t hz4 (pC_true (ld4 g4 ?_))
    exact put_err g4 hz4 rfl fun w' v g => put_end g ok4 (by omega) hs h6 (by rw [hR] at hk; exact hk)
  rw [andE_f (by exact hz4)] at hR
  refine s_nei_f hz4 (pC_false ?_)
  refine s_st (sizeOf31 _) rfl rfl (g4.cells 1 rfl) (by simp) ?_
  have ge : Sep (ErrA .nilIface putB name 0 :: PutL e6 p7 b8 r9 d3 n4 D S4 .nilIface name true rm X l) (w4.setCell ⟨e6,0,none⟩ .nilIface) := g4.set 1 rfl 0 .nilIface
  exact put_end ge ok4 (by omega) hs h6 (by rw [hR] at hk; rw [undo_no (by decide)]; exact hk)
end
section
variable {w:World} {k:KV} {D c:Nat} {S:AD} {l:List Asrt} {name:ByteArray}
variable {e6 p7 b8 r9 d3 n4:Nat} {bg rm:Bool} {dv ev:Value} {d:Bytes} {e:Int} {X:Asrt}
theorem put_z0 {ρ:Env} (hX:Holds X dv d) (hS:Sep (ErrA .nilIface putB name 0 :: PutL e6 p7 b8 r9 d3 n4 D S .nilIface name false false X l) w) (ok:S.Ok c) (hc:c + 11 ≤ 1099511627776) (hl:lays name = true) (ho:S.off = false) (hdl:d.length ≤ 549755813888)
    (h2:ρ 2 = dv) (h3:ρ 3 = ptr d3) (h4:ρ 4 = ptr n4) (h6:ρ 6 = ptr e6) (h7:ρ 7 = ptr p7) (h8:ρ 8 = ptr b8) (h9:ρ 9 = ptr r9)
    (hk:∀ w' v,Sep (ErrA v putB name (S.putF name d).1 :: Dk D (S.putF name d).2 :: X :: l) w' → k v w') : F19z_0 (pEnd P f19 k [dfr e6 b8 d3 p7 n4 r9]) (pEnd P f19 k [dfr e6 b8 d3 p7 n4 r9]) ρ w := by
  unfold F19z_0
  rw [h3,h4,h6,h7,h9]
  have hs : name.size ≤ 1000 := by have := isName_small (lays_name hl).1; omega
  have hps : (plusOf name).size ≤ 9223372036854775807 := by rw [plusOf_size]; omega
  rw [putF_put1 hl ho] at hk
  refine s_ldb (v := ptr D) (isAgg24 _) (hS.cells 5 rfl) rfl (s_ldb (v := .string (plusOf name)) (isAgg9 _) (hS.cells 2 rfl) rfl ?_)
  refine sd_size hS 7 rfl ok hps (s_ext rfl (s_ext rfl ?_))
  by_cases hh : S.look (plusOf name) = 0
  · have hhas : S.has (plusOf name) = true := decide_eq_true hh
    rw [hhas] at hk
    simp only [if_true] at hk
    refine s_eqi_t hh (pC_true (s_ldb (v := ptr D) (isAgg24 _) (hS.cells 5 rfl) rfl (s_ldb (v := .string (plusOf name)) (isAgg9 _) (hS.cells 2 rfl) rfl ?_)))
    refine sd_remove hS 7 rfl ok hps fun w1 g1 => ?_
    replace g1 : Sep (ErrA .nilIface putB name 0 :: PutL e6 p7 b8 r9 d3 n4 D (S.remove (plusOf name)).2 .nilIface name false false X l) w1 := g1
    have ok1 := ok.remove (by omega) (plusOf name)
    generalize S.remove (plusOf name) = r at *
    obtain ⟨x,S1⟩ := r
    dsimp only at g1 ok1 hk ⊢
    by_cases hz : x = 0
    · rw [andE_f (by exact hz)] at hk
      refine s_nei_f hz (pC_false ?_)
      refine s_st (sizeOf4 _) rfl rfl (g1.cells 4 rfl) (by simp) ?_
      have g2 : Sep (ErrA .nilIface putB name 0 :: PutL e6 p7 b8 r9 d3 n4 D S1 .nilIface name false true X l) (w1.setCell ⟨r9,0,none⟩ (.bool true)) := g1.set 4 rfl 0 (.bool true)
      rw [F19z_1_eq]
      exact put_z1 hX g2 ok1 (by omega) hs hdl h2 h3 h4 h6 h7 h8 hk
    · rw [andE_t (by exact hz)] at hk
      refine s_nei_t hz (pC_true (s_ldb (v := .string name) (isAgg9 _) (g1.cells 6 rfl) rfl ?_))
      exact put_err g1 hz rfl fun w' v g => put_end g ok1 (by omega) hs h6 hk
  · have hhas : S.has (plusOf name) = false := decide_eq_false hh
    rw [hhas] at hk
    simp only [Bool.false_eq_true,if_false] at hk
    rw [andE_f rfl] at hk
    refine s_eqi_f hh (pC_false ?_)
    rw [F19z_1_eq]
    exact put_z1 hX hS ok (by omega) hs hdl h2 h3 h4 h6 h7 h8 hk
theorem lays_named (s:ByteArray) (h:namedA s 111 = true) : 0 < s.size ∧ lays s = !decide (s.data.toList.head? = some 43) := by
 unfold namedA at h
 simp only [Bool.and_eq_true,decide_eq_true_eq] at h
 refine ⟨by omega,?_⟩
 unfold lays
 rw [h.1.1,decide_eq_true h.1.2,decide_eq_true (show s.size ≤ 111 by omega)]
 simp
theorem lays_not (s:ByteArray) (h:namedA s 111 = false) : lays s = false := by
 unfold namedA at h; unfold lays
 have e : decide ((s.size : Int) ≤ 111) = decide (s.size ≤ 111) := decide_eq_decide.2 ⟨fun h => by omega,fun h => by omega⟩
 rw [e] at h
 rw [h]; rfl
theorem head_at (s:ByteArray) (h:0 < s.size) : (s.data.toList.head? = some 43) ↔ ((s[0]'h).toNat : Int) = 43 := by
 have hl : 0 < s.data.toList.length := by simpa using h
 rw [List.head?_eq_getElem?,List.getElem?_eq_getElem hl]
 have e : s.data.toList[0] = s[0] := rfl
 rw [e]
 constructor
 ·intro h; injection h with h; rw [h]; rfl
 ·intro h'; congr 1; apply UInt8.toNat_inj.1
  have : (43 : UInt8).toNat = 43 := rfl
  omega
theorem put_out {ρ:Env} {v:Value} {L:List Asrt} (hS:Sep L w) (i:Nat) (hi:L[i]? = some (Cells e6 #[v] 31)) (h6:ρ 6 = ptr e6) (hk:k v w) : pEnd P f19 k [] ρ w := by
 refine endV_cell f_results h6 (v := v) ?_ hk
 have hcell : w.cell? ⟨e6,0,none⟩ = some v := cell_blk (hS.cells i hi) rfl
 simp [loadVar,isAgg31,hcell,Result.andThen]
theorem c_fPut (hX:Holds X dv d) (hS:Sep (Dk D S :: X :: l) w) (ok:S.Ok c) (hc:c + 11 ≤ 1099511627776) (hs:name.size ≤ 9223372036854775807) (hdl:d.length ≤ 549755813888)
    (hk:∀ w' v,Sep (ErrA v putB name (S.putF name d).1 :: Dk D (S.putF name d).2 :: X :: l) w' → k v w') : pFn P 19 [ptr D,.string name,dv] w k := by
  refine pFn_of_pDr (c := F19C0) func19 (by kernel_rfl) (by kernel_rfl) (by rw [ntmps19]; simp) ?_
  refine pDr_seqA mixed ntmps19 F19_t0 (by kernel_rfl) ((F19p0_0_eq _ _ _ _).mpr ?_)
  unfold F19p0_0
  refine s_box ?_
  have h1 : Sep (Cells w.heap.size #[ptr D] 24 :: Dk D S :: X :: l) (w.alloc (.cells #[ptr D] 24)) := hS.cell _ _
  show px P (Instr.box 9 (.string name)) (w.alloc (.cells #[ptr D] 24)) _
  generalize w.alloc (.cells #[ptr D] 24) = w1 at *
  generalize w.heap.size = d3 at *
  refine s_box ?_
  have h2 : Sep (Cells w1.heap.size #[.string name] 9 :: Cells d3 #[ptr D] 24 :: Dk D S :: X :: l) (w1.alloc (.cells #[.string name] 9)) := h1.cell _ _
  show px P (Instr.alloc 31 true (.tuple #[])) (w1.alloc (.cells #[.string name] 9)) _
  generalize w1.alloc (.cells #[.string name] 9) = w2 at *
  generalize w1.heap.size = n4 at *
  refine s_alloc (zeroValue31 _) ?_
  have h3 : Sep (Cells w2.heap.size #[.nilIface] 31 :: Cells n4 #[.string name] 9 :: Cells d3 #[ptr D] 24 :: Dk D S :: X :: l) (w2.alloc (.cells #[.nilIface] 31)) := h2.cell _ _
  show pDr _ _ _ _ _ _ (w2.alloc (.cells #[.nilIface] 31))
  generalize w2.alloc (.cells #[.nilIface] 31) = w3 at *
  generalize w2.heap.size = e6 at *
  have ρ3 : ∀ {A B:Value},(put (put (put (argEnv [ptr D,.string name,dv]) 3 (.pointer (some ⟨d3,0,none⟩))) 4 (.pointer (some ⟨n4,0,none⟩))) 6 (.pointer (some ⟨e6,0,none⟩))) 2 = dv := rfl
  generalize hρ : (put (put (put (argEnv [ptr D,.string name,dv]) 3 (.pointer (some ⟨d3,0,none⟩))) 4 (.pointer (some ⟨n4,0,none⟩))) 6 (.pointer (some ⟨e6,0,none⟩))) = ρ
  have r2 : ρ 2 = dv := by rw [← hρ]; rfl
  have r3 : ρ 3 = ptr d3 := by rw [← hρ]; rfl
  have r4 : ρ 4 = ptr n4 := by rw [← hρ]; rfl
  have r6 : ρ 6 = ptr e6 := by rw [← hρ]; rfl
  clear hρ ρ3 h1 h2 hS
  -- the error of an early end
  have early : ∀ {e':Int} {kk:KV} (he:e' ≠ 0),(∀ v w',Sep (ErrA v putB name e' :: Cells e6 #[v] 31 :: Dk D S :: X :: l) w' → kk v w') →
      pFn P 67 [.string (ByteArray.mk #[112,117,116]),.string name,i64 e'] w3 fun v w => pu P (Instr.storeAt 31 (ptr e6) v) w (kk v) := by
    intro e' kk he hkk
    refine sd_refused (op := putB) h3 he (by decide) fun w4 v h4 => ?_
    obtain ⟨hv1,hv2⟩ := errA_one h4 0 rfl
    refine s_st (sizeOf31 _) hv1 hv2 (h4.cells 1 rfl) (by simp) ?_
    have h5 : Sep (ErrA v putB name e' :: Cells e6 #[v] 31 :: Cells n4 #[.string name] 9 :: Cells d3 #[ptr D] 24 :: Dk D S :: X :: l) (w4.setCell ⟨e6,0,none⟩ v) := h4.set 1 rfl 0 v
    exact hkk v _ (sep_mv [3,3] 2 h5 rfl)
  refine pDr_seqA mixed ntmps19 F19_t1 (by kernel_rfl) ((F19p1_0_eq _ _ _ _).mpr ?_)
  unfold F19p1_0
  rw [r4,r6]
  have ld4 : ∀ {kk:KV},kk (.string name) w3 → px P (Instr.loadAt 9 (ptr n4)) w3 kk := fun h => s_ldb (v := .string name) (isAgg9 _) (h3.cells 1 rfl) rfl h
  have bad51 : lays name = false → ∀ v w',Sep (ErrA v putB name 51 :: Cells e6 #[v] 31 :: Dk D S :: X :: l) w' → k v w' := by
    intro hl v w' g
    have : S.putF name d = (51,S) := by unfold AD.putF; rw [hl]; rfl
    rw [this] at hk
    exact hk w' v (sep_mv [1] 1 g rfl)
  refine ld4 (c_named name 111 hs (s_not ?_))
  cases hn : namedA name 111 with
  | false =>
    refine pG_skf (pG_skf (pG_skf (s_pick_t (pC_true (ld4 ?_)))))
    exact early (by decide) fun v w' g => put_out g 1 rfl r6 (bad51 (lays_not name hn) v w' g)
  | true =>
  obtain ⟨hpos,hlay⟩ := lays_named name hn
  refine pG_yes rfl (ld4 (pG_yes rfl (s_ixs (by kernel_rfl) hpos (pG_yes rfl (s_eqi (s_pick_f ?_))))))
  have hd := head_at name hpos
  by_cases h43 : ((name[0]'hpos).toNat : Int) = 43
  · rw [decide_eq_true (hd.2 h43)] at hlay
    rw [show (((name[0]'hpos).toNat : Int) == 43) = true by simpa using h43]
    refine pC_true (ld4 ?_)
    exact early (by decide) fun v w' g => put_out g 1 rfl r6 (bad51 (by simpa using hlay) v w' g)
  rw [decide_eq_false (fun h => h43 (hd.1 h))] at hlay
  have hl : lays name = true := by simpa using hlay
  rw [show (((name[0]'hpos).toNat : Int) == 43) = false by simpa using h43]
  refine pC_false ?_
  have sz : name.size ≤ 1000 := by have := isName_small (lays_name hl).1; omega
  clear hlay bad51 hd h43 hn
  generalize hρ : put (put (put (put (put (put (put (put ρ 18 _) 19 _) 20 _) 21 _) 22 _) 23 _) 24 _) 25 _ = ρ1
  have r2 : ρ1 2 = dv := by rw [← hρ]; exact r2
  have r3 : ρ1 3 = ptr d3 := by rw [← hρ]; exact r3
  have r4 : ρ1 4 = ptr n4 := by rw [← hρ]; exact r4
  have r6 : ρ1 6 = ptr e6 := by rw [← hρ]; exact r6
  clear hρ
  refine pDr_seqA mixed ntmps19 F19_t2 (by kernel_rfl) ((F19p2_0_eq _ _ _ _).mpr ?_)
  unfold F19p2_0
  rw [r3,r4,r6]
  refine s_ldb (v := ptr D) (isAgg24 _) (h3.cells 2 rfl) rfl (sd_off h3 3 rfl ok ?_)
  cases ho : S.off with
  | true =>
    refine pC_true (ld4 ?_)
    refine early (by decide) fun v w' g => put_out g 1 rfl r6 ?_
    have : S.putF name d = (50,S) := by unfold AD.putF; rw [hl,ho]; rfl
    rw [this] at hk
    exact hk w' v (sep_mv [1] 1 g rfl)
  | false =>
  refine pC_false ?_
  clear early
  generalize hρ : put (put ρ1 28 _) 29 _ = ρ2
  have r2 : ρ2 2 = dv := by rw [← hρ]; exact r2
  have r3 : ρ2 3 = ptr d3 := by rw [← hρ]; exact r3
  have r4 : ρ2 4 = ptr n4 := by rw [← hρ]; exact r4
  have r6 : ρ2 6 = ptr e6 := by rw [← hρ]; exact r6
  clear hρ
  refine pDr_seqA mixed ntmps19 F19_t3 (by kernel_rfl) ((F19p3_0_eq _ _ _ _).mpr ?_)
  unfold F19p3_0
  rw [r4]
  refine ld4 (s_addS (by show 1 + _ ≤ _; omega) (s_alloc (zeroValue9 _) ?_))
  have h4 : Sep (Cells w3.heap.size #[.string (ByteArray.mk #[])] 9 :: Cells e6 #[.nilIface] 31 :: Cells n4 #[.string name] 9 :: Cells d3 #[ptr D] 24 :: Dk D S :: X :: l) (w3.alloc (.cells #[.string (ByteArray.mk #[])] 9)) := h3.cell _ _
  show pu P _ (w3.alloc (.cells #[.string (ByteArray.mk #[])] 9)) _
  generalize w3.alloc (.cells #[.string (ByteArray.mk #[])] 9) = w4 at *
  generalize w3.heap.size = p7 at *
  refine s_st (sizeOf9 _) rfl rfl (h4.cells 0 rfl) (by simp) ?_
  have h5 : Sep (Cells p7 #[.string (plusOf name)] 9 :: Cells e6 #[.nilIface] 31 :: Cells n4 #[.string name] 9 :: Cells d3 #[ptr D] 24 :: Dk D S :: X :: l) (w4.setCell ⟨p7,0,none⟩ (.string (plusOf name))) := h4.set 0 rfl 0 (.string (plusOf name))
  show pDr _ _ _ _ _ _ (w4.setCell ⟨p7,0,none⟩ (.string (plusOf name)))
  generalize w4.setCell ⟨p7,0,none⟩ (.string (plusOf name)) = w5 at *
  generalize hρ : put (put (put ρ2 32 _) 33 _) 7 _ = ρ3
  have r2 : ρ3 2 = dv := by rw [← hρ]; exact r2
  have r3 : ρ3 3 = ptr d3 := by rw [← hρ]; exact r3
  have r4 : ρ3 4 = ptr n4 := by rw [← hρ]; exact r4
  have r6 : ρ3 6 = ptr e6 := by rw [← hρ]; exact r6
  have r7 : ρ3 7 = ptr p7 := by rw [← hρ]; rfl
  clear hρ
  refine pDr_seqA mixed ntmps19 F19_t4 (by kernel_rfl) ((F19p4_0_eq _ _ _ _).mpr ?_)
  unfold F19p4_0
  refine s_alloc (zeroValue4 _) ?_
  have h6 := h5.cell #[.bool false] 4
  show px P _ (w5.alloc (.cells #[.bool false] 4)) _
  generalize w5.alloc (.cells #[.bool false] 4) = w6 at *
  generalize w5.heap.size = b8 at *
  refine s_alloc (zeroValue4 _) ?_
  have h7 := h6.cell #[.bool false] 4
  show pu P _ (w6.alloc (.cells #[.bool false] 4)) _
  generalize w6.alloc (.cells #[.bool false] 4) = w7 at *
  generalize w6.heap.size = r9 at *
  refine s_st (sizeOf4 _) rfl rfl (h7.cells 1 rfl) (by simp) ?_
  have h8 : Sep (Cells r9 #[.bool false] 4 :: Cells b8 #[.bool false] 4 :: Cells p7 #[.string (plusOf name)] 9 :: Cells e6 #[.nilIface] 31 :: Cells n4 #[.string name] 9 :: Cells d3 #[ptr D] 24 :: Dk D S :: X :: l) (w7.setCell ⟨b8,0,none⟩ (.bool false)) := h7.set 1 rfl 0 (.bool false)
  show pu P _ (w7.setCell ⟨b8,0,none⟩ (.bool false)) _
  generalize w7.setCell ⟨b8,0,none⟩ (.bool false) = w8 at *
  refine s_st (sizeOf4 _) rfl rfl (h8.cells 0 rfl) (by simp) ?_
  have h9 : Sep (Cells r9 #[.bool false] 4 :: Cells b8 #[.bool false] 4 :: Cells p7 #[.string (plusOf name)] 9 :: Cells e6 #[.nilIface] 31 :: Cells n4 #[.string name] 9 :: Cells d3 #[ptr D] 24 :: Dk D S :: X :: l) (w8.setCell ⟨r9,0,none⟩ (.bool false)) := h8.set 0 rfl 0 (.bool false)
  show pDr _ _ _ _ _ _ (w8.setCell ⟨r9,0,none⟩ (.bool false))
  generalize w8.setCell ⟨r9,0,none⟩ (.bool false) = w9 at *
  have hA : Sep (ErrA .nilIface putB name 0 :: PutL e6 p7 b8 r9 d3 n4 D S .nilIface name false false X l) w9 := Sep.noErr (sep_mv [4,5,2,3,4,5] 0 h9 rfl)
  generalize hρ : put (put ρ3 8 _) 9 _ = ρ4
  have r2 : ρ4 2 = dv := by rw [← hρ]; exact r2
  have r3 : ρ4 3 = ptr d3 := by rw [← hρ]; exact r3
  have r4 : ρ4 4 = ptr n4 := by rw [← hρ]; exact r4
  have r6 : ρ4 6 = ptr e6 := by rw [← hρ]; exact r6
  have r7 : ρ4 7 = ptr p7 := by rw [← hρ]; exact r7
  have r8 : ρ4 8 = ptr b8 := by rw [← hρ]; rfl
  have r9' : ρ4 9 = ptr r9 := by rw [← hρ]; rfl
  clear hρ h3 h4 h5 h6 h7 h8 h9 ld4
  refine pDr_seqDA ntmps19 F19_t5 (by kernel_rfl) ?_
  rw [F19d_eq]
  unfold F19d
  rw [r3,r4,r6,r7,r8,r9']
  refine s_mkf ?_
  refine ⟨dfr e6 b8 d3 p7 n4 r9,by kernel_rfl,?_⟩
  refine pDr_codeA mixed ntmps19 (by kernel_rfl) ((F19z_0_eq _ _ _ _).mpr ?_)
  exact put_z0 hX hA ok hc hl ho hdl r2 r3 r4 r6 r7 r8 r9' hk
end
def getB : ByteArray := ByteArray.mk #[103,101,116]
def cleanB : ByteArray := ByteArray.mk #[99,108,101,97,110]
def SrcA (sz:Nat) (v:Value) (n:Nat) (cs:List Value) : Asrt where
 h w O I := Src w v sz n cs ∧ 0 < sz ∧ (∀ b,I b ↔ sblk v = some b) ∧ (∀ b,sblk v = some b → b < w.heap.size) ∧ ∀ b,¬ O b
 fr := fun ⟨h1,h2,h3,h4,h5⟩ hf hm => ⟨h1.fr h2 hf fun b hb h => (hm b h).2 ((h3 b).2 hb),h2,h3,fun b hb => Nat.lt_of_lt_of_le (h4 b hb) hf.size,h5⟩
 lt := fun ⟨h1,h2,h3,h4,h5⟩ b hb => hb.elim (fun h => absurd h (h5 b)) fun h => h4 b ((h3 b).1 h)
 ap := fun ⟨h1,h2,h3,h4,h5⟩ b hb => absurd hb (h5 b)
section
variable {w:World} {k:KV} {D c:Nat} {S:AD} {l:List Asrt} {name:ByteArray}
theorem Sep.nilBytes (h:Sep l w) : Sep (BytesA (.slice none 0 0) [] :: l) w :=
 h.new (M := fun _ => False) (O' := fun _ => False) (I' := fun _ => False) (Fr.refl _ _) (fun _ h => h.elim) ⟨SBytes.nil _,fun h => absurd h (by simp),fun _ h => h,fun _ h => h.elim⟩ (fun _ h => h.elim) fun _ h => h.elim
theorem Sep.bytes {v:Value} {bs:Bytes} (h:Sep l w) (i:Nat) (hi:l[i]? = some (BytesA v bs)) : SBytes w v bs := by obtain ⟨O,I,h,_⟩ := h.get i hi; exact h
theorem Sep.src {sz n:Nat} {v:Value} {cs:List Value} (h:Sep l w) (i:Nat) (hi:l[i]? = some (SrcA sz v n cs)) : Src w v sz n cs := by obtain ⟨O,I,h,_⟩ := h.get i hi; exact h
theorem sd_list {p:ByteArray} (hS:Sep l w) (i:Nat) (hi:l[i]? = some (Dk D S)) (ok:S.Ok c) (hk:∀ w' v,Sep (SrcA 1 v (AD.listA S p).length ((AD.listA S p).map .string) :: l) w' → k v w') : pFn P 91 [ptr D,.string p] w k := by
 obtain ⟨O,I,L,hd,-⟩ := Sep.disk hS i hi
 exact c_list hd ok p fun w' v hv hb f => hk w' v (hS.new (O' := fun _ => False) (I' := fun b => sblk v = some b) f (fun b hb => hb.elim) ⟨hv,by omega,fun _ => Iff.rfl,fun b hb' => (hb b hb').2,fun _ h => h⟩ (fun b hb => hb.elim) fun b hb' => (hb b hb').1)
theorem getF_no (h:isName name = false) : S.getF name = (51,[],S) := by unfold AD.getF; rw [h]; rfl
theorem getF_look (h:isName name = true) (hl:S.look name ≠ 0) : S.getF name = (S.look name,[],S) := by unfold AD.getF; rw [h,if_pos hl]; rfl
theorem getF_read (h:isName name = true) (hl:S.look name = 0) : S.getF name = S.read name 0 (S.bytes name).length := by unfold AD.getF; rw [h]; simp [hl]
theorem bytes_small (ok:S.Ok c) (hl:S.look name = 0) : (S.bytes name).length ≤ 1048576 := (ok.thing _ (reach_of (look0 hl).2)).ok.len.1
theorem c_fGet (hS:Sep (Dk D S :: l) w) (ok:S.Ok c) (hs:name.size ≤ 9223372036854775807)
    (hk:∀ w' v ev,Sep (ErrA ev getB name (S.getF name).1 :: BytesA v (S.getF name).2.1 :: Dk D (S.getF name).2.2 :: l) w' → k (.tuple #[v,ev]) w') : pFn P 20 [ptr D,.string name] w k := by
  refine F20_in _ _ _ _ ?_
  unfold F20_0
  refine c_named name 112 hs ?_
  rw [namedA_112]
  refine s_not ?_
  cases hn : isName name with
  | false =>
    rw [getF_no hn] at hk
    exact pC_true (sd_refused (op := getB) (Sep.nilBytes hS) (by decide) (by decide) fun w1 ev h1 => hk w1 _ ev h1)
  | true =>
  refine pC_false (sd_size hS 0 rfl ok hs (s_ext rfl (s_ext rfl ?_)))
  by_cases hl : S.look name = 0
  · rw [getF_read hn hl] at hk
    refine s_nei_f hl (pC_false ?_)
    have hb := bytes_small ok hl
    rw [show AD.sizeOf S name = (S.bytes name).length by unfold AD.sizeOf; rw [if_pos hl]]
    refine s_read hS (i := 0) rfl ok name hs 0 _ (by omega) fun w1 v h1 => ?_
    replace h1 : Sep (Dk D (S.read name 0 (S.bytes name).length).2.2 :: BytesA v (S.read name 0 (S.bytes name).length).2.1 :: l) w1 := Sep.unstar h1
    have h0 : (S.read name 0 (S.bytes name).length).1 = 0 := by unfold AD.read; rw [if_neg (by simpa using hl),if_neg (by omega)]
    refine s_ext rfl (s_ext rfl (s_nei_f h0 (pC_false ?_)))
    rw [h0] at hk
    exact hk w1 v .nilIface (Sep.noErr (sep_mv [1] 0 h1 rfl))
  · rw [getF_look hn hl] at hk
    exact s_nei_t hl (pC_true (sd_refused (op := getB) (Sep.nilBytes hS) hl (by decide) fun w1 ev h1 => hk w1 _ ev h1))
theorem removeAll_app (l1 l2:List ByteArray) (S:AD) : AD.removeAll (l1 ++ l2) S = andE (AD.removeAll l1 S) (fun T e => (e,T)) (AD.removeAll l2) := by
 induction l1 generalizing S with
 | nil => simp [AD.removeAll,andE]
 | cons n l1 ih =>
  simp only [List.cons_append,AD.removeAll]
  unfold andE
  by_cases h : (S.remove n).1 = 0
  ·simp only [h,ne_eq,not_true_eq_false,if_false]
   rw [ih]; rfl
  ·simp [h]
theorem ok_removeAll (l:List ByteArray) : ∀ {S:AD} {c:Nat},S.Ok c → c + l.length ≤ 1099511627776 → (AD.removeAll l S).2.Ok (c + l.length) := by
 induction l with
 | nil => intro S c ok _; exact ok
 | cons n l ih =>
  intro S c ok hc
  simp only [List.length_cons] at hc
  unfold AD.removeAll
  by_cases h : (S.remove n).1 = 0
  ·rw [andE_f h]
   have := ih (ok.remove (by omega) n) (by omega)
   simp only [List.length_cons]
   rwa [show c + (l.length + 1) = c + 1 + l.length by omega]
  ·rw [andE_t h]
   exact (ok.remove (by omega) n).mono (by simp) (by simp; omega)
theorem listA_len (ok:S.Ok c) (p:ByteArray) : (AD.listA S p).length ≤ 256 := names_len S ok p
theorem listA_small (ok:S.Ok c) (p:ByteArray) : ∀ n ∈ AD.listA S p,n.size ≤ 112 := by
 intro n hn
 unfold AD.listA at hn
 split at hn
 ·cases hn
 ·obtain ⟨q,hq,rfl⟩ := List.mem_map.1 (List.mem_filter.1 hn).1
  exact ok.shownNames q hq
theorem clean_end {ρ:Env} {sv:Value} {L:List ByteArray} {e:Int} {T:AD} (hS:Sep (SrcA 1 sv L.length (L.map .string) :: Dk D T :: l) w) (h1:ρ 1 = .string name) (h5:ρ 5 = i64 e)
    (hk:∀ w' ev,Sep (ErrA ev cleanB name e :: Dk D T :: l) w' → k ev w') : F51A k [1,0,1,1,1,1,1,1] ρ w := by
  rw [F51_3_eq]
  unfold F51_3
  rw [h1,h5]
  by_cases he : e = 0
  · subst he
    exact s_nei_f rfl (pC_false (hk w _ (Sep.noErr hS.drop)))
  · exact s_nei_t he (pC_true (sd_refused (op := cleanB) hS.drop he (by decide) fun w1 ev h1 => hk w1 ev h1))
theorem clean_sync {ρ:Env} {sv:Value} {L:List ByteArray} {e:Int} {T:AD} (hS:Sep (SrcA 1 sv L.length (L.map .string) :: Dk D T :: l) w) (ok:T.Ok c) (hL:L.length ≤ 256) (h0:ρ 0 = ptr D) (h1:ρ 1 = .string name) (h5:ρ 5 = i64 e) (h6:ρ 6 = sv)
    (hk:∀ w' ev,Sep (ErrA ev cleanB name (andE (e,T) (fun T e => (e,T)) fun S1 => if L = [] then (0,S1) else S1.syncNames).1 :: Dk D (andE (e,T) (fun T e => (e,T)) fun S1 => if L = [] then (0,S1) else S1.syncNames).2 :: l) w' → k ev w') : F51A k [1,0,1,1,1,1,1] ρ w := by
  rw [F51_2_eq]
  unfold F51_2
  rw [h0,h5,h6]
  obtain ⟨A,cp,rfl,hcp,-⟩ := Sep.src hS 0 rfl
  by_cases he : e = 0
  · subst he
    rw [andE_f rfl] at hk
    refine s_eqi_t rfl (pG_yes rfl (pG_yes rfl (s_len usl22 (pG_yes rfl (s_gt ?_)))))
    by_cases hl : L = []
    · rw [if_pos hl] at hk
      rw [decide_eq_false (by subst hl; simp)]
      refine s_pick_t (pC_false ?_)
      exact clean_end hS h1 h5 hk
    · rw [if_neg hl] at hk
      rw [decide_eq_true (by have := List.length_pos_iff.2 hl; omega)]
      refine s_pick_t (pC_true (sd_syncNames hS 1 rfl ok fun w1 g1 => ?_))
      replace g1 : Sep (SrcA 1 (.slice A L.length cp) L.length (L.map .string) :: Dk D T.syncNames.2 :: l) w1 := g1
      exact clean_end g1 h1 rfl hk
  · rw [andE_t he] at hk
    refine s_eqi_f he (pG_sk (pG_sk (pG_sk (s_pick_f (pC_false ?_)))))
    exact clean_end hS h1 h5 hk
theorem s_nth {sv:Value} {L:List ByteArray} {i:Nat} {kk:Value → KV} (hsrc:Src w sv 1 L.length (L.map .string)) (hi:i < L.length) (hk:∀ a,kk a (.string L[i]) w) :
    px P (Instr.indexAt 22 sv (i64 i)) w fun v20 w => px P (Instr.loadAt 9 v20) w (kk v20) := by
  refine s_ix_src usl22 (sze22 _) hsrc (by omega) (by omega) fun b o hcell => ?_
  refine s_ld (v := .string L[i]) (isAgg9 _) (hcell 0 _ (by omega) ?_) (hk _)
  simp [hi]
theorem c_fClean {p:ByteArray} (hS:Sep (Dk D S :: l) w) (ok:S.Ok c) (hc:c + 300 ≤ 1099511627776)
    (hk:∀ w' ev,Sep (ErrA ev cleanB p (S.cleanF (AD.listA S p)).1 :: Dk D (S.cleanF (AD.listA S p)).2 :: l) w' → k ev w') : pFn P 51 [ptr D,.string p] w k := by
  refine F51_in _ _ _ _ ?_
  unfold F51_0
  refine sd_off hS 0 rfl ok ?_
  cases ho : S.off with
  | true =>
    rw [show S.cleanF (AD.listA S p) = (50,S) by unfold AD.cleanF; rw [ho]; rfl] at hk
    exact pC_true (sd_refused (op := cleanB) hS (by decide) (by decide) fun w1 ev h1 => hk w1 ev h1)
  | false =>
  have hcl : S.cleanF (AD.listA S p) = andE (AD.removeAll (AD.listA S p) S) (fun T e => (e,T)) fun S1 => if AD.listA S p = [] then (0,S1) else S1.syncNames := by unfold AD.cleanF; rw [ho]; rfl
  rw [hcl] at hk
  have hL := listA_len ok p
  have hsm := listA_small ok p
  refine pC_false (sd_list hS 0 rfl ok fun w1 sv h1 => ?_)
  generalize AD.listA S p = L at *
  obtain ⟨A,cp,esv,hcp,-⟩ := Sep.src h1 0 rfl
  have hlen : px P (bSem .len #[22] 3 #[sv]) w1 fun v17 w => v17 = i64 L.length ∧ w = w1 := by rw [esv]; exact s_len usl22 ⟨rfl,rfl⟩
  refine px_mono hlen ?_
  rintro v17 w2 ⟨rfl,rfl⟩
  refine F51L1_inv (m := L.length) k (fun m ρ w' => ∃ (i:Nat) (T:AD),i + m = L.length ∧ AD.removeAll (L.take i) S = (0,T) ∧ Sep (SrcA 1 sv L.length (L.map .string) :: Dk D T :: l) w' ∧ ρ 0 = ptr D ∧ ρ 1 = .string p ∧ ρ 5 = i64 0 ∧ ρ 6 = sv ∧ ρ 16 = sv ∧ ρ 17 = i64 L.length ∧ ρ 18 = i64 i) ?_
    ⟨0,S,by omega,rfl,h1,rfl,rfl,rfl,rfl,rfl,rfl,rfl⟩
  rintro m ρ w' ⟨i,T,him,hT,hS',e0,e1,e5,e6,e16,e17,e18⟩
  rw [F51_1_eq]
  unfold F51_1
  rw [e0,e16,e17,e18]
  have okT : T.Ok (c + i) := by
    have := ok_removeAll (L.take i) ok (by simp; omega)
    rw [hT] at this
    simpa [List.length_take,Nat.min_eq_left (show i ≤ L.length by omega)] using this
  by_cases hi : i < L.length
  · refine s_lt_t (by omega) (pC_true (s_nth (Sep.src hS' 0 rfl) hi fun v20 => ?_))
    have hns : L[i].size ≤ 9223372036854775807 := by have := hsm _ (List.getElem_mem hi); omega
    refine sd_remove hS' 1 rfl okT hns fun w3 h3 => ?_
    replace h3 : Sep (SrcA 1 sv L.length (L.map .string) :: Dk D (T.remove L[i]).2 :: l) w3 := h3
    have hstep : AD.removeAll (L.take (i + 1)) S = T.remove L[i] := by
      rw [List.take_succ_eq_append_getElem hi,removeAll_app,hT,andE_f rfl]
      unfold AD.removeAll andE AD.removeAll
      split
      · rfl
      · rename_i h; simp at h; rw [← h]
    by_cases hz : (T.remove L[i]).1 = 0
    · refine s_nei_f hz (pC_false (s_add_in (by omega) ?_))
      refine ⟨m - 1,by omega,i + 1,(T.remove L[i]).2,by omega,by rw [hstep]; exact Prod.ext hz rfl,h3,e0,e1,?_,e6,e16,e17,?_⟩
      · show i64 (T.remove L[i]).1 = i64 0
        rw [hz]
      · show i64 _ = i64 _; simp
    · refine s_nei_t hz (pC_true ?_)
      have hall : AD.removeAll L S = T.remove L[i] := by
        have e := congrArg (fun l => AD.removeAll l S) (List.take_append_drop (i + 1) L)
        rw [← e,removeAll_app,hstep,andE_t hz]
      rw [hall] at hk
      exact clean_sync h3 (okT.remove (by omega) _) hL e0 e1 rfl e6 hk
  · refine s_lt_f (by omega) (pC_false ?_)
    have hall : AD.removeAll L S = (0,T) := by rw [← hT,List.take_of_length_le (by omega)]
    rw [hall] at hk
    exact clean_sync hS' okT hL e0 e1 e5 e6 hk
end
section
variable {w:World} {k:KV} {l:List Asrt} {name op:ByteArray} {v:Value} {e:Int}
theorem idGuard : P.eqGuardType P.depth 44 = false := by kernel_rfl
theorem s_eqid {x y:Operand} {a b:List UInt8} (ha:a.length = 32) (hb:b.length = 32) (hk:k (.bool (a == b)) w) : px P (binSem .eql 44 x y (.agg (u8s a).toArray) (.agg (u8s b).toArray)) w k := by
 refine px_ok (w' := w) (v := .bool (a == b)) ?_ hk
 have h := run_eql_bytes (P := P) w 44 5 32 underlying44 underlying5 (fun w => sizeOf5 w) a b ha hb
 unfold binSem
 simp only [Sem.run_bind,run_eqGuard_agg w .eql 44 x y _ _ idGuard,Result.andThen]
 exact h
theorem build_id (w:World) : (Instr.build 44 #[]).run P w = .ok (.agg (u8s zeroId).toArray) w := by kernel_rfl
theorem zeroId_len : zeroId.length = 32 := rfl
theorem sd_says (hS:Sep l w) (hg:ErrT w) (i:Nat) (hi:l[i]? = some (ErrA v op name e)) (hs:op.size ≤ 1000) (hk:∀ w',Fr no w w' → k (.bool true) w') : pFn P 49 [v,.string op,.string name,i64 e] w k := by
 refine F49_in _ _ _ _ _ _ ?_
 unfold F49_0
 obtain ⟨O,I,h,_⟩ := hS.get i hi
 rcases h with ⟨rfl,rfl,_⟩ | ⟨he,b,rfl,hb,_⟩
 ·exact s_eqi_t rfl (pC_true (s_eqnn (hk w (Fr.refl _ _))))
 ·refine s_eqi_f he (pC_false (s_alloc (zeroValue73 _) ?_))
  have a1 := alloc_new w (.cells #[.pointer none] 73)
  have f1 := Fr.alloc no w (.cells #[.pointer none] 73)
  show px P _ (w.alloc (.cells #[.pointer none] 73)) _
  generalize w.alloc (.cells #[.pointer none] 73) = w1 at *
  have hb1 := hb.fr f1 fun h => h
  have hbw : b ≠ w.heap.size := by have := lt_of_get hb.h; omega
  refine s_nein (pG_yes rfl (pG_yes rfl (s_mki (by kernel_rfl) (pG_yes rfl ?_))))
  refine c_errAs true (E := .fault b (.no e)) (tb := w.heap.size) (hg.fr f1 fun h => h) hb1.in_ a1 (fun x w2 hx f2 h2 => ?_) fun w2 hx f2 => by simp [EV.first] at hx
  simp only [EV.first,if_true,Option.some.injEq] at hx
  subst hx
  have f2' : Fr no w w2 := f1.trans f2 fun b hb => .inr (by omega)
  have hb2 := hb.fr f2' fun h => h
  have ldF : ∀ {kk:KV},kk (ptr b) w2 → px P (Instr.loadAt 73 (ptr w.heap.size)) w2 kk := fun h => s_ldb (v := ptr b) (isAgg73 _) h2 rfl h
  refine s_pick_t (pG_yes rfl (ldF (pG_yes rfl (s_nepn upt73 (s_pick_t ?_)))))
  refine pG_yes rfl (ldF (pG_yes rfl (s_nil (pG_yes rfl (fa77_0 (pG_yes rfl (s_ldb (v := .string (fopB ++ op)) (isAgg9 _) hb2.h rfl (pG_yes rfl (pG_yes rfl (s_addS (by show 5 + _ ≤ _; omega) (pG_yes rfl (s_eqs ?_))))))))))))
  rw [decide_eq_true (show (fopB ++ op : ByteArray) = ByteArray.mk #[102,105,108,101,46] ++ op from rfl)]
  refine s_pick_t (pG_yes rfl (ldF (pG_yes rfl (s_nil (pG_yes rfl (fa77_1 (pG_yes rfl (s_ldb (v := .string name) (isAgg9 _) hb2.h rfl (pG_yes rfl (pG_yes rfl (s_eqs ?_)))))))))))
  rw [decide_eq_true rfl]
  refine s_pick_t (pG_yes rfl (ldF (pG_yes rfl (s_nil (pG_yes rfl (fa77_2 (pG_yes rfl (s_ldAgg (m := 32) (isAgg44 _) (sizeOf44 _) hb2.h (by simp [faultCells,zeroId,u8s]) ?_))))))))
  refine pG_yes rfl (px_ok (build_id _) (pG_yes rfl (s_eqid (a := zeroId) zeroId_len zeroId_len ?_)))
  rw [show (zeroId == zeroId) = true from rfl]
  refine s_pick_t (pG_yes rfl (pG_yes rfl (pG_yes rfl (s_mki (by kernel_rfl) (pG_yes rfl ?_)))))
  refine c_errIs (E := .fault b (.no e)) (T := .no e) hb2.in_ trivial ?_
  rw [show (EV.fault b (.no e)).has (.no e) = true by simp [EV.has,EV.links,EV.eqv]]
  refine s_pick_t (pG_yes rfl (pG_yes rfl ?_))
  refine c_code (E := .fault b (.no e)) (hg.fr f2' fun h => h) hb2.in_ fun w3 f3 => ?_
  refine pG_yes rfl (pG_yes rfl (s_eqi_t rfl (s_pick_t (hk w3 (f2'.trans f3 fun b hb => hb.elim)))))
end
def J0 : AD := AD.new 50
def J1 : AD := (J0.putF nA [120,121]).2
def J2 : AD := (J1.getF nA).2.2
def J3 : AD := (J2.getF nB).2.2
theorem J_res : (J0.putF nA [120,121]).1 = 0 ∧ (J1.getF nA).1 = 0 ∧ (J1.getF nA).2.1 = [120,121] ∧ (J2.getF nB).1 = 53 ∧ J3.strokes = 5 ∧ J3.room = 50 := by
 refine ⟨?_,?_,?_,?_,?_,?_⟩ <;> kernel_rfl
section
variable {w:World} {k:KV} {D c:Nat} {S:AD} {l:List Asrt} {name op:ByteArray} {v:Value}
theorem errA_nil (hS:Sep l w) (i:Nat) (hi:l[i]? = some (ErrA v op name 0)) : v = .nilIface := by
 obtain ⟨O,I,h,_⟩ := hS.get i hi
 rcases h with ⟨_,h,_⟩ | ⟨h,_⟩
 ·exact h
 ·exact absurd rfl h
theorem sd_strokes (hS:Sep l w) (i:Nat) (hi:l[i]? = some (Dk D S)) (ok:S.Ok c) (hk:k (i64 S.strokes) w) : pFn P 56 [ptr D] w k := by
 obtain ⟨O,I,L,hd,nx⟩ := Sep.disk hS i hi
 exact c_strokes hd.disk ok.room.1 hk
theorem sd_new {room:Int} (hS:Sep l w) (hb:¬ (1 ≤ room ∧ room ≤ 1048576) → k (.tuple #[.pointer none,i64 1]) w) (hk:1 ≤ room ∧ room ≤ 1048576 → ∀ w' D,Sep (Dk D (AD.new room) :: l) w' → k (.tuple #[ptr D,i64 0]) w') : pFn P 17 [i64 room] w k := by
 refine c_new hb fun hr w' L h f => hk hr w' _ ?_
 exact hS.new f (fun b hb => hb.elim) ⟨L,h⟩ (fun b hb => hb.1) fun b hb => hb.elim
theorem c_known6 (hg:ErrT w) (hk:∀ w',Fr no w w' → k (.bool true) w') : pFn P 18 [] w k := by
 refine F18_in _ _ ?_
 unfold F18_0
 obtain ⟨r1,r2,r3,r4,r5,r6⟩ := J_res
 have ok0 : J0.Ok 0 := AD.Ok.new (by decide)
 have ok1 : J1.Ok 8 := ok_putF ok0 (by decide) nA _
 have ok2 : J2.Ok 9 := ok_getF ok1 (by decide) nA
 have ok3 : J3.Ok 10 := ok_getF ok2 (by decide) nB
 have hsA : nA.size ≤ 9223372036854775807 := by decide
 have hsB : nB.size ≤ 9223372036854775807 := by decide
 refine sd_new (Sep.base w) (fun h => absurd (by decide) h) fun _ w1 D h1 => ?_
 refine s_ext rfl (s_ext rfl (s_nei_f rfl (pG_yes rfl (pG_yes rfl ?_))))
 refine s_eqpn upt24 (s_pick_f (pG_yes rfl (pG_yes rfl ?_)))
 refine px_ok (w' := w1.alloc (.cells (u8s [120,121]).toArray 5)) (v := .slice (some ⟨w1.heap.size,0,none⟩) 2 2) (by kernel_rfl) (pG_yes rfl ?_)
 refine px_ok (Lib.run_convert_bytes_const w1 23 5 (u8s [120,121]).toArray _ _ (by kernel_rfl) (by kernel_rfl)) (pG_yes rfl ?_)
 have f2 : Fr no w1 (w1.alloc (.cells (u8s [120,121]).toArray 5 ((u8s [120,121]).toArray.size,(u8s [120,121]).toArray.size + 1))) := Fr.alloc ..
 have h2 : Sep (BytesA (.slice (some ⟨w1.heap.size,0,none⟩) 2 2) [120,121] :: Dk D (AD.new 50) :: [Base w]) (w1.alloc (.cells (u8s [120,121]).toArray 5 ((u8s [120,121]).toArray.size,(u8s [120,121]).toArray.size + 1))) :=
  h1.new (M := no) (O' := fun _ => False) (I' := fun b => b = w1.heap.size) f2 (fun b hb => hb.elim) ⟨SBytes.blk (alloc_new _ _) (Nat.le_refl _),fun _ b hb => by injection hb with hb; exact hb.symm,fun _ h => h,fun b hb => by rw [hb]; simp⟩ (fun _ h => h.elim) fun b hb => by omega
 generalize w1.alloc (.cells (u8s [120,121]).toArray 5 ((u8s [120,121]).toArray.size,(u8s [120,121]).toArray.size + 1)) = w2 at *
 have h2' : Sep (Dk D J0 :: BytesA (.slice (some ⟨w1.heap.size,0,none⟩) 2 2) [120,121] :: [Base w]) w2 := sep_mv [1] 0 h2 rfl
 refine c_fPut (S := J0) (d := [120,121]) (name := nA) (holds_bytes _ _) h2' ok0 (by decide) hsA (by decide) fun w3 v3 h3 => ?_
 rw [r1] at h3
 have e3 := errA_nil h3 0 rfl
 subst e3
 replace h3 : Sep (Dk D J1 :: [Base w]) w3 := sep_mv [2,1] 2 h3 rfl
 refine pG_yes rfl (s_nenn (s_pick_f (pC_false ?_)))
 refine c_fGet (name := nA) h3 ok1 hsA fun w4 v4 e4 h4 => ?_
 rw [r2,r3] at h4
 have e4' := errA_nil h4 0 rfl
 subst e4'
 replace h4 : Sep (Dk D J2 :: BytesA v4 [120,121] :: [Base w]) w4 := sep_mv [1] 0 h4.drop rfl
 refine s_ext rfl (s_ext rfl ?_)
 refine c_fGet (name := nB) h4 ok2 hsB fun w5 v5 e5 h5 => ?_
 rw [r4] at h5
 replace h5 : Sep (ErrA e5 getB nB 53 :: Dk D J3 :: BytesA v4 [120,121] :: [Base w]) w5 := sep_mv [1] 1 h5 rfl
 have hg5 : ErrT w5 := hg.fr (h5.base_at 3 rfl) fun h => h
 refine s_ext rfl (s_ext rfl (s_eqnn (pG_yes rfl (pG_yes rfl (s_conv_str (Sep.bytes h5 2 rfl) (by decide) (pG_yes rfl (s_eqs ?_)))))))
 rw [show decide ((⟨([120,121] : List UInt8).toArray⟩ : ByteArray) = ByteArray.mk #[120,121]) = true from by decide]
 refine s_pick_t (pG_yes rfl (pG_yes rfl (sd_strokes h5 1 rfl ok3 ?_)))
 rw [r5]
 refine pG_yes rfl (s_eqi_t rfl (s_pick_t (pG_yes rfl (pG_yes rfl ?_))))
 refine sd_says (op := getB) h5 hg5 0 rfl (by decide) fun w6 f6 => s_pick_t (hk w6 ?_)
 exact (h5.base_at 3 rfl).trans f6 fun b hb => hb.elim
end
end Go.Proofs.YteeeggphkhimcaaGreatDoor

namespace Go.Proofs.YteeeggphkhimcaaGreatDoor
open Go Go.Proofs Go.RowKit Go.Proofs.XRed Go.Proofs.XHeap Go.Proofs.XMaps Go.Proofs.XSlices Go.Proofs.XDisk Go.Proofs.XCalls Tryz
section
variable {w:World} {p:Option Addr} {k:KV}
end
open Go.Proofs.XSep
section
variable {w:World} {k:KV} {l:List Asrt} {name:ByteArray} {p:Option Addr} {dv:Value}
end
section
variable {w W:World} {k:KV} {l:List Asrt} {name:ByteArray} {p:Option Addr} {dv:Value}
end
section
variable {w w0:World} {D:Nat} {S S':AD} {O I:Nat → Prop} {L L':RLay} {k:KV}
end
section
variable {w w0:World} {D:Nat} {S S':AD} {O I:Nat → Prop} {L L':RLay} {k:KV}
end
section
variable {w w0:World} {D:Nat} {S S':AD} {O I:Nat → Prop} {L L':RLay} {k:KV}
end
section
variable {w:World} {k:KV} {E c:Nat} {S:AD} {l:List Asrt} {name:ByteArray} {dv:Value} {d:Bytes}
end
section
variable {w:World} {k:KV} {W:World} {xb Pb D E c:Nat} {x:StepA} {dv pv:Value} {S T:AD} {l:List Asrt}
theorem holds_base {W:World} {dv:Value} {d:Bytes} (h:SBytes W dv d) : Holds (Base W) dv d := fun w O I ⟨h1,h2,h3⟩ =>
 ⟨h.fr h1 fun _ _ h => h,fun h0 b hb => .inr ((h3 b).2 (Src.lt (size := 1) h (by omega) h0 hb))⟩
theorem c_round6 {v:Value} {a n:Int} (hv:v = i64 a) (h0:0 < n) (h1:n ≤ 4611686018427387904) (hk:k (i64 (a.emod n)) w) : pFn P 52 [v,i64 n] w k := by
 subst hv
 refine F52_in _ _ _ _ ?_
 unfold F52_0
 have e : (if a.tmod n < 0 then a.tmod n + n else a.tmod n) = a.emod n := by
  have := Int.tmod_eq_emod (a := a) (b := n)
  have hp := Int.emod_nonneg a (show n ≠ 0 by omega)
  have hl := Int.emod_lt_of_pos a h0
  have hz : (n.natAbs : Int) = n := by omega
  by_cases h : 0 ≤ a ∨ n ∣ a
  ·rw [if_pos h] at this
   rw [if_neg (by simp only [Int.natCast_zero] at this; omega)]; show _ = a % n; simp only [Int.natCast_zero] at this; omega
  ·rw [if_neg h] at this
   have : a % n ≠ 0 := fun h' => h (.inr (Int.dvd_of_emod_eq_zero h'))
   rw [if_pos (by omega)]; show _ = a % n; omega
 have hlt : -n ≤ a.tmod n ∧ a.tmod n < n := by
  have := Int.emod_nonneg a (show n ≠ 0 by omega)
  have hl := Int.emod_lt_of_pos a h0
  have e' : (if a.tmod n < 0 then a.tmod n + n else a.tmod n) = a % n := e
  split at e' <;> omega
 refine s_rem (by omega) (s_lt ?_)
 by_cases h : a.tmod n < 0
 ·rw [if_pos h] at e
  rw [decide_eq_true h]
  refine pC_true (s_add_in (by omega) ?_)
  rw [F52_1_eq]
  unfold F52_1
  show k (i64 (a.tmod n + n)) w
  rw [e]; exact hk
 ·rw [if_neg h] at e
  rw [decide_eq_false h]
  refine pC_false ?_
  rw [F52_1_eq]
  unfold F52_1
  show k (i64 (a.tmod n)) w
  rw [e]; exact hk
theorem shownMax {c:Nat} {S:AD} (ok:S.Ok c) : ∀ p ∈ S.shown,p.1.size ≤ maxLen := fun p hp => by have := ok.shownNames p hp; unfold maxLen; omega
end
end Go.Proofs.YteeeggphkhimcaaGreatDoor
