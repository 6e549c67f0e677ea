/- Put together by a program (wip/tools/shake.py): Nothing7. -/
import Derived.Test.YteeeggphkhimcaaGreatDoorA12
set_option linter.unusedVariables false
set_option linter.unusedSimpArgs false
set_option maxRecDepth 100000
namespace Go.Proofs.YteeeggphkhimcaaGreatDoor
open Go Go.Proofs Go.RowKit Go.Proofs.XRed Go.Proofs.XHeap Go.Proofs.XMaps Go.Proofs.XSlices Go.Proofs.XDisk Go.Proofs.XCalls Go.Proofs.XSep Tryz
section
variable {w W:World} {k:KV} {l:List Asrt} {name:ByteArray} {p:Option Addr} {dv:Value}
theorem r_lays (hk:k (.bool (lays name)) w) : pFn P 47 [.string name] w k := by
 refine F47_in _ _ _ ?_
 unfold F47_0
 refine r_isName name ?_
 cases hn : isName name with
 | false =>
  have : lays name = false := by
   cases hl : lays name with
   | false => rfl
   | true => rw [(lays_name hl).1] at hn; cases hn
  rw [this] at hk
  exact pG_sk (pG_sk (pG_sk (s_pick_f (pG_sk (pG_sk (pG_sk (s_pick_f hk)))))))
 | true =>
  refine pG_yes rfl (pG_yes rfl (s_lens (by kernel_rfl) (pG_yes rfl (s_lt (s_pick_t ?_)))))
  have hsz := isName_small hn
  have hpos : 0 < name.size := by unfold isName at hn; simp only [Bool.and_eq_true,decide_eq_true_eq] at hn; omega
  have hall : name.data.toList.all okByte = true := by unfold isName at hn; simp only [Bool.and_eq_true] at hn; exact hn.1.1
  by_cases h112 : (name.size : Int) < 112
  ·rw [decide_eq_true h112]
   refine pG_yes rfl (pG_yes rfl (s_ixs (by kernel_rfl) hpos (pG_yes rfl (s_nei ?_))))
   have hd := head_at name hpos
   have hl : lays name = (((name[0]'hpos).toNat : Int) != 43) := by
    unfold lays
    rw [hall,decide_eq_true (show 1 ≤ name.size by omega),decide_eq_true (show name.size ≤ 111 by omega)]
    simp only [Bool.true_and]
    by_cases h : ((name[0]'hpos).toNat : Int) = 43
    ·rw [decide_eq_false (fun h' => h' (hd.2 h))]; simp [h]
    ·rw [decide_eq_true (show name.data.toList.head? ≠ some 43 from fun h' => h (hd.1 h'))]; simp [h]
   rw [hl] at hk
   exact s_pick_t hk
  ·rw [decide_eq_false h112]
   have : lays name = false := by unfold lays; rw [decide_eq_false (show ¬ name.size ≤ 111 by omega)]; simp
   rw [this] at hk
   exact pG_sk (pG_sk (pG_sk (s_pick_f hk)))
theorem s_lt2 {t:TypeId} {x y:Operand} {i:Nat} (hk:k (.bool (decide (i < 2))) w) : px P (binSem .lss t x y (i64 i) (i64 2)) w k := by
 refine s_lt ?_
 rw [show decide ((i:Int) < 2) = decide (i < 2) from decide_eq_decide.2 ⟨fun h => by omega,fun h => by omega⟩]; exact hk
theorem w_fileNothing (hg:ErrT W) (hs0:name.size ≤ 9223372036854775807) {dd:Bytes} (_:SBytes W dv dd) (hk:∀ w',Fr no W w' → k (.bool true) w') : pFn P 11 [.string name,dv] W k := by
  have hs : name.size ≤ 9223372036854775807 := by omega
  refine F11_in _ _ _ _ ?_
  unfold F11_0
  refine c_known6 hg fun w1 f1 => s_not (pC_false ?_)
  refine px_ok (w' := w1) (v := zDisk) (by kernel_rfl) (s_boxQ fun w2 Z f2 g2 => ?_)
  refine px_ok (w' := w2.alloc (.cells #[.pointer none,ptr Z] 24)) (v := .slice (some ⟨w2.heap.size,0,none⟩) 2 2) (by unfold ptr; kernel_rfl) ?_
  have f3 := Fr.alloc no w2 (.cells #[.pointer none,ptr Z] 24)
  have g3 := alloc_new w2 (.cells #[.pointer none,ptr Z] 24)
  have fW : Fr no W (w2.alloc (.cells #[.pointer none,ptr Z] 24)) := (f1.trans f2 fun b hb => hb.elim).trans f3 fun b hb => hb.elim
  have hZ : NilD (w2.alloc (.cells #[.pointer none,ptr Z] 24)) (some ⟨Z,0,none⟩) := .inr ⟨Z,_,rfl,f3.get g2 id,rfl⟩
  show px P _ (w2.alloc (.cells #[.pointer none,ptr Z] 24)) _
  generalize w2.alloc (.cells #[.pointer none,ptr Z] 24) = w3 at *
  generalize w2.heap.size = q at *
  refine px_ok (w' := w3) (v := i64 2) (by kernel_rfl) ?_
  refine F11L1_inv (m := 2) k (fun m ρ w' => ∃ i : Nat,i + m = 2 ∧ Fr no w3 w' ∧ ρ 0 = .string name ∧ ρ 1 = dv ∧ ρ 16 = .slice (some ⟨q,0,none⟩) 2 2 ∧ ρ 17 = i64 2 ∧ ρ 18 = i64 i) ?_ ⟨0,rfl,Fr.refl _ _,rfl,rfl,rfl,rfl,rfl⟩
  rintro m ρ w' ⟨i,him,hf,e0,e1,e16,e17,e18⟩
  rw [F11_1_eq]
  unfold F11_1
  rw [e0,e16,e17,e18]
  refine s_lt2 ?_
  have fW' : Fr no W w' := fW.trans hf fun b hb => hb.elim
  have hg' : ErrT w' := hg.fr fW' fun h => h
  by_cases hi : i < 2
  · rw [decide_eq_true hi]
    refine pC_true ?_
    obtain ⟨p,hp,hcell⟩ : ∃ p : Option Addr,NilD w' p ∧ w'.cell? ⟨q,0 + i,none⟩ = some (.pointer p) := by
      have gq := hf.get g3 id
      have : i = 0 ∨ i = 1 := by omega
      rcases this with rfl | rfl
      · exact ⟨none,.inl rfl,cell_blk gq rfl⟩
      · exact ⟨some ⟨Z,0,none⟩,hZ.fr hf,cell_blk gq rfl⟩
    refine s_ix (i := (i:Int)) (sz := 1) (n := 2) (o := 0) (b := q) (usl89) (sze89 _) (by omega) (by omega) ?_
    rw [show ((i:Int).toNat * 1) = i by simp]
    refine s_ld (isAgg24 _) hcell ?_
    refine r_lays (s_not ?_)
    -- behind the two numbers
    have tail : ∀ {ρ:Env},ρ 0 = .string name → ρ 1 = dv → ρ 16 = .slice (some ⟨q,0,none⟩) 2 2 → ρ 17 = i64 2 → ρ 18 = i64 i → ρ 6 = .pointer p → ρ 7 = i64 50 → ρ 8 = i64 (nLays name) → ρ 9 = i64 (nName name) →
        F11A1 k (fun ρ' w' => ∃ m',m' < m ∧ ∃ i : Nat,i + m' = 2 ∧ Fr no w3 w' ∧ ρ' 0 = .string name ∧ ρ' 1 = dv ∧ ρ' 16 = .slice (some ⟨q,0,none⟩) 2 2 ∧ ρ' 17 = i64 2 ∧ ρ' 18 = i64 i) [1,1,0,0,1,1,1,1,1,1] ρ w' := by
      intro ρ e0 e1 e16 e17 e18 e6 e7 e8 e9
      rw [F11_4_eq]
      unfold F11_4
      rw [e0,e1,e6,e7,e8,e9,e18]
      refine n_fGet (Sep.base w') hp hs fun wa eg ha => s_ext rfl (s_ext rfl ?_)
      have hpa := hp.fr (ha.base_at 1 rfl)
      refine n_fPut ha hpa hs fun wb ep hb => ?_
      have hgb : ErrT wb := hg'.fr (hb.base_at 2 rfl) fun h => h
      refine sd_says (op := putB) hb hgb 0 rfl (by decide) fun wc fc => s_not (pG_yes rfl (pG_yes rfl (pG_yes rfl (pG_yes rfl ?_))))
      have hc := hb.q fc
      refine sd_says (op := getB) hc (hgb.fr fc fun h => h) 1 rfl (by decide) fun wd fd => pG_yes rfl (s_not (s_pick_f ?_))
      have hd := hc.q fd
      refine pG_yes rfl (pG_yes rfl (px_ok (w' := wd) (v := i64 0) (by kernel_rfl) (pG_yes rfl (s_nei_f rfl (s_pick_f (pG_yes rfl (pG_yes rfl (pG_yes rfl ?_))))))))
      refine n_fDrop hd (hp.fr (hd.base_at 2 rfl)) hs fun we ed he => pG_yes rfl (pG_yes rfl (pG_yes rfl ?_))
      have hge : ErrT we := hg'.fr (he.base_at 3 rfl) fun h => h
      refine sd_says (op := dropB) he hge 0 rfl (by decide) fun wf ff => pG_yes rfl (s_not (s_pick_f (pG_yes rfl (pG_yes rfl (pG_yes rfl ?_)))))
      have hf' := he.q ff
      refine n_fClean (name := name) hf' (hp.fr (hf'.base_at 3 rfl)) fun wg ec hG => pG_yes rfl (pG_yes rfl (pG_yes rfl ?_))
      have hgg : ErrT wg := hg'.fr (hG.base_at 4 rfl) fun h => h
      refine sd_says (op := cleanB) hG hgg 0 rfl (by decide) fun wh fh => pG_yes rfl (s_not (s_pick_f (pC_false ?_)))
      refine s_add_in (by omega) ?_
      exact ⟨m - 1,by omega,i + 1,by omega,hf.trans ((hG.base_at 4 rfl).trans fh fun b hb => hb.elim) fun b hb => hb.elim,e0,e1,e16,e17,by show i64 _ = i64 _; simp⟩
    have mid : ∀ {ρ:Env},ρ 0 = .string name → ρ 1 = dv → ρ 16 = .slice (some ⟨q,0,none⟩) 2 2 → ρ 17 = i64 2 → ρ 18 = i64 i → ρ 6 = .pointer p → ρ 7 = i64 50 → ρ 8 = i64 (nLays name) →
        F11A1 k (fun ρ' w' => ∃ m',m' < m ∧ ∃ i : Nat,i + m' = 2 ∧ Fr no w3 w' ∧ ρ' 0 = .string name ∧ ρ' 1 = dv ∧ ρ' 16 = .slice (some ⟨q,0,none⟩) 2 2 ∧ ρ' 17 = i64 2 ∧ ρ' 18 = i64 i) [1,1,0,0,1,1,1,1] ρ w' := by
      intro ρ e0 e1 e16 e17 e18 e6 e7 e8
      rw [F11_2_eq]
      unfold F11_2
      rw [e0,e7]
      refine r_isName name (s_not ?_)
      cases hn : isName name with
      | false => exact pC_true (tail e0 e1 e16 e17 e18 e6 e7 e8 (by show i64 51 = _; unfold nName; rw [hn]; rfl))
      | true => exact pC_false (tail e0 e1 e16 e17 e18 e6 e7 e8 (by show i64 50 = _; unfold nName; rw [hn]; rfl))
    cases hl : lays name with
    | false => exact pC_true (mid e0 e1 e16 e17 e18 rfl rfl (by show i64 51 = _; unfold nLays; rw [hl]; rfl))
    | true => exact pC_false (mid e0 e1 e16 e17 e18 rfl rfl (by show i64 50 = _; unfold nLays; rw [hl]; rfl))
  · rw [decide_eq_false hi]
    refine pC_false ?_
    rw [F11_3_eq]
    exact hk w' fW'
end
end Go.Proofs.YteeeggphkhimcaaGreatDoor
