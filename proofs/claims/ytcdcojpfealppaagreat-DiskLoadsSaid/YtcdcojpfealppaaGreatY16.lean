/- Put together by a program (wip/tools/shake.py): List,XPtr. -/
import Derived.Test.YtcdcojpfealppaaGreatY15
import Derived.Test.YtcdcojpfealppaaGreatY14
import Derived.Lib.SliceRun
import Derived.Test.YtcdcojpfealppaaGreatY2
import Derived.LaidEql
set_option linter.unusedVariables false
set_option linter.unusedSimpArgs false
set_option maxRecDepth 100000
namespace Go.Proofs.YtcdcojpfealppaaGreat
open Go Go.Proofs Go.RowKit Go.Proofs.XRed Go.Proofs.XHeap Go.Proofs.XMaps Go.Proofs.XSlices Go.Proofs.XDisk Go.Proofs.XCalls Go.Proofs.XRange Go.Proofs.XKeys Tryz
def hasP (p s:ByteArray) : Bool := decide (p.size ≤ s.size) && decide (s.extract 0 p.size = p)
def AD.listA (S:AD) (p:ByteArray) : List ByteArray := if S.off then [] else (S.shown.map (·.1)).filter (hasP p)
section
variable {w w0:World} {D:Nat} {S S':AD} {O I:Nat → Prop} {L:Lay} {k:KV}
theorem s_cutS {s:ByteArray} {n:Int} (h0:0 ≤ n) (h1:n ≤ s.size) (hk:k (.string (s.extract 0 n.toNat)) w) : px P (Instr.sliceAt 9 (.string s) none (some (i64 n)) none) w k :=
 px_ok ((run_sliceAt_string w 9 _ _ _ _ underlying9).trans (run_slice_string_h w 9 s underlying9 .i64 n h0 h1)) hk
theorem c_hasP (s p:ByteArray) (hk:k (.bool (hasP p s)) w) : pFn P 92 [.string s,.string p] w k := by
 refine F92_in _ _ _ _ ?_
 unfold F92_0
 refine F130_in _ _ _ _ ?_
 unfold F130_0
 refine s_lens underlying9 (s_lens underlying9 ?_)
 unfold hasP at hk
 by_cases h : p.size ≤ s.size
 ·rw [decide_eq_true h,Bool.true_and] at hk
  refine s_ge_t (by omega) (pG_yes rfl (pG_yes rfl (pG_yes rfl (s_lens underlying9 (pG_yes rfl (s_cutS (by omega) (by omega) (pG_yes rfl (pG_yes rfl (s_eqs (s_pick_t ?_)))))))))) 
  exact hk
 ·rw [decide_eq_false h,Bool.false_and] at hk
  refine s_ge_f (by omega) ?_
  repeat (first | refine pG_sk ?_ | refine pG_un ?_)
  exact s_pick_f hk
theorem c_del {pb:Nat} {p:ByteArray} (s:ByteArray) (hb:w.heap[pb]? = some (.cells #[.string p] 9 (0,0))) (hk:k (.bool (!hasP p s)) w) : pVal P (.func (.func 91) #[] #[ptr pb]) [.string s] w k := by
 show pFn P 91 [.string s,ptr pb] w k
 refine F91_in _ _ _ _ ?_
 unfold F91_0
 exact s_ldb (v := .string p) (isAgg9 _) hb rfl (c_hasP s p (s_not hk))
theorem c_indexFunc {pb:Nat} {p:ByteArray} {v:Value} {names:List ByteArray} (hv:Src w v 1 names.length (names.map .string)) (hb:w.heap[pb]? = some (.cells #[.string p] 9 (0,0))) (hl:names.length ≤ 4611686018427387904)
    (h0:(∀ s ∈ names,hasP p s = true) → k (i64 (-1)) w) (h1:∀ i (hi:i < names.length),(∀ s ∈ names.take i,hasP p s = true) → hasP p names[i] = false → k (i64 i) w) : pFn P 129 [v,.func (.func 91) #[] #[ptr pb]] w k := by
  refine F129_in _ _ _ _ ?_
  unfold F129_0
  refine s_lenS usl73 hv ?_
  refine F129L1_inv (m := names.length) k (fun m ρ w' => ∃ i : Nat,i + m = names.length ∧ w' = w ∧ ρ 0 = v ∧ ρ 1 = .func (.func 91) #[] #[ptr pb] ∧ ρ 7 = i64 names.length ∧ ρ 8 = i64 i ∧ ∀ s ∈ names.take i,hasP p s = true) ?_
    ⟨0,by omega,rfl,rfl,rfl,rfl,rfl,fun s hs => by simp at hs⟩
  rintro m ρ w' ⟨i,him,hw,e0,e1,e7,e8,hall⟩
  subst hw
  rw [F129_1_eq]
  unfold F129_1
  rw [e0,e1,e7,e8]
  by_cases hi : i < names.length
  · refine s_lt_t (by omega) (pC_true ?_)
    refine s_elem (u := .string names[i]) usl73 (sze73 _) (isAgg9 _) hv hi (by simp [hi]) fun _ => ?_
    refine c_del names[i] hb ?_
    cases hp : hasP p names[i] with
    | false => exact pC_true (h1 i hi hall hp)
    | true =>
      refine pC_false (s_add_in (by omega) ?_)
      refine ⟨m - 1,by omega,i + 1,by omega,rfl,e0,e1,e7,?_,fun s hs => ?_⟩
      · show i64 _ = i64 _; simp
      · rw [List.take_succ_eq_append_getElem hi] at hs
        rcases List.mem_append.1 hs with hs | hs
        · exact hall s hs
        · rw [List.mem_singleton] at hs; subst hs; exact hp
  · refine s_lt_f (by omega) (pC_false ?_)
    rw [F129_2_eq]
    refine h0 fun s hs => hall s ?_
    rw [List.take_of_length_le (by omega)]; exact hs
theorem setCells_fr (b:Nat) : ∀ (vs:List Value) (o:Nat) (w:World),Fr (fun x => x = b) w (w.setCells b o vs) ∧ (w.setCells b o vs).heap.size = w.heap.size
 | [],_,w => ⟨Fr.refl _ _,rfl⟩
 | v :: r,o,w => by
  obtain ⟨h1,h2⟩ := setCells_fr b r (o + 1) (w.setCell ⟨b,o,none⟩ v)
  have h3 : Fr (fun x => x = b) w (w.setCell ⟨b,o,none⟩ v) := Fr.setCell w ⟨b,o,none⟩ v
  exact ⟨h3.trans h1 fun i hi => .inl hi,by show ((w.setCell ⟨b,o,none⟩ v).setCells b (o + 1) r).heap.size = _; rw [h2]; simp [World.setCell]⟩
theorem c_deleteFunc {pb:Nat} {p:ByteArray} {v:Value} {names:List ByteArray} (hv:w.ownsRow 0 9 1 v names.length (names.map .string)) (hb:w.heap[pb]? = some (.cells #[.string p] 9 (0,0))) (hpb:sblk v ≠ some pb) (hl:names.length ≤ 1099511627776)
    (hk:∀ w' v',Src w' v' 1 (names.filter (hasP p)).length ((names.filter (hasP p)).map .string) → (∀ b,sblk v' = some b → sblk v = some b) → Fr (fun b => sblk v = some b) w w' → w'.heap.size = w.heap.size → k v' w') : pFn P 90 [v,.func (.func 91) #[] #[ptr pb]] w k := by
  refine F90_in _ _ _ _ ?_
  unfold F90_0
  refine c_indexFunc (Src.of_own hv) hb (by omega) (fun hall => ?_) fun i0 hi0 hall hno => ?_
  · refine s_eqi_t rfl (pC_true (hk w v ?_ (fun b h => h) (Fr.refl _ _) rfl))
    rw [List.filter_eq_self.2 hall]; exact Src.of_own hv
  · refine s_eqi_f (by omega) (pC_false (s_add_in (by omega) ?_))
    obtain ⟨g,cap,rfl⟩ : ∃ g cap,v = .slice (some ⟨g,0,none⟩) names.length cap := by
      rcases hv.2 with ⟨_,h0⟩ | ⟨g,cap,cur,e,_⟩
      · omega
      · exact ⟨g,cap,e⟩
    have hgp : g ≠ pb := fun e => hpb (by rw [e]; rfl)
    have hf0 : (names.take (i0 + 1)).filter (hasP p) = names.take i0 := by
      rw [List.take_succ_eq_append_getElem hi0,List.filter_append,List.filter_eq_self.2 hall]
      simp [hno]
    have hlen0 : (names.take i0).length = i0 := by simp; omega
    refine F90L1_inv (m := names.length - (i0 + 1)) k (fun m ρ w' => ∃ (i j:Nat) (xs:List Value),j + m = names.length ∧ i ≤ j ∧ i = ((names.take j).filter (hasP p)).length ∧ w'.ownsRow 0 9 1 (.slice (some ⟨g,0,none⟩) names.length cap) names.length xs ∧
        xs.take i = ((names.take j).filter (hasP p)).map .string ∧ xs.drop j = (names.drop j).map .string ∧ Fr (fun b => b = g) w w' ∧ w'.heap.size = w.heap.size ∧ ρ 0 = .slice (some ⟨g,0,none⟩) names.length cap ∧ ρ 1 = .func (.func 91) #[] #[ptr pb] ∧ ρ 5 = i64 i ∧ ρ 6 = i64 j) ?_
      ⟨i0,i0 + 1,names.map .string,by omega,by omega,by rw [hf0,hlen0],hv,by rw [hf0,List.map_take],by rw [List.map_drop],Fr.refl _ _,rfl,rfl,rfl,rfl,by show i64 _ = i64 _; simp⟩
    rintro m ρ w' ⟨i,j,xs,hjm,hij,hi,hrow,htake,hdrop,hf,hz,e0,e1,e5,e6⟩
    rw [F90_1_eq]
    unfold F90_1
    rw [e0,e1,e5,e6]
    have hS := Src.of_own hrow
    refine s_len usl73 ?_
    have hxl : xs.length = names.length := by have := hrow.1; simpa using this
    by_cases hj : j < names.length
    · refine s_lt_t (by omega) (pC_true ?_)
      have hxj : xs[j]? = some (.string names[j]) := by
        have h1 : (xs.drop j)[0]? = ((names.drop j).map Value.string)[0]? := by rw [hdrop]
        rw [List.getElem?_drop] at h1
        simpa [hj] using h1
      refine s_elem usl73 (sze73 _) (isAgg9 _) hS hj hxj fun _ => ?_
      refine c_del names[j] (hf.get hb fun e => hgp (show pb = g from e).symm) ?_
      have hft : (names.take (j + 1)).filter (hasP p) = (names.take j).filter (hasP p) ++ (if hasP p names[j] then [names[j]] else []) := by
        rw [List.take_succ_eq_append_getElem hj,List.filter_append]
        congr 1
        cases hq : hasP p names[j] <;> simp [hq]
      cases hp : hasP p names[j] with
      | true =>
        rw [hp] at hft
        simp only [if_true] at hft
        refine s_not (pC_true ?_)
        refine s_ix (i := (i:Int)) usl73 (sze73 _) (by omega) (by omega) ?_
        obtain ⟨g',cap',cur,e',_,hg,_,_,hcs,_⟩ := hrow.2.resolve_left (by rintro ⟨h,_⟩; cases h)
        simp only [Value.slice.injEq,Option.some.injEq,Addr.mk.injEq,and_true,true_and] at e'
        obtain ⟨rfl,rfl⟩ := e'
        have hcap : names.length ≤ cap := by obtain ⟨A,c,e,hc,_⟩ := hS; injection e
        have ei : 0 + (i:Int).toNat * 1 = i := by simp
        rw [ei]
        refine s_st (sizeOf9 _) rfl rfl hg (by omega) ?_
        obtain ⟨hrow2,hgr⟩ := hrow.stored i (.string names[j])
        have f2 : Fr (fun b => b = g) w' (w'.setCell ⟨g,i,none⟩ (.string names[j])) := Fr.setCell w' ⟨g,i,none⟩ _
        have z2 : (w'.setCell ⟨g,i,none⟩ (.string names[j])).heap.size = w'.heap.size := by simp [World.setCell]
        refine s_add_in (by omega) ?_
        rw [F90_2_eq]
        unfold F90_2
        show px P (binSem BinOp.add 3 (Operand.tmp 20) (Operand.const (Value.int IntKind.i64 1)) (ρ 6) (Value.int IntKind.i64 1)) _ _
        rw [e6]
        refine s_add_in (by omega) ?_
        refine ⟨m - 1,by omega,i + 1,j + 1,xs.set i (.string names[j]),by omega,by omega,by rw [hft]; simp [hi],hrow2,?_,?_,(hf.or f2).mono (by rintro b (hb | hb) <;> exact .inl hb),by omega,e0,e1,?_,?_⟩
        · rw [hft,List.map_append,← htake]
          have hix : i < xs.length := by omega
          rw [List.take_succ_eq_append_getElem (by simpa using hix)]
          simp [List.take_set_of_le]
        · rw [List.drop_set_of_lt (by omega),← List.drop_drop,hdrop,← List.map_drop,List.drop_drop]
        · show i64 _ = i64 _; simp
        · show i64 _ = i64 _; simp
      | false =>
        rw [hp] at hft
        simp only [Bool.false_eq_true,if_false,List.append_nil] at hft
        refine s_not (pC_false ?_)
        rw [F90_2_eq]
        unfold F90_2
        show px P (binSem BinOp.add 3 (Operand.tmp 20) (Operand.const (Value.int IntKind.i64 1)) (ρ 6) (Value.int IntKind.i64 1)) _ _
        rw [e6]
        refine s_add_in (by omega) ?_
        refine ⟨m - 1,by omega,i,j + 1,xs,by omega,by omega,by rw [hft]; exact hi,hrow,by rw [hft]; exact htake,?_,hf,hz,e0,e1,e5,?_⟩
        · rw [← List.drop_drop,hdrop,← List.map_drop,List.drop_drop]
        · show i64 _ = i64 _; simp
    · refine s_lt_f (by omega) (pC_false ?_)
      rw [F90_3_eq]
      unfold F90_3
      show px P (Instr.sliceAt 73 (ρ 0) (some (ρ 5)) none none) w' _
      rw [e0,e5]
      have hjn : j = names.length := by omega
      subst hjn
      rw [List.take_of_length_le (Nat.le_refl _)] at hi htake
      have hcap : names.length ≤ cap := by obtain ⟨A,c,e,hc,_⟩ := hS; injection e with _ _ e3; omega
      refine s_sl_l usl73 (sze73 _) (by omega) (by omega) ?_
      have hilt : i < names.length := by
        have h1 : ((names.filter (hasP p)).length) < names.length := by
          rcases Nat.lt_or_ge (names.filter (hasP p)).length names.length with h' | h'
          · exact h'
          · have e := List.Sublist.eq_of_length (List.filter_sublist (l := names) (p := hasP p)) (Nat.le_antisymm (List.length_filter_le _ _) h')
            have := List.filter_eq_self.1 e _ (List.getElem_mem hi0)
            rw [hno] at this; cases this
        omega
      have hne : ¬ cap = (i:Int).toNat := by omega
      have esl : sliced (some ⟨g,0,none⟩) (i:Int).toNat names.length cap 1 = .slice (some ⟨g,i,none⟩) (names.length - i) (cap - i) := by
        unfold sliced
        rw [if_neg hne]
        simp [add_at]
      rw [esl]
      refine px_ok (Lib.run_clear_slice w' 73 9 0 (.string (ByteArray.mk #[])) underlying73 zeroValue9 rfl rfl g i (names.length - i) (cap - i) (by omega) (fun q hq => ?_) fun q hq => hrow.frozenAt _) ?_
      · rw [hrow.cellAt (i + q) (by omega)]
        simp; omega
      · obtain ⟨f3,z3⟩ := setCells_fr g (List.replicate (names.length - i) (.string (ByteArray.mk #[]))) i w'
        have hcell : ∀ q u,(xs.take i)[q]? = some u → (w'.setCells g i (List.replicate (names.length - i) (.string (ByteArray.mk #[])))).cell? ⟨g,q,none⟩ = some u := by
          intro q u hq
          have hql : q < i := by have := (List.getElem?_eq_some_iff.1 hq).1; simp at this; omega
          rw [World.cell?_setCells_out g _ i w' ⟨g,q,none⟩ fun _ _ => .inl hql,hrow.cellAt q (by omega)]
          rwa [List.getElem?_take_of_lt hql] at hq
        generalize w'.setCells g i (List.replicate (names.length - i) (.string (ByteArray.mk #[]))) = w3 at *
        show px P (Instr.sliceAt 73 (ρ 0) none (some (ρ 5)) none) w3 _
        rw [e0,e5]
        refine s_sl_h usl73 (sze73 _) (by omega) (by omega) (hk w3 _ ?_ (fun b h => h) ?_ (by omega))
        · rw [← hi]
          refine ⟨some ⟨g,0,none⟩,cap,by simp,by omega,by simp [hi],fun _ => ⟨g,0,rfl,fun q u hq => ?_⟩⟩
          rw [Nat.zero_add]
          exact hcell q u (by rw [htake]; exact hq)
        · refine (hf.or f3).mono ?_
          rintro b (hb' | hb')
          · exact .inl (by rw [show b = g from hb']; rfl)
          · exact .inl (by rw [show b = g from hb']; rfl)
theorem c_list {c:Nat} (h:DRep w D S O I L) (ok:S.Ok c) (p:ByteArray) (hk:∀ w' v,Src w' v 1 (AD.listA S p).length ((AD.listA S p).map .string) → (∀ b,sblk v = some b → w.heap.size ≤ b ∧ b < w'.heap.size) → Fr no w w' → k v w') : pFn P 30 [ptr D,.string p] w k := by
 refine F30_in _ _ _ _ ?_
 unfold F30_0
 refine s_box ?_
 have f1 := Fr.alloc no w (.cells #[.string p] 9)
 have b1 := alloc_new w (.cells #[.string p] 9)
 have z1 : (w.alloc (.cells #[.string p] 9)).heap.size = w.heap.size + 1 := by simp
 show pFn P _ _ (w.alloc (.cells #[.string p] 9)) _
 generalize w.alloc (.cells #[.string p] 9) = w1 at *
 have h1 := h.fr f1 fun b hb => hb.elim
 refine c_off h1.disk ok.room.1 ?_
 unfold AD.listA at hk
 cases ho : S.off with
 | true =>
  rw [ho] at hk
  exact pC_true (hk w1 _ (Src.nil _ _) (fun b hb => by cases hb) f1)
 | false =>
  rw [ho] at hk
  simp only [Bool.false_eq_true,if_false] at hk
  refine pC_false (s_nil (fa58_1 (s_ldb (v := .map (some L.sh)) (isAgg54 _) h1.disk rfl ?_)))
  have hlen := ok.turns.len.1
  refine c_sorted sortsKeys h1.sh h1.shp ok.shown (fun q hq => by have := ok.shownNames q hq; unfold maxLen; omega) (by omega) fun w2 v hv hvb f2 => ?_
  refine s_mkf ?_
  have e1 : nameVals S.shown = (S.shown.map (·.1)).map .string := by unfold nameVals; rw [List.map_map]; rfl
  have e2 : S.shown.length = (S.shown.map (·.1)).length := by simp
  rw [e1,e2] at hv
  refine c_deleteFunc hv (f2.get b1 id) (fun e => by have := hvb _ e; omega) (by rw [← e2]; omega) fun w3 v' hS hb3 f3 z3 => ?_
  refine hk w3 v' hS (fun b hb => ?_) ((f1.or f2).or f3 |>.mono ?_)
  ·have h5 := hb3 b hb
   have h6 := hvb b h5
   have h7 := (own_blk_lt hv h5).2
   omega
  ·rintro b ((hb | hb) | hb)
   ·exact hb.elim
   ·exact hb.elim
   ·have := hvb b hb; right; omega
end
end Go.Proofs.YtcdcojpfealppaaGreat

namespace Go.Proofs.XPtr
open Go Go.RowKit Go.Proofs.XRed Go.Proofs.XHeap Go.Proofs.XMaps Go.MapKept
def ptrV (b:Nat) : Value := .pointer (some ⟨b,0,none⟩)
theorem ptrV_inj {a b:Nat} (h:ptrV a = ptrV b) : a = b := by injection h with h; injection h with h; injection h
def PMap (w:World) (m:Nat) (l:List (Nat × Nat)) : Prop :=
 ∃ es clock,w.heap[m]? = some (.map es clock) ∧ Stamped es clock ∧ es.toList.map (fun e => (e.key,e.val)) = l.map fun p => (ptrV p.1,ptrV p.2)
theorem PMap.fr {O:Nat → Prop} {w w':World} {m:Nat} {l:List (Nat × Nat)} (h:PMap w m l) (hf:Fr O w w') (hn:¬ O m) : PMap w' m l := by
 obtain ⟨es,clock,hb,hs,hl⟩ := h; exact ⟨es,clock,hf.get hb hn,hs,hl⟩
def pGet (l:List (Nat × Nat)) (b:Nat) : Option Nat := (l.find? fun p => decide (p.1 = b)).map (·.2)
theorem pGet_none {l:List (Nat × Nat)} {b:Nat} : pGet l b = none ↔ ∀ p ∈ l,p.1 ≠ b := by
 unfold pGet
 simp [List.find?_eq_none]
theorem pGet_mem {l:List (Nat × Nat)} {b v:Nat} (h:pGet l b = some v) : (b,v) ∈ l := by
 unfold pGet at h
 obtain ⟨p,hp,rfl⟩ := Option.map_eq_some_iff.1 h
 have h1 := List.mem_of_find?_eq_some hp
 have h2 := List.find?_some hp
 simp only [decide_eq_true_eq] at h2
 subst h2; exact h1
theorem pGet_push {l:List (Nat × Nat)} {b c v:Nat} (h:pGet l b = none) : pGet (l ++ [(b,v)]) c = if c = b then some v else pGet l c := by
 unfold pGet at *
 rw [List.find?_append]
 by_cases e : c = b
 ·subst e
  rw [if_pos rfl]
  have : l.find? (fun p => decide (p.1 = c)) = none := by simpa using h
  rw [this]; simp
 ·rw [if_neg e]
  cases l.find? (fun p => decide (p.1 = c)) with
  | some q => simp
  | none => simp [Ne.symm e]
def Blk (w:World) (b:Nat) : Prop := ∃ cs T,w.heap[b]? = some (.cells cs T (0,0))
theorem Blk.fr {O:Nat → Prop} {w w':World} {b:Nat} (h:Blk w b) (hf:Fr O w w') (hn:¬ O b) : Blk w' b := by
 obtain ⟨cs,T,h⟩ := h; exact ⟨cs,T,hf.get h hn⟩
section
variable {P:Program} {w:World} {m:Nat} {l:List (Nat × Nat)} {t kt et:TypeId}
theorem run_equal_ptr {a b:Nat} (hk:P.underlying kt = some (.pointer et)) {sz:Nat} (hs:(sizeOf et).run P w = .ok sz w) (h0:sz ≠ 0) (ha:Blk w a) (hb:Blk w b) : (Op.equal kt (ptrV a) (ptrV b)).run P w = .ok (decide (a = b)) w := by
 unfold Op.equal ptrV
 rw [show Op.maxDepth = 9999 + 1 from rfl,Op.equalIn]
 simp [run_underlying hk,hs,h0,Result.andThen]
 by_cases e : a = b
 ·subst e
  rw [run_sameAddr_same]; simp
 ·obtain ⟨ca,ta,ha⟩ := ha
  obtain ⟨cb,tb,hb⟩ := hb
  rw [run_sameAddr_other w (ca := ca) (cb := cb) (ta := ta) (tb := tb) (by intro h; injection h with h; exact e h) ha hb]
  simp [e]
theorem run_asking (hk:P.underlying kt = some (.pointer et)) {sz:Nat} (hs:(sizeOf et).run P w = .ok sz w) (h0:sz ≠ 0) {b:Nat} (hb:Blk w b) : ∀ (es:List MapEntry) (l:List (Nat × Nat)) (i:Nat),es.map (fun e => (e.key,e.val)) = (l.map fun p => (ptrV p.1,ptrV p.2)) → (∀ p ∈ l,Blk w p.1) →
    (∃ j,(Instr.findAsking kt (ptrV b) es i).run P w = .ok ((pGet l b).map fun v => (j,ptrV v)) w)
  | [],[],i,_,_ => ⟨0,rfl⟩
  | [],p :: l,i,h,_ => by simp at h
  | e :: es,[],i,h,_ => by simp at h
  | e :: es,p :: l,i,h,hl => by
    simp only [List.map_cons,List.cons.injEq,Prod.mk.injEq] at h
    obtain ⟨⟨h1,h2⟩,h3⟩ := h
    have hp := hl p List.mem_cons_self
    unfold Instr.findAsking
    rw [h1,h2]
    by_cases e' : b = p.1
    · refine ⟨i,?_⟩
      subst e'
      simp [run_equal_ptr hk hs h0 hp hp,Result.andThen,pGet]
    · obtain ⟨j,hj⟩ := run_asking hk hs h0 hb es l (i + 1) h3 fun q hq => hl q (List.mem_cons_of_mem _ hq)
      refine ⟨j,?_⟩
      have e2 : ¬ p.1 = b := fun h => e' h.symm
      have e3 : pGet (p :: l) b = pGet l b := by unfold pGet; rw [List.find?_cons_of_neg (by simpa using e2)]
      rw [e3]
      simp [run_equal_ptr hk hs h0 hb hp,Result.andThen,e',hj]
theorem run_find (hk:P.underlying kt = some (.pointer et)) {sz:Nat} (hs:(sizeOf et).run P w = .ok sz w) (h0:sz ≠ 0) {b:Nat} (hb:Blk w b) {es:List MapEntry} (he:es.map (fun e => (e.key,e.val)) = (l.map fun p => (ptrV p.1,ptrV p.2))) (hl:∀ p ∈ l,Blk w p.1) :
    (∃ j,(Instr.findKey kt (ptrV b) es).run P w = .ok ((pGet l b).map fun v => (j,ptrV v)) w) := by
  cases es with
  | nil =>
    cases l with
    | nil => exact ⟨0,by simp [Instr.findKey,run_underlying hk,Result.andThen,Instr.findNow,pGet]⟩
    | cons p l => simp at he
  | cons e es =>
    obtain ⟨j,hj⟩ := run_asking hk hs h0 hb (e :: es) l 0 he hl
    refine ⟨j,?_⟩
    have : Instr.findNow (.pointer et) (ptrV b) (e :: es) 0 = none := by
      unfold Instr.findNow
      have : Instr.sameNow (.pointer et) (ptrV b) e.key = none := rfl
      rw [this]
    simp [Instr.findKey,run_underlying hk,Result.andThen,this,hj]
theorem run_checkPtr (hk:P.underlying kt = some (.pointer et)) (e:Bool) (n b:Nat) : (Instr.checkKey e (n + 1) kt (ptrV b)).run P w = .ok () w := by
 unfold Instr.checkKey ptrV
 simp [run_underlying hk,Result.andThen]
theorem PMap.lookup (h:PMap w m l) (ht:P.underlying t = some (.map kt kt)) (hk:P.underlying kt = some (.pointer et)) {sz:Nat} (hs:(sizeOf et).run P w = .ok sz w) (h0:sz ≠ 0) (hz:(zeroValue kt).run P w = .ok (.pointer none) w) {b:Nat} (hb:Blk w b) (hl:∀ p ∈ l,Blk w p.1) :
    (Instr.lookup t (.map (some m)) (ptrV b) false).run P w = .ok (match pGet l b with | some v => ptrV v | none => .pointer none) w := by
  obtain ⟨es,clock,hm,hst,he⟩ := h
  obtain ⟨j,hj⟩ := run_find hk hs h0 hb he hl
  have hck := fun e => run_checkPtr (w := w) hk e 9999 b
  simp only [Instr.lookup,run_underlying ht,MapKept.run_getObj_map hm,hck,hj,Result.andThen,Sem.run_bind,Sem.run_pure]
  cases pGet l b with
  | none => simp [hz,Result.andThen]
  | some v => simp
theorem PMap.put (h:PMap w m l) (ht:P.underlying t = some (.map kt kt)) (hk:P.underlying kt = some (.pointer et)) {sz:Nat} (hs:(sizeOf et).run P w = .ok sz w) (h0:sz ≠ 0) {b v:Nat} (hb:Blk w b) (hl:∀ p ∈ l,Blk w p.1) (hn:pGet l b = none) :
    ∃ w',(Instr.mapUpdate t (.map (some m)) (ptrV b) (ptrV v)).run P w = .ok () w' ∧ PMap w' m (l ++ [(b,v)]) ∧ Fr (fun c => c = m) w w' ∧ w'.heap.size = w.heap.size := by
  obtain ⟨es,clock,hm,hst,he⟩ := h
  obtain ⟨j,hj⟩ := run_find hk hs h0 hb he hl
  rw [hn] at hj
  have hck := fun e => run_checkPtr (w := w) hk e 9999 b
  have hlt := lt_of_get hm
  have hkeys : ∀ x ∈ es.toList,x.key ≠ ptrV b := by
    intro x hx e
    have : (x.key,x.val) ∈ es.toList.map fun e => (e.key,e.val) := List.mem_map.2 ⟨x,hx,rfl⟩
    rw [he] at this
    obtain ⟨p,hp,hpe⟩ := List.mem_map.1 this
    have e1 : ptrV p.1 = x.key := congrArg Prod.fst hpe
    exact pGet_none.1 hn p hp (ptrV_inj (e1.trans e))
  refine ⟨ChangeMaps.setBlock w m (.map (es.push { key := ptrV b,val := ptrV v,born := clock }) (clock + 1)),?_,⟨es.push { key := ptrV b,val := ptrV v,born := clock },clock + 1,?_,stamped_push hst hkeys,?_⟩,Fr.setBlock _ _ _,by simp [ChangeMaps.setBlock]⟩
  · simp [Instr.mapUpdate,run_underlying ht,MapKept.run_getObj_map hm,hck,hj,MapKept.run_setObj_map _ hm,Result.andThen,ChangeMaps.setBlock]
  · simp [ChangeMaps.setBlock,hlt]
  · simp [he]
end
theorem PMap.made (w:World) : PMap (w.alloc (.map #[] 0)) w.heap.size [] := ⟨#[],0,alloc_new _ _,stamped_empty 0,rfl⟩
end Go.Proofs.XPtr
