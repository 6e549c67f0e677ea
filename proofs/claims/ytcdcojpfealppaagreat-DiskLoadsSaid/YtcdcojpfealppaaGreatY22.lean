/- Put together by a program (wip/tools/shake.py): ROps12,ROps13,RTwin,RTwin2. -/
import Derived.Test.YtcdcojpfealppaaGreatY21
set_option linter.unusedVariables false
set_option linter.unusedSimpArgs false
set_option maxRecDepth 100000
namespace Go.Proofs.YtcdcojpfealppaaGreat
open Go Go.Proofs Go.RowKit Go.Proofs.XRed Go.Proofs.XHeap Go.Proofs.XMaps Go.Proofs.XSlices Go.Proofs.XDisk Go.Proofs.XCalls Go.Proofs.XSep Tryz
section
variable {w w0:World} {D:Nat} {S S':AD} {O I:Nat → Prop} {L L':RLay} {k:KV}
def NowCells (l:Names) (ts:List Nat) : List Value := (l.zip ts).flatMap fun q => [.string q.1.1,ptr q.2]
structure CrMid (w:World) (B:Nat) (rowv:Value) (l:Names) (f:Nat → Nat → Bytes) (ts:List Nat) : Prop where
 row : w.ownsRow B 144 2 rowv ts.length (NowCells l ts)
 nd : ts.Nodup
 len : ts.length ≤ l.length
 th : ∀ (j T:Nat),ts[j]? = some T → ∀ p,l[j]? = some p → ∃ sv hv,w.heap[T]? = some (.cells #[sv,hv,.slice none 0 0] 156 (0,0)) ∧ B ≤ T ∧ SBytes w sv (f j p.2) ∧ SBytes w hv (f j p.2) ∧ ∀ b,sblk sv = some b ∨ sblk hv = some b → B ≤ b ∧ b < w.heap.size ∧ sblk rowv ≠ some b ∧ b ∉ ts
theorem CrMid.fr {w w':World} {B:Nat} {rowv:Value} {l:Names} {f:Nat → Nat → Bytes} {ts:List Nat} (h:CrMid w B rowv l f ts) (hf:Fr no w w') : CrMid w' B rowv l f ts where
 row := own_fr h.row hf fun _ _ h => h
 nd := h.nd
 len := h.len
 th := fun j T hT p hp => by
  obtain ⟨sv,hv,h1,h2,h3,h4,h5⟩ := h.th j T hT p hp
  exact ⟨sv,hv,hf.get h1 id,h2,h3.fr hf fun _ _ h => h,h4.fr hf fun _ _ h => h,fun b hb => ⟨(h5 b hb).1,Nat.lt_of_lt_of_le (h5 b hb).2.1 hf.size,(h5 b hb).2.2⟩⟩
theorem CrMid.lt {w:World} {B:Nat} {rowv:Value} {l:Names} {f:Nat → Nat → Bytes} {ts:List Nat} (h:CrMid w B rowv l f ts) : ∀ T ∈ ts,B ≤ T ∧ T < w.heap.size ∧ sblk rowv ≠ some T := by
 intro T hT
 obtain ⟨j,hj⟩ := List.getElem?_of_mem hT
 have hjl : j < l.length := Nat.lt_of_lt_of_le (List.getElem?_eq_some_iff.1 hj).1 h.len
 obtain ⟨sv,hv,h1,h2,_⟩ := h.th j T hj _ (List.getElem?_eq_getElem hjl)
 refine ⟨h2,lt_of_get h1,fun e => ?_⟩
 obtain ⟨c,hc⟩ := own_obj h.row e
 exact absurd (two_types hc h1) (by decide)
theorem zip_snoc {α β:Type} : ∀ {l:List α} {ts:List β} {T:β} (h:ts.length < l.length),l.zip (ts ++ [T]) = l.zip ts ++ [(l[ts.length],T)]
 | [],ts,T,h => by simp at h
 | p :: l,[],T,h => by simp
 | p :: l,t :: ts,T,h => by
  have := zip_snoc (l := l) (ts := ts) (T := T) (by simpa using h)
  simpa using this
theorem NowCells_snoc {l:Names} {ts:List Nat} {T:Nat} (h:ts.length < l.length) : NowCells l (ts ++ [T]) = NowCells l ts ++ [.string l[ts.length].1,ptr T] := by
 unfold NowCells
 rw [zip_snoc h,List.flatMap_append]
 simp
set_option maxHeartbeats 1000000 in
theorem r_cr9 {i:Nat} {pv lv:Value} {l:Names} {f:Nat → Nat → Bytes} {ts:List Nat} {wl:World} {N2:KE} (hl:Src wl lv 2 l.length (nmCells L.loc l)) (hlw:Fr no wl w) (hi:ts.length < l.length) (hlen:l.length ≤ 256) {ρ7:Value} (hm:CrMid w wl.heap.size ρ7 l f ts)
    {ρ:Env} (e0:ρ 0 = ptr D) (e1:ρ 1 = pv) (e4:ρ 4 = lv) (e8:ρ 8 = i64 ts.length) (e7:ρ 7 = ρ7) {w1:World} (hf1:Fr no w w1) (hb:SBytes w1 (ρ 13) (f ts.length l[ts.length].2)) (hbl:(f ts.length l[ts.length].2).length ≤ 1099511627776) (hbb:∀ b,sblk (ρ 13) = some b → w.heap.size ≤ b ∧ b < w1.heap.size)
    (hk:∀ ρ' w' T,Fr no wl w' → CrMid w' wl.heap.size (ρ' 7) l f (ts ++ [T]) → ρ' 0 = ptr D → ρ' 1 = pv → ρ' 4 = lv → ρ' 8 = i64 (ts.length + 1) → N2 ρ' w') : F123_9 k N2 ρ w1 := by
  unfold F123_9
  rw [e4,e8,e7]
  have f01 := hlw.trans hf1 fun b => .inl
  have hl1 : Src w1 lv 2 l.length (nmCells L.loc l) := hl.fr (by omega) f01 fun _ _ h => h
  obtain ⟨b,o,cc,ev,q0,q1⟩ := nm_at hl1 hi
  have hbl0 : b < wl.heap.size := Src.lt hl (by omega) (by omega) (by rw [ev]; rfl)
  have fd : Fr no w1 w1.drew := Fr.drew _ _
  have keep : ∀ w2 : World,w2.heap[b]? = w1.heap[b]? → w2.cell? ⟨b,o + ts.length * 2,none⟩ = some (.string l[ts.length].1) := fun w2 e => by rw [World.cell?_of_block (w := w1) e]; exact q0
  have hb1 : b < w1.heap.size := Nat.lt_of_lt_of_le hbl0 f01.size
  refine ⟨fun w2 : World => w2.cell? ⟨b,o + ts.length * 2,none⟩ = some (.string l[ts.length].1),q0,?_⟩
  refine q_of (.pointer (some ⟨b,o + ts.length * 2,none⟩)) (fun w_ hS => by rw [ev]; exact s_ix (i := (ts.length : Int)) usl59 (sze59 _) (by omega) (by omega) ⟨by simp,rfl⟩) ?_
  refine q_of _ (fun w_ hS => fa144_0 ⟨rfl,rfl⟩) (q_of _ (fun w_ hS => s_ld (isAgg9 _) hS ⟨rfl,rfl⟩) ?_)
  obtain ⟨A3,c3,ev3,_⟩ := hb.form
  refine r_copied (hb.fr fd fun _ _ h => h) (by omega) fun v2 w2 n2 f2 => ?_
  obtain ⟨A2,c2,ev2,_⟩ := n2.sb.form
  subst ev2
  rw [ev3]
  rw [ev3] at hb hbb
  have f12 : Fr no w1 w2 := fd.trans f2 fun b => .inl
  have zd : w1.drew.heap.size = w1.heap.size := rfl
  have hn2 := n2.blk
  generalize hD : f ts.length l[ts.length].2 = bs at *
  refine ⟨keep w2 (f12.block b hb1 id),q_of (.agg #[.slice A3 bs.length c3,.slice A2 bs.length c2,.slice none 0 0]) (fun w_ hS => px_ok (w' := w_) (by kernel_rfl) ⟨rfl,rfl⟩) (s_box ?_)⟩
  have bT := alloc_new w2 (.cells #[.slice A3 bs.length c3,.slice A2 bs.length c2,.slice none 0 0] 156)
  have fT := Fr.alloc no w2 (.cells #[.slice A3 bs.length c3,.slice A2 bs.length c2,.slice none 0 0] 156)
  have zT : (w2.alloc (.cells #[.slice A3 bs.length c3,.slice A2 bs.length c2,.slice none 0 0] 156)).heap.size = w2.heap.size + 1 := by simp
  show _ ∧ _
  have hwT : w2.alloc (.cells (Value.agg #[.slice A3 bs.length c3,.slice A2 bs.length c2,.slice none 0 0]).cells 156) = w2.alloc (.cells #[.slice A3 bs.length c3,.slice A2 bs.length c2,.slice none 0 0] 156) := rfl
  rw [hwT]
  generalize w2.alloc (.cells #[.slice A3 bs.length c3,.slice A2 bs.length c2,.slice none 0 0] 156) = w3 at *
  have f13 : Fr no w1 w3 := f12.trans fT fun b => .inl
  refine ⟨keep w3 (f13.block b hb1 id),q_of (.agg #[.string l[ts.length].1,ptr w2.heap.size]) (fun w_ hS => px_ok (w' := w_) (by unfold ptr; kernel_rfl) ⟨rfl,rfl⟩) ?_⟩
  refine px_ok (w' := w3.alloc (.cells #[.string l[ts.length].1,ptr w2.heap.size] 144)) (v := .slice (some ⟨w3.heap.size,0,none⟩) 1 1) (by unfold ptr; kernel_rfl) ?_
  have f4 := Fr.alloc no w3 (.cells #[.string l[ts.length].1,ptr w2.heap.size] 144)
  have ho4 := own_lit w3 0 144 2 #[.string l[ts.length].1,ptr w2.heap.size] 1 (Nat.zero_le _) (by unfold maxLen; omega) rfl
  have z4 : (w3.alloc (.cells #[.string l[ts.length].1,ptr w2.heap.size] 144)).heap.size = w3.heap.size + 1 := by simp
  generalize w3.alloc (.cells #[.string l[ts.length].1,ptr w2.heap.size] 144) = w4 at *
  have f14 : Fr no w1 w4 := f13.trans f4 fun b => .inl
  refine ⟨keep w4 (f14.block b hb1 id),?_⟩
  have f04 : Fr no w w4 := hf1.trans f14 fun b => .inl
  have hm4 := hm.fr f04
  have zw1 := hf1.size
  have zlw := hlw.size
  have zf2 := f2.size
  refine ap59 (base := wl.heap.size) hm4.row (Src.of_own ho4) (by intro u hu; simp at hu; rcases hu with rfl | rfl <;> rfl) (by omega) (by omega) fun v5 w5 h5 f5 hb5 => ?_
  have z5 := f5.size
  have hrb : ∀ x,sblk ρ7 = some x → wl.heap.size ≤ x ∧ x < w.heap.size := fun x hx => own_blk_lt hm.row hx
  have hold : ∀ x,x ≠ (fun y => y) x ∨ some x ≠ sblk ρ7 → x < w4.heap.size → w5.heap[x]? = w4.heap[x]? := fun x h hx => f5.block x hx fun e => by
    rcases h with h | h
    · exact h rfl
    · exact h e
  have hb5' : ∀ x,sblk v5 = some x → sblk ρ7 = some x ∨ w4.heap.size ≤ x := by
    intro x hx
    rcases hb5 with e | e
    · exact .inl (e ▸ hx)
    · rw [e] at hx; injection hx with hx; exact .inr (by omega)
  have hbw : some b ≠ sblk ρ7 := fun e => by have := (hrb b e.symm).1; omega
  refine ⟨keep w5 ((hold b (.inr hbw) (by omega)).trans (f14.block b hb1 id)),s_add_in (by omega) ?_⟩
  refine hk _ w5 w2.heap.size ((hlw.trans f04 fun b => .inl).trans f5 fun x hx => .inr (hrb x hx.symm).1) ⟨?_,?_,by rw [List.length_append]; exact hi,?_⟩ e0 e1 e4 rfl
  · show w5.ownsRow _ _ _ v5 _ _
    rw [List.length_append,NowCells_snoc hi]; exact h5
  · rw [List.nodup_append]
    refine ⟨hm.nd,by simp,fun x hx y hy => ?_⟩
    rw [List.mem_singleton] at hy; subst hy
    have := (hm.lt x hx).2.1; omega
  · intro j T hT p hp
    show ∃ sv hv,_ ∧ _ ∧ _ ∧ _ ∧ ∀ x,sblk sv = some x ∨ sblk hv = some x → _ ∧ _ ∧ sblk v5 ≠ some x ∧ _
    rcases Nat.lt_or_ge j ts.length with hj | hj
    · rw [List.getElem?_append_left hj] at hT
      obtain ⟨sv,hv,g1,g2,g3,g4,g5⟩ := hm4.th j T hT p hp
      have hTm := hm4.lt T (List.mem_of_getElem? hT)
      refine ⟨sv,hv,f5.get g1 fun e => hTm.2.2 e.symm,g2,g3.fr f5 fun x hx e => (g5 x (.inl hx)).2.2.1 e.symm,g4.fr f5 fun x hx e => (g5 x (.inr hx)).2.2.1 e.symm,fun x hx => ?_⟩
      have g6 := g5 x hx
      have hxw : x < w.heap.size := by
        obtain ⟨sv',hv',k1,_,_,_,k5⟩ := hm.th j T hT p hp
        have : w4.heap[T]? = w.heap[T]? := f04.block T (lt_of_get k1) id
        rw [g1,k1] at this
        injection this with this; injection this with this
        have e1 : sv = sv' := by have := congrArg (fun a:Array Value => a[0]?) this; simpa using this
        have e2 : hv = hv' := by have := congrArg (fun a:Array Value => a[1]?) this; simpa using this
        subst e1; subst e2
        exact (k5 x hx).2.1
      refine ⟨g6.1,by omega,fun e => ?_,fun hm' => ?_⟩
      · rcases hb5' x e with e | e
        · exact g6.2.2.1 e
        · omega
      · rcases List.mem_append.1 hm' with hm' | hm'
        · exact g6.2.2.2 hm'
        · rw [List.mem_singleton] at hm'; omega
    · have hj' : j = ts.length := by
        have := (List.getElem?_eq_some_iff.1 hT).1
        simp at this; omega
      subst hj'
      rw [List.getElem?_append_right (Nat.le_refl _),Nat.sub_self] at hT
      simp at hT; subst hT
      have hp' : p = l[ts.length] := by rw [List.getElem?_eq_getElem hi] at hp; injection hp with hp; exact hp.symm
      subst hp'
      rw [hD]
      have hTr : some w2.heap.size ≠ sblk ρ7 := fun e => by have := (hrb _ e.symm).2; omega
      have hnr : ∀ x,w.heap.size ≤ x → some x ≠ sblk ρ7 := fun x hx e => by have := (hrb x e.symm).2; omega
      refine ⟨.slice A3 bs.length c3,.slice A2 bs.length c2,f5.get (f4.get bT id) hTr,by omega,(hb.fr f14 fun _ _ h => h).fr f5 fun x hx e => hnr x (hbb x hx).1 e,((n2.sb.fr fT fun _ _ h => h).fr f4 fun _ _ h => h).fr f5 fun x hx e => hnr x (by have := hn2 x hx; omega) e,fun x hx => ?_⟩
      have hx2 : w.heap.size ≤ x ∧ x < w2.heap.size := by
        rcases hx with hx | hx
        · have := hbb x hx; omega
        · have := hn2 x hx; omega
      refine ⟨by omega,by omega,fun e => ?_,fun hm' => ?_⟩
      · rcases hb5' x e with e | e
        · exact hnr x hx2.1 e.symm
        · omega
      · rcases List.mem_append.1 hm' with hm' | hm'
        · have := (hm.lt x hm').2.1; omega
        · rw [List.mem_singleton] at hm'; omega
end
section
variable {w w0:World} {D:Nat} {S S':AD} {O I:Nat → Prop} {L L':RLay} {k:KV}
def nowOf (l:Names) (n:Nat) : Names := l.zipIdx.map fun (p,i) => (p.1,n + i)
theorem nowOf_len (l:Names) (n:Nat) : (nowOf l n).length = l.length := by unfold nowOf; simp
theorem nowCells_eq : ∀ (l:Names) (ts:List Nat) (n j:Nat) (loc:Nat → Nat),ts.length = l.length → (∀ i T,ts[i]? = some T → loc (n + (j + i)) = T) → nmCells loc ((l.zipIdx j).map fun (p,i) => (p.1,n + i)) = NowCells l ts
 | [],[],_,_,_,_,_ => rfl
 | [],t :: ts,_,_,_,h,_ => by simp at h
 | p :: l,[],_,_,_,h,_ => by simp at h
 | p :: l,t :: ts,n,j,loc,h,hl => by
  have ih := nowCells_eq l ts n (j + 1) loc (by simpa using h) fun i T hi => by
   have := hl (i + 1) T (by simpa using hi)
   rw [show j + 1 + i = j + (i + 1) by omega]; exact this
  have h0 := hl 0 t rfl
  unfold nmCells NowCells at *
  simp only [List.zipIdx_cons,List.map_cons,List.flatMap_cons,List.zip_cons_cons]
  rw [ih]
  rw [show n + j = n + (j + 0) by omega,h0]
theorem mem_nowOf {l:Names} {n t:Nat} {s:ByteArray} (h:(s,t) ∈ nowOf l n) : n ≤ t ∧ t < n + l.length := by
 unfold nowOf at h
 obtain ⟨q,hq,e⟩ := List.mem_map.1 h
 have := List.mem_zipIdx hq
 injection e with e1 e2
 omega
set_option maxHeartbeats 2000000 in
theorem r_crash {c:Nat} {picks:List Int} {pv:Value} (h:RRep w D S O I L) (ok:S.Ok c) (hp:Src w pv 1 picks.length (picks.map i64)) (hk:∀ w' O' I' L',RNx w D O I w' (S.crash picks) O' I' L' → k (.tuple #[]) w') : pFn P 123 [ptr D,pv] w k := by
 have hsm := ok.small
 have hrow := ok.row
 have hroom := ok.room
 refine F123_in _ _ _ _ ?_
 unfold F123_0
 show px P (binSem BinOp.eql 30 _ _ (ptr D) (.pointer none)) w _
 refine s_eqpn upt30 (pG_yes rfl (pG_yes rfl (s_nil (pG_yes rfl (fa62_1 (pG_yes rfl (s_ldb (v := i64 S.room) (isAgg3 _) h.disk rfl (pG_yes rfl (s_eqi_f (by omega) (s_pick_f (pC_false ?_)))))))))))
 refine s_nil (fa62_3 (s_ldb (v := L.befv) (isAgg59 _) h.disk rfl (s_nil (fa62_4 (s_ldb (v := L.turnv) (isAgg60 _) h.disk rfl (s_lenS usl60 (Src.of_own h.turns) ?_))))))
 refine r_round hp 0 S.row.length (by omega) (by omega) ?_
 have hple : pickA picks 0 S.row.length ≤ S.row.length := by
  unfold pickA
  split
  ·rename_i p _
   unfold roundA
   have h1 : p.emod ((S.row.length : Int) + 1) < (S.row.length : Int) + 1 := Int.emod_lt_of_pos p (show (0 : Int) < (S.row.length : Int) + 1 by omega)
   omega
  ·omega
 have hcn : S.crashNames picks = (S.row.take (pickA picks 0 S.row.length)).foldl (fun l c => c.on l) S.safe := rfl
 generalize pickA picks 0 S.row.length = n0 at *
 refine F123L1_inv (m := n0) k (fun m ρ w' => ∃ i : Nat,i + m = n0 ∧ Fr no w w' ∧ ρ 0 = ptr D ∧ ρ 1 = pv ∧ ρ 5 = i64 n0 ∧ ρ 6 = i64 i ∧ Src w' (ρ 4) 2 ((S.row.take i).foldl (fun l c => c.on l) S.safe).length (nmCells L.loc ((S.row.take i).foldl (fun l c => c.on l) S.safe))) ?_
  ⟨0,by omega,Fr.refl _ _,rfl,rfl,rfl,rfl,h.bef.1⟩
 rintro m ρ w' ⟨i,him,hf,e0,e1,e5,e6,hsrc⟩
 rw [F123_1_eq]
 unfold F123_1
 rw [e0,e5,e6]
 have h' := h.fr hf fun b hb => hb.elim
 by_cases hi : i < n0
 ·have hir : i < S.row.length := by omega
  obtain ⟨hgive,hlen⟩ := ok.turns.at_ (List.getElem?_eq_getElem hir)
  refine s_lt_t (by omega) (pC_true (s_nil (fa62_4 (s_ldb (v := L.turnv) (isAgg60 _) h'.disk rfl ?_))))
  refine s_elemN (m := 0) (vs := rturn L.loc S.row[i]) usl60 (sze60 _) (isAgg146 _) (sizeOf146 _) (Src.of_own h'.turns) hir (by omega) (rturn_len _ _) (fun j hj => flatAt (f := rturn L.loc) (rturn_len L.loc) (List.getElem?_eq_getElem hir) hj) fun q3 => ?_
  refine r_turn (c := S.row[i]) hsrc (by omega) hgive (Ordered.fold ok.safe).nodup fun v2 w2 hv2 hb2 f2 => ?_
  refine s_add_in (by omega) ⟨m - 1,by omega,i + 1,by omega,hf.trans f2 fun b => .inl,e0,e1,e5,?_,?_⟩
  ·show i64 _ = i64 _; simp
  ·rw [List.take_succ_eq_append_getElem hir,List.foldl_append]
   exact hv2
 refine s_lt_f (by omega) (pC_false ?_)
 rw [F123_2_eq]
 unfold F123_2
 have hin : i = n0 := by omega
 subst hin
 rw [← hcn] at hsrc
 have hcl : (S.crashNames picks).length ≤ 256 := by
  rw [hcn]
  rcases Nat.lt_or_ge i S.row.length with h1 | h1
  ·exact (ok.turns.at_ (List.getElem?_eq_getElem h1)).2
  ·rw [List.take_of_length_le h1,← ok.turns.eq]; exact ok.turns.len.1
 have hreach := ok.crash_reach picks
 clear hcn hple him
 generalize hl : S.crashNames picks = l at *
 have hp' : Src w' pv 1 picks.length (picks.map i64) := hp.fr (by omega) hf fun _ _ h => h
 -- the second loop
 refine F123L2_inv (m := l.length) k (fun m ρ' w2 => ∃ ts : List Nat,ts.length + m = l.length ∧ Fr no w' w2 ∧ ρ' 0 = ptr D ∧ ρ' 1 = pv ∧ ρ' 4 = ρ 4 ∧ ρ' 8 = i64 ts.length ∧ CrMid w2 w'.heap.size (ρ' 7) l (S.crashBytes picks) ts) ?_
  ⟨[],by simp,Fr.refl _ _,e0,e1,rfl,rfl,⟨⟨by simp [NowCells],.inl ⟨rfl,rfl⟩⟩,List.nodup_nil,Nat.zero_le _,fun j T hT => by simp at hT⟩⟩
 rintro m ρ' w2 ⟨ts,htm,f2,a0,a1,a4,a8,hm⟩
 rw [F123_3_eq]
 unfold F123_3
 rw [a4,a8]
 have hsrc2 : Src w2 (ρ 4) 2 l.length (nmCells L.loc l) := hsrc.fr (by omega) f2 fun _ _ h => h
 refine s_lenS usl59 hsrc2 ?_
 by_cases hi : ts.length < l.length
 ·refine s_lt_t (by omega) (pC_true (nm_thing hsrc2 hi fun q1 q2 => ?_))
  have hre := hreach l[ts.length] (List.getElem_mem hi)
  have hhas : L.has l[ts.length].2 := h.sub _ hre
  have hTok := ok.thing _ hre
  have f02 : Fr no w w2 := hf.trans f2 fun b => .inl
  have h2 := h.fr f02 fun b hb => hb.elim
  refine r_cr3 (i := ts.length) h2 hhas hTok (by omega) a0 a1 a4 a8 rfl rfl rfl fun ρ3 w3 f3 b0 b1 b4 b7 b8 b9 b10 => ?_
  have h3 := h2.fr f3 fun b hb => hb.elim
  refine r_cr6 h3 hhas hTok (by omega) ((hp'.fr (by omega) f2 fun _ _ h => h).fr (by omega) f3 fun _ _ h => h) (by omega) b0 b1 b4 b8 b9 b10 fun ρ4 w4 f4 d0 d1 d4 d7 d8 hb hbb => ?_
  have hbl : (S.crashBytes picks ts.length l[ts.length].2).length ≤ 1099511627776 := by
   have : (S.crashBytes picks ts.length l[ts.length].2).length ≤ 1048576 := leftOf_len (.inl hTok.ok)
   omega
  refine r_cr9 (i := 0) (D := D) (L := L) (w := w3) hsrc (f2.trans f3 fun b => .inl) hi hcl (hm.fr f3) d0 d1 d4 d8 (by rw [d7,b7]; rfl) f4 hb hbl hbb fun ρ5 w5 T f5 hm5 g0 g1 g4 g8 => ?_
  exact ⟨m - 1,by omega,ts ++ [T],by rw [List.length_append]; show ts.length + 1 + _ = _; omega,f5,g0,g1,g4,by rw [List.length_append]; exact g8,hm5⟩
 refine s_lt_f (by omega) (pC_false ?_)
 rw [F123_5_eq]
 have hlen : ts.length = l.length := by have := hm.len; omega
 have f02 : Fr no w w2 := hf.trans f2 fun b => .inl
 have h2 := h.fr f02 fun b hb => hb.elim
 obtain ⟨A7,c7,ev7⟩ : ∃ A c',ρ' 7 = .slice A l.length c' := by
  obtain ⟨A,c',e,_⟩ := Src.of_own hm.row
  rw [hlen] at e; exact ⟨A,c',e⟩
 suffices hs : ∀ ρ2 : Env,ρ2 0 = ptr D → ρ2 7 = .slice A7 l.length c7 → F123_5 k ρ2 w2 from hs _ a0 ev7
 intro ρ2 r0 r7
 unfold F123_5
 rw [r0,r7]
 rw [ev7] at hm
 have dk := h2.disk
 have fk : Fr (fun b => b = D) w2 w2 := Fr.refl _ _
 have zk : w2.heap.size = w2.heap.size := rfl
 refine s_nil (fa62_2 ?_)
 refine s_st (sizeOf59 _) rfl rfl dk (by show 2 < 11; decide) ?_
 replace dk := set_same dk 2 (.slice A7 l.length c7)
 replace fk : Fr (fun b => b = D) w2 (w2.setCell ⟨D,2,none⟩ (.slice A7 l.length c7)) := fk.trans (Fr.setCell w2 ⟨D,2,none⟩ _) fun b => .inl
 replace zk : (w2.setCell ⟨D,2,none⟩ (.slice A7 l.length c7)).heap.size = w2.heap.size := by rw [← zk]; simp [World.setCell]
 generalize hg1 : w2.setCell ⟨D,2,none⟩ (.slice A7 l.length c7) = u1 at *
 refine s_nil (fa62_3 ?_)
 refine s_st (sizeOf59 _) rfl rfl dk (by show 3 < 11; decide) ?_
 replace dk := set_same dk 3 (.slice A7 l.length c7)
 replace fk : Fr (fun b => b = D) w2 (u1.setCell ⟨D,3,none⟩ (.slice A7 l.length c7)) := fk.trans (Fr.setCell u1 ⟨D,3,none⟩ _) fun b => .inl
 replace zk : (u1.setCell ⟨D,3,none⟩ (.slice A7 l.length c7)).heap.size = w2.heap.size := by rw [← zk]; simp [World.setCell]
 generalize hg2 : u1.setCell ⟨D,3,none⟩ (.slice A7 l.length c7) = u2 at *
 refine s_nil (fa62_4 ?_)
 refine s_st (sizeOf60 _) rfl rfl dk (by show 4 < 11; decide) ?_
 replace dk := set_same dk 4 (.slice none 0 0)
 replace fk : Fr (fun b => b = D) w2 (u2.setCell ⟨D,4,none⟩ (.slice none 0 0)) := fk.trans (Fr.setCell u2 ⟨D,4,none⟩ _) fun b => .inl
 replace zk : (u2.setCell ⟨D,4,none⟩ (.slice none 0 0)).heap.size = w2.heap.size := by rw [← zk]; simp [World.setCell]
 generalize hg3 : u2.setCell ⟨D,4,none⟩ (.slice none 0 0) = u3 at *
 refine s_nil (fa62_0 ?_)
 refine s_st (sizeOf4 _) rfl rfl dk (by show 0 < 11; decide) ?_
 replace dk := set_same dk 0 (.bool true)
 replace fk : Fr (fun b => b = D) w2 (u3.setCell ⟨D,0,none⟩ (.bool true)) := fk.trans (Fr.setCell u3 ⟨D,0,none⟩ _) fun b => .inl
 replace zk : (u3.setCell ⟨D,0,none⟩ (.bool true)).heap.size = w2.heap.size := by rw [← zk]; simp [World.setCell]
 generalize hg4 : u3.setCell ⟨D,0,none⟩ (.bool true) = u4 at *
 refine px_ok (w' := u4) (v := .agg #[i64 0,i64 0,i64 0]) (by kernel_rfl) ?_
 refine s_nil (fa62_7 (s_stN (n := 3) (vs := [i64 0,i64 0,i64 0]) (sizeOf38 _) rfl (by intro v hv; simp at hv; subst hv; rfl) dk (by show 7 + 3 ≤ 11; decide) fun u5 dk5 f5 z5 => ?_))
 replace dk := dk5
 replace fk : Fr (fun b => b = D) w2 u5 := fk.trans f5 fun b => .inl
 replace zk : u5.heap.size = w2.heap.size := z5.trans zk
 clear dk5 f5 z5
 refine s_nil (fa62_5 ?_)
 refine s_st (sizeOf3 _) rfl rfl dk (by show 5 < 11; decide) ?_
 replace dk := set_same dk 5 (i64 0)
 replace fk : Fr (fun b => b = D) w2 (u5.setCell ⟨D,5,none⟩ (i64 0)) := fk.trans (Fr.setCell u5 ⟨D,5,none⟩ _) fun b => .inl
 replace zk : (u5.setCell ⟨D,5,none⟩ (i64 0)).heap.size = w2.heap.size := by rw [← zk]; simp [World.setCell]
 generalize hg6 : u5.setCell ⟨D,5,none⟩ (i64 0) = u6 at *
 refine s_nil (fa62_6 ?_)
 refine s_st (sizeOf3 _) rfl rfl dk (by show 6 < 11; decide) ?_
 replace dk := set_same dk 6 (i64 0)
 replace fk : Fr (fun b => b = D) w2 (u6.setCell ⟨D,6,none⟩ (i64 0)) := fk.trans (Fr.setCell u6 ⟨D,6,none⟩ _) fun b => .inl
 replace zk : (u6.setCell ⟨D,6,none⟩ (i64 0)).heap.size = w2.heap.size := by rw [← zk]; simp [World.setCell]
 generalize hg7 : u6.setCell ⟨D,6,none⟩ (i64 0) = u7 at *
 have hdc : u7.heap[D]? = some (.cells (rcells (S.crash picks) { L with has := fun t => S.next ≤ t ∧ t < S.next + l.length,loc := fun t => ts.getD (t - S.next) 0,trow := fun _ => .slice none 0 0,nowv := .slice A7 l.length c7,befv := .slice A7 l.length c7,turnv := .slice none 0 0 }) 62 (0,0)) := by rw [dk]; rfl
 have hshown : (S.crash picks).shown = nowOf l S.next := by unfold AD.crash; rw [hl]; rfl
 have hsafe : (S.crash picks).safe = nowOf l S.next := by unfold AD.crash; rw [hl]; rfl
 have hrowc : (S.crash picks).row = [] := rfl
 have hreads : (S.crash picks).reads = S.reads := rfl
 have hnext : (S.crash picks).next = S.next + l.length := by unfold AD.crash; rw [hl]
 have hthing : ∀ j (hj:j < l.length),(S.crash picks).things (S.next + j) = ⟨S.crashBytes picks j l[j].2,S.crashBytes picks j l[j].2,[]⟩ := by
  intro j hj
  show (if S.next + j < S.next then S.things (S.next + j) else match (S.crashNames picks)[S.next + j - S.next]? with | some p => _ | none => _) = _
  rw [if_neg (by omega),show S.next + j - S.next = j by omega,hl,List.getElem?_eq_getElem hj]
 have zw := f02.size
 have fin : Fr (fun b => b = D) w u7 := (f02.mono fun b hb => hb.elim).trans fk fun b => .inl
 have hDw := h.lt D (.inl h.oD)
 have zw' := hf.size
 have hDn : ∀ b,w.heap.size ≤ b → ¬ (b = D) := fun b hb e => by omega
 have hnI : ∀ b,I b → ¬ (b = D) := fun b hb e => h.apart b (e ▸ h.oD) hb
 have hrb : ∀ b,sblk (.slice A7 l.length c7) = some b → w'.heap.size ≤ b ∧ b < w2.heap.size := fun b hb => own_blk_lt hm.row hb
 have hrt : ∀ b,sblk (.slice A7 l.length c7) = some b → b ∉ ts := fun b hb hm' => (hm.lt b hm').2.2 hb
 have hcells : nmCells (fun t => ts.getD (t - S.next) 0) (nowOf l S.next) = NowCells l ts := nowCells_eq l ts S.next 0 _ hlen fun i T hi => by
  show ts.getD (S.next + (0 + i) - S.next) 0 = T
  rw [show S.next + (0 + i) - S.next = i by omega,List.getD,hi]; rfl
 have hnv : NV u7 (fun b => I b ∨ (w.heap.size ≤ b ∧ b < u7.heap.size ∧ b ∉ ts)) (fun t => ts.getD (t - S.next) 0) (.slice A7 l.length c7) (nowOf l S.next) := by
  refine ⟨?_,fun b hb => .inr ⟨by have := hrb b hb; omega,by have := hrb b hb; omega,hrt b hb⟩⟩
  rw [hcells,nowOf_len]
  have hS := (Src.of_own hm.row).fr (by omega) fk fun b hb (e:b = D) => by
   have := (hrb b hb).1; omega
  rw [hlen] at hS
  exact hS
 refine hk u7 (fun b => O b ∨ b ∈ ts) (fun b => I b ∨ (w.heap.size ≤ b ∧ b < u7.heap.size ∧ b ∉ ts)) _ ⟨⟨hdc,by rw [hshown]; exact hnv,by rw [hsafe]; exact hnv,⟨rfl,.inl ⟨rfl,rfl⟩⟩,own_fr h.told fin ?_,?_,?_,?_,?_,?_,.inl h.oD,(by rintro b hb; cases hb),fun b hb => .inl (h.otold b hb),?_,?_⟩,fin.mono fun b hb => .inl (hb ▸ h.oD),fun b => .inl,fun b => .inl,?_,?_⟩
 ·rintro b hb rfl
  obtain ⟨c1,h1⟩ := own_obj h.told hb
  exact absurd (two_types h1 h.disk) (by decide)
 ·rintro t (⟨n,ht⟩ | ⟨n,ht⟩ | ⟨n,ht⟩)
  ·rw [hshown] at ht; exact mem_nowOf ht
  ·rw [hsafe] at ht; exact mem_nowOf ht
  ·cases ht
 ·rintro t ⟨h1,h2⟩
  rw [hnext]; exact h2
 ·rintro t ⟨h1,h2⟩
  obtain ⟨j,rfl⟩ : ∃ j,t = S.next + j := ⟨t - S.next,by omega⟩
  have hj : j < l.length := by omega
  have hjt : j < ts.length := by omega
  obtain ⟨sv,hv,g1,g2,g3,g4,g5⟩ := hm.th j ts[j] (List.getElem?_eq_getElem hjt) l[j] (List.getElem?_eq_getElem hj)
  rw [hthing j hj]
  show RTRep u7 _ _ (ts.getD (S.next + j - S.next) 0) _ _
  rw [show S.next + j - S.next = j by omega,show ts.getD j 0 = ts[j] by rw [List.getD,List.getElem?_eq_getElem hjt]; rfl]
  have nD : ∀ b,sblk sv = some b ∨ sblk hv = some b → ¬ (b = D) ∧ (w.heap.size ≤ b ∧ b < u7.heap.size ∧ b ∉ ts) := fun b hb => by have := g5 b hb; exact ⟨by omega,by omega,by omega,this.2.2.2⟩
  exact ⟨⟨sv,hv,[],fk.get g1 fun e => by have : ts[j] = D := e; omega,⟨g3.fr fk fun b hb => (nD b (.inl hb)).1,fun b hb => .inr (nD b (.inl hb)).2⟩,⟨g4.fr fk fun b hb => (nD b (.inr hb)).1,fun b hb => .inr (nD b (.inr hb)).2⟩,⟨rfl,.inl ⟨rfl,rfl⟩⟩,rfl,by simp⟩,.inr (List.getElem_mem hjt),by rintro b hb; cases hb⟩
 ·rintro t u ⟨h1,h2⟩ ⟨h3,h4⟩ e
  have e' : ts.getD (t - S.next) 0 = ts.getD (u - S.next) 0 := e
  rw [List.getD,List.getD,List.getElem?_eq_getElem (by omega),List.getElem?_eq_getElem (by omega)] at e'
  have e2 : ts[t - S.next]'(by omega) = ts[u - S.next]'(by omega) := e'
  rcases Nat.lt_trichotomy (t - S.next) (u - S.next) with hlt | heq | hgt
  ·exact absurd e2 (List.pairwise_iff_getElem.1 hm.nd _ _ (by omega) (by omega) hlt)
  ·omega
  ·exact absurd e2.symm (List.pairwise_iff_getElem.1 hm.nd _ _ (by omega) (by omega) hgt)
 ·intro t u _ _ _ b hb
  cases hb
 ·rintro b (hb | hb) (hi' | hi')
  ·exact h.apart b hb hi'
  ·have := h.lt b (.inl hb); omega
  ·have := h.lt b (.inr hi')
   have := (hm.lt b hb).1; omega
  ·exact hi'.2.2 hb
 ·rintro b ((hb | hb) | (hb | hb))
  ·have := h.lt b (.inl hb); omega
  ·have := (hm.lt b hb).2.1; omega
  ·have := h.lt b (.inr hb); omega
  ·exact hb.2.1
 ·rintro b (hb | hb)
  ·exact .inl hb
  ·have := (hm.lt b hb).1; exact .inr (by omega)
 ·rintro b (hb | hb)
  ·exact .inl hb
  ·exact .inr hb.1
end
open Go.Proofs.XPtr
section
variable {w w0:World} {D:Nat} {S S':AD} {O I:Nat → Prop} {L L':RLay} {k:KV}
theorem s_eqpp {x y:Operand} {a b:Nat} (ha:Blk w a) (hb:Blk w b) (hk:k (.bool (decide (a = b))) w) : px P (binSem .eql 142 x y (ptr a) (ptr b)) w k := by
 refine s_bin (by unfold ptr; simp) (by unfold ptr; simp) ?_ hk
 have := run_equal_ptr (P := P) (w := w) (kt := 142) (et := 156) (a := a) (b := b) underlying142 (sizeOf156 _) (by decide) ha hb
 simp only [binOp]
 show ((do let e ← Op.equal 142 (ptrV a) (ptrV b); pure (Value.bool e)) : Sem Value).run P w = _
 simp [this,Result.andThen]
abbrev RTwins := List (Nat × Nat × Value)
def oldCells (L:RLay) (tl:RTwins) : List Value := tl.map fun p => ptr (L.loc p.1)
def madeCells' (tl:RTwins) : List Value := tl.map fun p => ptr p.2.1
theorem r_other {ov mv:Value} {tl:RTwins} {b:Nat} (ho:Src w ov 1 tl.length (oldCells L tl)) (hm:Src w mv 1 tl.length (madeCells' tl)) (hl:tl.length ≤ 4611686018427387904) (hb:Blk w b) (hbl:∀ p ∈ tl,Blk w (L.loc p.1))
    (h1:∀ p ∈ tl,L.loc p.1 = b → k (ptr p.2.1) w) (h0:(∀ p ∈ tl,L.loc p.1 ≠ b) → k (.pointer none) w) : pFn P 87 [ov,mv,ptr b] w k := by
  refine F87_in _ _ _ _ _ ?_
  unfold F87_0
  refine F87L1_inv (m := tl.length) k (fun m ρ w' => ∃ i : Nat,i + m = tl.length ∧ w' = w ∧ ρ 0 = ov ∧ ρ 1 = mv ∧ ρ 2 = ptr b ∧ ρ 7 = i64 i ∧ ∀ p ∈ tl.take i,L.loc p.1 ≠ b) ?_ ⟨0,by omega,rfl,rfl,rfl,rfl,rfl,fun p hp => by simp at hp⟩
  rintro m ρ w' ⟨i,him,rfl,e0,e1,e2,e7,hall⟩
  rw [F87_1_eq]
  unfold F87_1
  rw [e0,e1,e2,e7]
  refine s_lenS usl139 ho ?_
  by_cases hi : i < tl.length
  · have hmem := List.getElem_mem hi
    refine s_lt_t (by omega) (pC_true ?_)
    refine s_elem (u := ptr (L.loc tl[i].1)) usl139 (sze139 _) (isAgg142 _) ho hi (by simp [oldCells,hi]) fun _ => ?_
    refine s_eqpp (hbl _ hmem) hb ?_
    by_cases e : L.loc tl[i].1 = b
    · rw [decide_eq_true e]
      refine pC_true (s_elem (u := ptr tl[i].2.1) usl139 (sze139 _) (isAgg142 _) hm hi (by simp [madeCells',hi]) fun _ => h1 _ hmem e)
    · rw [decide_eq_false e]
      refine pC_false (s_add_in (by omega) ⟨m - 1,by omega,i + 1,by omega,rfl,e0,e1,e2,?_,fun p hp => ?_⟩)
      · show i64 _ = i64 _; simp
      · rw [List.take_succ_eq_append_getElem hi] at hp
        rcases List.mem_append.1 hp with hp | hp
        · exact hall p hp
        · rw [List.mem_singleton] at hp; subst hp; exact e
  · refine s_lt_f (by omega) (pC_false ?_)
    rw [F87_2_eq]
    exact h0 fun p hp => hall p (by rw [List.take_of_length_le (by omega)]; exact hp)
theorem r_otherNil {ov mv:Value} {tl:RTwins} (ho:Src w ov 1 tl.length (oldCells L tl)) (hl:tl.length ≤ 4611686018427387904) (hk:k (.pointer none) w) : pFn P 87 [ov,mv,.pointer none] w k := by
 refine F87_in _ _ _ _ _ ?_
 unfold F87_0
 refine F87L1_inv (m := tl.length) k (fun m ρ w' => ∃ i : Nat,i + m = tl.length ∧ w' = w ∧ ρ 0 = ov ∧ ρ 2 = .pointer none ∧ ρ 7 = i64 i) ?_ ⟨0,by omega,rfl,rfl,rfl,rfl⟩
 rintro m ρ w' ⟨i,him,rfl,e0,e2,e7⟩
 rw [F87_1_eq]
 unfold F87_1
 rw [e0,e2,e7]
 refine s_lenS usl139 ho ?_
 by_cases hi : i < tl.length
 ·refine s_lt_t (by omega) (pC_true ?_)
  refine s_elem (u := ptr (L.loc tl[i].1)) usl139 (sze139 _) (isAgg142 _) ho hi (by simp [oldCells,hi]) fun _ => ?_
  unfold ptr
  refine s_eqpn upt142 (pC_false (s_add_in (by omega) ⟨m - 1,by omega,i + 1,by omega,rfl,e0,e2,?_⟩))
  show i64 _ = i64 _; simp
 ·refine s_lt_f (by omega) (pC_false ?_)
  rw [F87_2_eq]
  exact hk
def ChNew (w0 w:World) : Chg × Value → Prop
 | (.wr _ d,s) => NewB w0 w s d
 | (.cut _,s) => NewB w0 w s []
structure RTNew (w0 w:World) (T:Nat) (rb:Value) (x:Thg) : Prop where
 ex : ∃ (sv hv:Value) (ps:List (Chg × Value)),w.heap[T]? = some (.cells #[sv,hv,rb] 156 (0,0)) ∧ NewB w0 w sv x.safe ∧ NewB w0 w hv x.shown ∧ w.ownsRow w0.heap.size 186 3 rb x.row.length (ps.flatMap chCells) ∧ ps.map (·.1) = x.row ∧ ∀ p ∈ ps,ChNew w0 w p
 low : w0.heap.size ≤ T
def Other (w:World) (M:Nat → Prop) : Prop := ∀ b,M b → ∀ c T,w.heap[b]? = some (.cells c T (0,0)) → T ≠ 156 ∧ T ≠ 186 ∧ T ≠ 5
theorem Other.byte {M:Nat → Prop} (hM:Other w M) {v:Value} {bs:Bytes} {wb:World} (h:NewB wb w v bs) : ∀ b,sblk v = some b → ¬ M b := fun b hb hm => by
 obtain ⟨c,hc⟩ := own_obj h hb
 exact (hM b hm c _ hc).2.2 rfl
theorem NewB.fr {w' wb:World} {v:Value} {bs:Bytes} {M:Nat → Prop} (h:NewB wb w v bs) (hf:Fr M w w') (hM:∀ b,sblk v = some b → ¬ M b) : NewB wb w' v bs := own_fr h hf hM
theorem ChNew.fr {w' wb:World} {p:Chg × Value} {M:Nat → Prop} (h:ChNew wb w p) (hf:Fr M w w') (hM:Other w M) : ChNew wb w' p := by
 obtain ⟨c,s⟩ := p
 cases c with
 | wr a d => exact NewB.fr (v := s) h hf (hM.byte (v := s) h)
 | cut n => exact NewB.fr (v := s) h hf (hM.byte (v := s) h)
theorem RTNew.fr {w':World} {T:Nat} {rb:Value} {x:Thg} {M:Nat → Prop} (h:RTNew w0 w T rb x) (hf:Fr M w w') (hM:Other w M) : RTNew w0 w' T rb x := by
 obtain ⟨⟨sv,hv,ps,h1,h2,h3,h4,h5,h6⟩,h7⟩ := h
 refine ⟨⟨sv,hv,ps,hf.get h1 fun hm => (hM T hm _ _ h1).1 rfl,h2.fr hf (hM.byte h2),h3.fr hf (hM.byte h3),own_fr h4 hf fun b hb hm => ?_,h5,fun p hp => (h6 p hp).fr hf hM⟩,h7⟩
 obtain ⟨c,hc⟩ := own_obj h4 hb
 exact (hM b hm c _ hc).2.1 rfl
theorem NewB.less {wa wb:World} {v:Value} {bs:Bytes} (h:NewB wb w v bs) (hz:wa.heap.size ≤ wb.heap.size) : NewB wa w v bs := own_less h hz
end
section
variable {w w0:World} {D:Nat} {S S':AD} {O I:Nat → Prop} {L L':RLay} {k:KV}
theorem r_push {X a B n:Nat} {sv hv rb:Value} {p:Chg × Value} {cs:List Value} {kk:Value → Value → Value → Value → Value → Value → Value → KV} (hb:w.heap[X]? = some (.cells #[sv,hv,rb] 156 (0,0))) (ha:w.heap[a]? = some (.cells (chCells p).toArray 186 (0,0)))
    (hrow:w.ownsRow B 186 3 rb n cs) (hB:B ≤ w.heap.size) (hn:n ≤ 1099511627776) (hp:∀ u ∈ chCells p,u.oneCell' = true) (haR:sblk rb ≠ some a)
    (hk:∀ w' rb',w'.heap[X]? = some (.cells #[sv,hv,rb'] 156 (0,0)) → w'.ownsRow B 186 3 rb' (n + 1) (cs ++ chCells p) → Fr (fun b => b = X ∨ sblk rb = some b) w w' → (∀ b,sblk rb' = some b → sblk rb = some b ∨ w.heap.size ≤ b) → ∀ x1 x2 x3 x4 x5 x6 x7 x8,kk x1 x2 x3 x4 x5 x6 x7 x8 w') :
    ∃ S_ : World → Prop,S_ w.drew ∧ (fun w =>
      pq P S_ (nilSem (ptr X)) fun v95 =>
      pq P S_ (Instr.fieldAt 156 v95 2) fun v96 =>
      pq P S_ (Instr.loadAt 154 v96) fun v97 =>
      pq P S_ (Instr.loadAt 186 (ptr a)) fun v98 =>
      px P (Instr.buildSlice 154 1 #[(0,v98)]) w fun v99 w => S_ w ∧ (
      px P (bSem .append #[154,154] 154 #[v97,v99]) w fun v100 w => S_ w ∧ (
      pq P S_ (nilSem (ptr X)) fun v101 =>
      pq P S_ (Instr.fieldAt 156 v101 2) fun v102 =>
      pu P (Instr.storeAt 154 v102 v100) w fun w => (
      kk v95 v96 v97 v98 v99 v100 v101 v102 w)))) w.drew := by
  have hrX : ∀ b,sblk rb = some b → b ≠ X := by
    rintro b hb' rfl
    obtain ⟨c1,h1⟩ := own_obj hrow hb'
    exact absurd (two_types h1 hb) (by decide)
  have fd : Fr no w w.drew := Fr.drew _ _
  refine ⟨fun u => u.heap[X]? = some (.cells #[sv,hv,rb] 156 (0,0)) ∧ u.heap[a]? = some (.cells (chCells p).toArray 186 (0,0)),⟨hb,ha⟩,?_⟩
  refine q_of _ (fun w_ hS => s_nil ⟨rfl,rfl⟩) (q_of _ (fun w_ hS => fa156_2 ⟨rfl,rfl⟩) (q_of rb (fun w_ hS => s_ldb (isAgg154 _) hS.1 rfl ⟨rfl,rfl⟩) (q_of (.agg (chCells p).toArray) (fun w_ hS => s_ldChg hS.2 ⟨rfl,rfl⟩) ?_)))
  refine px_ok (w' := w.drew.alloc (.cells (chCells p).toArray 186)) (v := .slice (some ⟨w.drew.heap.size,0,none⟩) 1 1) (by obtain ⟨c,s⟩ := p; cases c <;> kernel_rfl) ?_
  have f3 := Fr.alloc no w.drew (.cells (chCells p).toArray 186)
  have ho3 := own_lit w.drew 0 186 3 (chCells p).toArray 1 (Nat.zero_le _) (by unfold maxLen; omega) (by simp [chCells_len])
  have z3 : (w.drew.alloc (.cells (chCells p).toArray 186)).heap.size = w.heap.size + 1 := by simp
  generalize w.drew.alloc (.cells (chCells p).toArray 186) = w3 at *
  have f23 : Fr no w w3 := fd.trans f3 fun b => .inl
  refine ⟨⟨f23.get hb id,f23.get ha id⟩,?_⟩
  refine ap154 (own_fr hrow f23 fun _ _ h => h) (Src.of_own ho3) (by simpa using hp) (by omega) (by omega) fun v4 w4 h4 f4 hb4 => ?_
  have b4 := f4.get (f23.get hb id) fun hb' => hrX _ hb'.symm rfl
  have a4 := f4.get (f23.get ha id) fun hb' => haR hb'.symm
  refine ⟨⟨b4,a4⟩,?_⟩
  refine q_of _ (fun w_ hS => s_nil ⟨rfl,rfl⟩) (q_of _ (fun w_ hS => fa156_2 ⟨rfl,rfl⟩) ?_)
  have v4o := own_one h4
  refine s_st (sizeOf154 _) v4o.1 v4o.2 b4 (by show 2 < 3; decide) ?_
  have b5 := set_same b4 2 v4
  have f5 : Fr (fun b => b = X) w4 (w4.setCell ⟨X,2,none⟩ v4) := Fr.setCell w4 ⟨X,2,none⟩ _
  have hblk4 : ∀ b,sblk v4 = some b → sblk rb = some b ∨ w.heap.size ≤ b := by
    intro b hb'
    rcases hb4 with e | e
    · exact .inl (e ▸ hb')
    · rw [e] at hb'; injection hb' with hb'; exact .inr (by omega)
  have hv4X : ∀ b,sblk v4 = some b → b ≠ X := by
    rintro b hb' rfl
    obtain ⟨c1,h1⟩ := own_obj h4 hb'
    exact absurd (two_types h1 b4) (by decide)
  refine hk _ v4 b5 (own_fr (by simpa using h4) f5 hv4X) (((f23.mono fun b hb' => hb'.elim).trans f4 fun b hb' => .inl (.inr hb'.symm)).trans f5 fun b hb' => .inl (.inl hb')) hblk4 _ _ _ _ _ _ _ _
theorem chData {p:Chg × Value} (h:ChgOk w I p) : ∃ d,SB w I p.2 d ∧ d.length ≤ p.1.units ∧ (chCells p)[2]? = some p.2 ∧ ∀ (w0 w1:World) s,NewB w0 w1 s d → ChNew w0 w1 (p.1,s) := by
 obtain ⟨c,s⟩ := p
 cases c with
 | wr a d => exact ⟨d,h,Nat.le_refl _,rfl,fun _ _ _ h => h⟩
 | cut n => exact ⟨[],h,Nat.zero_le _,rfl,fun _ _ _ h => h⟩
theorem chSet (p:Chg × Value) (u:Value) : (chCells p).toArray.setIfInBounds 2 u = (chCells (p.1,u)).toArray := by
 obtain ⟨c,s⟩ := p
 cases c <;> rfl
theorem ChNew.cells {w0 w:World} {p:Chg × Value} (h:ChNew w0 w p) : ∀ u ∈ chCells p,u.oneCell' = true := by
 obtain ⟨c,s⟩ := p
 cases c with
 | wr a d =>
  obtain ⟨A,cp,rfl,_⟩ := (NewB.sb (v := s) h).form
  intro u hu; simp [chCells] at hu; rcases hu with rfl | rfl | rfl <;> rfl
 | cut n =>
  obtain ⟨A,cp,rfl,_⟩ := (NewB.sb (v := s) h).form
  intro u hu; simp [chCells] at hu; rcases hu with rfl | rfl | rfl <;> rfl
theorem ChNew.less {wa wb:World} {p:Chg × Value} (h:ChNew wb w p) (hz:wa.heap.size ≤ wb.heap.size) : ChNew wa w p := by
 obtain ⟨c,s⟩ := p
 cases c with
 | wr a d => exact NewB.less (v := s) h hz
 | cut n => exact NewB.less (v := s) h hz
def OtherB (w:World) (M:Nat → Prop) : Prop := ∀ b,M b → ∀ c T,w.heap[b]? = some (.cells c T (0,0)) → T ≠ 5
theorem OtherB.byte {M:Nat → Prop} (hM:OtherB w M) {v:Value} {bs:Bytes} {wb:World} (h:NewB wb w v bs) : ∀ b,sblk v = some b → ¬ M b := fun b hb hm => by
 obtain ⟨c,hc⟩ := own_obj h hb
 exact hM b hm c _ hc rfl
theorem ChNew.frB {w' wb:World} {p:Chg × Value} {M:Nat → Prop} (h:ChNew wb w p) (hf:Fr M w w') (hM:OtherB w M) : ChNew wb w' p := by
 obtain ⟨c,s⟩ := p
 cases c with
 | wr a d => exact NewB.fr (v := s) h hf (hM.byte (v := s) h)
 | cut n => exact NewB.fr (v := s) h hf (hM.byte (v := s) h)
set_option maxHeartbeats 1000000 in
/-- A thing's twin,put behind those that were made. -/
theorem r_twinNew {ov mv:Value} {t c:Nat} {wb:World} {tl:RTwins} (h:RRep w D S O I L) (ht:L.has t) (hT:(S.things t).Ok c) (hc:c ≤ 1099511627776) (hwb:wb.heap.size ≤ w.heap.size) (hl:tl.length ≤ 1099511627776)
    (ho:w.ownsRow wb.heap.size 142 1 ov tl.length (oldCells L tl)) (hm:w.ownsRow wb.heap.size 142 1 mv tl.length (madeCells' tl)) (hne:∀ b,sblk ov = some b → sblk mv ≠ some b) (hhas:∀ p ∈ tl,L.has p.1) (hnew:∀ p ∈ tl,p.1 ≠ t)
    (hk:∀ w' ov' mv' T rb,w'.ownsRow wb.heap.size 142 1 ov' (tl.length + 1) (oldCells L (tl ++ [(t,T,rb)])) → w'.ownsRow wb.heap.size 142 1 mv' (tl.length + 1) (madeCells' (tl ++ [(t,T,rb)])) → (∀ b,sblk ov' = some b → sblk mv' ≠ some b) → RTNew w w' T rb (S.things t) →
      Fr (fun b => sblk ov = some b ∨ sblk mv = some b) w w' → k (.tuple #[ov',mv']) w') : pFn P 86 [ov,mv,ptr (L.loc t)] w k := by
  have hblk : ∀ t,L.has t → Blk w (L.loc t) := fun t ht => by obtain ⟨c,h⟩ := (h.things t ht).obj; exact ⟨c,_,h⟩
  refine F86_in _ _ _ _ _ ?_
  unfold F86_0
  show px P (binSem BinOp.eql 142 _ _ (ptr (L.loc t)) (.pointer none)) w _
  refine s_eqpn upt142 (pG_yes rfl (pG_yes rfl (pG_yes rfl (pG_yes rfl ?_))))
  refine r_other (Src.of_own ho) (Src.of_own hm) (by omega) (hblk t ht) (fun p hp => hblk _ (hhas p hp)) (fun p hp e => absurd (h.inj _ _ (hhas p hp) ht e) (hnew p hp)) fun _ => ?_
  refine pG_yes rfl (s_nepn upt142 (s_pick_f (pC_false ?_)))
  have hT0 := h.things t ht
  obtain ⟨sv,hv,ps,hb,g1,g2,g3,g4,g5⟩ := hT0.ex
  have hlen := hT.ok.len
  have fd : Fr no w w.drew := Fr.drew _ _
  refine ⟨fun u => u.heap[L.loc t]? = some (.cells #[sv,hv,L.trow t] 156 (0,0)),hb,?_⟩
  refine q_of _ (fun w_ hS => s_nil ⟨rfl,rfl⟩) (q_of _ (fun w_ hS => fa156_0 ⟨rfl,rfl⟩) (q_of sv (fun w_ hS => s_ldb (isAgg36 _) hS rfl ⟨rfl,rfl⟩) ?_))
  refine q_of _ (fun w_ hS => s_nil ⟨rfl,rfl⟩) (q_of _ (fun w_ hS => fa156_1 ⟨rfl,rfl⟩) (q_of hv (fun w_ hS => s_ldb (isAgg36 _) hS rfl ⟨rfl,rfl⟩) ?_))
  refine r_copied (g1.1.fr fd fun _ _ h => h) (by omega) fun v1 w1 n1 f1 => ?_
  have f01 : Fr no w w1 := fd.trans f1 fun b => .inl
  refine ⟨f01.get hb id,?_⟩
  refine r_copied (g2.1.fr f01 fun _ _ h => h) (by omega) fun v2 w2 n2 f2 => ?_
  have f02 : Fr no w w2 := f01.trans f2 fun b => .inl
  obtain ⟨A1,c1,ev1,_⟩ := n1.sb.form
  obtain ⟨A2,c2,ev2,_⟩ := n2.sb.form
  subst ev1; subst ev2
  refine ⟨f02.get hb id,q_of (.agg #[.slice A1 (S.things t).safe.length c1,.slice A2 (S.things t).shown.length c2,.slice none 0 0]) (fun w_ hS => px_ok (w' := w_) (by kernel_rfl) ⟨rfl,rfl⟩) (s_box ?_)⟩
  have bX := alloc_new w2 (.cells #[.slice A1 (S.things t).safe.length c1,.slice A2 (S.things t).shown.length c2,.slice none 0 0] 156)
  have fX := Fr.alloc no w2 (.cells #[.slice A1 (S.things t).safe.length c1,.slice A2 (S.things t).shown.length c2,.slice none 0 0] 156)
  have zX : (w2.alloc (.cells #[.slice A1 (S.things t).safe.length c1,.slice A2 (S.things t).shown.length c2,.slice none 0 0] 156)).heap.size = w2.heap.size + 1 := by simp
  show (_ ∧ _)
  have hwT : w2.alloc (.cells (Value.agg #[.slice A1 (S.things t).safe.length c1,.slice A2 (S.things t).shown.length c2,.slice none 0 0]).cells 156) = w2.alloc (.cells #[.slice A1 (S.things t).safe.length c1,.slice A2 (S.things t).shown.length c2,.slice none 0 0] 156) := rfl
  rw [hwT]
  generalize w2.alloc (.cells #[.slice A1 (S.things t).safe.length c1,.slice A2 (S.things t).shown.length c2,.slice none 0 0] 156) = w3 at *
  have f03 : Fr no w w3 := f02.trans fX fun b => .inl
  refine ⟨f03.get hb id,?_⟩
  have z02 := f02.size
  have hX : w.heap.size ≤ w2.heap.size := z02
  have hrl := hT.row
  have N1 : NewB w w3 (.slice A1 (S.things t).safe.length c1) (S.things t).safe := NewB.less (own_fr (own_fr n1 f2 fun _ _ h => h) fX fun _ _ h => h) fd.size
  have N2 : NewB w w3 (.slice A2 (S.things t).shown.length c2) (S.things t).shown := NewB.less (own_fr n2 fX fun _ _ h => h) f01.size
  generalize w2.heap.size = X at *
  refine F86L1_inv (m := (S.things t).row.length) k (fun m ρ w' => ∃ (j:Nat) (rb:Value) (qs:List (Chg × Value)),j + m = (S.things t).row.length ∧ Fr no w w' ∧ ρ 0 = ov ∧ ρ 1 = mv ∧ ρ 2 = ptr (L.loc t) ∧ ρ 8 = ptr X ∧ ρ 9 = i64 j ∧
      w'.heap[X]? = some (.cells #[.slice A1 (S.things t).safe.length c1,.slice A2 (S.things t).shown.length c2,rb] 156 (0,0)) ∧ NewB w w' (.slice A1 (S.things t).safe.length c1) (S.things t).safe ∧ NewB w w' (.slice A2 (S.things t).shown.length c2) (S.things t).shown ∧
      w'.ownsRow w.heap.size 186 3 rb j (qs.flatMap chCells) ∧ qs.map (·.1) = (S.things t).row.take j ∧ ∀ p ∈ qs,ChNew w w' p) ?_
    ⟨0,.slice none 0 0,[],by omega,f03,rfl,rfl,rfl,rfl,rfl,bX,N1,N2,⟨rfl,.inl ⟨rfl,rfl⟩⟩,rfl,by simp⟩
  rintro m ρ w' ⟨j,rb,qs,hjm,hf,e0,e1,e2,e8,e9,bx,m1,m2,m3,m4,m5⟩
  have h' := h.fr hf fun b hb => hb.elim
  have hT' := h'.things t ht
  rw [F86_1_eq]
  unfold F86_1
  rw [e2,e8,e9]
  refine s_rowLen hT' fun q1 q2 => ?_
  by_cases hj : j < (S.things t).row.length
  · refine s_lt_t (by omega) (pC_true (s_rowAt hT' hj fun q1 q2 q3 p hp hpe => ?_))
    refine r_chgVar hp.cells fun w4 ha f4 z4 => ?_
    obtain ⟨d,hd,hdu,hd2,hd3⟩ := chData hp
    refine fa186_2 (s_ldb (v := p.2) (isAgg36 _) ha (by simpa using hd2) ?_)
    have hdl : d.length ≤ 1099511627776 := by
      have hu := hT.ok.units_at p.1 (by rw [hpe]; exact List.getElem_mem hj)
      omega
    refine r_copied (hd.1.fr f4 fun _ _ h => h) (by omega) fun v5 w5 n5 f5 => ?_
    obtain ⟨A5,c5,ev5,_⟩ := n5.sb.form
    subst ev5
    refine fa186_2 (s_st (sizeOf36 _) rfl rfl (f5.get ha id) (by simp [chCells_len]) ?_)
    have a6 := set_same (f5.get ha id) 2 (.slice A5 d.length c5)
    rw [chSet] at a6
    have f6 : Fr (fun b => b = w'.heap.size) w5 (w5.setCell ⟨w'.heap.size,2,none⟩ (.slice A5 d.length c5)) := Fr.setCell w5 ⟨w'.heap.size,2,none⟩ _
    have z6 : (w5.setCell ⟨w'.heap.size,2,none⟩ (.slice A5 d.length c5)).heap.size = w5.heap.size := by simp [World.setCell]
    show ∃ S_ : World → Prop,S_ (w5.setCell ⟨w'.heap.size,2,none⟩ (.slice A5 d.length c5)).drew ∧ _
    generalize w5.setCell ⟨w'.heap.size,2,none⟩ (.slice A5 d.length c5) = w6 at *
    have f45 : Fr no w' w5 := f4.trans f5 fun b => .inl
    have hXw : X < w'.heap.size := lt_of_get bx
    have hrbw : ∀ b,sblk rb = some b → b < w'.heap.size := fun b hb' => (own_blk_lt m3 hb').2
    have z5 := f5.size
    have zw' := hf.size
    have bx6 := f6.get (f45.get bx id) (show ¬ (X = w'.heap.size) by omega)
    have row6 := own_fr (own_fr m3 f45 fun _ _ h => h) f6 fun b hb' (e:b = w'.heap.size) => by have := hrbw b hb'; omega
    have c5n : ChNew w w5 (p.1,.slice A5 d.length c5) := (hd3 w4 w5 _ n5).less (by omega)
    refine r_push (p := (p.1,.slice A5 d.length c5)) bx6 a6 row6 (by omega) (by omega) c5n.cells (fun e => by have := hrbw _ e; omega) fun w7 rb7 bx7 row7 f7 hb7 => ?_
    intros
    refine s_add_in (by omega) ⟨m - 1,by omega,j + 1,rb7,qs ++ [(p.1,.slice A5 d.length c5)],by omega,?_,e0,e1,e2,e8,?_,bx7,?_,?_,by rw [List.flatMap_append]; simpa using row7,?_,fun q hq => ?_⟩
    · have f56 : Fr no w w6 := (hf.trans f45 fun b => .inl).trans f6 fun b hb' => .inr (by omega)
      refine f56.trans f7 fun b hb' => .inr ?_
      rcases hb' with e | e
      · rw [e]; exact hX
      · exact (own_blk_lt m3 e).1
    · show i64 _ = i64 _; simp
    all_goals
      have g17 : Fr (fun b => b = X ∨ sblk rb = some b) w' w7 := ((f45.mono fun b hb' => hb'.elim).trans f6 (fun b (hb':b = w'.heap.size) => .inr (by omega))).trans f7 fun b => .inl
      have oB : OtherB w' (fun b => b = X ∨ sblk rb = some b) := by
        rintro b (rfl | e) c T hcT
        · have := two_types hcT bx; rw [this]; decide
        · obtain ⟨c2,h2⟩ := own_obj m3 e
          have := two_types hcT h2; rw [this]; decide
    · exact NewB.fr m1 g17 (oB.byte m1)
    · exact NewB.fr m2 g17 (oB.byte m2)
    · rw [List.map_append,m4,List.take_succ_eq_append_getElem hj,← hpe]; rfl
    · rcases List.mem_append.1 hq with hq | hq
      · exact (m5 q hq).frB g17 oB
      · rw [List.mem_singleton] at hq; subst hq
        have g57 : Fr (fun b => b = w'.heap.size ∨ b = X ∨ sblk rb = some b) w5 w7 := (f6.mono fun b hb' => .inl (.inl hb')).trans f7 fun b hb' => .inl (.inr hb')
        refine c5n.frB g57 ?_
        rintro b (rfl | rfl | e) c T hcT
        · have := two_types hcT (f5.get ha id); rw [this]; decide
        · have := two_types hcT (f45.get bx id); rw [this]; decide
        · obtain ⟨c2,h2⟩ := own_obj m3 e
          have := two_types hcT (f45.get h2 id); rw [this]; decide
  · refine s_lt_f (by omega) (pC_false ?_)
    rw [F86_2_eq]
    suffices hs : ∀ ρ2 : Env,ρ2 0 = ov → ρ2 1 = mv → ρ2 2 = ptr (L.loc t) → ρ2 8 = ptr X → F86_2 k ρ2 w' from hs _ e0 e1 e2 e8
    intro ρ2 a0 a1 a2 a8
    unfold F86_2
    rw [a0,a1,a2,a8]
    rw [List.take_of_length_le (by omega)] at m4
    have hjl : j = (S.things t).row.length := by omega
    subst hjl
    have ow := own_fr ho hf fun _ _ h => h
    have mw := own_fr hm hf fun _ _ h => h
    have zw' := hf.size
    refine pl139 ow rfl (by intro u hu; simp at hu; subst hu; rfl) (by omega) (by omega) fun u8 v8 w8 h8 f8 hb8 => ?_
    have mw8 := own_fr mw f8 fun b hb' e => hne b e.symm hb'
    have z8 := f8.size
    refine pl139 mw8 rfl (by intro u hu; simp at hu; subst hu; rfl) (by omega) (by omega) fun u9 v9 w9 h9 f9 hb9 => ?_
    have hovw : ∀ b,sblk ov = some b → b < w.heap.size := fun b hb' => (own_blk_lt ho hb').2
    have hmvw : ∀ b,sblk mv = some b → b < w.heap.size := fun b hb' => (own_blk_lt hm hb').2
    have hne89 : ∀ b,sblk v8 = some b → ¬ (some b = sblk mv) := fun b hb' e => by
      rcases hb8 b hb' with h | h
      · exact hne b h e.symm
      · have := hmvw b e.symm; omega
    have g19 : Fr (fun b => sblk ov = some b ∨ sblk mv = some b) w' w9 := (f8.mono fun b hb' => .inl (.inl hb'.symm)).trans f9 fun b hb' => .inl (.inr hb'.symm)
    have oth : Other w' (fun b => sblk ov = some b ∨ sblk mv = some b) := by
      rintro b (e | e) c T hcT
      · obtain ⟨c2,h2⟩ := own_obj ow e
        have := two_types hcT h2; rw [this]; decide
      · obtain ⟨c2,h2⟩ := own_obj mw e
        have := two_types hcT h2; rw [this]; decide
    have hn : RTNew w w' X rb (S.things t) := ⟨⟨_,_,qs,bx,m1,m2,m3,m4,m5⟩,hX⟩
    refine hk w9 v8 v9 X rb ?_ ?_ (fun b hb' e => ?_) (hn.fr g19 oth) ((hf.mono fun b hb' => hb'.elim).trans g19 fun b => .inl)
    · have := own_fr h8 f9 hne89
      simpa [oldCells] using this
    · simpa [madeCells'] using h9
    · rcases hb9 b e with h | h
      · exact hne89 b hb' h.symm
      · rcases hb8 b hb' with h2 | h2
        · have := hovw b h2; omega
        · omega
theorem r_twinHas {ov mv:Value} {t:Nat} {tl:RTwins} (h:RRep w D S O I L) (ht:L.has t) (ho:Src w ov 1 tl.length (oldCells L tl)) (hm:Src w mv 1 tl.length (madeCells' tl)) (hl:tl.length ≤ 4611686018427387904) (hhas:∀ p ∈ tl,L.has p.1) (hin:t ∈ tl.map (·.1)) (hk:k (.tuple #[ov,mv]) w) : pFn P 86 [ov,mv,ptr (L.loc t)] w k := by
 have hblk : ∀ t,L.has t → Blk w (L.loc t) := fun t ht => by obtain ⟨c,h⟩ := (h.things t ht).obj; exact ⟨c,_,h⟩
 refine F86_in _ _ _ _ _ ?_
 unfold F86_0
 show px P (binSem BinOp.eql 142 _ _ (ptr (L.loc t)) (.pointer none)) w _
 refine s_eqpn upt142 (pG_yes rfl (pG_yes rfl (pG_yes rfl (pG_yes rfl ?_))))
 refine r_other ho hm (by omega) (hblk t ht) (fun p hp => hblk _ (hhas p hp)) (fun p hp e => ?_) fun hno => ?_
 ·unfold ptr
  exact pG_yes rfl (s_nepn upt142 (s_pick_f (pC_true hk)))
 ·obtain ⟨p,hp,e⟩ := List.mem_map.1 hin
  exact absurd (by rw [e]) (hno p hp)
theorem r_twinNil {ov mv:Value} (hk:k (.tuple #[ov,mv]) w) : pFn P 86 [ov,mv,.pointer none] w k := by
 refine F86_in _ _ _ _ _ ?_
 unfold F86_0
 refine s_eqpn upt142 ?_
 simp only [Option.isNone_none]
 repeat (first | refine pG_skf ?_ | refine pG_un ?_)
 exact s_pick_t (pC_true hk)
end
end Go.Proofs.YtcdcojpfealppaaGreat
