/- Put together by a program (wip/tools/shake.py): Pair7,Only,LoadsW,LoadsW2,FilesArg. -/
import Derived.Test.YtcdcojpfealppaaGreatY27
import Derived.Test.YtcdcojpfealppaaGreatY24
import Derived.Test.YtcdcojpfealppaaGreatY25
import Derived.Test.YtcdcojpfealppaaGreatY15
import Derived.Test.YtcdcojpfealppaaGreatY21
set_option linter.unusedVariables false
set_option linter.unusedSimpArgs false
set_option maxRecDepth 100000
namespace Go.Proofs.YtcdcojpfealppaaGreat
open Go Go.Proofs Go.RowKit Go.Proofs.XRed Go.Proofs.XHeap Go.Proofs.XMaps Go.Proofs.XSlices Go.Proofs.XDisk Go.Proofs.XCalls Go.Proofs.XSep Tryz
section
variable {w w0:World} {k:KV}
variable {W:World} {xb Pb D E K c:Nat} {x:StepA} {dv pv' bv pv:Value} {S T:AD} {bb:Bytes} {pp:List Int} {l:List Asrt}
abbrev PairAt (Pb D E K:Nat) (w:World) : Prop := w.heap[Pb]? = some (.cells #[ptr D,ptr E,ptr K] 33 (0,0))
theorem g_disk {rest:Value → Prop} (h:rest (ptr D)) : pGq (.bool true) true (fun k => k (ptr Pb)) fun a => pGq (.bool true) true (fun k => pq P (PairAt Pb D E K) (nilSem a) k) fun b => pGq (.bool true) true (fun k => pq P (PairAt Pb D E K) (Instr.fieldAt 33 b 0) k) fun c => pGq (.bool true) true (fun k => pq P (PairAt Pb D E K) (Instr.loadAt 29 c) k) rest :=
 pGq_yes rfl (pGq_yes rfl (q_of _ (fun w_ hS => s_nil ⟨rfl,rfl⟩) (pGq_yes rfl (q_of _ (fun w_ hS => fa33_0 ⟨rfl,rfl⟩) (pGq_yes rfl (q_of (ptr D) (fun w_ hS => s_ldb (isAgg29 _) hS rfl ⟨rfl,rfl⟩) h))))))
theorem g_ref {rest:Value → Prop} (h:rest (ptr E)) : pGq (.bool true) true (fun k => k (ptr Pb)) fun a => pGq (.bool true) true (fun k => pq P (PairAt Pb D E K) (nilSem a) k) fun b => pGq (.bool true) true (fun k => pq P (PairAt Pb D E K) (Instr.fieldAt 33 b 1) k) fun c => pGq (.bool true) true (fun k => pq P (PairAt Pb D E K) (Instr.loadAt 30 c) k) rest :=
 pGq_yes rfl (pGq_yes rfl (q_of _ (fun w_ hS => s_nil ⟨rfl,rfl⟩) (pGq_yes rfl (q_of _ (fun w_ hS => fa33_1 ⟨rfl,rfl⟩) (pGq_yes rfl (q_of (ptr E) (fun w_ hS => s_ldb (isAgg30 _) hS rfl ⟨rfl,rfl⟩) h))))))
theorem FilesV.fr0 {w w':World} {B:Nat} {v:Value} {fs:List (ByteArray × Bytes)} (h:FilesV w B v fs) (hf:Fr no w w') : FilesV w' B v fs := by
 obtain ⟨ps,h1,h2,h3⟩ := h
 have z := hf.size
 exact ⟨ps,all2_imp h1 fun f p ⟨a,b,c⟩ => ⟨a,b.fr hf fun _ _ h => h,fun x hx => ⟨(c x hx).1,by have := (c x hx).2.1; omega,(c x hx).2.2⟩⟩,own_fr h2 hf fun _ _ h => h,h3⟩
theorem s_eqb {a b:Bool} {w:World} {x y:Operand} {k:KV} (h:a = b) (hk:k (.bool true) w) : px P (binSem .eql 4 x y (.bool a) (.bool b)) w k := by
 subst h
 exact s_bin (by simp) (by simp) (run_eql_bool w 4 a a underlying4) (by simpa using hk)
theorem PairAt.of {l:List Asrt} (h:Sep (Cells Pb #[ptr D,ptr E,ptr K] 33 :: l) w) : PairAt Pb D E K w := h.cells 0 rfl
set_option maxHeartbeats 1000000 in
theorem st_stands (hS:Sep (PairL Pb D E K S bv pv bb pp l) w) (ok:S.Ok c) (hk:∀ w',Sep (PairL Pb D E K S bv pv bb pp l) w' → k (.bool true) w') : pFn P 19 [ptr Pb] w k := by
 refine F19_in _ _ _ ?_
 unfold F19_0
 replace hS := hS.q (Fr.drew _ _)
 refine ⟨PairAt Pb D E K,.of hS,?_⟩
 refine q_of _ (fun w_ hS => s_nil ⟨rfl,rfl⟩) (q_of _ (fun w_ hS => fa33_0 ⟨rfl,rfl⟩) (q_of (ptr D) (fun w_ hS => s_ldb (isAgg29 _) hS rfl ⟨rfl,rfl⟩) ?_))
 refine q_of _ (fun w_ hS => s_nil ⟨rfl,rfl⟩) (q_of _ (fun w_ hS => fa33_1 ⟨rfl,rfl⟩) (q_of (ptr E) (fun w_ hS => s_ldb (isAgg30 _) hS rfl ⟨rfl,rfl⟩) ?_))
 have hus := used_small ok
 have hsl := ok.turns.len.1
 obtain ⟨O,I,L,d,-⟩ := Sep.disk hS 1 rfl
 refine c_off d.disk ok.room.1 ⟨.of hS,?_⟩
 obtain ⟨O,I,L,r,-⟩ := Sep.ref hS 2 rfl
 refine r_off r ⟨.of hS,q_of (.bool true) (fun w_ hS => s_eqb rfl ⟨rfl,rfl⟩) ?_⟩
 refine g_disk (g_ref ?_)
 obtain ⟨O,I,L,d,-⟩ := Sep.disk hS 1 rfl
 refine pG_yes rfl (c_strokes d.disk ok.room.1 ⟨.of hS,?_⟩)
 obtain ⟨O,I,L,r,-⟩ := Sep.ref hS 2 rfl
 refine pG_yes rfl (r_strokes r ⟨.of hS,pGq_yes rfl (q_of (.bool true) (fun w_ hS => s_eqi_t rfl ⟨rfl,rfl⟩) (q_of (.bool true) (fun w_ hS => s_pick_t ⟨rfl,rfl⟩) ?_))⟩)
 refine g_disk (g_ref ?_)
 obtain ⟨O,I,L,d,-⟩ := Sep.disk hS 1 rfl
 refine pG_yes rfl (c_used d ok.room.1 (by omega) fun w1 f1 => ?_)
 replace hS := hS.q f1
 refine ⟨.of hS,?_⟩
 obtain ⟨O,I,L,r,-⟩ := Sep.ref hS 2 rfl
 refine pG_yes rfl (r_used r (by omega) (by omega) ⟨.of hS,pGq_yes rfl (q_of (.bool true) (fun w_ hS => s_eqi_t rfl ⟨rfl,rfl⟩) (q_of (.bool true) (fun w_ hS => s_pick_t ⟨rfl,rfl⟩) ?_))⟩)
 refine g_disk (g_ref ?_)
 obtain ⟨O,I,L,d,-⟩ := Sep.disk hS 1 rfl
 refine pG_yes rfl (c_room d.disk ok.room.1 ⟨.of hS,?_⟩)
 obtain ⟨O,I,L,r,-⟩ := Sep.ref hS 2 rfl
 refine pG_yes rfl (r_room r ⟨.of hS,pGq_yes rfl (q_of (.bool true) (fun w_ hS => s_eqi_t rfl ⟨rfl,rfl⟩) (q_of (.bool true) (fun w_ hS => s_pick_t ⟨rfl,rfl⟩) ?_))⟩)
 refine g_disk (g_ref ?_)
 obtain ⟨O,I,L,d,-⟩ := Sep.disk hS 1 rfl
 refine pG_yes rfl (c_files sortsKeys d ok (shownMax ok) fun w2 v2 g2  f2 => ?_)
 replace hS := hS.q f2
 refine ⟨.of hS,?_⟩
 obtain ⟨O,I,L,r,-⟩ := Sep.ref hS 2 rfl
 refine pG_yes rfl (r_files r ok fun w3 v3 g3  f3 => ?_)
 replace hS := hS.q f3
 refine ⟨.of hS,pG_yes rfl (c_filesEq (g2.fr0 f3) g3 (files_small ok).1 (files_small ok).2 fun  w4 f4  => ?_)⟩
 rw [decide_eq_true rfl]
 replace hS := hS.q f4
 refine ⟨.of hS,q_of (.bool true) (fun w_ hS => s_pick_t ⟨rfl,rfl⟩) ?_⟩
 refine g_disk (g_ref ?_)
 obtain ⟨O,I,L,d,-⟩ := Sep.disk hS 1 rfl
 refine pG_yes rfl (c_safe sortsKeys d ok (safeMax ok) fun w5 v5 g5  f5 => ?_)
 replace hS := hS.q f5
 refine ⟨.of hS,?_⟩
 obtain ⟨O,I,L,r,-⟩ := Sep.ref hS 2 rfl
 refine pG_yes rfl (r_safe r ok fun w6 v6 g6  f6 => ?_)
 replace hS := hS.q f6
 refine ⟨.of hS,pG_yes rfl (c_filesEq (g5.fr0 f6) g6 (safes_small ok).1 (safes_small ok).2 fun  w7 f7  => ?_)⟩
 rw [decide_eq_true rfl]
 replace hS := hS.q f7
 refine ⟨.of hS,q_of (.bool true) (fun w_ hS => s_pick_t ⟨rfl,rfl⟩) ?_⟩
 refine g_disk (g_ref ?_)
 obtain ⟨O,I,L,d,-⟩ := Sep.disk hS 1 rfl
 refine pG_yes rfl (c_reads d ok fun w8 A8 c8 g8 b8 f8 => ?_)
 replace hS := hS.q f8
 refine ⟨.of hS,?_⟩
 obtain ⟨O,I,L,r,-⟩ := Sep.ref hS 2 rfl
 refine pG_yes rfl (r_reads r ok fun w9 v9 g9 b9 f9 => ?_)
 replace hS := hS.q f9
 refine ⟨.of hS,pG_yes rfl (c_spansEq (g8.fr (by omega) f9 fun _ _ h => h) g9 (by have := ok.reads; have := ok.small; omega) fun bo8 w10 f10 hb8 => ?_)⟩
 rw [hb8.2 rfl]
 replace hS := hS.q f10
 refine ⟨.of hS,q_of (.bool true) (fun w_ hS => s_pick_t ⟨rfl,rfl⟩) ?_⟩
 refine g_disk (g_ref ?_)
 obtain ⟨O,I,L,d,-⟩ := Sep.disk hS 1 rfl
 refine pG_yes rfl (c_list d ok _ fun w11 v11 g11 b11 f11 => ?_)
 replace hS := hS.q f11
 refine ⟨.of hS,?_⟩
 obtain ⟨O,I,L,r,-⟩ := Sep.ref hS 2 rfl
 refine pG_yes rfl (r_list r ok _ fun w12 v12 g12 b12 f12 => ?_)
 replace hS := hS.q f12
 refine ⟨.of hS,pG_yes rfl (c_namesEq (g11.fr (by omega) f12 fun _ _ h => h) g12 (by have := names_len S ok (ByteArray.mk #[]); omega) fun bo11 w13 f13 hb11 => ?_)⟩
 rw [hb11.2 rfl]
 replace hS := hS.q f13
 refine ⟨.of hS,q_of (.bool true) (fun w_ hS => s_pick_t ⟨rfl,rfl⟩) ?_⟩
 exact hk _ hS
end
section
variable {w w0:World} {k:KV}
variable {W:World} {Pb D E K c:Nat} {S T:AD} {l:List Asrt}
structure Both (W:World) (l:List Asrt) (Pb K:Nat) (S:AD) (c:Nat) (w:World) : Prop where
 ex : ∃ D E bv pv bb pp,Sep (PairL Pb D E K S bv pv bb pp (Base W :: l)) w ∧ bb.length ≤ 1000000
 ok : S.Ok c
theorem Both.fr (h:Both W l Pb K S c w) : Fr no W w := by
 obtain ⟨⟨D,E,bv,pv,bb,pp,hS,_⟩,_⟩ := h
 exact hS.base_at 4 rfl
theorem b_step {v:Value} {s:Script} {i:Nat} (h:Both W l Pb K S c w) (hc:c ≤ 100000) (hv:ScriptV W v s) (hi:i < s.length) (hbd:∀ p ∈ s,p.1.data.length ≤ 100000 ∧ p.1.picks.length ≤ 12500) (hk:∀ w',Both W l Pb K (S.doStep s[i].1).2 (c + 1) w' → k (.bool true) w') : pFn P 18 [ptr Pb,stepVal s[i].1 s[i].2.1 s[i].2.2] w k := by
 obtain ⟨⟨D,E,bv,pv,bb,pp,hS,hbb⟩,ok⟩ := h
 have hm : s[i] ∈ s := List.getElem_mem hi
 refine st_step hS ok hc (hv.all _ hm) (hbd _ hm).1 (by have := (hbd _ hm).2; omega) hbb fun w' D' E' bv' pv'' bb' pp' hS' hb' => ?_
 exact hk w' ⟨⟨D',E',bv',pv'',bb',pp',hS',hb'⟩,ok.doStep (by omega) _⟩
theorem b_stands (h:Both W l Pb K S c w) (hk:∀ w',Both W l Pb K S c w' → k (.bool true) w') : pFn P 19 [ptr Pb] w k := by
 obtain ⟨⟨D,E,bv,pv,bb,pp,hS,hbb⟩,ok⟩ := h
 exact st_stands hS ok fun w' hS' => hk w' ⟨⟨D,E,bv,pv,bb,pp,hS',hbb⟩,ok⟩
end
section
variable {W w w0:World} {k:KV} {v gv rv:Value} {l:FilesL} {ps:RowsP}
def RmA (gv rv:Value) (ps:RowsP) : Asrt where
 h w O I := (∃ G cap cs,gv = .slice (some ⟨G,0,none⟩) ps.length cap ∧ w.heap[G]? = some (.cells cs 83 (0,0)) ∧ cs.size = ps.length * 2 ∧ O G) ∧ (w.ownsRow 0 36 1 rv ps.length (rCells ps) ∧ ∀ b,sblk rv = some b → O b) ∧
  (∀ p ∈ ps,∃ cs,w.heap[p.2]? = some (.cells cs 5 (0,0)) ∧ cs.size = p.1.2.length + 5 ∧ O p.2) ∧ (∀ b,O b → b < w.heap.size) ∧ ∀ b,¬ I b
 fr := fun ⟨⟨G,cap,cs,h1,h2,h3,h4⟩,⟨h5,h6⟩,h7,h8,h9⟩ hf hm => ⟨⟨G,cap,cs,h1,hf.get h2 fun h => (hm _ h).1 h4,h3,h4⟩,⟨own_fr h5 hf fun b hb h => (hm _ h).1 (h6 b hb),h6⟩,
  fun p hp => let ⟨cs,a,b,c⟩ := h7 p hp; ⟨cs,hf.get a fun h => (hm _ h).1 c,b,c⟩,fun b hb => Nat.lt_of_lt_of_le (h8 b hb) hf.size,h9⟩
 lt := fun ⟨_,_,_,h8,h9⟩ b hb => hb.elim (h8 b) fun h => absurd h (h9 b)
 ap := fun ⟨_,_,_,_,h9⟩ b _ => h9 b
theorem RmA.write {w w':World} {O I:Blks} {b:Nat} {cs cs':Array Value} {T:TypeId} (h:(RmA gv rv ps).h w O I) (hf:Fr (fun c => c = b) w w') (hb:w.heap[b]? = some (.cells cs T (0,0))) (hb':w'.heap[b]? = some (.cells cs' T (0,0))) (hs:cs'.size = cs.size) (hT:T ≠ 36) : (RmA gv rv ps).h w' O I := by
 obtain ⟨⟨G,cap,c0,h1,h2,h3,h4⟩,⟨h5,h6⟩,h7,h8,h9⟩ := h
 refine ⟨?_,⟨own_fr h5 hf fun c hc e => ?_,h6⟩,fun p hp => ?_,fun c hc => Nat.lt_of_lt_of_le (h8 c hc) hf.size,h9⟩
 ·by_cases e : G = b
  ·subst e
   rw [h2] at hb; injection hb with hb; injection hb with e1 e2 e3; subst e1 e2
   exact ⟨G,cap,cs',h1,hb',by omega,h4⟩
  ·exact ⟨G,cap,c0,h1,hf.get h2 e,h3,h4⟩
 ·obtain ⟨c1,hc1⟩ := own_obj h5 hc
  rw [show c = b from e] at hc1
  exact hT (two_types hb hc1)
 ·obtain ⟨c1,g1,g2,g3⟩ := h7 p hp
  by_cases e : p.2 = b
  ·rw [e] at g1
   rw [g1] at hb; injection hb with hb; injection hb with e1 e2 e3; subst e1 e2
   exact ⟨cs',by rw [e]; exact hb',by omega,g3⟩
  ·exact ⟨c1,hf.get g1 e,g2,g3⟩
theorem set_id {α:Type} : ∀ {l:List α} {i:Nat} {a:α},l[i]? = some a → l.set i a = l
 | [],_,_,h => by simp at h
 | x :: l,0,a,h => by simp at h; simp [h]
 | x :: l,i + 1,a,h => by simp at h; simp [set_id h]
variable {lst:List Asrt} {ix:Nat}
theorem RmA.put {w w':World} {b:Nat} {cs cs':Array Value} {T:TypeId} (hix:lst[ix]? = some (RmA gv rv ps)) (hS:Sep lst w) (hO:∀ O I,(RmA gv rv ps).h w O I → O b) (hf:Fr (fun c => c = b) w w') (hb:w.heap[b]? = some (.cells cs T (0,0))) (hb':w'.heap[b]? = some (.cells cs' T (0,0))) (hs:cs'.size = cs.size) (hT:T ≠ 36) : Sep lst w' := by
 obtain ⟨O,I,J,h1,h2,h3,h4⟩ := hS.at_ ix hix
 have := h4 _ w' O I (RmA.write h1 hf hb hb' hs hT) ⟨hf.mono fun c hc => .inl (by rw [hc]; exact hO O I h1),fun c => .inl,fun c hc => .inl (h2 c hc)⟩
 rwa [set_id hix] at this
theorem w_over2 {ρ0:Env} {N2:KE} {i:Nat} (hix:lst[ix]? = some (RmA gv rv ps)) (hi:i < ps.length) (hd:ps[i].1.2.length ≤ 100000) (hS:Sep lst w) (e10:ρ0 10 = rv) (e15:ρ0 15 = i64 i) (e16:ρ0 16 = i64 0)
    (hk:∀ (ρ:Env) w',(∀ t,t < 16 → ρ t = ρ0 t) → Sep lst w' → F13_6 k N2 ρ w') : F13L3 k N2 ρ0 w := by
  refine F13L3_inv (m := ps[i].1.2.length + 5) k N2 (fun m ρ w' => ∃ j : Nat,j + m = ps[i].1.2.length + 5 ∧ Sep lst w' ∧ (∀ t,t < 16 → ρ t = ρ0 t) ∧ ρ 16 = i64 j) ?_
    ⟨0,by omega,hS,fun _ _ => rfl,e16⟩
  rintro m ρ w' ⟨j,hjm,hS,hρ,e16⟩
  rw [F13_4_eq]
  unfold F13_4
  rw [(hρ 10 (by omega)).trans e10,(hρ 15 (by omega)).trans e15,e16]
  obtain ⟨O,I,hA⟩ := hS.get ix hix
  obtain ⟨cs,hB,hcs,-⟩ := hA.2.2.1 _ (List.getElem_mem hi)
  refine s_elem usl93 (sze93 _) (isAgg36 _) (Src.of_own hA.2.1.1) hi (rCells_at hi) fun q => ?_
  refine s_len usl36 ?_
  have n1 : ∀ t u,t < 16 → 80 ≤ u → t ≠ u := fun t u h h' => by omega
  by_cases hj : j < ps[i].1.2.length + 5
  · refine s_lt_t (by omega) (pC_true ?_)
    refine s_elem usl93 (sze93 _) (isAgg36 _) (Src.of_own hA.2.1.1) hi (rCells_at hi) fun q => ?_
    refine s_ixo usl36 (sze36 _) hj (s_st (sizeOf5 _) rfl rfl hB (by omega) (s_add_in (by omega) ?_))
    refine ⟨m - 1,by omega,j + 1,by omega,?_,fun t ht => ?_,?_⟩
    · exact RmA.put hix hS (fun O I h => by obtain ⟨c2,_,_,h3⟩ := h.2.2.1 _ (List.getElem_mem hi); exact h3) (Fr.setCell _ ⟨ps[i].2,j,none⟩ _) hB (set_same hB j _) (by simp) (by decide)
    · have e : t ≠ 16 := by omega
      rw [put_ne _ _ _ _ e]
      repeat rw [put_ne _ _ _ _ (n1 _ _ ht (by omega))]
      exact hρ t ht
    · show i64 _ = i64 _; simp
  · refine s_lt_f (by omega) (pC_false ?_)
    rw [F13_6_eq]
    refine hk _ w' (fun t ht => ?_) hS
    repeat rw [put_ne _ _ _ _ (n1 _ _ ht (by omega))]
    exact hρ t ht
theorem w_over {ρ0:Env} (hix:lst[ix]? = some (RmA gv rv ps)) (hl:ps.length ≤ 200000) (hd:∀ p ∈ ps,p.1.2.length ≤ 100000) (hS:Sep lst w) (e9:ρ0 9 = gv) (e10:ρ0 10 = rv) (e15:ρ0 15 = i64 0)
    (hk:∀ (ρ:Env) w',(∀ t,t < 15 → ρ t = ρ0 t) → Sep lst w' → F13_5 k ρ w') : F13L2 k ρ0 w := by
  refine F13L2_inv (m := ps.length) k (fun m ρ w' => ∃ i : Nat,i + m = ps.length ∧ Sep lst w' ∧ (∀ t,t < 15 → ρ t = ρ0 t) ∧ ρ 15 = i64 i) ?_
    ⟨0,by omega,hS,fun _ _ => rfl,e15⟩
  rintro m ρ w' ⟨i,him,hS,hρ,e15⟩
  rw [F13_3_eq]
  unfold F13_3
  obtain ⟨O,I,hA⟩ := hS.get ix hix
  obtain ⟨G,cap,cs,eg,-,-,-⟩ := hA.1
  have a9 : ρ 9 = .slice (some ⟨G,0,none⟩) ps.length cap := ((hρ 9 (by omega)).trans e9).trans eg
  rw [a9,e15]
  refine s_len usl71 ?_
  have n1 : ∀ t u,t < 16 → 16 ≤ u → t ≠ u := fun t u h h' => by omega
  by_cases hi : i < ps.length
  · refine s_lt_t (by omega) (pC_true ?_)
    refine w_over2 hix hi (hd _ (List.getElem_mem hi)) hS ((hρ 10 (by omega)).trans e10) e15 rfl fun ρ2 w2 h2 hS2 => ?_
    have b9 : ρ2 9 = .slice (some ⟨G,0,none⟩) ps.length cap := (h2 9 (by omega)).trans a9
    have b15 : ρ2 15 = i64 i := (h2 15 (by omega)).trans e15
    have bt : ∀ t,t < 15 → ρ2 t = ρ0 t := fun t ht => by
      rw [h2 t (by omega)]
      repeat rw [put_ne _ _ _ _ (n1 _ _ (by omega) (by omega))]
      exact hρ t ht
    unfold F13_6
    rw [b9,b15]
    obtain ⟨O2,I2,hA2⟩ := hS2.get ix hix
    obtain ⟨G2,cap2,cs2,eg2,hG2,hc2,-⟩ := hA2.1
    have : G2 = G := by rw [eg] at eg2; injection eg2 with h; injection h with h; injection h with h; exact h.symm
    subst this
    refine px_ok (w' := w2) (v := .agg #[.string (ByteArray.mk #[122,122]),.slice none 0 0]) (by kernel_rfl) ?_
    refine s_ix (i := (i:Int)) usl71 (sze71 _) (by omega) (by omega) ?_
    refine s_stN (n := 2) (vs := [.string (ByteArray.mk #[122,122]),.slice none 0 0]) (sizeOf83 _) rfl (by intro u hu; simp at hu; rcases hu with rfl | rfl <;> rfl) hG2 (by omega) fun w3 h3 f3 z3 => s_add_in (by omega) ?_
    refine ⟨m - 1,by omega,i + 1,by omega,?_,fun t ht => ?_,?_⟩
    · exact RmA.put hix hS2 (fun O I h => by obtain ⟨G',_,_,e',_,_,h'⟩ := h.1; rw [eg] at e'; injection e' with h; injection h with h; injection h with h; rw [h]; exact h') f3 hG2 h3 (by simp; omega) (by decide)
    · have e : t ≠ 15 := by omega
      rw [put_ne _ _ _ _ e]
      repeat rw [put_ne _ _ _ _ (n1 _ _ (by omega) (by omega))]
      exact bt t ht
    · show i64 _ = i64 _; simp
  · refine s_lt_f (by omega) (pC_false ?_)
    rw [F13_5_eq]
    refine hk _ w' (fun t ht => ?_) hS
    repeat rw [put_ne _ _ _ _ (n1 _ _ (by omega) (by omega))]
    exact hρ t ht
def glOf (ps:RowsP) (n:Nat) : FilesL := (ps.take n).map fun p => (p.1,.slice (some ⟨p.2,0,none⟩) p.1.2.length (p.1.2.length + 5))
theorem Roomy.gl {lo G cap:Nat} (h:Roomy w lo gv rv ps) (hps:ps.map (·.1) = fsOf l.plain) (eg:gv = .slice (some ⟨G,0,none⟩) ps.length cap) : FilesS w (.slice (some ⟨G,0,none⟩) l.length cap) (glOf ps l.length) ∧ (glOf ps l.length).plain = l.plain ∧ (glOf ps l.length).length = l.length := by
 have hpl : l.plain.length = l.length := by unfold FilesL.plain; simp
 have hN : ps.length = l.length + 5 := by have := congrArg List.length hps; simpa [fsOf_len,hpl] using this
 have hgl : (glOf ps l.length).length = l.length := by unfold glOf; simp; omega
 obtain ⟨G',cap',e',hc,hlo,hG⟩ := h.given
 rw [eg] at e'; injection e' with e1 e2 e3; injection e1 with e1; injection e1 with e1; subst e1 e3
 have hS : Src w (.slice (some ⟨G,0,none⟩) ps.length cap) 2 ps.length (gCells ps) := ⟨some ⟨G,0,none⟩,cap,rfl,hc,gCells_len ps,fun _ => ⟨G,0,rfl,fun j u hj => by rw [Nat.zero_add]; exact cell_blk hG (by simpa using hj)⟩⟩
 have hF := Src.front (m := l.length) hS (by omega)
 refine ⟨⟨?_,fun p hp => ?_⟩,?_,hgl⟩
 ·rw [hgl]
  have e : (gCells ps).take (l.length * 2) = (glOf ps l.length).flatMap fun p => [.string p.1.1,p.2] := by
   have hsp : gCells ps = gCells (ps.take l.length) ++ gCells (ps.drop l.length) := by
    unfold gCells; rw [← List.flatMap_append,List.take_append_drop]
   rw [hsp,List.take_append_of_le_length (by rw [gCells_len]; simp; omega),List.take_of_length_le (by rw [gCells_len]; simp; omega)]
   unfold gCells glOf
   rw [List.flatMap_map]
  rw [← e]; exact hF
 ·unfold glOf at hp
  obtain ⟨q,hq,rfl⟩ := List.mem_map.1 hp
  exact (h.row q (List.mem_of_mem_take hq)).front
 ·unfold FilesL.plain glOf
  rw [List.map_map]
  have : ((fun x:FileA × Value => x.1) ∘ fun p : FileA × Nat => (p.1,Value.slice (some ⟨p.2,0,none⟩) p.1.2.length (p.1.2.length + 5))) = fun p => p.1 := rfl
  rw [this,List.map_take,hps]
  unfold fsOf
  rw [List.take_append_of_le_length (by omega),List.take_of_length_le (by omega)]
  rfl
theorem Roomy.asrt {lo:Nat} (h:Roomy w lo gv rv ps) : (RmA gv rv ps).h w (fun b => lo ≤ b ∧ b < w.heap.size) fun _ => False := by
 obtain ⟨⟨G,cap,eg,hc,hlo,hG⟩,h2,h3⟩ := h
 exact ⟨⟨G,cap,_,eg,hG,by rw [List.size_toArray,gCells_len],hlo,lt_of_get hG⟩,⟨own_less h2 (Nat.zero_le _),fun b hb => own_blk_lt h2 hb⟩,fun p hp => ⟨_,(h3 p hp).2,by simp [u8s,rmRow],(h3 p hp).1,lt_of_get (h3 p hp).2⟩,fun b hb => hb.2,fun b h => h⟩
end
section
variable {W w w0:World} {k:KV} {v gv rv sv:Value} {l:FilesL} {ps:RowsP} {S:AD} {Pb K:Nat} {room:Int} {s:Script}
theorem w_loads4 {ll:List Asrt} (hv:ScriptV W sv s) (hl:s.length ≤ 300) (hbd:∀ p ∈ s,p.1.data.length ≤ 100000 ∧ p.1.picks.length ≤ 12500) (hk:∀ w',Fr no W w' → k (.bool true) w')
    {ρ:Env} {w:World} (e2:ρ 2 = sv) (e17:ρ 17 = ptr Pb) (e18:ρ 18 = i64 0) (h:Both W ll Pb K S 0 w) : F13L4 k ρ w := by
  refine F13L4_inv (m := s.length) k (fun m ρ w => ∃ (i:Nat) (S:AD),i + m = s.length ∧ ρ 2 = sv ∧ ρ 17 = ptr Pb ∧ ρ 18 = i64 i ∧ Both W ll Pb K S i w) ?_
    ⟨0,S,by omega,e2,e17,e18,h⟩
  rintro m ρ w ⟨i,S,him,e2,e17,e18,h⟩
  rw [F13_7_eq]
  unfold F13_7
  have hvw := hv.fr h.fr
  rw [e2,e17,e18]
  refine s_lenS usl22 hvw.src ?_
  by_cases hi : i < s.length
  · refine s_lt_t (by omega) (pC_true (s_step hvw hi fun p => ?_))
    refine b_step h (by omega) hv hi hbd fun w2 h2 => ?_
    refine s_not (pC_false (s_add_in (by omega) ?_))
    refine ⟨m - 1,by omega,i + 1,_,by omega,e2,e17,?_,h2⟩
    show i64 _ = i64 _; simp
  · refine s_lt_f (by omega) (pC_false ?_)
    rw [F13_8_eq]
    unfold F13_8
    show pFn P _ [ρ 17] _ _
    rw [e17]
    refine b_stands h fun w2 h2 => pG_yes rfl (c_known sortsKeys fun w3 f3 => s_pick_t (hk w3 (h2.fr.trans f3 fun b hb => hb.elim)))
theorem w_loads2 {D E:Nat} {lst:List Asrt} (hv:ScriptV W sv s) (hl:s.length ≤ 300) (hbd:∀ p ∈ s,p.1.data.length ≤ 100000 ∧ p.1.picks.length ≤ 12500) (hk:∀ w',Fr no W w' → k (.bool true) w')
    {ρ:Env} {w:World} (e2:ρ 2 = sv) (e11:ρ 11 = ptr D) (e13:ρ 13 = ptr E) (ok:S.Ok 0) (hS:Sep (Rk E S :: Dk D S :: RmA gv rv ps :: Base W :: []) w) : F13_5 k ρ w := by
  unfold F13_5
  rw [e11,e13]
  unfold ptr
  refine s_eqpn upt29 (pC_false ?_)
  show px P (Instr.build 51 #[]) w fun v106 w => px P (Instr.box 51 v106) w fun v107 w => px P (Instr.build 33 #[(0,ptr D),(1,ptr E),(2,v107)]) w _
  refine px_ok (w' := w) (v := .agg #[.slice none 0 0,.slice none 0 0]) (by kernel_rfl) ?_
  refine s_boxC (cs := #[.slice none 0 0,.slice none 0 0]) rfl ?_
  have hS3 : Sep (DeskA w.heap.size (.slice none 0 0) (.slice none 0 0) [] [] :: Rk E S :: Dk D S :: RmA gv rv ps :: Base W :: []) (w.alloc (.cells #[.slice none 0 0,.slice none 0 0] 51)) :=
    hS.new (Fr.alloc no w _) (fun b hb => hb.elim) (DeskA.none (alloc_new _ _)) (fun b hb => by omega) fun b hb => hb.elim
  generalize w.heap.size = K at *
  generalize w.alloc (.cells #[.slice none 0 0,.slice none 0 0] 51) = w3 at *
  refine px_ok (w' := w3) (v := .agg #[ptr D,ptr E,ptr K]) (by kernel_rfl) ?_
  refine s_boxC (cs := #[ptr D,ptr E,ptr K]) rfl ?_
  have hS4 : Sep (Cells w3.heap.size #[ptr D,ptr E,ptr K] 33 :: DeskA K (.slice none 0 0) (.slice none 0 0) [] [] :: Rk E S :: Dk D S :: RmA gv rv ps :: Base W :: []) (w3.alloc (.cells #[ptr D,ptr E,ptr K] 33)) := hS3.cell _ _
  generalize w3.alloc (.cells #[ptr D,ptr E,ptr K] 33) = w4 at *
  have hS5 : Sep (PairL w3.heap.size D E K S (.slice none 0 0) (.slice none 0 0) [] [] (RmA gv rv ps :: Base W :: [])) w4 :=
    hS4.perm (.cons _ ((List.Perm.swap _ _ _).trans (((List.Perm.swap _ _ _).cons _).trans ((List.Perm.swap _ _ _)))))
  have hS6 : Sep (PairL w3.heap.size D E K S (.slice none 0 0) (.slice none 0 0) [] [] (Base W :: RmA gv rv ps :: [])) w4 :=
    hS5.perm ((((List.Perm.swap _ _ _).cons _).cons _).cons _ |>.cons _)
  have hB : Both W [RmA gv rv ps] w3.heap.size K S 0 w4 := ⟨⟨D,E,_,_,_,_,hS6,by simp⟩,ok⟩
  refine b_stands hB fun w5 hB5 => s_not (pC_false ?_)
  exact w_loads4 hv hl hbd hk e2 rfl rfl hB5
set_option maxHeartbeats 1000000 in
theorem w_loads1 (hv:FilesS W v l) (hsv:ScriptV W sv s) (hl:l.length ≤ 100000) (hd:∀ p ∈ l,p.1.2.length ≤ 100000) (hns:∀ f ∈ l.plain,f.1.size ≤ 9223372036854775807) (hk:∀ w',Fr no W w' → k (.bool true) w')
    {ρ:Env} (e0:ρ 0 = i64 room) (e1:ρ 1 = v) (e2:ρ 2 = sv) : F13_2 k ρ W := by
  have hpl : l.plain.length = l.length := by unfold FilesL.plain; simp
  unfold F13_2
  rw [e0,e1,e2]
  refine c_long hsv fun b w1 f1 hb => ?_
  cases b with
  | true => exact pC_true (hk w1 f1)
  | false =>
  obtain ⟨hsl,hbd⟩ := hb rfl
  refine pC_false (c_roomy (hv.fr f1) hl hd fun w2 gv rv ps hR hps f2 => ?_)
  have f02 : Fr no W w2 := f1.trans f2 fun b hb => .inl hb
  have hN : ps.length = l.length + 5 := by have := congrArg List.length hps; simpa [fsOf_len,hpl] using this
  have hpd : ∀ p ∈ ps,p.1.2.length ≤ 100000 := fun p hp => by
    have hm : p.1 ∈ fsOf l.plain := by rw [← hps]; exact List.mem_map.2 ⟨p,hp,rfl⟩
    unfold fsOf at hm
    rcases List.mem_append.1 hm with hm | hm
    · obtain ⟨q,hq,e⟩ := List.mem_map.1 hm; rw [← e]; exact hd q hq
    · rw [(List.mem_replicate.1 hm).2]; simp
  obtain ⟨G,cap,eg,hcap,hlo,hG⟩ := id hR.given
  obtain ⟨hgl,hgp,hgn⟩ := hR.gl hps eg
  have hS2 : Sep (RmA gv rv ps :: Base W :: []) w2 := ((Sep.base W).q f1).new f2 (fun b hb => hb.elim) hR.asrt (fun b hb => hb.1) fun b hb => hb.elim
  refine s_ext rfl (s_ext rfl (s_lenS usl71 (hv.fr f02).src ?_))
  rw [eg]
  refine s_sl_h (i := (l.length : Int)) usl71 (sze71 _) (by omega) (by omega) ?_
  have hgd : ∀ p ∈ glOf ps l.length,p.1.2.length ≤ 1048576 := fun p hp => by
    have hm : p.1 ∈ l.plain := by rw [← hgp]; exact List.mem_map.2 ⟨p,hp,rfl⟩
    obtain ⟨q,hq,e⟩ := List.mem_map.1 hm
    rw [← e]; have := hd q hq; omega
  refine c_load (l := glOf ps l.length) hgl hgd (by rw [hgn]; omega) (by rw [hgp]; exact hns) (fun hne w3 f3 => ?_) fun he w3 D O I L hD hlowD f3 => ?_
  · rw [hgp] at hne ⊢
    refine s_ext rfl (s_ext rfl ?_)
    have f03 : Fr no W w3 := f02.trans f3 fun b hb => .inl hb
    refine r_load (hv.fr f03) (fun p hp => by have := hd p hp; omega) (by omega) (fun _ w4 f4 => ?_) fun he => absurd he hne
    have f04 : Fr no W w4 := f03.trans f4 fun b hb => .inl hb
    have f24 : Fr no w2 w4 := f3.trans f4 fun b hb => .inl hb
    refine s_ext rfl (s_ext rfl (c_num _ (s_nei_f rfl ?_)))
    refine pG_yes rfl (pG_yes rfl (s_eqpn upt29 (pG_yes rfl (pG_yes rfl (s_nei_t hne (pG_yes rfl ?_))))))
    refine px_ok (w' := w4) (v := .bool false) (by kernel_rfl) (s_pick_f ?_)
    refine pG_yes rfl (pG_yes rfl (pG_yes rfl (pG_yes rfl ?_)))
    rw [← eg]
    refine c_lleft (hR.fr f24) hps (hv.fr f04) hl hd fun w5 f5 => ?_
    refine pG_yes rfl (s_not (s_pick_f (pC_false ?_)))
    have f25 : Fr no w2 w5 := f24.trans f5 fun b hb => .inl hb
    refine w_over (ix := 0) rfl (by omega) hpd (hS2.q f25) rfl rfl rfl fun ρ' w6 hρ hS6 => ?_
    unfold F13_5
    have e11 : ρ' 11 = .pointer none := hρ 11 (by omega)
    rw [e11]
    refine s_eqpn upt29 (pC_true ?_)
    exact c_known sortsKeys fun w7 f7 => hk w7 ((hS6.base_at 1 rfl).trans f7 fun b hb => hb.elim)
  · rw [hgp] at he hD
    rw [hgn] at hD
    refine s_ext rfl (s_ext rfl ?_)
    have f03 : Fr no W w3 := f02.trans f3 fun b hb => .inl hb
    have hS3 : Sep (Dk D (AD.loadTo room l.plain l.length) :: RmA gv rv ps :: Base W :: []) w3 := hS2.new f3 (fun b hb => hb.elim) ⟨L,hD⟩ (fun b hb => hlowD b (.inl hb)) fun b hb => hlowD b (.inr hb)
    refine r_load (hv.fr f03) (fun p hp => by have := hd p hp; omega) (by omega) (fun hne => absurd he hne) fun _ w4 E O' I' L' hE hlowE f4 => ?_
    have f04 : Fr no W w4 := f03.trans f4 fun b hb => .inl hb
    have f24 : Fr no w2 w4 := f3.trans f4 fun b hb => .inl hb
    have hS4 : Sep (Rk E (AD.loadTo room l.plain l.length) :: Dk D (AD.loadTo room l.plain l.length) :: RmA gv rv ps :: Base W :: []) w4 := hS3.new f4 (fun b hb => hb.elim) ⟨L',hE⟩ (fun b hb => hlowE b (.inl hb)) fun b hb => hlowE b (.inr hb)
    have hok : (AD.loadTo room l.plain l.length).Ok 0 := by
      have hc := he
      unfold AD.loadCode at hc
      by_cases c1 : ¬ (1 ≤ room ∧ room ≤ 1048576)
      · rw [if_pos c1] at hc; cases hc
      rw [if_neg c1] at hc
      by_cases c2 : l.plain.length > 256
      · rw [if_pos c2] at hc; cases hc
      rw [if_neg c2] at hc
      cases c3 : l.plain.any (fun f => !isName f.1) with
      | true => rw [if_pos c3] at hc; cases hc
      | false =>
      rw [if_neg (by rw [c3]; simp)] at hc
      cases c4 : (List.range l.plain.length).any (dupAt room l.plain) with
      | true => rw [if_pos c4] at hc; cases hc
      | false =>
      have c3' : ∀ f ∈ l.plain,isName f.1 = true := fun f hf => by rw [List.any_eq_false] at c3; simpa using c3 f hf
      have c4' : ∀ j,j < l.length → dupAt room l.plain j = false := fun j hj => by
        rw [List.any_eq_false] at c4
        simpa using c4 j (List.mem_range.2 (by omega))
      refine (loading_to (by omega) (by omega) (fun f hf => ?_) (fun f hf => ?_) l.length (by omega) c4').ok
      · have := c3' f hf
        unfold isName at this
        simp only [Bool.and_eq_true,decide_eq_true_eq] at this
        exact this.2
      · obtain ⟨p,hp,rfl⟩ := List.mem_map.1 hf
        have := hd p hp; omega
    refine s_ext rfl (s_ext rfl (c_num _ (s_nei_f rfl ?_)))
    unfold ptr
    refine pG_yes rfl (pG_yes rfl (s_eqpn upt29 (pG_yes rfl (pG_yes rfl (s_nei_f (by omega) (pG_yes rfl ?_))))))
    refine px_ok (w' := w4) (v := .bool false) (by kernel_rfl) (s_pick_f ?_)
    refine pG_yes rfl (pG_yes rfl (pG_yes rfl (pG_yes rfl ?_)))
    rw [← eg]
    refine c_lleft (hR.fr f24) hps (hv.fr f04) hl hd fun w5 f5 => ?_
    refine pG_yes rfl (s_not (s_pick_f (pC_false ?_)))
    refine w_over (ix := 2) rfl (by omega) hpd (hS4.q f5) rfl rfl rfl fun ρ' w6 hρ hS6 => ?_
    exact w_loads2 (lst := []) hsv hsl hbd hk ((hρ 2 (by omega)).trans e2) (hρ 11 (by omega)) (hρ 13 (by omega)) hok hS6
theorem w_loads (hv:FilesS W v l) (hsv:ScriptV W sv s) (hfit:∀ p ∈ l,p.1.2.length ≤ 140737488355328) (hns:∀ f ∈ l.plain,f.1.size ≤ 9223372036854775807) (hk:∀ w',Fr no W w' → k (.bool true) w') : pFn P 13 [i64 room,v,sv] W k := by
 refine F13_in _ _ _ _ _ ?_
 unfold F13_0
 refine F13L1_inv (m := l.length) k (fun m ρ w' => ∃ i n : Nat,i + m = l.length ∧ w' = W ∧ ρ 0 = i64 room ∧ ρ 1 = v ∧ ρ 2 = sv ∧ ρ 7 = i64 n ∧ ρ 8 = i64 i ∧ i ≤ n ∧ n ≤ 100000 ∧ ∀ j (hj:j < l.length),j < i → l[j].1.2.length ≤ n) ?_
  ⟨0,0,by omega,rfl,rfl,rfl,rfl,rfl,rfl,Nat.le_refl _,by omega,fun j _ hj => absurd hj (Nat.not_lt_zero _)⟩
 rintro m ρ w' ⟨i,n,him,rfl,e0,e1,e2,e7,e8,hin,hn,hall⟩
 rw [F13_1_eq]
 unfold F13_1
 rw [e1,e7,e8]
 refine s_lenS usl71 hv.src ?_
 by_cases hi : i < l.length
 ·obtain ⟨b,o,c,ev,c0,c1⟩ := hv.at_ hi
  refine s_lt_t (by omega) (pC_true ?_)
  rw [ev]
  refine s_ix (i := (i:Int)) usl71 (sze71 _) (by omega) (by omega) (fa83_1 (s_ld (v := l[i].2) (isAgg36 _) (by simpa using c1) ?_))
  have hm := List.getElem_mem hi
  have hf := hfit _ hm
  refine s_lenS usl36 (hv.all _ hm) (s_add_in (by omega) (s_add_in (by omega) ?_))
  by_cases hbig : n + l[i].1.2.length + 1 > 100000
  ·exact s_gt_t (by omega) (pC_true (hk _ (Fr.refl _ _)))
  ·refine s_gt_f (by omega) (pC_false (s_add_in (by omega) ?_))
   refine ⟨m - 1,by omega,i + 1,n + l[i].1.2.length + 1,by omega,rfl,e0,e1.trans ev,e2,?_,?_,by omega,by omega,fun j hj hji => ?_⟩
   ·show i64 _ = i64 _; simp
   ·show i64 _ = i64 _; simp
   ·rcases Nat.lt_or_ge j i with h | h
    ·have := hall j hj h; omega
    ·have : j = i := by omega
     subst this; omega
 ·refine s_lt_f (by omega) (pC_false ?_)
  rw [F13_2_eq]
  refine w_loads1 hv hsv (by omega) (fun p hp => ?_) hns hk e0 e1 e2
  obtain ⟨j,hj,rfl⟩ := List.mem_iff_getElem.1 hp
  have := hall j hj (by omega); omega
end
end Go.Proofs.YtcdcojpfealppaaGreat

namespace Go.Proofs.YtcdcojpfealppaaGreat
open Go Go.ChangeShapes Go.WideShapes Go.ChangeAt Go.RowKit Go.Proofs Go.Proofs.XRed Go.Proofs.XHeap Go.Proofs.XSlices Go.Proofs.XRow Go.Proofs.XDisk Tryz
section
variable {H:Type} {enc:TypeId × Value → H} {W:World}
def FileFits (d:DataW H) : Prop := ∀ parts,d = .agg parts → ∀ q n,parts[1]? = some q → Len q n → n ≤ 140737488355328
theorem fileFits_weights {d:DataW H} (hw:∀ m ∈ d.weights prog 83,m ≤ reachBytes) : FileFits d := by
 have hr : reachBytes ≤ 140737488355328 := by decide
 rintro parts rfl q n hq hl
 have hu := underlying83
 have hwe : DataW.weights prog 83 (.agg parts) = DataW.weightsEach prog [9,36] parts := by
  simp only [DataW.weights,hu]
  rfl
 have sub : ∀ m ∈ q.weights prog 36,m ≤ reachBytes := by
  intro m hm
  refine hw m ?_
  rw [hwe]
  exact DataW.weights_mem_each (ts := [9,36]) (j := 1) rfl hq m hm
 have := len_weight (b := 1) underlying36 (by kernel_rfl) hl sub
 omega
theorem files_weights {d:DataW H} (hw:∀ m ∈ d.weights prog 71,m ≤ reachBytes) : ∀ elems spare,d = .slice elems spare → ∀ e ∈ elems,FileFits e := by
 rintro elems spare rfl e he
 refine fileFits_weights fun m hm => hw m ?_
 simp only [DataW.weights,underlying71,List.mem_cons,List.mem_append]
 exact Or.inr (Or.inl (weights_all he m hm))
theorem open_file {fuel:Nat} {cs:List Value} {x:DataW H × List MemPlace} (hb:FileFits x.1) (h:DataW.trod enc prog W 0 (fun _ => true) true fuel 83 cs = some x) : ∃ (f:FileA) (dv:Value),cs = [.string f.1,dv] ∧ SBytes W dv f.2 ∧ f.1.size ≤ 9223372036854775807 ∧ f.2.length ≤ 140737488355328 := by
 obtain ⟨xs,k,rfl,rfl,hlen,hxl,hf⟩ := DataW.trod_struct underlying83 h
 have c10 : prog.cellsOf 83 = 2 := by kernel_rfl
 rw [c10] at hlen
 match cs,hlen with
 | [c0,c1],_ =>
 match xs,hxl with
 | [x0,x1],_ =>
 have g0 : DataW.trod enc prog W 0 (fun _ => true) true k 9 (([c0,c1].drop 0).take (prog.cellsOf 9)) = some x0 := hf 0 _ rfl
 have g1 : DataW.trod enc prog W 0 (fun _ => true) true k 36 (([c0,c1].drop 1).take (prog.cellsOf 36)) = some x1 := hf 1 _ rfl
 have k9 : prog.cellsOf 9 = 1 := by kernel_rfl
 have k30 : prog.cellsOf 36 = 1 := by kernel_rfl
 simp only [k9,k30,List.drop_zero,List.drop_succ_cons,List.take_succ_cons,List.take_zero,List.getElem?_cons_zero,List.getElem?_cons_succ] at g0 g1
 obtain ⟨s1,e1,r1,w1⟩ := DataW.trod_string underlying9 g0
 obtain ⟨dv,d5,e5,s5,l5⟩ := open_bytes g1
 simp only [List.cons.injEq,and_true] at e1 e5
 subst e1 e5
 exact ⟨(s1,d5),c1,rfl,s5,small_name (by first | exact w1 | simpa [Lit.wf] using w1),hb _ rfl _ _ rfl l5⟩
theorem plain_small {l:FilesL} (h:∀ p ∈ l,p.1.1.size ≤ 9223372036854775807) : ∀ f ∈ l.plain,f.1.size ≤ 9223372036854775807 := fun f hf => by
 obtain ⟨q,hq,rfl⟩ := List.mem_map.1 hf; exact h q hq
theorem open_files {v:Value} {d:DataW H} {ps:List MemPlace} (hb:∀ elems spare,d = .slice elems spare → ∀ e ∈ elems,FileFits e) (hv:Value.okWide prog W .any 0 71 v) (h:DataW.Trod enc prog W 0 (fun _ => true) true 71 v d ps) :
    ∃ l : FilesL,FilesS W v l ∧ (∀ p ∈ l,p.1.2.length ≤ 140737488355328) ∧ ∀ p ∈ l,p.1.1.size ≤ 9223372036854775807 := by
  obtain ⟨a0,len,cap,rfl⟩ := okWide_slice underlying71 hv
  obtain ⟨fuel,hf⟩ := h
  have c10 : prog.cellsOf 83 = 2 := by kernel_rfl
  rcases Go.Deep.open_slice underlying71 hf with ⟨hcs,hx⟩ | ⟨a,len',cap',m,n,Ds,Pl,hcs,_,hl,hm,hmm,hx,hcell⟩
  · simp [Value.cells] at hcs
    obtain ⟨rfl,rfl,rfl⟩ := hcs
    exact ⟨[],⟨Src.nil _ _,fun p hp => by cases hp⟩,fun p hp => (by cases hp),fun p hp => (by cases hp)⟩
  · simp [Value.cells] at hcs
    obtain ⟨rfl,rfl,rfl⟩ := hcs
    simp only [if_true] at hmm
    rw [c10] at hcell
    injection hx with hx _
    have each : ∀ i,i < len → ∃ p : FileA × Value,(SBytes W p.2 p.1.2 ∧ p.1.1.size ≤ 9223372036854775807 ∧ p.1.2.length ≤ 140737488355328) ∧ ∀ j u,([Value.string p.1.1,p.2] : List Value)[j]? = some u → W.cell? ((a.add (i * 2)).add j) = some u := by
      intro i hi
      obtain ⟨cs',h1,h2⟩ := hcell i (by omega)
      obtain ⟨_,hlen,hc⟩ := World.cells?_some h1
      have hD : FileFits (Ds i) := hb _ _ hx _ (List.mem_map.2 ⟨i,List.mem_range.2 hi,rfl⟩)
      obtain ⟨f,dv,rfl,hs⟩ := open_file (x := (Ds i,Pl i)) hD h2
      refine ⟨(f,dv),hs,fun j u hj => ?_⟩
      rw [hc j (List.getElem?_eq_some_iff.1 hj).1]; exact hj
    have hS : ∃ g : Nat → FileA × Value,∀ i,i < len → (SBytes W (g i).2 (g i).1.2 ∧ (g i).1.1.size ≤ 9223372036854775807 ∧ (g i).1.2.length ≤ 140737488355328) ∧ ∀ j u,([Value.string (g i).1.1,(g i).2] : List Value)[j]? = some u → W.cell? ((a.add (i * 2)).add j) = some u := by
      classical
      refine ⟨fun i => if h : i < len then Classical.choose (each i h) else ((.empty,[]),undef),fun i hi => ?_⟩
      simp only [dif_pos hi]
      exact Classical.choose_spec (each i hi)
    obtain ⟨g,hg⟩ := hS
    have hmem : ∀ p ∈ (List.range len).map g,SBytes W p.2 p.1.2 ∧ p.1.1.size ≤ 9223372036854775807 ∧ p.1.2.length ≤ 140737488355328 := fun p hp => by
      obtain ⟨i,hi,rfl⟩ := List.mem_map.1 hp
      exact (hg i (List.mem_range.1 hi)).1
    refine ⟨(List.range len).map g,⟨?_,fun p hp => (hmem p hp).1⟩,fun p hp => (hmem p hp).2.2,fun p hp => (hmem p hp).2.1⟩
    rw [List.length_map,List.length_range]
    have hfl : (((List.range len).map g).flatMap fun p => ([Value.string p.1.1,p.2] : List Value)).length = len * 2 := by
      have : ∀ l : FilesL,(l.flatMap fun p => ([Value.string p.1.1,p.2] : List Value)).length = l.length * 2 := by
        intro l
        induction l with
        | nil => rfl
        | cons p r ih => rw [List.flatMap_cons,List.length_append,ih]; simp; omega
      rw [this]; simp
    obtain ⟨b,off,spot⟩ := a
    refine ⟨some ⟨b,off,spot⟩,cap,rfl,hl,hfl,fun hpos => ?_⟩
    have h00 := (hg 0 hpos).2 0 _ rfl
    have hspot : spot = none := by simpa [Addr.add] using World.cell?_spot h00
    subst hspot
    refine ⟨b,off,rfl,fun j u hj => ?_⟩
    have hjl : j < len * 2 := by have := (List.getElem?_eq_some_iff.1 hj).1; rw [hfl] at this; exact this
    have hi : j / 2 < len := by omega
    have hgi : ((List.range len).map g)[j / 2]? = some (g (j / 2)) := by simp [hi]
    have hfa := flatAt (f := fun p : FileA × Value => ([Value.string p.1.1,p.2] : List Value)) (n := 2) (fun _ => rfl) (l := (List.range len).map g) (i := j / 2) (j := j % 2) hgi (Nat.mod_lt _ (by omega))
    have e : j / 2 * 2 + j % 2 = j := by omega
    rw [e] at hfa
    rw [hfa] at hj
    have := (hg (j / 2) hi).2 (j % 2) u hj
    rw [add_at,add_at] at this
    have e2 : off + j / 2 * 2 + j % 2 = off + j := by omega
    rw [e2] at this
    exact this
end
end Go.Proofs.YtcdcojpfealppaaGreat
