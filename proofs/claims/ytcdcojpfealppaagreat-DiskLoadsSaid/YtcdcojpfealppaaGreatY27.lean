/- Put together by a program (wip/tools/shake.py): NmEq,Pair4,Pair5,Pair6,XBig,R5. -/
import Derived.Test.YtcdcojpfealppaaGreatY16
import Derived.Test.YtcdcojpfealppaaGreatY14
import Derived.Test.YtcdcojpfealppaaGreatY26
import Derived.Test.YtcdcojpfealppaaGreatY3
import Derived.Sort.Walk0
import Derived.Test.YtcdcojpfealppaaGreatY1
import Derived.Test.YtcdcojpfealppaaGreatProg
import Derived.Test.YtcdcojpfealppaaGreatMix
set_option linter.unusedVariables false
set_option linter.unusedSimpArgs false
set_option maxRecDepth 100000
namespace Go.Proofs.YtcdcojpfealppaaGreat
open Go Go.Proofs Go.RowKit Go.Proofs.XRed Go.Proofs.XHeap Go.Proofs.XMaps Go.Proofs.XSlices Go.Proofs.XDisk Go.Proofs.XCalls Tryz
section
variable {W w:World} {D:Nat} {S S':AD} {O I:Nat → Prop} {L:Lay} {k:KV}
theorem run_ldStep {b o:Nat} {x:StepA} {dv pv:Value} (h:∀ j u,(stepCells x dv pv)[j]? = some u → w.cell? ⟨b,o + j,none⟩ = some u) : (Instr.loadAt 41 (.pointer (some ⟨b,o,none⟩))).run P w = .ok (stepVal x dv pv) w := by
 have := run_loadCells_list (P := P) w ⟨b,o,none⟩ (stepCells x dv pv) (fun j v hj => by rw [add_at]; exact h j v hj)
 have e : (stepCells x dv pv).length = 10 := rfl
 rw [e] at this
 have hr : (Instr.loadAt 41 (.pointer (some ⟨b,o,none⟩))).run P w = .ok (.agg (stepCells x dv pv).toArray) w := by
  simp [Instr.loadAt,Instr.sureAddr,loadVar,isAgg41,sizeOf41,this,Result.andThen]
 exact hr
theorem s_step {v:Value} {l:Script} {i:Nat} (h:ScriptV w v l) (hi:i < l.length) {kk:Value → KV} (hk:∀ p,kk p (stepVal l[i].1 l[i].2.1 l[i].2.2) w) :
    px P (Instr.indexAt 22 v (i64 i)) w fun p w => px P (Instr.loadAt 41 p) w (kk p) := by
  obtain ⟨b,o,c,ev,hc⟩ := h.at_ hi
  rw [ev]
  refine s_ix (i := (i:Int)) usl22 (sze22 _) (by omega) (by omega) ?_
  exact px_ok (run_ldStep (x := l[i].1) (dv := l[i].2.1) (pv := l[i].2.2) (fun j u hj => by have := hc j u hj; simpa using this)) (hk _)
theorem safes_small {c:Nat} {S:AD} (ok:S.Ok c) : S.safes.length ≤ 4611686018427387904 ∧ ∀ f ∈ S.safes,f.2.length ≤ 4611686018427387904 := by
 refine ⟨?_,fun f hf => ?_⟩
 ·have := ok.turns.len.2
  unfold AD.safes
  rw [List.length_map]; omega
 ·obtain ⟨p,hp,rfl⟩ := List.mem_map.1 hf
  have := (ok.thing p.2 (.inr (.inl ⟨p.1,hp⟩))).ok.len.2
  show (S.things p.2).safe.length ≤ _
  omega
theorem files_small {c:Nat} {S:AD} (ok:S.Ok c) : S.files.length ≤ 4611686018427387904 ∧ ∀ f ∈ S.files,f.2.length ≤ 4611686018427387904 := by
 refine ⟨?_,fun f hf => ?_⟩
 ·have := ok.turns.len.1
  unfold AD.files
  rw [List.length_map]; omega
 ·obtain ⟨p,hp,rfl⟩ := List.mem_map.1 hf
  have := (ok.thing p.2 (.inl ⟨p.1,hp⟩)).ok.len.1
  show (S.things p.2).shown.length ≤ _
  omega
theorem shownMax {c:Nat} {S:AD} (ok:S.Ok c) : ∀ p ∈ S.shown,p.1.size ≤ maxLen := fun p hp => by have := ok.shownNames p hp; unfold maxLen; omega
theorem safeMax {c:Nat} {S:AD} (ok:S.Ok c) : ∀ p ∈ S.safe,p.1.size ≤ maxLen := fun p hp => by have := ok.sn p hp; unfold maxLen; omega
theorem used_small {c:Nat} {S:AD} (ok:S.Ok c) : S.used ≤ 256 * 1048576 := by
 have h1 := ok.turns.len.1
 have h2 : ∀ l : Names,(∀ p ∈ l,(S.things p.2).shown.length ≤ 1048576) → (l.map fun p => (S.things p.2).shown.length).sum ≤ l.length * 1048576 := by
  intro l
  induction l with
  | nil => intro _; exact Nat.zero_le _
  | cons p r ih =>
   intro h
   have a := h p List.mem_cons_self
   have b := ih fun q hq => h q (List.mem_cons_of_mem _ hq)
   simp only [List.map_cons,List.sum_cons,List.length_cons]
   omega
 have h3 := h2 S.shown fun p hp => (ok.thing p.2 (.inl ⟨p.1,hp⟩)).ok.len.1
 exact Nat.le_trans h3 (Nat.mul_le_mul_right _ h1)
theorem c_namesEq {v1 v2:Value} {x y:List ByteArray} (hx:Src W v1 1 x.length (x.map .string)) (hy:Src W v2 1 y.length (y.map .string)) (hl:x.length ≤ 4611686018427387904) (hk:∀ (b:Bool) w',Fr no W w' → (b = true ↔ x = y) → k (.bool b) w') : pFn P 43 [v1,v2] W k := by
 refine F43_in _ _ _ _ ?_
 unfold F43_0
 refine s_lenS usl73 hx (s_lenS usl73 hy ?_)
 by_cases hlen : x.length = y.length
 ·refine s_nei_f (by omega) (pC_false ?_)
  refine F43L1_inv (m := x.length) k (fun m ρ w' => ∃ i : Nat,i + m = x.length ∧ Fr no W w' ∧ ρ 0 = v1 ∧ ρ 1 = v2 ∧ ρ 5 = i64 i ∧ x.take i = y.take i) ?_
   ⟨0,by omega,Fr.refl _ _,rfl,rfl,rfl,rfl⟩
  rintro m ρ w' ⟨i,him,hf,e0,e1,e5,heq⟩
  rw [F43_1_eq]
  unfold F43_1
  rw [e0,e1,e5]
  have hx' := hx.fr (by omega) hf fun _ _ h => h
  have hy' := hy.fr (by omega) hf fun _ _ h => h
  refine s_lenS usl73 hx' ?_
  by_cases hi : i < x.length
  ·refine s_lt_t (by omega) (pC_true ?_)
   have fd : Fr no w' w'.drew := Fr.drew _ _
   have ff : Fr no W w'.drew := hf.trans fd fun b hb => .inl hb
   have hiy : i < y.length := by omega
   obtain ⟨b1,o1,c1,f1,g1⟩ := (hx'.fr (by omega) fd fun _ _ h => h).place hi (by omega)
   obtain ⟨b2,o2,c2,f2,g2⟩ := (hy'.fr (by omega) fd fun _ _ h => h).place hiy (by omega)
   have a1 := g1 0 (.string x[i]) (by omega) (by simp [hi])
   have a2 := g2 0 (.string y[i]) (by omega) (by simp [hiy])
   simp only [Nat.mul_one,Nat.add_zero] at a1 a2
   refine ⟨fun w' => w'.cell? ⟨b1,o1 + i,none⟩ = some (.string x[i]) ∧ w'.cell? ⟨b2,o2 + i,none⟩ = some (.string y[i]),⟨a1,a2⟩,?_⟩
   rw [f1,f2]
   refine q_of (.pointer (some ⟨b1,o1 + i,none⟩)) (fun w_ hS => s_ix (i := (i:Int)) usl73 (sze73 _) (by omega) (by omega) ⟨by simp,rfl⟩) ?_
   refine q_of (.string x[i]) (fun w_ hS => s_ld (isAgg9 _) hS.1 ⟨rfl,rfl⟩) ?_
   refine q_of (.pointer (some ⟨b2,o2 + i,none⟩)) (fun w_ hS => s_ix (i := (i:Int)) usl73 (sze73 _) (by omega) (by omega) ⟨by simp,rfl⟩) ?_
   refine q_of (.string y[i]) (fun w_ hS => s_ld (isAgg9 _) hS.2 ⟨rfl,rfl⟩) ?_
   refine q_of _ (fun w_ hS => s_nes ⟨rfl,rfl⟩) ?_
   by_cases he : x[i] = y[i]
   ·rw [decide_eq_true he]
    refine pC_false (s_add_in (by omega) ?_)
    refine ⟨m - 1,by omega,i + 1,by omega,ff,e0.trans f1,e1.trans f2,?_,?_⟩
    ·show i64 _ = i64 _; simp
    ·rw [List.take_succ_eq_append_getElem hi,List.take_succ_eq_append_getElem hiy,heq,he]
   ·rw [decide_eq_false he]
    refine pC_true (hk false _ ff ⟨(fun h => by cases h),fun h => absurd ?_ he⟩)
    subst h; rfl
  ·refine s_lt_f (by omega) (pC_false ?_)
   rw [F43_2_eq]
   refine hk true w' hf ⟨fun _ => ?_,fun _ => rfl⟩
   have a1 := List.take_of_length_le (l := x) (i := i) (by omega)
   have a2 := List.take_of_length_le (l := y) (i := i) (by omega)
   rw [← a1,heq,a2]
 ·exact s_nei_t (by omega) (pC_true (hk false W (Fr.refl _ _) ⟨(fun h => by cases h),fun h => absurd (by rw [h]) hlen⟩))
end
open Go.Proofs.XSep
section
variable {w w0:World} {k:KV}
variable {W:World} {xb Pb D E K c:Nat} {x:StepA} {dv pv' bv pv:Value} {S T:AD} {bb:Bytes} {pp:List Int} {l:List Asrt}
abbrev StepEnd (W:World) (Pb K:Nat) (S':AD) (l:List Asrt) (k:KV) : Prop := ∀ w' D' E' bv' pv'' bb' pp',Sep (PairL Pb D' E' K S' bv' pv'' bb' pp' (Base W :: l)) w' → bb'.length ≤ 1000000 → k (.bool true) w'
set_option maxHeartbeats 1000000 in
theorem st_read (hS:Sep (StepL xb x dv pv' Pb D E K S S bv pv bb pp (Base W :: l)) w) (ok:S.Ok c) (hv:StepV W x dv pv') (hbb:bb.length ≤ 1000000) (hk:StepEnd W Pb K (S.read x.name x.at_ x.n).2.2 l k) {o1 o2:Operand} :
      ∃ S_ : World → Prop,S_ w.drew ∧ (fun w =>
      pq P S_ (nilSem (ptr Pb)) fun v22 =>
      pq P S_ (Instr.fieldAt 33 v22 0) fun v23 =>
      pq P S_ (Instr.loadAt 29 v23) fun v24 =>
      pq P S_ (Instr.fieldAt 41 (ptr xb) 1) fun v25 =>
      pq P S_ (Instr.loadAt 9 v25) fun v26 =>
      pq P S_ (Instr.fieldAt 41 (ptr xb) 3) fun v27 =>
      pq P S_ (Instr.loadAt 3 v27) fun v28 =>
      pq P S_ (Instr.fieldAt 41 (ptr xb) 4) fun v29 =>
      pq P S_ (Instr.loadAt 3 v29) fun v30 =>
      pFn P 32 [v24,v26,v28,v30] w fun v31 w => S_ w ∧ (
      pq P S_ (Instr.extract v31 0) fun v32 =>
      pq P S_ (Instr.extract v31 1) fun v33 =>
      ∃ S_2 : World → Prop,S_2 w.drew ∧ (fun w =>
      pq P S_2 (nilSem (ptr Pb)) fun v36 =>
      pq P S_2 (Instr.fieldAt 33 v36 1) fun v37 =>
      pq P S_2 (Instr.loadAt 30 v37) fun v38 =>
      pq P S_2 (Instr.fieldAt 41 (ptr xb) 1) fun v39 =>
      pq P S_2 (Instr.loadAt 9 v39) fun v40 =>
      pq P S_2 (Instr.fieldAt 41 (ptr xb) 3) fun v41 =>
      pq P S_2 (Instr.loadAt 3 v41) fun v42 =>
      pq P S_2 (Instr.fieldAt 41 (ptr xb) 4) fun v43 =>
      pq P S_2 (Instr.loadAt 3 v43) fun v44 =>
      pFn P 34 [v38,v40,v42,v44] w fun v45 w => S_2 w ∧ (
      pq P S_2 (Instr.extract v45 0) fun v46 =>
      pq P S_2 (Instr.extract v45 1) fun v47 =>
      pFn P 20 [v33] w fun v49 w =>
      px P (binSem BinOp.eql 3 o1 o2 v49 v47) w fun v51 w =>
      pG v51 true (fun k => k v32 w) (w := w) (next := fun v53 w =>
      pG v51 true (fun k => k v46 w) (w := w) (next := fun v54 w =>
      pG v51 true (fun k => pFn P 35 [v53,v54] w k) (w := w) (next := fun v55 w =>
      px P (pickSem v51 v55 (.bool false)) w fun v56 w =>
      k v56 w))))) w.drew)) w.drew := by
  have hS := hS.q (Fr.drew _ _)
  refine ⟨Seen xb x dv pv' Pb D E K,seen hS,?_⟩
  refine q_of _ (fun w_ hS => s_nil ⟨rfl,rfl⟩) (q_of _ (fun w_ hS => fa33_0 ⟨rfl,rfl⟩) (q_of (ptr D) (fun w_ hS => s_ldb (isAgg29 _) hS.2 rfl ⟨rfl,rfl⟩) ?_))
  refine q_of _ (fun w_ hS => fa41_1 ⟨rfl,rfl⟩) (q_of (.string x.name) (fun w_ hS => s_ldb (isAgg9 _) hS.1 rfl ⟨rfl,rfl⟩) ?_)
  refine q_of _ (fun w_ hS => fa41_3 ⟨rfl,rfl⟩) (q_of (i64 x.at_) (fun w_ hS => s_ldb (isAgg3 _) hS.1 rfl ⟨rfl,rfl⟩) ?_)
  refine q_of _ (fun w_ hS => fa41_4 ⟨rfl,rfl⟩) (q_of (i64 x.n) (fun w_ hS => s_ldb (isAgg3 _) hS.1 rfl ⟨rfl,rfl⟩) ?_)
  refine s_read hS (i := 2) rfl ok x.name (one_small hv.name) x.at_ x.n hv.at_ fun w1 v1 hS1 => ?_
  replace hS1 : Sep (Cells xb (stepCells x dv pv').toArray 41 :: Cells Pb #[ptr D,ptr E,ptr K] 33 :: star (Dk D (S.read x.name x.at_ x.n).2.2) (BytesA v1 (S.read x.name x.at_ x.n).2.1) :: Rk E S :: DeskA K bv pv bb pp :: Base W :: l) w1 := hS1
  refine ⟨seen hS1,q_of _ (fun w_ hS => s_ext rfl ⟨rfl,rfl⟩) (q_of _ (fun w_ hS => s_ext rfl ⟨rfl,rfl⟩) ?_)⟩
  have hS1 := hS1.q (Fr.drew _ _)
  refine ⟨Seen xb x dv pv' Pb D E K,seen hS1,?_⟩
  refine q_of _ (fun w_ hS => s_nil ⟨rfl,rfl⟩) (q_of _ (fun w_ hS => fa33_1 ⟨rfl,rfl⟩) (q_of (ptr E) (fun w_ hS => s_ldb (isAgg30 _) hS.2 rfl ⟨rfl,rfl⟩) ?_))
  refine q_of _ (fun w_ hS => fa41_1 ⟨rfl,rfl⟩) (q_of (.string x.name) (fun w_ hS => s_ldb (isAgg9 _) hS.1 rfl ⟨rfl,rfl⟩) ?_)
  refine q_of _ (fun w_ hS => fa41_3 ⟨rfl,rfl⟩) (q_of (i64 x.at_) (fun w_ hS => s_ldb (isAgg3 _) hS.1 rfl ⟨rfl,rfl⟩) ?_)
  refine q_of _ (fun w_ hS => fa41_4 ⟨rfl,rfl⟩) (q_of (i64 x.n) (fun w_ hS => s_ldb (isAgg3 _) hS.1 rfl ⟨rfl,rfl⟩) ?_)
  refine s_rread hS1 (i := 3) rfl ok x.name x.at_ x.n hv.at_ fun w2 v2 hS2 => ?_
  have hlen := read_len ok x.name x.at_ x.n
  generalize hR : S.read x.name x.at_ x.n = R at *
  replace hS2 : Sep (Cells xb (stepCells x dv pv').toArray 41 :: Cells Pb #[ptr D,ptr E,ptr K] 33 :: star (Dk D R.2.2) (BytesA v1 R.2.1) :: star (Rk E R.2.2) (BytesA v2 R.2.1) :: DeskA K bv pv bb pp :: Base W :: l) w2 := hS2
  refine ⟨seen hS2,q_of _ (fun w_ hS => s_ext rfl ⟨rfl,rfl⟩) (q_of _ (fun w_ hS => s_ext rfl ⟨rfl,rfl⟩) ?_)⟩
  refine c_num _ (s_eqi_t rfl (pG_yes rfl (pG_yes rfl (pG_yes rfl ?_))))
  obtain ⟨O1,I1,h1,_⟩ := hS2.right 2 rfl
  obtain ⟨O2,I2,h2,_⟩ := hS2.right 3 rfl
  refine c_bytes h1 h2 (by omega) fun w3 f3 => ?_
  rw [decide_eq_true rfl]
  have hS3 := (((hS2.q f3).left 2 rfl).left 3 rfl).drop
  exact s_pick_t (hk w3 D E bv pv bb pp hS3 hbb)
set_option maxHeartbeats 2000000 in
theorem st_other (hS:Sep (PairL Pb D E K S bv pv bb pp (Base W :: l)) w) (ok:S.Ok c) (hc:c ≤ 100000) (hv:StepV W x dv pv') (hpk:x.picks.length ≤ 100000) (hn:∀ j : Int,1 ≤ j ∧ j ≤ 8 → x.kind ≠ j) (hbb:bb.length ≤ 1000000) (hk:StepEnd W Pb K (S.doStep x).2 l k) : pFn P 73 [ptr Pb,stepVal x dv pv'] w k := by
 have h1 := hn 1 (by omega)
 have h2 := hn 2 (by omega)
 have h3 := hn 3 (by omega)
 have h4 := hn 4 (by omega)
 have h5 := hn 5 (by omega)
 have h6 := hn 6 (by omega)
 have h7 := hn 7 (by omega)
 have h8 := hn 8 (by omega)
 have hdo : (S.doStep x).2 = if x.kind = 9 then (S.read x.name x.at_ x.n).2.2 else if x.kind = 10 then S else if x.kind = 11 then S.plans x.plan else if x.kind = 12 then S.crash x.picks else if x.kind = 13 then S.lookAway else S := by
  unfold AD.doStep
  rw [if_neg h1,if_neg h2,if_neg h3,if_neg h4,if_neg h5,if_neg h6,if_neg h7,if_neg h8]
  split
  ·rfl
  ·split
   ·rfl
   ·split
    ·rfl
    ·split
     ·rfl
     ·split <;> rfl
 rw [hdo] at hk
 clear hdo h1 h2 h3 h4 h5 h6 h7 h8 hn
 refine F73_in _ _ _ _ ?_
 unfold F73_0
 refine s_box ?_
 replace hS : Sep (StepL w.heap.size x dv pv' Pb D E K S S bv pv bb pp (Base W :: l)) (w.alloc (.cells (stepCells x dv pv').toArray 41)) := hS.cell _ _
 rw [show (stepVal x dv pv').cells = (stepCells x dv pv').toArray from rfl]
 generalize w.alloc (.cells (stepCells x dv pv').toArray 41) = w1 at *
 show px P (Instr.fieldAt 41 (ptr w.heap.size) 0) w1 _
 generalize w.heap.size = xb at *
 refine fa41_0 (s_ldb (v := i64 x.kind) (isAgg3 _) (hS.cells 0 rfl) rfl ?_)
 by_cases k9 : x.kind = 9
 ·rw [if_pos k9] at hk
  refine s_eqi_t k9 (pC_true ?_)
  exact st_read hS ok hv hbb hk
 rw [if_neg k9] at hk
 refine s_eqi_f k9 (pC_false ?_)
 by_cases k10 : x.kind = 10
 ·rw [if_pos k10] at hk
  refine s_eqi_t k10 (pC_true ?_)
  replace hS := hS.q (Fr.drew _ _)
  refine ⟨Seen xb x dv pv' Pb D E K,seen hS,?_⟩
  refine q_of _ (fun w_ hS => s_nil ⟨rfl,rfl⟩) (q_of _ (fun w_ hS => fa33_0 ⟨rfl,rfl⟩) (q_of (ptr D) (fun w_ hS => s_ldb (isAgg29 _) hS.2 rfl ⟨rfl,rfl⟩) ?_))
  refine q_of _ (fun w_ hS => fa41_1 ⟨rfl,rfl⟩) (q_of (.string x.name) (fun w_ hS => s_ldb (isAgg9 _) hS.1 rfl ⟨rfl,rfl⟩) ?_)
  obtain ⟨O,I,L,hd,nx⟩ := Sep.disk hS 2 rfl
  refine c_size hd ok x.name (one_small hv.name) ⟨seen hS,q_of _ (fun w_ hS => s_ext rfl ⟨rfl,rfl⟩) (q_of _ (fun w_ hS => s_ext rfl ⟨rfl,rfl⟩) ?_)⟩
  replace hS := hS.q (Fr.drew _ _)
  refine ⟨Seen xb x dv pv' Pb D E K,seen hS,?_⟩
  refine q_of _ (fun w_ hS => s_nil ⟨rfl,rfl⟩) (q_of _ (fun w_ hS => fa33_1 ⟨rfl,rfl⟩) (q_of (ptr E) (fun w_ hS => s_ldb (isAgg30 _) hS.2 rfl ⟨rfl,rfl⟩) ?_))
  refine q_of _ (fun w_ hS => fa41_1 ⟨rfl,rfl⟩) (q_of (.string x.name) (fun w_ hS => s_ldb (isAgg9 _) hS.1 rfl ⟨rfl,rfl⟩) ?_)
  obtain ⟨O,I,L,hr,nr⟩ := Sep.ref hS 3 rfl
  refine r_size hr ok x.name ⟨seen hS,q_of _ (fun w_ hS => s_ext rfl ⟨rfl,rfl⟩) (q_of _ (fun w_ hS => s_ext rfl ⟨rfl,rfl⟩) ?_)⟩
  replace hS := hS.q (Fr.drew _ _)
  refine ⟨Seen xb x dv pv' Pb D E K,seen hS,c_num _ ⟨seen hS,q_of (.bool true) (fun w_ hS => s_eqi_t rfl ⟨rfl,rfl⟩) (pGq_yes rfl (pGq_yes rfl (pGq_yes rfl (q_of (.bool true) (fun w_ hS => s_eqi_t rfl ⟨rfl,rfl⟩) (q_of (.bool true) (fun w_ hS => s_pick_t ⟨rfl,rfl⟩) ?_)))))⟩⟩
  refine pGq_yes rfl (pGq_yes rfl (q_of _ (fun w_ hS => s_nil ⟨rfl,rfl⟩) (pGq_yes rfl (q_of _ (fun w_ hS => fa33_0 ⟨rfl,rfl⟩) (pGq_yes rfl (q_of (ptr D) (fun w_ hS => s_ldb (isAgg29 _) hS.2 rfl ⟨rfl,rfl⟩) (pGq_yes rfl ?_)))))))
  refine q_of _ (fun w_ hS => fa41_1 ⟨rfl,rfl⟩) (pGq_yes rfl (q_of (.string x.name) (fun w_ hS => s_ldb (isAgg9 _) hS.1 rfl ⟨rfl,rfl⟩) ?_))
  refine pGq_yes rfl (pGq_yes rfl (q_of _ (fun w_ hS => s_nil ⟨rfl,rfl⟩) (pGq_yes rfl (q_of _ (fun w_ hS => fa33_1 ⟨rfl,rfl⟩) (pGq_yes rfl (q_of (ptr E) (fun w_ hS => s_ldb (isAgg30 _) hS.2 rfl ⟨rfl,rfl⟩) (pGq_yes rfl ?_)))))))
  refine q_of _ (fun w_ hS => fa41_1 ⟨rfl,rfl⟩) (pGq_yes rfl (q_of (.string x.name) (fun w_ hS => s_ldb (isAgg9 _) hS.1 rfl ⟨rfl,rfl⟩) ?_))
  obtain ⟨O,I,L,hd,nx⟩ := Sep.disk hS 2 rfl
  refine pG_yes rfl (c_list hd ok x.name fun w2 v2 g2 b2 f2 => ?_)
  have hS2 := hS.q f2
  refine ⟨seen hS2,?_⟩
  obtain ⟨O,I,L,hr,nr⟩ := Sep.ref hS2 3 rfl
  refine pG_yes rfl (r_list hr ok x.name fun w3 v3 g3 b3 f3 => ?_)
  have hS3 := hS2.q f3
  refine ⟨seen hS3,pG_yes rfl (c_namesEq (g2.fr (by omega) f3 fun _ _ h => h) g3 (by have := names_len S ok x.name; omega) fun b w4 f4 hb => ?_)⟩
  rw [hb.2 rfl]
  have hS4 := hS3.q f4
  exact ⟨seen hS4,q_of (.bool true) (fun w_ hS => s_pick_t ⟨rfl,rfl⟩) (hk w4 D E bv pv bb pp hS4.drop hbb)⟩
 rw [if_neg k10] at hk
 refine s_eqi_f k10 (pC_false ?_)
 by_cases k11 : x.kind = 11
 ·rw [if_pos k11] at hk
  refine s_eqi_t k11 (pC_true ?_)
  replace hS := hS.q (Fr.drew _ _)
  refine ⟨Seen xb x dv pv' Pb D E K,seen hS,?_⟩
  refine q_of _ (fun w_ hS => s_nil ⟨rfl,rfl⟩) (q_of _ (fun w_ hS => fa33_0 ⟨rfl,rfl⟩) (q_of (ptr D) (fun w_ hS => s_ldb (isAgg29 _) hS.2 rfl ⟨rfl,rfl⟩) ?_))
  refine q_of _ (fun w_ hS => fa41_6 ⟨rfl,rfl⟩) (q_of (planVal x.plan) (fun w_ hS => s_ldAgg (m := 3) (isAgg38 _) (sizeOf38 _) hS.1 (by show 0 + 6 + 3 ≤ 10; decide) ⟨rfl,rfl⟩) ?_)
  obtain ⟨O,I,L,hd,nx⟩ := Sep.disk hS 2 rfl
  refine c_plan hd ok.room.1 x.plan fun w2 O2 I2 L2 hx => ?_
  replace hS : Sep (StepL xb x dv pv' Pb D E K (S.plans x.plan) S bv pv bb pp (Base W :: l)) w2 := nx _ _ _ _ _ hx
  replace hS := hS.q (Fr.drew _ _)
  refine ⟨Seen xb x dv pv' Pb D E K,seen hS,?_⟩
  refine q_of _ (fun w_ hS => s_nil ⟨rfl,rfl⟩) (q_of _ (fun w_ hS => fa33_1 ⟨rfl,rfl⟩) (q_of (ptr E) (fun w_ hS => s_ldb (isAgg30 _) hS.2 rfl ⟨rfl,rfl⟩) ?_))
  refine q_of _ (fun w_ hS => fa41_6 ⟨rfl,rfl⟩) (q_of (planVal x.plan) (fun w_ hS => s_ldAgg (m := 3) (isAgg38 _) (sizeOf38 _) hS.1 (by show 0 + 6 + 3 ≤ 10; decide) ⟨rfl,rfl⟩) ?_)
  obtain ⟨O,I,L,hr,nr⟩ := Sep.ref hS 3 rfl
  refine r_plan hr x.plan fun w3 hx => ?_
  replace hS : Sep (StepL xb x dv pv' Pb D E K (S.plans x.plan) (S.plans x.plan) bv pv bb pp (Base W :: l)) w3 := nr _ _ _ _ _ hx
  rw [F73_1_eq]
  exact hk w3 D E bv pv bb pp hS.drop hbb
 rw [if_neg k11] at hk
 refine s_eqi_f k11 (pC_false ?_)
 by_cases k12 : x.kind = 12
 ·rw [if_pos k12] at hk
  refine s_eqi_t k12 (pC_true ?_)
  replace hS := hS.q (Fr.drew _ _)
  refine ⟨Seen xb x dv pv' Pb D E K,seen hS,?_⟩
  refine q_of _ (fun w_ hS => s_nil ⟨rfl,rfl⟩) (q_of _ (fun w_ hS => fa33_0 ⟨rfl,rfl⟩) (q_of (ptr D) (fun w_ hS => s_ldb (isAgg29 _) hS.2 rfl ⟨rfl,rfl⟩) ?_))
  refine q_of _ (fun w_ hS => s_nil ⟨rfl,rfl⟩) (q_of _ (fun w_ hS => fa33_2 ⟨rfl,rfl⟩) (q_of (ptr K) (fun w_ hS => s_ldb (isAgg31 _) hS.2 rfl ⟨rfl,rfl⟩) ?_))
  refine q_of _ (fun w_ hS => fa41_7 ⟨rfl,rfl⟩) (q_of (pv') (fun w_ hS => s_ldb (isAgg39 _) hS.1 rfl ⟨rfl,rfl⟩) ?_)
  refine s_picks (d := x.picks) hS (i := 4) (j := 5) (by decide) rfl rfl hv.picks (by omega) fun w2 pv2 v2 hS2 g2 b2 => ?_
  replace hS2 : Sep (StepL xb x dv pv' Pb D E K S S bv pv2 bb (x.picks ++ List.replicate 3 77) (Base W :: l)) w2 := hS2
  refine ⟨seen hS2,?_⟩
  obtain ⟨O,I,L,hd,nx⟩ := Sep.disk hS2 2 rfl
  refine c_crashP sortsKeys hd ok (by omega) g2 (crash_names ok x.picks) fun w3 O3 I3 L3 hx => ?_
  replace hS : Sep (StepL xb x dv pv' Pb D E K (S.crash x.picks) S bv pv2 bb (x.picks ++ List.replicate 3 77) (Base W :: l)) w3 := nx _ _ _ _ _ hx
  replace hS := hS.q (Fr.drew _ _)
  refine ⟨Seen xb x dv pv' Pb D E K,seen hS,?_⟩
  refine q_of _ (fun w_ hS => s_nil ⟨rfl,rfl⟩) (q_of _ (fun w_ hS => fa33_1 ⟨rfl,rfl⟩) (q_of (ptr E) (fun w_ hS => s_ldb (isAgg30 _) hS.2 rfl ⟨rfl,rfl⟩) ?_))
  refine q_of _ (fun w_ hS => fa41_7 ⟨rfl,rfl⟩) (q_of (pv') (fun w_ hS => s_ldb (isAgg39 _) hS.1 rfl ⟨rfl,rfl⟩) ?_)
  obtain ⟨O,I,L,hr,nr⟩ := Sep.ref hS 3 rfl
  refine r_crash hr ok (hv.fr (hS.base_at 5 rfl)).picks fun w4 O4 I4 L4 hx => ?_
  replace hS : Sep (StepL xb x dv pv' Pb D E K (S.crash x.picks) (S.crash x.picks) bv pv2 bb (x.picks ++ List.replicate 3 77) (Base W :: l)) w4 := nr _ _ _ _ _ hx
  replace hS := hS.q (Fr.drew _ _)
  refine ⟨Seen xb x dv pv' Pb D E K,seen hS,?_⟩
  refine q_of _ (fun w_ hS => s_nil ⟨rfl,rfl⟩) (q_of _ (fun w_ hS => fa33_2 ⟨rfl,rfl⟩) (q_of (ptr K) (fun w_ hS => s_ldb (isAgg31 _) hS.2 rfl ⟨rfl,rfl⟩) ?_))
  refine q_of _ (fun w_ hS => fa41_7 ⟨rfl,rfl⟩) (q_of (pv') (fun w_ hS => s_ldb (isAgg39 _) hS.1 rfl ⟨rfl,rfl⟩) ?_)
  obtain ⟨O,I,⟨g1,g3,g4,_⟩⟩ := hS.get 4 rfl
  refine c_picked (n := 3) g1 (by simpa using g4) (hv.fr (hS.base_at 5 rfl)).picks (by omega) fun w5 f5 => ?_
  replace hS := hS.q f5
  refine ⟨seen hS,s_nil (fa33_2 (s_ldb (v := ptr K) (isAgg31 _) (hS.cells 1 rfl) rfl ?_))⟩
  refine s_picks (d := []) hS (i := 4) (j := 5) (by decide) rfl rfl (Src.nil W 1) (by simp) fun w6 pv6 v6 hS6 _ _ => ?_
  exact hk w6 D E bv pv6 bb _ (Sep.drop (a := Cells xb (stepCells x dv pv').toArray 41) hS6) hbb
 rw [if_neg k12] at hk
 refine s_eqi_f k12 (pC_false ?_)
 by_cases k13 : x.kind = 13
 ·rw [if_pos k13] at hk
  refine s_eqi_t k13 (pC_true (s_nil (fa33_0 (s_ldb (v := ptr D) (isAgg29 _) (hS.cells 1 rfl) rfl ?_))))
  obtain ⟨O,I,L,hd,nx⟩ := Sep.disk hS 2 rfl
  refine c_lookF hd ok.room.1 fun w2 O2 I2 L2 hx => ?_
  replace hS : Sep (StepL xb x dv pv' Pb D E K S.lookAway S bv pv bb pp (Base W :: l)) w2 := nx _ _ _ _ _ hx
  refine s_nil (fa33_1 (s_ldb (v := ptr E) (isAgg30 _) (hS.cells 1 rfl) rfl ?_))
  obtain ⟨O,I,L,hr,nr⟩ := Sep.ref hS 3 rfl
  refine r_look hr fun w3 L3 hx => ?_
  replace hS : Sep (StepL xb x dv pv' Pb D E K S.lookAway S.lookAway bv pv bb pp (Base W :: l)) w3 := nr _ _ _ _ _ hx
  rw [F73_1_eq]
  exact hk w3 D E bv pv bb pp hS.drop hbb
 rw [if_neg k13] at hk
 refine s_eqi_f k13 (pC_false ?_)
 by_cases k14 : x.kind = 14
 ·refine s_eqi_t k14 (pC_true (s_nil (fa33_0 (s_ldb (v := ptr D) (isAgg29 _) (hS.cells 1 rfl) rfl ?_))))
  replace hS : Sep (Dk D S :: Cells xb (stepCells x dv pv').toArray 41 :: Cells Pb #[ptr D,ptr E,ptr K] 33 :: Rk E S :: DeskA K bv pv bb pp :: Base W :: l) w1 := hS.front 2 rfl
  obtain ⟨O,I,L,hd,nx⟩ := Sep.disk2 hS
  refine c_twin hd ok fun w2 D' L' hx f2 => ?_
  replace hS := nx w2 D' L' hx f2
  unfold ptr
  refine s_eqpn upt29 (pC_false (s_nil (fa33_0 (s_ldb (v := ptr D) (isAgg29 _) (hS.cells 3 rfl) rfl (s_nil (fa33_0 ?_))))))
  refine s_st (sizeOf29 _) rfl rfl (hS.cells 3 rfl) (by show 0 < 3; decide) ?_
  replace hS : Sep (Dk D S :: Dk D' S :: Cells xb (stepCells x dv pv').toArray 41 :: Cells Pb #[ptr D',ptr E,ptr K] 33 :: Rk E S :: DeskA K bv pv bb pp :: Base W :: l) (w2.setCell ⟨Pb,0,none⟩ (ptr D')) := hS.set 3 rfl 0 (ptr D')
  show px P _ (w2.setCell ⟨Pb,0,none⟩ (ptr D')) _
  generalize w2.setCell ⟨Pb,0,none⟩ (ptr D') = w3 at *
  refine s_nil (fa33_1 (s_ldb (v := ptr E) (isAgg30 _) (hS.cells 3 rfl) rfl ?_))
  obtain ⟨O,I,L,hr,nr⟩ := Sep.ref hS 4 rfl
  refine r_twin hr ok (by omega) fun w4 E' O' I' L' hx hlow f4 => ?_
  replace hS : Sep (Rk E' S :: Dk D S :: Dk D' S :: Cells xb (stepCells x dv pv').toArray 41 :: Cells Pb #[ptr D',ptr E,ptr K] 33 :: Rk E S :: DeskA K bv pv bb pp :: Base W :: l) w4 := hS.new f4 (fun b hb => hb.elim) ⟨L',hx⟩ (fun b hb => hlow b (.inl hb)) fun b hb => hlow b (.inr hb)
  refine s_nil (fa33_1 (s_st (sizeOf30 _) rfl rfl (hS.cells 4 rfl) (by show 1 < 3; decide) ?_))
  replace hS : Sep (Rk E' S :: Dk D S :: Dk D' S :: Cells xb (stepCells x dv pv').toArray 41 :: Cells Pb #[ptr D',ptr E',ptr K] 33 :: Rk E S :: DeskA K bv pv bb pp :: Base W :: l) (w4.setCell ⟨Pb,1,none⟩ (ptr E')) := hS.set 4 rfl 1 (ptr E')
  show pFn P _ _ (w4.setCell ⟨Pb,1,none⟩ (ptr E')) _
  generalize w4.setCell ⟨Pb,1,none⟩ (ptr E') = w5 at *
  refine s_old hS (i := 1) rfl ok (by omega) fun w6 S6 hS6 => ?_
  intros
  rw [F73_1_eq]
  replace hS6 : Sep (Rk E' S :: Dk D S6 :: Dk D' S :: Cells xb (stepCells x dv pv').toArray 41 :: Cells Pb #[ptr D',ptr E',ptr K] 33 :: Rk E S :: DeskA K bv pv bb pp :: Base W :: l) w6 := hS6
  have h1 : Sep (Rk E' S :: Dk D' S :: Cells Pb #[ptr D',ptr E',ptr K] 33 :: DeskA K bv pv bb pp :: Base W :: l) w6 := ((hS6.erase 5 rfl).erase 3 rfl).erase 1 rfl
  have h2 : Sep (Dk D' S :: Rk E' S :: Cells Pb #[ptr D',ptr E',ptr K] 33 :: DeskA K bv pv bb pp :: Base W :: l) w6 := h1.front 1 rfl
  exact hk w6 D' E' bv pv bb pp (h2.front 2 rfl) hbb
 refine s_eqi_f k14 (pC_false ?_)
 rw [F73_1_eq]
 exact hk w1 D E bv pv bb pp hS.drop hbb
end
section
variable {w w0:World} {k:KV}
variable {W:World} {xb Pb D E K c:Nat} {x:StepA} {dv pv' bv pv:Value} {S T:AD} {bb:Bytes} {pp:List Int} {l:List Asrt}
set_option maxHeartbeats 2000000 in
theorem st_step (hS:Sep (PairL Pb D E K S bv pv bb pp (Base W :: l)) w) (ok:S.Ok c) (hc:c ≤ 100000) (hv:StepV W x dv pv') (hd:x.data.length ≤ 100000) (hpk:x.picks.length ≤ 100000) (hbb:bb.length ≤ 1000000) (hk:StepEnd W Pb K (S.doStep x).2 l k) : pFn P 18 [ptr Pb,stepVal x dv pv'] w k := by
 refine F18_in _ _ _ _ ?_
 unfold F18_0
 refine s_box ?_
 have hS0 := hS
 replace hS : Sep (StepL w.heap.size x dv pv' Pb D E K S S bv pv bb pp (Base W :: l)) (w.alloc (.cells (stepCells x dv pv').toArray 41)) := hS.cell _ _
 rw [show (stepVal x dv pv').cells = (stepCells x dv pv').toArray from rfl]
 generalize w.alloc (.cells (stepCells x dv pv').toArray 41) = w1 at *
 show px P (Instr.fieldAt 41 (ptr w.heap.size) 0) w1 _
 generalize w.heap.size = xb at *
 refine fa41_0 (s_ldb (v := i64 x.kind) (isAgg3 _) (hS.cells 0 rfl) rfl ?_)
 by_cases k1 : x.kind = 1
 ·have hdo : (S.doStep x).2 = (S.create x.name).2 := by unfold AD.doStep; rw [if_pos k1]
  rw [hdo] at hk
  refine s_eqi_t k1 (pC_true ?_)
  exact st_create hS ok hv fun w' h => hk w' D E bv pv bb pp h.drop hbb
 refine s_eqi_f k1 (pC_false ?_)
 by_cases k2 : x.kind = 2
 ·have hdo : (S.doStep x).2 = (S.writeAt x.name x.at_ x.data).2 := by unfold AD.doStep; rw [if_neg k1,if_pos k2]
  rw [hdo] at hk
  refine s_eqi_t k2 (pC_true ?_)
  exact st_writeAt hS ok hv hd hbb fun w' bv' bb' h hb => hk w' D E bv' pv bb' pp h.drop hb
 refine s_eqi_f k2 (pC_false ?_)
 by_cases k3 : x.kind = 3
 ·have hdo : (S.doStep x).2 = (S.append x.name x.data).2 := by unfold AD.doStep; rw [if_neg k1,if_neg k2,if_pos k3]
  rw [hdo] at hk
  refine s_eqi_t k3 (pC_true ?_)
  exact st_append hS ok hv hd hbb fun w' bv' bb' h hb => hk w' D E bv' pv bb' pp h.drop hb
 refine s_eqi_f k3 (pC_false ?_)
 by_cases k4 : x.kind = 4
 ·have hdo : (S.doStep x).2 = (S.truncate x.name x.n).2 := by unfold AD.doStep; rw [if_neg k1,if_neg k2,if_neg k3,if_pos k4]
  rw [hdo] at hk
  refine s_eqi_t k4 (pC_true ?_)
  exact st_truncate hS ok hv fun w' h => hk w' D E bv pv bb pp h.drop hbb
 refine s_eqi_f k4 (pC_false ?_)
 by_cases k5 : x.kind = 5
 ·have hdo : (S.doStep x).2 = (S.rename x.name x.to_).2 := by unfold AD.doStep; rw [if_neg k1,if_neg k2,if_neg k3,if_neg k4,if_pos k5]
  rw [hdo] at hk
  refine s_eqi_t k5 (pC_true ?_)
  exact st_rename hS ok hv fun w' h => hk w' D E bv pv bb pp h.drop hbb
 refine s_eqi_f k5 (pC_false ?_)
 by_cases k6 : x.kind = 6
 ·have hdo : (S.doStep x).2 = (S.remove x.name).2 := by unfold AD.doStep; rw [if_neg k1,if_neg k2,if_neg k3,if_neg k4,if_neg k5,if_pos k6]
  rw [hdo] at hk
  refine s_eqi_t k6 (pC_true ?_)
  exact st_remove hS ok hv fun w' h => hk w' D E bv pv bb pp h.drop hbb
 refine s_eqi_f k6 (pC_false ?_)
 by_cases k7 : x.kind = 7
 ·have hdo : (S.doStep x).2 = (S.sync x.name).2 := by unfold AD.doStep; rw [if_neg k1,if_neg k2,if_neg k3,if_neg k4,if_neg k5,if_neg k6,if_pos k7]
  rw [hdo] at hk
  refine s_eqi_t k7 (pC_true ?_)
  exact st_sync hS ok hv fun w' h => hk w' D E bv pv bb pp h.drop hbb
 refine s_eqi_f k7 (pC_false ?_)
 by_cases k8 : x.kind = 8
 ·have hdo : (S.doStep x).2 = S.syncNames.2 := by unfold AD.doStep; rw [if_neg k1,if_neg k2,if_neg k3,if_neg k4,if_neg k5,if_neg k6,if_neg k7,if_pos k8]
  rw [hdo] at hk
  refine s_eqi_t k8 (pC_true ?_)
  exact st_syncNames hS ok hv fun w' h => hk w' D E bv pv bb pp h.drop hbb
 refine s_eqi_f k8 (pC_false ?_)
 refine s_ldStep (hS.cells 0 rfl) ?_
 refine st_other hS.drop ok hc hv hpk ?_ hbb hk
 intro j hj he
 have : j = 1 ∨ j = 2 ∨ j = 3 ∨ j = 4 ∨ j = 5 ∨ j = 6 ∨ j = 7 ∨ j = 8 := by omega
 rcases this with rfl | rfl | rfl | rfl | rfl | rfl | rfl | rfl <;> contradiction
end
section
variable {w w0:World} {k:KV}
variable {W:World} {xb Pb D E K c:Nat} {x:StepA} {dv pv' bv pv:Value} {S T:AD} {bb:Bytes} {pp:List Int} {l:List Asrt}
theorem DeskA.none {K:Nat} {w:World} (h:w.heap[K]? = some (.cells #[.slice none 0 0,.slice none 0 0] 51 (0,0))) : (DeskA K (.slice none 0 0) (.slice none 0 0) [] []).h w (fun b => b = K) (fun _ => False) :=
 ⟨h,⟨rfl,.inl ⟨rfl,rfl⟩⟩,⟨rfl,.inl ⟨rfl,rfl⟩⟩,fun b => ⟨.inl,fun h => h.elim id fun h => h.elim (fun h => by cases h) fun h => by cases h⟩,fun _ h => h⟩
end
end Go.Proofs.YtcdcojpfealppaaGreat

namespace Go.Proofs.XRed
open Go Go.Proofs
def drawPre (ops:Array Oper) : Array Bool → List Nat → Bool
 | _,[] => true
 | listed,i :: rest =>
  (Region.ready .any ops listed).contains i &&
  (if quietOp (ops.getD i default).op then Region.free .any ops listed i else Region.ready .any ops listed == [i]) &&
  drawPre ops (listed.setIfInBounds i true) rest
def listedAt (listed:Array Bool) : List Nat → Array Bool
 | [] => listed
 | i :: r => listedAt (listed.setIfInBounds i true) r
theorem drawOk_pre {ops:Array Oper} : ∀ {o1:List Nat} {listed:Array Bool} {fuel:Nat} {o2:List Nat},drawPre ops listed o1 = true → drawOk ops fuel (listedAt listed o1) o2 = true → drawOk ops (fuel + o1.length) listed (o1 ++ o2) = true
 | [],_,_,_,_,h => h
 | i :: r,listed,fuel,o2,h,h2 => by
  simp only [drawPre,Bool.and_eq_true] at h
  show drawOk ops (fuel + r.length + 1) listed (i :: (r ++ o2)) = true
  simp only [drawOk,Bool.and_eq_true]
  exact ⟨h.1,drawOk_pre h.2 h2⟩
def opsOf : Code → Array Oper
 | .region _ ops _ => ops
 | _ => #[]
def isDrawn : Code → Bool
 | .region _ _ d => d
 | _ => false
def isSeq : Code → Bool
 | .seq _ _ => true
 | _ => false
theorem fits_seq {n:Nat} {B:Code} (hB:isSeq B = true) (h1:Code.fits n (sub B [0]) = true) (h2:Code.fits n (sub B [1]) = true) : Code.fits n B = true := by
 cases B with
 | seq x y =>
  have h1' : Code.fits n (sub x []) = true := h1
  have h2' : Code.fits n (sub y []) = true := h2
  have e1 : sub x [] = x := by cases x <;> rfl
  have e2 : sub y [] = y := by cases y <;> rfl
  rw [e1] at h1'; rw [e2] at h2'
  simp only [Code.fits,Bool.and_eq_true]
  exact ⟨h1',h2'⟩
 | _ => cases hB
theorem fits_drawn {n:Nat} {c:Code} (hd:isDrawn c = true) (hw:wfOps n (opsOf c).toList = true) (hs:Region.noSelect (opsOf c) = true) {ord:List Nat}
    (ho:drawOrder (opsOf c) (opsOf c).size (Array.replicate (opsOf c).size false) = ord)
    (hk:drawOk (opsOf c) (opsOf c).size (Array.replicate (opsOf c).size false) ord = true) : Code.fits n c = true := by
  cases c with
  | region id ops draw =>
    have hd' : draw = true := hd
    subst hd'
    have hw' : wfOps n ops.toList = true := hw
    have hs' : Region.noSelect ops = true := hs
    have ho' : drawOrder ops ops.size (Array.replicate ops.size false) = ord := ho
    have hk' : drawOk ops ops.size (Array.replicate ops.size false) ord = true := hk
    simp only [Code.fits,Bool.and_eq_true]
    refine ⟨hw',?_⟩
    rw [ho']
    simp [hs',hk']
  | _ => cases hd
end Go.Proofs.XRed

namespace Go.Proofs.YtcdcojpfealppaaGreat
open Go Go.Proofs Go.Proofs.XRed Tryz
open Go.Instr (fieldAt loadAt storeAt indexAt sliceAt extract)
noncomputable def F19B : Code := bodyOf f19
def F19A (k:KV) (q:List Nat) (ρ:Env) (w:World) : Prop := At prog 105 F19B (retQ prog f19.results.toList k) q ρ w
def F19_0 (p0:Value) (w:World) (k:KV) : Prop :=
 ∃ S : World → Prop,S w.drew ∧ (fun w =>
 pq prog S (nilSem p0) fun v4 =>
 pq prog S (fieldAt 33 v4 0) fun v5 =>
 pq prog S (loadAt 29 v5) fun v6 =>
 pq prog S (nilSem p0) fun v9 =>
 pq prog S (fieldAt 33 v9 1) fun v10 =>
 pq prog S (loadAt 30 v10) fun v11 =>
 pFn prog 26 [v6] w fun v7 w => S w ∧ (
 pFn prog 74 [v11] w fun v12 w => S w ∧ (
 pq prog S (binSem .eql 4 (.tmp 7) (.tmp 12) v7 v12) fun v13 =>
 pGq v13 true (fun k => k p0) (next := fun v15 =>
 pGq v13 true (fun k => pq prog S (nilSem v15) k) (next := fun v16 =>
 pGq v13 true (fun k => pq prog S (fieldAt 33 v16 0) k) (next := fun v17 =>
 pGq v13 true (fun k => pq prog S (loadAt 29 v17) k) (next := fun v18 =>
 pGq v13 true (fun k => k p0) (next := fun v20 =>
 pGq v13 true (fun k => pq prog S (nilSem v20) k) (next := fun v21 =>
 pGq v13 true (fun k => pq prog S (fieldAt 33 v21 1) k) (next := fun v22 =>
 pGq v13 true (fun k => pq prog S (loadAt 30 v22) k) (next := fun v23 =>
 pG v13 true (fun k => pFn prog 57 [v18] w k) (w := w) (next := fun v19 w => S w ∧ (
 pG v13 true (fun k => pFn prog 75 [v23] w k) (w := w) (next := fun v24 w => S w ∧ (
 pGq v13 true (fun k => pq prog S (binSem .eql 3 (.tmp 19) (.tmp 24) v19 v24) k) (next := fun v25 =>
 pq prog S (pickSem v13 v25 (.bool false)) fun v26 =>
 pGq v26 true (fun k => k p0) (next := fun v28 =>
 pGq v26 true (fun k => pq prog S (nilSem v28) k) (next := fun v29 =>
 pGq v26 true (fun k => pq prog S (fieldAt 33 v29 0) k) (next := fun v30 =>
 pGq v26 true (fun k => pq prog S (loadAt 29 v30) k) (next := fun v31 =>
 pGq v26 true (fun k => k p0) (next := fun v33 =>
 pGq v26 true (fun k => pq prog S (nilSem v33) k) (next := fun v34 =>
 pGq v26 true (fun k => pq prog S (fieldAt 33 v34 1) k) (next := fun v35 =>
 pGq v26 true (fun k => pq prog S (loadAt 30 v35) k) (next := fun v36 =>
 pG v26 true (fun k => pFn prog 60 [v31] w k) (w := w) (next := fun v32 w => S w ∧ (
 pG v26 true (fun k => pFn prog 76 [v36] w k) (w := w) (next := fun v37 w => S w ∧ (
 pGq v26 true (fun k => pq prog S (binSem .eql 3 (.tmp 32) (.tmp 37) v32 v37) k) (next := fun v38 =>
 pq prog S (pickSem v26 v38 (.bool false)) fun v39 =>
 pGq v39 true (fun k => k p0) (next := fun v41 =>
 pGq v39 true (fun k => pq prog S (nilSem v41) k) (next := fun v42 =>
 pGq v39 true (fun k => pq prog S (fieldAt 33 v42 0) k) (next := fun v43 =>
 pGq v39 true (fun k => pq prog S (loadAt 29 v43) k) (next := fun v44 =>
 pGq v39 true (fun k => k p0) (next := fun v46 =>
 pGq v39 true (fun k => pq prog S (nilSem v46) k) (next := fun v47 =>
 pGq v39 true (fun k => pq prog S (fieldAt 33 v47 1) k) (next := fun v48 =>
 pGq v39 true (fun k => pq prog S (loadAt 30 v48) k) (next := fun v49 =>
 pG v39 true (fun k => pFn prog 27 [v44] w k) (w := w) (next := fun v45 w => S w ∧ (
 pG v39 true (fun k => pFn prog 77 [v49] w k) (w := w) (next := fun v50 w => S w ∧ (
 pGq v39 true (fun k => pq prog S (binSem .eql 3 (.tmp 45) (.tmp 50) v45 v50) k) (next := fun v51 =>
 pq prog S (pickSem v39 v51 (.bool false)) fun v52 =>
 pGq v52 true (fun k => k p0) (next := fun v54 =>
 pGq v52 true (fun k => pq prog S (nilSem v54) k) (next := fun v55 =>
 pGq v52 true (fun k => pq prog S (fieldAt 33 v55 0) k) (next := fun v56 =>
 pGq v52 true (fun k => pq prog S (loadAt 29 v56) k) (next := fun v57 =>
 pGq v52 true (fun k => k p0) (next := fun v59 =>
 pGq v52 true (fun k => pq prog S (nilSem v59) k) (next := fun v60 =>
 pGq v52 true (fun k => pq prog S (fieldAt 33 v60 1) k) (next := fun v61 =>
 pGq v52 true (fun k => pq prog S (loadAt 30 v61) k) (next := fun v62 =>
 pG v52 true (fun k => pFn prog 28 [v57] w k) (w := w) (next := fun v58 w => S w ∧ (
 pG v52 true (fun k => pFn prog 41 [v62] w k) (w := w) (next := fun v63 w => S w ∧ (
 pG v52 true (fun k => pFn prog 40 [v58,v63] w k) (w := w) (next := fun v64 w => S w ∧ (
 pq prog S (pickSem v52 v64 (.bool false)) fun v65 =>
 pGq v65 true (fun k => k p0) (next := fun v67 =>
 pGq v65 true (fun k => pq prog S (nilSem v67) k) (next := fun v68 =>
 pGq v65 true (fun k => pq prog S (fieldAt 33 v68 0) k) (next := fun v69 =>
 pGq v65 true (fun k => pq prog S (loadAt 29 v69) k) (next := fun v70 =>
 pGq v65 true (fun k => k p0) (next := fun v72 =>
 pGq v65 true (fun k => pq prog S (nilSem v72) k) (next := fun v73 =>
 pGq v65 true (fun k => pq prog S (fieldAt 33 v73 1) k) (next := fun v74 =>
 pGq v65 true (fun k => pq prog S (loadAt 30 v74) k) (next := fun v75 =>
 pG v65 true (fun k => pFn prog 29 [v70] w k) (w := w) (next := fun v71 w => S w ∧ (
 pG v65 true (fun k => pFn prog 42 [v75] w k) (w := w) (next := fun v76 w => S w ∧ (
 pG v65 true (fun k => pFn prog 40 [v71,v76] w k) (w := w) (next := fun v77 w => S w ∧ (
 pq prog S (pickSem v65 v77 (.bool false)) fun v78 =>
 pGq v78 true (fun k => k p0) (next := fun v80 =>
 pGq v78 true (fun k => pq prog S (nilSem v80) k) (next := fun v81 =>
 pGq v78 true (fun k => pq prog S (fieldAt 33 v81 0) k) (next := fun v82 =>
 pGq v78 true (fun k => pq prog S (loadAt 29 v82) k) (next := fun v83 =>
 pGq v78 true (fun k => k p0) (next := fun v85 =>
 pGq v78 true (fun k => pq prog S (nilSem v85) k) (next := fun v86 =>
 pGq v78 true (fun k => pq prog S (fieldAt 33 v86 1) k) (next := fun v87 =>
 pGq v78 true (fun k => pq prog S (loadAt 30 v87) k) (next := fun v88 =>
 pG v78 true (fun k => pFn prog 31 [v83] w k) (w := w) (next := fun v84 w => S w ∧ (
 pG v78 true (fun k => pFn prog 33 [v88] w k) (w := w) (next := fun v89 w => S w ∧ (
 pG v78 true (fun k => pFn prog 45 [v84,v89] w k) (w := w) (next := fun v90 w => S w ∧ (
 pq prog S (pickSem v78 v90 (.bool false)) fun v91 =>
 pGq v91 true (fun k => k p0) (next := fun v93 =>
 pGq v91 true (fun k => pq prog S (nilSem v93) k) (next := fun v94 =>
 pGq v91 true (fun k => pq prog S (fieldAt 33 v94 0) k) (next := fun v95 =>
 pGq v91 true (fun k => pq prog S (loadAt 29 v95) k) (next := fun v96 =>
 pGq v91 true (fun k => k p0) (next := fun v98 =>
 pGq v91 true (fun k => pq prog S (nilSem v98) k) (next := fun v99 =>
 pGq v91 true (fun k => pq prog S (fieldAt 33 v99 1) k) (next := fun v100 =>
 pGq v91 true (fun k => pq prog S (loadAt 30 v100) k) (next := fun v101 =>
 pG v91 true (fun k => pFn prog 30 [v96,(.string (ByteArray.mk #[]))] w k) (w := w) (next := fun v97 w => S w ∧ (
 pG v91 true (fun k => pFn prog 44 [v101,(.string (ByteArray.mk #[]))] w k) (w := w) (next := fun v102 w => S w ∧ (
 pG v91 true (fun k => pFn prog 43 [v97,v102] w k) (w := w) (next := fun v103 w => S w ∧ (
 pq prog S (pickSem v91 v103 (.bool false)) fun v104 =>
 k v104 w)))))))))))))))))))))))))))))))))))))))))))))))))))))))))))))))))))))))))))))))))))))))))))))))))) w.drew
theorem F19_0_eq (p0:Value) (w:World) (k:KV) : F19A k [] (argEnv [p0]) w = F19_0 p0 w k := by kernel_rfl
noncomputable abbrev F19O : Array Oper := opsOf (sub F19B [1,0])
def F19l0 : Array Bool := #[false,false,false,false,false,false,false,false,false,false,false,false,false,false,false,false,false,false,false,false,false,false,false,false,false,false,false,false,false,false,false,false,false,false,false,false,false,false,false,false,false,false,false,false,false,false,false,false,false,false,false,false,false,false,false,false,false,false,false,false,false,false,false,false,false,false,false,false,false,false,false,false,false,false,false,false,false,false,false,false,false,false,false,false,false,false,false,false,false,false,false,false,false,false,false,false,false,false,false,false,false,false,false]
def F19l1 : Array Bool := #[true,true,true,true,true,true,true,true,true,true,true,true,true,false,false,false,false,false,false,false,false,false,false,false,false,false,false,false,false,false,false,false,false,false,false,false,false,false,false,false,false,false,false,false,false,false,false,false,false,false,false,false,false,false,false,false,false,false,false,false,false,false,false,false,false,false,false,false,false,false,false,false,false,false,false,false,false,false,false,false,false,false,false,false,false,false,false,false,false,false,false,false,false,false,false,false,false,false,false,false,false,false,false]
def F19l2 : Array Bool := #[true,true,true,true,true,true,true,true,true,true,true,true,true,true,true,true,true,true,true,true,true,true,true,true,true,true,false,false,false,false,false,false,false,false,false,false,false,false,false,false,false,false,false,false,false,false,false,false,false,false,false,false,false,false,false,false,false,false,false,false,false,false,false,false,false,false,false,false,false,false,false,false,false,false,false,false,false,false,false,false,false,false,false,false,false,false,false,false,false,false,false,false,false,false,false,false,false,false,false,false,false,false,false]
def F19l3 : Array Bool := #[true,true,true,true,true,true,true,true,true,true,true,true,true,true,true,true,true,true,true,true,true,true,true,true,true,true,true,true,true,true,true,true,true,true,true,true,true,true,true,false,false,false,false,false,false,false,false,false,false,false,false,false,false,false,false,false,false,false,false,false,false,false,false,false,false,false,false,false,false,false,false,false,false,false,false,false,false,false,false,false,false,false,false,false,false,false,false,false,false,false,false,false,false,false,false,false,false,false,false,false,false,false,false]
def F19l4 : Array Bool := #[true,true,true,true,true,true,true,true,true,true,true,true,true,true,true,true,true,true,true,true,true,true,true,true,true,true,true,true,true,true,true,true,true,true,true,true,true,true,true,true,true,true,true,true,true,true,true,true,true,true,true,true,false,false,false,false,false,false,false,false,false,false,false,false,false,false,false,false,false,false,false,false,false,false,false,false,false,false,false,false,false,false,false,false,false,false,false,false,false,false,false,false,false,false,false,false,false,false,false,false,false,false,false]
def F19l5 : Array Bool := #[true,true,true,true,true,true,true,true,true,true,true,true,true,true,true,true,true,true,true,true,true,true,true,true,true,true,true,true,true,true,true,true,true,true,true,true,true,true,true,true,true,true,true,true,true,true,true,true,true,true,true,true,true,true,true,true,true,true,true,true,true,true,true,true,true,false,false,false,false,false,false,false,false,false,false,false,false,false,false,false,false,false,false,false,false,false,false,false,false,false,false,false,false,false,false,false,false,false,false,false,false,false,false]
def F19l6 : Array Bool := #[true,true,true,true,true,true,true,true,true,true,true,true,true,true,true,true,true,true,true,true,true,true,true,true,true,true,true,true,true,true,true,true,true,true,true,true,true,true,true,true,true,true,true,true,true,true,true,true,true,true,true,true,true,true,true,true,true,true,true,true,true,true,true,true,true,true,true,true,true,true,true,true,true,true,true,true,true,true,false,false,false,false,false,false,false,false,false,false,false,false,false,false,false,false,false,false,false,false,false,false,false,false,false]
def F19l7 : Array Bool := #[true,true,true,true,true,true,true,true,true,true,true,true,true,true,true,true,true,true,true,true,true,true,true,true,true,true,true,true,true,true,true,true,true,true,true,true,true,true,true,true,true,true,true,true,true,true,true,true,true,true,true,true,true,true,true,true,true,true,true,true,true,true,true,true,true,true,true,true,true,true,true,true,true,true,true,true,true,true,true,true,true,true,true,true,true,true,true,true,true,true,true,false,false,false,false,false,false,false,false,false,false,false,false]
def F19l8 : Array Bool := #[true,true,true,true,true,true,true,true,true,true,true,true,true,true,true,true,true,true,true,true,true,true,true,true,true,true,true,true,true,true,true,true,true,true,true,true,true,true,true,true,true,true,true,true,true,true,true,true,true,true,true,true,true,true,true,true,true,true,true,true,true,true,true,true,true,true,true,true,true,true,true,true,true,true,true,true,true,true,true,true,true,true,true,true,true,true,true,true,true,true,true,true,true,true,true,true,true,true,true,true,true,true,true]
theorem F19c0 : drawPre F19O F19l0 [0,1,2,3,5,6,7,8,4,9,10,11,12] = true := by kernel_rfl
theorem F19a0 : listedAt F19l0 [0,1,2,3,5,6,7,8,4,9,10,11,12] = F19l1 := by kernel_rfl
theorem F19c1 : drawPre F19O F19l1 [13,14,15,17,18,19,20,16,21,22,23,24,25] = true := by kernel_rfl
theorem F19a1 : listedAt F19l1 [13,14,15,17,18,19,20,16,21,22,23,24,25] = F19l2 := by kernel_rfl
theorem F19c2 : drawPre F19O F19l2 [26,27,28,30,31,32,33,29,34,35,36,37,38] = true := by kernel_rfl
theorem F19a2 : listedAt F19l2 [26,27,28,30,31,32,33,29,34,35,36,37,38] = F19l3 := by kernel_rfl
theorem F19c3 : drawPre F19O F19l3 [39,40,41,43,44,45,46,42,47,48,49,50,51] = true := by kernel_rfl
theorem F19a3 : listedAt F19l3 [39,40,41,43,44,45,46,42,47,48,49,50,51] = F19l4 := by kernel_rfl
theorem F19c4 : drawPre F19O F19l4 [52,53,54,56,57,58,59,55,60,61,62,63,64] = true := by kernel_rfl
theorem F19a4 : listedAt F19l4 [52,53,54,56,57,58,59,55,60,61,62,63,64] = F19l5 := by kernel_rfl
theorem F19c5 : drawPre F19O F19l5 [65,66,67,69,70,71,72,68,73,74,75,76,77] = true := by kernel_rfl
theorem F19a5 : listedAt F19l5 [65,66,67,69,70,71,72,68,73,74,75,76,77] = F19l6 := by kernel_rfl
theorem F19c6 : drawPre F19O F19l6 [78,79,80,82,83,84,85,81,86,87,88,89,90] = true := by kernel_rfl
theorem F19a6 : listedAt F19l6 [78,79,80,82,83,84,85,81,86,87,88,89,90] = F19l7 := by kernel_rfl
theorem F19c7 : drawPre F19O F19l7 [91,92,93,95,96,97,98,94,99,100,101,102] = true := by kernel_rfl
theorem F19a7 : listedAt F19l7 [91,92,93,95,96,97,98,94,99,100,101,102] = F19l8 := by kernel_rfl
theorem F19e : drawOk F19O 0 F19l8 [] = true := by kernel_rfl
theorem F19k7 : drawOk F19O 12 F19l7 [91,92,93,95,96,97,98,94,99,100,101,102] = true := drawOk_pre (fuel := 0) (o1 := [91,92,93,95,96,97,98,94,99,100,101,102]) F19c7 (by rw [F19a7]; exact F19e)
theorem F19k6 : drawOk F19O 25 F19l6 [78,79,80,82,83,84,85,81,86,87,88,89,90,91,92,93,95,96,97,98,94,99,100,101,102] = true := drawOk_pre (fuel := 12) (o1 := [78,79,80,82,83,84,85,81,86,87,88,89,90]) F19c6 (by rw [F19a6]; exact F19k7)
theorem F19k5 : drawOk F19O 38 F19l5 [65,66,67,69,70,71,72,68,73,74,75,76,77,78,79,80,82,83,84,85,81,86,87,88,89,90,91,92,93,95,96,97,98,94,99,100,101,102] = true := drawOk_pre (fuel := 25) (o1 := [65,66,67,69,70,71,72,68,73,74,75,76,77]) F19c5 (by rw [F19a5]; exact F19k6)
theorem F19k4 : drawOk F19O 51 F19l4 [52,53,54,56,57,58,59,55,60,61,62,63,64,65,66,67,69,70,71,72,68,73,74,75,76,77,78,79,80,82,83,84,85,81,86,87,88,89,90,91,92,93,95,96,97,98,94,99,100,101,102] = true := drawOk_pre (fuel := 38) (o1 := [52,53,54,56,57,58,59,55,60,61,62,63,64]) F19c4 (by rw [F19a4]; exact F19k5)
theorem F19k3 : drawOk F19O 64 F19l3 [39,40,41,43,44,45,46,42,47,48,49,50,51,52,53,54,56,57,58,59,55,60,61,62,63,64,65,66,67,69,70,71,72,68,73,74,75,76,77,78,79,80,82,83,84,85,81,86,87,88,89,90,91,92,93,95,96,97,98,94,99,100,101,102] = true := drawOk_pre (fuel := 51) (o1 := [39,40,41,43,44,45,46,42,47,48,49,50,51]) F19c3 (by rw [F19a3]; exact F19k4)
theorem F19k2 : drawOk F19O 77 F19l2 [26,27,28,30,31,32,33,29,34,35,36,37,38,39,40,41,43,44,45,46,42,47,48,49,50,51,52,53,54,56,57,58,59,55,60,61,62,63,64,65,66,67,69,70,71,72,68,73,74,75,76,77,78,79,80,82,83,84,85,81,86,87,88,89,90,91,92,93,95,96,97,98,94,99,100,101,102] = true := drawOk_pre (fuel := 64) (o1 := [26,27,28,30,31,32,33,29,34,35,36,37,38]) F19c2 (by rw [F19a2]; exact F19k3)
theorem F19k1 : drawOk F19O 90 F19l1 [13,14,15,17,18,19,20,16,21,22,23,24,25,26,27,28,30,31,32,33,29,34,35,36,37,38,39,40,41,43,44,45,46,42,47,48,49,50,51,52,53,54,56,57,58,59,55,60,61,62,63,64,65,66,67,69,70,71,72,68,73,74,75,76,77,78,79,80,82,83,84,85,81,86,87,88,89,90,91,92,93,95,96,97,98,94,99,100,101,102] = true := drawOk_pre (fuel := 77) (o1 := [13,14,15,17,18,19,20,16,21,22,23,24,25]) F19c1 (by rw [F19a1]; exact F19k2)
theorem F19k0 : drawOk F19O 103 F19l0 [0,1,2,3,5,6,7,8,4,9,10,11,12,13,14,15,17,18,19,20,16,21,22,23,24,25,26,27,28,30,31,32,33,29,34,35,36,37,38,39,40,41,43,44,45,46,42,47,48,49,50,51,52,53,54,56,57,58,59,55,60,61,62,63,64,65,66,67,69,70,71,72,68,73,74,75,76,77,78,79,80,82,83,84,85,81,86,87,88,89,90,91,92,93,95,96,97,98,94,99,100,101,102] = true := drawOk_pre (fuel := 90) (o1 := [0,1,2,3,5,6,7,8,4,9,10,11,12]) F19c0 (by rw [F19a0]; exact F19k1)
theorem F19z : F19O.size = 103 := by kernel_rfl
theorem F19rp : Array.replicate 103 false = F19l0 := by kernel_rfl
theorem F19ord : drawOrder F19O 103 F19l0 = [0,1,2,3,5,6,7,8,4,9,10,11,12,13,14,15,17,18,19,20,16,21,22,23,24,25,26,27,28,30,31,32,33,29,34,35,36,37,38,39,40,41,43,44,45,46,42,47,48,49,50,51,52,53,54,56,57,58,59,55,60,61,62,63,64,65,66,67,69,70,71,72,68,73,74,75,76,77,78,79,80,82,83,84,85,81,86,87,88,89,90,91,92,93,95,96,97,98,94,99,100,101,102] := by kernel_rfl
theorem F19wf : wfOps f19.ntmps F19O.toList = true := by kernel_rfl
theorem F19ns : Region.noSelect F19O = true := by kernel_rfl
theorem F19fd : Code.fits f19.ntmps (sub F19B [1,0]) = true := fits_drawn (c := sub F19B [1,0]) (by kernel_rfl) F19wf F19ns (ord := [0,1,2,3,5,6,7,8,4,9,10,11,12,13,14,15,17,18,19,20,16,21,22,23,24,25,26,27,28,30,31,32,33,29,34,35,36,37,38,39,40,41,43,44,45,46,42,47,48,49,50,51,52,53,54,56,57,58,59,55,60,61,62,63,64,65,66,67,69,70,71,72,68,73,74,75,76,77,78,79,80,82,83,84,85,81,86,87,88,89,90,91,92,93,95,96,97,98,94,99,100,101,102]) (by show drawOrder F19O F19O.size (Array.replicate F19O.size false) = _; rw [F19z,F19rp]; exact F19ord) (by show drawOk F19O F19O.size (Array.replicate F19O.size false) _ = true; rw [F19z,F19rp]; exact F19k0)
theorem F19fit : Code.fits f19.ntmps (bodyOf f19) = true := fits_seq (B := bodyOf f19) (by kernel_rfl) (by kernel_rfl) (fits_seq (B := sub (bodyOf f19) [1]) (by kernel_rfl) F19fd (by kernel_rfl))
theorem F19_in (p0:Value) (w:World) (k:KV) (h:F19_0 p0 w k) : pFn prog 19 [p0] w k :=
 pFn_of_at mixed func19 (by kernel_rfl) (by kernel_rfl) rfl F19fit (by kernel_rfl) (by simp) ((F19_0_eq p0 w k).mpr h)
end Go.Proofs.YtcdcojpfealppaaGreat
