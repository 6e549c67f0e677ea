/- Put together by a program (wip/tools/shake.py): Cleans6. -/
import Derived.Test.YteeeggphkhimcaaGreatDoorD17
set_option linter.unusedVariables false
set_option linter.unusedSimpArgs false
set_option maxRecDepth 100000
namespace Go.Proofs.YteeeggphkhimcaaGreatDoor
open Go Go.Proofs Go.RowKit Go.Proofs.XRed Go.Proofs.XHeap Go.Proofs.XMaps Go.Proofs.XSlices Go.Proofs.XDisk Go.Proofs.XCalls Go.Proofs.XSep Tryz
theorem Sep.share {L:List Asrt} {w w':World} (h:Sep L w) (i:Nat) {a c:Asrt} (hi:L[i]? = some a) (hf:Fr no w w') (hc:∀ O I,a.h w' O I → ∃ I',c.h w' no I' ∧ ∀ b,I' b → I b ∨ w.heap.size ≤ b) : Sep (c :: L) w' := by
 obtain ⟨O,I,hs⟩ := h
 have hs' := Seps.fr hf hs (fun b hb => hb.elim)
 obtain ⟨O1,I1,h1,h2,h3,_⟩ := hs'.at_ (J := no) (fun _ _ h => h) hi
 obtain ⟨I',h4,h5⟩ := hc O1 I1 h1
 refine ⟨_,_,no,I',O,I,h4,hs',⟨fun b hb => hb.elim,fun b hb => ⟨fun h => h,fun h => ?_⟩⟩,fun _ => Iff.rfl,fun _ => Iff.rfl⟩
 rcases h5 b h with h | h
 ·exact hs.ap b hb (h3 b h)
 ·exact absurd (hs.lt b (.inl hb)) (by omega)
theorem share_grow {L:List Asrt} {w w':World} {va v:Value} {la l:FilesL} (h:Sep L w) (i:Nat) (hi:L[i]? = some (FlsA va la)) (hg:GrowV w w' v l) (hsub:∀ p ∈ l,p ∈ la) : Sep (FlsA v l :: L) w' := by
 refine Sep.share h i hi hg.fr fun O I ⟨h1,h2,h3,h4,h5⟩ => ⟨fun b => I b ∨ (w.heap.size ≤ b ∧ b < w'.heap.size),⟨hg.fs,fun _ b hb => .inr (own_blk_lt hg.own hb),fun p hp h0 b hb => .inl (h3 p (hsub p hp) h0 b hb),fun _ h => h,fun b hb => hb.elim (h5 b) (·.2)⟩,fun b hb => hb.imp id (·.1)⟩
section
variable {W w:World} {k:KV} {L:List Asrt} {v va vr pv:Value} {l la lr:FilesL} {S:AD} {E c:Nat} {op p:ByteArray} {e:Int} {picks:List Int}
def notP (p:ByteArray) (q:FileA × Value) : Bool := !hasP p q.1.1
def notF (p:ByteArray) (f:FileA) : Bool := !hasP p f.1
theorem notP_plain (l:FilesL) : FilesL.plain (l.filter (notP p)) = l.plain.filter (notF p) := by
 unfold FilesL.plain
 rw [List.filter_map]; rfl
theorem list_in (hr:AtRest S) (f:FileA) (hf:f ∈ S.files) : inL (AD.listA S p) f.1 = hasP p f.1 := by
 unfold AD.listA
 rw [hr.off]
 simp only [Bool.false_eq_true,if_false]
 have hk : f.1 ∈ S.shown.map (·.1) := by
  obtain ⟨q,hq,rfl⟩ := List.mem_map.1 hf
  exact List.mem_map.2 ⟨q,hq,rfl⟩
 cases h : hasP p f.1 with
 | true => exact inL_iff.2 (List.mem_filter.2 ⟨hk,h⟩)
 | false =>
  rw [Bool.eq_false_iff]
  intro h'
  rw [(List.mem_filter.1 (inL_iff.1 h')).2] at h; cases h
theorem without_list (hr:AtRest S) : without (AD.listA S p) S.files = S.files.filter (notF p) := by
 unfold without
 exact List.filter_congr fun f hf => by rw [list_in hr f hf]; rfl
theorem list_count (hr:AtRest S) : (AD.listA S p).length + (S.files.filter (notF p)).length = S.files.length := by
 unfold AD.listA AD.files
 rw [hr.off]
 simp only [Bool.false_eq_true,if_false]
 generalize S.shown = sh
 induction sh with
 | nil => rfl
 | cons q r ih =>
  simp only [List.map_cons,List.length_cons] at ih ⊢
  rw [List.filter_cons,List.filter_cons]
  by_cases h : hasP p q.1 = true
  ·have h2 : notF p (q.1,(S.things q.2).shown) = false := by unfold notF; rw [h]; rfl
   rw [if_pos h,h2,if_neg (by simp)]; simp only [List.length_cons]; omega
  ·have h2 : notF p (q.1,(S.things q.2).shown) = true := by unfold notF; simp [h]
   rw [if_neg h,h2,if_pos rfl]; simp only [List.length_cons]; omega
theorem list_ok (hr:AtRest S) (hn:∀ q ∈ S.shown,isName q.1 = true) : (∀ n ∈ AD.listA S p,isName n = true ∧ ∃ t,alGet S.shown n = some t) ∧ (AD.listA S p).Nodup := by
 unfold AD.listA
 rw [hr.off]
 simp only [Bool.false_eq_true,if_false]
 refine ⟨fun n hm => ?_,hr.nodup.filter _⟩
 obtain ⟨q,hq,rfl⟩ := List.mem_map.1 (List.mem_filter.1 hm).1
 exact ⟨hn q hq,q.2,alGet_mem hr.nodup hq⟩
theorem files_nodup (hr:AtRest S) : (alKeys S.files).Nodup := by
 have := hr.nodup
 unfold AD.files alKeys at *
 rw [List.map_map]; exact this
theorem kept_rest (hr:AtRest S) (j:Nat) : (without ((AD.listA S p).take j) S.files).filter (notF p) = S.files.filter (notF p) := by
 unfold without
 rw [List.filter_filter]
 refine List.filter_congr fun f hf => ?_
 cases h : notF p f with
 | false => simp
 | true =>
  have : inL ((AD.listA S p).take j) f.1 = false := by
   rw [Bool.eq_false_iff]
   intro h'
   have h2 : inL (AD.listA S p) f.1 = true := inL_iff.2 (List.mem_of_mem_take (inL_iff.1 h'))
   rw [list_in hr f hf] at h2
   unfold notF at h
   rw [h2] at h; cases h
  rw [this]; rfl
set_option maxHeartbeats 1000000 in
theorem cleans_4 {ρ:Env} (hg:ErrT W) (hS:Sep [FlsA vr lr,FlsA va la,Dk E S,Base W] w) (hr:AtRest S) (hnm:∀ q ∈ S.shown,isName q.1 = true) (ok:S.Ok c) (hc:c ≤ 1000) (h0:S.strokes = 0) (hla:la.plain = S.files) (hlr:lr = la.filter (notP p)) (hpv:Src W pv 1 picks.length (picks.map i64)) (hpl:picks.length ≤ 4611686018427387904)
    (e1:ρ 1 = .string p) (e3:ρ 3 = pv) (e9:ρ 9 = ptr E) (e10:ρ 10 = va) (e11:ρ 11 = vr) (hk:∀ w',Fr no W w' → k (.bool true) w') : F15_4 k ρ w := by
  unfold F15_4
  rw [e1,e3,e9,e10,e11]
  have h1 : Sep [Dk E S,FlsA vr lr,FlsA va la,Base W] w := sep_mv [2] 0 hS rfl
  refine c_fClean h1 ok (by omega) fun w1 ev h1 => ?_
  obtain ⟨hL1,hL2⟩ := list_ok (p := p) hr hnm
  have law := clean_law hr hL1 hL2
  have hcount := list_count (p := p) hr
  have hwo := without_list (p := p) hr
  have hkr := fun j => kept_rest (p := p) hr j
  have ok2 : (S.cleanF (AD.listA S p)).2.Ok (c + 300) := ok_clean ok (by omega) p
  have hlrp : lr.plain = S.files.filter (notF p) := by rw [hlr,notP_plain,hla]
  have hlal := fls_len ok hla
  have hlrl : lr.length ≤ 256 := by rw [hlr]; exact Nat.le_trans (List.length_filter_le _ _) hlal
  rw [← hlrp] at hcount hwo hkr
  rw [← hla,plain_len,plain_len] at hcount
  generalize hLL : AD.listA S p = LL at *
  generalize S.cleanF LL = R at *
  obtain ⟨Re,R2⟩ := R
  dsimp only at *
  refine sd_strokes h1 1 rfl ok2 ?_
  refine sd_crash h1 1 rfl ok2 hpl (hpv.fr (by omega) (h1.base_at 4 rfl) fun _ _ h => h) fun w2 h2 => ?_
  replace h2 : Sep [ErrA ev cleanB p Re,Dk E (R2.crash picks),FlsA vr lr,FlsA va la,Base W] w2 := h2
  have ok3 : (R2.crash picks).Ok (c + 300) := ok2.crash picks
  refine sd_files h2 1 rfl ok3 fun w3 vn ln hln h3 => ?_
  have hlnl := fls_len ok3 hln
  refine s_lenS usl36 (Sep.fls h3 4 rfl).src (s_lenS usl36 (Sep.fls h3 3 rfl).src (s_sub_in (by omega) ?_))
  have hW := h3.base_at 5 rfl
  rw [show ((la.length : Int) - (lr.length : Int)) = ((LL.length : Nat) : Int) by omega]
  rcases law with ⟨g1,g2,g3,g4,g5⟩ | ⟨g0,g1,g2,g3,g4⟩
  · subst g1
    have hev := errA_nil h3 1 rfl
    subst hev
    have hnow : ln.plain = lr.plain := by rw [hln,crash_settled g2,g4,hwo]
    have same : ∀ {kk:KV},(∀ w',Fr no W w' → kk (.bool true) w') → pFn P 24 [vn,vr] w3 kk := by
      intro kk hkk
      refine c_files6 (Sep.fls h3 0 rfl) (Sep.fls h3 3 rfl) (by rw [plain_len]; omega) (fls_dataP ok3 hln) fun w5 f5 => ?_
      rw [hnow,decide_eq_true rfl]
      exact hkk w5 (hW.trans f5 fun b hb => hb.elim)
    refine s_eqnn (pC_true ?_)
    by_cases hLz : LL = []
    · rw [if_pos hLz] at g5
      refine s_eqi_t (by rw [hLz]; rfl) (pC_true (same fun w5 f5 => ?_))
      refine pG_yes rfl (pG_yes rfl (s_eqi_t (by rw [g5,h0]; rfl) (s_pick_t (hk w5 f5))))
    · rw [if_neg hLz] at g5
      have hpos : 0 < LL.length := List.length_pos_iff.2 hLz
      refine s_eqi_f (by omega) (pC_false (same fun w5 f5 => ?_))
      refine pG_yes rfl (pG_yes rfl (pG_yes rfl (s_add_in (by omega) (pG_yes rfl (s_eqi_t (by rw [g5,h0]; omega) (s_pick_t (hk w5 f5)))))))
  · subst g1
    have hpos : 0 < LL.length := List.length_pos_iff.2 g0
    obtain ⟨j,hj⟩ := g4 picks
    have hnow : ln.plain = without (LL.take j) la.plain := by rw [hln,hj,hla]
    have hkeep : ln.plain.filter (notF p) = lr.plain := by rw [hnow,hla]; exact hkr j
    obtain ⟨b,hev⟩ : ∃ b,ev = (EV.fault b (.no 50)).val := by
      obtain ⟨O,I,h,_⟩ := h3.get 1 rfl
      rcases h with ⟨h,_⟩ | ⟨_,b,h,_⟩
      · cases h
      · exact ⟨b,h⟩
    have hcode : ∀ {kk:KV},(∀ w',Fr no w3 w' → kk (i64 50) w') → pFn P 43 [ev] w3 kk := fun h => sd_code h3 (errT_base hg hW) 1 rfl h
    rw [hev] at hcode ⊢
    refine s_eqin (pC_false (hcode fun w4 f4 => ?_))
    replace h3 := h3.q f4
    clear hcode
    refine s_nei_f rfl (pG_yes rfl (pG_yes rfl (s_eqi_f (by omega) (s_pick_f (pC_false ?_)))))
    have hnd : (alKeys la.plain).Nodup := by rw [hla]; exact files_nodup hr
    have hsub : ∀ f ∈ ln.plain,alGet la.plain f.1 = some f.2 := fun f hf => by
      rw [hnow] at hf
      exact alGet_mem hnd (List.mem_filter.1 hf).1
    clear hS h1 h2
    have hn0 := Sep.fls h3 0 rfl
    have ha0 := Sep.fls h3 4 rfl
    have hr0 := Sep.fls h3 3 rfl
    have hW4 := h3.base_at 5 rfl
    refine F15L2_inv (m := ln.length) k (fun m ρ w' => ∃ (i:Nat) (u:Value),i + m = ln.length ∧ GrowV w4 w' u ((ln.take i).filter (notP p)) ∧ ρ 1 = .string p ∧ ρ 10 = va ∧ ρ 11 = vr ∧ ρ 15 = vn ∧ ρ 17 = u ∧ ρ 18 = i64 i) ?_ ⟨0,_,by omega,GrowV.nil w4,e1,e10,e11,rfl,rfl,rfl⟩
    clear e1 e3 e9 e10 e11
    rintro m ρ w' ⟨i,u,him,hgr,e1,e10,e11,e15,e17,e18⟩
    rw [F15_5_eq]
    unfold F15_5
    rw [e1,e10,e15,e17,e18]
    have hn1 := hn0.fr hgr.fr
    have ha1 := ha0.fr hgr.fr
    have hlen : ((ln.take i).filter (notP p)).length ≤ 1000 := Nat.le_trans (List.length_filter_le _ _) (by rw [List.length_take]; omega)
    refine s_lenS usl36 hn1.src ?_
    by_cases hi : i < ln.length
    · refine s_lt_t (by omega) (pC_true (s_fname hn1 hi fun _ _ => ?_))
      refine c_under6 ha1 (by omega) (s_ext rfl (s_ext rfl ?_))
      have hm : ln[i] ∈ ln := List.getElem_mem hi
      have hget := hsub ln[i].1 (List.mem_map_of_mem hm)
      rw [hget]
      refine s_not (pG_yes rfl (pG_yes rfl (pG_yes rfl ?_)))
      obtain ⟨b,o,c',ev',c1,c2⟩ := hn1.at_ hi
      rw [ev']
      refine s_ix (i := (i:Int)) usl36 (sze36 _) (by omega) (by omega) ?_
      rw [show (o + (i:Int).toNat * 2) = o + i * 2 by simp,← ev']
      refine pG_yes rfl (fa107_1 (pG_yes rfl (s_ld (isAgg23 _) c2 (pG_yes rfl ?_))))
      have b1 := und_bytes ha1 ln[i].1.1
      rw [hget] at b1
      have hdl := fls_data ok3 hln _ hm
      refine c_bytes b1 (hn1.all _ hm) (by show ln[i].1.2.length ≤ _; omega) fun w5 f5 => ?_
      rw [show decide ((some ln[i].1.2).getD [] = ln[i].1.2) = true from decide_eq_true rfl]
      refine pG_yes rfl (s_not (s_pick_f (pC_false ?_)))
      have hgr5 := hgr.q f5
      have hn5 := hn1.fr f5
      have next : ∀ ρ' w2 v2,GrowV w4 w2 v2 ((ln.take (i + 1)).filter (notP p)) → ρ' 1 = .string p → ρ' 10 = va → ρ' 11 = vr → ρ' 15 = vn → ρ' 17 = v2 → ρ' 18 = i64 i →
          F15A2 k (fun ρ w' => ∃ m',m' < m ∧ ∃ (i:Nat) (u:Value),i + m' = ln.length ∧ GrowV w4 w' u ((ln.take i).filter (notP p)) ∧ ρ 1 = .string p ∧ ρ 10 = va ∧ ρ 11 = vr ∧ ρ 15 = vn ∧ ρ 17 = u ∧ ρ 18 = i64 i) [1,1] ρ' w2 := by
        intro ρ' w2 v2 hg2 q1 q10 q11 q15 q17 q18
        rw [F15_6_eq]
        unfold F15_6
        rw [q18]
        refine s_add_in (by omega) ⟨m - 1,by omega,i + 1,v2,by omega,hg2,q1,q10,q11,q15,q17,?_⟩
        show i64 _ = i64 _; simp
      have htf := take_filter (notP p) hi
      refine s_fname hn5 hi fun _ _ => ?_
      refine c_starts6 _ _ (s_not ?_)
      cases hp : hasP p ln[i].1.1 with
      | true =>
        refine pC_false (next _ w5 u ?_ (by exact e1) (by exact e10) (by exact e11) (by exact e15) (by exact e17) (by exact e18))
        rw [htf,show notP p ln[i] = false by unfold notP; rw [hp]; rfl]
        simpa using hgr5
      | false =>
        refine pC_true (s_file hn5 hi fun _ => ?_)
        refine hgr5.put (p := ln[i]) (by omega) (hn0.all _ hm) fun _ v2 w6 hg6 _ _ _ => ?_
        rw [show notP p ln[i] = true by unfold notP; rw [hp]; rfl,if_pos rfl] at htf
        rw [← htf] at hg6
        exact next _ w6 v2 hg6 (by exact e1) (by exact e10) (by exact e11) (by exact e15) rfl (by exact e18)
    · refine s_lt_f (by omega) (pC_false ?_)
      rw [F15_7_eq]
      unfold F15_7
      have hil : i = ln.length := by omega
      rw [hil,List.take_length] at hgr
      show pFn P _ [ρ 17,ρ 11] w' _
      rw [e17,e11]
      have hxp : FilesL.plain (ln.filter (notP p)) = lr.plain := by rw [notP_plain]; exact hkeep
      refine c_files6 hgr.fs (hr0.fr hgr.fr) (by rw [hxp,plain_len]; omega) (fun f hf => ?_) fun w5 f5 => ?_
      · obtain ⟨q,hq,rfl⟩ := List.mem_map.1 hf
        have := fls_data ok3 hln q (List.mem_filter.1 hq).1; omega
      · rw [hxp,decide_eq_true rfl]
        exact hk w5 ((hW4.trans hgr.fr fun b hb => hb.elim).trans f5 fun b hb => hb.elim)
set_option maxHeartbeats 1000000 in
theorem cleans_1 {ρ:Env} {off:Int} {w0:World} (hg:ErrT W) (hL:Loaded S) (hS:Sep [FlsA va la,Dk E S,Base W] w0) (hla:la.plain = S.files) (hoff:-9223372036854775808 ≤ off ∧ off ≤ 9223372036854775807) (hpv:Src W pv 1 picks.length (picks.map i64)) (hpl:picks.length ≤ 4611686018427387904)
    (e1:ρ 1 = .string p) (e2:ρ 2 = i64 off) (e3:ρ 3 = pv) (e9:ρ 9 = ptr E) (e10:ρ 10 = va) (e11:ρ 11 = .slice none 0 0) (e12:ρ 12 = i64 0) (hk:∀ w',Fr no W w' → k (.bool true) w') : F15L1 k ρ w0 := by
  have hlal := fls_len hL.ok hla
  have ha0 := Sep.fls hS 0 rfl
  refine F15L1_inv (m := la.length) k (fun m ρ w' => ∃ (i:Nat) (u:Value),i + m = la.length ∧ GrowV w0 w' u ((la.take i).filter (notP p)) ∧ ρ 1 = .string p ∧ ρ 2 = i64 off ∧ ρ 3 = pv ∧ ρ 9 = ptr E ∧ ρ 10 = va ∧ ρ 11 = u ∧ ρ 12 = i64 i) ?_ ⟨0,_,by omega,GrowV.nil w0,e1,e2,e3,e9,e10,e11,e12⟩
  clear e1 e2 e3 e9 e10 e11 e12
  rintro m ρ w' ⟨i,u,him,hgr,e1,e2,e3,e9,e10,e11,e12⟩
  rw [F15_1_eq]
  unfold F15_1
  rw [e1,e10,e11,e12]
  have ha1 := ha0.fr hgr.fr
  have hlen : ((la.take i).filter (notP p)).length ≤ 1000 := Nat.le_trans (List.length_filter_le _ _) (by rw [List.length_take]; omega)
  refine s_lenS usl36 ha1.src ?_
  by_cases hi : i < la.length
  · refine s_lt_t (by omega) (pC_true (s_fname ha1 hi fun _ _ => ?_))
    have hm : la[i] ∈ la := List.getElem_mem hi
    have next : ∀ ρ' w2 v2,GrowV w0 w2 v2 ((la.take (i + 1)).filter (notP p)) → ρ' 1 = .string p → ρ' 2 = i64 off → ρ' 3 = pv → ρ' 9 = ptr E → ρ' 10 = va → ρ' 11 = v2 → ρ' 12 = i64 i →
        F15A1 k (fun ρ w' => ∃ m',m' < m ∧ ∃ (i:Nat) (u:Value),i + m' = la.length ∧ GrowV w0 w' u ((la.take i).filter (notP p)) ∧ ρ 1 = .string p ∧ ρ 2 = i64 off ∧ ρ 3 = pv ∧ ρ 9 = ptr E ∧ ρ 10 = va ∧ ρ 11 = u ∧ ρ 12 = i64 i) [1,1] ρ' w2 := by
      intro ρ' w2 v2 hg2 q1 q2 q3 q9 q10 q11 q12
      rw [F15_2_eq]
      unfold F15_2
      rw [q12]
      refine s_add_in (by omega) ⟨m - 1,by omega,i + 1,v2,by omega,hg2,q1,q2,q3,q9,q10,q11,?_⟩
      show i64 _ = i64 _; simp
    have htf := take_filter (notP p) hi
    refine c_starts6 _ _ (s_not ?_)
    cases hp : hasP p la[i].1.1 with
    | true =>
      refine pC_false (next _ w' u ?_ (by exact e1) (by exact e2) (by exact e3) (by exact e9) (by exact e10) (by exact e11) (by exact e12))
      rw [htf,show notP p la[i] = false by unfold notP; rw [hp]; rfl]
      simpa using hgr
    | false =>
      refine pC_true (s_file ha1 hi fun _ => ?_)
      refine hgr.put (p := la[i]) (by omega) (ha0.all _ hm) fun _ v2 w6 hg6 _ _ _ => ?_
      rw [show notP p la[i] = true by unfold notP; rw [hp]; rfl,if_pos rfl] at htf
      rw [← htf] at hg6
      exact next _ w6 v2 hg6 (by exact e1) (by exact e2) (by exact e3) (by exact e9) (by exact e10) rfl (by exact e12)
  · refine s_lt_f (by omega) (pC_false ?_)
    rw [F15_3_eq]
    unfold F15_3
    have hil : i = la.length := by omega
    rw [hil,List.take_length] at hgr
    have h3 : Sep [FlsA u (la.filter (notP p)),FlsA va la,Dk E S,Base W] w' := share_grow hS 0 rfl hgr fun q hq => (List.mem_filter.1 hq).1
    show px P (binSem BinOp.gtr 3 _ _ (ρ 2) (i64 0)) w' _
    rw [e2]
    by_cases ho : off > 0
    · refine s_gt_t ho (pC_true (px_ok (w' := w') (v := planVal ⟨off,0,0⟩) ?_ ?_))
      · show (Instr.build 85 #[(0,ρ 2)]).run P w' = _
        rw [e2]; kernel_rfl
      show pFn P _ [ρ 9,planVal ⟨off,0,0⟩] w' _
      rw [e9]
      refine sd_plan h3 2 rfl hL.ok ⟨off,0,0⟩ fun w3 h3 => ?_
      replace h3 : Sep [FlsA u (la.filter (notP p)),FlsA va la,Dk E (S.plans ⟨off,0,0⟩),Base W] w3 := h3
      obtain ⟨r1,r2,r3,r4⟩ := hL.rest.plans ⟨off,0,0⟩
      rw [F15_4_eq]
      exact cleans_4 hg h3 r1 (by rw [r3]; exact hL.names) (hL.ok.plans _) (by omega) (by rw [r4]; exact hL.strokes) (by rw [r2]; exact hla) rfl hpv hpl (by exact e1) (by exact e3) (by exact e9) (by exact e10) (by exact e11) hk
    · refine s_gt_f ho (pC_false ?_)
      rw [F15_4_eq]
      exact cleans_4 hg h3 hL.rest hL.names hL.ok (by omega) hL.strokes hla rfl hpv hpl (by exact e1) (by exact e3) (by exact e9) (by exact e10) (by exact e11) hk
theorem w_filesCleans {off:Int} (hg:ErrT W) (hv:FilesS W v l) (hdl:∀ p ∈ l,p.1.2.length ≤ 140737488355328) (hfn:∀ f ∈ l.plain,f.1.size ≤ 9223372036854775807) (hns:p.size ≤ 9223372036854775807) (hoff:-9223372036854775808 ≤ off ∧ off ≤ 9223372036854775807) (hpv:Src W pv 1 picks.length (picks.map fun n => .int .i64 n)) (hpl:picks.length ≤ 17592186044416) (hk:∀ w',Fr no W w' → k (.bool true) w') : pFn P 15 [v,.string p,i64 off,pv] W k := by
 refine F15_in _ _ _ _ _ _ ?_
 unfold F15_0
 refine c_loaded6 hv (by decide) (fun p hp => hfn _ (List.mem_map_of_mem hp)) hdl fun w1 E S va la hL hla h1 => ?_
 refine s_ext rfl (s_ext rfl ?_)
 refine c_known6 (errT_base hg (h1.base_at 2 rfl)) fun w2 f2 => s_not (pG_yes rfl (pG_yes rfl ?_))
 unfold ptr
 refine s_eqpn upt24 (s_pick_f (pC_false ?_))
 exact cleans_1 hg hL (h1.q f2) hla hoff hpv (by omega) rfl rfl rfl rfl rfl rfl rfl hk
end
end Go.Proofs.YteeeggphkhimcaaGreatDoor
