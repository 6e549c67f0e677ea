/- Put together by a program (wip/tools/shake.py): Law. -/
import Derived.Test.YteeeggphkhimcaaGreatDoorB7
import Derived.Test.YteeeggphkhimcaaGreatDoorB11
import Derived.Test.YteeeggphkhimcaaGreatDoorB12
set_option linter.unusedVariables false
set_option linter.unusedSimpArgs false
set_option maxRecDepth 100000
namespace Go.Proofs.YteeeggphkhimcaaGreatDoor
open Go Go.Proofs Go.RowKit Go.Proofs.XRed Go.Proofs.XHeap Go.Proofs.XMaps Go.Proofs.XSlices Go.Proofs.XDisk Go.Proofs.XCalls Go.Proofs.XRange Go.Proofs.XKeys Tryz
section
variable {w w0:World} {D:Nat} {S S':AD} {O I:Nat → Prop} {L:Lay} {k:KV}
theorem bytes_at {v:Value} {bs:Bytes} (h:SBytes w v bs) {i:Nat} (hi:i < bs.length) : ∃ b o c,v = .slice (some ⟨b,o,none⟩) bs.length c ∧ w.cell? ⟨b,o + i,none⟩ = some (.int .u8 (bs[i].toNat)) := by
 obtain ⟨A,c,rfl,hc,hl,hr⟩ := h
 obtain ⟨b,o,rfl,hcell⟩ := hr (by omega)
 exact ⟨b,o,c,rfl,hcell i _ (by simp [u8s,hi])⟩
theorem c_bytes {v1 v2:Value} {x y:Bytes} (hx:SBytes w v1 x) (hy:SBytes w v2 y) (hl:x.length ≤ 4611686018427387904) (hk:∀ w',Fr no w w' → k (.bool (decide (x = y))) w') : pFn P 21 [v1,v2] w k := by
 refine F21_in _ _ _ _ ?_
 unfold F21_0
 obtain ⟨A1,c1,e1,_⟩ := hx.form
 obtain ⟨A2,c2,e2,_⟩ := hy.form
 rw [e1,e2]
 refine s_len usl23 (s_len usl23 ?_)
 by_cases hlen : x.length = y.length
 ·refine s_nei_f (by omega) (pC_false ?_)
  refine F21L1_inv (m := x.length) k (fun m ρ w' => ∃ i : Nat,i + m = x.length ∧ Fr no w w' ∧ ρ 0 = .slice A1 x.length c1 ∧ ρ 1 = .slice A2 y.length c2 ∧ ρ 5 = i64 i ∧ x.take i = y.take i) ?_
   ⟨0,by omega,Fr.refl _ _,rfl,rfl,rfl,rfl⟩
  rintro m ρ w' ⟨i,him,hf,h0,h1,h5,heq⟩
  rw [F21_1_eq]
  unfold F21_1
  rw [h0,h1,h5]
  refine s_len usl23 ?_
  by_cases hi : i < x.length
  ·refine s_lt_t (by omega) (pC_true ?_)
   have fd : Fr no w' w'.drew := Fr.drew _ _
   have hiy : i < y.length := by omega
   obtain ⟨b1,o1,d1,f1,g1⟩ := bytes_at ((hx.fr hf fun _ _ h => h).fr fd fun _ _ h => h) hi
   obtain ⟨b2,o2,d2,f2,g2⟩ := bytes_at ((hy.fr hf fun _ _ h => h).fr fd fun _ _ h => h) hiy
   rw [e1] at f1; rw [e2] at f2
   injection f1 with q1 q2 q3
   injection f2 with r1 r2 r3
   subst q1; subst r1
   refine ⟨fun w' => w'.cell? ⟨b1,o1 + i,none⟩ = some (.int .u8 (x[i].toNat)) ∧ w'.cell? ⟨b2,o2 + i,none⟩ = some (.int .u8 (y[i].toNat)),⟨g1,g2⟩,?_⟩
   refine q_of (.pointer (some ⟨b1,o1 + i,none⟩)) (fun w_ hS => s_ix (i := (i:Int)) usl23 (sze23 _) (by omega) (by omega) ⟨by simp,rfl⟩) ?_
   refine q_of _ (fun w_ hS => s_ld (isAgg5 _) hS.1 ⟨rfl,rfl⟩) ?_
   refine q_of (.pointer (some ⟨b2,o2 + i,none⟩)) (fun w_ hS => s_ix (i := (i:Int)) usl23 (sze23 _) (by omega) (by omega) ⟨by simp,rfl⟩) ?_
   refine q_of _ (fun w_ hS => s_ld (isAgg5 _) hS.2 ⟨rfl,rfl⟩) ?_
   by_cases hxy : x[i] = y[i]
   ·refine q_of _ (fun w_ hS => s_nei_f (by rw [hxy]) ⟨rfl,rfl⟩) (pC_false ?_)
    refine s_add_in (by omega) ?_
    refine ⟨m - 1,by omega,i + 1,by omega,(hf.or fd).mono fun b hb => hb.elim (fun h => h.elim) fun h => h.elim,h0,h1,?_,?_⟩
    ·show i64 _ = i64 _; simp
    ·rw [List.take_succ_eq_append_getElem hi,List.take_succ_eq_append_getElem hiy,heq,hxy]
   ·refine q_of _ (fun w_ hS => s_nei_t (fun h => hxy (UInt8.toNat_inj.1 (by omega))) ⟨rfl,rfl⟩) (pC_true ?_)
    have := hk w'.drew ((hf.or fd).mono fun b hb => hb.elim (fun h => h.elim) fun h => h.elim)
    rwa [decide_eq_false (fun h => hxy (by subst h; rfl))] at this
  ·refine s_lt_f (by omega) (pC_false ?_)
   rw [F21_2_eq]
   unfold F21_2
   have hxy : x = y := by
    have a1 := List.take_of_length_le (l := x) (i := i) (by omega)
    have a2 := List.take_of_length_le (l := y) (i := i) (by omega)
    rw [← a1,heq,a2]
   have := hk w' hf
   rwa [decide_eq_true hxy] at this
 ·refine s_nei_t (by omega) (pC_true ?_)
  have := hk w (Fr.refl _ _)
  rwa [decide_eq_false (fun h => hlen (by rw [h]))] at this
theorem flat_at : ∀ {ps:List (ByteArray × Value)} {i:Nat} {p:ByteArray × Value},ps[i]? = some p → (ps.flatMap fun p => [Value.string p.1,p.2])[i * 2]? = some (.string p.1) ∧ (ps.flatMap fun p => [Value.string p.1,p.2])[i * 2 + 1]? = some p.2
 | [],i,p,h => by simp at h
 | q :: r,0,p,h => by simp only [List.getElem?_cons_zero,Option.some.injEq] at h; subst h; exact ⟨rfl,rfl⟩
 | q :: r,i + 1,p,h => by
  have h1 := flat_at (ps := r) (i := i) (p := p) (by simpa using h)
  have e : (i + 1) * 2 = i * 2 + 2 := by omega
  rw [e]
  simpa [List.flatMap_cons] using h1
theorem files_at {B:Nat} {v:Value} {fs:List (ByteArray × Bytes)} (h:FilesV w B v fs) {i:Nat} (hi:i < fs.length) : ∃ b o c d,v = .slice (some ⟨b,o,Option.none⟩) fs.length c ∧ w.cell? ⟨b,o + i * 2,Option.none⟩ = some (.string fs[i].1) ∧ w.cell? ⟨b,o + i * 2 + 1,Option.none⟩ = some d ∧ SBytes w d fs[i].2 := by
 obtain ⟨ps,h1,h2,h3⟩ := h
 obtain ⟨p,hp,e,hS,_⟩ := h1.at_ (i := i) (a := fs[i]) (by simp [hi])
 obtain ⟨f1,f2⟩ := flat_at hp
 obtain ⟨A,c,rfl,hc,hl,hr⟩ := Src.of_own h2
 obtain ⟨b,o,rfl,hcell⟩ := hr (by omega)
 refine ⟨b,o,c,p.2,rfl,?_,?_,hS⟩
 ·rw [e]; exact hcell _ _ f1
 ·have := hcell _ _ f2; rwa [← Nat.add_assoc] at this
theorem filesV_fr {B:Nat} {v:Value} {fs:List (ByteArray × Bytes)} {w':World} (h:FilesV w B v fs) (hf:Fr no w w') : FilesV w' B v fs := by
 obtain ⟨ps,h1,h2,h3⟩ := h
 exact ⟨ps,all2_imp h1 fun f p ⟨a,b,c⟩ => ⟨a,b.fr hf fun _ _ h => h,fun i hi => ⟨(c i hi).1,Nat.lt_of_lt_of_le (c i hi).2.1 hf.size,(c i hi).2.2⟩⟩,own_fr h2 hf fun _ _ h => h,h3⟩
theorem c_filesEq {v1 v2:Value} {B1 B2:Nat} {x y:List (ByteArray × Bytes)} (hx:FilesV w B1 v1 x) (hy:FilesV w B2 v2 y) (hl:x.length ≤ 4611686018427387904) (hlb:∀ f ∈ x,f.2.length ≤ 4611686018427387904) (hk:∀ w',Fr no w w' → k (.bool (decide (x = y))) w') : pFn P 24 [v1,v2] w k := by
 refine F24_in _ _ _ _ ?_
 unfold F24_0
 obtain ⟨A1,c1,e1⟩ : ∃ A c,v1 = .slice A x.length c := by obtain ⟨ps,_,h,_⟩ := hx; obtain ⟨A,c,e,_⟩ := Src.of_own h; exact ⟨A,c,e⟩
 obtain ⟨A2,c2,e2⟩ : ∃ A c,v2 = .slice A y.length c := by obtain ⟨ps,_,h,_⟩ := hy; obtain ⟨A,c,e,_⟩ := Src.of_own h; exact ⟨A,c,e⟩
 rw [e1,e2]
 refine s_len usl36 (s_len usl36 ?_)
 by_cases hlen : x.length = y.length
 ·refine s_nei_f (by omega) (pC_false ?_)
  refine F24L1_inv (m := x.length) k (fun m ρ w' => ∃ i : Nat,i + m = x.length ∧ Fr no w w' ∧ ρ 0 = .slice A1 x.length c1 ∧ ρ 1 = .slice A2 y.length c2 ∧ ρ 5 = i64 i ∧ x.take i = y.take i) ?_
   ⟨0,by omega,Fr.refl _ _,rfl,rfl,rfl,rfl⟩
  rintro m ρ w' ⟨i,him,hf,h0,h1,h5,heq⟩
  rw [F24_1_eq]
  unfold F24_1
  rw [h0,h1,h5]
  refine s_len usl36 ?_
  by_cases hi : i < x.length
  ·refine s_lt_t (by omega) (pC_true ?_)
   have fd : Fr no w' w'.drew := Fr.drew _ _
   have hiy : i < y.length := by omega
   have ff : Fr no w w'.drew := (hf.or fd).mono fun b hb => hb.elim (fun h => h.elim) fun h => h.elim
   obtain ⟨b1,o1,d1,u1,f1,g1,g1',g1''⟩ := files_at (filesV_fr hx ff) hi
   obtain ⟨b2,o2,d2,u2,f2,g2,g2',g2''⟩ := files_at (filesV_fr hy ff) hiy
   rw [e1] at f1; rw [e2] at f2
   injection f1 with q1 q2 q3
   injection f2 with r1 r2 r3
   subst q1; subst r1
   have keep : ∀ w2,Fr no w'.drew w2 → (fun w':World => w'.cell? ⟨b1,o1 + i * 2,none⟩ = some (.string x[i].1) ∧ w'.cell? ⟨b1,o1 + i * 2 + 1,none⟩ = some u1 ∧ w'.cell? ⟨b2,o2 + i * 2,none⟩ = some (.string y[i].1) ∧ w'.cell? ⟨b2,o2 + i * 2 + 1,none⟩ = some u2) w2 := by
    intro w2 f
    have kc : ∀ {b o:Nat} {u:Value},w'.drew.cell? ⟨b,o,none⟩ = some u → w2.cell? ⟨b,o,none⟩ = some u := by
     intro b o u hc
     rw [World.cell?_of_block (w := w'.drew) (f.block b (World.block_lt_of_cell? _ ⟨b,o,none⟩ hc) id)]; exact hc
    exact ⟨kc g1,kc g1',kc g2,kc g2'⟩
   refine ⟨fun w' => w'.cell? ⟨b1,o1 + i * 2,none⟩ = some (.string x[i].1) ∧ w'.cell? ⟨b1,o1 + i * 2 + 1,none⟩ = some u1 ∧ w'.cell? ⟨b2,o2 + i * 2,none⟩ = some (.string y[i].1) ∧ w'.cell? ⟨b2,o2 + i * 2 + 1,none⟩ = some u2,keep _ (Fr.refl _ _),?_⟩
   refine q_of (.pointer (some ⟨b1,o1 + i * 2,none⟩)) (fun w_ hS => s_ix (i := (i:Int)) usl36 (sze36 _) (by omega) (by omega) ⟨by simp,rfl⟩) ?_
   refine q_of (.pointer (some ⟨b1,o1 + i * 2,none⟩)) (fun w_ hS => fa107_0 ⟨rfl,rfl⟩) ?_
   refine q_of _ (fun w_ hS => s_ld (isAgg9 _) hS.1 ⟨rfl,rfl⟩) ?_
   refine q_of (.pointer (some ⟨b2,o2 + i * 2,none⟩)) (fun w_ hS => s_ix (i := (i:Int)) usl36 (sze36 _) (by omega) (by omega) ⟨by simp,rfl⟩) ?_
   refine q_of (.pointer (some ⟨b2,o2 + i * 2,none⟩)) (fun w_ hS => fa107_0 ⟨rfl,rfl⟩) ?_
   refine q_of _ (fun w_ hS => s_ld (isAgg9 _) hS.2.2.1 ⟨rfl,rfl⟩) ?_
   refine q_of _ (fun w_ hS => s_nes ⟨rfl,rfl⟩) ?_
   have bad : x[i] ≠ y[i] → ∀ w2,Fr no w'.drew w2 → k (.bool false) w2 := by
    intro hne w2 f
    have := hk w2 ((ff.or f).mono fun b hb => hb.elim (fun h => h.elim) fun h => h.elim)
    rwa [decide_eq_false (fun h => hne (by subst h; rfl))] at this
   by_cases hn : x[i].1 = y[i].1
   ·rw [decide_eq_true hn]
    refine pGq_yes rfl (pGq_yes rfl (pGq_yes rfl ?_))
    refine q_of (.pointer (some ⟨b1,o1 + i * 2,none⟩)) (fun w_ hS => s_ix (i := (i:Int)) usl36 (sze36 _) (by omega) (by omega) ⟨by simp,rfl⟩) ?_
    refine pGq_yes rfl ?_
    refine q_of (.pointer (some ⟨b1,o1 + i * 2 + 1,none⟩)) (fun w_ hS => fa107_1 ⟨rfl,rfl⟩) ?_
    refine pGq_yes rfl ?_
    refine q_of _ (fun w_ hS => s_ld (isAgg23 _) hS.2.1 ⟨rfl,rfl⟩) ?_
    refine pGq_yes rfl (pGq_yes rfl (pGq_yes rfl ?_))
    refine q_of (.pointer (some ⟨b2,o2 + i * 2,none⟩)) (fun w_ hS => s_ix (i := (i:Int)) usl36 (sze36 _) (by omega) (by omega) ⟨by simp,rfl⟩) ?_
    refine pGq_yes rfl ?_
    refine q_of (.pointer (some ⟨b2,o2 + i * 2 + 1,none⟩)) (fun w_ hS => fa107_1 ⟨rfl,rfl⟩) ?_
    refine pGq_yes rfl ?_
    refine q_of _ (fun w_ hS => s_ld (isAgg23 _) hS.2.2.2 ⟨rfl,rfl⟩) ?_
    refine pG_yes rfl ?_
    refine c_bytes g1'' g2'' (hlb _ (List.getElem_mem hi)) fun w2 f2 => ?_
    refine ⟨keep w2 f2,?_⟩
    refine pGq_yes rfl ?_
    refine q_of _ (fun w_ hS => s_not ⟨rfl,rfl⟩) ?_
    refine q_of _ (fun w_ hS => s_pick_f ⟨rfl,rfl⟩) ?_
    by_cases hb : x[i].2 = y[i].2
    ·have hxy : x[i] = y[i] := Prod.ext hn hb
     rw [decide_eq_true hb]
     refine pC_false (s_add_in (by omega) ?_)
     refine ⟨m - 1,by omega,i + 1,by omega,(ff.or f2).mono fun b hb => hb.elim (fun h => h.elim) fun h => h.elim,h0,h1,?_,?_⟩
     ·show i64 _ = i64 _; simp
     ·rw [List.take_succ_eq_append_getElem hi,List.take_succ_eq_append_getElem hiy,heq,hxy]
    ·rw [decide_eq_false hb]
     exact pC_true (bad (fun h => hb (by rw [h])) w2 f2)
   ·rw [decide_eq_false hn]
    repeat (first | refine pGq_skf ?_ | refine pGq_un ?_)
    refine pG_skf ?_
    refine ⟨keep _ (Fr.refl _ _),?_⟩
    repeat (first | refine pGq_skf ?_ | refine pGq_un ?_)
    exact q_of _ (fun w_ hS => s_pick_t ⟨rfl,rfl⟩) (pC_true (bad (fun h => hn (by rw [h])) _ (Fr.refl _ _)))
  ·refine s_lt_f (by omega) (pC_false ?_)
   rw [F24_2_eq]
   unfold F24_2
   have hxy : x = y := by
    have a1 := List.take_of_length_le (l := x) (i := i) (by omega)
    have a2 := List.take_of_length_le (l := y) (i := i) (by omega)
    rw [← a1,heq,a2]
   have := hk w' hf
   rwa [decide_eq_true hxy] at this
 ·refine s_nei_t (by omega) (pC_true ?_)
  have := hk w (Fr.refl _ _)
  rwa [decide_eq_false (fun h => hlen (by rw [h]))] at this
end
end Go.Proofs.YteeeggphkhimcaaGreatDoor
