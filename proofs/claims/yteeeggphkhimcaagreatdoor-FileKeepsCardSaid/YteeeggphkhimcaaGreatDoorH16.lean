/- Put together by a program (wip/tools/shake.py): Known6,None,Nothing6,Nothing7,ROps11,ROps12,ROps13,RFile6,Plays6A,Plays6B,Law6A,Law6B,Law6C,Plays6C,Drops6,Keeps6A,Keeps6B,Keeps6C. -/
import Derived.Laws.IdiomStrings
import Derived.Lib.SlBytesConst
import Derived.Test.YteeeggphkhimcaaGreatDoorH12
import Derived.Test.YteeeggphkhimcaaGreatDoorH15
import Derived.Test.YteeeggphkhimcaaGreatDoorH8
import Derived.Test.YteeeggphkhimcaaGreatDoorH14
import Derived.Test.YteeeggphkhimcaaGreatDoorH13
set_option linter.unusedVariables false
set_option linter.unusedSimpArgs false
set_option maxRecDepth 100000
namespace Go.Proofs.YteeeggphkhimcaaGreatDoor
open Go Go.Proofs Go.RowKit Go.Proofs.XRed Go.Proofs.XHeap Go.Proofs.XMaps Go.Proofs.XSlices Go.Proofs.XDisk Go.Proofs.XCalls Go.Proofs.XSep Tryz
def J0 : AD := AD.new 50
def J1 : AD := (J0.putF nA [120,121]).2
def J2 : AD := (J1.getF nA).2.2
def J3 : AD := (J2.getF nB).2.2
theorem J_res : (J0.putF nA [120,121]).1 = 0 ∧ (J1.getF nA).1 = 0 ∧ (J1.getF nA).2.1 = [120,121] ∧ (J2.getF nB).1 = 53 ∧ J3.strokes = 5 ∧ J3.room = 50 := by
 refine ⟨?_,?_,?_,?_,?_,?_⟩ <;> kernel_rfl
section
variable {w:World} {k:KV} {D c:Nat} {S:AD} {l:List Asrt} {name op:ByteArray} {v:Value}
theorem errA_nil (hS:Sep l w) (i:Nat) (hi:l[i]? = some (ErrA v op name 0)) : v = .nilIface := by
 obtain ⟨O,I,h,_⟩ := hS.get i hi
 rcases h with ⟨_,h,_⟩ | ⟨h,_⟩
 ·exact h
 ·exact absurd rfl h
theorem sd_strokes (hS:Sep l w) (i:Nat) (hi:l[i]? = some (Dk D S)) (ok:S.Ok c) (hk:k (i64 S.strokes) w) : pFn P 56 [ptr D] w k := by
 obtain ⟨O,I,L,hd,nx⟩ := Sep.disk hS i hi
 exact c_strokes hd.disk ok.room.1 hk
theorem sd_new {room:Int} (hS:Sep l w) (hb:¬ (1 ≤ room ∧ room ≤ 1048576) → k (.tuple #[.pointer none,i64 1]) w) (hk:1 ≤ room ∧ room ≤ 1048576 → ∀ w' D,Sep (Dk D (AD.new room) :: l) w' → k (.tuple #[ptr D,i64 0]) w') : pFn P 17 [i64 room] w k := by
 refine c_new hb fun hr w' L h f => hk hr w' _ ?_
 exact hS.new f (fun b hb => hb.elim) ⟨L,h⟩ (fun b hb => hb.1) fun b hb => hb.elim
theorem c_known6 (hg:ErrT w) (hk:∀ w',Fr no w w' → k (.bool true) w') : pFn P 18 [] w k := by
 refine F18_in _ _ ?_
 unfold F18_0
 obtain ⟨r1,r2,r3,r4,r5,r6⟩ := J_res
 have ok0 : J0.Ok 0 := AD.Ok.new (by decide)
 have ok1 : J1.Ok 8 := ok_putF ok0 (by decide) nA _
 have ok2 : J2.Ok 9 := ok_getF ok1 (by decide) nA
 have ok3 : J3.Ok 10 := ok_getF ok2 (by decide) nB
 have hsA : nA.size ≤ 9223372036854775807 := by decide
 have hsB : nB.size ≤ 9223372036854775807 := by decide
 refine sd_new (Sep.base w) (fun h => absurd (by decide) h) fun _ w1 D h1 => ?_
 refine s_ext rfl (s_ext rfl (s_nei_f rfl (pG_yes rfl (pG_yes rfl ?_))))
 refine s_eqpn upt24 (s_pick_f (pG_yes rfl (pG_yes rfl ?_)))
 refine px_ok (w' := w1.alloc (.cells (u8s [120,121]).toArray 5)) (v := .slice (some ⟨w1.heap.size,0,none⟩) 2 2) (by kernel_rfl) (pG_yes rfl ?_)
 refine px_ok (Lib.run_convert_bytes_const w1 23 5 (u8s [120,121]).toArray _ _ (by kernel_rfl) (by kernel_rfl)) (pG_yes rfl ?_)
 have f2 : Fr no w1 (w1.alloc (.cells (u8s [120,121]).toArray 5 ((u8s [120,121]).toArray.size,(u8s [120,121]).toArray.size + 1))) := Fr.alloc ..
 have h2 : Sep (BytesA (.slice (some ⟨w1.heap.size,0,none⟩) 2 2) [120,121] :: Dk D (AD.new 50) :: [Base w]) (w1.alloc (.cells (u8s [120,121]).toArray 5 ((u8s [120,121]).toArray.size,(u8s [120,121]).toArray.size + 1))) :=
  h1.new (M := no) (O' := fun _ => False) (I' := fun b => b = w1.heap.size) f2 (fun b hb => hb.elim) ⟨SBytes.blk (alloc_new _ _) (Nat.le_refl _),fun _ b hb => by injection hb with hb; exact hb.symm,fun _ h => h,fun b hb => by rw [hb]; simp⟩ (fun _ h => h.elim) fun b hb => by omega
 generalize w1.alloc (.cells (u8s [120,121]).toArray 5 ((u8s [120,121]).toArray.size,(u8s [120,121]).toArray.size + 1)) = w2 at *
 have h2' : Sep (Dk D J0 :: BytesA (.slice (some ⟨w1.heap.size,0,none⟩) 2 2) [120,121] :: [Base w]) w2 := sep_mv [1] 0 h2 rfl
 refine c_fPut (S := J0) (d := [120,121]) (name := nA) (holds_bytes _ _) h2' ok0 (by decide) hsA (by decide) fun w3 v3 h3 => ?_
 rw [r1] at h3
 have e3 := errA_nil h3 0 rfl
 subst e3
 replace h3 : Sep (Dk D J1 :: [Base w]) w3 := sep_mv [2,1] 2 h3 rfl
 refine pG_yes rfl (s_nenn (s_pick_f (pC_false ?_)))
 refine c_fGet (name := nA) h3 ok1 hsA fun w4 v4 e4 h4 => ?_
 rw [r2,r3] at h4
 have e4' := errA_nil h4 0 rfl
 subst e4'
 replace h4 : Sep (Dk D J2 :: BytesA v4 [120,121] :: [Base w]) w4 := sep_mv [1] 0 h4.drop rfl
 refine s_ext rfl (s_ext rfl ?_)
 refine c_fGet (name := nB) h4 ok2 hsB fun w5 v5 e5 h5 => ?_
 rw [r4] at h5
 replace h5 : Sep (ErrA e5 getB nB 53 :: Dk D J3 :: BytesA v4 [120,121] :: [Base w]) w5 := sep_mv [1] 1 h5 rfl
 have hg5 : ErrT w5 := hg.fr (h5.base_at 3 rfl) fun h => h
 refine s_ext rfl (s_ext rfl (s_eqnn (pG_yes rfl (pG_yes rfl (s_conv_str (Sep.bytes h5 2 rfl) (by decide) (pG_yes rfl (s_eqs ?_)))))))
 rw [show decide ((⟨([120,121] : List UInt8).toArray⟩ : ByteArray) = ByteArray.mk #[120,121]) = true from by decide]
 refine s_pick_t (pG_yes rfl (pG_yes rfl (sd_strokes h5 1 rfl ok3 ?_)))
 rw [r5]
 refine pG_yes rfl (s_eqi_t rfl (s_pick_t (pG_yes rfl (pG_yes rfl ?_))))
 refine sd_says (op := getB) h5 hg5 0 rfl (by decide) fun w6 f6 => s_pick_t (hk w6 ?_)
 exact (h5.base_at 3 rfl).trans f6 fun b hb => hb.elim
end
end Go.Proofs.YteeeggphkhimcaaGreatDoor

namespace Go.Proofs.YteeeggphkhimcaaGreatDoor
open Go Go.Proofs Go.RowKit Go.Proofs.XRed Go.Proofs.XHeap Go.Proofs.XMaps Go.Proofs.XSlices Go.Proofs.XDisk Go.Proofs.XCalls Tryz
section
variable {w:World} {p:Option Addr} {k:KV}
end
open Go.Proofs.XSep
section
variable {w:World} {k:KV} {l:List Asrt} {name:ByteArray} {p:Option Addr} {dv:Value}
end
section
variable {w W:World} {k:KV} {l:List Asrt} {name:ByteArray} {p:Option Addr} {dv:Value}
end
section
variable {w w0:World} {D:Nat} {S S':AD} {O I:Nat → Prop} {L L':RLay} {k:KV}
end
section
variable {w w0:World} {D:Nat} {S S':AD} {O I:Nat → Prop} {L L':RLay} {k:KV}
end
section
variable {w w0:World} {D:Nat} {S S':AD} {O I:Nat → Prop} {L L':RLay} {k:KV}
end
section
variable {w:World} {k:KV} {E c:Nat} {S:AD} {l:List Asrt} {name:ByteArray} {dv:Value} {d:Bytes}
end
section
variable {w:World} {k:KV} {W:World} {xb Pb D E c:Nat} {x:StepA} {dv pv:Value} {S T:AD} {l:List Asrt}
theorem files_small {c:Nat} {S:AD} (ok:S.Ok c) : S.files.length ≤ 4611686018427387904 ∧ ∀ f ∈ S.files,f.2.length ≤ 4611686018427387904 := by
 refine ⟨?_,fun f hf => ?_⟩
 ·have := ok.turns.len.1
  unfold AD.files
  rw [List.length_map]; omega
 ·obtain ⟨p,hp,rfl⟩ := List.mem_map.1 hf
  have := (ok.thing p.2 (.inl ⟨p.1,hp⟩)).ok.len.1
  show (S.things p.2).shown.length ≤ _
  omega
theorem shownMax {c:Nat} {S:AD} (ok:S.Ok c) : ∀ p ∈ S.shown,p.1.size ≤ maxLen := fun p hp => by have := ok.shownNames p hp; unfold maxLen; omega
end
section
variable {w:World} {k:KV} {W:World} {xb Pb D E c:Nat} {x:StepA} {dv pv:Value} {S T:AD} {l:List Asrt}
end
section
variable {w:World} {k:KV} {v v1 v2:Value} {l l1 l2:FilesL} {L:List Asrt} {D c:Nat} {S:AD} {name op:ByteArray} {e:Int}
theorem plain_len (l:FilesL) : l.plain.length = l.length := by unfold FilesL.plain; simp
theorem plain_get {i:Nat} (h:i < l.length) : l.plain[i]'(by rw [plain_len]; exact h) = l[i].1 := List.getElem_map (fun p:FileA × Value => p.1)
theorem filesS_at (h:FilesS w v l) {i:Nat} (hi:i < l.plain.length) : ∃ b o c u,v = .slice (some ⟨b,o,none⟩) l.plain.length c ∧ w.cell? ⟨b,o + i * 2,none⟩ = some (.string l.plain[i].1) ∧ w.cell? ⟨b,o + i * 2 + 1,none⟩ = some u ∧ SBytes w u l.plain[i].2 := by
 have hi' : i < l.length := by rw [← plain_len]; exact hi
 obtain ⟨b,o,c,e,h1,h2⟩ := h.at_ hi'
 have ep : l.plain[i] = l[i].1 := plain_get hi'
 exact ⟨b,o,c,_,by rw [e,plain_len],by rw [ep]; exact h1,h2,by rw [ep]; exact h.all _ (List.getElem_mem hi')⟩
theorem c_files6 (hx:FilesS w v1 l1) (hy:FilesS w v2 l2) (hl:l1.plain.length ≤ 4611686018427387904) (hlb:∀ f ∈ l1.plain,f.2.length ≤ 4611686018427387904) (hk:∀ w',Fr no w w' → k (.bool (decide (l1.plain = l2.plain))) w') : pFn P 24 [v1,v2] w k := by
 refine F24_in _ _ _ _ ?_
 unfold F24_0
 obtain ⟨A1,c1,e1⟩ : ∃ A c,v1 = .slice A l1.plain.length c := by obtain ⟨A,c,e,_⟩ := hx.src; exact ⟨A,c,by rw [e,plain_len]⟩
 obtain ⟨A2,c2,e2⟩ : ∃ A c,v2 = .slice A l2.plain.length c := by obtain ⟨A,c,e,_⟩ := hy.src; exact ⟨A,c,by rw [e,plain_len]⟩
 rw [e1,e2]
 refine s_len usl36 (s_len usl36 ?_)
 by_cases hlen : l1.plain.length = l2.plain.length
 ·refine s_nei_f (by omega) (pC_false ?_)
  refine F24L1_inv (m := l1.plain.length) k (fun m ρ w' => ∃ i : Nat,i + m = l1.plain.length ∧ Fr no w w' ∧ ρ 0 = .slice A1 l1.plain.length c1 ∧ ρ 1 = .slice A2 l2.plain.length c2 ∧ ρ 5 = i64 i ∧ l1.plain.take i = l2.plain.take i) ?_
   ⟨0,by omega,Fr.refl _ _,rfl,rfl,rfl,rfl⟩
  rintro m ρ w' ⟨i,him,hf,h0,h1,h5,heq⟩
  rw [F24_1_eq]
  unfold F24_1
  rw [h0,h1,h5]
  refine s_len usl36 ?_
  by_cases hi : i < l1.plain.length
  ·refine s_lt_t (by omega) (pC_true ?_)
   have fd : Fr no w' w'.drew := Fr.drew _ _
   have hiy : i < l2.plain.length := by omega
   have ff : Fr no w w'.drew := (hf.or fd).mono fun b hb => hb.elim (fun h => h.elim) fun h => h.elim
   obtain ⟨b1,o1,d1,u1,f1,g1,g1',g1''⟩ := filesS_at (hx.fr ff) hi
   obtain ⟨b2,o2,d2,u2,f2,g2,g2',g2''⟩ := filesS_at (hy.fr ff) hiy
   rw [e1] at f1; rw [e2] at f2
   injection f1 with q1 q2 q3
   injection f2 with r1 r2 r3
   subst q1; subst r1
   have keep : ∀ w2,Fr no w'.drew w2 → (fun w':World => w'.cell? ⟨b1,o1 + i * 2,none⟩ = some (.string l1.plain[i].1) ∧ w'.cell? ⟨b1,o1 + i * 2 + 1,none⟩ = some u1 ∧ w'.cell? ⟨b2,o2 + i * 2,none⟩ = some (.string l2.plain[i].1) ∧ w'.cell? ⟨b2,o2 + i * 2 + 1,none⟩ = some u2) w2 := by
    intro w2 f
    have kc : ∀ {b o:Nat} {u:Value},w'.drew.cell? ⟨b,o,none⟩ = some u → w2.cell? ⟨b,o,none⟩ = some u := by
     intro b o u hc
     rw [World.cell?_of_block (w := w'.drew) (f.block b (World.block_lt_of_cell? _ ⟨b,o,none⟩ hc) id)]; exact hc
    exact ⟨kc g1,kc g1',kc g2,kc g2'⟩
   refine ⟨fun w' => w'.cell? ⟨b1,o1 + i * 2,none⟩ = some (.string l1.plain[i].1) ∧ w'.cell? ⟨b1,o1 + i * 2 + 1,none⟩ = some u1 ∧ w'.cell? ⟨b2,o2 + i * 2,none⟩ = some (.string l2.plain[i].1) ∧ w'.cell? ⟨b2,o2 + i * 2 + 1,none⟩ = some u2,keep _ (Fr.refl _ _),?_⟩
   refine q_of (.pointer (some ⟨b1,o1 + i * 2,none⟩)) (fun w_ hS => s_ix (i := (i:Int)) usl36 (sze36 _) (by omega) (by omega) ⟨by simp,rfl⟩) ?_
   refine q_of (.pointer (some ⟨b1,o1 + i * 2,none⟩)) (fun w_ hS => fa107_0 ⟨rfl,rfl⟩) ?_
   refine q_of _ (fun w_ hS => s_ld (isAgg9 _) hS.1 ⟨rfl,rfl⟩) ?_
   refine q_of (.pointer (some ⟨b2,o2 + i * 2,none⟩)) (fun w_ hS => s_ix (i := (i:Int)) usl36 (sze36 _) (by omega) (by omega) ⟨by simp,rfl⟩) ?_
   refine q_of (.pointer (some ⟨b2,o2 + i * 2,none⟩)) (fun w_ hS => fa107_0 ⟨rfl,rfl⟩) ?_
   refine q_of _ (fun w_ hS => s_ld (isAgg9 _) hS.2.2.1 ⟨rfl,rfl⟩) ?_
   refine q_of _ (fun w_ hS => s_nes ⟨rfl,rfl⟩) ?_
   have bad : l1.plain[i] ≠ l2.plain[i] → ∀ w2,Fr no w'.drew w2 → k (.bool false) w2 := by
    intro hne w2 f
    have := hk w2 ((ff.or f).mono fun b hb => hb.elim (fun h => h.elim) fun h => h.elim)
    rwa [decide_eq_false (fun h => hne (List.getElem_of_eq h hi))] at this
   by_cases hn : l1.plain[i].1 = l2.plain[i].1
   ·rw [decide_eq_true hn]
    refine pGq_yes rfl (pGq_yes rfl (pGq_yes rfl ?_))
    refine q_of (.pointer (some ⟨b1,o1 + i * 2,none⟩)) (fun w_ hS => s_ix (i := (i:Int)) usl36 (sze36 _) (by omega) (by omega) ⟨by simp,rfl⟩) ?_
    refine pGq_yes rfl ?_
    refine q_of (.pointer (some ⟨b1,o1 + i * 2 + 1,none⟩)) (fun w_ hS => fa107_1 ⟨rfl,rfl⟩) ?_
    refine pGq_yes rfl ?_
    refine q_of _ (fun w_ hS => s_ld (isAgg23 _) hS.2.1 ⟨rfl,rfl⟩) ?_
    refine pGq_yes rfl (pGq_yes rfl (pGq_yes rfl ?_))
    refine q_of (.pointer (some ⟨b2,o2 + i * 2,none⟩)) (fun w_ hS => s_ix (i := (i:Int)) usl36 (sze36 _) (by omega) (by omega) ⟨by simp,rfl⟩) ?_
    refine pGq_yes rfl ?_
    refine q_of (.pointer (some ⟨b2,o2 + i * 2 + 1,none⟩)) (fun w_ hS => fa107_1 ⟨rfl,rfl⟩) ?_
    refine pGq_yes rfl ?_
    refine q_of _ (fun w_ hS => s_ld (isAgg23 _) hS.2.2.2 ⟨rfl,rfl⟩) ?_
    refine pG_yes rfl ?_
    refine c_bytes g1'' g2'' (hlb _ (List.getElem_mem hi)) fun w2 f2 => ?_
    refine ⟨keep w2 f2,?_⟩
    refine pGq_yes rfl ?_
    refine q_of _ (fun w_ hS => s_not ⟨rfl,rfl⟩) ?_
    refine q_of _ (fun w_ hS => s_pick_f ⟨rfl,rfl⟩) ?_
    by_cases hb : l1.plain[i].2 = l2.plain[i].2
    ·have hxy : l1.plain[i] = l2.plain[i] := Prod.ext hn hb
     rw [decide_eq_true hb]
     refine pC_false (s_add_in (by omega) ?_)
     refine ⟨m - 1,by omega,i + 1,by omega,(ff.or f2).mono fun b hb => hb.elim (fun h => h.elim) fun h => h.elim,h0,h1,?_,?_⟩
     ·show i64 _ = i64 _; simp
     ·rw [List.take_succ_eq_append_getElem hi,List.take_succ_eq_append_getElem hiy,heq,hxy]
    ·rw [decide_eq_false hb]
     exact pC_true (bad (fun h => hb (by rw [h])) w2 f2)
   ·rw [decide_eq_false hn]
    repeat (first | refine pGq_skf ?_ | refine pGq_un ?_)
    refine pG_skf ?_
    refine ⟨keep _ (Fr.refl _ _),?_⟩
    repeat (first | refine pGq_skf ?_ | refine pGq_un ?_)
    exact q_of _ (fun w_ hS => s_pick_t ⟨rfl,rfl⟩) (pC_true (bad (fun h => hn (by rw [h])) _ (Fr.refl _ _)))
  ·refine s_lt_f (by omega) (pC_false ?_)
   rw [F24_2_eq]
   unfold F24_2
   have hxy : l1.plain = l2.plain := by
    have a1 := List.take_of_length_le (l := l1.plain) (i := i) (by omega)
    have a2 := List.take_of_length_le (l := l2.plain) (i := i) (by omega)
    rw [← a1,heq,a2]
   have := hk w' hf
   rwa [decide_eq_true hxy] at this
 ·refine s_nei_t (by omega) (pC_true ?_)
  have := hk w (Fr.refl _ _)
  rwa [decide_eq_false (fun h => hlen (by rw [h]))] at this
def FlsA (v:Value) (l:FilesL) : Asrt where
 h w O I := FilesS w v l ∧ (0 < l.length → ∀ b,sblk v = some b → I b) ∧ (∀ p ∈ l,0 < p.1.2.length → ∀ b,sblk p.2 = some b → I b) ∧ (∀ b,¬ O b) ∧ ∀ b,I b → b < w.heap.size
 fr := fun ⟨h1,h2,h3,h4,h5⟩ hf hm => ⟨⟨Src.fr0 h1.src (by omega) hf fun h0 b hb e => (hm b e).2 (h2 h0 b hb),fun p hp => SBytes.fr0 (h1.all p hp) hf fun h0 b hb e => (hm b e).2 (h3 p hp h0 b hb)⟩,h2,h3,h4,fun b hb => Nat.lt_of_lt_of_le (h5 b hb) hf.size⟩
 lt := fun ⟨h1,h2,h3,h4,h5⟩ b hb => hb.elim (fun h => absurd h (h4 b)) (h5 b)
 ap := fun ⟨h1,h2,h3,h4,h5⟩ b hb => absurd hb (h4 b)
theorem Sep.fls {L:List Asrt} (h:Sep L w) (i:Nat) (hi:L[i]? = some (FlsA v l)) : FilesS w v l := by obtain ⟨O,I,h,_⟩ := h.get i hi; exact h
theorem filesV_S {B:Nat} {fs:List FileA} (h:FilesV w B v fs) : ∃ l : FilesL,l.plain = fs ∧ FilesS w v l ∧ (∀ b,sblk v = some b → B ≤ b ∧ b < w.heap.size) ∧ ∀ p ∈ l,∀ b,sblk p.2 = some b → B ≤ b ∧ b < w.heap.size := by
  obtain ⟨ps,h1,h2,h3⟩ := h
  have key : ∀ {fs:List FileA} {ps:List (ByteArray × Value)},All2 (fun f p => f.1 = p.1 ∧ SBytes w p.2 f.2 ∧ ∀ b,sblk p.2 = some b → B ≤ b ∧ b < w.heap.size ∧ sblk v ≠ some b) fs ps →
      ∃ l : FilesL,l.plain = fs ∧ (l.flatMap fun p => ([.string p.1.1,p.2] : List Value)) = (ps.flatMap fun p => [.string p.1,p.2]) ∧ (∀ p ∈ l,SBytes w p.2 p.1.2) ∧ ∀ p ∈ l,∀ b,sblk p.2 = some b → B ≤ b ∧ b < w.heap.size := by
    intro fs ps h
    induction h with
    | nil => exact ⟨[],rfl,rfl,fun p hp => (by cases hp),fun p hp => (by cases hp)⟩
    | cons hh _ ih =>
      obtain ⟨l,e1,e2,e3,e4⟩ := ih
      rename_i f p _ _ _
      refine ⟨(f,p.2) :: l,by unfold FilesL.plain at *; rw [List.map_cons,e1],?_,?_,?_⟩
      · rw [List.flatMap_cons,List.flatMap_cons,e2,hh.1]
      · intro q hq
        rcases List.mem_cons.1 hq with rfl | hq
        · exact hh.2.1
        · exact e3 q hq
      · intro q hq
        rcases List.mem_cons.1 hq with rfl | hq
        · exact fun b hb => ⟨(hh.2.2 b hb).1,(hh.2.2 b hb).2.1⟩
        · exact e4 q hq
  obtain ⟨l,e1,e2,e3,e4⟩ := key h1
  refine ⟨l,e1,⟨?_,e3⟩,fun b hb => ⟨h3 b hb,(own_blk_lt h2 hb).2⟩,e4⟩
  have := Src.of_own h2
  rw [e2,← plain_len,e1]; exact this
theorem Sep.newFls {w':World} {fs:List FileA} (hS:Sep L w) (hf:Fr no w w') (h:FilesV w' w.heap.size v fs) : ∃ l : FilesL,l.plain = fs ∧ Sep (FlsA v l :: L) w' := by
 obtain ⟨l,e1,e2,e3,e4⟩ := filesV_S h
 exact ⟨l,e1,hS.new (O' := no) (I' := fun b => w.heap.size ≤ b ∧ b < w'.heap.size) hf (fun b hb => hb.elim) ⟨e2,fun _ b hb => e3 b hb,fun p hp _ b hb => e4 p hp b hb,fun _ h => h,fun b hb => hb.2⟩ (fun b hb => hb.elim) fun b hb => hb.1⟩
theorem sd_files (hS:Sep L w) (i:Nat) (hi:L[i]? = some (Dk D S)) (ok:S.Ok c) (hk:∀ w' v l,l.plain = S.files → Sep (FlsA v l :: L) w' → k v w') : pFn P 22 [ptr D] w k := by
 obtain ⟨O,I,Ly,d,-⟩ := Sep.disk hS i hi
 refine c_files sortsKeys d ok (shownMax ok) fun w2 v2 g2 f2 => ?_
 obtain ⟨l,e,h⟩ := Sep.newFls hS f2 g2
 exact hk w2 v2 l e h
end
section
variable {w:World} {k:KV} {v va vb v1 v2:Value} {l la lb:FilesL} {L:List Asrt} {D c:Nat} {S:AD} {name op one two:ByteArray} {e:Int}
end
section
variable {W w:World} {k:KV} {v:Value} {l:FilesL} {room:Int}
end
section
variable {w:World} {k:KV} {W:World} {xb Pb D E c:Nat} {x:StepA} {dv pv:Value} {S T:AD} {l:List Asrt}
theorem sep_apb {m n:Nat} {v y:Value} {xs cs:List Value} (hS:Sep (OwnA 5 1 v n xs :: l) w) (HS:Src w y 1 m cs) (h1:∀ u ∈ cs,u.oneCell' = true) (hb:n + m ≤ 1099511627776) (hk:∀ v' w',Sep (OwnA 5 1 v' (n + m) (xs ++ cs) :: l) w' → k v' w') : px P (bSem .append #[23,23] 23 #[v,y]) w k :=
 ap23 (hS.own 0 rfl) HS h1 (by omega) (Nat.zero_le _) fun v' w' ho hf hb => hk v' w' (hS.ownapp 0 rfl ho hf hb)
theorem errT_base (hg:ErrT W) (hf:Fr no W w) : ErrT w := hg.fr hf fun h => h
end
section
variable {W w:World} {k:KV} {L:List Asrt} {v va pv:Value} {l la:FilesL} {S:AD} {E c:Nat} {op name:ByteArray} {e:Int} {picks:List Int}
theorem fls_data (ok:S.Ok c) (h:la.plain = S.files) : ∀ p ∈ la,p.1.2.length ≤ 1048576 := fun p hp => by
 have hm : p.1 ∈ S.files := by rw [← h]; exact List.mem_map_of_mem hp
 obtain ⟨q,hq,e⟩ := List.mem_map.1 hm
 have := (ok.thing q.2 (.inl ⟨q.1,hq⟩)).ok.len.1
 rw [← e]; exact this
theorem fls_dataP (ok:S.Ok c) (h:la.plain = S.files) : ∀ f ∈ la.plain,f.2.length ≤ 4611686018427387904 := fun f hf => by
 obtain ⟨p,hp,rfl⟩ := List.mem_map.1 hf
 have := fls_data ok h p hp; omega
end
section
variable {w:World} {k:KV} {v:Value}
theorem k_conv8 {x:Int} {k:KV} (hk:k (.int .u8 (IntKind.u8.wrap x)) w) : px P (convert 3 5 (i64 x)) w k := px_ok (w' := w) (v := .int .u8 (IntKind.u8.wrap x)) (by kernel_rfl) hk
def marks (i n m:Nat) : Bytes := List.replicate n (UInt8.ofNat i) ++ List.replicate m (UInt8.ofNat (100 + i))
theorem marks_len (i n m:Nat) : (marks i n m).length = n + m := by unfold marks; simp
theorem marks_at {i n m j:Nat} (hj:j < n + m) : (marks i n m)[j]'(by rw [marks_len]; exact hj) = if j < n then UInt8.ofNat i else UInt8.ofNat (100 + i) := by
 unfold marks
 by_cases h : j < n
 ·rw [if_pos h,List.getElem_append_left (by simpa using h)]; simp
 ·rw [if_neg h,List.getElem_append_right (by simpa using h)]; simp
theorem u8_of {i:Nat} (hi:i < 256) : IntKind.u8.wrap (i:Int) = ((UInt8.ofNat i).toNat : Int) := by
 rw [IntKind.wrap_u8,UInt8.toNat_ofNat']; omega
set_option maxHeartbeats 1000000 in
theorem c_rowIs6 {i n m:Nat} (hv:SBytes w v (marks i n m)) (hi:i < 100) (hn:n ≤ 1000000) (hm:m ≤ 1000000) (hk:k (.bool true) w) : pFn P 23 [v,i64 i,i64 n] w k := by
 refine F23_in _ _ _ _ _ ?_
 unfold F23_0
 refine F23L1_inv (m := n + m) k (fun r ρ w' => ∃ j : Nat,j + r = n + m ∧ w' = w ∧ ρ 0 = v ∧ ρ 1 = i64 i ∧ ρ 2 = i64 n ∧ ρ 7 = i64 j) ?_ ⟨0,by omega,rfl,rfl,rfl,rfl,rfl⟩
 rintro r ρ w' ⟨j,hjr,rfl,e0,e1,e2,e7⟩
 rw [F23_1_eq]
 unfold F23_1
 rw [e0,e1,e2,e7]
 refine s_lenS usl23 hv ?_
 rw [marks_len]
 by_cases hj : j < n + m
 ·refine s_lt_t (by omega) (pC_true ?_)
  obtain ⟨b,o,c,ev,hc⟩ := bytes_at hv (i := j) (by rw [marks_len]; exact hj)
  rw [marks_at hj] at hc
  rw [marks_len] at ev
  subst ev
  by_cases hjn : j < n
  ·rw [if_pos hjn] at hc
   refine s_lt_t (by omega) (pG_yes rfl (pG_yes rfl (pG_yes rfl (s_ix (i := (j:Int)) usl23 (sze23 _) (by omega) (by omega) ?_))))
   rw [show (o + (j:Int).toNat * 1) = o + j by simp]
   refine pG_yes rfl (s_ld (isAgg5 _) hc (pG_yes rfl (pG_yes rfl (k_conv8 ?_))))
   rw [u8_of (by omega)]
   refine pG_yes rfl (s_nei_f rfl (s_pick_t ?_))
   refine pG_yes rfl (pG_yes rfl (pG_yes rfl (s_ge_f (by omega) (pG_yes rfl ?_))))
   refine pG_sk (pG_sk (pG_sk (pG_sk (pG_sk (pG_sk (pG_sk (pG_sk ?_)))))))
   refine pG_yes rfl (s_pick_f (s_pick_f (pC_false (s_add_in (by omega) ⟨r - 1,by omega,j + 1,by omega,rfl,e0,e1,e2,?_⟩))))
   show i64 _ = i64 _; simp
  ·rw [if_neg hjn] at hc
   refine s_lt_f (by omega) ?_
   refine pG_sk (pG_sk (pG_sk (pG_sk (pG_sk (pG_sk (pG_sk (s_pick_f ?_)))))))
   refine pG_yes rfl (pG_yes rfl (pG_yes rfl (s_ge_t (by omega) (pG_yes rfl ?_))))
   refine pG_yes rfl (pG_yes rfl (pG_yes rfl (s_ix (i := (j:Int)) usl23 (sze23 _) (by omega) (by omega) ?_)))
   rw [show (o + (j:Int).toNat * 1) = o + j by simp]
   refine pG_yes rfl (s_ld (isAgg5 _) hc (pG_yes rfl (pG_yes rfl (s_add_in (by omega) (pG_yes rfl (k_conv8 ?_))))))
   rw [show (100 : Int) + (i:Int) = ((100 + i : Nat) : Int) by omega,u8_of (by omega)]
   refine pG_yes rfl (s_nei_f rfl ?_)
   refine pG_yes rfl (s_pick_t (s_pick_f (pC_false (s_add_in (by omega) ⟨r - 1,by omega,j + 1,by omega,rfl,e0,e1,e2,?_⟩))))
   show i64 _ = i64 _; simp
 ·refine s_lt_f (by omega) (pC_false ?_)
  rw [F23_2_eq]
  unfold F23_2
  exact hk
end
section
variable {W w:World} {k:KV} {l L:List Asrt} {E c:Nat} {S:AD} {d:Bytes} {ns:List ByteArray} {nv dv vr:Value}
def rowA (z:Value × Bytes) : Asrt := OwnA 5 1 z.1 z.2.length (u8s z.2)
abbrev KL (W:World) (E:Nat) (vr:Value) (zs:List (Value × Bytes)) (S:AD) : List Asrt := [OwnA 23 1 vr zs.length (zs.map (·.1)),Bag (zs.map rowA),Dk E S,Base W]
theorem holds_row (v:Value) (d:Bytes) : Holds (rowA (v,d)) v d := fun w O I ⟨h1,h2,h3⟩ => ⟨Src.of_own h1,fun _ b hb => .inl ((h2 b).2 hb)⟩
theorem row_bytes {z:Value × Bytes} (h:Sep L w) (i:Nat) (hi:L[i]? = some (rowA z)) : SBytes w z.1 z.2 := Src.of_own (h.own i hi)
theorem row_one {z:Value × Bytes} (h:Sep L w) (i:Nat) (hi:L[i]? = some (rowA z)) : z.1.cells = #[z.1] ∧ ∀ u ∈ [z.1],u.oneCell' = true := by
 have := own_one (h.own i hi)
 exact ⟨this.1,by intro u hu; rw [List.mem_singleton.1 hu]; exact this.2⟩
theorem s_row {vs:List Value} {n i:Nat} {u:Value} {kk:Value → KV} (hsrc:Src w vr 1 n vs) (hi:i < n) (hu:vs[i]? = some u) (hk:∀ a,kk a u w) :
    px P (Instr.indexAt 29 vr (i64 i)) w fun a w => px P (Instr.loadAt 23 a) w (kk a) := by
  refine s_ix_src usl29 (sze29 _) hsrc (by omega) (by omega) fun b o hcell => ?_
  refine s_ld (v := u) (isAgg23 _) (hcell 0 _ (by omega) ?_) (hk _)
  simpa using hu
theorem s_lit0 (hS:Sep l w) (hk:∀ v w',Sep (OwnA 5 1 v 0 [] :: l) w' → k v w') : px P (Instr.buildSlice 23 0 #[]) w k := by
 refine px_ok (w' := w.alloc (.cells #[] 5)) (v := .slice (some ⟨w.heap.size,0,none⟩) 0 0) (by kernel_rfl) ?_
 refine hk _ _ (hS.newrow (Fr.alloc no w _) (fun b hb => hb.elim) (own_lit w 0 5 1 #[] 0 (Nat.zero_le _) (by unfold maxLen; omega) rfl) fun b hb => ?_)
 injection hb with hb; exact Nat.le_of_eq hb
theorem Sep.ownapp2 {w':World} {te sz n m:Nat} {v v':Value} {cs new:List Value} (h:Sep l w) (ix:Nat) (hix:l[ix]? = some (OwnA te sz v n cs)) (ho:w'.ownsRow 0 te sz v' (n + m) (cs ++ new)) (hf:Fr (fun b => some b = sblk v) w w') (hb:∀ b,sblk v' = some b → sblk v = some b ∨ w.heap.size ≤ b ∧ b < w'.heap.size) :
    Sep (l.set ix (OwnA te sz v' (n + m) (cs ++ new))) w' := by
  obtain ⟨O,I,J,⟨h1,h2,h3⟩,-,-,hs⟩ := h.at_ ix hix
  exact hs _ w' (fun b => sblk v' = some b) I ⟨ho,fun _ => Iff.rfl,h3⟩ ⟨hf.mono fun b hb => .inl ((h2 b).2 hb.symm),fun b hb' => (hb b hb').imp ((h2 b).2) (·.1),fun b hb => absurd hb (h3 b)⟩
theorem s_keep {zs:List (Value × Bytes)} {z:Value × Bytes} {r:List Asrt} {kk:Value → KV} (hl:zs.length ≤ 1000000) (hS:Sep (rowA z :: OwnA 23 1 vr zs.length (zs.map (·.1)) :: Bag (zs.map rowA) :: r) w)
    (hk:∀ u v' w',Sep (OwnA 23 1 v' (zs ++ [z]).length ((zs ++ [z]).map (·.1)) :: Bag ((zs ++ [z]).map rowA) :: r) w' → kk u v' w') :
    px P (Instr.buildSlice 29 1 #[(0,z.1)]) w fun u w => px P (bSem .append #[29,29] 29 #[vr,u]) w (kk u) := by
  obtain ⟨o1,o2⟩ := row_one hS 0 rfl
  refine pl29 (hS.own 1 rfl) o1 o2 (by omega) (Nat.zero_le _) fun u v' w' ho hf hb => ?_
  have h2 := Sep.ownapp2 hS 1 rfl ho hf hb
  have h3 : Sep (rowA z :: Bag (zs.map rowA) :: OwnA 23 1 v' (zs.length + 1) (zs.map (·.1) ++ [z.1]) :: r) w' := sep_mv [2,1] 0 h2 rfl
  have h4 := h3.more
  have h5 : Sep (OwnA 23 1 v' (zs.length + 1) (zs.map (·.1) ++ [z.1]) :: Bag (zs.map rowA ++ [rowA z]) :: r) w' := sep_mv [1] 0 h4 rfl
  refine hk u v' w' ?_
  rw [List.length_append,List.map_append,List.map_append]
  exact h5
theorem keep_2 {ρ:Env} {N1:KE} {v:Value} {n ix:Nat} {cs:List Value} (hn:n ≤ 1000000) (hS:Sep L w) (hi:L[ix]? = some (OwnA 5 1 v n cs)) (e9:ρ 9 = v) (e11:ρ 11 = i64 0)
    (hk:∀ (ρ':Env) w',Sep (L.eraseIdx ix) w' → (∀ t,t < 11 → ρ' t = ρ t) → F3A1 k N1 [1,0,0,1,1,1] ρ' w') : F3L2 k N1 ρ w := by
  refine F3L2_inv (m := n) k N1 (fun m ρ' w' => ∃ (i:Nat) (cs:List Value),i + m = n ∧ Sep (L.set ix (OwnA 5 1 v n cs)) w' ∧ ρ' 11 = i64 i ∧ ∀ t,t < 11 → ρ' t = ρ t) ?_ ⟨0,cs,by omega,by rw [← List.getElem?_eq_some_iff.1 hi |>.2,List.set_getElem_self]; exact hS,e11,fun _ _ => rfl⟩
  have hlt : ix < L.length := (List.getElem?_eq_some_iff.1 hi).1
  clear hS
  rintro m ρ' w' ⟨i,cs,him,hS,q11,hq⟩
  have q9 : ρ' 9 = v := (hq 9 (by omega)).trans e9
  have hix : (L.set ix (OwnA 5 1 v n cs))[ix]? = some (OwnA 5 1 v n cs) := List.getElem?_set_self hlt
  rw [F3_2_eq]
  unfold F3_2
  rw [q9,q11]
  refine s_lenS usl23 (Src.of_own (hS.own ix hix)) ?_
  by_cases hin : i < n
  · refine s_lt_t (by omega) (pC_true ?_)
    obtain ⟨g,cap,cur,ev,hg,hc,hset⟩ := hS.ownset ix hix (i := i) hin
    have h2 := hset (.int .u8 7)
    rw [List.set_set] at h2
    rw [ev] at h2 ⊢
    refine s_ix (i := (i:Int)) usl23 (sze23 _) (by omega) (by omega) ?_
    rw [show (0 + (i:Int).toNat * 1) = i by simp]
    refine s_st (sizeOf5 _) rfl rfl hg hc (s_add_in (by omega) ?_)
    refine ⟨m - 1,by omega,i + 1,_,by omega,h2,?_,fun t ht => ?_⟩
    · show i64 _ = i64 _; simp
    · have := hq t ht
      match t,ht with
      | 0,_ | 1,_ | 2,_ | 3,_ | 4,_ | 5,_ | 6,_ | 7,_ | 8,_ | 9,_ | 10,_ => exact this
  · refine s_lt_f (by omega) (pC_false ?_)
    have h3 : Sep (L.eraseIdx ix) w' := by
      have := hS.erase ix hix
      rwa [List.eraseIdx_set_eq] at this
    refine hk _ w' h3 fun t ht => ?_
    have := hq t ht
    match t,ht with
    | 0,_ | 1,_ | 2,_ | 3,_ | 4,_ | 5,_ | 6,_ | 7,_ | 8,_ | 9,_ | 10,_ => exact this
set_option maxHeartbeats 1000000 in
/-- What was put is got three times. -/
theorem keep_4 {ρ:Env} {N1:KE} {i:Nat} {zs:List (Value × Bytes)} (hi:i < ns.length) (hsz:∀ n ∈ ns,n.size ≤ 9223372036854775807) (hnv:Src W nv 1 ns.length (ns.map .string)) (hdv:SBytes W dv d) (hdl:d.length ≤ 1000) (hzl:zs.length ≤ 1000) (hzd:∀ z ∈ zs,z.2 = d)
    (hS:Sep (KL W E vr zs S) w) (hKp:Kp S) (ok:S.Ok c) (hc:c ≤ 1000) (hn:isName ns[i] = true) (hg:alGet S.files ns[i] = some d)
    (e0:ρ 0 = nv) (e1:ρ 1 = dv) (e5:ρ 5 = ptr E) (e7:ρ 7 = vr) (e8:ρ 8 = i64 i) (e12:ρ 12 = i64 0)
    (hk:∀ (ρ':Env) w' vr' zs' S',Sep (KL W E vr' zs' S') w' → Kp S' → S'.Ok (c + 3) → zs'.length = zs.length + 3 → (∀ z ∈ zs',z.2 = d) → ρ' 0 = nv → ρ' 1 = dv → ρ' 5 = ptr E → ρ' 7 = vr' → ρ' 8 = i64 i → F3A1 k N1 [1,1] ρ' w') : F3L4 k N1 ρ w := by
  refine F3L4_inv (m := 3) k N1 (fun m ρ' w' => ∃ (j:Nat) (vr':Value) (zs':List (Value × Bytes)) (S':AD),j + m = 3 ∧ Sep (KL W E vr' zs' S') w' ∧ Kp S' ∧ S'.Ok (c + j) ∧ zs'.length = zs.length + j ∧ (∀ z ∈ zs',z.2 = d) ∧ S'.files = S.files ∧ ρ' 0 = nv ∧ ρ' 1 = dv ∧ ρ' 5 = ptr E ∧ ρ' 7 = vr' ∧ ρ' 8 = i64 i ∧ ρ' 12 = i64 j) ?_
    ⟨0,vr,zs,S,rfl,hS,hKp,ok,rfl,hzd,rfl,e0,e1,e5,e7,e8,e12⟩
  clear hS hKp ok e0 e1 e5 e7 e8 e12
  rintro m ρ' w' ⟨j,vr',zs',S',hjm,hS,hKp,ok,hl,hd,hf,q0,q1,q5,q7,q8,q12⟩
  rw [F3_6_eq]
  unfold F3_6
  rw [q0,q1,q5,q7,q8,q12]
  by_cases hj : j < 3
  · refine s_lt_t (by omega) (pC_true ?_)
    refine s_nth (hnv.fr (by omega) (hS.base_at 3 rfl) fun _ _ h => h) hi fun a => ?_
    have h1 : Sep (Dk E S' :: OwnA 23 1 vr' zs'.length (zs'.map (·.1)) :: Bag (zs'.map rowA) :: [Base W]) w' := sep_mv [2] 0 hS rfl
    refine c_fGetO h1 ok (hsz _ (List.getElem_mem hi)) fun w1 v ev h2 => ?_
    obtain ⟨g1,g2,g3,g4⟩ := kp_get hKp ok (by omega) hn (hf ▸ hg)
    have ok2 := ok_getF ok (by omega) ns[i]
    generalize S'.getF ns[i] = R at *
    obtain ⟨Re,Rd,R2⟩ := R
    dsimp only at *
    subst g1; subst g2
    obtain ⟨O,I,hE,_⟩ := h2.get 0 rfl
    have hev : ev = .nilIface := by
      rcases hE with ⟨_,h,_⟩ | ⟨h,_⟩
      · exact h
      · exact absurd rfl h
    subst hev
    refine s_ext rfl (s_ext rfl (s_nenn (pG_yes rfl (pG_yes rfl (pG_yes rfl ?_)))))
    have h3 : Sep (rowA (v,Rd) :: OwnA 23 1 vr' zs'.length (zs'.map (·.1)) :: Bag (zs'.map rowA) :: [Dk E R2,Base W]) w1 := sep_mv [3,3,2] 0 h2.drop rfl
    refine c_bytes (row_bytes h3 0 rfl) (hdv.fr (h3.base_at 4 rfl) fun _ _ h => h) (by show Rd.length ≤ _; omega) fun w2 f2 => ?_
    rw [show decide ((v,Rd).2 = Rd) = true from decide_eq_true rfl]
    refine pG_yes rfl (s_not (s_pick_f (pC_false ?_)))
    refine s_keep (z := (v,Rd)) (by omega) (h3.q f2) fun u v' w3 h4 => ?_
    refine s_add_in (by omega) ⟨m - 1,by omega,j + 1,v',zs' ++ [(v,Rd)],R2,by omega,h4,g3,ok2,by simp [hl]; omega,?_,g4.trans hf,q0,q1,q5,rfl,q8,?_⟩
    · intro z hz
      rcases List.mem_append.1 hz with hz | hz
      · exact hd z hz
      · rw [List.mem_singleton.1 hz]
    · show i64 _ = i64 _; simp
  · refine s_lt_f (by omega) (pC_false ?_)
    have : j = 3 := by omega
    subst this
    exact hk _ w' vr' zs' S' hS hKp ok hl hd (by exact q0) (by exact q1) (by exact q5) (by exact q7) (by exact q8)
end
section
variable {W w:World} {k:KV} {l L:List Asrt} {E c:Nat} {S:AD} {d:Bytes} {ns:List ByteArray} {nv dv vr vw:Value} {lw:FilesL}
set_option maxHeartbeats 1000000 in
theorem keep_1 {ρ:Env} (hg:ErrT W) (hsz:∀ n ∈ ns,n.size ≤ 9223372036854775807) (hnv:Src W nv 1 ns.length (ns.map .string)) (hdv:SBytes W dv d) (hdl:d.length ≤ 1000)
    (hS:Sep (KL W E (.slice none 0 0) [] S) w) (hKp:Kp S) (ok:S.Ok c) (hc:c ≤ 100)
    (e0:ρ 0 = nv) (e1:ρ 1 = dv) (e5:ρ 5 = ptr E) (e7:ρ 7 = .slice none 0 0) (e8:ρ 8 = i64 0)
    (hk:∀ (ρ':Env) w' vr zs S' c',Sep (KL W E vr zs S') w' → S'.Ok c' → zs.length ≤ 36 → (∀ z ∈ zs,z.2 = d) → ρ' 1 = dv → ρ' 5 = ptr E → ρ' 7 = vr → F3_3 k ρ' w') : F3L1 k ρ w := by
  refine F3L1_inv (m := 12) k (fun m ρ' w' => ∃ (i:Nat) (vr:Value) (zs:List (Value × Bytes)) (S':AD),i + m = 12 ∧ Sep (KL W E vr zs S') w' ∧ Kp S' ∧ S'.Ok (c + 11 * i) ∧ zs.length ≤ 3 * i ∧ (∀ z ∈ zs,z.2 = d) ∧ ρ' 0 = nv ∧ ρ' 1 = dv ∧ ρ' 5 = ptr E ∧ ρ' 7 = vr ∧ ρ' 8 = i64 i) ?_
    ⟨0,_,[],S,rfl,hS,hKp,ok,by simp,(fun z hz => by cases hz),e0,e1,e5,e7,e8⟩
  clear hS hKp ok e0 e1 e5 e7 e8
  rintro m ρ' w' ⟨i,vr,zs,S',him,hS,hKp,ok,hl,hd,q0,q1,q5,q7,q8⟩
  rw [F3_1_eq]
  unfold F3_1
  rw [q0,q1,q5,q8]
  refine s_lenS usl22 (hnv.fr (by omega) (hS.base_at 3 rfl) fun _ _ h => h) ?_
  have out : ∀ (ρ2:Env),ρ2 1 = dv → ρ2 5 = ptr E → ρ2 7 = vr → F3A k [1,1,1,1,1,1] ρ2 w' := by
    intro ρ2 r1 r5 r7
    rw [F3_3_eq]
    exact hk _ w' vr zs S' _ hS ok (by omega) hd r1 r5 r7
  by_cases hi : i < ns.length
  · refine s_lt_t (by omega) (pG_yes rfl (pG_yes rfl ?_))
    by_cases h12 : i < 12
    · refine s_lt_t (by omega) (s_pick_t (pC_true ?_))
      refine s_lit0 hS fun v0 w1 h1 => ?_
      refine sep_apb h1 (hdv.fr (h1.base_at 4 rfl) fun _ _ h => h) u8s_one (by omega) fun v w2 h2 => ?_
      rw [Nat.zero_add,List.nil_append] at h2
      replace h2 : Sep (rowA (v,d) :: KL W E vr zs S') w2 := h2
      refine s_nth (hnv.fr (by omega) (h2.base_at 4 rfl) fun _ _ h => h) hi fun a => ?_
      have h3 : Sep (Dk E S' :: rowA (v,d) :: [OwnA 23 1 vr zs.length (zs.map (·.1)),Bag (zs.map rowA),Base W]) w2 := sep_mv [3] 0 h2 rfl
      refine c_fPut (holds_row v d) h3 ok (by omega) (hsz _ (List.getElem_mem hi)) (by omega) fun w3 ev h4 => ?_
      obtain ⟨p1,p2⟩ := kp_put (d := d) (name := ns[i]) hKp ok (by omega)
      have ok2 := ok_putF ok (by omega) ns[i] d
      generalize S'.putF ns[i] d = R at *
      obtain ⟨Re,R2⟩ := R
      dsimp only at *
      refine keep_2 (v := v) (n := d.length) (ix := 2) (by omega) h4 rfl rfl rfl fun ρ3 w4 h5 hq => ?_
      have r0 : ρ3 0 = nv := (hq 0 (by omega)).trans q0
      have r1 : ρ3 1 = dv := (hq 1 (by omega)).trans q1
      have r5 : ρ3 5 = ptr E := (hq 5 (by omega)).trans q5
      have r7 : ρ3 7 = vr := (hq 7 (by omega)).trans q7
      have r8 : ρ3 8 = i64 i := (hq 8 (by omega)).trans q8
      have r10 : ρ3 10 = ev := hq 10 (by omega)
      clear hq
      replace h5 : Sep [ErrA ev putB ns[i] Re,Dk E R2,OwnA 23 1 vr zs.length (zs.map (·.1)),Bag (zs.map rowA),Base W] w4 := h5
      have h6 : Sep (KL W E vr zs R2) w4 := sep_mv [2,2] 0 h5.drop rfl
      rw [F3_4_eq]
      unfold F3_4
      rw [r8,r10]
      obtain ⟨O,I,hE,_⟩ := h5.get 0 rfl
      rcases hE with ⟨he,hev,_⟩ | ⟨he,b,hev,_⟩
      · subst hev
        refine s_nenn (pC_false ?_)
        obtain ⟨n1,n2⟩ := p2 he
        refine keep_4 hi hsz hnv hdv hdl (by omega) hd h6 p1 ok2 (by omega) n1 n2 (by exact r0) (by exact r1) (by exact r5) (by exact r7) (by exact r8) rfl fun ρ5 w5 vr5 zs5 S5 h7 k5 ok5 hl5 hd5 t0 t1 t5 t7 t8 => ?_
        rw [F3_8_eq]
        unfold F3_8
        rw [t8]
        refine s_add_in (by omega) ⟨m - 1,by omega,i + 1,vr5,zs5,S5,by omega,h7,k5,ok5.up (by omega) (by omega),by omega,hd5,t0,t1,t5,t7,?_⟩
        show i64 _ = i64 _; simp
      · subst hev
        refine s_nein (pC_true ?_)
        refine s_add_in (by omega) ⟨m - 1,by omega,i + 1,vr,zs,R2,by omega,h6,p1,ok2.up (by omega) (by omega),by omega,hd,r0,r1,r5,r7,?_⟩
        show i64 _ = i64 _; simp
    · exact s_lt_f (by omega) (s_pick_t (pC_false (out _ (by exact q1) (by exact q5) (by exact q7))))
  · exact s_lt_f (by omega) (pG_sk (pG_sk (s_pick_f (pC_false (out _ (by exact q1) (by exact q5) (by exact q7))))))
abbrev KF (W:World) (E:Nat) (vw:Value) (lw:FilesL) (vr:Value) (zs:List (Value × Bytes)) (S:AD) : List Asrt := FlsA vw lw :: KL W E vr zs S
theorem bag_row {zs:List (Value × Bytes)} {r:List Asrt} {i:Nat} (hS:Sep (Bag (zs.map rowA) :: r) w) (hi:i < zs.length) : SBytes w zs[i].1 zs[i].2 := by
 have h1 := hS.pick (i := i) (a := rowA zs[i]) (by simp [hi])
 exact row_bytes h1 0 rfl
theorem keep_3 {ρ:Env} {zs:List (Value × Bytes)} (hdv:SBytes W dv d) (hdl:d.length ≤ 1000) (hl:zs.length ≤ 36) (hd:∀ z ∈ zs,z.2 = d) (hS:Sep (KF W E vw lw vr zs S) w)
    (e1:ρ 1 = dv) (e5:ρ 5 = ptr E) (e7:ρ 7 = vr) (e15:ρ 15 = vw) (e16:ρ 16 = i64 0)
    (hk:∀ (ρ':Env) w',Sep (KF W E vw lw vr zs S) w' → ρ' 1 = dv → ρ' 5 = ptr E → ρ' 7 = vr → ρ' 15 = vw → F3_7 k ρ' w') : F3L3 k ρ w := by
  refine F3L3_inv (m := zs.length) k (fun m ρ' w' => ∃ i : Nat,i + m = zs.length ∧ Sep (KF W E vw lw vr zs S) w' ∧ ρ' 1 = dv ∧ ρ' 5 = ptr E ∧ ρ' 7 = vr ∧ ρ' 15 = vw ∧ ρ' 16 = i64 i) ?_ ⟨0,by omega,hS,e1,e5,e7,e15,e16⟩
  clear hS e1 e5 e7 e15 e16
  rintro m ρ' w' ⟨i,him,hS,q1,q5,q7,q15,q16⟩
  rw [F3_5_eq]
  unfold F3_5
  rw [q1,q7,q16]
  have hsrc := Src.of_own (hS.own 1 rfl)
  refine s_lenS usl29 hsrc ?_
  by_cases hi : i < zs.length
  · refine s_lt_t (by omega) (pC_true (s_row hsrc hi (u := zs[i].1) (by simp [hi]) fun a => ?_))
    have hb : SBytes w' zs[i].1 zs[i].2 := bag_row (sep_mv [2] 0 hS rfl) hi
    have hzd : zs[i].2 = d := hd _ (List.getElem_mem hi)
    refine c_bytes hb (hdv.fr (hS.base_at 4 rfl) fun _ _ h => h) (by rw [hzd]; omega) fun w2 f2 => ?_
    rw [hzd,decide_eq_true rfl]
    refine s_not (pC_false (s_add_in (by omega) ⟨m - 1,by omega,i + 1,by omega,hS.q f2,q1,q5,q7,q15,?_⟩))
    show i64 _ = i64 _; simp
  · refine s_lt_f (by omega) (pC_false ?_)
    rw [F3_7_eq]
    exact hk _ w' hS (by exact q1) (by exact q5) (by exact q7) (by exact q15)
theorem bag_set {zs:List (Value × Bytes)} {r:List Asrt} {i j:Nat} {z:Value × Bytes} (hS:Sep (Bag (zs.map rowA) :: r) w) (hi:zs[i]? = some z) (hj:j < z.2.length) :
    ∃ g cap cur,z.1 = .slice (some ⟨g,0,none⟩) z.2.length cap ∧ w.heap[g]? = some (.cells cur 5 (0,0)) ∧ j < cur.size ∧ ∀ b : UInt8,Sep (Bag ((zs.set i (z.1,z.2.set j b)).map rowA) :: r) (w.setCell ⟨g,j,none⟩ (.int .u8 (b.toNat : Int))) := by
  have hlt : i < zs.length := (List.getElem?_eq_some_iff.1 hi).1
  have h1 := hS.pick (i := i) (a := rowA z) (by simp [hi])
  obtain ⟨g,cap,cur,ev,hg,hc,hset⟩ := h1.ownset 0 rfl hj
  refine ⟨g,cap,cur,ev,hg,hc,fun b => ?_⟩
  have h2 := hset (.int .u8 (b.toNat : Int))
  have e : (u8s z.2).set j (.int .u8 (b.toNat : Int)) = u8s (z.2.set j b) := by unfold u8s; rw [List.map_set]
  rw [e] at h2
  have h3 : Sep (rowA (z.1,z.2.set j b) :: Bag ((zs.map rowA).eraseIdx i) :: r) (w.setCell ⟨g,j,none⟩ (.int .u8 (b.toNat : Int))) := by
    show Sep (OwnA 5 1 z.1 (z.2.set j b).length (u8s (z.2.set j b)) :: _) _
    rw [List.length_set]; exact h2
  have h4 := Sep.unpick (by rw [List.length_map]; exact hlt) h3
  rw [← List.map_set] at h4
  exact h4
theorem fillx (x:UInt8) (bb:List UInt8) (i:Nat) (hi:i < bb.length) : (List.replicate i x ++ bb.drop i).set i x = List.replicate (i + 1) x ++ bb.drop (i + 1) := by
 apply List.ext_getElem?
 intro j
 rw [List.getElem?_set]
 simp only [List.getElem?_append,List.length_replicate,List.length_append,List.length_drop,List.getElem?_replicate,List.getElem?_drop]
 by_cases h : i = j
 ·subst h; simp; omega
 ·rw [if_neg h]
  by_cases h2 : j < i
  ·rw [if_pos h2,if_pos h2,if_pos (by omega),if_pos (by omega)]
  ·rw [if_neg h2,if_neg (by omega)]; congr 1; omega
theorem keep_6 {ρ:Env} {N5:KE} {zs:List (Value × Bytes)} {i:Nat} {v:Value} (hdl:d.length ≤ 1000) (hl:zs.length ≤ 36) (hi:zs[i]? = some (v,d)) (hS:Sep (KF W E vw lw vr zs S) w)
    (e7:ρ 7 = vr) (e17:ρ 17 = i64 i) (e18:ρ 18 = i64 0)
    (hk:∀ (ρ':Env) w',Sep (KF W E vw lw vr (zs.set i (v,marks i d.length 0)) S) w' → (ρ' 1 = ρ 1 ∧ ρ' 5 = ρ 5 ∧ ρ' 7 = ρ 7 ∧ ρ' 15 = ρ 15 ∧ ρ' 17 = ρ 17) → F3A5 k N5 [1,1] ρ' w') : F3L6 k N5 ρ w := by
  have hlt : i < zs.length := (List.getElem?_eq_some_iff.1 hi).1
  refine F3L6_inv (m := d.length) k N5 (fun m ρ' w' => ∃ j : Nat,j + m = d.length ∧ Sep (KF W E vw lw vr (zs.set i (v,List.replicate j (UInt8.ofNat i) ++ d.drop j)) S) w' ∧ ρ' 18 = i64 j ∧ (ρ' 1 = ρ 1 ∧ ρ' 5 = ρ 5 ∧ ρ' 7 = ρ 7 ∧ ρ' 15 = ρ 15 ∧ ρ' 17 = ρ 17)) ?_
    ⟨0,by omega,by rw [List.replicate_zero,List.drop_zero,List.nil_append,← (List.getElem?_eq_some_iff.1 hi).2,List.set_getElem_self]; exact hS,e18,rfl,rfl,rfl,rfl,rfl⟩
  clear hS
  rintro m ρ' w' ⟨j,hjm,hS,q18,a1,a5,a7,a15,a17⟩
  have q7 : ρ' 7 = vr := a7.trans e7
  have q17 : ρ' 17 = i64 i := a17.trans e17
  rw [F3_10_eq]
  unfold F3_10
  rw [q7,q17,q18]
  generalize hz : zs.set i (v,List.replicate j (UInt8.ofNat i) ++ d.drop j) = zz at *
  have hzi : zz[i]? = some (v,List.replicate j (UInt8.ofNat i) ++ d.drop j) := by rw [← hz,List.getElem?_set_self hlt]
  have hzlt : i < zz.length := (List.getElem?_eq_some_iff.1 hzi).1
  have hzz := (List.getElem?_eq_some_iff.1 hzi).2
  have hsrc := Src.of_own (hS.own 1 rfl)
  have hlen : (List.replicate j (UInt8.ofNat i) ++ d.drop j).length = d.length := by simp; omega
  have hb : SBytes w' v (List.replicate j (UInt8.ofNat i) ++ d.drop j) := by
    have : SBytes w' zz[i].1 zz[i].2 := bag_row (sep_mv [2] 0 hS rfl) hzlt
    rwa [hzz] at this
  refine s_row hsrc hzlt (u := v) (by simp [hzi]) fun a => ?_
  refine s_lenS usl23 hb ?_
  rw [hlen]
  by_cases hj : j < d.length
  · refine s_lt_t (by omega) (pC_true (s_row hsrc hzlt (u := v) (by simp [hzi]) fun a => (k_conv8 ?_)))
    rw [u8_of (by omega)]
    have h1 : Sep (Bag (zz.map rowA) :: [FlsA vw lw,OwnA 23 1 vr zz.length (zz.map (·.1)),Dk E S,Base W]) w' := sep_mv [2] 0 hS rfl
    obtain ⟨g,cap,cur,ev,hg,hc,hset⟩ := bag_set h1 hzi (j := j) (by show j < _; rw [hlen]; exact hj)
    have h2 := hset (UInt8.ofNat i)
    have ev' : v = .slice (some ⟨g,0,none⟩) d.length cap := by rw [← hlen]; exact ev
    rw [ev']
    refine s_ix (i := (j:Int)) usl23 (sze23 _) (by omega) (by omega) ?_
    rw [show (0 + (j:Int).toNat * 1) = j by simp]
    refine s_st (sizeOf5 _) rfl rfl hg hc (s_add_in (by omega) ?_)
    refine ⟨m - 1,by omega,j + 1,by omega,?_,?_,a1,a5,a7,a15,a17⟩
    · have e3 : zz.set i (v,(List.replicate j (UInt8.ofNat i) ++ d.drop j).set j (UInt8.ofNat i)) = zs.set i (v,List.replicate (j + 1) (UInt8.ofNat i) ++ d.drop (j + 1)) := by
        rw [← hz,List.set_set,fillx _ _ _ hj]
      have e4 : zz.map (·.1) = (zs.set i (v,List.replicate (j + 1) (UInt8.ofNat i) ++ d.drop (j + 1))).map (·.1) := by
        rw [← hz,List.map_set,List.map_set]
      have e5 : zz.length = (zs.set i (v,List.replicate (j + 1) (UInt8.ofNat i) ++ d.drop (j + 1))).length := by rw [← hz,List.length_set,List.length_set]
      replace h2 : Sep (Bag ((zz.set i (v,(List.replicate j (UInt8.ofNat i) ++ d.drop j).set j (UInt8.ofNat i))).map rowA) :: [FlsA vw lw,OwnA 23 1 vr zz.length (zz.map (·.1)),Dk E S,Base W]) _ := h2
      rw [e3,e4,e5] at h2
      rw [← ev']
      exact sep_mv [2,2] 0 h2 rfl
    · show i64 _ = i64 _; simp
  · refine s_lt_f (by omega) (pC_false ?_)
    have hjd : j = d.length := by omega
    refine hk _ w' ?_ ⟨by exact a1,by exact a5,by exact a7,by exact a15,by exact a17⟩
    · have : marks i d.length 0 = List.replicate j (UInt8.ofNat i) ++ d.drop j := by rw [hjd,List.drop_length]; rfl
      rw [this,hz]; exact hS
theorem keep_5 {ρ:Env} {zs:List (Value × Bytes)} (hdl:d.length ≤ 1000) (hl:zs.length ≤ 36) (hd:∀ z ∈ zs,z.2 = d) (hS:Sep (KF W E vw lw vr zs S) w)
    (e1:ρ 1 = dv) (e5:ρ 5 = ptr E) (e7:ρ 7 = vr) (e15:ρ 15 = vw) (e17:ρ 17 = i64 0)
    (hk:∀ (ρ':Env) w' zs',Sep (KF W E vw lw vr zs' S) w' → zs'.length = zs.length → (∀ i (h:i < zs'.length),zs'[i].2 = marks i d.length 0) → ρ' 1 = dv → ρ' 5 = ptr E → ρ' 7 = vr → ρ' 15 = vw → F3_11 k ρ' w') : F3L5 k ρ w := by
  refine F3L5_inv (m := zs.length) k (fun m ρ' w' => ∃ (i:Nat) (zs':List (Value × Bytes)),i + m = zs.length ∧ zs'.length = zs.length ∧ Sep (KF W E vw lw vr zs' S) w' ∧ (∀ j (h:j < zs'.length),zs'[j].2 = if j < i then marks j d.length 0 else d) ∧ ρ' 1 = dv ∧ ρ' 5 = ptr E ∧ ρ' 7 = vr ∧ ρ' 15 = vw ∧ ρ' 17 = i64 i) ?_
    ⟨0,zs,by omega,rfl,hS,fun j h => by rw [if_neg (by omega)]; exact hd _ (List.getElem_mem h),e1,e5,e7,e15,e17⟩
  clear hS e1 e5 e7 e15 e17
  rintro m ρ' w' ⟨i,zs',him,hzl,hS,hz,q1,q5,q7,q15,q17⟩
  rw [F3_9_eq]
  unfold F3_9
  rw [q7,q17]
  refine s_lenS usl29 (Src.of_own (hS.own 1 rfl)) ?_
  by_cases hi : i < zs'.length
  · refine s_lt_t (by omega) (pC_true ?_)
    have hzi : zs'[i]? = some (zs'[i].1,d) := by
      rw [List.getElem?_eq_getElem hi]
      have := hz i hi
      rw [if_neg (by omega)] at this
      rw [← this]
    refine keep_6 hdl (by omega) hzi hS (by exact q7) (by exact q17) rfl fun ρ2 w2 h2 ⟨a1,a5,a7,a15,a17⟩ => ?_
    have r17 : ρ2 17 = i64 i := a17.trans q17
    rw [F3_12_eq]
    unfold F3_12
    rw [r17]
    refine s_add_in (by omega) ⟨m - 1,by omega,i + 1,_,by omega,by rw [List.length_set]; exact hzl,h2,fun j h => ?_,a1.trans q1,a5.trans q5,a7.trans q7,a15.trans q15,?_⟩
    · rw [List.getElem_set]
      by_cases hij : i = j
      · subst hij; rw [if_pos rfl,if_pos (by omega)]
      · rw [if_neg hij,hz j (by rw [List.length_set] at h; exact h)]
        by_cases hji : j < i
        · rw [if_pos hji,if_pos (by omega)]
        · rw [if_neg hji,if_neg (by omega)]
    · show i64 _ = i64 _; simp
  · refine s_lt_f (by omega) (pC_false ?_)
    rw [F3_11_eq]
    exact hk _ w' zs' hS hzl (fun j h => by rw [hz j h,if_pos (by omega)]) (by exact q1) (by exact q5) (by exact q7) (by exact q15)
end
end Go.Proofs.YteeeggphkhimcaaGreatDoor
