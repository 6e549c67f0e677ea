/- Put together by a program (wip/tools/shake.py): Read,Known,Shelf,Two,Do,List,XPtr,Twin,SepD,RRep,ROps,ROps2,ROps3,ROps4,ROps5,ROps6,ROps7,ROps8,ROps9,ROps10,RLoad,XRow,Args6,Card6,CardU,NamesV,XFileA,XFileB,XWhole. -/
import Derived.Test.YteeeggphkhimcaaGreatDoorH10
import Derived.Test.YteeeggphkhimcaaGreatDoorH11
import Derived.Laws.IdiomStrings
import Derived.Lib.SlBytesConst
import Derived.Shelf.SlIter.Nil
import Derived.Shelf.SortM.Plain
import Derived.Shelf.SortM.SortNone
import Derived.Ground.GgzProg
import Derived.Ground.SlgmProg
import Derived.Test.YteeeggphkhimcaaGreatDoorProg
import Derived.Test.YteeeggphkhimcaaGreatDoorH7
import Derived.Lib.SliceRun
import Derived.Test.YteeeggphkhimcaaGreatDoorH2
import Derived.LaidEql
import Derived.Sort.Walk0
import Derived.ProofKit
import Derived.SliceStrings
import Derived.Deep.SlicePairs
import Derived.Test.YteeeggphkhimcaaGreatDoorRows
import Derived.Test.YteeeggphkhimcaaGreatDoorH5
import Derived.JoinedCond
import Derived.Deep.Slices
import Derived.Test.YteeeggphkhimcaaGreatDoorTie
import Derived.ChangeMaps5
import Derived.LaidLaws
import Derived.LaidHandle
import Derived.SizedLaws
import Derived.SevenTiedAt
import Derived.Carry
set_option linter.unusedVariables false
set_option linter.unusedSimpArgs false
set_option maxRecDepth 100000
namespace Go.Proofs.YteeeggphkhimcaaGreatDoor
open Go Go.Proofs Go.RowKit Go.Proofs.XRed Go.Proofs.XHeap Go.Proofs.XMaps Go.Proofs.XSlices Go.Proofs.XDisk Go.Proofs.XCalls Go.Proofs.XRange Go.Proofs.XKeys Tryz
section
variable {w w0:World} {D:Nat} {S S':AD} {O I:Nat → Prop} {L:Lay} {k:KV}
theorem c_read {c:Nat} (h:DRep w D S O I L) (ok:S.Ok c) (name:ByteArray) (hs:name.size ≤ 9223372036854775807) (a n:Int) (hn:-9223372036854775808 ≤ a ∧ a ≤ 9223372036854775807)
    (hk:∀ w' O' I' L' v,Nx w D O I w' (S.read name a n).2.2 O' I' L' → SBytes w' v (S.read name a n).2.1 → (∀ b,sblk v = some b → w.heap.size ≤ b ∧ ¬ O' b) → k (.tuple #[v,i64 (S.read name a n).1]) w') : pFn P 77 [ptr D,.string name,i64 a,i64 n] w k := by
  refine F77_in _ _ _ _ _ _ ?_
  unfold F77_0
  refine c_look h ok.room.1 name hs (s_ext rfl (s_ext rfl ?_))
  have fail : ∀ r,S.read name a n = (r,[],S) → k (.tuple #[.slice none 0 0,i64 r]) w := by
    intro r ec
    have := hk w O I L (.slice none 0 0) (by rw [ec]; exact Nx.refl h) (by rw [ec]; exact SBytes.nil _) (by rintro b hb; cases hb)
    rw [ec] at this; exact this
  by_cases hl : S.look name = 0
  · have hg : alGet S.shown name = some (S.of name) := by
      rcases look_vals S name with h | h | h | h
      · rw [h] at hl; cases hl
      · rw [h] at hl; cases hl
      · rw [h] at hl; cases hl
      · exact h.2
    have hr : reach S (S.of name) := .inl ⟨name,mem_of_alGet hg⟩
    rw [if_pos hl,hl]
    have hlen := (ok.thing _ hr).ok.len.1
    obtain ⟨sv,hv,cs,hbT,_,hsh,_⟩ := (h.things _ hr).ex
    obtain ⟨A,c',rfl,hc'⟩ := hsh.1.form
    have el : S.bytes name = (S.things (S.of name)).shown := rfl
    have beyond : (a < 0 ∨ n < 0 ∨ a > (S.bytes name).length ∨ n > (S.bytes name).length - a) → k (.tuple #[.slice none 0 0,i64 54]) w := fun hbad =>
      fail 54 (by unfold AD.read; rw [if_neg (by simp [hl]),if_pos hbad])
    refine s_nei_f rfl (pC_false ?_)
    by_cases a0 : a < 0
    · refine s_lt_t a0 ?_
      repeat (first | refine pG_skf ?_ | refine pG_un ?_)
      refine s_pick_t ?_
      repeat (first | refine pG_skf ?_ | refine pG_un ?_)
      refine s_pick_t ?_
      repeat (first | refine pG_skf ?_ | refine pG_un ?_)
      exact s_pick_t (pC_true (beyond (.inl a0)))
    refine s_lt_f a0 (pG_yes rfl (pG_yes rfl ?_))
    by_cases n0 : n < 0
    · refine s_lt_t n0 (s_pick_f ?_)
      repeat (first | refine pG_skf ?_ | refine pG_un ?_)
      refine s_pick_t ?_
      repeat (first | refine pG_skf ?_ | refine pG_un ?_)
      exact s_pick_t (pC_true (beyond (.inr (.inl n0))))
    refine s_lt_f n0 (s_pick_f ?_)
    refine pG_yes rfl (pG_yes rfl (pG_yes rfl (s_nil (pG_yes rfl (fa131_1 (pG_yes rfl (s_ldb (v := .slice A (S.things (S.of name)).shown.length c') (isAgg23 _) hbT rfl (pG_yes rfl (s_len usl23 (pG_yes rfl ?_))))))))))
    by_cases a1 : a > (S.things (S.of name)).shown.length
    · refine s_gt_t a1 (s_pick_f ?_)
      repeat (first | refine pG_skf ?_ | refine pG_un ?_)
      exact s_pick_t (pC_true (beyond (.inr (.inr (.inl a1)))))
    refine s_gt_f a1 (s_pick_f ?_)
    refine pG_yes rfl (pG_yes rfl (pG_yes rfl (s_nil (pG_yes rfl (fa131_1 (pG_yes rfl (s_ldb (v := .slice A (S.things (S.of name)).shown.length c') (isAgg23 _) hbT rfl (pG_yes rfl (s_len usl23 (pG_yes rfl (pG_yes rfl (s_sub_in (by omega) (pG_yes rfl ?_)))))))))))))
    by_cases n1 : n > (S.things (S.of name)).shown.length - a
    · exact s_gt_t n1 (s_pick_f (pC_true (beyond (.inr (.inr (.inr n1))))))
    refine s_gt_f n1 (s_pick_f (pC_false ?_))
    have hreads := ok.reads
    have hsm := ok.small
    refine s_nil (fa88_8 (s_ldb (v := L.readsv) (isAgg86 _) h.disk rfl ?_))
    refine px_ok (w' := w) (v := .agg #[.string name,i64 a,i64 n]) (by kernel_rfl) ?_
    refine px_ok (w' := w.alloc (.cells #[.string name,i64 a,i64 n] 209)) (v := .slice (some ⟨w.heap.size,0,none⟩) 1 1) (by kernel_rfl) ?_
    have f1 := Fr.alloc no w (.cells #[.string name,i64 a,i64 n] 209)
    have hlit := own_lit w 0 209 3 #[.string name,i64 a,i64 n] 1 (Nat.zero_le _) (by unfold maxLen; omega) rfl
    have z1 : (w.alloc (.cells #[.string name,i64 a,i64 n] 209)).heap.size = w.heap.size + 1 := by simp
    show px P _ (w.alloc (.cells #[.string name,i64 a,i64 n] 209)) _
    generalize w.alloc (.cells #[.string name,i64 a,i64 n] 209) = w1 at *
    refine ap86 (own_fr h.reads f1 fun _ _ h => h) (Src.of_own hlit) (by intro u hu; simp at hu; rcases hu with rfl | rfl | rfl <;> rfl) (by omega) (Nat.zero_le _) fun v' w2 h2 f2 hb2 => ?_
    have hRD : ∀ {b},sblk L.readsv = some b → b ≠ D := by
      rintro b hb rfl
      obtain ⟨c1,h1⟩ := own_obj h.reads hb
      exact absurd (two_types h1 h.disk) (by decide)
    have hd2 := f2.get (f1.get h.disk id) (fun hb => hRD hb.symm rfl)
    refine s_nil (fa88_8 (s_st (sizeOf86 _) (own_one h2).1 (own_one h2).2 hd2 (by show 10 < 11; decide) ?_))
    have hd3 := set_same hd2 10 v'
    have f3 : Fr (fun b => b = D) w2 (w2.setCell ⟨D,10,none⟩ v') := Fr.setCell w2 ⟨D,10,none⟩ v'
    have z3 : (w2.setCell ⟨D,10,none⟩ v').heap.size = w2.heap.size := by simp [World.setCell]
    show px P _ (w2.setCell ⟨D,10,none⟩ v') _
    generalize w2.setCell ⟨D,10,none⟩ v' = w3 at *
    have f13 : Fr (fun b => b = D ∨ sblk L.readsv = some b) w w3 := ((f1.or f2).or f3).mono (by
      rintro b ((hb | hb) | hb)
      · exact hb.elim
      · exact .inl (.inr hb.symm)
      · exact .inl (.inl hb))
    have hOwn : ∀ b,(b = D ∨ sblk L.readsv = some b) → Own L D b := by
      rintro b (hb | hb)
      · exact .inl hb
      · exact .inr (.inr (.inr (.inr hb)))
    have hTf : ∀ {T rb x},TRep w O I T rb x → TRep w3 O I T rb x := fun ht => ht.stay h f13 fun b hb => .inl (hOwn b hb)
    have hnew : ∀ b,sblk v' = some b → sblk L.readsv = some b ∨ w.heap.size < b := by
      intro b hb
      rcases hb2 with e | e
      · left; rw [← e]; exact hb
      · right; rw [e] at hb; injection hb with hb; omega
    have hv'D : ∀ b,sblk v' = some b → b ≠ D := by
      rintro b hb rfl
      obtain ⟨c1,h1⟩ := own_obj h2 hb
      exact absurd (two_types h1 hd2) (by decide)
    have hv'lt : ∀ b,sblk v' = some b → b < w3.heap.size := fun b hb => by have := (own_blk_lt h2 hb).2; omega
    have hz := f13.size
    have hR3 : DRep w3 D { S with reads := S.reads ++ [⟨name,a,n⟩] } (fun b => O b ∨ sblk v' = some b) I { L with readsv := v' } := {
      disk := hd3
      sh := h.sh.fr f13 (by
        rintro (e | e)
        · obtain ⟨es,c1,h1⟩ := SMap.obj h.sh; rw [e,h.disk] at h1; cases h1
        · obtain ⟨c1,h1⟩ := own_obj h.reads e
          obtain ⟨es,c2,h3⟩ := SMap.obj h.sh
          rw [h1] at h3; cases h3)
      shp := h.shp
      sf := h.sf.fr f13 (by
        rintro (e | e)
        · obtain ⟨es,c1,h1⟩ := SMap.obj h.sf; rw [e,h.disk] at h1; cases h1
        · obtain ⟨c1,h1⟩ := own_obj h.reads e
          obtain ⟨es,c2,h3⟩ := SMap.obj h.sf
          rw [h1] at h3; cases h3)
      sfp := h.sfp
      ne := h.ne
      row := own_fr h.row f13 (by
        rintro b hb (e | e)
        · obtain ⟨c1,h1⟩ := own_obj h.row hb
          rw [e] at h1; exact absurd (two_types h1 h.disk) (by decide)
        · obtain ⟨c1,h1⟩ := own_obj h.row hb
          obtain ⟨c2,h3⟩ := own_obj h.reads e
          exact absurd (two_types h1 h3) (by decide))
      reads := by
        have h5 := own_fr h2 f3 hv'D
        simpa [spanCells,List.flatMap_append] using h5
      things := fun t ht => (hTf (h.things t ht)).mono (O := O) (fun b => .inl) fun b => id
      inj := h.inj
      rows := h.rows
      oD := .inl h.oD
      osh := .inl h.osh
      osf := .inl h.osf
      orow := fun b hb => .inl (h.orow b hb)
      oreads := fun b hb => .inr hb
      apart := by
        rintro b (hb | hb) hi
        · exact h.apart b hb hi
        · rcases hnew b hb with h1 | h1
          · exact h.apart b (h.oreads b h1) hi
          · have := h.lt b (.inr hi); omega
      lt := by
        rintro b ((hb | hb) | hb)
        · have := h.lt b (.inl hb); omega
        · exact hv'lt b hb
        · have := h.lt b (.inr hb); omega }
    obtain ⟨sv3,hv3,cs3,hbT3,_,hsh3,_⟩ := (hTf (h.things _ hr)).ex
    obtain ⟨A3,c3,rfl,hc3⟩ := hsh3.1.form
    refine s_nil (fa131_1 (s_ldb (v := .slice A3 (S.things (S.of name)).shown.length c3) (isAgg23 _) hbT3 rfl (s_add_in (by omega) ?_)))
    refine s_sl_lh usl23 (sze23 _) (by omega) (by omega) (by omega) ?_
    have hcut := Src.cut (show Src w3 (.slice A3 (S.things (S.of name)).shown.length c3) 1 _ _ from hsh3.1) (l := a.toNat) (h' := (a + n).toNat) (by omega) (by omega)
    have e1 : ((u8s (S.things (S.of name)).shown).drop (a.toNat * 1)).take (((a + n).toNat - a.toNat) * 1) = u8s (((S.things (S.of name)).shown.drop a.toNat).take n.toNat) := by
      have : (a + n).toNat - a.toNat = n.toNat := by omega
      rw [this,Nat.mul_one,Nat.mul_one]
      simp [u8s,List.map_take,List.map_drop]
    have e2 : (a + n).toNat - a.toNat = (((S.things (S.of name)).shown.drop a.toNat).take n.toNat).length := by simp; omega
    rw [e1,e2] at hcut
    refine ap23 (v := .slice none 0 0) (xs := []) (n := 0) ⟨rfl,.inl ⟨rfl,rfl⟩⟩ hcut u8s_one (by rw [← e2]; omega) (Nat.zero_le _) fun v4 w4 h4 f4 hb4 => ?_
    have ec : S.read name a n = (0,((S.things (S.of name)).shown.drop a.toNat).take n.toNat,{ S with reads := S.reads ++ [⟨name,a,n⟩] }) := by
      unfold AD.read; rw [if_neg (by simp [hl]),if_neg (by rw [el]; omega)]; rfl
    have f4' : Fr no w3 w4 := f4.mono (by rintro b hb; cases hb)
    have hS4 := Src.of_own h4
    rw [Nat.zero_add] at hS4
    have := hk w4 _ _ _ v4 (by
      rw [ec]
      refine ⟨hR3.fr f4' fun b hb => hb.elim,(f13.or f4').mono ?_,fun b => .inl,fun b => id,?_,fun b => .inl⟩
      · rintro b (hb | hb)
        · exact .inl (h.own (hOwn b hb))
        · exact hb.elim
      · rintro b (hb | hb)
        · exact .inl hb
        · rcases hnew b hb with h1 | h1
          · exact .inl (h.oreads b h1)
          · exact .inr (by omega)) (by rw [ec]; exact hS4) (by
      intro b hb
      rcases hb4 with e | e
      · rw [e] at hb; cases hb
      · rw [e] at hb; injection hb with hb
        refine ⟨by omega,?_⟩
        rintro (ho | ho)
        · have := h.lt b (.inl ho); omega
        · have := hv'lt b ho; omega)
    rw [ec] at this; exact this
  · refine s_nei_t hl (pC_true (fail _ (by unfold AD.read; rw [if_pos hl])))
end
def nA : ByteArray := ByteArray.mk #[97]
def nB : ByteArray := ByteArray.mk #[98]
def K0 : AD := AD.new 20
def K1 : AD := (K0.create nA).2
def K2 : AD := (K1.append nA [120,121,122]).2
section
variable {w:World} {D:Nat} {S S':AD} {O I:Nat → Prop} {L:Lay} {k:KV}
theorem s_conv_str {v:Value} {bs:Bytes} (h:SBytes w v bs) (h0:bs ≠ []) (hk:k (.string ⟨bs.toArray⟩) w) : px P (convert 23 9 v) w k := by
 obtain ⟨A,c,rfl,hc,hl,hr⟩ := h
 have h1 : 0 < bs.length := List.length_pos_iff.2 h0
 obtain ⟨b,o,rfl,hcell⟩ := hr h1
 refine px_ok (run_convert_bytes_back w 23 9 5 ⟨b,o,none⟩ c bs (by kernel_rfl) (by kernel_rfl) (by kernel_rfl) ?_) hk
 intro j hj
 rw [add_at]
 exact hcell j _ (by simp [u8s,hj])
end
end Go.Proofs.YteeeggphkhimcaaGreatDoor

namespace Go.Proofs.YteeeggphkhimcaaGreatDoor
open Go Go.Proofs Go.RowKit Go.Maps Go.Sort Go.Shelf Tryz
def keys133_ren : Go.Shelf.Ren := ⟨fun | 7 => 133 | 10 => 174 | n => n,fun | 23 => 82 | 26 => 9 | 3 => 132 | 28 => 212 | 0 => 0 | 27 => 211 | 33 => 90 | 4 => 4 | n => n,fun | n => n⟩
theorem keys133 : Go.Proofs.SlLaysZ.n7 prog keys133_ren := {
 mixed := by kernel_rfl
 f7 := ⟨f133.name,by decide,func133.trans (congrArg some (by kernel_rfl))⟩
 f10 := ⟨f174.name,by decide,func174.trans (congrArg some (by kernel_rfl))⟩
 t0 := underlying0
 a0 := isAgg0
 z0 := sizeOf0
 v0 := zeroValue0
 t4 := underlying4
 a4 := isAgg4
 z4 := sizeOf4
 v4 := zeroValue4
 t23 := underlying82
 a23 := isAgg82
 z23 := sizeOf82
 v23 := zeroValue82
 t26 := underlying9
 a26 := isAgg9
 z26 := sizeOf9
 v26 := zeroValue9
 t27 := underlying211
 a27 := isAgg211
 z27 := sizeOf211
 v27 := zeroValue211
 t28 := underlying212
 a28 := isAgg212
 z28 := sizeOf212
 v28 := zeroValue212
 t33 := underlying90
 a33 := isAgg90
 z33 := sizeOf90
 v33 := zeroValue90 }
def sorted132_ren : Go.Shelf.Ren := ⟨fun | 6 => 132 | 8 => 172 | 9 => 173 | 11 => 191 | 13 => 193 | 12 => 192 | 23 => 214 | 24 => 215 | 14 => 205 | 15 => 206 | 16 => 207 | 17 => 208 | 18 => 209 | 19 => 210 | 20 => 211 | 21 => 212 | 22 => 213 | 25 => 234 | 26 => 235 | 27 => 236 | 28 => 237 | 29 => 238 | 30 => 239 | 31 => 245 | n => n,fun | 26 => 9 | 28 => 212 | 24 => 22 | 0 => 0 | 3 => 3 | 37 => 306 | 48 => 328 | 50 => 330 | 4 => 4 | 40 => 321 | 39 => 320 | 45 => 325 | 5 => 5 | 9 => 9 | 51 => 347 | 55 => 351 | 57 => 356 | 58 => 247 | 33 => 90 | n => n,fun | n => n⟩
theorem sorted132 : Go.Proofs.SlLaysZ.n6 prog sorted132_ren := {
 mixed := by kernel_rfl
 f6 := ⟨f132.name,by decide,func132.trans (congrArg some (by kernel_rfl))⟩
 f8 := ⟨f172.name,by decide,func172.trans (congrArg some (by kernel_rfl))⟩
 f11 := ⟨f191.name,by decide,func191.trans (congrArg some (by kernel_rfl))⟩
 t0 := underlying0
 a0 := isAgg0
 z0 := sizeOf0
 v0 := zeroValue0
 t24 := underlying22
 a24 := isAgg22
 z24 := sizeOf22
 v24 := zeroValue22
 t26 := underlying9
 a26 := isAgg9
 z26 := sizeOf9
 v26 := zeroValue9
 t28 := underlying212
 a28 := isAgg212
 z28 := sizeOf212
 v28 := zeroValue212
 i26 := by kernel_rfl }
def sort173_ren : Go.Shelf.Ren := ⟨fun | 6 => 173 | 8 => 193 | 9 => 192 | 19 => 214 | 20 => 215 | 21 => 205 | 22 => 206 | 23 => 207 | 24 => 208 | 25 => 209 | 26 => 210 | 27 => 211 | 28 => 212 | 29 => 213 | 36 => 234 | 31 => 235 | 32 => 236 | 37 => 237 | 38 => 238 | 39 => 239 | 41 => 245 | n => n,fun | 27 => 22 | 29 => 9 | 3 => 3 | 32 => 306 | 26 => 22 | 0 => 0 | 44 => 328 | 46 => 330 | 4 => 4 | 36 => 321 | 35 => 320 | 41 => 325 | 5 => 5 | 9 => 9 | 53 => 347 | 57 => 351 | 63 => 356 | 64 => 247 | n => n,fun | n => n⟩
theorem sort173 : Go.Proofs.SlLaysM.n6 prog sort173_ren := {
 mixed := by kernel_rfl
 f6 := ⟨f173.name,by decide,func173.trans (congrArg some (by kernel_rfl))⟩
 f8 := func193.trans (congrArg some (by kernel_rfl))
 f9 := ⟨f192.name,by decide,func192.trans (congrArg some (by kernel_rfl))⟩
 f19 := func214.trans (congrArg some (by kernel_rfl))
 f20 := func215.trans (congrArg some (by kernel_rfl))
 f21 := ⟨f205.name,by decide,func205.trans (congrArg some (by kernel_rfl))⟩
 f22 := ⟨f206.name,by decide,func206.trans (congrArg some (by kernel_rfl))⟩
 f23 := ⟨f207.name,by decide,func207.trans (congrArg some (by kernel_rfl))⟩
 f24 := ⟨f208.name,by decide,func208.trans (congrArg some (by kernel_rfl))⟩
 f25 := ⟨f209.name,by decide,func209.trans (congrArg some (by kernel_rfl))⟩
 f26 := ⟨f210.name,by decide,func210.trans (congrArg some (by kernel_rfl))⟩
 f27 := ⟨f211.name,by decide,func211.trans (congrArg some (by kernel_rfl))⟩
 f28 := ⟨f212.name,by decide,func212.trans (congrArg some (by kernel_rfl))⟩
 f29 := ⟨f213.name,by decide,func213.trans (congrArg some (by kernel_rfl))⟩
 f31 := func235.trans (congrArg some (by kernel_rfl))
 f32 := func236.trans (congrArg some (by kernel_rfl))
 f36 := ⟨f234.name,by decide,func234.trans (congrArg some (by kernel_rfl))⟩
 f37 := ⟨f237.name,by decide,func237.trans (congrArg some (by kernel_rfl))⟩
 f38 := ⟨f238.name,by decide,func238.trans (congrArg some (by kernel_rfl))⟩
 f39 := ⟨f239.name,by decide,func239.trans (congrArg some (by kernel_rfl))⟩
 f41 := ⟨f245.name,by decide,func245.trans (congrArg some (by kernel_rfl))⟩
 t0 := underlying0
 a0 := isAgg0
 z0 := sizeOf0
 v0 := zeroValue0
 t3 := underlying3
 a3 := isAgg3
 z3 := sizeOf3
 v3 := zeroValue3
 t4 := underlying4
 a4 := isAgg4
 z4 := sizeOf4
 v4 := zeroValue4
 t5 := underlying5
 a5 := isAgg5
 z5 := sizeOf5
 v5 := zeroValue5
 t9 := underlying9
 a9 := isAgg9
 z9 := sizeOf9
 v9 := zeroValue9
 t26 := underlying22
 a26 := isAgg22
 z26 := sizeOf22
 v26 := zeroValue22
 t27 := underlying22
 a27 := isAgg22
 z27 := sizeOf22
 v27 := zeroValue22
 t29 := underlying9
 a29 := isAgg9
 z29 := sizeOf9
 v29 := zeroValue9
 t32 := underlying306
 a32 := isAgg306
 z32 := sizeOf306
 v32 := zeroValue306
 t35 := underlying320
 a35 := isAgg320
 z35 := sizeOf320
 v35 := zeroValue320
 t36 := underlying321
 a36 := isAgg321
 z36 := sizeOf321
 v36 := zeroValue321
 t41 := underlying325
 a41 := isAgg325
 z41 := sizeOf325
 v41 := zeroValue325
 t44 := underlying328
 a44 := isAgg328
 z44 := sizeOf328
 v44 := zeroValue328
 t46 := underlying330
 a46 := isAgg330
 z46 := sizeOf330
 v46 := zeroValue330
 t53 := underlying347
 a53 := isAgg347
 z53 := sizeOf347
 v53 := zeroValue347
 t57 := underlying351
 a57 := isAgg351
 z57 := sizeOf351
 v57 := zeroValue351
 t63 := underlying356
 a63 := isAgg356
 z63 := sizeOf356
 v63 := zeroValue356
 t64 := underlying247
 a64 := isAgg247
 z64 := sizeOf247
 v64 := zeroValue247 }
theorem sorts132 (m:Nat) : AnyZ.SortsIn prog sorted132_ren Fence.wide m :=
  ⟨fun blk off cap ss W hH hblk hsz => callsIn_wide.2 (AnyM.slices_Sort_string sort173 blk off cap ss W hH hblk hsz),
   fun p cap W => callsIn_wide.2 (AnyM.slices_Sort_string_none sort173 p cap W)⟩
theorem maps_Keys_133 (mb:Option Nat) (W:World) : CallsIn Fence.wide 5 prog 133 #[.map mb] W fun e w' => e = .returned (.func (.func 174) #[] #[.pointer (some ⟨W.heap.size,0,none⟩)]) ∧ w' = W.alloc (.cells #[.map mb] 82) :=
 AnyZ.keys_in keys133 Fence.wide 5 trivial rfl mb W
set_option maxHeartbeats 1000000 in
theorem slices_Sorted_keys_132_133 {H:Type} (b nn:Nat) (D0:DataW H) (R:Value → Option (DataW H × List MemPlace)) (w:World) (hown:w.ownsMap prog 9 R b nn D0) (hmax:Maps.size D0 ≤ maxLen) (hbytes:Maps.size D0 * 16 ≤ 140737488355328) :
    CallsIn Fence.wide 5 prog 132 #[.func (.func 174) #[] #[.pointer (some ⟨w.heap.size,0,none⟩)]] (w.alloc (.cells #[.map (some b)] 82)) fun e w' => ∃ (v:Value) (ss:List (List UInt8)),e = .returned v ∧ ss.Perm (strKeys D0) ∧
      w'.ownsRow (w.alloc (.cells #[.map (some b)] 82)).heap.size 9 1 v ss.length ((ss.mergeSort (fun x y => decide (x ≤ y))).map encStr) ∧ (v = .slice none 0 0 ↔ ss = []) ∧ Below (w.alloc (.cells #[.map (some b)] 82)).heap.size (w.alloc (.cells #[.map (some b)] 82)) w' := by
  have hbl := hown.lt
  have hseq : SeqGives Fence.wide 2 prog 174 #[.pointer (some ⟨w.heap.size,0,none⟩)] encStr (fun ss => ss.Perm (strKeys D0)) (Maps.size D0) (w.alloc (.cells #[.map (some b)] 82)) :=
    AnyZ.keys_gives (ρ := keys133_ren) { keys133 with } Fence.wide _ trivial rfl (by omega) w.heap.size b nn D0 _ (by simp) (by simp) (by
      obtain ⟨es,clock,hb,Ft,hs,hD⟩ := hown
      exact ⟨es,clock,(Below.heap_alloc _ _ b hbl).trans hb,Ft,hs,hD⟩)
  exact AnyZ.sorted_in sorted132 Fence.wide 5 trivial trivial trivial trivial rfl (by omega) (sorts132 _) (enters_of func173 (by kernel_rfl) rfl) 174 #[.pointer (some ⟨w.heap.size,0,none⟩)] trivial (enters_of func174 (by kernel_rfl) rfl) _ _ hmax hbytes _ hseq
theorem sortsKeys : SortsKeys := ⟨fun m W => callsIn_wide.1 (maps_Keys_133 (some m) W),fun b nn D0 w h1 h2 h3 => callsIn_wide.1 (slices_Sorted_keys_132_133 b nn D0 XKeys.R0 w h1 h2 h3)⟩
end Go.Proofs.YteeeggphkhimcaaGreatDoor

namespace Go.Proofs.YteeeggphkhimcaaGreatDoor
open Go Go.Proofs Go.RowKit Go.Proofs.XRed Go.Proofs.XHeap Go.Proofs.XMaps Go.Proofs.XSlices Go.Proofs.XDisk Go.Proofs.XCalls Go.Proofs.XRange Go.Proofs.XKeys Tryz
structure One (W w:World) (D:Nat) (A:AD) (K:Nat → Prop) (O I:Nat → Prop) (L:Lay) : Prop where
 rep : DRep w D A O I L
 low : ∀ b,O b → W.heap.size ≤ b
 keep : ∀ b,K b → ¬ O b ∧ ¬ I b
 klt : ∀ b,K b → b < w.heap.size
 fr : Fr no W w
section
variable {W w w':World} {D Dt:Nat} {A B A' B':AD} {K K' O I O2 I2 O' I':Nat → Prop} {L L2 L':Lay}
end
section
variable {w:World} {D:Nat} {S S':AD} {O I:Nat → Prop} {L:Lay} {k:KV}
def AD.sizeOf (S:AD) (name:ByteArray) : Int := if S.look name = 0 then (S.bytes name).length else 0
theorem c_size {c:Nat} (h:DRep w D S O I L) (ok:S.Ok c) (name:ByteArray) (hs:name.size ≤ 9223372036854775807) (hk:k (.tuple #[i64 (AD.sizeOf S name),i64 (S.look name)]) w) : pFn P 72 [ptr D,.string name] w k := by
 refine F72_in _ _ _ _ ?_
 unfold F72_0
 refine c_look h ok.room.1 name hs (s_ext rfl (s_ext rfl ?_))
 unfold AD.sizeOf at hk
 by_cases hl : S.look name = 0
 ·have hg := (look0 hl).2
  have hr : reach S (S.of name) := .inl ⟨name,mem_of_alGet hg⟩
  rw [if_pos hl] at hk
  rw [if_pos hl]
  obtain ⟨sv,hv,cs,hbT,_,hsh,_⟩ := (h.things _ hr).ex
  obtain ⟨A,c',rfl,hc'⟩ := hsh.1.form
  refine s_nei_f hl (pC_false (s_nil (fa131_1 (s_ldb (v := .slice A (S.things (S.of name)).shown.length c') (isAgg23 _) hbT rfl (s_len usl23 ?_)))))
  rw [hl] at hk; exact hk
 ·rw [if_neg hl] at hk
  rw [if_neg hl]
  exact s_nei_t hl (pC_true hk)
end
section
variable {W w:World} {D:Nat} {S S':AD} {O I:Nat → Prop} {L:Lay} {k:KV}
end
section
variable {w w0:World} {D:Nat} {S S':AD} {O I:Nat → Prop} {L:Lay} {k:KV}
end
end Go.Proofs.YteeeggphkhimcaaGreatDoor

namespace Go.Proofs.XPtr
open Go Go.RowKit Go.Proofs.XRed Go.Proofs.XHeap Go.Proofs.XMaps Go.MapKept
section
variable {P:Program} {w:World} {m:Nat} {l:List (Nat × Nat)} {t kt et:TypeId}
end
end Go.Proofs.XPtr

namespace Go.Proofs.YteeeggphkhimcaaGreatDoor
open Go Go.Proofs Go.RowKit Go.Proofs.XRed Go.Proofs.XHeap Go.Proofs.XMaps Go.Proofs.XSlices Go.Proofs.XDisk Go.Proofs.XCalls Go.Proofs.XRange Go.Proofs.XKeys Go.Proofs.XPtr Tryz
section
variable {w w0:World} {D:Nat} {S S':AD} {O I:Nat → Prop} {L:Lay} {k:KV}
abbrev Twins := List (Nat × Nat × Value)
section
variable {ov M dk m1 m2:Nat} {d1 d2:Names} {rv rdv:Value} {rs:List Turn} {tl tl':Twins} {w':World}
end
end
end Go.Proofs.YteeeggphkhimcaaGreatDoor

namespace Go.Proofs.YteeeggphkhimcaaGreatDoor
open Go Go.Proofs Go.RowKit Go.Proofs.XRed Go.Proofs.XHeap Go.Proofs.XMaps Go.Proofs.XSlices Go.Proofs.XDisk Go.Proofs.XCalls Go.Proofs.XSep Tryz
def Dk (D:Nat) (S:AD) : Asrt where
 h w O I := ∃ L,DRep w D S O I L
 fr := fun ⟨L,h⟩ hf hm => ⟨L,h.fr hf hm⟩
 lt := fun ⟨L,h⟩ => h.lt
 ap := fun ⟨L,h⟩ => h.apart
theorem Nx.nxt {w w':World} {D:Nat} {S':AD} {O I O' I' J:Nat → Prop} {L':Lay} (h:Nx w D O I w' S' O' I' L') (hJ:∀ b,I b → J b) : Nxt w O J w' O' I' :=
 ⟨h.fr,h.on,fun b hb => (h.in_ b hb).imp (hJ b) id⟩
theorem Sep.disk {l:List Asrt} {w:World} (h:Sep l w) (i:Nat) {D:Nat} {S:AD} (hi:l[i]? = some (Dk D S)) :
    ∃ O I L,DRep w D S O I L ∧ ∀ w' S' O' I' L',Nx w D O I w' S' O' I' L' → Sep (l.set i (Dk D S')) w' := by
  obtain ⟨O,I,J,⟨L,h1⟩,h2,-,h3⟩ := h.at_ i hi
  exact ⟨O,I,L,h1,fun w' S' O' I' L' hx => h3 _ w' O' I' ⟨L',hx.rep⟩ (hx.nxt h2)⟩
structure RLay where
 has : Nat → Prop
 loc : Nat → Nat
 trow : Nat → Value
 nowv : Value
 befv : Value
 turnv : Value
 toldv : Value
section
variable {w:World} {D:Nat} {S S':AD} {O I:Nat → Prop} {L L':RLay} {k:KV}
end
section
variable {w w0:World} {D:Nat} {S S':AD} {O I:Nat → Prop} {L L':RLay} {k:KV}
end
section
variable {w w0:World} {D:Nat} {S S':AD} {O I:Nat → Prop} {L L':RLay} {k:KV}
end
section
variable {w w0:World} {D:Nat} {S S':AD} {O I:Nat → Prop} {L L':RLay} {k:KV}
end
section
variable {w w0:World} {D:Nat} {S S':AD} {O I:Nat → Prop} {L L':RLay} {k:KV}
end
section
variable {w w0:World} {D:Nat} {S S':AD} {O I:Nat → Prop} {L L':RLay} {k:KV}
end
section
variable {w w0:World} {D:Nat} {S S':AD} {O I:Nat → Prop} {L L':RLay} {k:KV}
end
section
variable {w w0:World} {D:Nat} {S S':AD} {O I:Nat → Prop} {L L':RLay} {k:KV}
end
section
variable {w w0:World} {D:Nat} {S S':AD} {O I:Nat → Prop} {L L':RLay} {k:KV}
theorem Src.fr0 {O:Nat → Prop} {w w':World} {x:Value} {size m:Nat} {cs:List Value} (h:Src w x size m cs) (hs:0 < size) (hf:Fr O w w') (hn:0 < m → ∀ b,sblk x = some b → ¬ O b) : Src w' x size m cs := by
 by_cases h0 : 0 < m
 ·exact h.fr hs hf (hn h0)
 ·obtain ⟨A,c,e,hc,hl,_⟩ := h
  exact ⟨A,c,e,hc,hl,fun h1 => absurd h1 h0⟩
theorem SBytes.fr0 {O:Nat → Prop} {w w':World} {x:Value} {bs:Bytes} (h:SBytes w x bs) (hf:Fr O w w') (hn:0 < bs.length → ∀ b,sblk x = some b → ¬ O b) : SBytes w' x bs := Src.fr0 h (by omega) hf hn
end
section
variable {w w0:World} {D:Nat} {S S':AD} {O I:Nat → Prop} {L L':RLay} {k:KV}
end
section
variable {w w0:World} {D:Nat} {S S':AD} {O I:Nat → Prop} {L L':RLay} {k:KV}
end
section
variable {w w0:World} {D:Nat} {S S':AD} {O I:Nat → Prop} {L L':RLay} {k:KV}
abbrev FilesL := List (FileA × Value)
def FilesL.plain (l:FilesL) : List FileA := l.map (·.1)
structure FilesS (w:World) (v:Value) (l:FilesL) : Prop where
 src : Src w v 2 l.length (l.flatMap fun p => [.string p.1.1,p.2])
 all : ∀ p ∈ l,SBytes w p.2 p.1.2
theorem FilesS.fr {w w':World} {v:Value} {l:FilesL} (h:FilesS w v l) (hf:Fr no w w') : FilesS w' v l := ⟨h.src.fr (by omega) hf fun _ _ h => h,fun p hp => (h.all p hp).fr hf fun _ _ h => h⟩
theorem FilesS.at_ {w:World} {v:Value} {l:FilesL} (h:FilesS w v l) {i:Nat} (hi:i < l.length) : ∃ b o c,v = .slice (some ⟨b,o,Option.none⟩) l.length c ∧ w.cell? ⟨b,o + i * 2,Option.none⟩ = some (.string l[i].1.1) ∧ w.cell? ⟨b,o + i * 2 + 1,Option.none⟩ = some l[i].2 := by
 obtain ⟨b,o,c,e,hc⟩ := h.src.place hi (by omega)
 have hat : ∀ j u,([Value.string l[i].1.1,l[i].2] : List Value)[j]? = some u → j < 2 → w.cell? ⟨b,o + i * 2 + j,Option.none⟩ = some u := by
  intro j u hj hlt
  refine hc j u hlt ?_
  have := flatAt (f := fun p : FileA × Value => [Value.string p.1.1,p.2]) (n := 2) (fun _ => rfl) (l := l) (i := i) (j := j) (a := l[i]) (by simp [hi]) hlt
  rw [this]; exact hj
 exact ⟨b,o,c,e,hat 0 _ rfl (by omega),hat 1 _ rfl (by omega)⟩
end
end Go.Proofs.YteeeggphkhimcaaGreatDoor

namespace Go.Proofs.XRow
open Go Go.ChangeShapes Go.WideShapes Go.ChangeAt Go.RowKit Go.Proofs.XRed Go.Proofs.XHeap Go.Proofs.XSlices
section
variable {H:Type} {enc:TypeId × Value → H} {P:Program}
theorem post_of_below {f:Func} {s:ChangeSpec} {apart fresh handsOn again:Bool} {W W':World} {args:Array Value} {v:Value} {ds gs:List (DataW H)} {before pa pv:List MemPlace}
    (hW:DataW.Whole enc P f.params.toList s.vars apart W args.toList ds gs before) (hb:Below W.heap.size W W')
    (hres:∀ (b:Nat) (sp:Nat → Bool) (hd:Bool),DataW.TrodAll enc P W' b sp hd f.resultTypes.toList (v.resultList f.resultTypes.size) (s.fn H (ds ++ gs)).results [])
    (hargs:∀ sp : Nat → Bool,(∀ p ∈ before,sp p.block = true) → DataW.TrodAll enc P W' 0 sp true f.params.toList args.toList (s.fn H (ds ++ gs)).args pa)
    (hvars:∀ sp : Nat → Bool,(∀ p ∈ before,sp p.block = true) → DataW.TrodVars enc P W' sp s.vars (s.fn H (ds ++ gs)).vars pv)
    (hps:before = pa ++ pv)
    (hok:∀ (j:Nat) (t:TypeId) (r:Value),f.resultTypes[j]? = some t → (v.resultList f.resultTypes.size)[j]? = some r → Value.okWide P W' .any 0 t r) :
    s.post enc P f apart fresh handsOn again W args v W' := by
  have hold : ∀ p ∈ before,(fun b => decide (b < W.heap.size)) p.block = true := fun p hp => by simpa using hW.lt p hp
  refine ⟨ds,gs,before,[],pa,pv,hW,hres _ _ _,hargs _ hold,hvars _ hold,hb.frame _,fun _ => ?_⟩
  have hlt := hW.lt
  obtain ⟨_,_,_,_,_,hz,hn⟩ := hW
  refine ⟨hok,_,_,([] ++ pa) ++ pv,⟨[] ++ pa,pv,trodAll_append (hargs _ (fun _ _ => rfl)) (hres _ _ _),hvars _ (fun _ _ => rfl),rfl,?_,?_⟩,?_⟩
  · intro b off hp
    have hp' : MemPlace.cell b off ∈ before := by rw [hps]; simpa using hp
    have h1 := hz b off hp'
    have h2 : b < W.heap.size := hlt _ hp'
    unfold World.frozen? at *
    rw [hb.block _ h2]
    exact h1
  · intro ha
    have := hn ha
    rw [hps] at this
    simpa using this
  · intro p hp _
    rw [hps]
    simpa using hp
theorem stays {t:TypeId} (hl:laidOutB P = true) (hr:P.readableRec t = true) (hrow:t < P.types.size) {W W':World} {v:Value} {d:DataW H} {ps:List MemPlace} {sp:Nat → Bool}
    (h:DataW.Trod enc P W 0 (fun _ => true) true t v d ps) (hb:Below W.heap.size W W') (hlt:∀ x ∈ ps,x.block < W.heap.size) (hs:∀ x ∈ ps,sp x.block = true) : DataW.Trod enc P W' 0 sp true t v d ps :=
  WideElems.Trod_stays hl hr hrow h (fun x hx => hb.same (hlt x hx)) hs
def Fine (W:World) (v:Value) (w':World) : Prop := v = .bool true ∧ Below W.heap.size W w'
theorem fine {O:Nat → Prop} {W:World} (hO:∀ b,O b → W.heap.size ≤ b) : ∀ w',Fr O W w' → Fine W (.bool true) w' := fun w' hf => ⟨rfl,hf.to_below hO (Nat.le_refl _)⟩
theorem calls_true {f : FuncId} {fn : Func} (hf : P.funcs[f]? = some fn) (hname : (fn.name == "runtime.NumGoroutine") = false) (hbody : fn.body.isNone = false) {args : List Value} {W : World} (h : pFn P f args W (Fine W)) :
    Calls P f args.toArray W fun e w' => e = .returned (.bool true) ∧ Below W.heap.size W w' := by
  refine (calls_of_pFn hf hname hbody h).mono ?_
  rintro e w' ⟨v,rfl,rfl,hb⟩
  exact ⟨rfl,hb⟩
end
end Go.Proofs.XRow

namespace Go.Proofs.YteeeggphkhimcaaGreatDoor
open Go Go.ChangeShapes Go.WideShapes Go.ChangeAt Go.RowKit Go.Proofs Go.Proofs.XRed Go.Proofs.XHeap Go.Proofs.XSlices Go.Proofs.XRow Go.Proofs.XDisk Tryz
section
variable {H:Type} {enc:TypeId × Value → H}
variable {W:World}
def Len (d:DataW H) (n:Nat) : Prop := n = 0 ∨ ∃ e s,d = .slice e s ∧ e.length = n
theorem open_bytes {fuel:Nat} {cs:List Value} {x:DataW H × List MemPlace} (h:DataW.trod enc prog W 0 (fun _ => true) true fuel 23 cs = some x) : ∃ (dv:Value) (d:Bytes),cs = [dv] ∧ SBytes W dv d ∧ Len x.1 d.length := by
 rcases open_ints underlying23 underlying5 (by kernel_rfl) h with ⟨rfl,rfl⟩ | ⟨a,len,cap,zs,rfl,_,hl,hm,hz,rfl,hcell,hwf⟩
 ·exact ⟨_,[],rfl,SBytes.nil _,.inl rfl⟩
 ·simp only [if_true] at hz
  have hbyte : ∀ z ∈ zs,((UInt8.ofNat z.toNat).toNat : Int) = z := by
   intro z hz
   have hb := hwf z hz
   simp only [Lit.wf,IntKind.min,IntKind.max,IntKind.signed,IntKind.bits] at hb
   simp at hb
   have : (UInt8.ofNat z.toNat).toNat = z.toNat := by simp; omega
   rw [this]; omega
  have hlen : ((zs.take len).map fun z => UInt8.ofNat z.toNat).length = len := by simp; omega
  refine ⟨_,(zs.take len).map fun z => UInt8.ofNat z.toNat,rfl,?_,?_⟩
  ·unfold SBytes
   rw [hlen]
   obtain ⟨b,off,spot⟩ := a
   refine ⟨some ⟨b,off,spot⟩,cap,rfl,hl,by simp [u8s]; omega,fun h0 => ?_⟩
   have hspot : spot = none := by simpa [Addr.add] using World.cell?_spot (hcell 0 (by omega))
   subst hspot
   refine ⟨b,off,rfl,fun j u hj => ?_⟩
   unfold u8s at hj
   rw [List.map_map,List.getElem?_map] at hj
   obtain ⟨z,hz',rfl⟩ := Option.map_eq_some_iff.1 hj
   have hjl : j < len := by
    have := (List.getElem?_eq_some_iff.1 hz').1
    simp at this; omega
   rw [List.getElem?_take_of_lt hjl] at hz'
   have := hcell j (by omega)
   rw [add_at,List.getD,hz'] at this
   rw [this]
   show some (Value.int .u8 z) = some (Value.int .u8 ((UInt8.ofNat z.toNat).toNat : Int))
   rw [hbyte z (List.mem_of_getElem? hz')]
  ·rw [hlen]
   exact .inr ⟨lits .u8 (zs.take len),lits .u8 (zs.drop len),rfl,by simp [lits]; omega⟩
end
theorem own1 : ownKnob prog.godebug = none := by kernel_rfl
theorem laid1 : laidOutB prog = true := by kernel_rfl
theorem et1 : P.globalNamed "errors.errorType" = some 0 := by kernel_rfl
theorem rt1 : (P.cutTypes.find? (·.1 == "internal/reflectlite.rtype")).map (·.2) = some 273 := by kernel_rfl
theorem oneRow1 : ((List.range P.types.size).filter fun t => P.rowNamed t [101,114,114,111,114]) = [31] := by kernel_rfl
theorem th1 : typeHandle P 31 = .pointer (some ⟨4,31,none⟩) := by kernel_rfl
theorem errT_of_handles {W : World} {l : List (String × DataW Unit)} (hm : ("errors.errorType", Rows.laid_errors_errorType) ∈ l) (h : handlesMet P l W) : ErrT W := by
 obtain ⟨name,u,ty,e1,e2,e3,e4,e5⟩ := h _ hm
 have en : name = [101,114,114,111,114] := (Option.some.inj e1).symm
 subst en
 obtain rfl := Option.some.inj (rt1.symm.trans e2)
 have hm : ty ∈ (List.range P.types.size).filter fun t => P.rowNamed t [101,114,114,111,114] := List.mem_filter.2 ⟨List.mem_range.2 e3,e4⟩
 rw [oneRow1] at hm
 obtain rfl := List.mem_singleton.1 hm
 rw [th1] at e5
 exact World.var?_cell et1 e5 0
def laidE : List (String × DataW Unit) := [("errors.errorType", Rows.laid_errors_errorType)]
theorem errT_of_laid {W:World} (h:laidMetH P laidE W) : ErrT W := by
 have h' : laidMet P [] W ∧ handlesMet P laidE W := h
 exact errT_of_handles (List.mem_singleton.2 rfl) h'.2
noncomputable def laidWorld (os:Os) : World :=
  let w0 := World.holding P os ⟨#[],#[],[]⟩
  { w0 with heap := w0.heap.modify 0 fun
      | .cells _ t frozen => .cells #[.iface 273 (.agg #[.pointer (some ⟨4,31,none⟩)])] t frozen
      | o => o }
theorem laidWorld_met (os:Os) (args:Array Value) : laidMetH P laidE ((laidWorld os).forCall (fun _ _ => 0) ⟨#[],args,[]⟩).memory :=
 laidMetH_of_parts (laidMet_nil _ _) (by kernel_rfl)
section
variable {H:Type} {enc:TypeId × Value → H} {W:World}
theorem open_bytesV {v:Value} {d:DataW H} {ps:List MemPlace} (hv:Value.okWide P W .any 0 23 v) (h:DataW.Trod enc P W 0 (fun _ => true) true 23 v d ps) : ∃ dd : Bytes,SBytes W v dd ∧ Len d dd.length := by
 obtain ⟨a0,len,cap,rfl⟩ := okWide_slice underlying23 hv
 obtain ⟨fuel,hf⟩ := h
 obtain ⟨dv,dd,e,s,l⟩ := open_bytes hf
 simp only [Value.cells,List.cons.injEq,and_true] at e
 subst e
 exact ⟨dd,s,l⟩
end
end Go.Proofs.YteeeggphkhimcaaGreatDoor

namespace Go.Proofs.YteeeggphkhimcaaGreatDoor
open Go Go.ChangeShapes Go.WideShapes Go.ChangeAt Go.RowKit Go.Proofs Go.Proofs.XRed Go.Proofs.XHeap Go.Proofs.XSlices Go.Proofs.XRow Tryz
open Go.Proofs.XDisk
section
variable {H:Type} {enc:TypeId × Value → H} {W:World}
theorem open_strsV {fuel:Nat} {cs:List Value} {x:DataW H × List MemPlace} (h:DataW.trod enc prog W 0 (fun _ => true) true fuel 22 cs = some x) : ∃ (dv:Value) (d:List ByteArray),cs = [dv] ∧ Src W dv 1 d.length (d.map .string) ∧ (∀ n ∈ d,n.size ≤ maxLen) ∧ Len x.1 d.length := by
 rcases open_strings underlying22 underlying9 (by kernel_rfl) h with ⟨rfl,rfl⟩ | ⟨a,len,cap,zs,rfl,_,hl,hm,hz,rfl,hcell,hwf⟩
 ·exact ⟨_,[],rfl,Src.nil _ _,fun _ h => (by cases h),.inl rfl⟩
 ·simp only [if_true] at hz
  have hlen : (zs.take len).length = len := by simp; omega
  refine ⟨_,zs.take len,rfl,?_,fun n hn => hwf n (List.mem_of_mem_take hn),?_⟩
  ·rw [hlen]
   obtain ⟨b,off,spot⟩ := a
   refine ⟨some ⟨b,off,spot⟩,cap,rfl,hl,by simp; omega,fun h0 => ?_⟩
   have hspot : spot = none := by simpa [Addr.add] using World.cell?_spot (hcell 0 (by omega))
   subst hspot
   refine ⟨b,off,rfl,fun j u hj => ?_⟩
   rw [List.getElem?_map] at hj
   obtain ⟨z,hz',rfl⟩ := Option.map_eq_some_iff.1 hj
   have hjl : j < len := by
    have := (List.getElem?_eq_some_iff.1 hz').1
    simp at this; omega
   rw [List.getElem?_take_of_lt hjl] at hz'
   have := hcell j (by omega)
   rw [add_at,List.getD,hz'] at this
   exact this
  ·rw [hlen]
   exact .inr ⟨strs (zs.take len),strs (zs.drop len),rfl,by simp [strs]; omega⟩
theorem open_namesV {v:Value} {d:DataW H} {ps:List MemPlace} (hv:Value.okWide P W .any 0 22 v) (h:DataW.Trod enc P W 0 (fun _ => true) true 22 v d ps) : ∃ dd : List ByteArray,Src W v 1 dd.length (dd.map .string) ∧ (∀ n ∈ dd,n.size ≤ maxLen) ∧ Len d dd.length := by
 obtain ⟨a0,len,cap,rfl⟩ := okWide_slice underlying22 hv
 obtain ⟨fuel,hf⟩ := h
 obtain ⟨dv,dd,e,s,g,l⟩ := open_strsV hf
 simp only [Value.cells,List.cons.injEq,and_true] at e
 subst e
 exact ⟨dd,s,g,l⟩
end
end Go.Proofs.YteeeggphkhimcaaGreatDoor

namespace Go.Proofs.XDisk
open Go.Proofs.XMaps
def plusB : ByteArray := ByteArray.mk #[43]
def plusOf (s:ByteArray) : ByteArray := plusB ++ s
theorem plusOf_list (s:ByteArray) : (plusOf s).data.toList = 43 :: s.data.toList := by
 unfold plusOf plusB
 rw [ByteArray.data_append,Array.toList_append]; rfl
theorem plusOf_size (s:ByteArray) : (plusOf s).size = s.size + 1 := by
 unfold plusOf plusB
 rw [ByteArray.size_append]; show 1 + _ = _; omega
def lays (s:ByteArray) : Bool := s.data.toList.all okByte && decide (1 ≤ s.size) && decide (s.size ≤ 111) && decide (s.data.toList.head? ≠ some 43)
theorem lays_name {s:ByteArray} (h:lays s = true) : isName s = true ∧ isName (plusOf s) = true ∧ plusOf s ≠ s := by
 unfold lays at h
 simp only [Bool.and_eq_true,decide_eq_true_eq] at h
 obtain ⟨⟨⟨h1,h2⟩,h3⟩,h4⟩ := h
 refine ⟨?_,?_,fun e => ?_⟩
 ·unfold isName; simp [h1,h2]; omega
 ·unfold isName; rw [plusOf_list,plusOf_size]; simp only [List.all_cons,h1,Bool.and_true,Bool.and_eq_true,decide_eq_true_eq]
  exact ⟨⟨rfl,by omega⟩,by omega⟩
 ·have := congrArg ByteArray.size e
  rw [plusOf_size] at this; omega
def AD.undo (S:AD) (plus:ByteArray) (begun removed:Bool) (e:Int) : Int × AD :=
 if e ≠ 55 ∧ e ≠ 56 then (e,S) else
 if begun then (if (S.remove plus).1 ≠ 0 then S.remove plus else if (S.remove plus).2.syncNames.1 ≠ 0 then (S.remove plus).2.syncNames else (e,(S.remove plus).2.syncNames.2))
 else if removed then (if S.syncNames.1 ≠ 0 then S.syncNames else (e,S.syncNames.2))
 else (e,S)
def andE (r:Int × AD) (u:AD → Int → Int × AD) (n:AD → Int × AD) : Int × AD := if r.1 ≠ 0 then u r.2 r.1 else n r.2
def AD.has (S:AD) (name:ByteArray) : Bool := decide (S.look name = 0)
def AD.putF (S:AD) (name:ByteArray) (data:Bytes) : Int × AD :=
 if !lays name then (51,S) else if S.off then (50,S) else
 andE (if S.has (plusOf name) then S.remove (plusOf name) else (0,S)) (fun T e => T.undo (plusOf name) false false e) fun S1 =>
 andE (S1.create (plusOf name)) (fun T e => T.undo (plusOf name) false (S.has (plusOf name)) e) fun S2 =>
 andE (S2.append (plusOf name) data) (fun T e => T.undo (plusOf name) true (S.has (plusOf name)) e) fun S3 =>
 andE (S3.sync (plusOf name)) (fun T e => T.undo (plusOf name) true (S.has (plusOf name)) e) fun S4 =>
 andE (S4.rename (plusOf name) name) (fun T e => T.undo (plusOf name) true (S.has (plusOf name)) e) fun S5 =>
 andE S5.syncNames (fun T e => T.undo (plusOf name) true (S.has (plusOf name)) e) fun S6 => (0,S6)
def AD.getF (S:AD) (name:ByteArray) : Int × Bytes × AD :=
 if !isName name then (51,[],S) else if S.look name ≠ 0 then (S.look name,[],S) else S.read name 0 (S.bytes name).length
theorem look_ok {S:AD} {n:ByteArray} (ho:S.off = false) (hn:isName n = true) : S.look n = match alGet S.shown n with | none => 53 | some _ => 0 := by
 unfold AD.look; rw [ho,hn]; rfl
theorem undo50 (T:AD) (plus:ByteArray) (b r:Bool) : T.undo plus b r 50 = (50,T) := by unfold AD.undo; rw [if_pos (by decide)]
theorem AD.Ok.up {S:AD} {c c':Nat} (h:S.Ok c) (hc:c ≤ c') (hs:c' ≤ 1099511627776) : S.Ok c' := h.mono hc hs
theorem ok_andE {r:Int × AD} {u:AD → Int → Int × AD} {n:AD → Int × AD} {c:Nat} (h:r.2.Ok c) {c':Nat} (hu:∀ e,(u r.2 e).2.Ok c') (hn:(n r.2).2.Ok c') : (andE r u n).2.Ok c' := by
 unfold andE; split
 ·exact hu _
 ·exact hn
theorem ok_undo {S:AD} {c:Nat} (ok:S.Ok c) (hc:c + 2 ≤ 1099511627776) (plus:ByteArray) (b r:Bool) (e:Int) : (S.undo plus b r e).2.Ok (c + 2) := by
 have h1 := ok.remove (by omega) plus
 have h2 := h1.syncNames (by omega)
 have h3 := ok.syncNames (by omega)
 unfold AD.undo
 split
 ·exact ok.up (by omega) hc
 ·split
  ·split
   ·exact h1.up (by omega) hc
   ·split
    ·exact h2
    ·exact h2
  ·split
   ·split
    ·exact h3.up (by omega) hc
    ·exact h3.up (by omega) hc
   ·exact ok.up (by omega) hc
theorem ok_putF {S:AD} {c:Nat} (ok:S.Ok c) (hc:c + 8 ≤ 1099511627776) (name:ByteArray) (d:Bytes) : (S.putF name d).2.Ok (c + 8) := by
 unfold AD.putF
 split
 ·exact ok.up (by omega) hc
 split
 ·exact ok.up (by omega) hc
 have h1 : (if S.has (plusOf name) = true then S.remove (plusOf name) else (0,S)).2.Ok (c + 1) := by
  split
  ·exact ok.remove (by omega) _
  ·exact ok.up (by omega) (by omega)
 refine ok_andE h1 (fun e => (ok_undo h1 (by omega) _ _ _ e).up (by omega) hc) ?_
 generalize (if S.has (plusOf name) = true then S.remove (plusOf name) else (0,S)).2 = S1 at *
 have h2 := h1.create (by omega) (plusOf name)
 refine ok_andE h2 (fun e => (ok_undo h2 (by omega) _ _ _ e).up (by omega) hc) ?_
 have h3 := h2.append (by omega) (plusOf name) d
 refine ok_andE h3 (fun e => (ok_undo h3 (by omega) _ _ _ e).up (by omega) hc) ?_
 have h4 := h3.sync (by omega) (plusOf name)
 refine ok_andE h4 (fun e => (ok_undo h4 (by omega) _ _ _ e).up (by omega) hc) ?_
 have h5 := h4.rename (by omega) (plusOf name) name
 refine ok_andE h5 (fun e => (ok_undo h5 (by omega) _ _ _ e).up (by omega) hc) ?_
 have h6 := h5.syncNames (by omega)
 refine ok_andE h6 (fun e => (ok_undo h6 (by omega) _ _ _ e).up (by omega) hc) ?_
 exact h6.up (by omega) hc
theorem ok_getF {S:AD} {c:Nat} (ok:S.Ok c) (hc:c + 1 ≤ 1099511627776) (name:ByteArray) : (S.getF name).2.2.Ok (c + 1) := by
 unfold AD.getF
 split
 ·exact ok.up (by omega) hc
 split
 ·exact ok.up (by omega) hc
 ·exact ok.read (by omega) _ _ _
section
variable {β:Type}
theorem alGet_cons (s:ByteArray) (v:β) (l:List (ByteArray × β)) (n:ByteArray) : alGet ((s,v) :: l) n = if s = n then some v else alGet l n := by
 unfold alGet
 by_cases h : s = n
 ·rw [if_pos h,List.find?_cons_of_pos (by simp [h])]; rfl
 ·rw [if_neg h,List.find?_cons_of_neg (by simp [h])]
theorem alGet_del (l:List (ByteArray × β)) (s n:ByteArray) : alGet (alDel l s) n = if s = n then none else alGet l n := by
 induction l with
 | nil => unfold alDel alGet; simp
 | cons p r ih =>
  obtain ⟨a,b⟩ := p
  by_cases h : a = s
  ·have e : alDel ((a,b) :: r) s = alDel r s := by unfold alDel; rw [List.filter_cons_of_neg (by simp [h])]
   rw [e,ih,alGet_cons]
   by_cases h2 : s = n
   ·rw [if_pos h2,if_pos h2]
   ·rw [if_neg h2,if_neg h2,if_neg (by rw [h]; exact h2)]
  ·have e : alDel ((a,b) :: r) s = (a,b) :: alDel r s := by unfold alDel; rw [List.filter_cons_of_pos (by simp [h])]
   rw [e,alGet_cons,ih,alGet_cons]
   by_cases h2 : s = n
   ·rw [if_pos h2,if_pos h2,if_neg (by rw [← h2]; exact h)]
   ·rw [if_neg h2,if_neg h2]
end
theorem alGet_setN' {l:Names} (hn:(alKeys l).Nodup) (s:ByteArray) (t:Nat) (n:ByteArray) : alGet (setN l s t) n = if s = n then some t else alGet l n := by
 rw [alGet_perm (setN_perm l s t) (setN_nodup hn s t),alGet_cons,alGet_del]
 by_cases h : s = n
 ·rw [if_pos h,if_pos h]
 ·rw [if_neg h,if_neg h,if_neg h]
abbrev Helds := List (ByteArray × Nat)
def madeH (hl:Helds) (k:Nat) (x:StepA) : Helds × Nat :=
 if x.kind = 1 then (hl ++ [(x.name,0)],k + 1)
 else if x.kind = 2 ∨ x.kind = 3 then (match alGet hl x.name with | some u => alSet hl x.name (u + x.data.length) | none => hl,k)
 else if x.kind = 4 then (match alGet hl x.name with | some u => alSet hl x.name (u + 1) | none => hl,k)
 else if x.kind = 5 then (if x.name = x.to_ then (hl,k) else match alGet hl x.name with | some u => (alDel (alDel hl x.name) x.to_ ++ [(x.to_,u)],k + 1) | none => (hl,k))
 else if x.kind = 6 then (alDel hl x.name,k + 1)
 else if x.kind = 7 then (match alGet hl x.name with | some u => alSet hl x.name 0 | none => hl,k)
 else if x.kind = 8 then (hl,0)
 else (hl,k)
structure Counts (S:AD) (hl:Helds) (k:Nat) : Prop where
 nd : (alKeys hl).Nodup
 get : ∀ n,alGet hl n = (alGet S.shown n).map fun t => unitsOf (S.things t).row
 turns : k = S.row.length
section
variable {S T:AD} {hl:Helds} {k c:Nat}
def nextH (S T:AD) (r:Int) (x:StepA) (hl:Helds) (k:Nat) : Helds × Nat :=
 if (r = 50 ∧ S.off = false ∧ T.off = true ∧ x.kind ≠ 7 ∧ x.kind ≠ 8 ∧ (x.kind ≠ 1 ∨ T.shown.length > S.shown.length)) ∨ (r = 0 ∧ 1 ≤ x.kind ∧ x.kind ≤ 8) then madeH hl k x else (hl,k)
def loose (S T:AD) (r:Int) (x:StepA) : Prop := r = 50 ∧ S.off = false ∧ T.off = true ∧ (x.kind = 2 ∨ x.kind = 3) ∧ x.data.length > 0 ∧ T.files = S.files
def Next (S T:AD) (r:Int) (x:StepA) (hl:Helds) (k:Nat) : Prop := ¬ loose S T r x → Counts T (nextH S T r x hl k).1 (nextH S T r x hl k).2
end
end Go.Proofs.XDisk
