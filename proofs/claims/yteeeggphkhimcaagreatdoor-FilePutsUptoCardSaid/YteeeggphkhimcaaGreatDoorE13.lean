/- Put together by a program (wip/tools/shake.py): Read,Known,Shelf,Two,Do,List,XPtr,Twin,SepD,RRep,ROps,ROps2,ROps3,ROps4,ROps5,ROps6,ROps7,ROps8,ROps9,ROps10,RLoad,XRow,Args6,Card6. -/
import Derived.Test.YteeeggphkhimcaaGreatDoorE11
import Derived.Test.YteeeggphkhimcaaGreatDoorE12
import Derived.Laws.IdiomStrings
import Derived.Lib.SlBytesConst
import Derived.Shelf.SlIter.Nil
import Derived.Shelf.SortM.Plain
import Derived.Shelf.SortM.SortNone
import Derived.Ground.GgzProg
import Derived.Ground.SlgmProg
import Derived.Test.YteeeggphkhimcaaGreatDoorProg
import Derived.Test.YteeeggphkhimcaaGreatDoorE10
import Derived.Test.YteeeggphkhimcaaGreatDoorE7
import Derived.Lib.SliceRun
import Derived.Test.YteeeggphkhimcaaGreatDoorE2
import Derived.LaidEql
import Derived.Test.YteeeggphkhimcaaGreatDoorE8
import Derived.Sort.Walk0
import Derived.ProofKit
import Derived.SliceStrings
import Derived.Deep.SlicePairs
import Derived.Test.YteeeggphkhimcaaGreatDoorRows
import Derived.Test.YteeeggphkhimcaaGreatDoorE5
import Derived.JoinedCond
import Derived.Deep.Slices
import Derived.Test.YteeeggphkhimcaaGreatDoorTie
import Derived.ChangeMaps5
import Derived.LaidLaws
import Derived.LaidHandle
import Derived.SizedLaws
import Derived.SevenTiedAt
import Derived.Carry
set_option linter.unusedVariables false
set_option linter.unusedSimpArgs false
set_option maxRecDepth 100000
namespace Go.Proofs.YteeeggphkhimcaaGreatDoor
open Go Go.Proofs Go.RowKit Go.Proofs.XRed Go.Proofs.XHeap Go.Proofs.XMaps Go.Proofs.XSlices Go.Proofs.XDisk Go.Proofs.XCalls Go.Proofs.XRange Go.Proofs.XKeys Tryz
section
variable {w w0:World} {D:Nat} {S S':AD} {O I:Nat → Prop} {L:Lay} {k:KV}
theorem c_read {c:Nat} (h:DRep w D S O I L) (ok:S.Ok c) (name:ByteArray) (hs:name.size ≤ 9223372036854775807) (a n:Int) (hn:-9223372036854775808 ≤ a ∧ a ≤ 9223372036854775807)
    (hk:∀ w' O' I' L' v,Nx w D O I w' (S.read name a n).2.2 O' I' L' → SBytes w' v (S.read name a n).2.1 → (∀ b,sblk v = some b → w.heap.size ≤ b ∧ ¬ O' b) → k (.tuple #[v,i64 (S.read name a n).1]) w') : pFn P 77 [ptr D,.string name,i64 a,i64 n] w k := by
  refine F77_in _ _ _ _ _ _ ?_
  unfold F77_0
  refine c_look h ok.room.1 name hs (s_ext rfl (s_ext rfl ?_))
  have fail : ∀ r,S.read name a n = (r,[],S) → k (.tuple #[.slice none 0 0,i64 r]) w := by
    intro r ec
    have := hk w O I L (.slice none 0 0) (by rw [ec]; exact Nx.refl h) (by rw [ec]; exact SBytes.nil _) (by rintro b hb; cases hb)
    rw [ec] at this; exact this
  by_cases hl : S.look name = 0
  · have hg : alGet S.shown name = some (S.of name) := by
      rcases look_vals S name with h | h | h | h
      · rw [h] at hl; cases hl
      · rw [h] at hl; cases hl
      · rw [h] at hl; cases hl
      · exact h.2
    have hr : reach S (S.of name) := .inl ⟨name,mem_of_alGet hg⟩
    rw [if_pos hl,hl]
    have hlen := (ok.thing _ hr).ok.len.1
    obtain ⟨sv,hv,cs,hbT,_,hsh,_⟩ := (h.things _ hr).ex
    obtain ⟨A,c',rfl,hc'⟩ := hsh.1.form
    have el : S.bytes name = (S.things (S.of name)).shown := rfl
    have beyond : (a < 0 ∨ n < 0 ∨ a > (S.bytes name).length ∨ n > (S.bytes name).length - a) → k (.tuple #[.slice none 0 0,i64 54]) w := fun hbad =>
      fail 54 (by unfold AD.read; rw [if_neg (by simp [hl]),if_pos hbad])
    refine s_nei_f rfl (pC_false ?_)
    by_cases a0 : a < 0
    · refine s_lt_t a0 ?_
      repeat (first | refine pG_skf ?_ | refine pG_un ?_)
      refine s_pick_t ?_
      repeat (first | refine pG_skf ?_ | refine pG_un ?_)
      refine s_pick_t ?_
      repeat (first | refine pG_skf ?_ | refine pG_un ?_)
      exact s_pick_t (pC_true (beyond (.inl a0)))
    refine s_lt_f a0 (pG_yes rfl (pG_yes rfl ?_))
    by_cases n0 : n < 0
    · refine s_lt_t n0 (s_pick_f ?_)
      repeat (first | refine pG_skf ?_ | refine pG_un ?_)
      refine s_pick_t ?_
      repeat (first | refine pG_skf ?_ | refine pG_un ?_)
      exact s_pick_t (pC_true (beyond (.inr (.inl n0))))
    refine s_lt_f n0 (s_pick_f ?_)
    refine pG_yes rfl (pG_yes rfl (pG_yes rfl (s_nil (pG_yes rfl (fa131_1 (pG_yes rfl (s_ldb (v := .slice A (S.things (S.of name)).shown.length c') (isAgg23 _) hbT rfl (pG_yes rfl (s_len usl23 (pG_yes rfl ?_))))))))))
    by_cases a1 : a > (S.things (S.of name)).shown.length
    · refine s_gt_t a1 (s_pick_f ?_)
      repeat (first | refine pG_skf ?_ | refine pG_un ?_)
      exact s_pick_t (pC_true (beyond (.inr (.inr (.inl a1)))))
    refine s_gt_f a1 (s_pick_f ?_)
    refine pG_yes rfl (pG_yes rfl (pG_yes rfl (s_nil (pG_yes rfl (fa131_1 (pG_yes rfl (s_ldb (v := .slice A (S.things (S.of name)).shown.length c') (isAgg23 _) hbT rfl (pG_yes rfl (s_len usl23 (pG_yes rfl (pG_yes rfl (s_sub_in (by omega) (pG_yes rfl ?_)))))))))))))
    by_cases n1 : n > (S.things (S.of name)).shown.length - a
    · exact s_gt_t n1 (s_pick_f (pC_true (beyond (.inr (.inr (.inr n1))))))
    refine s_gt_f n1 (s_pick_f (pC_false ?_))
    have hreads := ok.reads
    have hsm := ok.small
    refine s_nil (fa88_8 (s_ldb (v := L.readsv) (isAgg86 _) h.disk rfl ?_))
    refine px_ok (w' := w) (v := .agg #[.string name,i64 a,i64 n]) (by kernel_rfl) ?_
    refine px_ok (w' := w.alloc (.cells #[.string name,i64 a,i64 n] 209)) (v := .slice (some ⟨w.heap.size,0,none⟩) 1 1) (by kernel_rfl) ?_
    have f1 := Fr.alloc no w (.cells #[.string name,i64 a,i64 n] 209)
    have hlit := own_lit w 0 209 3 #[.string name,i64 a,i64 n] 1 (Nat.zero_le _) (by unfold maxLen; omega) rfl
    have z1 : (w.alloc (.cells #[.string name,i64 a,i64 n] 209)).heap.size = w.heap.size + 1 := by simp
    show px P _ (w.alloc (.cells #[.string name,i64 a,i64 n] 209)) _
    generalize w.alloc (.cells #[.string name,i64 a,i64 n] 209) = w1 at *
    refine ap86 (own_fr h.reads f1 fun _ _ h => h) (Src.of_own hlit) (by intro u hu; simp at hu; rcases hu with rfl | rfl | rfl <;> rfl) (by omega) (Nat.zero_le _) fun v' w2 h2 f2 hb2 => ?_
    have hRD : ∀ {b},sblk L.readsv = some b → b ≠ D := by
      rintro b hb rfl
      obtain ⟨c1,h1⟩ := own_obj h.reads hb
      exact absurd (two_types h1 h.disk) (by decide)
    have hd2 := f2.get (f1.get h.disk id) (fun hb => hRD hb.symm rfl)
    refine s_nil (fa88_8 (s_st (sizeOf86 _) (own_one h2).1 (own_one h2).2 hd2 (by show 10 < 11; decide) ?_))
    have hd3 := set_same hd2 10 v'
    have f3 : Fr (fun b => b = D) w2 (w2.setCell ⟨D,10,none⟩ v') := Fr.setCell w2 ⟨D,10,none⟩ v'
    have z3 : (w2.setCell ⟨D,10,none⟩ v').heap.size = w2.heap.size := by simp [World.setCell]
    show px P _ (w2.setCell ⟨D,10,none⟩ v') _
    generalize w2.setCell ⟨D,10,none⟩ v' = w3 at *
    have f13 : Fr (fun b => b = D ∨ sblk L.readsv = some b) w w3 := ((f1.or f2).or f3).mono (by
      rintro b ((hb | hb) | hb)
      · exact hb.elim
      · exact .inl (.inr hb.symm)
      · exact .inl (.inl hb))
    have hOwn : ∀ b,(b = D ∨ sblk L.readsv = some b) → Own L D b := by
      rintro b (hb | hb)
      · exact .inl hb
      · exact .inr (.inr (.inr (.inr hb)))
    have hTf : ∀ {T rb x},TRep w O I T rb x → TRep w3 O I T rb x := fun ht => ht.stay h f13 fun b hb => .inl (hOwn b hb)
    have hnew : ∀ b,sblk v' = some b → sblk L.readsv = some b ∨ w.heap.size < b := by
      intro b hb
      rcases hb2 with e | e
      · left; rw [← e]; exact hb
      · right; rw [e] at hb; injection hb with hb; omega
    have hv'D : ∀ b,sblk v' = some b → b ≠ D := by
      rintro b hb rfl
      obtain ⟨c1,h1⟩ := own_obj h2 hb
      exact absurd (two_types h1 hd2) (by decide)
    have hv'lt : ∀ b,sblk v' = some b → b < w3.heap.size := fun b hb => by have := (own_blk_lt h2 hb).2; omega
    have hz := f13.size
    have hR3 : DRep w3 D { S with reads := S.reads ++ [⟨name,a,n⟩] } (fun b => O b ∨ sblk v' = some b) I { L with readsv := v' } := {
      disk := hd3
      sh := h.sh.fr f13 (by
        rintro (e | e)
        · obtain ⟨es,c1,h1⟩ := SMap.obj h.sh; rw [e,h.disk] at h1; cases h1
        · obtain ⟨c1,h1⟩ := own_obj h.reads e
          obtain ⟨es,c2,h3⟩ := SMap.obj h.sh
          rw [h1] at h3; cases h3)
      shp := h.shp
      sf := h.sf.fr f13 (by
        rintro (e | e)
        · obtain ⟨es,c1,h1⟩ := SMap.obj h.sf; rw [e,h.disk] at h1; cases h1
        · obtain ⟨c1,h1⟩ := own_obj h.reads e
          obtain ⟨es,c2,h3⟩ := SMap.obj h.sf
          rw [h1] at h3; cases h3)
      sfp := h.sfp
      ne := h.ne
      row := own_fr h.row f13 (by
        rintro b hb (e | e)
        · obtain ⟨c1,h1⟩ := own_obj h.row hb
          rw [e] at h1; exact absurd (two_types h1 h.disk) (by decide)
        · obtain ⟨c1,h1⟩ := own_obj h.row hb
          obtain ⟨c2,h3⟩ := own_obj h.reads e
          exact absurd (two_types h1 h3) (by decide))
      reads := by
        have h5 := own_fr h2 f3 hv'D
        simpa [spanCells,List.flatMap_append] using h5
      things := fun t ht => (hTf (h.things t ht)).mono (O := O) (fun b => .inl) fun b => id
      inj := h.inj
      rows := h.rows
      oD := .inl h.oD
      osh := .inl h.osh
      osf := .inl h.osf
      orow := fun b hb => .inl (h.orow b hb)
      oreads := fun b hb => .inr hb
      apart := by
        rintro b (hb | hb) hi
        · exact h.apart b hb hi
        · rcases hnew b hb with h1 | h1
          · exact h.apart b (h.oreads b h1) hi
          · have := h.lt b (.inr hi); omega
      lt := by
        rintro b ((hb | hb) | hb)
        · have := h.lt b (.inl hb); omega
        · exact hv'lt b hb
        · have := h.lt b (.inr hb); omega }
    obtain ⟨sv3,hv3,cs3,hbT3,_,hsh3,_⟩ := (hTf (h.things _ hr)).ex
    obtain ⟨A3,c3,rfl,hc3⟩ := hsh3.1.form
    refine s_nil (fa131_1 (s_ldb (v := .slice A3 (S.things (S.of name)).shown.length c3) (isAgg23 _) hbT3 rfl (s_add_in (by omega) ?_)))
    refine s_sl_lh usl23 (sze23 _) (by omega) (by omega) (by omega) ?_
    have hcut := Src.cut (show Src w3 (.slice A3 (S.things (S.of name)).shown.length c3) 1 _ _ from hsh3.1) (l := a.toNat) (h' := (a + n).toNat) (by omega) (by omega)
    have e1 : ((u8s (S.things (S.of name)).shown).drop (a.toNat * 1)).take (((a + n).toNat - a.toNat) * 1) = u8s (((S.things (S.of name)).shown.drop a.toNat).take n.toNat) := by
      have : (a + n).toNat - a.toNat = n.toNat := by omega
      rw [this,Nat.mul_one,Nat.mul_one]
      simp [u8s,List.map_take,List.map_drop]
    have e2 : (a + n).toNat - a.toNat = (((S.things (S.of name)).shown.drop a.toNat).take n.toNat).length := by simp; omega
    rw [e1,e2] at hcut
    refine ap23 (v := .slice none 0 0) (xs := []) (n := 0) ⟨rfl,.inl ⟨rfl,rfl⟩⟩ hcut u8s_one (by rw [← e2]; omega) (Nat.zero_le _) fun v4 w4 h4 f4 hb4 => ?_
    have ec : S.read name a n = (0,((S.things (S.of name)).shown.drop a.toNat).take n.toNat,{ S with reads := S.reads ++ [⟨name,a,n⟩] }) := by
      unfold AD.read; rw [if_neg (by simp [hl]),if_neg (by rw [el]; omega)]; rfl
    have f4' : Fr no w3 w4 := f4.mono (by rintro b hb; cases hb)
    have hS4 := Src.of_own h4
    rw [Nat.zero_add] at hS4
    have := hk w4 _ _ _ v4 (by
      rw [ec]
      refine ⟨hR3.fr f4' fun b hb => hb.elim,(f13.or f4').mono ?_,fun b => .inl,fun b => id,?_,fun b => .inl⟩
      · rintro b (hb | hb)
        · exact .inl (h.own (hOwn b hb))
        · exact hb.elim
      · rintro b (hb | hb)
        · exact .inl hb
        · rcases hnew b hb with h1 | h1
          · exact .inl (h.oreads b h1)
          · exact .inr (by omega)) (by rw [ec]; exact hS4) (by
      intro b hb
      rcases hb4 with e | e
      · rw [e] at hb; cases hb
      · rw [e] at hb; injection hb with hb
        refine ⟨by omega,?_⟩
        rintro (ho | ho)
        · have := h.lt b (.inl ho); omega
        · have := hv'lt b ho; omega)
    rw [ec] at this; exact this
  · refine s_nei_t hl (pC_true (fail _ (by unfold AD.read; rw [if_pos hl])))
end
def nA : ByteArray := ByteArray.mk #[97]
def nB : ByteArray := ByteArray.mk #[98]
def K0 : AD := AD.new 20
def K1 : AD := (K0.create nA).2
def K2 : AD := (K1.append nA [120,121,122]).2
section
variable {w:World} {D:Nat} {S S':AD} {O I:Nat → Prop} {L:Lay} {k:KV}
theorem s_conv_str {v:Value} {bs:Bytes} (h:SBytes w v bs) (h0:bs ≠ []) (hk:k (.string ⟨bs.toArray⟩) w) : px P (convert 23 9 v) w k := by
 obtain ⟨A,c,rfl,hc,hl,hr⟩ := h
 have h1 : 0 < bs.length := List.length_pos_iff.2 h0
 obtain ⟨b,o,rfl,hcell⟩ := hr h1
 refine px_ok (run_convert_bytes_back w 23 9 5 ⟨b,o,none⟩ c bs (by kernel_rfl) (by kernel_rfl) (by kernel_rfl) ?_) hk
 intro j hj
 rw [add_at]
 exact hcell j _ (by simp [u8s,hj])
end
end Go.Proofs.YteeeggphkhimcaaGreatDoor

namespace Go.Proofs.YteeeggphkhimcaaGreatDoor
open Go Go.Proofs Go.RowKit Go.Maps Go.Sort Go.Shelf Tryz
def keys133_ren : Go.Shelf.Ren := ⟨fun | 7 => 133 | 10 => 174 | n => n,fun | 23 => 82 | 26 => 9 | 3 => 132 | 28 => 212 | 0 => 0 | 27 => 211 | 33 => 90 | 4 => 4 | n => n,fun | n => n⟩
theorem keys133 : Go.Proofs.SlLaysZ.n7 prog keys133_ren := {
 mixed := by kernel_rfl
 f7 := ⟨f133.name,by decide,func133.trans (congrArg some (by kernel_rfl))⟩
 f10 := ⟨f174.name,by decide,func174.trans (congrArg some (by kernel_rfl))⟩
 t0 := underlying0
 a0 := isAgg0
 z0 := sizeOf0
 v0 := zeroValue0
 t4 := underlying4
 a4 := isAgg4
 z4 := sizeOf4
 v4 := zeroValue4
 t23 := underlying82
 a23 := isAgg82
 z23 := sizeOf82
 v23 := zeroValue82
 t26 := underlying9
 a26 := isAgg9
 z26 := sizeOf9
 v26 := zeroValue9
 t27 := underlying211
 a27 := isAgg211
 z27 := sizeOf211
 v27 := zeroValue211
 t28 := underlying212
 a28 := isAgg212
 z28 := sizeOf212
 v28 := zeroValue212
 t33 := underlying90
 a33 := isAgg90
 z33 := sizeOf90
 v33 := zeroValue90 }
def sorted132_ren : Go.Shelf.Ren := ⟨fun | 6 => 132 | 8 => 172 | 9 => 173 | 11 => 191 | 13 => 193 | 12 => 192 | 23 => 214 | 24 => 215 | 14 => 205 | 15 => 206 | 16 => 207 | 17 => 208 | 18 => 209 | 19 => 210 | 20 => 211 | 21 => 212 | 22 => 213 | 25 => 234 | 26 => 235 | 27 => 236 | 28 => 237 | 29 => 238 | 30 => 239 | 31 => 245 | n => n,fun | 26 => 9 | 28 => 212 | 24 => 22 | 0 => 0 | 3 => 3 | 37 => 306 | 48 => 328 | 50 => 330 | 4 => 4 | 40 => 321 | 39 => 320 | 45 => 325 | 5 => 5 | 9 => 9 | 51 => 347 | 55 => 351 | 57 => 356 | 58 => 247 | 33 => 90 | n => n,fun | n => n⟩
theorem sorted132 : Go.Proofs.SlLaysZ.n6 prog sorted132_ren := {
 mixed := by kernel_rfl
 f6 := ⟨f132.name,by decide,func132.trans (congrArg some (by kernel_rfl))⟩
 f8 := ⟨f172.name,by decide,func172.trans (congrArg some (by kernel_rfl))⟩
 f11 := ⟨f191.name,by decide,func191.trans (congrArg some (by kernel_rfl))⟩
 t0 := underlying0
 a0 := isAgg0
 z0 := sizeOf0
 v0 := zeroValue0
 t24 := underlying22
 a24 := isAgg22
 z24 := sizeOf22
 v24 := zeroValue22
 t26 := underlying9
 a26 := isAgg9
 z26 := sizeOf9
 v26 := zeroValue9
 t28 := underlying212
 a28 := isAgg212
 z28 := sizeOf212
 v28 := zeroValue212
 i26 := by kernel_rfl }
def sort173_ren : Go.Shelf.Ren := ⟨fun | 6 => 173 | 8 => 193 | 9 => 192 | 19 => 214 | 20 => 215 | 21 => 205 | 22 => 206 | 23 => 207 | 24 => 208 | 25 => 209 | 26 => 210 | 27 => 211 | 28 => 212 | 29 => 213 | 36 => 234 | 31 => 235 | 32 => 236 | 37 => 237 | 38 => 238 | 39 => 239 | 41 => 245 | n => n,fun | 27 => 22 | 29 => 9 | 3 => 3 | 32 => 306 | 26 => 22 | 0 => 0 | 44 => 328 | 46 => 330 | 4 => 4 | 36 => 321 | 35 => 320 | 41 => 325 | 5 => 5 | 9 => 9 | 53 => 347 | 57 => 351 | 63 => 356 | 64 => 247 | n => n,fun | n => n⟩
theorem sort173 : Go.Proofs.SlLaysM.n6 prog sort173_ren := {
 mixed := by kernel_rfl
 f6 := ⟨f173.name,by decide,func173.trans (congrArg some (by kernel_rfl))⟩
 f8 := func193.trans (congrArg some (by kernel_rfl))
 f9 := ⟨f192.name,by decide,func192.trans (congrArg some (by kernel_rfl))⟩
 f19 := func214.trans (congrArg some (by kernel_rfl))
 f20 := func215.trans (congrArg some (by kernel_rfl))
 f21 := ⟨f205.name,by decide,func205.trans (congrArg some (by kernel_rfl))⟩
 f22 := ⟨f206.name,by decide,func206.trans (congrArg some (by kernel_rfl))⟩
 f23 := ⟨f207.name,by decide,func207.trans (congrArg some (by kernel_rfl))⟩
 f24 := ⟨f208.name,by decide,func208.trans (congrArg some (by kernel_rfl))⟩
 f25 := ⟨f209.name,by decide,func209.trans (congrArg some (by kernel_rfl))⟩
 f26 := ⟨f210.name,by decide,func210.trans (congrArg some (by kernel_rfl))⟩
 f27 := ⟨f211.name,by decide,func211.trans (congrArg some (by kernel_rfl))⟩
 f28 := ⟨f212.name,by decide,func212.trans (congrArg some (by kernel_rfl))⟩
 f29 := ⟨f213.name,by decide,func213.trans (congrArg some (by kernel_rfl))⟩
 f31 := func235.trans (congrArg some (by kernel_rfl))
 f32 := func236.trans (congrArg some (by kernel_rfl))
 f36 := ⟨f234.name,by decide,func234.trans (congrArg some (by kernel_rfl))⟩
 f37 := ⟨f237.name,by decide,func237.trans (congrArg some (by kernel_rfl))⟩
 f38 := ⟨f238.name,by decide,func238.trans (congrArg some (by kernel_rfl))⟩
 f39 := ⟨f239.name,by decide,func239.trans (congrArg some (by kernel_rfl))⟩
 f41 := ⟨f245.name,by decide,func245.trans (congrArg some (by kernel_rfl))⟩
 t0 := underlying0
 a0 := isAgg0
 z0 := sizeOf0
 v0 := zeroValue0
 t3 := underlying3
 a3 := isAgg3
 z3 := sizeOf3
 v3 := zeroValue3
 t4 := underlying4
 a4 := isAgg4
 z4 := sizeOf4
 v4 := zeroValue4
 t5 := underlying5
 a5 := isAgg5
 z5 := sizeOf5
 v5 := zeroValue5
 t9 := underlying9
 a9 := isAgg9
 z9 := sizeOf9
 v9 := zeroValue9
 t26 := underlying22
 a26 := isAgg22
 z26 := sizeOf22
 v26 := zeroValue22
 t27 := underlying22
 a27 := isAgg22
 z27 := sizeOf22
 v27 := zeroValue22
 t29 := underlying9
 a29 := isAgg9
 z29 := sizeOf9
 v29 := zeroValue9
 t32 := underlying306
 a32 := isAgg306
 z32 := sizeOf306
 v32 := zeroValue306
 t35 := underlying320
 a35 := isAgg320
 z35 := sizeOf320
 v35 := zeroValue320
 t36 := underlying321
 a36 := isAgg321
 z36 := sizeOf321
 v36 := zeroValue321
 t41 := underlying325
 a41 := isAgg325
 z41 := sizeOf325
 v41 := zeroValue325
 t44 := underlying328
 a44 := isAgg328
 z44 := sizeOf328
 v44 := zeroValue328
 t46 := underlying330
 a46 := isAgg330
 z46 := sizeOf330
 v46 := zeroValue330
 t53 := underlying347
 a53 := isAgg347
 z53 := sizeOf347
 v53 := zeroValue347
 t57 := underlying351
 a57 := isAgg351
 z57 := sizeOf351
 v57 := zeroValue351
 t63 := underlying356
 a63 := isAgg356
 z63 := sizeOf356
 v63 := zeroValue356
 t64 := underlying247
 a64 := isAgg247
 z64 := sizeOf247
 v64 := zeroValue247 }
theorem sorts132 (m:Nat) : AnyZ.SortsIn prog sorted132_ren Fence.wide m :=
  ⟨fun blk off cap ss W hH hblk hsz => callsIn_wide.2 (AnyM.slices_Sort_string sort173 blk off cap ss W hH hblk hsz),
   fun p cap W => callsIn_wide.2 (AnyM.slices_Sort_string_none sort173 p cap W)⟩
theorem maps_Keys_133 (mb:Option Nat) (W:World) : CallsIn Fence.wide 5 prog 133 #[.map mb] W fun e w' => e = .returned (.func (.func 174) #[] #[.pointer (some ⟨W.heap.size,0,none⟩)]) ∧ w' = W.alloc (.cells #[.map mb] 82) :=
 AnyZ.keys_in keys133 Fence.wide 5 trivial rfl mb W
set_option maxHeartbeats 1000000 in
theorem slices_Sorted_keys_132_133 {H:Type} (b nn:Nat) (D0:DataW H) (R:Value → Option (DataW H × List MemPlace)) (w:World) (hown:w.ownsMap prog 9 R b nn D0) (hmax:Maps.size D0 ≤ maxLen) (hbytes:Maps.size D0 * 16 ≤ 140737488355328) :
    CallsIn Fence.wide 5 prog 132 #[.func (.func 174) #[] #[.pointer (some ⟨w.heap.size,0,none⟩)]] (w.alloc (.cells #[.map (some b)] 82)) fun e w' => ∃ (v:Value) (ss:List (List UInt8)),e = .returned v ∧ ss.Perm (strKeys D0) ∧
      w'.ownsRow (w.alloc (.cells #[.map (some b)] 82)).heap.size 9 1 v ss.length ((ss.mergeSort (fun x y => decide (x ≤ y))).map encStr) ∧ (v = .slice none 0 0 ↔ ss = []) ∧ Below (w.alloc (.cells #[.map (some b)] 82)).heap.size (w.alloc (.cells #[.map (some b)] 82)) w' := by
  have hbl := hown.lt
  have hseq : SeqGives Fence.wide 2 prog 174 #[.pointer (some ⟨w.heap.size,0,none⟩)] encStr (fun ss => ss.Perm (strKeys D0)) (Maps.size D0) (w.alloc (.cells #[.map (some b)] 82)) :=
    AnyZ.keys_gives (ρ := keys133_ren) { keys133 with } Fence.wide _ trivial rfl (by omega) w.heap.size b nn D0 _ (by simp) (by simp) (by
      obtain ⟨es,clock,hb,Ft,hs,hD⟩ := hown
      exact ⟨es,clock,(Below.heap_alloc _ _ b hbl).trans hb,Ft,hs,hD⟩)
  exact AnyZ.sorted_in sorted132 Fence.wide 5 trivial trivial trivial trivial rfl (by omega) (sorts132 _) (enters_of func173 (by kernel_rfl) rfl) 174 #[.pointer (some ⟨w.heap.size,0,none⟩)] trivial (enters_of func174 (by kernel_rfl) rfl) _ _ hmax hbytes _ hseq
theorem sortsKeys : SortsKeys := ⟨fun m W => callsIn_wide.1 (maps_Keys_133 (some m) W),fun b nn D0 w h1 h2 h3 => callsIn_wide.1 (slices_Sorted_keys_132_133 b nn D0 XKeys.R0 w h1 h2 h3)⟩
end Go.Proofs.YteeeggphkhimcaaGreatDoor

namespace Go.Proofs.YteeeggphkhimcaaGreatDoor
open Go Go.Proofs Go.RowKit Go.Proofs.XRed Go.Proofs.XHeap Go.Proofs.XMaps Go.Proofs.XSlices Go.Proofs.XDisk Go.Proofs.XCalls Go.Proofs.XRange Go.Proofs.XKeys Tryz
section
variable {W w w':World} {D Dt:Nat} {A B A' B':AD} {K K' O I O2 I2 O' I':Nat → Prop} {L L2 L':Lay}
end
theorem small_name {n:ByteArray} (h:n.size ≤ maxLen) : n.size ≤ 9223372036854775807 := by unfold maxLen at h; omega
section
variable {w:World} {D:Nat} {S S':AD} {O I:Nat → Prop} {L:Lay} {k:KV}
def AD.sizeOf (S:AD) (name:ByteArray) : Int := if S.look name = 0 then (S.bytes name).length else 0
theorem c_size {c:Nat} (h:DRep w D S O I L) (ok:S.Ok c) (name:ByteArray) (hs:name.size ≤ 9223372036854775807) (hk:k (.tuple #[i64 (AD.sizeOf S name),i64 (S.look name)]) w) : pFn P 72 [ptr D,.string name] w k := by
 refine F72_in _ _ _ _ ?_
 unfold F72_0
 refine c_look h ok.room.1 name hs (s_ext rfl (s_ext rfl ?_))
 unfold AD.sizeOf at hk
 by_cases hl : S.look name = 0
 ·have hg := (look0 hl).2
  have hr : reach S (S.of name) := .inl ⟨name,mem_of_alGet hg⟩
  rw [if_pos hl] at hk
  rw [if_pos hl]
  obtain ⟨sv,hv,cs,hbT,_,hsh,_⟩ := (h.things _ hr).ex
  obtain ⟨A,c',rfl,hc'⟩ := hsh.1.form
  refine s_nei_f hl (pC_false (s_nil (fa131_1 (s_ldb (v := .slice A (S.things (S.of name)).shown.length c') (isAgg23 _) hbT rfl (s_len usl23 ?_)))))
  rw [hl] at hk; exact hk
 ·rw [if_neg hl] at hk
  rw [if_neg hl]
  exact s_nei_t hl (pC_true hk)
end
section
variable {W w:World} {D:Nat} {S S':AD} {O I:Nat → Prop} {L:Lay} {k:KV}
end
section
variable {w w0:World} {D:Nat} {S S':AD} {O I:Nat → Prop} {L:Lay} {k:KV}
end
end Go.Proofs.YteeeggphkhimcaaGreatDoor

namespace Go.Proofs.XPtr
open Go Go.RowKit Go.Proofs.XRed Go.Proofs.XHeap Go.Proofs.XMaps Go.MapKept
section
variable {P:Program} {w:World} {m:Nat} {l:List (Nat × Nat)} {t kt et:TypeId}
end
end Go.Proofs.XPtr

namespace Go.Proofs.YteeeggphkhimcaaGreatDoor
open Go Go.Proofs Go.RowKit Go.Proofs.XRed Go.Proofs.XHeap Go.Proofs.XMaps Go.Proofs.XSlices Go.Proofs.XDisk Go.Proofs.XCalls Go.Proofs.XRange Go.Proofs.XKeys Go.Proofs.XPtr Tryz
section
variable {w w0:World} {D:Nat} {S S':AD} {O I:Nat → Prop} {L:Lay} {k:KV}
abbrev Twins := List (Nat × Nat × Value)
section
variable {ov M dk m1 m2:Nat} {d1 d2:Names} {rv rdv:Value} {rs:List Turn} {tl tl':Twins} {w':World}
end
end
end Go.Proofs.YteeeggphkhimcaaGreatDoor

namespace Go.Proofs.YteeeggphkhimcaaGreatDoor
open Go Go.Proofs Go.RowKit Go.Proofs.XRed Go.Proofs.XHeap Go.Proofs.XMaps Go.Proofs.XSlices Go.Proofs.XDisk Go.Proofs.XCalls Go.Proofs.XSep Tryz
def Dk (D:Nat) (S:AD) : Asrt where
 h w O I := ∃ L,DRep w D S O I L
 fr := fun ⟨L,h⟩ hf hm => ⟨L,h.fr hf hm⟩
 lt := fun ⟨L,h⟩ => h.lt
 ap := fun ⟨L,h⟩ => h.apart
theorem Nx.nxt {w w':World} {D:Nat} {S':AD} {O I O' I' J:Nat → Prop} {L':Lay} (h:Nx w D O I w' S' O' I' L') (hJ:∀ b,I b → J b) : Nxt w O J w' O' I' :=
 ⟨h.fr,h.on,fun b hb => (h.in_ b hb).imp (hJ b) id⟩
theorem Sep.disk {l:List Asrt} {w:World} (h:Sep l w) (i:Nat) {D:Nat} {S:AD} (hi:l[i]? = some (Dk D S)) :
    ∃ O I L,DRep w D S O I L ∧ ∀ w' S' O' I' L',Nx w D O I w' S' O' I' L' → Sep (l.set i (Dk D S')) w' := by
  obtain ⟨O,I,J,⟨L,h1⟩,h2,-,h3⟩ := h.at_ i hi
  exact ⟨O,I,L,h1,fun w' S' O' I' L' hx => h3 _ w' O' I' ⟨L',hx.rep⟩ (hx.nxt h2)⟩
structure RLay where
 has : Nat → Prop
 loc : Nat → Nat
 trow : Nat → Value
 nowv : Value
 befv : Value
 turnv : Value
 toldv : Value
section
variable {w:World} {D:Nat} {S S':AD} {O I:Nat → Prop} {L L':RLay} {k:KV}
end
section
variable {w w0:World} {D:Nat} {S S':AD} {O I:Nat → Prop} {L L':RLay} {k:KV}
end
section
variable {w w0:World} {D:Nat} {S S':AD} {O I:Nat → Prop} {L L':RLay} {k:KV}
end
section
variable {w w0:World} {D:Nat} {S S':AD} {O I:Nat → Prop} {L L':RLay} {k:KV}
theorem okByte_nat (c:UInt8) : okByte c = decide ((97 ≤ c.toNat ∧ c.toNat ≤ 122) ∨ (48 ≤ c.toNat ∧ c.toNat ≤ 57) ∨ c.toNat = 46 ∨ c.toNat = 45 ∨ c.toNat = 95 ∨ c.toNat = 43) := by
 unfold okByte
 have e : ∀ d : UInt8,(c == d) = decide (c.toNat = d.toNat) := by
  intro d
  by_cases h : c = d
  ·subst h; simp
  ·have : c.toNat ≠ d.toNat := fun h' => h (UInt8.toNat_inj.1 h')
   simp [h,this]
 rw [e 46,e 45,e 95,e 43]
 simp [UInt8.le_iff_toNat_le,Bool.or_assoc]
set_option maxHeartbeats 4000000 in
theorem r_isName (s:ByteArray) (hk:k (.bool (isName s)) w) : pFn P 48 [.string s] w k := by
 refine F48_in _ _ _ ?_
 unfold F48_0
 refine s_lens underlying9 ?_
 have short : s.size < 1 ∨ s.size > 112 → k (.bool false) w := by
  intro h
  have : isName s = false := by
   unfold isName
   have h2 : (decide (1 ≤ s.size) && decide (s.size ≤ 112)) = false := by
    rcases h with h | h
    ·rw [decide_eq_false (by omega)]; rfl
    ·rw [decide_eq_false (by omega:¬ s.size ≤ 112)]; simp
   rw [Bool.and_assoc,h2]; simp
  rwa [this] at hk
 by_cases h1 : s.size < 1
 ·refine s_lt_t (by omega) ?_
  repeat (first | refine pG_skf ?_ | refine pG_un ?_)
  exact s_pick_t (pC_true (short (.inl h1)))
 refine s_lt_f (by omega) (pG_yes rfl (pG_yes rfl (s_lens underlying9 (pG_yes rfl ?_))))
 by_cases h2 : s.size > 112
 ·exact s_gt_t (by omega) (s_pick_f (pC_true (short (.inr h2))))
 refine s_gt_f (by omega) (s_pick_f (pC_false ?_))
 clear short
 have hall : isName s = s.data.toList.all okByte := by
  unfold isName
  rw [decide_eq_true (by omega),decide_eq_true (by omega)]; simp
 rw [hall] at hk
 refine F48L1_inv (m := s.size) k (fun m ρ w' => ∃ i : Nat,i + m = s.size ∧ w' = w ∧ ρ 0 = .string s ∧ ρ 3 = i64 i ∧ ∀ j (hj:j < s.size),j < i → okByte s[j] = true) ?_ ⟨0,by omega,rfl,rfl,rfl,fun j _ hj => absurd hj (by omega)⟩
 rintro m ρ w' ⟨i,him,rfl,e0,e3,hok⟩
 rw [F48_1_eq]
 unfold F48_1
 rw [e0,e3]
 refine s_lens underlying9 ?_
 by_cases hi : i < s.size
 ·refine s_lt_t (by omega) (pC_true (s_ixs underlying9 hi ?_))
  have hb := okByte_nat s[i]
  have hlt := s[i].toNat_lt
  have good : okByte s[i] = true → ∀ j (hj:j < s.size),j < i + 1 → okByte s[j] = true := by
   intro h j hj hji
   by_cases e : j = i
   ·subst e; exact h
   ·exact hok j hj (by omega)
  have bad : okByte s[i] = false → k (.bool false) w' := by
   intro h
   have : s.data.toList.all okByte = false := by
    rw [Bool.eq_false_iff]
    intro ha
    rw [List.all_eq_true] at ha
    have := ha s[i] (by
     have : i < s.data.toList.length := by simpa using hi
     have e : s[i] = s.data.toList[i] := rfl
     rw [e]; exact List.getElem_mem _)
    rw [h] at this; cases this
   rwa [this] at hk
  clear hk hall
  generalize s[i].toNat = n at *
  generalize okByte s[i] = okb at *
  have cases_ : (97 ≤ n ∧ n ≤ 122) ∨ (48 ≤ n ∧ n ≤ 57) ∨ n = 46 ∨ n = 45 ∨ n = 95 ∨ n = 43 ∨ n < 43 ∨ n = 44 ∨ n = 47 ∨ (58 ≤ n ∧ n ≤ 94) ∨ n = 96 ∨ 122 < n := by omega
  have fin : ∀ (ρ':Env),ρ' 0 = .string s → ρ' 3 = i64 (i + 1) → okb = true → (∃ m',m' < m ∧ ∃ i : Nat,i + m' = s.size ∧ w' = w' ∧ ρ' 0 = .string s ∧ ρ' 3 = i64 i ∧ ∀ j (hj:j < s.size),j < i → okByte s[j] = true) :=
   fun ρ' a0 a3 h => ⟨m - 1,by omega,i + 1,by omega,rfl,a0,by rw [a3]; show i64 _ = i64 _; simp,good h⟩
  rcases cases_ with h | h | h | h | h | h | h | h | h | h | h | h
  all_goals
   repeat (first | refine pG_yes rfl ?_ | refine pG_sk ?_ | refine pG_skf ?_ | refine pG_un ?_ | refine s_pick_t ?_ | refine s_pick_f ?_ | refine s_not ?_ | refine pC_true ?_ | refine pC_false ?_ | refine s_ge_t (by omega) ?_ | refine s_ge_f (by omega) ?_ | refine s_le_t (by omega) ?_ | refine s_le_f (by omega) ?_ | refine s_eqi_t (by omega) ?_ | refine s_eqi_f (by omega) ?_)
   first
    | exact bad (by rw [hb]; exact decide_eq_false (by omega))
    | exact s_add_in (by omega) (fin _ e0 rfl (by rw [hb]; exact decide_eq_true (by omega)))
 ·refine s_lt_f (by omega) (pC_false ?_)
  rw [F48_2_eq]
  have : s.data.toList.all okByte = true := by
   rw [List.all_eq_true]
   intro c hc
   obtain ⟨j,hj,rfl⟩ := List.getElem_of_mem hc
   have hj' : j < s.size := by simpa using hj
   exact hok j hj' (by omega)
  rw [this] at hk
  exact hk
end
section
variable {w w0:World} {D:Nat} {S S':AD} {O I:Nat → Prop} {L L':RLay} {k:KV}
end
section
variable {w w0:World} {D:Nat} {S S':AD} {O I:Nat → Prop} {L L':RLay} {k:KV}
end
section
variable {w w0:World} {D:Nat} {S S':AD} {O I:Nat → Prop} {L L':RLay} {k:KV}
end
section
variable {w w0:World} {D:Nat} {S S':AD} {O I:Nat → Prop} {L L':RLay} {k:KV}
end
section
variable {w w0:World} {D:Nat} {S S':AD} {O I:Nat → Prop} {L L':RLay} {k:KV}
theorem Src.fr0 {O:Nat → Prop} {w w':World} {x:Value} {size m:Nat} {cs:List Value} (h:Src w x size m cs) (hs:0 < size) (hf:Fr O w w') (hn:0 < m → ∀ b,sblk x = some b → ¬ O b) : Src w' x size m cs := by
 by_cases h0 : 0 < m
 ·exact h.fr hs hf (hn h0)
 ·obtain ⟨A,c,e,hc,hl,_⟩ := h
  exact ⟨A,c,e,hc,hl,fun h1 => absurd h1 h0⟩
theorem SBytes.fr0 {O:Nat → Prop} {w w':World} {x:Value} {bs:Bytes} (h:SBytes w x bs) (hf:Fr O w w') (hn:0 < bs.length → ∀ b,sblk x = some b → ¬ O b) : SBytes w' x bs := Src.fr0 h (by omega) hf hn
end
section
variable {w w0:World} {D:Nat} {S S':AD} {O I:Nat → Prop} {L L':RLay} {k:KV}
end
section
variable {w w0:World} {D:Nat} {S S':AD} {O I:Nat → Prop} {L L':RLay} {k:KV}
end
section
variable {w w0:World} {D:Nat} {S S':AD} {O I:Nat → Prop} {L L':RLay} {k:KV}
abbrev FilesL := List (FileA × Value)
def FilesL.plain (l:FilesL) : List FileA := l.map (·.1)
structure FilesS (w:World) (v:Value) (l:FilesL) : Prop where
 src : Src w v 2 l.length (l.flatMap fun p => [.string p.1.1,p.2])
 all : ∀ p ∈ l,SBytes w p.2 p.1.2
theorem FilesS.fr {w w':World} {v:Value} {l:FilesL} (h:FilesS w v l) (hf:Fr no w w') : FilesS w' v l := ⟨h.src.fr (by omega) hf fun _ _ h => h,fun p hp => (h.all p hp).fr hf fun _ _ h => h⟩
theorem FilesS.at_ {w:World} {v:Value} {l:FilesL} (h:FilesS w v l) {i:Nat} (hi:i < l.length) : ∃ b o c,v = .slice (some ⟨b,o,Option.none⟩) l.length c ∧ w.cell? ⟨b,o + i * 2,Option.none⟩ = some (.string l[i].1.1) ∧ w.cell? ⟨b,o + i * 2 + 1,Option.none⟩ = some l[i].2 := by
 obtain ⟨b,o,c,e,hc⟩ := h.src.place hi (by omega)
 have hat : ∀ j u,([Value.string l[i].1.1,l[i].2] : List Value)[j]? = some u → j < 2 → w.cell? ⟨b,o + i * 2 + j,Option.none⟩ = some u := by
  intro j u hj hlt
  refine hc j u hlt ?_
  have := flatAt (f := fun p : FileA × Value => [Value.string p.1.1,p.2]) (n := 2) (fun _ => rfl) (l := l) (i := i) (j := j) (a := l[i]) (by simp [hi]) hlt
  rw [this]; exact hj
 exact ⟨b,o,c,e,hat 0 _ rfl (by omega),hat 1 _ rfl (by omega)⟩
end
end Go.Proofs.YteeeggphkhimcaaGreatDoor

namespace Go.Proofs.XRow
open Go Go.ChangeShapes Go.WideShapes Go.ChangeAt Go.RowKit Go.Proofs.XRed Go.Proofs.XHeap Go.Proofs.XSlices
section
variable {H:Type} {enc:TypeId × Value → H} {P:Program}
theorem post_of_below {f:Func} {s:ChangeSpec} {apart fresh handsOn again:Bool} {W W':World} {args:Array Value} {v:Value} {ds gs:List (DataW H)} {before pa pv:List MemPlace}
    (hW:DataW.Whole enc P f.params.toList s.vars apart W args.toList ds gs before) (hb:Below W.heap.size W W')
    (hres:∀ (b:Nat) (sp:Nat → Bool) (hd:Bool),DataW.TrodAll enc P W' b sp hd f.resultTypes.toList (v.resultList f.resultTypes.size) (s.fn H (ds ++ gs)).results [])
    (hargs:∀ sp : Nat → Bool,(∀ p ∈ before,sp p.block = true) → DataW.TrodAll enc P W' 0 sp true f.params.toList args.toList (s.fn H (ds ++ gs)).args pa)
    (hvars:∀ sp : Nat → Bool,(∀ p ∈ before,sp p.block = true) → DataW.TrodVars enc P W' sp s.vars (s.fn H (ds ++ gs)).vars pv)
    (hps:before = pa ++ pv)
    (hok:∀ (j:Nat) (t:TypeId) (r:Value),f.resultTypes[j]? = some t → (v.resultList f.resultTypes.size)[j]? = some r → Value.okWide P W' .any 0 t r) :
    s.post enc P f apart fresh handsOn again W args v W' := by
  have hold : ∀ p ∈ before,(fun b => decide (b < W.heap.size)) p.block = true := fun p hp => by simpa using hW.lt p hp
  refine ⟨ds,gs,before,[],pa,pv,hW,hres _ _ _,hargs _ hold,hvars _ hold,hb.frame _,fun _ => ?_⟩
  have hlt := hW.lt
  obtain ⟨_,_,_,_,_,hz,hn⟩ := hW
  refine ⟨hok,_,_,([] ++ pa) ++ pv,⟨[] ++ pa,pv,trodAll_append (hargs _ (fun _ _ => rfl)) (hres _ _ _),hvars _ (fun _ _ => rfl),rfl,?_,?_⟩,?_⟩
  · intro b off hp
    have hp' : MemPlace.cell b off ∈ before := by rw [hps]; simpa using hp
    have h1 := hz b off hp'
    have h2 : b < W.heap.size := hlt _ hp'
    unfold World.frozen? at *
    rw [hb.block _ h2]
    exact h1
  · intro ha
    have := hn ha
    rw [hps] at this
    simpa using this
  · intro p hp _
    rw [hps]
    simpa using hp
theorem stays {t:TypeId} (hl:laidOutB P = true) (hr:P.readableRec t = true) (hrow:t < P.types.size) {W W':World} {v:Value} {d:DataW H} {ps:List MemPlace} {sp:Nat → Bool}
    (h:DataW.Trod enc P W 0 (fun _ => true) true t v d ps) (hb:Below W.heap.size W W') (hlt:∀ x ∈ ps,x.block < W.heap.size) (hs:∀ x ∈ ps,sp x.block = true) : DataW.Trod enc P W' 0 sp true t v d ps :=
  WideElems.Trod_stays hl hr hrow h (fun x hx => hb.same (hlt x hx)) hs
def Fine (W:World) (v:Value) (w':World) : Prop := v = .bool true ∧ Below W.heap.size W w'
theorem fine {O:Nat → Prop} {W:World} (hO:∀ b,O b → W.heap.size ≤ b) : ∀ w',Fr O W w' → Fine W (.bool true) w' := fun w' hf => ⟨rfl,hf.to_below hO (Nat.le_refl _)⟩
theorem calls_true {f : FuncId} {fn : Func} (hf : P.funcs[f]? = some fn) (hname : (fn.name == "runtime.NumGoroutine") = false) (hbody : fn.body.isNone = false) {args : List Value} {W : World} (h : pFn P f args W (Fine W)) :
    Calls P f args.toArray W fun e w' => e = .returned (.bool true) ∧ Below W.heap.size W w' := by
  refine (calls_of_pFn hf hname hbody h).mono ?_
  rintro e w' ⟨v,rfl,rfl,hb⟩
  exact ⟨rfl,hb⟩
end
end Go.Proofs.XRow

namespace Go.Proofs.YteeeggphkhimcaaGreatDoor
open Go Go.ChangeShapes Go.WideShapes Go.ChangeAt Go.RowKit Go.Proofs Go.Proofs.XRed Go.Proofs.XHeap Go.Proofs.XSlices Go.Proofs.XRow Go.Proofs.XDisk Tryz
section
variable {H:Type} {enc:TypeId × Value → H}
theorem bulk_one (d:DataW H) : 1 ≤ Rows.uptoBulk d := by
 cases d with
 | lit l => cases l <;> simp [Rows.uptoBulk]
 | nil => simp [Rows.uptoBulk]
 | ptr d => simp [Rows.uptoBulk]
 | slice elems spare => simp [Rows.uptoBulk]
 | agg parts => simp [Rows.uptoBulk]
 | iface t d => simp [Rows.uptoBulk]
 | map entries => simp [Rows.uptoBulk]
 | held h => simp [Rows.uptoBulk]
theorem bulk_part {d:DataW H} {l:List (DataW H)} (h:d ∈ l) : Rows.uptoBulk d ≤ Rows.uptoBulkAll l := by
 induction l with
 | nil => cases h
 | cons x r ih =>
  simp only [Rows.uptoBulkAll]
  cases List.mem_cons.1 h with
  | inl e => subst e; omega
  | inr e => have := ih e; omega
theorem bulk_len (l:List (DataW H)) : l.length ≤ Rows.uptoBulkAll l := by
 induction l with
 | nil => simp [Rows.uptoBulkAll]
 | cons x r ih => have := bulk_one x; simp only [Rows.uptoBulkAll,List.length_cons]; omega
theorem bulk_agg {d:DataW H} {l:List (DataW H)} (h:d ∈ l) : Rows.uptoBulk d ≤ Rows.uptoBulk (.agg l) := by
 have := bulk_part h
 simp only [Rows.uptoBulk]; omega
theorem bulk_elem {d:DataW H} {l m:List (DataW H)} (h:d ∈ l) : Rows.uptoBulk d ≤ Rows.uptoBulk (.slice l m) := by
 have := bulk_part h
 simp only [Rows.uptoBulk]; omega
theorem bulk_slice (l m:List (DataW H)) : l.length ≤ Rows.uptoBulk (.slice l m) := by
 have := bulk_len l
 simp only [Rows.uptoBulk]; omega
variable {W:World}
def Len (d:DataW H) (n:Nat) : Prop := n = 0 ∨ ∃ e s,d = .slice e s ∧ e.length = n
theorem Len.bulk {d:DataW H} {n:Nat} (h:Len d n) : n ≤ Rows.uptoBulk d := by
 rcases h with rfl | ⟨e,s,rfl,rfl⟩
 ·exact Nat.zero_le _
 ·exact bulk_slice e s
theorem open_bytes {fuel:Nat} {cs:List Value} {x:DataW H × List MemPlace} (h:DataW.trod enc prog W 0 (fun _ => true) true fuel 23 cs = some x) : ∃ (dv:Value) (d:Bytes),cs = [dv] ∧ SBytes W dv d ∧ Len x.1 d.length := by
 rcases open_ints underlying23 underlying5 (by kernel_rfl) h with ⟨rfl,rfl⟩ | ⟨a,len,cap,zs,rfl,_,hl,hm,hz,rfl,hcell,hwf⟩
 ·exact ⟨_,[],rfl,SBytes.nil _,.inl rfl⟩
 ·simp only [if_true] at hz
  have hbyte : ∀ z ∈ zs,((UInt8.ofNat z.toNat).toNat : Int) = z := by
   intro z hz
   have hb := hwf z hz
   simp only [Lit.wf,IntKind.min,IntKind.max,IntKind.signed,IntKind.bits] at hb
   simp at hb
   have : (UInt8.ofNat z.toNat).toNat = z.toNat := by simp; omega
   rw [this]; omega
  have hlen : ((zs.take len).map fun z => UInt8.ofNat z.toNat).length = len := by simp; omega
  refine ⟨_,(zs.take len).map fun z => UInt8.ofNat z.toNat,rfl,?_,?_⟩
  ·unfold SBytes
   rw [hlen]
   obtain ⟨b,off,spot⟩ := a
   refine ⟨some ⟨b,off,spot⟩,cap,rfl,hl,by simp [u8s]; omega,fun h0 => ?_⟩
   have hspot : spot = none := by simpa [Addr.add] using World.cell?_spot (hcell 0 (by omega))
   subst hspot
   refine ⟨b,off,rfl,fun j u hj => ?_⟩
   unfold u8s at hj
   rw [List.map_map,List.getElem?_map] at hj
   obtain ⟨z,hz',rfl⟩ := Option.map_eq_some_iff.1 hj
   have hjl : j < len := by
    have := (List.getElem?_eq_some_iff.1 hz').1
    simp at this; omega
   rw [List.getElem?_take_of_lt hjl] at hz'
   have := hcell j (by omega)
   rw [add_at,List.getD,hz'] at this
   rw [this]
   show some (Value.int .u8 z) = some (Value.int .u8 ((UInt8.ofNat z.toNat).toNat : Int))
   rw [hbyte z (List.mem_of_getElem? hz')]
  ·rw [hlen]
   exact .inr ⟨lits .u8 (zs.take len),lits .u8 (zs.drop len),rfl,by simp [lits]; omega⟩
theorem open_intsV {fuel:Nat} {cs:List Value} {x:DataW H × List MemPlace} (h:DataW.trod enc prog W 0 (fun _ => true) true fuel 58 cs = some x) : ∃ (dv:Value) (d:List Int),cs = [dv] ∧ Src W dv 1 d.length (d.map fun n => .int .i64 n) ∧ Len x.1 d.length := by
 rcases open_ints underlying58 underlying3 (by kernel_rfl) h with ⟨rfl,rfl⟩ | ⟨a,len,cap,zs,rfl,_,hl,hm,hz,rfl,hcell,hwf⟩
 ·exact ⟨_,[],rfl,Src.nil _ _,.inl rfl⟩
 ·simp only [if_true] at hz
  have hlen : (zs.take len).length = len := by simp; omega
  refine ⟨_,zs.take len,rfl,?_,?_⟩
  ·rw [hlen]
   obtain ⟨b,off,spot⟩ := a
   refine ⟨some ⟨b,off,spot⟩,cap,rfl,hl,by simp; omega,fun h0 => ?_⟩
   have hspot : spot = none := by simpa [Addr.add] using World.cell?_spot (hcell 0 (by omega))
   subst hspot
   refine ⟨b,off,rfl,fun j u hj => ?_⟩
   rw [List.getElem?_map] at hj
   obtain ⟨z,hz',rfl⟩ := Option.map_eq_some_iff.1 hj
   have hjl : j < len := by
    have := (List.getElem?_eq_some_iff.1 hz').1
    simp at this; omega
   rw [List.getElem?_take_of_lt hjl] at hz'
   have := hcell j (by omega)
   rw [add_at,List.getD,hz'] at this
   exact this
  ·rw [hlen]
   exact .inr ⟨lits .i64 (zs.take len),lits .i64 (zs.drop len),rfl,by simp [lits]; omega⟩
theorem i64_wf {n:Int} (h:(Lit.int .i64 n).wf = true) : -9223372036854775808 ≤ n ∧ n ≤ 9223372036854775807 := by
 simp only [Lit.wf,IntKind.min,IntKind.max,IntKind.signed,IntKind.bits] at h
 simp at h
 omega
def FileFits (d:DataW H) : Prop := ∀ parts,d = .agg parts → ∀ q n,parts[1]? = some q → Len q n → n ≤ 140737488355328
theorem open_file {fuel:Nat} {cs:List Value} {x:DataW H × List MemPlace} (hb:FileFits x.1) (h:DataW.trod enc prog W 0 (fun _ => true) true fuel 107 cs = some x) : ∃ (f:FileA) (dv:Value),cs = [.string f.1,dv] ∧ SBytes W dv f.2 ∧ f.1.size ≤ 9223372036854775807 ∧ f.2.length ≤ 140737488355328 := by
 obtain ⟨xs,k,rfl,rfl,hlen,hxl,hf⟩ := DataW.trod_struct underlying107 h
 have c10 : prog.cellsOf 107 = 2 := by kernel_rfl
 rw [c10] at hlen
 match cs,hlen with
 | [c0,c1],_ =>
 match xs,hxl with
 | [x0,x1],_ =>
 have g0 : DataW.trod enc prog W 0 (fun _ => true) true k 9 (([c0,c1].drop 0).take (prog.cellsOf 9)) = some x0 := hf 0 _ rfl
 have g1 : DataW.trod enc prog W 0 (fun _ => true) true k 23 (([c0,c1].drop 1).take (prog.cellsOf 23)) = some x1 := hf 1 _ rfl
 have k9 : prog.cellsOf 9 = 1 := by kernel_rfl
 have k30 : prog.cellsOf 23 = 1 := by kernel_rfl
 simp only [k9,k30,List.drop_zero,List.drop_succ_cons,List.take_succ_cons,List.take_zero,List.getElem?_cons_zero,List.getElem?_cons_succ] at g0 g1
 obtain ⟨s1,e1,r1,w1⟩ := DataW.trod_string underlying9 g0
 obtain ⟨dv,d5,e5,s5,l5⟩ := open_bytes g1
 simp only [List.cons.injEq,and_true] at e1 e5
 subst e1 e5
 exact ⟨(s1,d5),c1,rfl,s5,small_name (by first | exact w1 | simpa [Lit.wf] using w1),hb _ rfl _ _ rfl l5⟩
theorem plain_small {l:FilesL} (h:∀ p ∈ l,p.1.1.size ≤ 9223372036854775807) : ∀ f ∈ l.plain,f.1.size ≤ 9223372036854775807 := fun f hf => by
 obtain ⟨q,hq,rfl⟩ := List.mem_map.1 hf; exact h q hq
theorem open_files {v:Value} {d:DataW H} {ps:List MemPlace} (hb:∀ elems spare,d = .slice elems spare → ∀ e ∈ elems,FileFits e) (hv:Value.okWide prog W .any 0 36 v) (h:DataW.Trod enc prog W 0 (fun _ => true) true 36 v d ps) :
    ∃ l : FilesL,FilesS W v l ∧ (∀ p ∈ l,p.1.2.length ≤ 140737488355328) ∧ ∀ p ∈ l,p.1.1.size ≤ 9223372036854775807 := by
  obtain ⟨a0,len,cap,rfl⟩ := okWide_slice underlying36 hv
  obtain ⟨fuel,hf⟩ := h
  have c10 : prog.cellsOf 107 = 2 := by kernel_rfl
  rcases Go.Deep.open_slice underlying36 hf with ⟨hcs,hx⟩ | ⟨a,len',cap',m,n,Ds,Pl,hcs,_,hl,hm,hmm,hx,hcell⟩
  · simp [Value.cells] at hcs
    obtain ⟨rfl,rfl,rfl⟩ := hcs
    exact ⟨[],⟨Src.nil _ _,fun p hp => by cases hp⟩,fun p hp => (by cases hp),fun p hp => (by cases hp)⟩
  · simp [Value.cells] at hcs
    obtain ⟨rfl,rfl,rfl⟩ := hcs
    simp only [if_true] at hmm
    rw [c10] at hcell
    injection hx with hx _
    have each : ∀ i,i < len → ∃ p : FileA × Value,(SBytes W p.2 p.1.2 ∧ p.1.1.size ≤ 9223372036854775807 ∧ p.1.2.length ≤ 140737488355328) ∧ ∀ j u,([Value.string p.1.1,p.2] : List Value)[j]? = some u → W.cell? ((a.add (i * 2)).add j) = some u := by
      intro i hi
      obtain ⟨cs',h1,h2⟩ := hcell i (by omega)
      obtain ⟨_,hlen,hc⟩ := World.cells?_some h1
      have hD : FileFits (Ds i) := hb _ _ hx _ (List.mem_map.2 ⟨i,List.mem_range.2 hi,rfl⟩)
      obtain ⟨f,dv,rfl,hs⟩ := open_file (x := (Ds i,Pl i)) hD h2
      refine ⟨(f,dv),hs,fun j u hj => ?_⟩
      rw [hc j (List.getElem?_eq_some_iff.1 hj).1]; exact hj
    have hS : ∃ g : Nat → FileA × Value,∀ i,i < len → (SBytes W (g i).2 (g i).1.2 ∧ (g i).1.1.size ≤ 9223372036854775807 ∧ (g i).1.2.length ≤ 140737488355328) ∧ ∀ j u,([Value.string (g i).1.1,(g i).2] : List Value)[j]? = some u → W.cell? ((a.add (i * 2)).add j) = some u := by
      classical
      refine ⟨fun i => if h : i < len then Classical.choose (each i h) else ((.empty,[]),undef),fun i hi => ?_⟩
      simp only [dif_pos hi]
      exact Classical.choose_spec (each i hi)
    obtain ⟨g,hg⟩ := hS
    have hmem : ∀ p ∈ (List.range len).map g,SBytes W p.2 p.1.2 ∧ p.1.1.size ≤ 9223372036854775807 ∧ p.1.2.length ≤ 140737488355328 := fun p hp => by
      obtain ⟨i,hi,rfl⟩ := List.mem_map.1 hp
      exact (hg i (List.mem_range.1 hi)).1
    refine ⟨(List.range len).map g,⟨?_,fun p hp => (hmem p hp).1⟩,fun p hp => (hmem p hp).2.2,fun p hp => (hmem p hp).2.1⟩
    rw [List.length_map,List.length_range]
    have hfl : (((List.range len).map g).flatMap fun p => ([Value.string p.1.1,p.2] : List Value)).length = len * 2 := by
      have : ∀ l : FilesL,(l.flatMap fun p => ([Value.string p.1.1,p.2] : List Value)).length = l.length * 2 := by
        intro l
        induction l with
        | nil => rfl
        | cons p r ih => rw [List.flatMap_cons,List.length_append,ih]; simp; omega
      rw [this]; simp
    obtain ⟨b,off,spot⟩ := a
    refine ⟨some ⟨b,off,spot⟩,cap,rfl,hl,hfl,fun hpos => ?_⟩
    have h00 := (hg 0 hpos).2 0 _ rfl
    have hspot : spot = none := by simpa [Addr.add] using World.cell?_spot h00
    subst hspot
    refine ⟨b,off,rfl,fun j u hj => ?_⟩
    have hjl : j < len * 2 := by have := (List.getElem?_eq_some_iff.1 hj).1; rw [hfl] at this; exact this
    have hi : j / 2 < len := by omega
    have hgi : ((List.range len).map g)[j / 2]? = some (g (j / 2)) := by simp [hi]
    have hfa := flatAt (f := fun p : FileA × Value => ([Value.string p.1.1,p.2] : List Value)) (n := 2) (fun _ => rfl) (l := (List.range len).map g) (i := j / 2) (j := j % 2) hgi (Nat.mod_lt _ (by omega))
    have e : j / 2 * 2 + j % 2 = j := by omega
    rw [e] at hfa
    rw [hfa] at hj
    have := (hg (j / 2) hi).2 (j % 2) u hj
    rw [add_at,add_at] at this
    have e2 : off + j / 2 * 2 + j % 2 = off + j := by omega
    rw [e2] at this
    exact this
end
theorem own1 : ownKnob prog.godebug = none := by kernel_rfl
theorem laid1 : laidOutB prog = true := by kernel_rfl
theorem et1 : P.globalNamed "errors.errorType" = some 0 := by kernel_rfl
theorem rt1 : (P.cutTypes.find? (·.1 == "internal/reflectlite.rtype")).map (·.2) = some 273 := by kernel_rfl
theorem oneRow1 : ((List.range P.types.size).filter fun t => P.rowNamed t [101,114,114,111,114]) = [31] := by kernel_rfl
theorem th1 : typeHandle P 31 = .pointer (some ⟨4,31,none⟩) := by kernel_rfl
theorem errT_of_handles {W : World} {l : List (String × DataW Unit)} (hm : ("errors.errorType", Rows.laid_errors_errorType) ∈ l) (h : handlesMet P l W) : ErrT W := by
 obtain ⟨name,u,ty,e1,e2,e3,e4,e5⟩ := h _ hm
 have en : name = [101,114,114,111,114] := (Option.some.inj e1).symm
 subst en
 obtain rfl := Option.some.inj (rt1.symm.trans e2)
 have hm : ty ∈ (List.range P.types.size).filter fun t => P.rowNamed t [101,114,114,111,114] := List.mem_filter.2 ⟨List.mem_range.2 e3,e4⟩
 rw [oneRow1] at hm
 obtain rfl := List.mem_singleton.1 hm
 rw [th1] at e5
 exact World.var?_cell et1 e5 0
def laidE : List (String × DataW Unit) := [("errors.errorType", Rows.laid_errors_errorType)]
theorem errT_of_laid {W:World} (h:laidMetH P laidE W) : ErrT W := by
 have h' : laidMet P [] W ∧ handlesMet P laidE W := h
 exact errT_of_handles (List.mem_singleton.2 rfl) h'.2
noncomputable def laidWorld (os:Os) : World :=
  let w0 := World.holding P os ⟨#[],#[],[]⟩
  { w0 with heap := w0.heap.modify 0 fun
      | .cells _ t frozen => .cells #[.iface 273 (.agg #[.pointer (some ⟨4,31,none⟩)])] t frozen
      | o => o }
theorem laidWorld_met (os:Os) (args:Array Value) : laidMetH P laidE ((laidWorld os).forCall (fun _ _ => 0) ⟨#[],args,[]⟩).memory :=
 laidMetH_of_parts (laidMet_nil _ _) (by kernel_rfl)
section
variable {H:Type} {enc:TypeId × Value → H} {W:World}
theorem open_bytesV {v:Value} {d:DataW H} {ps:List MemPlace} (hv:Value.okWide P W .any 0 23 v) (h:DataW.Trod enc P W 0 (fun _ => true) true 23 v d ps) : ∃ dd : Bytes,SBytes W v dd ∧ Len d dd.length := by
 obtain ⟨a0,len,cap,rfl⟩ := okWide_slice underlying23 hv
 obtain ⟨fuel,hf⟩ := h
 obtain ⟨dv,dd,e,s,l⟩ := open_bytes hf
 simp only [Value.cells,List.cons.injEq,and_true] at e
 subst e
 exact ⟨dd,s,l⟩
theorem open_picksV {v:Value} {d:DataW H} {ps:List MemPlace} (hv:Value.okWide P W .any 0 58 v) (h:DataW.Trod enc P W 0 (fun _ => true) true 58 v d ps) : ∃ dd : List Int,Src W v 1 dd.length (dd.map fun n => .int .i64 n) ∧ Len d dd.length := by
 obtain ⟨a0,len,cap,rfl⟩ := okWide_slice underlying58 hv
 obtain ⟨fuel,hf⟩ := h
 obtain ⟨dv,dd,e,s,l⟩ := open_intsV hf
 simp only [Value.cells,List.cons.injEq,and_true] at e
 subst e
 exact ⟨dd,s,l⟩
end
end Go.Proofs.YteeeggphkhimcaaGreatDoor
