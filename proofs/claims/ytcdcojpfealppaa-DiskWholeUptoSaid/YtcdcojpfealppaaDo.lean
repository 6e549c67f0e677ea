/- Size, Look; a step of a script. -/
import Derived.Test.YtcdcojpfealppaaXStep
import Derived.Test.YtcdcojpfealppaaXElem
import Derived.Test.YtcdcojpfealppaaTwo
set_option linter.unusedVariables false
set_option linter.unusedSimpArgs false
set_option maxRecDepth 100000
namespace Go.Proofs.Ytcdcojpfealppaa
open Go Go.Proofs Go.RowKit Go.Proofs.XRed Go.Proofs.XHeap Go.Proofs.XMaps Go.Proofs.XSlices Go.Proofs.XDisk Go.Proofs.XCalls Go.Proofs.XRange Go.Proofs.XKeys
section
variable {w : World} {D : Nat} {S S' : AD} {O I : Nat → Prop} {L : Lay} {k : Value → World → Prop}
def AD.sizeOf (S : AD) (name : ByteArray) : Int := if S.look name = 0 then (S.bytes name).length else 0
theorem c_size {c : Nat} (h : DRep w D S O I L) (ok : S.Ok c) (name : ByteArray) (hs : name.size ≤ 9223372036854775807) (hk : k (.tuple #[i64 (AD.sizeOf S name), i64 (S.look name)]) w) : pFn P 41 [ptr D, .string name] w k := by
  refine F41_in _ _ _ _ ?_
  unfold F41_0
  refine c_look h ok.room.1 name hs (s_ext rfl (s_ext rfl ?_))
  unfold AD.sizeOf at hk
  by_cases hl : S.look name = 0
  · have hg := (look0 hl).2
    have hr : reach S (S.of name) := .inl ⟨name, mem_of_alGet hg⟩
    rw [if_pos hl] at hk
    rw [if_pos hl]
    obtain ⟨sv, hv, cs, hbT, _, hsh, _⟩ := (h.things _ hr).ex
    obtain ⟨A, c', rfl, hc'⟩ := hsh.1.form
    refine s_nei_f hl (pC_false (s_nil (fa101_1 (s_ldb (v := .slice A (S.things (S.of name)).shown.length c') (Try.isAgg30 _) hbT rfl (s_len usl30 ?_)))))
    rw [hl] at hk; exact hk
  · rw [if_neg hl] at hk
    rw [if_neg hl]
    exact s_nei_t hl (pC_true hk)
theorem c_lookF (h : DRep w D S O I L) (hr : 1 ≤ S.room) (hk : ∀ w' O' I' L', Nx w D O I w' S.lookAway O' I' L' → k (.tuple #[]) w') : pFn P 40 [ptr D] w k := by
  refine F40_in _ _ _ ?_
  unfold F40_0
  refine c_none h.disk hr (s_not (pC_true ?_))
  refine s_nil (fa93_8 (s_st (Try.sizeOf60 _) rfl rfl h.disk (by show 10 < 11; decide) ?_))
  have hd3 := set_same h.disk 10 (.slice none 0 0)
  have f3 : Fr (fun b => b = D) w (w.setCell ⟨D, 10, none⟩ (.slice none 0 0)) := Fr.setCell w ⟨D, 10, none⟩ _
  have z3 : (w.setCell ⟨D, 10, none⟩ (.slice none 0 0)).heap.size = w.heap.size := by simp [World.setCell]
  show k _ (w.setCell ⟨D, 10, none⟩ (.slice none 0 0))
  generalize w.setCell ⟨D, 10, none⟩ (.slice none 0 0) = w3 at *
  have hp := h.plain (S' := S) (L := L) f3
  refine hk w3 O I { L with readsv := .slice none 0 0 } ⟨?_, f3.mono fun b hb => .inl (hb ▸ h.oD), fun b => id, fun b => id, fun b => .inl, fun b => .inl⟩
  exact {
    disk := hd3
    sh := h.sh.fr f3 (by rintro e; obtain ⟨es, c1, h1⟩ := SMap.obj h.sh; rw [e, h.disk] at h1; cases h1)
    shp := h.shp
    sf := h.sf.fr f3 (by rintro e; obtain ⟨es, c1, h1⟩ := SMap.obj h.sf; rw [e, h.disk] at h1; cases h1)
    sfp := h.sfp
    ne := h.ne
    row := own_fr h.row f3 (by rintro b hb e; obtain ⟨c1, h1⟩ := own_obj h.row hb; rw [e] at h1; exact absurd (two_types h1 h.disk) (by decide))
    reads := ⟨rfl, .inl ⟨rfl, rfl⟩⟩
    things := fun t ht => (h.things t ht).stay h f3 fun b hb => .inl (.inl hb)
    inj := h.inj
    rows := h.rows
    oD := h.oD
    osh := h.osh
    osf := h.osf
    orow := h.orow
    oreads := by rintro b hb; cases hb
    apart := h.apart
    lt := fun b hb => by rw [z3]; exact h.lt b hb }
end
/-- A step's value: its ten cells. -/
def stepCells (x : StepA) (dv pv : Value) : List Value := [i64 x.kind, .string x.name, .string x.to_, i64 x.at_, i64 x.n, dv, i64 x.plan.off, i64 x.plan.from_, i64 x.plan.to_, pv]
structure StepV (W : World) (x : StepA) (dv pv : Value) : Prop where
  data : SBytes W dv x.data
  picks : Src W pv 1 x.picks.length (x.picks.map i64)
  name : x.name.size ≤ maxLen
  to_ : x.to_.size ≤ maxLen
  at_ : -9223372036854775808 ≤ x.at_ ∧ x.at_ ≤ 9223372036854775807
  dlen : x.data.length ≤ 140737488355328
  plen : x.picks.length ≤ 17592186044416
theorem StepV.fr {W w : World} {x : StepA} {dv pv : Value} (h : StepV W x dv pv) (hf : Fr no W w) : StepV w x dv pv :=
  ⟨h.data.fr hf fun _ _ h => h, h.picks.fr (by omega) hf fun _ _ h => h, h.name, h.to_, h.at_, h.dlen, h.plen⟩
section
variable {W w : World} {D : Nat} {S S' : AD} {O I : Nat → Prop} {L : Lay} {k : Value → World → Prop}
/-- append([]byte{}, data...), behind the empty slice's making: a new slice. -/
theorem s_copyB {dv : Value} {d : Bytes} {kk : Value → World → Prop} (hd : SBytes w dv d) (hl : d.length ≤ 140737488355328) (hk : ∀ v w', Fr no w w' → SBytes w' v d → (∀ b, sblk v = some b → w.heap.size ≤ b ∧ b < w'.heap.size) → kk v w') :
    px P (bSem .append #[30, 30] 30 #[.slice (some ⟨w.heap.size, 0, none⟩) 0 0, dv]) (w.alloc (.cells #[] 5)) kk := by
  have f1 := Fr.alloc no w (.cells #[] 5)
  have hl1 := own_lit w w.heap.size 5 1 #[] 0 (Nat.le_refl _) (by unfold maxLen; omega) rfl
  have z1 : (w.alloc (.cells #[] 5)).heap.size = w.heap.size + 1 := by simp
  generalize w.alloc (.cells #[] 5) = w1 at *
  refine ap30 hl1 (hd.fr f1 fun _ _ h => h) u8s_one (by omega) (by omega) fun v w2 h2 f2 hb2 => ?_
  have e : (0 + d.length) = d.length := by omega
  rw [e] at h2
  refine hk v w2 ((f1.or f2).mono ?_) (by have := Src.of_own h2; unfold SBytes; simpa using this) ?_
  · rintro b (hb | hb)
    · exact hb.elim
    · injection hb with hb; have hb' : b = w.heap.size := hb; right; omega
  · intro b hb
    have := own_blk_lt h2 hb; omega
theorem s_copyI {pv : Value} {l : List Int} {kk : Value → World → Prop} (hd : Src w pv 1 l.length (l.map i64)) (hl : l.length ≤ 17592186044416) (hk : ∀ v w', Fr no w w' → Src w' v 1 l.length (l.map i64) → (∀ b, sblk v = some b → w.heap.size ≤ b ∧ b < w'.heap.size) → kk v w') :
    px P (bSem .append #[57, 57] 57 #[.slice (some ⟨w.heap.size, 0, none⟩) 0 0, pv]) (w.alloc (.cells #[] 3)) kk := by
  have f1 := Fr.alloc no w (.cells #[] 3)
  have hl1 := own_lit w w.heap.size 3 1 #[] 0 (Nat.le_refl _) (by unfold maxLen; omega) rfl
  have z1 : (w.alloc (.cells #[] 3)).heap.size = w.heap.size + 1 := by simp
  generalize w.alloc (.cells #[] 3) = w1 at *
  refine ap57 hl1 (hd.fr (by omega) f1 fun _ _ h => h) (by intro u hu; obtain ⟨n, _, rfl⟩ := List.mem_map.1 hu; rfl) (by omega) (by omega) fun v w2 h2 f2 hb2 => ?_
  have e : (0 + l.length) = l.length := by omega
  rw [e] at h2
  refine hk v w2 ((f1.or f2).mono ?_) (by have := Src.of_own h2; simpa using this) ?_
  · rintro b (hb | hb)
    · exact hb.elim
    · injection hb with hb; have hb' : b = w.heap.size := hb; right; omega
  · intro b hb
    have := own_blk_lt h2 hb; omega
def stepVal (x : StepA) (dv pv : Value) : Value := .agg #[i64 x.kind, .string x.name, .string x.to_, i64 x.at_, i64 x.n, dv, i64 x.plan.off, i64 x.plan.from_, i64 x.plan.to_, pv]
theorem c_do {c : Nat} {x : StepA} {dv pv : Value} (h : DRep w D S O I L) (ok : S.Ok c) (hv : StepV w x dv pv) (hd39 : x.data.length ≤ 100000)
    (hk : ∀ w' O' I' L', Nx w D O I w' (S.doStep x).2 O' I' L' → k (i64 (S.doStep x).1) w') : pFn P 30 [ptr D, stepVal x dv pv] w k := by
  refine F30_in _ _ _ _ ?_
  unfold F30_0 stepVal
  have hz := h.lt
  refine s_box ?_
  have f1 := Fr.alloc no w (.cells #[i64 x.kind, .string x.name, .string x.to_, i64 x.at_, i64 x.n, dv, i64 x.plan.off, i64 x.plan.from_, i64 x.plan.to_, pv] 59)
  have b1 := alloc_new w (.cells #[i64 x.kind, .string x.name, .string x.to_, i64 x.at_, i64 x.n, dv, i64 x.plan.off, i64 x.plan.from_, i64 x.plan.to_, pv] 59)
  have z1 : (w.alloc (.cells #[i64 x.kind, .string x.name, .string x.to_, i64 x.at_, i64 x.n, dv, i64 x.plan.off, i64 x.plan.from_, i64 x.plan.to_, pv] 59)).heap.size = w.heap.size + 1 := by simp
  show px P _ (w.alloc (.cells #[i64 x.kind, .string x.name, .string x.to_, i64 x.at_, i64 x.n, dv, i64 x.plan.off, i64 x.plan.from_, i64 x.plan.to_, pv] 59)) _
  generalize w.alloc (.cells #[i64 x.kind, .string x.name, .string x.to_, i64 x.at_, i64 x.n, dv, i64 x.plan.off, i64 x.plan.from_, i64 x.plan.to_, pv] 59) = w1 at *
  have h1 := h.fr f1 fun b hb => hb.elim
  have hv1 := hv.fr f1
  have sn := small_name hv.name
  have st := small_name hv.to_
  have out : ∀ {w' O' I' L' r T}, S.doStep x = (r, T) → Nx w1 D O I w' T O' I' L' → k (i64 r) w' := by
    intro w' O' I' L' r T e hx
    have := hk w' O' I' L' (by rw [e]; exact Nx.from f1 hx hz)
    rwa [e] at this
  have nO : ¬ O w.heap.size := fun ho => absurd (hz _ (.inl ho)) (by omega)
  refine fa59_0 (s_ldb (v := i64 x.kind) (Try.isAgg3 _) b1 rfl ?_)
  by_cases k1 : x.kind = 1
  · refine s_eqi_t k1 (pC_true (fa59_1 (s_ldb (v := .string x.name) (Try.isAgg9 _) b1 rfl ?_)))
    exact c_create h1 ok _ sn fun w' O' I' L' hx => out (by unfold AD.doStep; rw [if_pos k1]) hx
  refine s_eqi_f k1 (pC_false ?_)
  by_cases k2 : x.kind = 2
  · refine s_eqi_t k2 (pC_true ?_)
    have fd : Fr no w1 w1.drew := Fr.drew _ _
    have bd := fd.get b1 id
    have hvd := hv1.fr fd
    refine ⟨fun w' => w'.heap[w.heap.size]? = some (.cells #[i64 x.kind, .string x.name, .string x.to_, i64 x.at_, i64 x.n, dv, i64 x.plan.off, i64 x.plan.from_, i64 x.plan.to_, pv] 59 (0, 0)), bd, ?_⟩
    refine q_of _ (fun w_ hS => fa59_1 ⟨rfl, rfl⟩) (q_of (.string x.name) (fun w_ hS => s_ldb (Try.isAgg9 _) hS rfl ⟨rfl, rfl⟩) ?_)
    refine q_of _ (fun w_ hS => fa59_3 ⟨rfl, rfl⟩) (q_of (i64 x.at_) (fun w_ hS => s_ldb (Try.isAgg3 _) hS rfl ⟨rfl, rfl⟩) ?_)
    refine q_of _ (fun w_ hS => fa59_5 ⟨rfl, rfl⟩) (q_of dv (fun w_ hS => s_ldb (Try.isAgg30 _) hS rfl ⟨rfl, rfl⟩) ?_)
    have f2 := Fr.alloc no w1.drew (.cells #[] 5)
    refine lit0_30 ⟨f2.get bd id, s_copyB hvd.data hv.dlen fun v w2 f3 hS3 hb3 => ⟨f3.get bd id, ?_⟩⟩
    have hd1 := h1.fr fd fun b hb => hb.elim
    have h3 := hd1.fr f3 fun b hb => hb.elim
    refine c_writeAt h3 ok _ sn _ hS3 (fun b hb ho => absurd (hd1.lt b (.inl ho)) (by have := (hb3 b hb).1; omega)) (by omega) fun w' O' I' L' hx => ⟨hx.fr.get (f3.get bd id) nO, ?_⟩
    exact out (by unfold AD.doStep; rw [if_neg k1, if_pos k2]) (Nx.from fd (Nx.from f3 hx hd1.lt) h1.lt)
  refine s_eqi_f k2 (pC_false ?_)
  by_cases k3 : x.kind = 3
  · refine s_eqi_t k3 (pC_true ?_)
    have fd : Fr no w1 w1.drew := Fr.drew _ _
    have bd := fd.get b1 id
    have hvd := hv1.fr fd
    refine ⟨fun w' => w'.heap[w.heap.size]? = some (.cells #[i64 x.kind, .string x.name, .string x.to_, i64 x.at_, i64 x.n, dv, i64 x.plan.off, i64 x.plan.from_, i64 x.plan.to_, pv] 59 (0, 0)), bd, ?_⟩
    refine q_of _ (fun w_ hS => fa59_1 ⟨rfl, rfl⟩) (q_of (.string x.name) (fun w_ hS => s_ldb (Try.isAgg9 _) hS rfl ⟨rfl, rfl⟩) ?_)
    refine q_of _ (fun w_ hS => fa59_5 ⟨rfl, rfl⟩) (q_of dv (fun w_ hS => s_ldb (Try.isAgg30 _) hS rfl ⟨rfl, rfl⟩) ?_)
    have f2 := Fr.alloc no w1.drew (.cells #[] 5)
    refine lit0_30 ⟨f2.get bd id, s_copyB hvd.data hv.dlen fun v w2 f3 hS3 hb3 => ⟨f3.get bd id, ?_⟩⟩
    have hd1 := h1.fr fd fun b hb => hb.elim
    have h3 := hd1.fr f3 fun b hb => hb.elim
    refine c_append h3 ok _ sn hS3 (fun b hb ho => absurd (hd1.lt b (.inl ho)) (by have := (hb3 b hb).1; omega)) (by omega) fun w' O' I' L' hx => ⟨hx.fr.get (f3.get bd id) nO, ?_⟩
    exact out (by unfold AD.doStep; rw [if_neg k1, if_neg k2, if_pos k3]) (Nx.from fd (Nx.from f3 hx hd1.lt) h1.lt)
  refine s_eqi_f k3 (pC_false ?_)
  by_cases k4 : x.kind = 4
  · refine s_eqi_t k4 (pC_true (fa59_1 (s_ldb (v := .string x.name) (Try.isAgg9 _) b1 rfl (fa59_4 (s_ldb (v := i64 x.n) (Try.isAgg3 _) b1 rfl ?_)))))
    exact c_truncate h1 ok _ sn _ fun w' O' I' L' hx => out (by unfold AD.doStep; rw [if_neg k1, if_neg k2, if_neg k3, if_pos k4]) hx
  refine s_eqi_f k4 (pC_false ?_)
  by_cases k5 : x.kind = 5
  · refine s_eqi_t k5 (pC_true (fa59_1 (s_ldb (v := .string x.name) (Try.isAgg9 _) b1 rfl (fa59_2 (s_ldb (v := .string x.to_) (Try.isAgg9 _) b1 rfl ?_)))))
    exact c_renameF h1 ok _ _ sn st fun w' O' I' L' hx => out (by unfold AD.doStep; rw [if_neg k1, if_neg k2, if_neg k3, if_neg k4, if_pos k5]) hx
  refine s_eqi_f k5 (pC_false ?_)
  by_cases k6 : x.kind = 6
  · refine s_eqi_t k6 (pC_true (fa59_1 (s_ldb (v := .string x.name) (Try.isAgg9 _) b1 rfl ?_)))
    exact c_remove h1 ok _ sn fun w' O' I' L' hx => out (by unfold AD.doStep; rw [if_neg k1, if_neg k2, if_neg k3, if_neg k4, if_neg k5, if_pos k6]) hx
  refine s_eqi_f k6 (pC_false ?_)
  by_cases k7 : x.kind = 7
  · refine s_eqi_t k7 (pC_true (fa59_1 (s_ldb (v := .string x.name) (Try.isAgg9 _) b1 rfl ?_)))
    exact c_sync h1 ok _ sn fun w' O' I' L' hx => out (by unfold AD.doStep; rw [if_neg k1, if_neg k2, if_neg k3, if_neg k4, if_neg k5, if_neg k6, if_pos k7]) hx
  refine s_eqi_f k7 (pC_false ?_)
  by_cases k8 : x.kind = 8
  · refine s_eqi_t k8 (pC_true ?_)
    exact c_syncNames h1 ok fun w' O' I' L' hx => out (by unfold AD.doStep; rw [if_neg k1, if_neg k2, if_neg k3, if_neg k4, if_neg k5, if_neg k6, if_neg k7, if_pos k8]) hx
  refine s_eqi_f k8 (pC_false ?_)
  by_cases k9 : x.kind = 9
  · refine s_eqi_t k9 (pC_true (fa59_1 (s_ldb (v := .string x.name) (Try.isAgg9 _) b1 rfl (fa59_3 (s_ldb (v := i64 x.at_) (Try.isAgg3 _) b1 rfl (fa59_4 (s_ldb (v := i64 x.n) (Try.isAgg3 _) b1 rfl ?_)))))))
    exact c_read h1 ok _ sn _ _ hv.at_ fun w' O' I' L' v hx _ _ => s_ext rfl (s_ext rfl (out (by unfold AD.doStep; rw [if_neg k1, if_neg k2, if_neg k3, if_neg k4, if_neg k5, if_neg k6, if_neg k7, if_neg k8, if_pos k9]) hx))
  refine s_eqi_f k9 (pC_false ?_)
  by_cases k10 : x.kind = 10
  · refine s_eqi_t k10 (pC_true (fa59_1 (s_ldb (v := .string x.name) (Try.isAgg9 _) b1 rfl ?_)))
    exact c_size h1 ok _ sn (s_ext rfl (s_ext rfl (out (by unfold AD.doStep; rw [if_neg k1, if_neg k2, if_neg k3, if_neg k4, if_neg k5, if_neg k6, if_neg k7, if_neg k8, if_neg k9, if_pos k10]) (Nx.refl h1))))
  refine s_eqi_f k10 (pC_false ?_)
  by_cases k11 : x.kind = 11
  · refine s_eqi_t k11 (pC_true (fa59_6 (s_ldAgg (m := 3) (Try.isAgg46 _) (Try.sizeOf46 _) b1 (by show 0 + 6 + 3 ≤ 10; decide) ?_)))
    refine c_plan h1 ok.room.1 x.plan fun w' O' I' L' hx => ?_
    rw [F30_1_eq]
    exact out (by unfold AD.doStep; rw [if_neg k1, if_neg k2, if_neg k3, if_neg k4, if_neg k5, if_neg k6, if_neg k7, if_neg k8, if_neg k9, if_neg k10, if_pos k11]) hx
  refine s_eqi_f k11 (pC_false ?_)
  by_cases k12 : x.kind = 12
  · refine s_eqi_t k12 (pC_true (lit0_57 ?_))
    have f2 := Fr.alloc no w1 (.cells #[] 3)
    refine fa59_7 (s_ldb (v := pv) (Try.isAgg57 _) (f2.get b1 id) rfl (s_copyI hv1.picks hv1.plen fun v w2 f3 hS3 hb3 => ?_))
    have h3 := h1.fr f3 fun b hb => hb.elim
    refine c_crash (picks := x.picks) sortsKeys h3 ok (by have := hv.plen; omega) hS3 (fun b hb => (hb3 b hb).2) (fun p hp => by have := ok.crashNames_small x.picks p hp; unfold maxLen; omega) fun w' O' I' L' hx => ?_
    rw [F30_1_eq]
    exact out (by unfold AD.doStep; rw [if_neg k1, if_neg k2, if_neg k3, if_neg k4, if_neg k5, if_neg k6, if_neg k7, if_neg k8, if_neg k9, if_neg k10, if_neg k11, if_pos k12]) (Nx.from f3 hx h1.lt)
  refine s_eqi_f k12 (pC_false ?_)
  by_cases k13 : x.kind = 13
  · refine s_eqi_t k13 (pC_true ?_)
    refine c_lookF h1 ok.room.1 fun w' O' I' L' hx => ?_
    rw [F30_1_eq]
    exact out (by unfold AD.doStep; rw [if_neg k1, if_neg k2, if_neg k3, if_neg k4, if_neg k5, if_neg k6, if_neg k7, if_neg k8, if_neg k9, if_neg k10, if_neg k11, if_neg k12, if_pos k13]) hx
  refine s_eqi_f k13 (pC_false ?_)
  rw [F30_1_eq]
  exact out (by unfold AD.doStep; rw [if_neg k1, if_neg k2, if_neg k3, if_neg k4, if_neg k5, if_neg k6, if_neg k7, if_neg k8, if_neg k9, if_neg k10, if_neg k11, if_neg k12, if_neg k13]) (Nx.refl h1)
end
end Go.Proofs.Ytcdcojpfealppaa
