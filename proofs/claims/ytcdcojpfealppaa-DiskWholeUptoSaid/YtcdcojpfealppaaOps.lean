/- Calls of a disk: Create, Remove, Rename, Sync. -/
import Derived.Test.YtcdcojpfealppaaUsed
set_option linter.unusedVariables false
set_option linter.unusedSimpArgs false
set_option maxRecDepth 100000
namespace Go.Proofs.Ytcdcojpfealppaa
open Go Go.Proofs Go.RowKit Go.Proofs.XRed Go.Proofs.XHeap Go.Proofs.XMaps Go.Proofs.XSlices Go.Proofs.XDisk Go.Proofs.XCalls Go.Proofs.XRange
section
variable {w : World} {D : Nat} {S S' : AD} {O I : Nat → Prop} {L : Lay} {k : Value → World → Prop}
theorem mapVals_congr {L L' : Lay} {l : Names} (h : ∀ p ∈ l, L'.loc p.2 = L.loc p.2) : mapVals L' l = mapVals L l := List.map_congr_left fun p hp => by simp [h p hp]
theorem turnVal_congr {f g : Nat → Nat} {c : Turn} (h : ∀ n t, c = .mk n t → f t = g t) : turnVal f c = turnVal g c := by
  cases c with
  | mk n t => simp [turnVal, h n t rfl]
  | give a b => rfl
  | take n => rfl
/-- A thing that no name leads to is given a place. -/
theorem DRep.place (h : DRep w D S O I L) (n T : Nat) (hn : ¬ reach S n) (x : Thg) (S1 : AD) (e1 : S1.shown = S.shown) (e2 : S1.safe = S.safe) (e3 : S1.row = S.row) (e4 : S1.reads = S.reads) (e5 : dcells S1 L = dcells S L) (e6 : ∀ t, t ≠ n → S1.things t = S.things t) (hT : ¬ O T) (hI : ¬ I T) (hlt : T < w.heap.size) :
    DRep w D S1 (fun b => O b ∨ b = T) I { L with loc := fun i => if i = n then T else L.loc i, trow := fun i => if i = n then .slice none 0 0 else L.trow i } := by
  have hr : ∀ t, reach S1 t ↔ reach S t := by intro t; unfold reach; rw [e1, e2, e3]
  have hne : ∀ t, reach S t → t ≠ n := by rintro t ht rfl; exact hn ht
  exact {
    disk := by show w.heap[D]? = some (.cells (dcells S1 L) 93 (0, 0)); rw [e5]; exact h.disk
    sh := by
      have := h.sh
      rwa [← mapVals_congr (L' := { L with loc := fun i => if i = n then T else L.loc i, trow := fun i => if i = n then .slice none 0 0 else L.trow i }) fun p hp => if_neg (hne p.2 (.inl ⟨p.1, h.shp.mem_iff.1 hp⟩))] at this
    shp := by rw [e1]; exact h.shp
    sf := by
      have := h.sf
      rwa [← mapVals_congr (L' := { L with loc := fun i => if i = n then T else L.loc i, trow := fun i => if i = n then .slice none 0 0 else L.trow i }) fun p hp => if_neg (hne p.2 (.inr (.inl ⟨p.1, h.sfp.mem_iff.1 hp⟩)))] at this
    sfp := by rw [e2]; exact h.sfp
    ne := h.ne
    row := by
      rw [e3]
      have : S.row.map (turnVal fun i => if i = n then T else L.loc i) = S.row.map (turnVal L.loc) := List.map_congr_left fun c hc => turnVal_congr fun m t e => if_neg (hne t (.inr (.inr ⟨m, e ▸ hc⟩)))
      show w.ownsRow 0 _ 1 L.rowv _ (S.row.map (turnVal fun i => if i = n then T else L.loc i))
      rw [this]; exact h.row
    reads := by rw [e4]; exact h.reads
    things := fun t ht => by
      have ht' := (hr t).1 ht
      have hx := hne t ht'
      simp only [if_neg hx, e6 t hx]
      exact (h.things t ht').mono (O := O) (fun b => .inl) fun b => id
    inj := fun t u ht hu e => by
      have ht' := (hr t).1 ht
      have hu' := (hr u).1 hu
      simp only [if_neg (hne t ht'), if_neg (hne u hu')] at e
      exact h.inj t u ht' hu' e
    rows := fun t u ht hu hne' => by
      have ht' := (hr t).1 ht
      have hu' := (hr u).1 hu
      simp only [if_neg (hne t ht'), if_neg (hne u hu')]
      exact h.rows t u ht' hu' hne'
    oD := .inl h.oD
    osh := .inl h.osh
    osf := .inl h.osf
    orow := fun b hb => .inl (h.orow b hb)
    oreads := fun b hb => .inl (h.oreads b hb)
    apart := by
      rintro b (hb | rfl) hi
      · exact h.apart b hb hi
      · exact hI hi
    lt := by
      rintro b ((hb | rfl) | hb)
      · exact h.lt b (.inl hb)
      · exact hlt
      · exact h.lt b (.inr hb) }
theorem c_createC {b1 b2 : Nat} {name : ByteArray} (h : DRep w D S O I L) (hl : S.row.length ≤ 1099511627776) (hn : ¬ reach S S.next) (hb1 : w.heap[b1]? = some (.cells #[ptr D] 24 (0, 0))) (hb2 : w.heap[b2]? = some (.cells #[.string name] 9 (0, 0)))
    (hk : ∀ w' O' I' L', Nx w D O I w' (S.made name) O' I' L' → k (.tuple #[]) w') : pFn P 46 [ptr b1, ptr b2] w k := by
  refine F46_in _ _ _ _ ?_
  unfold F46_0
  refine s_ldb (v := ptr D) (Try.isAgg24 _) hb1 rfl ?_
  refine s_ldb (v := .string name) (Try.isAgg9 _) hb2 rfl ?_
  refine px_ok (w' := w) (v := .agg #[.slice none 0 0, .slice none 0 0, .slice none 0 0]) (by kernel_rfl) ?_
  refine s_box ?_
  have hT := alloc_new w (.cells #[.slice none 0 0, .slice none 0 0, .slice none 0 0] 101)
  have f1 := Fr.alloc no w (.cells #[.slice none 0 0, .slice none 0 0, .slice none 0 0] 101)
  have z1 : (w.alloc (.cells #[.slice none 0 0, .slice none 0 0, .slice none 0 0] 101)).heap.size = w.heap.size + 1 := by simp
  show px P _ (w.alloc (.cells #[.slice none 0 0, .slice none 0 0, .slice none 0 0] 101)) _
  generalize w.alloc (.cells #[.slice none 0 0, .slice none 0 0, .slice none 0 0] 101) = w1 at *
  refine px_ok (w' := w1) (v := .agg #[.string name, ptr w.heap.size]) (by kernel_rfl) ?_
  refine s_mki cc103 ?_
  have h1 := h.fr f1 (fun b hb => hb.elim)
  have hTO : ¬ O w.heap.size := fun hO => absurd (h.lt _ (.inl hO)) (Nat.lt_irrefl _)
  have hTI : ¬ I w.heap.size := fun hO => absurd (h.lt _ (.inr hO)) (Nat.lt_irrefl _)
  have hP := h1.place S.next w.heap.size hn Thg.empty { S.setThing S.next Thg.empty with next := S.next + 1 } rfl rfl rfl rfl rfl (fun t ht => by simp [AD.setThing, ht]) hTO hTI (by omega)
  have hTR : TRep w1 (fun b => O b ∨ b = w.heap.size) I w.heap.size (.slice none 0 0) Thg.empty :=
    ⟨⟨_, _, [], hT, ⟨SBytes.nil _, by rintro b hb; cases hb⟩, ⟨SBytes.nil _, by rintro b hb; cases hb⟩, ⟨rfl, .inl ⟨rfl, rfl⟩⟩, .nil⟩, .inr rfl, by rintro b hb; cases hb⟩
  have hcall := c_rename (k := fun _ w' => k (.tuple #[]) w') hP (.mk name S.next) hl (by intro a b e; cases e) ?_ ?_
  · simpa [turnVal, ptr] using hcall
  · intro n t e hr
    injection e with e1 e2
    subst e2
    refine ⟨?_, ?_⟩
    · simp only [if_true, AD.setThing]; exact hTR
    · intro u hu
      have hu' : reach S u := hu
      have hne : u ≠ S.next := by rintro rfl; exact hn hu'
      simp only [if_neg hne, if_true]
      refine ⟨fun e => hTO (e ▸ (h.things u hu').own), fun b hb hb' => by cases hb'⟩
  · intro w' O' L' hx
    refine hk w' O' I L' ⟨hx.rep, ?_, fun b hb => hx.oo b (.inl hb), fun b => id, ?_, fun b => .inl⟩
    · refine (f1.or hx.fr).mono ?_
      rintro b (hb | hb | rfl)
      · exact hb.elim
      · exact .inl hb
      · exact .inr (Nat.le_refl _)
    · intro b hb
      rcases hx.on b hb with (hb | rfl) | hb
      · exact .inl hb
      · exact .inr (Nat.le_refl _)
      · exact .inr (by omega)
theorem s_lenm {m : Nat} {l : List (ByteArray × Value)} (h : SMap w m l) (hk : k (i64 l.length) w) : px P (bSem .len #[90] 3 #[.map (some m)]) w k := by
  obtain ⟨es, clock, hm, hs, hl⟩ := h
  have e : es.size = l.length := by have := congrArg List.length hl; simpa using this
  refine px_ok (w' := w) ?_ hk
  simp [bSem, Builtin.len_, goInt, run_underlying Try.underlying90, MapKept.run_getObj_map hm, Result.andThen, e]
theorem Nx.from {w0 : World} {w' : World} {O' I' : Nat → Prop} {L' : Lay} (hf : Fr no w0 w) (h : Nx w D O I w' S' O' I' L') (ho : ∀ b, O b ∨ I b → b < w0.heap.size) : Nx w0 D O I w' S' O' I' L' where
  rep := h.rep
  fr := (hf.or h.fr).mono fun b hb => hb.elim (fun h => h.elim) .inl
  oo := h.oo
  ii := h.ii
  on := fun b hb => (h.on b hb).imp id (Nat.le_trans hf.size)
  in_ := fun b hb => (h.in_ b hb).imp id (Nat.le_trans hf.size)
theorem look_vals (S : AD) (name : ByteArray) : S.look name = 50 ∨ S.look name = 51 ∨ S.look name = 53 ∨ (S.look name = 0 ∧ alGet S.shown name = some (S.of name)) := by
  unfold AD.look AD.of
  split
  · exact .inl rfl
  · split
    · exact .inr (.inl rfl)
    · cases alGet S.shown name with
      | none => exact .inr (.inr (.inl rfl))
      | some t => exact .inr (.inr (.inr ⟨rfl, rfl⟩))
theorem c_create {c : Nat} (h : DRep w D S O I L) (ok : S.Ok c) (name : ByteArray) (hs : name.size ≤ 9223372036854775807)
    (hk : ∀ w' O' I' L', Nx w D O I w' (S.create name).2 O' I' L' → k (i64 (S.create name).1) w') : pFn P 10 [ptr D, .string name] w k := by
  refine F10_in _ _ _ _ ?_
  unfold F10_0
  have hz := h.lt
  refine s_box ?_
  have f1 := Fr.alloc no w (.cells #[ptr D] 24)
  have b1 := alloc_new w (.cells #[ptr D] 24)
  have z1 : (w.alloc (.cells #[ptr D] 24)).heap.size = w.heap.size + 1 := by simp
  show px P _ (w.alloc (.cells #[ptr D] 24)) _
  generalize w.alloc (.cells #[ptr D] 24) = w1 at *
  refine s_box ?_
  have f2 := Fr.alloc no w1 (.cells #[.string name] 9)
  have b2 := alloc_new w1 (.cells #[.string name] 9)
  have z2 : (w1.alloc (.cells #[.string name] 9)).heap.size = w1.heap.size + 1 := by simp
  have b1' := f2.get b1 id
  show px P _ (w1.alloc (.cells #[.string name] 9)) _
  generalize w1.alloc (.cells #[.string name] 9) = w2 at *
  have f12 : Fr no w w2 := (f1.or f2).mono fun b hb => hb.elim (fun h => h.elim) fun h => h.elim
  have h2 := h.fr f12 fun b hb => hb.elim
  have hN0 : Nx w D O I w2 S O I L := Nx.from f12 (Nx.refl h2) hz
  refine s_ldb (v := ptr D) (Try.isAgg24 _) b1' rfl ?_
  refine s_ldb (v := .string name) (Try.isAgg9 _) b2 rfl ?_
  refine c_look h2 ok.room.1 name hs ?_
  refine s_ext rfl (s_ext rfl ?_)
  have go : S.look name = 53 → ∀ ρ r, ρ 2 = ptr w.heap.size → ρ 3 = ptr w1.heap.size → ρ 7 = i64 r → r = (if S.shown.length ≥ 256 then 56 else 0) → F10A k [1, 1, 1, 1] ρ w2 := by
    intro hl ρ r e2 e3 e7 er
    rw [F10_1_eq]
    unfold F10_1
    rw [e2, e3, e7]
    refine s_ldb (v := ptr D) (Try.isAgg24 _) b1' rfl (s_mkf ?_)
    have ec : S.create name = S.stroke 1 r (fun S => S.made name) := by
      unfold AD.create
      rw [if_neg (by rw [hl]; decide), if_pos hl, er]
    refine c_stroke (act := fun S => S.made name) 1 r _ h2 ⟨ok.strokes.1, by have := ok.strokes.2; have := ok.small; omega⟩ ⟨ok.since.1, by have := ok.since.2; have := ok.small; omega⟩ (fun T => rfl) ?_ ?_
    · intro _ w3 hR f3 K hK
      have g1 : w3.heap[w.heap.size]? = some (.cells #[ptr D] 24 (0, 0)) := f3.get b1' (by rintro e; exact absurd (hz D (.inl h.oD)) (by omega))
      have g2 : w3.heap[w1.heap.size]? = some (.cells #[.string name] 9 (0, 0)) := f3.get b2 (by rintro e; exact absurd (hz D (.inl h.oD)) (by omega))
      exact c_createC hR (by have := ok.row; have := ok.small; show S.row.length ≤ _; omega) (fun hr => absurd (ok.next _ hr) (Nat.lt_irrefl _)) g1 g2 fun w' O' I' L' hx => hK _ w' O' I' L' hx
    · intro w' O' I' L' hx
      rw [← ec]
      exact hk w' O' I' L' (by rw [ec]; exact Nx.from f12 hx hz)
  rcases look_vals S name with hl | hl | hl | ⟨hl, _⟩
  · have ec : S.create name = (50, S) := by unfold AD.create; rw [hl]; rfl
    rw [hl]
    refine s_eqi_f (by decide) (pC_false (s_eqi_f (by decide) (pC_false ?_)))
    have := hk w2 O I L (by rw [ec]; exact hN0)
    rw [ec] at this; exact this
  · have ec : S.create name = (51, S) := by unfold AD.create; rw [hl]; rfl
    rw [hl]
    refine s_eqi_f (by decide) (pC_false (s_eqi_f (by decide) (pC_false ?_)))
    have := hk w2 O I L (by rw [ec]; exact hN0)
    rw [ec] at this; exact this
  · rw [hl]
    refine s_eqi_f (by decide) (pC_false (s_eqi_t rfl (pC_true ?_)))
    refine s_ldb (v := ptr D) (Try.isAgg24 _) b1' rfl ?_
    refine s_nil (fa93_1 (s_ldb (v := .map (some L.sh)) (Try.isAgg90 _) h2.disk rfl (s_lenm h2.sh ?_)))
    have e : (mapVals L L.lsh).length = S.shown.length := by rw [← h.shp.length_eq]; simp [mapVals]
    rw [e]
    by_cases hge : S.shown.length ≥ 256
    · refine s_ge_t (by omega) (pC_true (go hl _ 56 rfl rfl rfl (by rw [if_pos hge])))
    · refine s_ge_f (by omega) (pC_false (go hl _ 0 rfl rfl rfl (by rw [if_neg hge])))
  · have ec : S.create name = (52, S) := by unfold AD.create; rw [hl]; rfl
    rw [hl]
    refine s_eqi_t rfl (pC_true ?_)
    have := hk w2 O I L (by rw [ec]; exact hN0)
    rw [ec] at this; exact this
theorem c_removeC {b1 b2 : Nat} {name : ByteArray} (h : DRep w D S O I L) (hl : S.row.length ≤ 1099511627776) (hb1 : w.heap[b1]? = some (.cells #[ptr D] 24 (0, 0))) (hb2 : w.heap[b2]? = some (.cells #[.string name] 9 (0, 0)))
    (hk : ∀ w' O' L', Nx w D O I w' (S.turned (.take name)) O' I L' → k (.tuple #[]) w') : pFn P 74 [ptr b1, ptr b2] w k := by
  refine F74_in _ _ _ _ ?_
  unfold F74_0
  refine s_ldb (v := ptr D) (Try.isAgg24 _) hb1 rfl ?_
  refine s_ldb (v := .string name) (Try.isAgg9 _) hb2 rfl ?_
  refine s_mki cc133 ?_
  have := c_rename (k := fun _ w' => k (.tuple #[]) w') h (.take name) hl (by intro a b e; cases e) (by intro n t e; cases e) fun w' O' L' hx => hk w' O' L' hx
  exact this
theorem c_renameC {b1 b2 b3 : Nat} {a b : ByteArray} (h : DRep w D S O I L) (hl : S.row.length ≤ 1099511627776) (hb1 : w.heap[b1]? = some (.cells #[.string a] 9 (0, 0))) (hb2 : w.heap[b2]? = some (.cells #[.string b] 9 (0, 0)))
    (hb3 : w.heap[b3]? = some (.cells #[ptr D] 24 (0, 0))) (hg : alGet S.shown a ≠ none)
    (hk : ∀ w' O' L', Nx w D O I w' (if a = b then S else S.turned (.give a b)) O' I L' → k (.tuple #[]) w') : pFn P 75 [ptr b1, ptr b2, ptr b3] w k := by
  refine F75_in _ _ _ _ _ ?_
  unfold F75_0
  refine s_ldb (v := .string a) (Try.isAgg9 _) hb1 rfl ?_
  refine s_ldb (v := .string b) (Try.isAgg9 _) hb2 rfl ?_
  refine s_nes ?_
  by_cases e : a = b
  · rw [decide_eq_true e]
    refine pC_false (hk w O L ?_)
    rw [if_pos e]; exact Nx.refl h
  · rw [decide_eq_false e]
    refine pC_true ?_
    refine s_ldb (v := ptr D) (Try.isAgg24 _) hb3 rfl ?_
    refine s_ldb (v := .string a) (Try.isAgg9 _) hb1 rfl ?_
    refine s_ldb (v := .string b) (Try.isAgg9 _) hb2 rfl ?_
    refine px_ok (w' := w) (v := .agg #[.string a, .string b]) (by kernel_rfl) ?_
    refine s_mki cc135 ?_
    have := c_rename (k := fun _ w' => k (.tuple #[]) w') h (.give a b) hl (by intro a' b' e'; injection e' with e1 e2; subst e1; exact hg) (by intro n t e; cases e) fun w' O' L' hx => hk w' O' L' (by rw [if_neg e]; exact hx)
    exact this
theorem c_remove {c : Nat} (h : DRep w D S O I L) (ok : S.Ok c) (name : ByteArray) (hs : name.size ≤ 9223372036854775807)
    (hk : ∀ w' O' I' L', Nx w D O I w' (S.remove name).2 O' I' L' → k (i64 (S.remove name).1) w') : pFn P 51 [ptr D, .string name] w k := by
  refine F51_in _ _ _ _ ?_
  unfold F51_0
  have hz := h.lt
  refine s_box ?_
  have f1 := Fr.alloc no w (.cells #[ptr D] 24)
  have b1 := alloc_new w (.cells #[ptr D] 24)
  have z1 : (w.alloc (.cells #[ptr D] 24)).heap.size = w.heap.size + 1 := by simp
  show px P _ (w.alloc (.cells #[ptr D] 24)) _
  generalize w.alloc (.cells #[ptr D] 24) = w1 at *
  refine s_box ?_
  have f2 := Fr.alloc no w1 (.cells #[.string name] 9)
  have b2 := alloc_new w1 (.cells #[.string name] 9)
  have z2 : (w1.alloc (.cells #[.string name] 9)).heap.size = w1.heap.size + 1 := by simp
  show px P _ (w1.alloc (.cells #[.string name] 9)) _
  generalize w1.alloc (.cells #[.string name] 9) = w2 at *
  have b1' := f2.get b1 id
  have f12 : Fr no w w2 := (f1.or f2).mono fun b hb => hb.elim (fun h => h.elim) fun h => h.elim
  have h2 := h.fr f12 fun b hb => hb.elim
  have hN0 : Nx w D O I w2 S O I L := Nx.from f12 (Nx.refl h2) hz
  refine s_ldb (v := ptr D) (Try.isAgg24 _) b1' rfl ?_
  refine s_ldb (v := .string name) (Try.isAgg9 _) b2 rfl ?_
  refine c_look h2 ok.room.1 name hs ?_
  refine s_ext rfl (s_ext rfl ?_)
  by_cases hl : S.look name = 0
  · rw [hl]
    refine s_nei_f rfl (pC_false ?_)
    refine s_ldb (v := ptr D) (Try.isAgg24 _) b1' rfl (s_mkf ?_)
    have ec : S.remove name = S.stroke 0 0 (fun T => T.turned (.take name)) := by unfold AD.remove; rw [if_neg (by simp [hl])]
    refine c_stroke (act := fun T => T.turned (.take name)) 0 0 _ h2 ⟨ok.strokes.1, by have := ok.strokes.2; have := ok.small; omega⟩ ⟨ok.since.1, by have := ok.since.2; have := ok.small; omega⟩ (fun T => rfl) ?_ ?_
    · intro _ w3 hR f3 K hK
      have g1 : w3.heap[w.heap.size]? = some (.cells #[ptr D] 24 (0, 0)) := f3.get b1' (by rintro e; exact absurd (hz D (.inl h.oD)) (by omega))
      have g2 : w3.heap[w1.heap.size]? = some (.cells #[.string name] 9 (0, 0)) := f3.get b2 (by rintro e; exact absurd (hz D (.inl h.oD)) (by omega))
      exact c_removeC hR (by have := ok.row; have := ok.small; show S.row.length ≤ _; omega) g1 g2 fun w' O' L' hx => hK _ w' O' _ L' hx
    · intro w' O' I' L' hx
      rw [← ec]
      exact hk w' O' I' L' (by rw [ec]; exact Nx.from f12 hx hz)
  · have ec : S.remove name = (S.look name, S) := by unfold AD.remove; rw [if_pos hl]
    refine s_nei_t hl (pC_true ?_)
    have := hk w2 O I L (by rw [ec]; exact hN0)
    rw [ec] at this; exact this
theorem c_renameF {c : Nat} (h : DRep w D S O I L) (ok : S.Ok c) (a b : ByteArray) (ha : a.size ≤ 9223372036854775807) (hb : b.size ≤ 9223372036854775807)
    (hk : ∀ w' O' I' L', Nx w D O I w' (S.rename a b).2 O' I' L' → k (i64 (S.rename a b).1) w') : pFn P 52 [ptr D, .string a, .string b] w k := by
  refine F52_in _ _ _ _ _ ?_
  unfold F52_0
  have hz := h.lt
  refine s_box ?_
  have f1 := Fr.alloc no w (.cells #[ptr D] 24)
  have b1 := alloc_new w (.cells #[ptr D] 24)
  have z1 : (w.alloc (.cells #[ptr D] 24)).heap.size = w.heap.size + 1 := by simp
  show px P _ (w.alloc (.cells #[ptr D] 24)) _
  generalize w.alloc (.cells #[ptr D] 24) = w1 at *
  refine s_box ?_
  have f2 := Fr.alloc no w1 (.cells #[.string a] 9)
  have b2 := alloc_new w1 (.cells #[.string a] 9)
  have z2 : (w1.alloc (.cells #[.string a] 9)).heap.size = w1.heap.size + 1 := by simp
  show px P _ (w1.alloc (.cells #[.string a] 9)) _
  generalize w1.alloc (.cells #[.string a] 9) = w2 at *
  refine s_box ?_
  have f3 := Fr.alloc no w2 (.cells #[.string b] 9)
  have b3 := alloc_new w2 (.cells #[.string b] 9)
  have z3 : (w2.alloc (.cells #[.string b] 9)).heap.size = w2.heap.size + 1 := by simp
  show px P _ (w2.alloc (.cells #[.string b] 9)) _
  generalize w2.alloc (.cells #[.string b] 9) = w3 at *
  have b1' := f3.get (f2.get b1 id) id
  have b2' := f3.get b2 id
  have f13 : Fr no w w3 := ((f1.or f2).or f3).mono fun b hb => hb.elim (fun hb => hb.elim (fun h => h.elim) fun h => h.elim) fun h => h.elim
  have h3 := h.fr f13 fun b hb => hb.elim
  have hN0 : Nx w D O I w3 S O I L := Nx.from f13 (Nx.refl h3) hz
  refine s_ldb (v := ptr D) (Try.isAgg24 _) b1' rfl ?_
  refine c_off h3.disk ok.room.1 ?_
  have done : ∀ r, S.rename a b = (r, S) → k (i64 r) w3 := by
    intro r ec
    have := hk w3 O I L (by rw [ec]; exact hN0)
    rw [ec] at this; exact this
  cases ho : S.off with
  | true => exact pC_true (done 50 (by unfold AD.rename; simp [ho]))
  | false =>
    refine pC_false (s_ldb (v := .string a) (Try.isAgg9 _) b2' rfl (c_isName a ha (s_not ?_)))
    cases hn : isName a with
    | false => exact pG_skf (pG_skf (pG_skf (s_pick_t (pC_true (done 51 (by unfold AD.rename; simp [ho, hn]))))))
    | true =>
      refine pG_yes rfl (s_ldb (v := .string b) (Try.isAgg9 _) b3 rfl (pG_yes rfl (c_isName b hb (pG_yes rfl (s_not (s_pick_f ?_))))))
      cases hn' : isName b with
      | false => exact pC_true (done 51 (by unfold AD.rename; simp [ho, hn, hn']))
      | true =>
        refine pC_false ?_
        refine ⟨fun w' => w'.heap[w.heap.size]? = some (.cells #[ptr D] 24 (0, 0)) ∧ w'.heap[w1.heap.size]? = some (.cells #[.string a] 9 (0, 0)) ∧ w'.heap[D]? = some (.cells (dcells S L) 93 (0, 0)) ∧ SMap w' L.sh (mapVals L L.lsh), ⟨b1', b2', h3.disk, h3.sh⟩, ?_⟩
        refine q_of (ptr D) (fun w_ hS => s_ldb (Try.isAgg24 _) hS.1 rfl ⟨rfl, rfl⟩) ?_
        refine q_of _ (fun w_ hS => s_nil ⟨rfl, rfl⟩) ?_
        refine q_of _ (fun w_ hS => fa93_1 ⟨rfl, rfl⟩) ?_
        refine q_of (.map (some L.sh)) (fun w_ hS => s_ldb (Try.isAgg90 _) hS.2.2.1 rfl ⟨rfl, rfl⟩) ?_
        refine q_of (.string a) (fun w_ hS => s_ldb (Try.isAgg9 _) hS.2.1 rfl ⟨rfl, rfl⟩) ?_
        refine q_of _ (fun w_ hS => lk90 hS.2.2.2 a (Try.zeroValue94 _) ⟨rfl, rfl⟩) ?_
        rw [h.get]
        have f4 : Fr no w3 w3.drew := Fr.drew _ _
        have f14 : Fr no w w3.drew := (f13.or f4).mono fun b hb => hb.elim (fun h => h.elim) fun h => h.elim
        have h4 : DRep w3.drew D S O I L := h3.fr f4 fun b hb => hb.elim
        cases hg : alGet S.shown a with
        | none =>
          refine q_of _ (fun w_ hS => s_eqpn upt94 ⟨rfl, rfl⟩) (pC_true ?_)
          have ec : S.rename a b = (53, S) := by unfold AD.rename; simp [ho, hn, hn', hg]
          have := hk w3.drew O I L (by rw [ec]; exact Nx.from f14 (Nx.refl h4) hz)
          rw [ec] at this; exact this
        | some t =>
          refine q_of _ (fun w_ hS => s_eqpn upt94 ⟨rfl, rfl⟩) (pC_false ?_)
          refine s_ldb (v := ptr D) (Try.isAgg24 _) (f4.get b1' id) rfl (s_mkf ?_)
          have ec : S.rename a b = S.stroke 0 0 (fun T => if a = b then T else T.turned (.give a b)) := by unfold AD.rename; simp [ho, hn, hn', hg]
          refine c_stroke (act := fun T => if a = b then T else T.turned (.give a b)) 0 0 _ h4 ⟨ok.strokes.1, by have := ok.strokes.2; have := ok.small; omega⟩ ⟨ok.since.1, by have := ok.since.2; have := ok.small; omega⟩ (fun T => by show (if a = b then T else T.turned (.give a b)).off = _; split <;> rfl) ?_ ?_
          · intro _ w5 hR f5 K hK
            have hD := hz D (.inl h.oD)
            have g1 : w5.heap[w.heap.size]? = some (.cells #[ptr D] 24 (0, 0)) := f5.get (f4.get b1' id) (by omega)
            have g2 : w5.heap[w1.heap.size]? = some (.cells #[.string a] 9 (0, 0)) := f5.get (f4.get b2' id) (by omega)
            have g3 : w5.heap[w2.heap.size]? = some (.cells #[.string b] 9 (0, 0)) := f5.get (f4.get b3 id) (by omega)
            exact c_renameC hR (by have := ok.row; have := ok.small; show S.row.length ≤ _; omega) g2 g3 g1 (by show alGet S.shown a ≠ none; rw [hg]; simp) fun w' O' L' hx => hK _ w' O' _ L' hx
          · intro w' O' I' L' hx
            rw [← ec]
            exact hk w' O' I' L' (by rw [ec]; exact Nx.from f14 hx hz)
theorem c_sync {c : Nat} (h : DRep w D S O I L) (ok : S.Ok c) (name : ByteArray) (hs : name.size ≤ 9223372036854775807)
    (hk : ∀ w' O' I' L', Nx w D O I w' (S.sync name).2 O' I' L' → k (i64 (S.sync name).1) w') : pFn P 12 [ptr D, .string name] w k := by
  refine F12_in _ _ _ _ ?_
  unfold F12_0
  refine c_look h ok.room.1 name hs ?_
  refine s_ext rfl (s_ext rfl ?_)
  by_cases hl : S.look name = 0
  · have hg : alGet S.shown name = some (S.of name) := by
      rcases look_vals S name with h | h | h | h
      · rw [h] at hl; cases hl
      · rw [h] at hl; cases hl
      · rw [h] at hl; cases hl
      · exact h.2
    have hr : reach S (S.of name) := .inl ⟨name, mem_of_alGet hg⟩
    rw [if_pos hl, hl]
    refine s_nei_f rfl (pC_false (s_mkf ?_))
    have ec : S.sync name = S.stroke 2 0 (fun T => T.setThing (S.of name) (T.things (S.of name)).settle) := by unfold AD.sync; rw [if_neg (by simp [hl])]
    refine c_stroke (act := fun T => T.setThing (S.of name) (T.things (S.of name)).settle) 2 0 _ h ⟨ok.strokes.1, by have := ok.strokes.2; have := ok.small; omega⟩ ⟨ok.since.1, by have := ok.since.2; have := ok.small; omega⟩ (fun T => rfl) ?_ ?_
    · intro _ w3 hR f3 K hK
      exact c_settle hR hr fun w' O' I' L' hx => hK _ w' O' I' L' hx
    · intro w' O' I' L' hx
      rw [← ec]
      exact hk w' O' I' L' (by rw [ec]; exact hx)
  · have ec : S.sync name = (S.look name, S) := by unfold AD.sync; rw [if_pos hl]
    refine s_nei_t hl (pC_true ?_)
    have := hk w O I L (by rw [ec]; exact Nx.refl h)
    rw [ec] at this; exact this
end
end Go.Proofs.Ytcdcojpfealppaa
