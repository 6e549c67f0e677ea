/- Looking for a name; changes of names. -/
import Derived.Test.YtcdcojpfealppaaXAbs
import Derived.Test.YtcdcojpfealppaaNames
set_option linter.unusedVariables false
set_option linter.unusedSimpArgs false
set_option maxRecDepth 100000
namespace Go.Proofs.Ytcdcojpfealppaa
open Go Go.Proofs Go.RowKit Go.Proofs.XRed Go.Proofs.XHeap Go.Proofs.XMaps Go.Proofs.XSlices Go.Proofs.XDisk Go.Proofs.XCalls

/-! ### What lies apart -/
theorem own_obj {w : World} {base size n : Nat} {e : TypeId} {v : Value} {xs : List Value} (h : w.ownsRow base e size v n xs) {b : Nat} (hb : sblk v = some b) : ∃ cur, w.heap[b]? = some (.cells cur e (0, 0)) := by
  rcases h.2 with ⟨rfl, _⟩ | ⟨g, cap, cur, rfl, _, hh, _⟩
  · cases hb
  · simp only [sblk, Option.some.injEq] at hb
    subst hb; exact ⟨cur, hh⟩
theorem two_types {w : World} {b : Nat} {c c' : Array Value} {T T' : TypeId} {f f' : Nat × Nat} (h : w.heap[b]? = some (.cells c T f)) (h' : w.heap[b]? = some (.cells c' T' f')) : T = T' := by
  rw [h] at h'; injection h' with h'; injection h'
theorem SMap.obj {w : World} {m : Nat} {l : List (ByteArray × Value)} (h : SMap w m l) : ∃ es c, w.heap[m]? = some (.map es c) := by obtain ⟨es, c, h, _⟩ := h; exact ⟨es, c, h⟩
section
variable {w : World} {D : Nat} {S : AD} {O I : Nat → Prop} {L : Lay}
/-- The blocks of a disk that are not a thing's, nor its row's. -/
def Own (L : Lay) (D b : Nat) : Prop := b = D ∨ b = L.sh ∨ b = L.sf ∨ sblk L.rowv = some b ∨ sblk L.readsv = some b
theorem DRep.own (h : DRep w D S O I L) {b : Nat} (hb : Own L D b) : O b := by
  rcases hb with rfl | rfl | rfl | hb | hb
  · exact h.oD
  · exact h.osh
  · exact h.osf
  · exact h.orow _ hb
  · exact h.oreads _ hb
theorem DRep.notT (h : DRep w D S O I L) {b : Nat} (hb : Own L D b) {c : Array Value} {T : TypeId} {f : Nat × Nat} (hT : T = 101 ∨ T = 123 ∨ T = 5) : w.heap[b]? ≠ some (.cells c T f) := by
  intro hc
  have key : ∀ (T' : TypeId), T' = 93 ∨ T' = 109 ∨ T' = 86 → T = T' → False := by
    intro T' h1 h2
    subst h2
    rcases hT with rfl | rfl | rfl <;> rcases h1 with h1 | h1 | h1 <;> exact absurd h1 (by decide)
  rcases hb with rfl | rfl | rfl | hb | hb
  · exact key _ (.inl rfl) (two_types hc h.disk)
  · obtain ⟨_, _, hm⟩ := SMap.obj h.sh; rw [hm] at hc; cases hc
  · obtain ⟨_, _, hm⟩ := SMap.obj h.sf; rw [hm] at hc; cases hc
  · obtain ⟨_, hm⟩ := own_obj h.row hb; exact key _ (.inr (.inl rfl)) (two_types hc hm)
  · obtain ⟨_, hm⟩ := own_obj h.reads hb; exact key _ (.inr (.inr rfl)) (two_types hc hm)
theorem TRep.obj {T : Nat} {rb : Value} {x : Thg} (h : TRep w O I T rb x) : ∃ c, w.heap[T]? = some (.cells c 101 (0, 0)) := by obtain ⟨⟨_, _, _, h, _⟩, _⟩ := h; exact ⟨_, h⟩
theorem TRep.robj {T : Nat} {rb : Value} {x : Thg} (h : TRep w O I T rb x) {b : Nat} (hb : sblk rb = some b) : ∃ c, w.heap[b]? = some (.cells c 123 (0, 0)) := by obtain ⟨⟨_, _, _, _, _, _, h, _⟩, _⟩ := h; exact own_obj h hb
/-- Things stay while the disk's other blocks are written. -/
theorem TRep.stay {w' : World} {T : Nat} {rb : Value} {x : Thg} {M : Nat → Prop} (h : DRep w D S O I L) (ht : TRep w O I T rb x) (hf : Fr M w w') (hM : ∀ b, M b → Own L D b ∨ w.heap.size ≤ b) : TRep w' O I T rb x := by
  refine ht.fr (O' := O) (hf.mono (O' := Own L D) hM) ?_ ?_ ?_
  · intro hm; obtain ⟨c, hc⟩ := ht.obj; exact h.notT hm (.inl rfl) hc
  · intro b hb hm; obtain ⟨c, hc⟩ := ht.robj hb; exact h.notT hm (.inr (.inl rfl)) hc
  · intro b hi hm; exact h.apart b (h.own hm) hi

/-! ### Looking -/
theorem mapVals_get (L : Lay) (l : Names) (s : ByteArray) : alGet (mapVals L l) s = (alGet l s).map fun t => ptr (L.loc t) := by
  unfold alGet mapVals
  rw [List.find?_map]
  cases h : List.find? ((fun p => decide (p.1 = s)) ∘ fun p : ByteArray × Nat => (p.1, ptr (L.loc p.2))) l with
  | none =>
    have : List.find? (fun p => decide (p.1 = s)) l = none := h
    rw [this]; rfl
  | some p =>
    have : List.find? (fun p => decide (p.1 = s)) l = some p := h
    rw [this]; rfl
theorem mapVals_keys (L : Lay) (l : Names) : alKeys (mapVals L l) = alKeys l := by simp [alKeys, mapVals, Function.comp_def]
theorem DRep.lshn (h : DRep w D S O I L) : (alKeys L.lsh).Nodup := by have := h.sh.nodup; rwa [mapVals_keys] at this
theorem DRep.lsfn (h : DRep w D S O I L) : (alKeys L.lsf).Nodup := by have := h.sf.nodup; rwa [mapVals_keys] at this
theorem DRep.get (h : DRep w D S O I L) (s : ByteArray) : alGet (mapVals L L.lsh) s = (alGet S.shown s).map fun t => ptr (L.loc t) := by rw [mapVals_get, alGet_perm h.shp h.lshn]
variable {k : Value → World → Prop}
theorem c_look (h : DRep w D S O I L) (hr : 1 ≤ S.room) (s : ByteArray) (hs : s.size ≤ 9223372036854775807)
    (hk : k (.tuple #[if S.look s = 0 then ptr (L.loc (S.of s)) else .pointer none, i64 (S.look s)]) w) : pFn P 44 [ptr D, .string s] w k := by
  refine F44_in _ _ _ _ ?_
  unfold F44_0
  refine c_off h.disk hr ?_
  unfold AD.look AD.of at hk
  cases ho : S.off with
  | true => simp only [ho, if_true] at hk; exact pC_true hk
  | false =>
    refine pC_false (c_isName s hs (s_not ?_))
    simp only [ho, Bool.false_eq_true, if_false] at hk
    cases hn : isName s with
    | false => simp only [hn, Bool.not_false, if_true] at hk; exact pC_true hk
    | true =>
      simp only [hn, Bool.not_true, Bool.false_eq_true, if_false] at hk
      refine pC_false (s_nil (fa93_1 (s_ldb (Try.isAgg90 _) h.disk rfl ?_)))
      refine lk90 h.sh s (Try.zeroValue94 _) ?_
      rw [h.get]
      cases hg : alGet S.shown s with
      | none =>
        simp only [hg] at hk
        exact s_eqpn upt94 (pC_true hk)
      | some t =>
        simp only [hg] at hk
        refine s_eqpn upt94 (pC_false ?_)
        refine s_nil (fa93_1 (s_ldb (Try.isAgg90 _) h.disk rfl ?_))
        refine lk90 h.sh s (Try.zeroValue94 _) ?_
        rw [h.get, hg]
        exact hk

/-! ### Changes of names -/
theorem c_makingOn {m : Nat} {l : List (ByteArray × Value)} {n : ByteArray} {v : Value} (h : SMap w m l) (hk : ∀ w', SMap w' m (alSet l n v) → Fr (fun b => b = m) w w' → k (.tuple #[]) w') : pFn P 123 [.agg #[.string n, v], .map (some m)] w k := by
  refine F123_in _ _ _ _ ?_
  unfold F123_0
  refine s_box ?_
  have hb := alloc_new w (.cells #[.string n, v] 103)
  refine fa103_0 (s_ldb (Try.isAgg9 _) hb rfl ?_)
  refine fa103_1 (s_ldb (Try.isAgg94 _) hb rfl ?_)
  refine up90 (h.alloc _) n v fun w' h' hf _ => hk w' h' ((Fr.alloc _ w _).trans hf fun b hb => .inl hb)
theorem c_takingOn {m : Nat} {l : List (ByteArray × Value)} {n : ByteArray} (h : SMap w m l) (hk : ∀ w', SMap w' m (alDel l n) → Fr (fun b => b = m) w w' → k (.tuple #[]) w') : pFn P 129 [.string n, .map (some m)] w k := by
  refine F129_in _ _ _ _ ?_
  unfold F129_0
  exact de90 h n fun w' h' hf _ => hk w' h' hf
theorem c_givingOn {m : Nat} {l : List (ByteArray × Value)} {a b : ByteArray} {v : Value} (h : SMap w m l) (hv : alGet l a = some v) (hk : ∀ w', SMap w' m (alSet (alDel l a) b v) → Fr (fun b => b = m) w w' → k (.tuple #[]) w') : pFn P 131 [.agg #[.string a, .string b], .map (some m)] w k := by
  refine F131_in _ _ _ _ ?_
  unfold F131_0
  refine s_box ?_
  have hb := alloc_new w (.cells #[.string a, .string b] 135)
  refine fa135_0 (s_ldb (Try.isAgg9 _) hb rfl ?_)
  have hA := h.alloc (.cells #[.string a, .string b] 135)
  refine lk90 hA a (Try.zeroValue94 _) ?_
  rw [hv]
  refine fa135_0 (s_ldb (Try.isAgg9 _) hb rfl ?_)
  refine de90 hA a fun w1 h1 hf1 hz1 => ?_
  have hne : w.heap.size ≠ m := Nat.ne_of_gt h.lt
  have hb1 := hf1.get hb hne
  refine fa135_1 (s_ldb (Try.isAgg9 _) hb1 rfl ?_)
  refine up90 h1 b v fun w' h' hf _ => hk w' h' (((Fr.alloc _ w _).trans hf1 fun b hb => .inl hb).trans hf fun b hb => .inl hb)
theorem mapVals_set (L : Lay) (l : Names) (s : ByteArray) (t : Nat) : alSet (mapVals L l) s (ptr (L.loc t)) = mapVals L (alSet l s t) := by
  have e : ((mapVals L l).any fun p => decide (p.1 = s)) = (l.any fun p => decide (p.1 = s)) := by simp [mapVals, List.any_map, Function.comp_def]
  unfold alSet
  rw [e]
  split
  · simp only [mapVals, List.map_map]
    refine List.map_congr_left fun p _ => ?_
    simp only [Function.comp]
    split <;> rfl
  · simp [mapVals]
theorem mapVals_del (L : Lay) (l : Names) (s : ByteArray) : alDel (mapVals L l) s = mapVals L (alDel l s) := by
  simp [alDel, mapVals, List.filter_map, Function.comp_def]
/-- A change of names, called through the interface, on a map of names. -/
theorem c_on {m : Nat} {l : Names} (c : Turn) (hc : ∀ a b, c = .give a b → alGet l a ≠ none) (h : SMap w m (mapVals L l)) (hk : ∀ w', SMap w' m (mapVals L (c.onL l)) → Fr (fun b => b = m) w w' → k (.tuple #[]) w') :
    pInv P (turnVal L.loc c) "freight/disk.on" [.map (some m)] w k := by
  cases c with
  | mk n t =>
    refine s_inv (f := 123) (by kernel_rfl) Try.underlying103 (fun e h => by cases h) (c_makingOn h fun w' h' hf => hk w' ?_ hf)
    rw [mapVals_set] at h'; exact h'
  | give a b =>
    cases hg : alGet l a with
    | none => exact absurd hg (hc a b rfl)
    | some t =>
      refine s_inv (f := 131) (by kernel_rfl) Try.underlying135 (fun e h => by cases h) (c_givingOn (v := ptr (L.loc t)) h (by rw [mapVals_get, hg]; rfl) fun w' h' hf => hk w' ?_ hf)
      rw [mapVals_del, mapVals_set] at h'
      unfold Turn.onL
      simp only [hg, Option.getD_some]; exact h'
  | take n =>
    refine s_inv (f := 129) (by kernel_rfl) Try.underlying133 (fun e h => by cases h) (c_takingOn h fun w' h' hf => hk w' ?_ hf)
    rw [mapVals_del] at h'; exact h'
end
end Go.Proofs.Ytcdcojpfealppaa
