/- Elements of slices of one or two cells, read in one step; the length of what came in. -/
import Derived.Test.YtcdcojpfealppaaXSlices
set_option linter.unusedVariables false
set_option linter.unusedSimpArgs false
namespace Go.Proofs.XSlices
open Go Go.RowKit Go.Proofs.XRed Go.Proofs.XHeap Go.Proofs.XMaps
theorem flatAt {α β : Type} {f : α → List β} {n : Nat} (hn : ∀ a, (f a).length = n) : ∀ {l : List α} {i j : Nat} {a : α}, l[i]? = some a → j < n → (l.flatMap f)[i * n + j]? = (f a)[j]?
  | [], i, j, a, h, _ => by simp at h
  | q :: r, 0, j, a, h, hj => by
    simp only [List.getElem?_cons_zero, Option.some.injEq] at h; subst h
    rw [List.flatMap_cons, Nat.zero_mul, Nat.zero_add, List.getElem?_append_left (by rw [hn]; exact hj)]
  | q :: r, i + 1, j, a, h, hj => by
    have h1 := flatAt hn (l := r) (i := i) (j := j) (a := a) (by simpa using h) hj
    rw [List.flatMap_cons, List.getElem?_append_right (by rw [hn, Nat.add_mul]; omega), hn]
    have e : (i + 1) * n + j - n = i * n + j := by rw [Nat.add_mul]; omega
    rw [e]; exact h1
section
variable {P : Program} {w : World} {k : Value → World → Prop}
theorem s_lenS {t ty : TypeId} {x : Value} {size m : Nat} {cs : List Value} (h : P.underlying t = some (.slice (P.elem t))) (hS : Src w x size m cs) (hk : k (.int .i64 m) w) : px P (bSem .len #[t] ty #[x]) w k := by
  obtain ⟨A, c, rfl, _⟩ := hS
  exact s_len h hk
theorem s_convi {src dst : TypeId} {q q' : IntKind} {n : Int} (hs : (P.underlying src).isSome = true) (hd : P.underlying dst = some (.int (P.intKind dst))) (he : P.intKind dst = q') (hk : k (.int q' (q'.wrap n)) w) : px P (convert src dst (.int q n)) w k := by
  subst he
  exact px_ok (run_convert_int w src dst q n hs hd) hk
/-- Element i, of one cell. -/
theorem s_elem {t te : TypeId} {x u : Value} {m : Nat} {cs : List Value} {q : IntKind} {i : Nat} {kk : Value → Value → World → Prop} (h : P.underlying t = some (.slice (P.elem t))) (hs : (sizeOf (P.elem t)).run P w = .ok 1 w) (hag : (isAgg te).run P w = .ok false w)
    (hS : Src w x 1 m cs) (hi : i < m) (hu : cs[i]? = some u) (hk : ∀ p, kk p u w) : px P (Instr.indexAt t x (.int q i)) w fun p w => px P (Instr.loadAt te p) w (kk p) := by
  refine s_ix_src h hs hS (by omega) (by omega) fun b o hc => ?_
  have := hc 0 u (by omega) (by simpa using hu)
  exact s_ld hag (by simpa using this) (hk _)
theorem run_loadAgg2 {te : TypeId} {b o : Nat} {x y : Value} (hag : (isAgg te).run P w = .ok true w) (hsz : (sizeOf te).run P w = .ok 2 w) (hx : w.cell? ⟨b, o, none⟩ = some x) (hy : w.cell? ⟨b, o + 1, none⟩ = some y) :
    (Instr.loadAt te (.pointer (some ⟨b, o, none⟩))).run P w = .ok (.agg #[x, y]) w := by
  have := run_loadCells_list (P := P) w ⟨b, o, none⟩ [x, y] (fun j v hj => by
    rw [add_at]
    match j, hj with
    | 0, hj => simp only [List.getElem?_cons_zero, Option.some.injEq] at hj; subst hj; exact hx
    | 1, hj => simp only [List.getElem?_cons_succ, List.getElem?_cons_zero, Option.some.injEq] at hj; subst hj; exact hy
    | j + 2, hj => simp at hj)
  have e : ([x, y] : List Value).length = 2 := rfl
  rw [e] at this
  simp [Instr.loadAt, Instr.sureAddr, loadVar, hag, hsz, this, Result.andThen]
theorem s_ld2 {te : TypeId} {b o : Nat} {x y : Value} (hag : (isAgg te).run P w = .ok true w) (hsz : (sizeOf te).run P w = .ok 2 w) (hx : w.cell? ⟨b, o, none⟩ = some x) (hy : w.cell? ⟨b, o + 1, none⟩ = some y) (hk : k (.agg #[x, y]) w) :
    px P (Instr.loadAt te (.pointer (some ⟨b, o, none⟩))) w k := px_ok (run_loadAgg2 hag hsz hx hy) hk
/-- Element i, of two cells. -/
theorem s_elem2 {t te : TypeId} {x u v : Value} {m : Nat} {cs : List Value} {q : IntKind} {i : Nat} {kk : Value → Value → World → Prop} (h : P.underlying t = some (.slice (P.elem t))) (hs : (sizeOf (P.elem t)).run P w = .ok 2 w) (hag : (isAgg te).run P w = .ok true w) (hsz : (sizeOf te).run P w = .ok 2 w)
    (hS : Src w x 2 m cs) (hi : i < m) (hu : cs[i * 2]? = some u) (hv : cs[i * 2 + 1]? = some v) (hk : ∀ p, kk p (.agg #[u, v]) w) : px P (Instr.indexAt t x (.int q i)) w fun p w => px P (Instr.loadAt te p) w (kk p) := by
  refine s_ix_src h hs hS (by omega) (by omega) fun b o hc => ?_
  have h1 := hc 0 u (by omega) (by simpa using hu)
  have h2 := hc 1 v (by omega) (by simpa using hv)
  exact s_ld2 hag hsz (by simpa using h1) h2 (hk _)
/-- The place of element i. -/
theorem Src.place {x : Value} {size m : Nat} {cs : List Value} (hS : Src w x size m cs) {i : Nat} (hi : i < m) (hsz : 0 < size) : ∃ b o c, x = .slice (some ⟨b, o, none⟩) m c ∧ ∀ j u, j < size → cs[i * size + j]? = some u → w.cell? ⟨b, o + i * size + j, none⟩ = some u := by
  obtain ⟨A, c, rfl, hc, hl, hr⟩ := hS
  obtain ⟨b, o, rfl, hcell⟩ := hr (by omega)
  exact ⟨b, o, c, rfl, fun j u hj hu => by rw [Nat.add_assoc]; exact hcell _ u hu⟩
end
end Go.Proofs.XSlices
