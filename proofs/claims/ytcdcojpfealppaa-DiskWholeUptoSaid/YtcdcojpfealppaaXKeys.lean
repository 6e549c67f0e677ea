/- A map with texts as keys, in the words of the shelf's contracts on slices.Sorted(maps.Keys(m)). -/
import Derived.Test.YtcdcojpfealppaaXAbs
import Derived.Maps.Own
import Derived.StringKeys
import Derived.WideShapes
import Derived.Sort.KeysCollected
set_option linter.unusedVariables false
set_option linter.unusedSimpArgs false
namespace Go.Proofs.XKeys
open Go Go.RowKit Go.Proofs Go.Proofs.XRed Go.Proofs.XHeap Go.Proofs.XMaps Go.Proofs.XDisk Go.WideElems
def R0 : Value → Option (DataW Unit × List MemPlace) := fun _ => some (.nil, [])
theorem owns_of {P : Program} {kt : TypeId} (hk : P.underlying kt = some .string) {w : World} {m : Nat} {l : List (ByteArray × Value)} (h : SMap w m l) (hs : ∀ p ∈ l, p.1.size ≤ maxLen) (hl : l.length ≤ maxLen) :
    ∃ D : DataW Unit, w.ownsMap P kt R0 m l.length D ∧ Maps.size D = l.length ∧ (strKeys D).Perm (l.map fun p => p.1.data.toList) := by
  obtain ⟨es, clock, hm, hst, he⟩ := h
  have hlen : es.size = l.length := by have := congrArg List.length he; simpa using this
  have hread : ∀ x ∈ es.toList, ∃ s : ByteArray, x.key = .string s ∧ s.size ≤ maxLen ∧ rd P kt R0 x = some (.string s.data.toList, .nil) := by
    intro x hx
    have : (x.key, x.val) ∈ l.map fun p => (Value.string p.1, p.2) := by rw [← he]; exact List.mem_map_of_mem (f := fun e : MapEntry => (e.key, e.val)) hx
    obtain ⟨p, hp, e⟩ := List.mem_map.1 this
    simp only [Prod.mk.injEq] at e
    refine ⟨p.1, e.1.symm, hs p hp, ?_⟩
    unfold WideElems.rd
    rw [← e.1, WideMaps.keyOf_string_mk hk (hs p hp)]
    rfl
  refine ⟨.map ((es.toList.map (rg P kt R0)).foldr DataW.insert []), ⟨es, clock, hm, ⟨by omega, hst, fun x hx => by obtain ⟨s, _, _, h⟩ := hread x hx; exact ⟨_, h⟩⟩, by omega, rfl⟩, ?_, ?_⟩
  · have := (WideShapes.sorted_perm (es.toList.map (rg P kt R0))).length_eq
    rw [Maps.size_eq, this]; simpa using hlen
  · have h1 := (WideShapes.sorted_perm (es.toList.map (rg P kt R0))).map fun p => strOf p.1
    refine h1.trans ?_
    have : (es.toList.map (rg P kt R0)).map (fun p => strOf p.1) = (es.toList.map fun e => (e.key, e.val)).map fun q => match q.1 with | .string s => s.data.toList | _ => [] := by
      rw [List.map_map, List.map_map]
      refine List.map_congr_left fun x hx => ?_
      obtain ⟨s, h1, _, h2⟩ := hread x hx
      simp only [Function.comp, rg, h2, Option.getD_some, strOf, h1]
    rw [this, he, List.map_map]
    exact .refl _
/-- The keys in order are those of the list in order. -/
theorem sorted_keys {l l' : Names} (hp : l.Perm l') (ho : Ordered l') {ss : List (List UInt8)} (h : ss.Perm (l.map fun p => p.1.data.toList)) :
    (ss.mergeSort fun x y => decide (x ≤ y)).map encStr = l'.map fun p => Value.string p.1 := by
  have e : ss.mergeSort (fun x y => decide (x ≤ y)) = l'.map fun p => p.1.data.toList := by
    have tr : ∀ a b c : List UInt8, decide (a ≤ b) = true → decide (b ≤ c) = true → decide (a ≤ c) = true := by
      intro a b c h1 h2
      simp only [decide_eq_true_eq] at *
      exact List.le_trans h1 h2
    have to : ∀ a b : List UInt8, (decide (a ≤ b) || decide (b ≤ a)) = true := by
      intro a b
      simp only [Bool.or_eq_true, decide_eq_true_eq]
      exact List.le_total a b
    refine List.Perm.eq_of_pairwise (le := fun a b => decide (a ≤ b) = true) (fun a b _ _ h1 h2 => ?_) (List.pairwise_mergeSort tr to ss) ?_ ((List.mergeSort_perm ss _).trans (h.trans (hp.map _)))
    · simp only [decide_eq_true_eq] at h1 h2
      exact List.le_antisymm h1 h2
    · rw [List.pairwise_map]
      refine ho.imp fun {p q} hpq => ?_
      unfold blt at hpq
      simp only [decide_eq_true_eq] at *
      exact List.le_of_lt hpq
  rw [e, List.map_map]
  rfl
end Go.Proofs.XKeys
