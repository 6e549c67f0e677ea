/- Crash: new things for all names. -/
import Derived.Test.YtcdcojpfealppaaCrash
set_option linter.unusedVariables false
set_option linter.unusedSimpArgs false
set_option maxRecDepth 100000
namespace Go.Proofs.Ytcdcojpfealppaa
open Go Go.Proofs Go.RowKit Go.Proofs.XRed Go.Proofs.XHeap Go.Proofs.XMaps Go.Proofs.XSlices Go.Proofs.XDisk Go.Proofs.XCalls Go.Proofs.XRange Go.Proofs.XKeys
def crashThing (S : AD) (picks : List Int) (i t : Nat) : Thg := ⟨S.crashBytes picks i t, S.crashBytes picks i t, []⟩
/-- In the midst of a crash: j names have new things. -/
structure Mid (w0 w : World) (S : AD) (L : Lay) (N : Names) (m b3 : Nat) (picks : List Int) (j : Nat) (lst : Names) (L1 : Lay) (Ob Ib : Nat → Prop) : Prop where
  map : SMap w m (mapVals L1 lst)
  perm : lst.Perm (midNames N S.next j)
  loc : ∀ t, t < S.next → L1.loc t = L.loc t
  pk : Picks w w0.heap.size b3 (picks.drop (j + 1))
  things : ∀ i p, i < j → N[i]? = some p → TRep w Ob Ib (L1.loc (S.next + i)) (.slice none 0 0) (crashThing S picks i p.2)
  inj : ∀ i i', i < j → i' < j → L1.loc (S.next + i) = L1.loc (S.next + i') → i = i'
  om : Ob m
  new : ∀ b, Ob b ∨ Ib b → w0.heap.size ≤ b ∧ b < w.heap.size
  dis : ∀ b, Ob b → ¬ Ib b
  ob3 : ¬ Ob b3
  ib3 : ¬ Ib b3
  fr : Fr no w0 w
section
variable {w w0 : World} {D : Nat} {S S' : AD} {O I : Nat → Prop} {L : Lay} {k : Value → World → Prop}
theorem Mid.step {N lst : Names} {m b3 : Nat} {picks : List Int} {j : Nat} {L1 : Lay} {Ob Ib : Nat → Prop} (h : DRep w0 D S O I L) {c : Nat} (ok : S.Ok c) (M : Mid w0 w S L N m b3 picks j lst L1 Ob Ib) (hN : ∀ p ∈ N, reach S p.2) (hNn : (alKeys N).Nodup) (hj : j < N.length) (hpl : picks.length ≤ 4611686018427387904) {kk : Value → Value → Value → Value → Value → Value → Value → World → Prop}
    (hk : ∀ w' lst' L1' Ob' Ib', Mid w0 w' S L N m b3 picks (j + 1) lst' L1' Ob' Ib' → Fr (fun b => b = m ∨ b = b3) w w' → ∀ v1 v2 v3 v4 v5 v6 v7, kk v1 v2 v3 v4 v5 v6 v7 w') :
    ∃ Sx : World → Prop, Sx w.drew ∧ pq P Sx (Instr.lookup 90 (.map (some m)) (.string N[j].1) false) fun v49 => pq P Sx (Instr.lookup 90 (.map (some m)) (.string N[j].1) false) fun v53 =>
      pFn P 58 [v53] w.drew fun v54 w => Sx w ∧ (pFn P 54 [v54, ptr b3] w fun v55 w => Sx w ∧ (pFn P 57 [v49, v55] w fun v56 w => Sx w ∧ (
        px P (Instr.build 101 #[(0, v56), (1, v56)]) w fun v61 w => px P (Instr.box 101 v61) w fun v62 w => pu P (Instr.mapUpdate 90 (.map (some m)) (.string N[j].1) v62) w fun w => kk v49 v53 v54 v55 v56 v61 v62 w))) := by
  have hlstn : (alKeys lst).Nodup := by have := M.map.nodup; rwa [mapVals_keys] at this
  have hmid : (alKeys (midNames N S.next j)).Nodup := by rw [midNames_keys]; exact hNn
  have hr : reach S N[j].2 := hN _ (List.getElem_mem hj)
  have hlt := ok.next _ hr
  have hget : alGet (mapVals L1 lst) N[j].1 = some (ptr (L.loc N[j].2)) := by
    rw [mapVals_get, alGet_perm M.perm hlstn]
    have : (N[j].1, N[j].2) ∈ midNames N S.next j := List.mem_of_getElem? (by rw [midNames_at N S.next j j hj]; simp)
    rw [alGet_mem hmid this]
    simp [M.loc _ hlt]
  have hb3 := M.pk.1
  have hmb3 : m ≠ b3 := fun e => M.ob3 (e ▸ M.om)
  have f0 : Fr no w w.drew := Fr.drew _ _
  refine ⟨fun w' => SMap w' m (mapVals L1 lst), M.map.fr f0 id, ?_⟩
  refine q_of (ptr (L.loc N[j].2)) (fun w_ hS => lk90 hS N[j].1 (Try.zeroValue94 _) ⟨by rw [hget]; rfl, rfl⟩) ?_
  refine q_of (ptr (L.loc N[j].2)) (fun w_ hS => lk90 hS N[j].1 (Try.zeroValue94 _) ⟨by rw [hget]; rfl, rfl⟩) ?_
  have tok := ok.thing _ hr
  have fd : Fr no w0 w.drew := (M.fr.or f0).mono fun b hb => hb.elim (fun h => h.elim) fun h => h.elim
  have hT1 := (h.things _ hr).fr (O' := O) fd (fun h => h) (fun _ _ h => h) (fun _ _ h => h)
  have hu : unitsOf (S.things N[j].2).row ≤ 4611686018427387904 := by
    have h1 := unitsOf_le tok.ok.units_at
    have h2 := tok.row
    have h3 := ok.small
    have h4 : (S.things N[j].2).row.length * 1048576 ≤ 1099511627776 * 1048576 := Nat.mul_le_mul_right _ (by omega)
    omega
  refine c_tunits hT1 tok ok.small fun w1 f1 => ?_
  have m1 := (M.map.fr f0 id).fr f1 id
  refine ⟨m1, ?_⟩
  have p1 := ((M.pk.fr f0 id fun _ _ h => h).fr f1 id fun _ _ h => h)
  refine c_next p1 hu (by have : (picks.drop (j + 1)).length ≤ picks.length := by rw [List.length_drop]; omega
                          omega) fun w2 p2 f2 z2 => ?_
  have m2 := m1.fr f2 hmb3
  refine ⟨m2, ?_⟩
  rw [pickHd_drop, tail_drop] at *
  have hsz1 := fd.size
  have f02 : Fr no w0 w2 := ((fd.or f1).or f2).mono (by
    rintro b ((hb | hb) | hb)
    · exact hb.elim
    · exact hb.elim
    · exact .inr (by omega))
  have hT2 := (h.things _ hr).fr (O' := O) f02 (fun h => h) (fun _ _ h => h) (fun _ _ h => h)
  have hpk : pickA picks (j + 1) (unitsOf (S.things N[j].2).row) ≤ unitsOf (S.things N[j].2).row := by rw [← pickHd_drop]; exact pickHd_le _ _
  refine c_left hT2 tok ok.small (by omega) fun w3 v3 h3 hb3' f3 => ?_
  refine ⟨m2.fr f3 id, ?_⟩
  obtain ⟨A3, c3, e3, hc3⟩ := h3.form
  refine px_ok (w' := w3) (v := .agg #[v3, v3, .slice none 0 0]) (by subst e3; kernel_rfl) ?_
  refine s_box ?_
  have hT := alloc_new w3 (.cells #[v3, v3, .slice none 0 0] 101)
  have f4 := Fr.alloc no w3 (.cells #[v3, v3, .slice none 0 0] 101)
  have z4 : (w3.alloc (.cells #[v3, v3, .slice none 0 0] 101)).heap.size = w3.heap.size + 1 := by simp
  show pu P _ (w3.alloc (.cells #[v3, v3, .slice none 0 0] 101)) _
  generalize w3.alloc (.cells #[v3, v3, .slice none 0 0] 101) = w4 at *
  have m4 := (m2.fr f3 id).fr f4 id
  refine up90 m4 N[j].1 (ptr w3.heap.size) fun w5 m5 f5 z5 => ?_
  have hz0 : w.drew.heap.size = w.heap.size := rfl
  have hz1 := f1.size
  have hz3 := f3.size
  have hm0 := M.new m (.inl M.om)
  have fw5 : Fr (fun b => b = m ∨ b = b3) w w5 := (((((f0.or f1).or f2).or f3).or f4).or f5).mono (by
    rintro b (((((hb | hb) | hb) | hb) | hb) | hb)
    · exact hb.elim
    · exact hb.elim
    · exact .inl (.inr hb)
    · exact hb.elim
    · exact hb.elim
    · exact .inl (.inl hb))
  have f05 : Fr no w0 w5 := (M.fr.or fw5).mono (by
    rintro b (hb | hb | hb)
    · exact hb.elim
    · exact .inr (by omega)
    · exact .inr (by omega))
  have hbd : ∀ x, Ob x ∨ Ib x → x < w.heap.size := fun x hx => (M.new x hx).2
  -- the new place
  let L2 : Lay := { L1 with loc := fun t => if t = S.next + j then w3.heap.size else L1.loc t }
  let Ob' : Nat → Prop := fun x => Ob x ∨ x = w3.heap.size
  let Ib' : Nat → Prop := fun x => Ib x ∨ sblk v3 = some x
  have hv3 : ∀ x, sblk v3 = some x → w2.heap.size ≤ x ∧ x < w3.heap.size := hb3'
  have hL2 : mapVals L2 lst = mapVals L1 lst := mapVals_congr fun p hp => by
    have h1 := M.perm.mem_iff.1 hp
    unfold midNames at h1
    obtain ⟨q, hq, rfl⟩ := List.mem_map.1 h1
    have hq2 := List.mem_zipIdx hq
    show (if (if q.2 < j then S.next + q.2 else q.1.2) = S.next + j then w3.heap.size else _) = _
    refine if_neg ?_
    split
    · omega
    · have : q.1 ∈ N := by rw [hq2.2.2]; exact List.getElem_mem _
      have := ok.next _ (hN _ this); omega
  rw [← hL2] at m5
  have m5' : SMap w5 m (mapVals L2 (alSet lst N[j].1 (S.next + j))) := by
    have : ptr w3.heap.size = ptr (L2.loc (S.next + j)) := by show ptr w3.heap.size = ptr (if S.next + j = S.next + j then _ else _); rw [if_pos rfl]
    rw [this, mapVals_set] at m5; exact m5
  have hperm : (alSet lst N[j].1 (S.next + j)).Perm (midNames N S.next (j + 1)) := by
    rw [← midNames_step N S.next j hNn hj]
    exact (alSet_perm hlstn _ _).trans ((List.Perm.cons _ (alDel_perm M.perm _)).trans (alSet_perm hmid _ _).symm)
  have hIbm : ∀ x, Ib x → x ≠ m ∧ x ≠ b3 := fun x hx => ⟨fun e => M.dis m M.om (e ▸ hx), fun e => M.ib3 (e ▸ hx)⟩
  refine hk w5 (alSet lst N[j].1 (S.next + j)) L2 Ob' Ib' ?_ fw5 _ _ _ _ _ _ _
  have hT5 := f5.get hT (by omega)
  have h35 : SBytes w5 v3 (S.crashBytes picks j N[j].2) := (h3.fr f4 fun _ _ h => h).fr f5 fun x hx e => by have := hv3 x hx; omega
  exact {
    map := m5'
    perm := hperm
    loc := fun t ht => by
      show (if t = S.next + j then _ else L1.loc t) = _
      rw [if_neg (by omega)]; exact M.loc t ht
    pk := ((p2.fr f3 id fun _ _ h => h).fr f4 id fun _ _ h => h).fr f5 (fun e => hmb3 e.symm) (fun x hx e => by omega)
    things := fun i p hi hp => by
      by_cases e : i = j
      · subst e
        have : p = N[i] := by rw [List.getElem?_eq_getElem hj] at hp; injection hp with hp; exact hp.symm
        subst this
        show TRep w5 Ob' Ib' (if S.next + i = S.next + i then w3.heap.size else _) _ _
        rw [if_pos rfl]
        exact ⟨⟨_, _, [], hT5, ⟨h35, fun x hx => .inr hx⟩, ⟨h35, fun x hx => .inr hx⟩, ⟨rfl, .inl ⟨rfl, rfl⟩⟩, .nil⟩, .inr rfl, by rintro x hx; cases hx⟩
      · show TRep w5 Ob' Ib' (if S.next + i = S.next + j then w3.heap.size else L1.loc (S.next + i)) _ _
        rw [if_neg (by omega)]
        have h1 := M.things i p (by omega) hp
        have h2 := h1.fr (O' := Ob) fw5 (by
          rintro (e' | e')
          · obtain ⟨cc, hcc⟩ := h1.obj
            obtain ⟨es, cl, hmm⟩ := SMap.obj M.map
            rw [e', hmm] at hcc; cases hcc
          · exact M.ob3 (e' ▸ h1.own)) (by rintro x hx; cases hx) (by
          rintro x hx (e' | e')
          · exact (hIbm x hx).1 e'
          · exact (hIbm x hx).2 e')
        exact h2.mono (O := Ob) (fun x => .inl) fun x => .inl
    inj := fun i i' hi hi' e => by
      have e' : (if S.next + i = S.next + j then w3.heap.size else L1.loc (S.next + i)) = (if S.next + i' = S.next + j then w3.heap.size else L1.loc (S.next + i')) := e
      have hown : ∀ a, a < j → L1.loc (S.next + a) < w.heap.size := by
        intro a ha
        have hal : a < N.length := by omega
        exact hbd _ (.inl (M.things a N[a] ha (by simp [hal])).own)
      by_cases c1 : i = j <;> by_cases c2 : i' = j
      · omega
      · rw [if_pos (by omega), if_neg (by omega)] at e'
        have := hown i' (by omega); omega
      · rw [if_neg (by omega), if_pos (by omega)] at e'
        have := hown i (by omega); omega
      · rw [if_neg (by omega), if_neg (by omega)] at e'
        exact M.inj i i' (by omega) (by omega) e'
    om := .inl M.om
    new := by
      rintro x ((hx | hx) | (hx | hx))
      · have := M.new x (.inl hx); exact ⟨this.1, by omega⟩
      · have := M.fr.size; exact ⟨by omega, by omega⟩
      · have := M.new x (.inr hx); exact ⟨this.1, by omega⟩
      · have h1 := hv3 x hx; have := M.fr.size; exact ⟨by omega, by omega⟩
    dis := by
      rintro x (hx | hx) (hi | hi)
      · exact M.dis x hx hi
      · have := hbd x (.inl hx); have := hv3 x hi; omega
      · have := hbd x (.inr hi); omega
      · have := hv3 x hi; omega
    ob3 := by
      rintro (hx | hx)
      · exact M.ob3 hx
      · obtain ⟨_, pv, hp, _⟩ := M.pk; have := lt_of_get hp; omega
    ib3 := by
      rintro (hx | hx)
      · exact M.ib3 hx
      · obtain ⟨_, pv, hp, _⟩ := M.pk; have := lt_of_get hp; have := hv3 _ hx; omega
    fr := f05 }
end
end Go.Proofs.Ytcdcojpfealppaa
