/- Put together by a program (wip/tools/shake.py): RTwin3,RTwin4,RTwin5. -/
import Derived.Test.YtcdcojpfealppaaGreatY22
set_option linter.unusedVariables false
set_option linter.unusedSimpArgs false
set_option maxRecDepth 100000
namespace Go.Proofs.YtcdcojpfealppaaGreat
open Go Go.Proofs Go.RowKit Go.Proofs.XRed Go.Proofs.XHeap Go.Proofs.XMaps Go.Proofs.XSlices Go.Proofs.XDisk Go.Proofs.XCalls Go.Proofs.XPtr Go.Proofs.XSep Tryz
section
variable {w w0:World} {D:Nat} {S S':AD} {O I:Nat → Prop} {L L':RLay} {k:KV}
structure RTw (w0 w:World) (S:AD) (L:RLay) (ov mv:Value) (tl:RTwins) (X:Nat) (cs:Array Value) (dv:Value) : Prop where
 fr : Fr no w0 w
 xd : w.heap[X]? = some (.cells cs 62 (0,0))
 lx : w0.heap.size ≤ X
 told : w.ownsRow w0.heap.size 134 3 dv S.reads.length (S.reads.flatMap spanCells)
 old : w.ownsRow w0.heap.size 142 1 ov tl.length (oldCells L tl)
 made : w.ownsRow w0.heap.size 142 1 mv tl.length (madeCells' tl)
 ne : ∀ b,sblk ov = some b → sblk mv ≠ some b
 has : ∀ p ∈ tl,L.has p.1
 things : ∀ p ∈ tl,RTNew w0 w p.2.1 p.2.2 (S.things p.1)
 apart : tl.Pairwise fun p q => p.2.1 ≠ q.2.1 ∧ ∀ b,sblk p.2.2 = some b → sblk q.2.2 ≠ some b
 nd : (tl.map (·.1)).Nodup
theorem RTNew.less {wa wb:World} {T:Nat} {rb:Value} {x:Thg} (h:RTNew wb w T rb x) (hz:wa.heap.size ≤ wb.heap.size) : RTNew wa w T rb x := by
 obtain ⟨⟨sv,hv,ps,h1,h2,h3,h4,h5,h6⟩,h7⟩ := h
 exact ⟨⟨sv,hv,ps,h1,h2.less hz,h3.less hz,own_less h4 hz,h5,fun p hp => (h6 p hp).less hz⟩,Nat.le_trans hz h7⟩
theorem RTNew.lt {wb:World} {T:Nat} {rb:Value} {x:Thg} (h:RTNew wb w T rb x) : wb.heap.size ≤ T ∧ T < w.heap.size ∧ ∀ b,sblk rb = some b → wb.heap.size ≤ b ∧ b < w.heap.size := by
 obtain ⟨⟨sv,hv,ps,h1,h2,h3,h4,h5,h6⟩,h7⟩ := h
 exact ⟨h7,lt_of_get h1,fun b hb => own_blk_lt h4 hb⟩
theorem RTw.step {ov mv dv:Value} {tl:RTwins} {X:Nat} {cs cs':Array Value} {w':World} {M:Nat → Prop} (m:RTw w0 w S L ov mv tl X cs dv) (hf:Fr M w w') (low:∀ b,M b → w0.heap.size ≤ b) (hM:∀ b,M b → b = X ∨ (∃ c,w.heap[b]? = some (.cells c 144 (0,0))) ∨ ∃ c,w.heap[b]? = some (.cells c 146 (0,0)))
    (xd:w'.heap[X]? = some (.cells cs' 62 (0,0))) : RTw w0 w' S L ov mv tl X cs' dv := by
  have ty : ∀ b,M b → ∀ c T,w.heap[b]? = some (.cells c T (0,0)) → T = 62 ∨ T = 144 ∨ T = 146 := by
    intro b hb c T hc
    rcases hM b hb with rfl | ⟨c2,h2⟩ | ⟨c2,h2⟩
    · exact .inl (two_types hc m.xd)
    · exact .inr (.inl (two_types hc h2))
    · exact .inr (.inr (two_types hc h2))
  have oth : Other w M := fun b hb c T hc => by
    rcases ty b hb c T hc with h | h | h <;> rw [h] <;> decide
  have row : ∀ {e:TypeId} {size n:Nat} {v:Value} {xs:List Value},w.ownsRow w0.heap.size e size v n xs → (e ≠ 62 ∧ e ≠ 144 ∧ e ≠ 146) → w'.ownsRow w0.heap.size e size v n xs := by
    intro e size n v xs h he
    refine own_fr h hf fun b hb hm => ?_
    obtain ⟨c,hc⟩ := own_obj h hb
    rcases ty b hm c _ hc with h | h | h
    · exact he.1 h
    · exact he.2.1 h
    · exact he.2.2 h
  exact ⟨m.fr.trans hf fun b hb => .inr (low b hb),xd,m.lx,row m.told (by decide),row m.old (by decide),row m.made (by decide),m.ne,m.has,fun p hp => (m.things p hp).fr hf oth,m.apart,m.nd⟩
theorem RTw.quiet {ov mv dv:Value} {tl:RTwins} {X:Nat} {cs:Array Value} {w':World} (m:RTw w0 w S L ov mv tl X cs dv) (hf:Fr no w w') : RTw w0 w' S L ov mv tl X cs dv :=
 m.step hf (fun b hb => hb.elim) (fun b hb => hb.elim) (hf.get m.xd id)
theorem r_tw {ov mv dv:Value} {t c:Nat} {tl:RTwins} {X:Nat} {cs:Array Value} (h:RRep w0 D S O I L) (m:RTw w0 w S L ov mv tl X cs dv) (ht:L.has t) (hT:(S.things t).Ok c) (hc:c ≤ 1099511627776) (hl:tl.length ≤ 1099511627776)
    (hk:∀ w' ov' mv' ext,RTw w0 w' S L ov' mv' (tl ++ ext) X cs dv → t ∈ (tl ++ ext).map (·.1) → ext.length ≤ 1 → k (.tuple #[ov',mv']) w') : pFn P 86 [ov,mv,ptr (L.loc t)] w k := by
  have h' := h.fr m.fr fun b hb => hb.elim
  by_cases hin : t ∈ tl.map (·.1)
  · refine r_twinHas h' ht (Src.of_own m.old) (Src.of_own m.made) (by omega) m.has hin ?_
    exact hk w ov mv [] (by rw [List.append_nil]; exact m) (by rw [List.append_nil]; exact hin) (Nat.zero_le _)
  · refine r_twinNew (wb := w0) h' ht hT hc m.fr.size hl m.old m.made m.ne m.has (fun p hp e => hin (List.mem_map.2 ⟨p,hp,e⟩)) fun w' ov' mv' T rb h1 h2 h3 h4 h5 => ?_
    have hov : ∀ b,(sblk ov = some b ∨ sblk mv = some b) → w0.heap.size ≤ b ∧ ∃ c,w.heap[b]? = some (.cells c 142 (0,0)) := by
      rintro b (e | e)
      · obtain ⟨c2,hc2⟩ := own_obj m.old e; exact ⟨(own_blk_lt m.old e).1,c2,hc2⟩
      · obtain ⟨c2,hc2⟩ := own_obj m.made e; exact ⟨(own_blk_lt m.made e).1,c2,hc2⟩
    have oth : Other w (fun b => sblk ov = some b ∨ sblk mv = some b) := fun b hb c T hcT => by
      obtain ⟨_,c2,hc2⟩ := hov b hb
      have := two_types hcT hc2; rw [this]; decide
    have zf := m.fr.size
    refine hk w' ov' mv' [(t,T,rb)] ⟨m.fr.trans h5 fun b hb => .inr (hov b hb).1,h5.get m.xd fun e => ?_,m.lx,own_fr m.told h5 fun b hb e => ?_,by rw [List.length_append]; exact h1,by rw [List.length_append]; exact h2,h3,?_,?_,?_,?_⟩ (by simp) (Nat.le_refl _)
    · obtain ⟨_,c2,hc2⟩ := hov X e
      exact absurd (two_types m.xd hc2) (by decide)
    · obtain ⟨_,c2,hc2⟩ := hov b e
      obtain ⟨c3,hc3⟩ := own_obj m.told hb
      exact absurd (two_types hc3 hc2) (by decide)
    · intro p hp
      rcases List.mem_append.1 hp with hp | hp
      · exact m.has p hp
      · rw [List.mem_singleton] at hp; subst hp; exact ht
    · intro p hp
      rcases List.mem_append.1 hp with hp | hp
      · exact (m.things p hp).fr h5 oth
      · rw [List.mem_singleton] at hp; subst hp; exact h4.less zf
    · rw [List.pairwise_append]
      refine ⟨m.apart,by simp,fun p hp q hq => ?_⟩
      rw [List.mem_singleton] at hq; subst hq
      have l1 := (m.things p hp).lt
      have l2 := h4.lt
      exact ⟨by show p.2.1 ≠ T; omega,fun b hb e => by have := l1.2.2 b hb; have := l2.2.2 b e; omega⟩
    · rw [List.map_append,List.nodup_append]
      refine ⟨m.nd,by simp,fun a ha b hb => ?_⟩
      simp at hb; subst hb
      rintro rfl; exact hin ha
set_option maxHeartbeats 1000000 in
theorem r_tw4 {ov mv dv nv bv tv:Value} {tl:RTwins} {X i:Nat} {kN:KE} (h:RRep w0 D S O I L) (m:RTw w0 w S L ov mv tl X #[.bool (!S.off),i64 S.room,nv,bv,tv,i64 S.strokes,i64 S.since,i64 S.plan.off,i64 S.plan.from_,i64 S.plan.to_,dv] dv)
    (hin:∀ p ∈ S.shown,p.2 ∈ tl.map (·.1)) (hl:tl.length ≤ 1099511627776) (hlen:S.shown.length ≤ 256) (hn:w.ownsRow w0.heap.size 144 2 nv i (nmCells (locOf tl) (S.shown.take i))) {ρ:Env} (e0:ρ 0 = ptr D) (e3:ρ 3 = ptr X) (e4:ρ 4 = ov) (e5:ρ 5 = mv) (eI:ρ 9 = i64 i)
    (hout:¬ i < S.shown.length → ∀ ρ',ρ' 0 = ptr D → ρ' 3 = ptr X → ρ' 4 = ov → ρ' 5 = mv → F25_8 k ρ' w)
    (hnext:i < S.shown.length → ∀ ρ' w' nv',RTw w0 w' S L ov mv tl X #[.bool (!S.off),i64 S.room,nv',bv,tv,i64 S.strokes,i64 S.since,i64 S.plan.off,i64 S.plan.from_,i64 S.plan.to_,dv] dv → w'.ownsRow w0.heap.size 144 2 nv' (i + 1) (nmCells (locOf tl) (S.shown.take (i + 1))) →
      Fr (fun b => b = X ∨ sblk nv = some b) w w' → (∀ b,sblk nv' = some b → sblk nv = some b ∨ w.heap.size ≤ b) → ρ' 0 = ptr D → ρ' 3 = ptr X → ρ' 4 = ov → ρ' 5 = mv → ρ' 9 = i64 (i + 1) → kN ρ' w') : F25_7 k kN ρ w := by
  unfold F25_7
  rw [e0,eI,e3,e4,e5]
  have h' := h.fr m.fr fun b hb => hb.elim
  have hDX : D ≠ X := fun e => by have := h.lt D (.inl h.oD); have := m.lx; omega
  refine s_nil (fa62_2 (s_ldb (v := L.nowv) (isAgg59 _) h'.disk rfl (s_lenS usl59 h'.now.1 ?_)))
  by_cases hi : i < S.shown.length
  · refine s_lt_t (by omega) (pC_true ?_)
    have hmem := List.getElem_mem hi
    have hhas : L.has S.shown[i].2 := h.sub _ (.inl ⟨S.shown[i].1,hmem⟩)
    obtain ⟨b,o,cc,ev,q0,q1⟩ := nm_at h'.now.1 hi
    have hbI : I b := h.now.2 b (by rw [ev]; rfl)
    have hbw : b < w.heap.size := World.block_lt_of_cell? _ ⟨b,o + i * 2,none⟩ q0
    have hDw := h'.lt D (.inl h'.oD)
    have zf := m.fr.size
    have hbw0 := h.lt b (.inr hbI)
    have hDw0 := h.lt D (.inl h.oD)
    have keep : ∀ w2 : World,w2.heap[D]? = w.heap[D]? → w2.heap[b]? = w.heap[b]? → ∀ cs2 : Array Value,w2.heap[X]? = some (.cells cs2 62 (0,0)) → cs2 = #[.bool (!S.off),i64 S.room,nv,bv,tv,i64 S.strokes,i64 S.since,i64 S.plan.off,i64 S.plan.from_,i64 S.plan.to_,dv] →
        w2.heap[X]? = some (.cells #[.bool (!S.off),i64 S.room,nv,bv,tv,i64 S.strokes,i64 S.since,i64 S.plan.off,i64 S.plan.from_,i64 S.plan.to_,dv] 62 (0,0)) ∧ w2.heap[D]? = some (.cells (rcells S L) 62 (0,0)) ∧ w2.cell? ⟨b,o + i * 2,none⟩ = some (.string S.shown[i].1) ∧ w2.cell? ⟨b,o + i * 2 + 1,none⟩ = some (ptr (L.loc S.shown[i].2)) :=
      fun w2 eD eb cs2 ex e => ⟨by rw [← e]; exact ex,by rw [eD]; exact h'.disk,by rw [World.cell?_of_block (w := w) eb]; exact q0,by rw [World.cell?_of_block (w := w) eb]; exact q1⟩
    have fd : Fr no w w.drew := Fr.drew _ _
    refine ⟨fun w2 : World => w2.heap[X]? = some (.cells #[.bool (!S.off),i64 S.room,nv,bv,tv,i64 S.strokes,i64 S.since,i64 S.plan.off,i64 S.plan.from_,i64 S.plan.to_,dv] 62 (0,0)) ∧ w2.heap[D]? = some (.cells (rcells S L) 62 (0,0)) ∧ w2.cell? ⟨b,o + i * 2,none⟩ = some (.string S.shown[i].1) ∧ w2.cell? ⟨b,o + i * 2 + 1,none⟩ = some (ptr (L.loc S.shown[i].2)),keep _ rfl rfl _ m.xd rfl,?_⟩
    refine q_of _ (fun w_ hS => fa62_2 ⟨rfl,rfl⟩) (q_of nv (fun w_ hS => s_ldb (isAgg59 _) hS.1 rfl ⟨rfl,rfl⟩) ?_)
    refine q_of _ (fun w_ hS => s_nil ⟨rfl,rfl⟩) (q_of _ (fun w_ hS => fa62_2 ⟨rfl,rfl⟩) (q_of L.nowv (fun w_ hS => s_ldb (isAgg59 _) hS.2.1 rfl ⟨rfl,rfl⟩) ?_))
    refine q_of (.pointer (some ⟨b,o + i * 2,none⟩)) (fun w_ hS => by rw [ev]; exact s_ix (i := (i:Int)) usl59 (sze59 _) (by omega) (by omega) ⟨by simp,rfl⟩) ?_
    refine q_of _ (fun w_ hS => fa144_0 ⟨rfl,rfl⟩) (q_of _ (fun w_ hS => s_ld (isAgg9 _) hS.2.2.1 ⟨rfl,rfl⟩) ?_)
    refine q_of _ (fun w_ hS => s_nil ⟨rfl,rfl⟩) (q_of _ (fun w_ hS => fa62_2 ⟨rfl,rfl⟩) (q_of L.nowv (fun w_ hS => s_ldb (isAgg59 _) hS.2.1 rfl ⟨rfl,rfl⟩) ?_))
    refine q_of (.pointer (some ⟨b,o + i * 2,none⟩)) (fun w_ hS => by rw [ev]; exact s_ix (i := (i:Int)) usl59 (sze59 _) (by omega) (by omega) ⟨by simp,rfl⟩) ?_
    refine q_of _ (fun w_ hS => fa144_1 ⟨rfl,rfl⟩) (q_of _ (fun w_ hS => s_ld (isAgg142 _) hS.2.2.2 ⟨rfl,rfl⟩) ?_)
    have md := m.quiet fd
    have hd := h'.fr fd fun b hb => hb.elim
    have hblk : ∀ t,L.has t → Blk w.drew (L.loc t) := fun t ht => by obtain ⟨c,h⟩ := (hd.things t ht).obj; exact ⟨c,_,h⟩
    refine r_other (Src.of_own md.old) (Src.of_own md.made) (by omega) (hblk _ hhas) (fun p hp => hblk _ (m.has p hp)) (fun p hp e => ?_) fun hno => ?_
    · have ep : p.1 = S.shown[i].2 := h.inj _ _ (m.has p hp) hhas e
      have hloc : locOf tl S.shown[i].2 = p.2.1 := by rw [← ep]; exact (locOf_mem m.nd hp).1
      rw [← hloc]
      refine ⟨keep w.drew rfl rfl _ m.xd rfl,q_of (.agg #[.string S.shown[i].1,ptr (locOf tl S.shown[i].2)]) (fun w_ hS => px_ok (w' := w_) (by unfold ptr; kernel_rfl) ⟨rfl,rfl⟩) ?_⟩
      refine px_ok (w' := w.drew.alloc (.cells #[.string S.shown[i].1,ptr (locOf tl S.shown[i].2)] 144)) (v := .slice (some ⟨w.drew.heap.size,0,none⟩) 1 1) (by unfold ptr; kernel_rfl) ?_
      have f3 := Fr.alloc no w.drew (.cells #[.string S.shown[i].1,ptr (locOf tl S.shown[i].2)] 144)
      have ho3 := own_lit w.drew 0 144 2 #[.string S.shown[i].1,ptr (locOf tl S.shown[i].2)] 1 (Nat.zero_le _) (by unfold maxLen; omega) rfl
      have z3 : (w.drew.alloc (.cells #[.string S.shown[i].1,ptr (locOf tl S.shown[i].2)] 144)).heap.size = w.heap.size + 1 := by simp
      generalize w.drew.alloc (.cells #[.string S.shown[i].1,ptr (locOf tl S.shown[i].2)] 144) = w3 at *
      have f03 : Fr no w w3 := fd.trans f3 fun b => .inl
      refine ⟨keep w3 (f03.block D hDw id) (f03.block b hbw id) _ (f03.get m.xd id) rfl,?_⟩
      refine ap59 (own_fr hn f03 fun _ _ h => h) (Src.of_own ho3) (by intro u hu; simp at hu; rcases hu with rfl | rfl <;> rfl) (by omega) (by omega) fun v4 w4 h4 f4 hb4 => ?_
      have hnw : ∀ x,sblk nv = some x → w0.heap.size ≤ x ∧ x < w.heap.size ∧ x ≠ X := fun x hx => ⟨(own_blk_lt hn hx).1,(own_blk_lt hn hx).2,by
        rintro rfl
        obtain ⟨c2,hc2⟩ := own_obj hn hx
        exact absurd (two_types hc2 m.xd) (by decide)⟩
      have hXw := lt_of_get m.xd
      have f04 : Fr (fun x => sblk nv = some x) w w4 := (f03.mono fun b hb => hb.elim).trans f4 fun x hx => .inl hx.symm
      have x4 : w4.heap[X]? = some (.cells #[.bool (!S.off),i64 S.room,nv,bv,tv,i64 S.strokes,i64 S.since,i64 S.plan.off,i64 S.plan.from_,i64 S.plan.to_,dv] 62 (0,0)) := f04.get m.xd fun hx => (hnw X hx).2.2 rfl
      refine ⟨keep w4 (f04.block D hDw fun hx => by have := (hnw D hx).1; omega) (f04.block b hbw fun hx => by have := (hnw b hx).1; omega) _ x4 rfl,?_⟩
      refine q_of _ (fun w_ hS => fa62_2 ⟨rfl,rfl⟩) ?_
      have v4o := own_one h4
      refine s_st (sizeOf59 _) v4o.1 v4o.2 x4 (by show 2 < 11; decide) ?_
      have x5 := set_same x4 2 v4
      have f5 : Fr (fun x => x = X) w4 (w4.setCell ⟨X,2,none⟩ v4) := Fr.setCell w4 ⟨X,2,none⟩ _
      have hb4' : ∀ x,sblk v4 = some x → sblk nv = some x ∨ w.heap.size ≤ x := by
        intro x hx
        rcases hb4 with e | e
        · exact .inl (e ▸ hx)
        · rw [e] at hx; injection hx with hx; exact .inr (by omega)
      have hv4X : ∀ x,sblk v4 = some x → x ≠ X := by
        intro x hx
        rcases hb4' x hx with e | e
        · exact (hnw x e).2.2
        · omega
      have f05 : Fr (fun x => x = X ∨ sblk nv = some x) w (w4.setCell ⟨X,2,none⟩ v4) := (f04.mono fun x hx => .inl (.inr hx)).trans f5 fun x hx => .inl (.inl hx)
      refine s_add_in (by omega) (hnext hi _ _ v4 (m.step f05 (fun x hx => ?_) (fun x hx => hx.imp id fun e => .inl (own_obj hn e)) (by rw [x5]; rfl)) ?_ f05 hb4' e0 e3 e4 e5 rfl)
      · rcases hx with rfl | hx
        · exact m.lx
        · exact (hnw x hx).1
      · rw [List.take_succ_eq_append_getElem hi,nmCells_app]
        exact own_fr (by simpa [nmCells] using h4) f5 hv4X
    · obtain ⟨p,hp,e⟩ := List.mem_map.1 (hin _ hmem)
      exact absurd (by rw [e]) (hno p hp)
  · refine s_lt_f (by omega) (pC_false ?_)
    rw [F25_8_eq]
    exact hout hi _ e0 e3 e4 e5
set_option maxHeartbeats 1000000 in
theorem r_tw5 {ov mv dv nv bv tv:Value} {tl:RTwins} {X i:Nat} {kN:KE} (h:RRep w0 D S O I L) (m:RTw w0 w S L ov mv tl X #[.bool (!S.off),i64 S.room,bv,nv,tv,i64 S.strokes,i64 S.since,i64 S.plan.off,i64 S.plan.from_,i64 S.plan.to_,dv] dv)
    (hin:∀ p ∈ S.safe,p.2 ∈ tl.map (·.1)) (hl:tl.length ≤ 1099511627776) (hlen:S.safe.length ≤ 256) (hn:w.ownsRow w0.heap.size 144 2 nv i (nmCells (locOf tl) (S.safe.take i))) {ρ:Env} (e0:ρ 0 = ptr D) (e3:ρ 3 = ptr X) (e4:ρ 4 = ov) (e5:ρ 5 = mv) (eI:ρ 10 = i64 i)
    (hout:¬ i < S.safe.length → ∀ ρ',ρ' 0 = ptr D → ρ' 3 = ptr X → ρ' 4 = ov → ρ' 5 = mv → F25_10 k ρ' w)
    (hnext:i < S.safe.length → ∀ ρ' w' nv',RTw w0 w' S L ov mv tl X #[.bool (!S.off),i64 S.room,bv,nv',tv,i64 S.strokes,i64 S.since,i64 S.plan.off,i64 S.plan.from_,i64 S.plan.to_,dv] dv → w'.ownsRow w0.heap.size 144 2 nv' (i + 1) (nmCells (locOf tl) (S.safe.take (i + 1))) →
      Fr (fun b => b = X ∨ sblk nv = some b) w w' → (∀ b,sblk nv' = some b → sblk nv = some b ∨ w.heap.size ≤ b) → ρ' 0 = ptr D → ρ' 3 = ptr X → ρ' 4 = ov → ρ' 5 = mv → ρ' 10 = i64 (i + 1) → kN ρ' w') : F25_9 k kN ρ w := by
  unfold F25_9
  rw [e0,eI,e3,e4,e5]
  have h' := h.fr m.fr fun b hb => hb.elim
  have hDX : D ≠ X := fun e => by have := h.lt D (.inl h.oD); have := m.lx; omega
  refine s_nil (fa62_3 (s_ldb (v := L.befv) (isAgg59 _) h'.disk rfl (s_lenS usl59 h'.bef.1 ?_)))
  by_cases hi : i < S.safe.length
  · refine s_lt_t (by omega) (pC_true ?_)
    have hmem := List.getElem_mem hi
    have hhas : L.has S.safe[i].2 := h.sub _ (.inr <| .inl ⟨S.safe[i].1,hmem⟩)
    obtain ⟨b,o,cc,ev,q0,q1⟩ := nm_at h'.bef.1 hi
    have hbI : I b := h.bef.2 b (by rw [ev]; rfl)
    have hbw : b < w.heap.size := World.block_lt_of_cell? _ ⟨b,o + i * 2,none⟩ q0
    have hDw := h'.lt D (.inl h'.oD)
    have zf := m.fr.size
    have hbw0 := h.lt b (.inr hbI)
    have hDw0 := h.lt D (.inl h.oD)
    have keep : ∀ w2 : World,w2.heap[D]? = w.heap[D]? → w2.heap[b]? = w.heap[b]? → ∀ cs2 : Array Value,w2.heap[X]? = some (.cells cs2 62 (0,0)) → cs2 = #[.bool (!S.off),i64 S.room,bv,nv,tv,i64 S.strokes,i64 S.since,i64 S.plan.off,i64 S.plan.from_,i64 S.plan.to_,dv] →
        w2.heap[X]? = some (.cells #[.bool (!S.off),i64 S.room,bv,nv,tv,i64 S.strokes,i64 S.since,i64 S.plan.off,i64 S.plan.from_,i64 S.plan.to_,dv] 62 (0,0)) ∧ w2.heap[D]? = some (.cells (rcells S L) 62 (0,0)) ∧ w2.cell? ⟨b,o + i * 2,none⟩ = some (.string S.safe[i].1) ∧ w2.cell? ⟨b,o + i * 2 + 1,none⟩ = some (ptr (L.loc S.safe[i].2)) :=
      fun w2 eD eb cs2 ex e => ⟨by rw [← e]; exact ex,by rw [eD]; exact h'.disk,by rw [World.cell?_of_block (w := w) eb]; exact q0,by rw [World.cell?_of_block (w := w) eb]; exact q1⟩
    have fd : Fr no w w.drew := Fr.drew _ _
    refine ⟨fun w2 : World => w2.heap[X]? = some (.cells #[.bool (!S.off),i64 S.room,bv,nv,tv,i64 S.strokes,i64 S.since,i64 S.plan.off,i64 S.plan.from_,i64 S.plan.to_,dv] 62 (0,0)) ∧ w2.heap[D]? = some (.cells (rcells S L) 62 (0,0)) ∧ w2.cell? ⟨b,o + i * 2,none⟩ = some (.string S.safe[i].1) ∧ w2.cell? ⟨b,o + i * 2 + 1,none⟩ = some (ptr (L.loc S.safe[i].2)),keep _ rfl rfl _ m.xd rfl,?_⟩
    refine q_of _ (fun w_ hS => fa62_3 ⟨rfl,rfl⟩) (q_of nv (fun w_ hS => s_ldb (isAgg59 _) hS.1 rfl ⟨rfl,rfl⟩) ?_)
    refine q_of _ (fun w_ hS => s_nil ⟨rfl,rfl⟩) (q_of _ (fun w_ hS => fa62_3 ⟨rfl,rfl⟩) (q_of L.befv (fun w_ hS => s_ldb (isAgg59 _) hS.2.1 rfl ⟨rfl,rfl⟩) ?_))
    refine q_of (.pointer (some ⟨b,o + i * 2,none⟩)) (fun w_ hS => by rw [ev]; exact s_ix (i := (i:Int)) usl59 (sze59 _) (by omega) (by omega) ⟨by simp,rfl⟩) ?_
    refine q_of _ (fun w_ hS => fa144_0 ⟨rfl,rfl⟩) (q_of _ (fun w_ hS => s_ld (isAgg9 _) hS.2.2.1 ⟨rfl,rfl⟩) ?_)
    refine q_of _ (fun w_ hS => s_nil ⟨rfl,rfl⟩) (q_of _ (fun w_ hS => fa62_3 ⟨rfl,rfl⟩) (q_of L.befv (fun w_ hS => s_ldb (isAgg59 _) hS.2.1 rfl ⟨rfl,rfl⟩) ?_))
    refine q_of (.pointer (some ⟨b,o + i * 2,none⟩)) (fun w_ hS => by rw [ev]; exact s_ix (i := (i:Int)) usl59 (sze59 _) (by omega) (by omega) ⟨by simp,rfl⟩) ?_
    refine q_of _ (fun w_ hS => fa144_1 ⟨rfl,rfl⟩) (q_of _ (fun w_ hS => s_ld (isAgg142 _) hS.2.2.2 ⟨rfl,rfl⟩) ?_)
    have md := m.quiet fd
    have hd := h'.fr fd fun b hb => hb.elim
    have hblk : ∀ t,L.has t → Blk w.drew (L.loc t) := fun t ht => by obtain ⟨c,h⟩ := (hd.things t ht).obj; exact ⟨c,_,h⟩
    refine r_other (Src.of_own md.old) (Src.of_own md.made) (by omega) (hblk _ hhas) (fun p hp => hblk _ (m.has p hp)) (fun p hp e => ?_) fun hno => ?_
    · have ep : p.1 = S.safe[i].2 := h.inj _ _ (m.has p hp) hhas e
      have hloc : locOf tl S.safe[i].2 = p.2.1 := by rw [← ep]; exact (locOf_mem m.nd hp).1
      rw [← hloc]
      refine ⟨keep w.drew rfl rfl _ m.xd rfl,q_of (.agg #[.string S.safe[i].1,ptr (locOf tl S.safe[i].2)]) (fun w_ hS => px_ok (w' := w_) (by unfold ptr; kernel_rfl) ⟨rfl,rfl⟩) ?_⟩
      refine px_ok (w' := w.drew.alloc (.cells #[.string S.safe[i].1,ptr (locOf tl S.safe[i].2)] 144)) (v := .slice (some ⟨w.drew.heap.size,0,none⟩) 1 1) (by unfold ptr; kernel_rfl) ?_
      have f3 := Fr.alloc no w.drew (.cells #[.string S.safe[i].1,ptr (locOf tl S.safe[i].2)] 144)
      have ho3 := own_lit w.drew 0 144 2 #[.string S.safe[i].1,ptr (locOf tl S.safe[i].2)] 1 (Nat.zero_le _) (by unfold maxLen; omega) rfl
      have z3 : (w.drew.alloc (.cells #[.string S.safe[i].1,ptr (locOf tl S.safe[i].2)] 144)).heap.size = w.heap.size + 1 := by simp
      generalize w.drew.alloc (.cells #[.string S.safe[i].1,ptr (locOf tl S.safe[i].2)] 144) = w3 at *
      have f03 : Fr no w w3 := fd.trans f3 fun b => .inl
      refine ⟨keep w3 (f03.block D hDw id) (f03.block b hbw id) _ (f03.get m.xd id) rfl,?_⟩
      refine ap59 (own_fr hn f03 fun _ _ h => h) (Src.of_own ho3) (by intro u hu; simp at hu; rcases hu with rfl | rfl <;> rfl) (by omega) (by omega) fun v4 w4 h4 f4 hb4 => ?_
      have hnw : ∀ x,sblk nv = some x → w0.heap.size ≤ x ∧ x < w.heap.size ∧ x ≠ X := fun x hx => ⟨(own_blk_lt hn hx).1,(own_blk_lt hn hx).2,by
        rintro rfl
        obtain ⟨c2,hc2⟩ := own_obj hn hx
        exact absurd (two_types hc2 m.xd) (by decide)⟩
      have hXw := lt_of_get m.xd
      have f04 : Fr (fun x => sblk nv = some x) w w4 := (f03.mono fun b hb => hb.elim).trans f4 fun x hx => .inl hx.symm
      have x4 : w4.heap[X]? = some (.cells #[.bool (!S.off),i64 S.room,bv,nv,tv,i64 S.strokes,i64 S.since,i64 S.plan.off,i64 S.plan.from_,i64 S.plan.to_,dv] 62 (0,0)) := f04.get m.xd fun hx => (hnw X hx).2.2 rfl
      refine ⟨keep w4 (f04.block D hDw fun hx => by have := (hnw D hx).1; omega) (f04.block b hbw fun hx => by have := (hnw b hx).1; omega) _ x4 rfl,?_⟩
      refine q_of _ (fun w_ hS => fa62_3 ⟨rfl,rfl⟩) ?_
      have v4o := own_one h4
      refine s_st (sizeOf59 _) v4o.1 v4o.2 x4 (by show 3 < 11; decide) ?_
      have x5 := set_same x4 3 v4
      have f5 : Fr (fun x => x = X) w4 (w4.setCell ⟨X,3,none⟩ v4) := Fr.setCell w4 ⟨X,3,none⟩ _
      have hb4' : ∀ x,sblk v4 = some x → sblk nv = some x ∨ w.heap.size ≤ x := by
        intro x hx
        rcases hb4 with e | e
        · exact .inl (e ▸ hx)
        · rw [e] at hx; injection hx with hx; exact .inr (by omega)
      have hv4X : ∀ x,sblk v4 = some x → x ≠ X := by
        intro x hx
        rcases hb4' x hx with e | e
        · exact (hnw x e).2.2
        · omega
      have f05 : Fr (fun x => x = X ∨ sblk nv = some x) w (w4.setCell ⟨X,3,none⟩ v4) := (f04.mono fun x hx => .inl (.inr hx)).trans f5 fun x hx => .inl (.inl hx)
      refine s_add_in (by omega) (hnext hi _ _ v4 (m.step f05 (fun x hx => ?_) (fun x hx => hx.imp id fun e => .inl (own_obj hn e)) (by rw [x5]; rfl)) ?_ f05 hb4' e0 e3 e4 e5 rfl)
      · rcases hx with rfl | hx
        · exact m.lx
        · exact (hnw x hx).1
      · rw [List.take_succ_eq_append_getElem hi,nmCells_app]
        exact own_fr (by simpa [nmCells] using h4) f5 hv4X
    · obtain ⟨p,hp,e⟩ := List.mem_map.1 (hin _ hmem)
      exact absurd (by rw [e]) (hno p hp)
  · refine s_lt_f (by omega) (pC_false ?_)
    rw [F25_10_eq]
    exact hout hi _ e0 e3 e4 e5
end
section
variable {w w0:World} {D:Nat} {S S':AD} {O I:Nat → Prop} {L L':RLay} {k:KV}
def thingV (loc:Nat → Nat) : Turn → Value
 | .mk _ t => ptr (loc t)
 | _ => .pointer none
theorem rturn_3 (loc:Nat → Nat) (c:Turn) : (rturn loc c)[3]? = some (thingV loc c) := by cases c <;> rfl
theorem rturn_set (loc loc':Nat → Nat) (c:Turn) : (rturn loc c).toArray.setIfInBounds 3 (thingV loc' c) = (rturn loc' c).toArray := by cases c <;> rfl
theorem r_otherC {ov mv dv:Value} {tl:RTwins} {X:Nat} {cs:Array Value} {c:Turn} (h:RRep w0 D S O I L) (m:RTw w0 w S L ov mv tl X cs dv) (hl:tl.length ≤ 4611686018427387904) (hc:∀ n t,c = .mk n t → L.has t ∧ t ∈ tl.map (·.1)) (hk:k (thingV (locOf tl) c) w) : pFn P 87 [ov,mv,thingV L.loc c] w k := by
 cases c with
 | mk n t =>
  obtain ⟨hhas,hin⟩ := hc n t rfl
  have h' := h.fr m.fr fun b hb => hb.elim
  have hblk : ∀ t,L.has t → Blk w (L.loc t) := fun t ht => by obtain ⟨c,h⟩ := (h'.things t ht).obj; exact ⟨c,_,h⟩
  refine r_other (Src.of_own m.old) (Src.of_own m.made) hl (hblk _ hhas) (fun p hp => hblk _ (m.has p hp)) (fun p hp e => ?_) fun hno => ?_
  ·have ep : p.1 = t := h.inj _ _ (m.has p hp) hhas e
   have : locOf tl t = p.2.1 := by rw [← ep]; exact (locOf_mem m.nd hp).1
   rw [← this]; exact hk
  ·obtain ⟨p,hp,e⟩ := List.mem_map.1 hin
   exact absurd (by rw [e]) (hno p hp)
 | give a b => exact r_otherNil (Src.of_own m.old) hl hk
 | take n => exact r_otherNil (Src.of_own m.old) hl hk
set_option maxHeartbeats 1000000 in
theorem r_tw6 {ov mv dv nv bv tv:Value} {tl:RTwins} {X i:Nat} {kN:KE} (h:RRep w0 D S O I L) (m:RTw w0 w S L ov mv tl X #[.bool (!S.off),i64 S.room,nv,bv,tv,i64 S.strokes,i64 S.since,i64 S.plan.off,i64 S.plan.from_,i64 S.plan.to_,dv] dv)
    (hin:∀ n t,Turn.mk n t ∈ S.row → t ∈ tl.map (·.1)) (hl:tl.length ≤ 1099511627776) (hlen:S.row.length ≤ 1099511627776) (hn:w.ownsRow w0.heap.size 146 4 tv i ((S.row.take i).flatMap (rturn (locOf tl)))) {ρ:Env} (e0:ρ 0 = ptr D) (e3:ρ 3 = ptr X) (e4:ρ 4 = ov) (e5:ρ 5 = mv) (eI:ρ 11 = i64 i)
    (hout:¬ i < S.row.length → k (ptr X) w)
    (hnext:i < S.row.length → ∀ ρ' w' tv',RTw w0 w' S L ov mv tl X #[.bool (!S.off),i64 S.room,nv,bv,tv',i64 S.strokes,i64 S.since,i64 S.plan.off,i64 S.plan.from_,i64 S.plan.to_,dv] dv → w'.ownsRow w0.heap.size 146 4 tv' (i + 1) ((S.row.take (i + 1)).flatMap (rturn (locOf tl))) →
      Fr (fun b => b = X ∨ sblk tv = some b) w w' → ρ' 0 = ptr D → ρ' 3 = ptr X → ρ' 4 = ov → ρ' 5 = mv → ρ' 11 = i64 (i + 1) → kN ρ' w') : F25_11 k kN ρ w := by
  unfold F25_11
  rw [e0,eI,e4,e5,e3]
  have h' := h.fr m.fr fun b hb => hb.elim
  refine s_nil (fa62_4 (s_ldb (v := L.turnv) (isAgg60 _) h'.disk rfl (s_lenS usl60 (Src.of_own h'.turns) ?_)))
  by_cases hi : i < S.row.length
  · refine s_lt_t (by omega) (pC_true (s_nil (fa62_4 (s_ldb (v := L.turnv) (isAgg60 _) h'.disk rfl ?_))))
    refine s_elemN (m := 0) (vs := rturn L.loc S.row[i]) usl60 (sze60 _) (isAgg146 _) (sizeOf146 _) (Src.of_own h'.turns) hi (by omega) (rturn_len _ _) (fun j hj => flatAt (f := rturn L.loc) (rturn_len L.loc) (List.getElem?_eq_getElem hi) hj) fun q3 => ?_
    refine r_turnVar (loc := L.loc) (t := S.row[i]) fun w1 ha f1 z1 => ?_
    have zf := m.fr.size
    have hmk : ∀ n t,S.row[i] = .mk n t → L.has t ∧ t ∈ tl.map (·.1) := fun n t e => by
      have hm : Turn.mk n t ∈ S.row := by rw [← e]; exact List.getElem_mem hi
      exact ⟨h.sub t (.inr (.inr ⟨n,hm⟩)),hin n t hm⟩
    have hta : S.row.take (i + 1) = S.row.take i ++ [S.row[i]] := List.take_succ_eq_append_getElem hi
    generalize S.row[i] = c at *
    have m1 := m.quiet f1
    unfold ptr
    refine fa146_3 (s_ldb (v := thingV L.loc c) (isAgg142 _) ha (by simpa using rturn_3 L.loc c) ?_)
    refine r_otherC h m1 (by omega) hmk ?_
    have hone : (thingV (locOf tl) c).cells = #[thingV (locOf tl) c] ∧ (thingV (locOf tl) c).oneCell' = true := by cases c <;> exact ⟨rfl,rfl⟩
    refine fa146_3 (s_st (sizeOf142 _) hone.1 hone.2 ha (by simp [rturn_len]) ?_)
    have a2 := set_same ha 3 (thingV (locOf tl) c)
    rw [rturn_set] at a2
    have f2 : Fr (fun b => b = w.heap.size) w1 (w1.setCell ⟨w.heap.size,0 + 3,none⟩ (thingV (locOf tl) c)) := Fr.setCell w1 ⟨w.heap.size,3,none⟩ _
    have z2 : (w1.setCell ⟨w.heap.size,0 + 3,none⟩ (thingV (locOf tl) c)).heap.size = w1.heap.size := by simp [World.setCell]
    replace a2 : (w1.setCell ⟨w.heap.size,0 + 3,none⟩ (thingV (locOf tl) c)).heap[w.heap.size]? = some (.cells (rturn (locOf tl) c).toArray 146 (0,0)) := a2
    generalize w1.setCell ⟨w.heap.size,0 + 3,none⟩ (thingV (locOf tl) c) = w2 at *
    have f02 : Fr no w w2 := f1.trans f2 fun b hb => .inr (by omega)
    have m2 := m.quiet f02
    refine fa62_4 (s_ldb (v := tv) (isAgg60 _) m2.xd rfl ?_)
    refine s_ldTurn (a := w.heap.size) a2 ?_
    refine px_ok (w' := w2.alloc (.cells (rturn (locOf tl) c).toArray 146)) (v := .slice (some ⟨w2.heap.size,0,none⟩) 1 1) (by unfold turnArg; cases c <;> kernel_rfl) ?_
    have f3 := Fr.alloc no w2 (.cells (rturn (locOf tl) c).toArray 146)
    have ho3 := own_lit w2 0 146 4 (rturn (locOf tl) c).toArray 1 (Nat.zero_le _) (by unfold maxLen; omega) (by simp [rturn_len])
    have z3 : (w2.alloc (.cells (rturn (locOf tl) c).toArray 146)).heap.size = w2.heap.size + 1 := by simp
    generalize w2.alloc (.cells (rturn (locOf tl) c).toArray 146) = w3 at *
    have f03 : Fr no w w3 := f02.trans f3 fun b => .inl
    refine ap60 (own_fr hn f03 fun _ _ h => h) (Src.of_own ho3) (by simpa using rturn_one (locOf tl) c) (by omega) (by omega) fun v4 w4 h4 f4 hb4 => ?_
    have hnw : ∀ x,sblk tv = some x → w0.heap.size ≤ x ∧ x < w.heap.size ∧ x ≠ X := fun x hx => ⟨(own_blk_lt hn hx).1,(own_blk_lt hn hx).2,by
      rintro rfl
      obtain ⟨c2,hc2⟩ := own_obj hn hx
      exact absurd (two_types hc2 m.xd) (by decide)⟩
    have hXw := lt_of_get m.xd
    have f04 : Fr (fun x => sblk tv = some x) w w4 := (f03.mono fun b hb => hb.elim).trans f4 fun x hx => .inl hx.symm
    have x4 := f04.get m.xd fun hx => (hnw X hx).2.2 rfl
    have v4o := own_one h4
    refine fa62_4 (s_st (sizeOf60 _) v4o.1 v4o.2 x4 (by show 4 < 11; decide) ?_)
    have x5 := set_same x4 4 v4
    have f5 : Fr (fun x => x = X) w4 (w4.setCell ⟨X,4,none⟩ v4) := Fr.setCell w4 ⟨X,4,none⟩ _
    have hv4X : ∀ x,sblk v4 = some x → x ≠ X := by
      intro x hx
      rcases hb4 with e | e
      · exact (hnw x (e ▸ hx)).2.2
      · rw [e] at hx; injection hx with hx; omega
    have f05 : Fr (fun x => x = X ∨ sblk tv = some x) w (w4.setCell ⟨X,4,none⟩ v4) := (f04.mono fun x hx => .inl (.inr hx)).trans f5 fun x hx => .inl (.inl hx)
    refine s_add_in (by omega) (hnext hi _ _ v4 (m.step f05 (fun x hx => ?_) (fun x hx => hx.imp id fun e => .inr (own_obj hn e)) (by rw [show (w4.setCell ⟨X,0 + 4,none⟩ v4) = w4.setCell ⟨X,4,none⟩ v4 from rfl,x5]; rfl)) ?_ f05 e0 e3 e4 e5 rfl)
    · rcases hx with rfl | hx
      · exact m.lx
      · exact (hnw x hx).1
    · rw [hta,List.flatMap_append]
      exact own_fr (by simpa using h4) f5 hv4X
  · refine s_lt_f (by omega) (pC_false ?_)
    rw [F25_12_eq]
    suffices hs : ∀ ρ2 : Env,ρ2 3 = ptr X → F25_12 k ρ2 w from hs _ e3
    intro ρ2 a3
    unfold F25_12
    rw [a3]; exact hout hi
theorem r_tw1 {ov mv dv:Value} {tl:RTwins} {X i c:Nat} {cs:Array Value} {kN:KE} (h:RRep w0 D S O I L) (ok:S.Ok c) (m:RTw w0 w S L ov mv tl X cs dv) (hl:tl.length ≤ 1099511627775) {ρ:Env} (e0:ρ 0 = ptr D) (e3:ρ 3 = ptr X) (e4:ρ 4 = ov) (e5:ρ 5 = mv) (eI:ρ 6 = i64 i)
    (hout:¬ i < S.shown.length → ∀ ρ',ρ' 0 = ptr D → ρ' 3 = ptr X → ρ' 4 = ov → ρ' 5 = mv → F25_2 k ρ' w)
    (hnext:∀ (hi:i < S.shown.length),∀ ρ' w' ov' mv' ext,RTw w0 w' S L ov' mv' (tl ++ ext) X cs dv → S.shown[i].2 ∈ (tl ++ ext).map (·.1) → ext.length ≤ 1 → ρ' 0 = ptr D → ρ' 3 = ptr X → ρ' 4 = ov' → ρ' 5 = mv' → ρ' 6 = i64 (i + 1) → kN ρ' w') : F25_1 k kN ρ w := by
  have hsm := ok.small
  have hlen := ok.turns.len
  unfold F25_1
  rw [e0,eI,e4,e5]
  have h' := h.fr m.fr fun b hb => hb.elim
  refine s_nil (fa62_2 (s_ldb (v := L.nowv) (isAgg59 _) h'.disk rfl (s_lenS usl59 h'.now.1 ?_)))
  by_cases hi : i < S.shown.length
  · have hre : reach S S.shown[i].2 := .inl ⟨S.shown[i].1,List.getElem_mem hi⟩
    refine s_lt_t (by omega) (pC_true (s_nil (fa62_2 (s_ldb (v := L.nowv) (isAgg59 _) h'.disk rfl (nm_thing h'.now.1 hi fun p q => ?_)))))
    refine r_tw h m (h.sub _ hre) (ok.thing _ hre) hsm (by omega) fun w' ov' mv' ext m' hin he => ?_
    refine s_ext rfl (s_ext rfl (s_add_in (by omega) (hnext hi _ w' ov' mv' ext m' hin he e0 e3 rfl rfl rfl)))
  · refine s_lt_f (by omega) (pC_false ?_)
    rw [F25_2_eq]
    exact hout hi _ e0 e3 e4 e5
theorem r_tw2 {ov mv dv:Value} {tl:RTwins} {X i c:Nat} {cs:Array Value} {kN:KE} (h:RRep w0 D S O I L) (ok:S.Ok c) (m:RTw w0 w S L ov mv tl X cs dv) (hl:tl.length ≤ 1099511627775) {ρ:Env} (e0:ρ 0 = ptr D) (e3:ρ 3 = ptr X) (e4:ρ 4 = ov) (e5:ρ 5 = mv) (eI:ρ 7 = i64 i)
    (hout:¬ i < S.safe.length → ∀ ρ',ρ' 0 = ptr D → ρ' 3 = ptr X → ρ' 4 = ov → ρ' 5 = mv → F25_4 k ρ' w)
    (hnext:∀ (hi:i < S.safe.length),∀ ρ' w' ov' mv' ext,RTw w0 w' S L ov' mv' (tl ++ ext) X cs dv → S.safe[i].2 ∈ (tl ++ ext).map (·.1) → ext.length ≤ 1 → ρ' 0 = ptr D → ρ' 3 = ptr X → ρ' 4 = ov' → ρ' 5 = mv' → ρ' 7 = i64 (i + 1) → kN ρ' w') : F25_3 k kN ρ w := by
  have hsm := ok.small
  have hlen := ok.turns.len
  unfold F25_3
  rw [e0,eI,e4,e5]
  have h' := h.fr m.fr fun b hb => hb.elim
  refine s_nil (fa62_3 (s_ldb (v := L.befv) (isAgg59 _) h'.disk rfl (s_lenS usl59 h'.bef.1 ?_)))
  by_cases hi : i < S.safe.length
  · have hre : reach S S.safe[i].2 := .inr <| .inl ⟨S.safe[i].1,List.getElem_mem hi⟩
    refine s_lt_t (by omega) (pC_true (s_nil (fa62_3 (s_ldb (v := L.befv) (isAgg59 _) h'.disk rfl (nm_thing h'.bef.1 hi fun p q => ?_)))))
    refine r_tw h m (h.sub _ hre) (ok.thing _ hre) hsm (by omega) fun w' ov' mv' ext m' hin he => ?_
    refine s_ext rfl (s_ext rfl (s_add_in (by omega) (hnext hi _ w' ov' mv' ext m' hin he e0 e3 rfl rfl rfl)))
  · refine s_lt_f (by omega) (pC_false ?_)
    rw [F25_4_eq]
    exact hout hi _ e0 e3 e4 e5
theorem r_tw3 {ov mv dv:Value} {tl:RTwins} {X i c:Nat} {cs:Array Value} {kN:KE} (h:RRep w0 D S O I L) (ok:S.Ok c) (m:RTw w0 w S L ov mv tl X cs dv) (hl:tl.length ≤ 1099511627775) {ρ:Env} (e0:ρ 0 = ptr D) (e3:ρ 3 = ptr X) (e4:ρ 4 = ov) (e5:ρ 5 = mv) (eI:ρ 8 = i64 i)
    (hout:¬ i < S.row.length → ∀ ρ',ρ' 0 = ptr D → ρ' 3 = ptr X → ρ' 4 = ov → ρ' 5 = mv → F25_6 k ρ' w)
    (hnext:∀ (hi:i < S.row.length),∀ ρ' w' ov' mv' ext,RTw w0 w' S L ov' mv' (tl ++ ext) X cs dv → (∀ n t,S.row[i] = .mk n t → t ∈ (tl ++ ext).map (·.1)) → ext.length ≤ 1 → ρ' 0 = ptr D → ρ' 3 = ptr X → ρ' 4 = ov' → ρ' 5 = mv' → ρ' 8 = i64 (i + 1) → kN ρ' w') : F25_5 k kN ρ w := by
  have hsm := ok.small
  have hrow := ok.row
  unfold F25_5
  rw [e0,eI,e4,e5]
  have h' := h.fr m.fr fun b hb => hb.elim
  refine s_nil (fa62_4 (s_ldb (v := L.turnv) (isAgg60 _) h'.disk rfl (s_lenS usl60 (Src.of_own h'.turns) ?_)))
  by_cases hi : i < S.row.length
  · refine s_lt_t (by omega) (pC_true (s_nil (fa62_4 (s_ldb (v := L.turnv) (isAgg60 _) h'.disk rfl ?_))))
    obtain ⟨b,o,cc,ev,hp⟩ := Src.place (size := 4) (Src.of_own h'.turns) hi (by omega)
    have hc3 : w.cell? ⟨b,o + i * 4 + 3,none⟩ = some (thingV L.loc S.row[i]) := hp 3 _ (by omega) (by rw [flatAt (f := rturn L.loc) (rturn_len L.loc) (List.getElem?_eq_getElem hi) (by omega)]; exact rturn_3 _ _)
    rw [ev]
    refine s_ix (i := (i:Int)) usl60 (sze60 _) (by omega) (by omega) (fa146_3 (s_ld (v := thingV L.loc S.row[i]) (isAgg142 _) (by simpa using hc3) ?_))
    have next := hnext hi
    have hmem := List.getElem_mem hi
    generalize S.row[i] = cn at *
    cases cn with
    | mk n t =>
      have hre : reach S t := .inr (.inr ⟨n,hmem⟩)
      refine r_tw h m (h.sub _ hre) (ok.thing _ hre) hsm (by omega) fun w' ov' mv' ext m' hin he => ?_
      exact s_ext rfl (s_ext rfl (s_add_in (by omega) (next _ w' ov' mv' ext m' (fun n' t' e => by injection e with e1 e2; subst e2; exact hin) he e0 e3 rfl rfl rfl)))
    | give a' b' => exact r_twinNil (s_ext rfl (s_ext rfl (s_add_in (by omega) (next _ w ov mv [] (by rw [List.append_nil]; exact m) (fun n' t' e => by cases e) (Nat.zero_le _) e0 e3 rfl rfl rfl))))
    | take n' => exact r_twinNil (s_ext rfl (s_ext rfl (s_add_in (by omega) (next _ w ov mv [] (by rw [List.append_nil]; exact m) (fun n' t' e => by cases e) (Nat.zero_le _) e0 e3 rfl rfl rfl))))
  · refine s_lt_f (by omega) (pC_false ?_)
    rw [F25_6_eq]
    exact hout hi _ e0 e3 e4 e5
theorem RTw.disk {ov mv dv nv bv tv:Value} {tl:RTwins} {X:Nat} (h:RRep w0 D S O I L) (m:RTw w0 w S L ov mv tl X #[.bool (!S.off),i64 S.room,nv,bv,tv,i64 S.strokes,i64 S.since,i64 S.plan.off,i64 S.plan.from_,i64 S.plan.to_,dv] dv)
    (hin:∀ t,reach S t → t ∈ tl.map (·.1)) (h1:w.ownsRow w0.heap.size 144 2 nv S.shown.length (nmCells (locOf tl) S.shown)) (h2:w.ownsRow w0.heap.size 144 2 bv S.safe.length (nmCells (locOf tl) S.safe)) (h3:w.ownsRow w0.heap.size 146 4 tv S.row.length (S.row.flatMap (rturn (locOf tl)))) :
    RRep w X S (fun b => w0.heap.size ≤ b ∧ b < w.heap.size ∧ ∃ c T,w.heap[b]? = some (.cells c T (0,0)) ∧ (T = 62 ∨ T = 156 ∨ T = 186 ∨ T = 146 ∨ T = 134)) (fun b => w0.heap.size ≤ b ∧ b < w.heap.size ∧ ∃ c T,w.heap[b]? = some (.cells c T (0,0)) ∧ (T = 144 ∨ T = 5))
      ⟨fun t => t ∈ tl.map (·.1),locOf tl,rowOf tl,nv,bv,tv,dv⟩ := by
  have rowO : ∀ {e:TypeId} {size n:Nat} {v:Value} {xs:List Value},w.ownsRow w0.heap.size e size v n xs → ∀ b,sblk v = some b → w0.heap.size ≤ b ∧ b < w.heap.size ∧ ∃ c,w.heap[b]? = some (.cells c e (0,0)) := fun hr b hb =>
    ⟨(own_blk_lt hr hb).1,(own_blk_lt hr hb).2,own_obj hr hb⟩
  have sb : ∀ {v:Value} {bs:Bytes},NewB w0 w v bs → SB w (fun b => w0.heap.size ≤ b ∧ b < w.heap.size ∧ ∃ c T,w.heap[b]? = some (.cells c T (0,0)) ∧ (T = 144 ∨ T = 5)) v bs := fun hn => ⟨hn.sb,fun b hb => by
    obtain ⟨a1,a2,c,hc⟩ := rowO hn b hb
    exact ⟨a1,a2,c,_,hc,.inr rfl⟩⟩
  have mem : ∀ t,t ∈ tl.map (·.1) → ∃ p ∈ tl,p.1 = t ∧ locOf tl t = p.2.1 ∧ rowOf tl t = p.2.2 := by
    intro t ht
    obtain ⟨p,hp,rfl⟩ := List.mem_map.1 ht
    exact ⟨p,hp,rfl,locOf_mem m.nd hp⟩
  have pw : ∀ p ∈ tl,∀ q ∈ tl,p.1 ≠ q.1 → p.2.1 ≠ q.2.1 ∧ ∀ b,sblk p.2.2 = some b → sblk q.2.2 ≠ some b := by
    intro p hp q hq hne
    obtain ⟨i,hi,rfl⟩ := List.getElem_of_mem hp
    obtain ⟨j,hj,rfl⟩ := List.getElem_of_mem hq
    rcases Nat.lt_trichotomy i j with hlt | heq | hgt
    · exact List.pairwise_iff_getElem.1 m.apart i j hi hj hlt
    · subst heq; exact absurd rfl hne
    · have := List.pairwise_iff_getElem.1 m.apart j i hj hi hgt
      exact ⟨fun e => this.1 e.symm,fun b hb hb' => this.2 b hb' hb⟩
  refine ⟨m.xd,⟨Src.of_own h1,fun b hb => ?_⟩,⟨Src.of_own h2,fun b hb => ?_⟩,own_less h3 (Nat.zero_le _),own_less m.told (Nat.zero_le _),hin,fun t ht => ?_,fun t ht => ?_,fun t u ht hu e => ?_,fun t u ht hu hne => ?_,⟨m.lx,lt_of_get m.xd,_,_,m.xd,.inl rfl⟩,fun b hb => ?_,fun b hb => ?_,fun b hb hb' => ?_,fun b hb => hb.elim (fun h => h.2.1) fun h => h.2.1⟩
  · obtain ⟨a1,a2,c,hc⟩ := rowO h1 b hb; exact ⟨a1,a2,c,_,hc,.inl rfl⟩
  · obtain ⟨a1,a2,c,hc⟩ := rowO h2 b hb; exact ⟨a1,a2,c,_,hc,.inl rfl⟩
  · obtain ⟨p,hp,rfl,_⟩ := mem t ht
    exact h.below _ (m.has p hp)
  · obtain ⟨p,hp,rfl,e1,e2⟩ := mem t ht
    show RTRep w _ _ (locOf tl p.1) (rowOf tl p.1) _
    rw [e1,e2]
    obtain ⟨⟨sv,hv,ps,g1,g2,g3,g4,g5,g6⟩,g7⟩ := m.things p hp
    refine ⟨⟨sv,hv,ps,g1,sb g2,sb g3,own_less g4 (Nat.zero_le _),g5,fun q hq => ?_⟩,⟨g7,lt_of_get g1,_,_,g1,.inr (.inl rfl)⟩,fun b hb => ?_⟩
    · have := g6 q hq
      obtain ⟨cq,sq⟩ := q
      cases cq with
      | wr a d => exact sb (v := sq) this
      | cut n => exact sb (v := sq) this
    · obtain ⟨a1,a2,c,hc⟩ := rowO g4 b hb; exact ⟨a1,a2,c,_,hc,.inr (.inr (.inl rfl))⟩
  · obtain ⟨p,hp,rfl,e1,e2⟩ := mem t ht
    obtain ⟨q,hq,rfl,e3,e4⟩ := mem u hu
    by_cases hne : p.1 = q.1
    · exact hne
    · have e' : locOf tl p.1 = locOf tl q.1 := e
      rw [e1,e3] at e'
      exact absurd e' (pw p hp q hq hne).1
  · obtain ⟨p,hp,rfl,e1,e2⟩ := mem t ht
    obtain ⟨q,hq,rfl,e3,e4⟩ := mem u hu
    show ∀ b,sblk (rowOf tl p.1) = some b → sblk (rowOf tl q.1) ≠ some b
    rw [e2,e4]
    exact (pw p hp q hq hne).2
  · obtain ⟨a1,a2,c,hc⟩ := rowO h3 b hb; exact ⟨a1,a2,c,_,hc,.inr (.inr (.inr (.inl rfl)))⟩
  · obtain ⟨a1,a2,c,hc⟩ := rowO m.told b hb; exact ⟨a1,a2,c,_,hc,.inr (.inr (.inr (.inr rfl)))⟩
  · obtain ⟨_,_,c1,T1,q1,q2⟩ := hb
    obtain ⟨_,_,c2,T2,q3,q4⟩ := hb'
    have := two_types q1 q3
    subst this
    revert q2 q4
    rintro (rfl | rfl | rfl | rfl | rfl) <;> decide
end
section
variable {w w0:World} {D:Nat} {S S':AD} {O I:Nat → Prop} {L L':RLay} {k:KV}
abbrev xcs (S:AD) (nv bv tv dv:Value) : Array Value := #[.bool (!S.off),i64 S.room,nv,bv,tv,i64 S.strokes,i64 S.since,i64 S.plan.off,i64 S.plan.from_,i64 S.plan.to_,dv]
abbrev twEnd (w0:World) (S:AD) (k:KV) : Prop := ∀ w' X O' I' L',RRep w' X S O' I' L' → (∀ b,O' b ∨ I' b → w0.heap.size ≤ b) → Fr no w0 w' → k (ptr X) w'
theorem tw_p6 {ov mv dv nv bv:Value} {tl:RTwins} {X c:Nat} (hk:twEnd w0 S k) (h:RRep w0 D S O I L) (ok:S.Ok c) (m:RTw w0 w S L ov mv tl X (xcs S nv bv (.slice none 0 0) dv) dv) (hin:∀ t,reach S t → t ∈ tl.map (·.1)) (hl:tl.length ≤ 1099511627776)
    (h1:w.ownsRow w0.heap.size 144 2 nv S.shown.length (nmCells (locOf tl) S.shown)) (h2:w.ownsRow w0.heap.size 144 2 bv S.safe.length (nmCells (locOf tl) S.safe)) {ρ:Env} (e0:ρ 0 = ptr D) (e3:ρ 3 = ptr X) (e4:ρ 4 = ov) (e5:ρ 5 = mv) (e:ρ 11 = i64 0) : F25L6 k ρ w := by
  have hrow := ok.row
  have hsm := ok.small
  refine F25L6_inv (m := S.row.length) k (fun m' ρ w => ∃ (i:Nat) (tv:Value),i + m' = S.row.length ∧ RTw w0 w S L ov mv tl X (xcs S nv bv tv dv) dv ∧ w.ownsRow w0.heap.size 144 2 nv S.shown.length (nmCells (locOf tl) S.shown) ∧ w.ownsRow w0.heap.size 144 2 bv S.safe.length (nmCells (locOf tl) S.safe) ∧
      w.ownsRow w0.heap.size 146 4 tv i ((S.row.take i).flatMap (rturn (locOf tl))) ∧ ρ 0 = ptr D ∧ ρ 3 = ptr X ∧ ρ 4 = ov ∧ ρ 5 = mv ∧ ρ 11 = i64 i) ?_ ⟨0,_,by omega,m,h1,h2,⟨rfl,.inl ⟨rfl,rfl⟩⟩,e0,e3,e4,e5,e⟩
  rintro m' ρ w ⟨i,tv,him,m,h1,h2,h3,e0,e3,e4,e5,e⟩
  rw [F25_11_eq]
  refine r_tw6 h m (fun n t ht => hin t (.inr (.inr ⟨n,ht⟩))) hl (by omega) h3 e0 e3 e4 e5 e (fun hi => ?_) fun hi ρ' w' tv' m2 h3' f2 a0 a3 a4 a5 aI => ?_
  · rw [List.take_of_length_le (by omega)] at h3
    have hi' : i = S.row.length := by omega
    rw [hi'] at h3
    exact hk w X _ _ _ (m.disk h hin h1 h2 h3) (fun b hb => hb.elim (fun h => h.1) fun h => h.1) m.fr
  · have ne : ∀ {v:Value} {n:Nat} {xs:List Value},w.ownsRow w0.heap.size 144 2 v n xs → ∀ b,sblk v = some b → ¬ (b = X ∨ sblk tv = some b) := by
      rintro v n xs hr b hb (rfl | e)
      · obtain ⟨c1,q1⟩ := own_obj hr hb; exact absurd (two_types q1 m.xd) (by decide)
      · obtain ⟨c1,q1⟩ := own_obj hr hb
        obtain ⟨c2,q2⟩ := own_obj h3 e
        exact absurd (two_types q1 q2) (by decide)
    exact ⟨m' - 1,by omega,i + 1,tv',by omega,m2,own_fr h1 f2 (ne h1),own_fr h2 f2 (ne h2),h3',a0,a3,a4,a5,by simpa using aI⟩
theorem tw_p5 {ov mv dv nv:Value} {tl:RTwins} {X c:Nat} (hk:twEnd w0 S k) (h:RRep w0 D S O I L) (ok:S.Ok c) (m:RTw w0 w S L ov mv tl X (xcs S nv (.slice none 0 0) (.slice none 0 0) dv) dv) (hin:∀ t,reach S t → t ∈ tl.map (·.1)) (hl:tl.length ≤ 1099511627776)
    (h1:w.ownsRow w0.heap.size 144 2 nv S.shown.length (nmCells (locOf tl) S.shown)) {ρ:Env} (e0:ρ 0 = ptr D) (e3:ρ 3 = ptr X) (e4:ρ 4 = ov) (e5:ρ 5 = mv) (e:ρ 10 = i64 0) : F25L5 k ρ w := by
  have hlen := ok.turns.len
  refine F25L5_inv (m := S.safe.length) k (fun m' ρ w => ∃ (i:Nat) (bv:Value),i + m' = S.safe.length ∧ RTw w0 w S L ov mv tl X (xcs S nv bv (.slice none 0 0) dv) dv ∧ w.ownsRow w0.heap.size 144 2 nv S.shown.length (nmCells (locOf tl) S.shown) ∧ (∀ b,sblk nv = some b → sblk bv ≠ some b) ∧
      w.ownsRow w0.heap.size 144 2 bv i (nmCells (locOf tl) (S.safe.take i)) ∧ ρ 0 = ptr D ∧ ρ 3 = ptr X ∧ ρ 4 = ov ∧ ρ 5 = mv ∧ ρ 10 = i64 i) ?_ ⟨0,_,by omega,m,h1,(by rintro b _ hb; cases hb),⟨rfl,.inl ⟨rfl,rfl⟩⟩,e0,e3,e4,e5,e⟩
  rintro m' ρ w ⟨i,bv,him,m,h1,hne,h2,e0,e3,e4,e5,e⟩
  rw [F25_9_eq]
  refine r_tw5 (nv := bv) (bv := nv) h m (fun p hp => hin p.2 (.inr (.inl ⟨p.1,hp⟩))) hl (by omega) h2 e0 e3 e4 e5 e (fun hi ρ' a0 a3 a4 a5 => ?_) fun hi ρ' w' bv' m2 h2' f2 hb2 a0 a3 a4 a5 aI => ?_
  · unfold F25_10
    rw [List.take_of_length_le (by omega)] at h2
    have hi' : i = S.safe.length := by omega
    rw [hi'] at h2
    exact tw_p6 hk h ok m hin hl h1 h2 a0 a3 a4 a5 rfl
  · have hnv : ∀ b,sblk nv = some b → b < w.heap.size := fun b hb => (own_blk_lt h1 hb).2
    refine ⟨m' - 1,by omega,i + 1,bv',by omega,m2,own_fr h1 f2 ?_,fun b hb e' => ?_,h2',a0,a3,a4,a5,by simpa using aI⟩
    · rintro b hb (rfl | e)
      · obtain ⟨c1,q1⟩ := own_obj h1 hb; exact absurd (two_types q1 m.xd) (by decide)
      · exact hne b hb e
    · rcases hb2 b e' with h | h
      · exact hne b hb h
      · have := hnv b hb; omega
theorem tw_p4 {ov mv dv:Value} {tl:RTwins} {X c:Nat} (hk:twEnd w0 S k) (h:RRep w0 D S O I L) (ok:S.Ok c) (m:RTw w0 w S L ov mv tl X (xcs S (.slice none 0 0) (.slice none 0 0) (.slice none 0 0) dv) dv) (hin:∀ t,reach S t → t ∈ tl.map (·.1)) (hl:tl.length ≤ 1099511627776)
    {ρ:Env} (e0:ρ 0 = ptr D) (e3:ρ 3 = ptr X) (e4:ρ 4 = ov) (e5:ρ 5 = mv) (e:ρ 9 = i64 0) : F25L4 k ρ w := by
  have hlen := ok.turns.len
  refine F25L4_inv (m := S.shown.length) k (fun m' ρ w => ∃ (i:Nat) (nv:Value),i + m' = S.shown.length ∧ RTw w0 w S L ov mv tl X (xcs S nv (.slice none 0 0) (.slice none 0 0) dv) dv ∧
      w.ownsRow w0.heap.size 144 2 nv i (nmCells (locOf tl) (S.shown.take i)) ∧ ρ 0 = ptr D ∧ ρ 3 = ptr X ∧ ρ 4 = ov ∧ ρ 5 = mv ∧ ρ 9 = i64 i) ?_ ⟨0,_,by omega,m,⟨rfl,.inl ⟨rfl,rfl⟩⟩,e0,e3,e4,e5,e⟩
  rintro m' ρ w ⟨i,nv,him,m,h1,e0,e3,e4,e5,e⟩
  rw [F25_7_eq]
  refine r_tw4 h m (fun p hp => hin p.2 (.inl ⟨p.1,hp⟩)) hl (by omega) h1 e0 e3 e4 e5 e (fun hi ρ' a0 a3 a4 a5 => ?_) fun hi ρ' w' nv' m2 h1' f2 hb2 a0 a3 a4 a5 aI => ?_
  · unfold F25_8
    rw [List.take_of_length_le (by omega)] at h1
    have hi' : i = S.shown.length := by omega
    rw [hi'] at h1
    exact tw_p5 hk h ok m hin hl h1 a0 a3 a4 a5 rfl
  · exact ⟨m' - 1,by omega,i + 1,nv',by omega,m2,h1',a0,a3,a4,a5,by simpa using aI⟩
theorem mem_ext {tl ext:RTwins} {t:Nat} (h:t ∈ tl.map (·.1)) : t ∈ (tl ++ ext).map (·.1) := by rw [List.map_append]; exact List.mem_append_left _ h
theorem tw_p3 {ov mv dv:Value} {tl:RTwins} {X c:Nat} (hk:twEnd w0 S k) (h:RRep w0 D S O I L) (ok:S.Ok c) (hc:c ≤ 1073741824) (m:RTw w0 w S L ov mv tl X (xcs S (.slice none 0 0) (.slice none 0 0) (.slice none 0 0) dv) dv) (hin1:∀ p ∈ S.shown,p.2 ∈ tl.map (·.1)) (hin2:∀ p ∈ S.safe,p.2 ∈ tl.map (·.1)) (hl:tl.length ≤ 1000)
    {ρ:Env} (e0:ρ 0 = ptr D) (e3:ρ 3 = ptr X) (e4:ρ 4 = ov) (e5:ρ 5 = mv) (e:ρ 8 = i64 0) : F25L3 k ρ w := by
  have hrow := ok.row
  refine F25L3_inv (m := S.row.length) k (fun m' ρ w => ∃ (i:Nat) (tl:RTwins) (ov mv:Value),i + m' = S.row.length ∧ RTw w0 w S L ov mv tl X (xcs S (.slice none 0 0) (.slice none 0 0) (.slice none 0 0) dv) dv ∧ (∀ p ∈ S.shown,p.2 ∈ tl.map (·.1)) ∧ (∀ p ∈ S.safe,p.2 ∈ tl.map (·.1)) ∧ (∀ n t,Turn.mk n t ∈ S.row.take i → t ∈ tl.map (·.1)) ∧ tl.length ≤ 1000 + i ∧
      ρ 0 = ptr D ∧ ρ 3 = ptr X ∧ ρ 4 = ov ∧ ρ 5 = mv ∧ ρ 8 = i64 i) ?_ ⟨0,tl,ov,mv,by omega,m,hin1,hin2,(fun n t ht => by simp at ht),by omega,e0,e3,e4,e5,e⟩
  rintro m' ρ w ⟨i,tl,ov,mv,him,m,hin1,hin2,hin3,hl,e0,e3,e4,e5,e⟩
  rw [F25_5_eq]
  refine r_tw3 h ok m (by omega) e0 e3 e4 e5 e (fun hi ρ' a0 a3 a4 a5 => ?_) fun hi ρ' w' ov' mv' ext m2 hin he a0 a3 a4 a5 aI => ?_
  · unfold F25_6
    rw [List.take_of_length_le (by omega)] at hin3
    refine tw_p4 hk h ok m (fun t ht => ?_) (by omega) a0 a3 a4 a5 rfl
    rcases ht with ⟨n,ht⟩ | ⟨n,ht⟩ | ⟨n,ht⟩
    · exact hin1 _ ht
    · exact hin2 _ ht
    · exact hin3 n t ht
  · refine ⟨m' - 1,by omega,i + 1,tl ++ ext,ov',mv',by omega,m2,fun p hp => mem_ext (hin1 p hp),fun p hp => mem_ext (hin2 p hp),fun n t ht => ?_,by rw [List.length_append]; omega,a0,a3,a4,a5,by simpa using aI⟩
    rw [List.take_succ_eq_append_getElem hi] at ht
    rcases List.mem_append.1 ht with ht | ht
    · exact mem_ext (hin3 n t ht)
    · rw [List.mem_singleton] at ht; exact hin n t ht.symm
theorem tw_p2 {ov mv dv:Value} {tl:RTwins} {X c:Nat} (hk:twEnd w0 S k) (h:RRep w0 D S O I L) (ok:S.Ok c) (hc:c ≤ 1073741824) (m:RTw w0 w S L ov mv tl X (xcs S (.slice none 0 0) (.slice none 0 0) (.slice none 0 0) dv) dv) (hin1:∀ p ∈ S.shown,p.2 ∈ tl.map (·.1)) (hl:tl.length ≤ 500)
    {ρ:Env} (e0:ρ 0 = ptr D) (e3:ρ 3 = ptr X) (e4:ρ 4 = ov) (e5:ρ 5 = mv) (e:ρ 7 = i64 0) : F25L2 k ρ w := by
  have hlen := ok.turns.len
  refine F25L2_inv (m := S.safe.length) k (fun m' ρ w => ∃ (i:Nat) (tl:RTwins) (ov mv:Value),i + m' = S.safe.length ∧ RTw w0 w S L ov mv tl X (xcs S (.slice none 0 0) (.slice none 0 0) (.slice none 0 0) dv) dv ∧ (∀ p ∈ S.shown,p.2 ∈ tl.map (·.1)) ∧ (∀ p ∈ S.safe.take i,p.2 ∈ tl.map (·.1)) ∧ tl.length ≤ 500 + i ∧
      ρ 0 = ptr D ∧ ρ 3 = ptr X ∧ ρ 4 = ov ∧ ρ 5 = mv ∧ ρ 7 = i64 i) ?_ ⟨0,tl,ov,mv,by omega,m,hin1,(fun p hp => by simp at hp),by omega,e0,e3,e4,e5,e⟩
  rintro m' ρ w ⟨i,tl,ov,mv,him,m,hin1,hin2,hl,e0,e3,e4,e5,e⟩
  rw [F25_3_eq]
  refine r_tw2 h ok m (by omega) e0 e3 e4 e5 e (fun hi ρ' a0 a3 a4 a5 => ?_) fun hi ρ' w' ov' mv' ext m2 hin he a0 a3 a4 a5 aI => ?_
  · unfold F25_4
    rw [List.take_of_length_le (by omega)] at hin2
    exact tw_p3 hk h ok hc m hin1 hin2 (by omega) a0 a3 a4 a5 rfl
  · refine ⟨m' - 1,by omega,i + 1,tl ++ ext,ov',mv',by omega,m2,fun p hp => mem_ext (hin1 p hp),fun p hp => ?_,by rw [List.length_append]; omega,a0,a3,a4,a5,by simpa using aI⟩
    rw [List.take_succ_eq_append_getElem hi] at hp
    rcases List.mem_append.1 hp with hp | hp
    · exact mem_ext (hin2 p hp)
    · rw [List.mem_singleton] at hp; subst hp; exact hin
theorem tw_p1 {ov mv dv:Value} {X c:Nat} (hk:twEnd w0 S k) (h:RRep w0 D S O I L) (ok:S.Ok c) (hc:c ≤ 1073741824) (m:RTw w0 w S L ov mv [] X (xcs S (.slice none 0 0) (.slice none 0 0) (.slice none 0 0) dv) dv)
    {ρ:Env} (e0:ρ 0 = ptr D) (e3:ρ 3 = ptr X) (e4:ρ 4 = ov) (e5:ρ 5 = mv) (e:ρ 6 = i64 0) : F25L1 k ρ w := by
  have hlen := ok.turns.len
  refine F25L1_inv (m := S.shown.length) k (fun m' ρ w => ∃ (i:Nat) (tl:RTwins) (ov mv:Value),i + m' = S.shown.length ∧ RTw w0 w S L ov mv tl X (xcs S (.slice none 0 0) (.slice none 0 0) (.slice none 0 0) dv) dv ∧ (∀ p ∈ S.shown.take i,p.2 ∈ tl.map (·.1)) ∧ tl.length ≤ i ∧
      ρ 0 = ptr D ∧ ρ 3 = ptr X ∧ ρ 4 = ov ∧ ρ 5 = mv ∧ ρ 6 = i64 i) ?_ ⟨0,[],ov,mv,by omega,m,(fun p hp => by simp at hp),Nat.le_refl _,e0,e3,e4,e5,e⟩
  rintro m' ρ w ⟨i,tl,ov,mv,him,m,hin1,hl,e0,e3,e4,e5,e⟩
  rw [F25_1_eq]
  refine r_tw1 h ok m (by omega) e0 e3 e4 e5 e (fun hi ρ' a0 a3 a4 a5 => ?_) fun hi ρ' w' ov' mv' ext m2 hin he a0 a3 a4 a5 aI => ?_
  · unfold F25_2
    rw [List.take_of_length_le (by omega)] at hin1
    exact tw_p2 hk h ok hc m hin1 (by omega) a0 a3 a4 a5 rfl
  · refine ⟨m' - 1,by omega,i + 1,tl ++ ext,ov',mv',by omega,m2,fun p hp => ?_,by rw [List.length_append]; omega,a0,a3,a4,a5,by simpa using aI⟩
    rw [List.take_succ_eq_append_getElem hi] at hp
    rcases List.mem_append.1 hp with hp | hp
    · exact mem_ext (hin1 p hp)
    · rw [List.mem_singleton] at hp; subst hp; exact hin
set_option maxHeartbeats 1000000 in
theorem r_twin {c:Nat} (h:RRep w D S O I L) (ok:S.Ok c) (hc:c ≤ 1073741824) (hk:twEnd w S k) : pFn P 25 [ptr D] w k := by
  have hroom := ok.room
  have hreads := ok.reads
  refine F25_in _ _ _ ?_
  unfold F25_0
  show px P (binSem BinOp.eql 30 _ _ (ptr D) (.pointer none)) w _
  refine s_eqpn upt30 (pG_yes rfl (pG_yes rfl (s_nil (pG_yes rfl (fa62_1 (pG_yes rfl (s_ldb (v := i64 S.room) (isAgg3 _) h.disk rfl (pG_yes rfl (s_eqi_f (by omega) (s_pick_f (pC_false ?_)))))))))))
  refine s_nil (s_ldAgg (m := 11) (isAgg62 _) (sizeOf62 _) h.disk (by show 0 + 11 ≤ 11; decide) ?_)
  refine s_alloc (zeroValue62 _) ?_
  have b1 := alloc_new w (.cells #[.bool false,i64 0,.slice none 0 0,.slice none 0 0,.slice none 0 0,i64 0,i64 0,i64 0,i64 0,i64 0,.slice none 0 0] 62)
  have f1 := Fr.alloc no w (.cells #[.bool false,i64 0,.slice none 0 0,.slice none 0 0,.slice none 0 0,i64 0,i64 0,i64 0,i64 0,i64 0,.slice none 0 0] 62)
  have z1 : (w.alloc (.cells #[.bool false,i64 0,.slice none 0 0,.slice none 0 0,.slice none 0 0,i64 0,i64 0,i64 0,i64 0,i64 0,.slice none 0 0] 62)).heap.size = w.heap.size + 1 := by simp
  show pu P _ (w.alloc (.cells #[.bool false,i64 0,.slice none 0 0,.slice none 0 0,.slice none 0 0,i64 0,i64 0,i64 0,i64 0,i64 0,.slice none 0 0] 62)) _
  generalize w.alloc (.cells #[.bool false,i64 0,.slice none 0 0,.slice none 0 0,.slice none 0 0,i64 0,i64 0,i64 0,i64 0,i64 0,.slice none 0 0] 62) = w1 at *
  have hnv : ∃ A c',L.nowv = .slice A S.shown.length c' := by obtain ⟨A,c',e,_⟩ := h.now.1; exact ⟨A,c',e⟩
  have hbv : ∃ A c',L.befv = .slice A S.safe.length c' := by obtain ⟨A,c',e,_⟩ := h.bef.1; exact ⟨A,c',e⟩
  have ht1 := (own_one h.turns).2
  have ht2 := (own_one h.told).2
  obtain ⟨A1,c1,ev1⟩ := hnv
  obtain ⟨A2,c2,ev2⟩ := hbv
  refine s_stN (n := 11) (vs := (rcells S L).toList) (sizeOf62 _) rfl (by
    intro v hv
    simp [rcells,ev1,ev2] at hv
    rcases hv with rfl | rfl | rfl | rfl | rfl | rfl | rfl | rfl | rfl | rfl | rfl <;> first | rfl | exact ht1 | exact ht2) b1 (by show 0 + 11 ≤ 11; decide) fun w2 b2 f2 z2 => ?_
  replace b2 : w2.heap[w.heap.size]? = some (.cells (rcells S L) 62 (0,0)) := by rw [b2]; rfl
  have f02 : Fr no w w2 := f1.trans f2 fun b hb => .inr (by omega)
  refine fa62_2 (s_st (sizeOf59 _) rfl rfl b2 (by show 2 < 11; decide) ?_)
  have b3 := set_same b2 2 (.slice none 0 0)
  have f3 : Fr no w (w2.setCell ⟨w.heap.size,2,none⟩ (.slice none 0 0)) := f02.trans (Fr.setCell w2 ⟨w.heap.size,2,none⟩ _) fun b hb => .inr (by have hb':b = w.heap.size := hb; omega)
  have z3 : (w2.setCell ⟨w.heap.size,2,none⟩ (.slice none 0 0)).heap.size = w1.heap.size := by rw [← z2]; simp [World.setCell]
  show px P _ (w2.setCell ⟨w.heap.size,2,none⟩ (.slice none 0 0)) _
  generalize w2.setCell ⟨w.heap.size,2,none⟩ (.slice none 0 0) = w3 at *
  refine fa62_3 (s_st (sizeOf59 _) rfl rfl b3 (by show 3 < 11; decide) ?_)
  have b4 := set_same b3 3 (.slice none 0 0)
  have f4 : Fr no w (w3.setCell ⟨w.heap.size,3,none⟩ (.slice none 0 0)) := f3.trans (Fr.setCell w3 ⟨w.heap.size,3,none⟩ _) fun b hb => .inr (by have hb':b = w.heap.size := hb; omega)
  have z4 : (w3.setCell ⟨w.heap.size,3,none⟩ (.slice none 0 0)).heap.size = w1.heap.size := by rw [← z3]; simp [World.setCell]
  show px P _ (w3.setCell ⟨w.heap.size,3,none⟩ (.slice none 0 0)) _
  generalize w3.setCell ⟨w.heap.size,3,none⟩ (.slice none 0 0) = w4 at *
  refine fa62_4 (s_st (sizeOf60 _) rfl rfl b4 (by show 4 < 11; decide) ?_)
  have b5 := set_same b4 4 (.slice none 0 0)
  have f5 : Fr no w (w4.setCell ⟨w.heap.size,4,none⟩ (.slice none 0 0)) := f4.trans (Fr.setCell w4 ⟨w.heap.size,4,none⟩ _) fun b hb => .inr (by have hb':b = w.heap.size := hb; omega)
  have z5 : (w4.setCell ⟨w.heap.size,4,none⟩ (.slice none 0 0)).heap.size = w1.heap.size := by rw [← z4]; simp [World.setCell]
  show px P _ (w4.setCell ⟨w.heap.size,4,none⟩ (.slice none 0 0)) _
  generalize w4.setCell ⟨w.heap.size,4,none⟩ (.slice none 0 0) = w5 at *
  refine lit0_56 ?_
  have f6 := Fr.alloc no w5 (.cells #[] 134)
  have ho := own_lit w5 w.heap.size 134 3 #[] 0 (by omega) (by unfold maxLen; omega) rfl
  have z6 : (w5.alloc (.cells #[] 134)).heap.size = w5.heap.size + 1 := by simp
  show px P _ (w5.alloc (.cells #[] 134)) _
  generalize w5.alloc (.cells #[] 134) = w6 at *
  have f06 : Fr no w w6 := f5.trans f6 fun b => .inl
  have h6 := h.fr f06 fun b hb => hb.elim
  have hDX : D ≠ w.heap.size := fun e => by have := h.lt D (.inl h.oD); omega
  refine s_nil (fa62_8 (s_ldb (v := L.toldv) (isAgg56 _) h6.disk rfl ?_))
  refine ap56 ho (Src.of_own h6.told) (by intro u hu; obtain ⟨s,_,hs⟩ := List.mem_flatMap.1 hu; simp [spanCells] at hs; rcases hs with rfl | rfl | rfl <;> rfl) (by omega) (by omega) fun v7 w7 h7 f7 hb7 => ?_
  rw [Nat.zero_add] at h7
  replace h7 : w7.ownsRow w.heap.size 134 3 v7 S.reads.length (S.reads.flatMap spanCells) := h7
  have b7 := f7.get (f6.get b5 id) (fun hb => by injection hb with hb; have hb' : w.heap.size = w5.heap.size := hb; omega)
  have f07 : Fr no w w7 := f06.trans f7 fun b hb => .inr (by injection hb with hb; have hb' : b = w5.heap.size := hb; omega)
  refine fa62_8 (s_st (sizeOf56 _) (own_one h7).1 (own_one h7).2 b7 (by show 10 < 11; decide) ?_)
  have b8 := set_same b7 10 v7
  have f8 : Fr (fun b => b = w.heap.size) w7 (w7.setCell ⟨w.heap.size,10,none⟩ v7) := Fr.setCell w7 ⟨w.heap.size,10,none⟩ v7
  have hv7 : ∀ b,sblk v7 = some b → ¬ (b = w.heap.size) := by
    rintro b hb rfl
    obtain ⟨c3,h3⟩ := own_obj h7 hb
    exact absurd (two_types h3 b7) (by decide)
  refine tw_p1 (X := w.heap.size) (ov := .slice none 0 0) (mv := .slice none 0 0) (dv := v7) hk h ok hc ⟨f07.trans f8 fun b hb => .inr (by have hb':b = w.heap.size := hb; omega),by
      show (w7.setCell ⟨w.heap.size,10,none⟩ v7).heap[w.heap.size]? = _
      rw [b8]; rfl,Nat.le_refl _,own_fr h7 f8 hv7,⟨rfl,.inl ⟨rfl,rfl⟩⟩,⟨rfl,.inl ⟨rfl,rfl⟩⟩,(by rintro b hb; cases hb),by simp,by simp,List.Pairwise.nil,List.nodup_nil⟩ rfl rfl rfl rfl rfl
end
end Go.Proofs.YtcdcojpfealppaaGreat
