/- Put together by a program (wip/tools/shake.py): XSep2,XSep3,XBag,XBag2,XEntry,CLoad,CLoad2,XMove,XDefer,File,Pair0. -/
import Derived.Test.YteeeggphkhimcaaGreatDoorE8
import Derived.Test.YteeeggphkhimcaaGreatDoorE7
import Derived.Test.YteeeggphkhimcaaGreatDoorE2
import Derived.Test.YteeeggphkhimcaaGreatDoorE13
import Derived.Test.YteeeggphkhimcaaGreatDoorE1
import Derived.Defers
import Derived.Test.YteeeggphkhimcaaGreatDoorE14
import Derived.Laws.Tables
set_option linter.unusedVariables false
namespace Go.Proofs.XSep
open Go Go.RowKit Go.Proofs.XRed Go.Proofs.XHeap
theorem Seps.at2 {w:World} {J:Blks} {a b:Asrt} : ∀ {l:List Asrt} {i j:Nat} {O I:Blks},Seps l w O I → (∀ b,O b → ¬ J b) → i ≠ j → l[i]? = some a → l[j]? = some b →
    ∃ O1 I1 O2 I2,a.h w O1 I1 ∧ b.h w O2 I2 ∧ (∀ x,O1 x → ¬ O2 x ∧ ¬ I2 x) ∧ (∀ x,O2 x → ¬ O1 x ∧ ¬ I1 x) ∧ (∀ b,O1 b → O b) ∧ (∀ b,I1 b → I b) ∧ ∀ c w' O' I',c.h w' O' I' → Nxt w O1 J w' O' I' → ∃ O3 I3,Seps (l.set i c) w' O3 I3 ∧ Fr O w w' ∧ (∀ b,O3 b → O b ∨ w.heap.size ≤ b) ∧ ∀ b,I3 b → I b ∨ J b ∨ w.heap.size ≤ b
  | [],_,_,_,_,_,_,_,h,_ => by simp at h
  | x :: l,0,0,_,_,_,_,h,_,_ => absurd rfl h
  | x :: l,0,j + 1,O,I,hs,hJ,_,hi,hj => by
    have hs0 := hs
    obtain ⟨Oa,Ia,Ob,Ib,h1,h2,h3,h4,h5⟩ := hs
    simp at hi; subst hi
    obtain ⟨O2,I2,g1,g2,g3,_⟩ := h2.at_ (J := fun _ => False) (i := j) (a := b) (fun _ _ h => h) (by simpa using hj)
    refine ⟨Oa,Ia,O2,I2,h1,g1,fun x hx => ⟨fun h => (h3.1 x hx).1 (g2 x h),fun h => (h3.1 x hx).2 (g3 x h)⟩,fun x hx => h3.2 x (g2 x hx),fun b hb => (h4 b).2 (.inl hb),fun b hb => (h5 b).2 (.inl hb),fun c w' O' I' hc hn => ?_⟩
    refine ⟨fun b => O' b ∨ Ob b,fun b => I' b ∨ Ib b,⟨O',I',Ob,Ib,hc,Seps.fr hn.fr h2 h3.1,⟨fun b hb => ?_,fun b hb => ?_⟩,fun _ => Iff.rfl,fun _ => Iff.rfl⟩,?_,?_,?_⟩
    · rcases hn.on b hb with h | h
      · exact h3.1 b h
      · exact ⟨fun h' => absurd (h2.lt b (.inl h')) (by omega),fun h' => absurd (h2.lt b (.inr h')) (by omega)⟩
    · have hlt := h2.lt b (.inl hb)
      refine ⟨fun h => ?_,fun h => ?_⟩
      · rcases hn.on b h with h | h
        · exact (h3.1 b h).1 hb
        · omega
      · rcases hn.in_ b h with h | h
        · exact hJ b ((h4 b).2 (.inr hb)) h
        · omega
    · exact hn.fr.mono fun b hb => .inl ((h4 b).2 (.inl hb))
    · rintro b (hb | hb)
      · exact (hn.on b hb).imp (fun h => (h4 b).2 (.inl h)) id
      · exact .inl ((h4 b).2 (.inr hb))
    · rintro b (hb | hb)
      · exact .inr (hn.in_ b hb)
      · exact .inl ((h5 b).2 (.inr hb))
  | x :: l,i + 1,j,O,I,⟨O1,I1,O2,I2,h1,h2,h3,h4,h5⟩,hJ,hij,hi,hj => by
    have main : ∀ Oa Ia,a.h w Oa Ia → (∀ b,Oa b → O2 b) → (∀ b,Ia b → I2 b) → (∀ c w' O' I',c.h w' O' I' → Nxt w Oa J w' O' I' → ∃ O3 I3,Seps (l.set i c) w' O3 I3 ∧ Fr O2 w w' ∧ (∀ b,O3 b → O2 b ∨ w.heap.size ≤ b) ∧ ∀ b,I3 b → I2 b ∨ J b ∨ w.heap.size ≤ b) →
        ∀ c w' O' I',c.h w' O' I' → Nxt w Oa J w' O' I' → ∃ O3 I3,Seps ((x :: l).set (i + 1) c) w' O3 I3 ∧ Fr O w w' ∧ (∀ b,O3 b → O b ∨ w.heap.size ≤ b) ∧ ∀ b,I3 b → I b ∨ J b ∨ w.heap.size ≤ b := by
      intro Oa Ia ha ho hi2 hs c w' O' I' hc hn
      obtain ⟨O3,I3,hs3,hf,hon,hin⟩ := hs c w' O' I' hc hn
      refine ⟨fun b => O1 b ∨ O3 b,fun b => I1 b ∨ I3 b,⟨O1,I1,O3,I3,x.fr h1 hf h3.2,hs3,⟨fun b hb => ?_,fun b hb => ?_⟩,fun _ => Iff.rfl,fun _ => Iff.rfl⟩,?_,?_,?_⟩
      · have hlt := x.lt h1 b (.inl hb)
        refine ⟨fun h => ?_,fun h => ?_⟩
        · rcases hon b h with h | h
          · exact (h3.1 b hb).1 h
          · omega
        · rcases hin b h with h | h | h
          · exact (h3.1 b hb).2 h
          · exact hJ b ((h4 b).2 (.inl hb)) h
          · omega
      · rcases hon b hb with h | h
        · exact h3.2 b h
        · exact ⟨fun h' => absurd (x.lt h1 b (.inl h')) (by omega),fun h' => absurd (x.lt h1 b (.inr h')) (by omega)⟩
      · exact hf.mono fun b hb => .inl ((h4 b).2 (.inr hb))
      · rintro b (hb | hb)
        · exact .inl ((h4 b).2 (.inl hb))
        · exact (hon b hb).imp (fun h => (h4 b).2 (.inr h)) id
      · rintro b (hb | hb)
        · exact .inl ((h5 b).2 (.inl hb))
        · rcases hin b hb with h | h
          · exact .inl ((h5 b).2 (.inr h))
          · exact .inr h
    cases j with
    | zero =>
      simp at hj; subst hj
      obtain ⟨Oa,Ia,ha,ho,hi2,hs⟩ := h2.at_ (J := J) (i := i) (a := a) (fun b hb => hJ b ((h4 b).2 (.inr hb))) (by simpa using hi)
      exact ⟨Oa,Ia,O1,I1,ha,h1,fun y hy => h3.2 y (ho y hy),fun y hy => ⟨fun h => (h3.1 y hy).1 (ho y h),fun h => (h3.1 y hy).2 (hi2 y h)⟩,fun b hb => (h4 b).2 (.inr (ho b hb)),fun b hb => (h5 b).2 (.inr (hi2 b hb)),main Oa Ia ha ho hi2 hs⟩
    | succ j =>
      obtain ⟨Oa,Ia,Oc,Ic,ha,hc,g1,g2,ho,hi2,hs⟩ := Seps.at2 (J := J) (i := i) (j := j) h2 (fun b hb => hJ b ((h4 b).2 (.inr hb))) (by omega) (by simpa using hi) (by simpa using hj)
      exact ⟨Oa,Ia,Oc,Ic,ha,hc,g1,g2,fun b hb => (h4 b).2 (.inr (ho b hb)),fun b hb => (h5 b).2 (.inr (hi2 b hb)),main Oa Ia ha ho hi2 hs⟩
theorem Sep.at2 {l:List Asrt} {w:World} (h:Sep l w) (i j:Nat) {a b:Asrt} (hij:i ≠ j) (hi:l[i]? = some a) (hj:l[j]? = some b) :
    ∃ O I O2 I2 J,a.h w O I ∧ b.h w O2 I2 ∧ (∀ x,O x → ¬ O2 x ∧ ¬ I2 x) ∧ (∀ x,O2 x → ¬ O x ∧ ¬ I x) ∧ (∀ b,I b → J b) ∧ (∀ b,O b → ¬ J b) ∧ ∀ c w' O' I',c.h w' O' I' → Nxt w O J w' O' I' → Sep (l.set i c) w' := by
  obtain ⟨O,I,hs⟩ := h
  obtain ⟨O1,I1,O2,I2,h1,h2,g1,g2,h3,h4,h5⟩ := hs.at2 (J := I) hs.ap hij hi hj
  refine ⟨O1,I1,O2,I2,I,h1,h2,g1,g2,h4,fun b hb => hs.ap b (h3 b hb),fun c w' O' I' hc hn => ?_⟩
  obtain ⟨O3,I3,h6,-⟩ := h5 c w' O' I' hc hn
  exact ⟨O3,I3,h6⟩
theorem perm_front {α:Type} : ∀ {l:List α} {i:Nat} {a:α},l[i]? = some a → l.Perm (a :: l.eraseIdx i)
 | [],_,_,h => by simp at h
 | x :: l,0,a,h => by simp at h; subst h; exact .refl _
 | x :: l,i + 1,a,h => (List.Perm.cons x (perm_front (l := l) (i := i) (by simpa using h))).trans (List.Perm.swap _ _ _)
theorem Sep.front {w:World} {l:List Asrt} (h:Sep l w) (i:Nat) {a:Asrt} (hi:l[i]? = some a) : Sep (a :: l.eraseIdx i) w := h.perm (perm_front hi)
theorem Sep.erase {w:World} {l:List Asrt} (h:Sep l w) (i:Nat) {a:Asrt} (hi:l[i]? = some a) : Sep (l.eraseIdx i) w := (h.front i hi).drop
end Go.Proofs.XSep

set_option linter.unusedSimpArgs false
namespace Go.Proofs.XSep
open Go Go.RowKit Go.Proofs.XRed Go.Proofs.XHeap Go.Proofs.XSlices
variable {w:World} {l:List Asrt} {ix:Nat} {te sz n:Nat} {v:Value} {cs:List Value}
end Go.Proofs.XSep

namespace Go.Proofs.XMaps
open Go Go.RowKit Go.MapKept Go.Proofs.XHeap
section
variable {P:Program} {w:World} {m:Nat} {l:List (ByteArray × Value)} {t kt et:TypeId}
theorem SMap.entry_new (h:SMap w m l) (ht:P.underlying t = some (.map kt et)) (hk:P.underlying kt = some .string) {z:Value} (hz:∀ w,(zeroValue et).run P w = .ok z w) (s:ByteArray) (hn:∀ p ∈ l,p.1 ≠ s) :
    ∃ (w1:World) (c:Nat),(Instr.mapEntry t (.map (some m)) (.string s)).run P w = .ok (.tuple #[z,.int .i64 c]) w1 ∧ Fr (fun b => b = m) w w1 ∧ w1.heap.size = w.heap.size ∧
      ∀ (v:Value) (w2:World),w2.heap[m]? = w1.heap[m]? → ∃ w3,(Instr.entryStore t (.map (some m)) (.int .i64 c) v).run P w2 = .ok () w3 ∧ SMap w3 m (l ++ [(s,v)]) ∧ Fr (fun b => b = m) w2 w3 ∧ w3.heap.size = w2.heap.size := by
  obtain ⟨es,clock,hb,hs,hl,hc⟩ := h.find s
  have hck := fun e => run_checkKey (P := P) (w := w) (k := .string s) hk trivial e 9999
  have hlt := lt_of_get hb
  rcases hc with ⟨h1,h1',h2⟩ | ⟨j,e,p,h1,h2,h3,h4,h5,h6⟩
  · refine ⟨ChangeMaps.setBlock w m (.map (es.push { key := .string s,val := z,born := clock }) (clock + 1)),clock,?_,Fr.setBlock _ _ _,by simp [ChangeMaps.setBlock],fun v w2 hw => ?_⟩
    · simp [Instr.mapEntry,run_underlying ht,MapKept.run_getObj_map hb,hck,run_findKey hk h1,hz,MapKept.run_setObj_map _ hb,Result.andThen,ChangeMaps.setBlock,goInt]
    · have hb2 : w2.heap[m]? = some (.map (es.push { key := .string s,val := z,born := clock }) (clock + 1)) := by
        rw [hw]; simp [ChangeMaps.setBlock,hlt]
      have hlt2 := lt_of_get hb2
      have hbn := ((stamped_iff es clock).1 hs).1
      have hfi : (es.push { key := .string s,val := z,born := clock }).findIdx? (fun e => (e.born : Int) == (clock:Int)) = some es.size := by
        rw [Array.findIdx?_eq_some_iff_getElem]
        refine ⟨by simp,by simp,fun j hj => ?_⟩
        have hj' : j < es.size := by simpa using hj
        have : es[j].born < clock := hbn es[j] (by simp)
        simp only [Array.getElem_push_lt hj']
        simp; omega
      have hmod : (es.push { key := .string s,val := z,born := clock }).modify es.size (fun e => { e with val := v }) = es.push { key := .string s,val := v,born := clock } := by
        apply Array.ext
        · simp
        · intro i h1 h2
          simp only [Array.getElem_modify,Array.getElem_push]
          by_cases he : es.size = i
          · subst he; simp
          · rw [if_neg he]
            have : i < es.size := by simp at h2; omega
            simp [this]
      refine ⟨ChangeMaps.setBlock w2 m (.map (es.push { key := .string s,val := v,born := clock }) (clock + 1)),?_,⟨es.push { key := .string s,val := v,born := clock },clock + 1,by simp [ChangeMaps.setBlock,hlt2],stamped_push hs h1',by simp [hl]⟩,Fr.setBlock _ _ _,by simp [ChangeMaps.setBlock]⟩
      simp [Instr.entryStore,MapKept.run_getObj_map hb2,asInt,asIntOf,hfi,hmod,MapKept.run_setObj_map _ hb2,Result.andThen,ChangeMaps.setBlock]
  · exact absurd h5 (hn p (List.mem_of_getElem? h4))
end
end Go.Proofs.XMaps
namespace Go.Proofs.XHeap
open Go Go.RowKit Go.Proofs.XRed
theorem s_boxC {P:Program} {w:World} {k:KV} {t:TypeId} {v:Value} {cs:Array Value} (h:v.cells = cs) (hk:k (.pointer (some ⟨w.heap.size,0,none⟩)) (w.alloc (.cells cs t))) : px P (Instr.box t v) w k := by
 subst h; exact s_box hk
end Go.Proofs.XHeap

set_option maxRecDepth 100000
namespace Go.Proofs.YteeeggphkhimcaaGreatDoor
open Go Go.Proofs Go.RowKit Go.Proofs.XRed Go.Proofs.XHeap Go.Proofs.XMaps Go.Proofs.XSlices Go.Proofs.XDisk Go.Proofs.XCalls Go.Proofs.XSep Tryz
section
variable {w w0:World} {D:Nat} {S S':AD} {O I:Nat → Prop} {L L':Lay} {k:KV}
theorem map_ne_cells {m b:Nat} {l:List (ByteArray × Value)} (h:SMap w m l) {c:Array Value} {T:TypeId} {f:Nat × Nat} (hb:w.heap[b]? = some (.cells c T f)) : b ≠ m := by
 rintro rfl
 obtain ⟨es,cl,he,_⟩ := h
 rw [he] at hb; cases hb
theorem DRep.addFile {w':World} {f:FileA} {T:Nat} {I':Nat → Prop} (h:DRep w D S O I L) (hn:∀ t,reach S t → t < S.next) (hrow:S.row = []) (e1:alGet S.shown f.1 = none) (e2:alGet S.safe f.1 = none)
    (hf:Fr (fun b => b = L.sh ∨ b = L.sf) w w') (hT:¬ O T) (hTlt:T < w'.heap.size)
    (hsh:SMap w' L.sh (mapVals L L.lsh ++ [(f.1,ptr T)])) (hsf:SMap w' L.sf (mapVals L L.lsf ++ [(f.1,ptr T)]))
    (hR:TRep w' (fun b => O b ∨ b = T) I' T (.slice none 0 0) ⟨f.2,f.2,[]⟩) (hII:∀ b,I b → I' b) (hIO:∀ b,I' b → ¬ O b ∧ b ≠ T ∧ b < w'.heap.size) :
    DRep w' D (S.addFile f) (fun b => O b ∨ b = T) I' { L with loc := fun i => if i = S.next then T else L.loc i,trow := fun i => if i = S.next then .slice none 0 0 else L.trow i,lsh := L.lsh ++ [(f.1,S.next)],lsf := L.lsf ++ [(f.1,S.next)] } := by
  have hM : ∀ {b c T f},w.heap[b]? = some (.cells c T f) → ¬ (b = L.sh ∨ b = L.sf) := by
    rintro b c T f hb (e | e)
    · exact map_ne_cells h.sh hb e
    · exact map_ne_cells h.sf hb e
  have hMI : ∀ b,I b → ¬ (b = L.sh ∨ b = L.sf) := by
    rintro b hb (e | e)
    · exact h.apart _ (e ▸ h.osh) (e ▸ hb)
    · exact h.apart _ (e ▸ h.osf) (e ▸ hb)
  have hreach : ∀ t,reach (S.addFile f) t → t = S.next ∨ reach S t := by
    have key : ∀ (m:ByteArray) (l:Names) t,(m,t) ∈ setN l f.1 S.next → t = S.next ∨ (m,t) ∈ l := by
      intro m l t hm
      rcases mem_setN.1 hm with e | hm
      · exact .inl (congrArg Prod.snd e)
      · exact .inr hm.1
    rintro t (⟨m,hm⟩ | ⟨m,hm⟩ | ⟨m,hm⟩)
    · exact (key m _ t hm).imp id fun h => .inl ⟨m,h⟩
    · exact (key m _ t hm).imp id fun h => .inr (.inl ⟨m,h⟩)
    · have e : (S.addFile f).row = [] := hrow
      rw [e] at hm; cases hm
  have hne : ∀ t,reach S t → t ≠ S.next := fun t ht e => by have := hn t ht; omega
  have hTR : ∀ t,reach S t → TRep w' O I (L.loc t) (L.trow t) (S.things t) := fun t ht => by
    have hU := h.things t ht
    obtain ⟨c,hc⟩ := hU.obj
    exact hU.fr (O' := O) hf (hM hc) (fun b hb => by obtain ⟨c',hc'⟩ := hU.robj hb; exact hM hc') hMI
  have hloc : ∀ t,reach S t → L.loc t ≠ T := fun t ht e => hT (e ▸ (h.things t ht).own)
  exact {
    disk := hf.get h.disk (hM h.disk)
    sh := by
      have e : mapVals { L with loc := fun i => if i = S.next then T else L.loc i,trow := fun i => if i = S.next then .slice none 0 0 else L.trow i,lsh := L.lsh ++ [(f.1,S.next)],lsf := L.lsf ++ [(f.1,S.next)] } (L.lsh ++ [(f.1,S.next)]) = mapVals L L.lsh ++ [(f.1,ptr T)] := by
        unfold mapVals
        rw [List.map_append]
        congr 1
        · exact List.map_congr_left fun p hp => by
            have := hne p.2 (.inl ⟨p.1,h.shp.mem_iff.1 hp⟩)
            simp [this]
        · simp
      exact e ▸ hsh
    shp := by
      show (L.lsh ++ [(f.1,S.next)]).Perm (setN S.shown f.1 S.next)
      refine List.Perm.trans ?_ (setN_perm S.shown f.1 S.next).symm
      rw [alDel_none (alGet_none_iff.1 e1)]
      exact (List.perm_append_singleton _ _).trans (List.Perm.cons _ h.shp)
    sf := by
      have e : mapVals { L with loc := fun i => if i = S.next then T else L.loc i,trow := fun i => if i = S.next then .slice none 0 0 else L.trow i,lsh := L.lsh ++ [(f.1,S.next)],lsf := L.lsf ++ [(f.1,S.next)] } (L.lsf ++ [(f.1,S.next)]) = mapVals L L.lsf ++ [(f.1,ptr T)] := by
        unfold mapVals
        rw [List.map_append]
        congr 1
        · exact List.map_congr_left fun p hp => by
            have := hne p.2 (.inr (.inl ⟨p.1,h.sfp.mem_iff.1 hp⟩))
            simp [this]
        · simp
      exact e ▸ hsf
    sfp := by
      show (L.lsf ++ [(f.1,S.next)]).Perm (setN S.safe f.1 S.next)
      refine List.Perm.trans ?_ (setN_perm S.safe f.1 S.next).symm
      rw [alDel_none (alGet_none_iff.1 e2)]
      exact (List.perm_append_singleton _ _).trans (List.Perm.cons _ h.sfp)
    ne := h.ne
    row := by
      have hr := h.row
      have e : (S.addFile f).row = S.row := rfl
      rw [e,hrow]
      rw [hrow] at hr
      exact own_fr hr hf fun b hb => by obtain ⟨c,hc⟩ := own_obj hr hb; exact hM hc
    reads := own_fr h.reads hf fun b hb => by obtain ⟨c,hc⟩ := own_obj h.reads hb; exact hM hc
    things := fun t ht => by
      show TRep w' _ I' (if t = S.next then T else L.loc t) (if t = S.next then .slice none 0 0 else L.trow t) (if t = S.next then ⟨f.2,f.2,[]⟩ else S.things t)
      rcases hreach t ht with rfl | ht
      · simp only [if_true]; exact hR
      · have hx := hne t ht
        simp only [if_neg hx]
        exact (hTR t ht).mono (O := O) (fun b => .inl) hII
    inj := fun t u ht hu e => by
      have e : (if t = S.next then T else L.loc t) = (if u = S.next then T else L.loc u) := e
      rcases hreach t ht with rfl | ht <;> rcases hreach u hu with rfl | hu
      · rfl
      · simp only [if_true,if_neg (hne u hu)] at e
        exact absurd e.symm (hloc u hu)
      · simp only [if_true,if_neg (hne t ht)] at e
        exact absurd e (hloc t ht)
      · simp only [if_neg (hne t ht),if_neg (hne u hu)] at e
        exact h.inj t u ht hu e
    rows := fun t u ht hu hd => by
      show ∀ b,sblk (if t = S.next then .slice none 0 0 else L.trow t) = some b → sblk (if u = S.next then .slice none 0 0 else L.trow u) ≠ some b
      rcases hreach t ht with rfl | ht <;> rcases hreach u hu with rfl | hu
      · exact absurd rfl hd
      · simp only [if_true]; intro b hb; cases hb
      · simp only [if_true,if_neg (hne t ht)]; intro b _ hb; cases hb
      · simp only [if_neg (hne t ht),if_neg (hne u hu)]; exact h.rows t u ht hu hd
    oD := .inl h.oD
    osh := .inl h.osh
    osf := .inl h.osf
    orow := fun b hb => .inl (h.orow b hb)
    oreads := fun b hb => .inl (h.oreads b hb)
    apart := by
      rintro b (hb | rfl) hi
      · exact (hIO b hi).1 hb
      · exact (hIO b hi).2.1 rfl
    lt := by
      rintro b ((hb | rfl) | hb)
      · exact Nat.lt_of_lt_of_le (h.lt b (.inl hb)) hf.size
      · exact hTlt
      · exact (hIO b hb).2.2 }
theorem c_indexF {v:Value} {l:FilesL} (hv:FilesS w v l) (hl:l.length ≤ 4611686018427387904) (hsz:∀ f ∈ l.plain,f.1.size ≤ 9223372036854775807) (h0:l.plain.any (fun f => !isName f.1) = false → ∀ w',Fr no w w' → k (i64 (-1)) w') (h1:l.plain.any (fun f => !isName f.1) = true → ∀ (i:Nat) w',Fr no w w' → k (i64 i) w') : pFn P 186 [v,.func (.func 150) #[] #[]] w k := by
 refine F186_in _ _ _ _ ?_
 unfold F186_0
 refine s_lenS usl36 hv.src ?_
 refine F186L1_inv (m := l.length) k (fun m ρ w' => ∃ i : Nat,i + m = l.length ∧ Fr no w w' ∧ ρ 0 = v ∧ ρ 1 = .func (.func 150) #[] #[] ∧ ρ 7 = i64 l.length ∧ ρ 8 = i64 i ∧ ∀ j (hj:j < l.length),j < i → isName l[j].1.1 = true) ?_
  ⟨0,by omega,Fr.refl _ _,rfl,rfl,rfl,rfl,fun j hj h => absurd h (by omega)⟩
 rintro m ρ w' ⟨i,him,hf,e0,e1,e7,e8,hall⟩
 rw [F186_1_eq]
 unfold F186_1
 rw [e0,e1,e7,e8]
 by_cases hi : i < l.length
 ·obtain ⟨b,o,c,ev,c0,c1⟩ := (hv.fr hf).at_ hi
  refine s_lt_t (by omega) (pC_true ?_)
  rw [ev]
  refine s_ix (i := (i:Int)) usl36 (sze36 _) (by omega) (by omega) (s_ld2 (isAgg107 _) (sizeOf107 _) (by simpa using c0) (by simpa using c1) ?_)
  show pFn P 150 [.agg #[.string l[i].1.1,l[i].2]] w' _
  refine F150_in _ _ _ ?_
  unfold F150_0
  refine s_box ?_
  have hb := alloc_new w' (.cells #[.string l[i].1.1,l[i].2] 107)
  have fb := Fr.alloc no w' (.cells #[.string l[i].1.1,l[i].2] 107)
  show px P _ (w'.alloc (.cells #[.string l[i].1.1,l[i].2] 107)) _
  generalize w'.alloc (.cells #[.string l[i].1.1,l[i].2] 107) = w1 at *
  have hf1 : Fr no w w1 := hf.trans fb fun b hb => .inl hb
  refine fa107_0 (s_ldb (v := .string l[i].1.1) (isAgg9 _) hb rfl ?_)
  have hmem : l[i].1 ∈ l.plain := List.mem_map.2 ⟨l[i],List.getElem_mem hi,rfl⟩
  refine c_isName _ (hsz _ hmem) (s_not ?_)
  cases hn : isName l[i].1.1 with
  | false =>
   refine pC_true (h1 ?_ i w1 hf1)
   exact List.any_eq_true.2 ⟨l[i].1,hmem,by rw [hn]; rfl⟩
  | true =>
   refine pC_false (s_add_in (by omega) ⟨m - 1,by omega,i + 1,by omega,hf1,e0.trans (by first | rfl | exact ev),e1,e7,?_,fun j hj h => ?_⟩)
   ·show i64 _ = i64 _; simp
   ·rcases Nat.lt_or_ge j i with h' | h'
    ·exact hall j hj h'
    ·have : j = i := by omega
     subst this; exact hn
 ·refine s_lt_f (by omega) (pC_false ?_)
  rw [F186_2_eq]
  unfold F186_2
  refine h0 ?_ w' hf
  rw [List.any_eq_false]
  intro f hf'
  obtain ⟨q,hq,rfl⟩ := List.mem_map.1 hf'
  obtain ⟨j,hj,rfl⟩ := List.mem_iff_getElem.1 hq
  rw [hall j hj (by omega)]; simp
theorem c_containsF {v:Value} {l:FilesL} (hv:FilesS w v l) (hl:l.length ≤ 4611686018427387904) (hsz:∀ f ∈ l.plain,f.1.size ≤ 9223372036854775807) (hk:∀ w',Fr no w w' → k (.bool (l.plain.any fun f => !isName f.1)) w') : pFn P 149 [v,.func (.func 150) #[] #[]] w k := by
 refine F149_in _ _ _ _ ?_
 unfold F149_0
 refine c_indexF hv hl hsz (fun h w' f => ?_) fun h i w' f => ?_
 ·rw [h] at hk; exact s_ge_f (by omega) (hk w' f)
 ·rw [h] at hk; exact s_ge_t (by omega) (hk w' f)
end
section
variable {W w w0:World} {D E:Nat} {S S':AD} {O I:Nat → Prop} {L L':Lay} {k:KV} {room:Int} {v:Value} {l:FilesL}
abbrev LoadC (W:World) (room:Int) (l:FilesL) (E i:Nat) (w:World) : Prop :=
 ∃ O I L,DRep w E (AD.loadTo room l.plain i) O I L ∧ (∀ b,O b ∨ I b → W.heap.size ≤ b) ∧ Fr no W w ∧ ∀ j,j < i → dupAt room l.plain j = false
theorem plain_at' {l:FilesL} {i:Nat} (hi:i < l.length) : l.plain[i]'(by unfold FilesL.plain; simpa using hi) = l[i].1 := by unfold FilesL.plain; simp
theorem dup_true' {i:Nat} (hi:i < l.length) : dupAt room l.plain i = (alGet (AD.loadTo room l.plain i).shown l[i].1.1).isSome := by
 unfold dupAt FilesL.plain
 rw [List.getElem?_map,List.getElem?_eq_getElem hi]; rfl
set_option maxHeartbeats 2000000 in
theorem c_load1 (hr:1 ≤ room ∧ room ≤ 1048576) (hv:FilesS W v l) (hl:l.length ≤ 256) (hd:∀ p ∈ l,p.1.2.length ≤ 1048576) (hnm:∀ f ∈ l.plain,isName f.1 = true)
    (hdup:(List.range l.plain.length).any (dupAt room l.plain) = true → ∀ w',Fr no W w' → k (.tuple #[.pointer none,i64 52]) w')
    (hk:(∀ j,j < l.length → dupAt room l.plain j = false) → ∀ (ρ:Env) w',ρ 0 = i64 room → ρ 6 = ptr E → LoadC W room l E l.length w' → F93_2 k ρ w')
    {ρ:Env} {w:World} (e0:ρ 0 = i64 room) (e6:ρ 6 = ptr E) (e28:ρ 28 = v) (e29:ρ 29 = i64 l.length) (e30:ρ 30 = i64 0) (h:LoadC W room l E 0 w) : F93L1 k ρ w := by
  have hpl : l.plain.length = l.length := by unfold FilesL.plain; simp
  have hsz : ∀ f ∈ l.plain,f.1.size ≤ 112 := fun f hf => by
    have := hnm f hf
    unfold isName at this
    simp only [Bool.and_eq_true,decide_eq_true_eq] at this
    exact this.2
  have hdl : ∀ f ∈ l.plain,f.2.length ≤ 1048576 := fun f hf => by obtain ⟨p,hp,rfl⟩ := List.mem_map.1 hf; exact hd p hp
  refine F93L1_inv (m := l.length) k (fun m ρ w' => ∃ i : Nat,i + m = l.length ∧ ρ 0 = i64 room ∧ ρ 6 = ptr E ∧ ρ 28 = v ∧ ρ 29 = i64 l.length ∧ ρ 30 = i64 i ∧ LoadC W room l E i w') ?_
    ⟨0,by omega,e0,e6,e28,e29,e30,h⟩
  rintro m ρ w' ⟨i,him,e0,e6,e28,e29,e30,h⟩
  rw [F93_1_eq]
  unfold F93_1
  obtain ⟨O,I,L,hrep,hlow,hfr,hdj⟩ := id h
  rw [e28,e29,e30,e6]
  have hload := loading_to hr (l := l.plain) (by omega) hsz hdl i (by omega) hdj
  by_cases hi : i < l.length
  · obtain ⟨b,o,c,ev,c0,c1⟩ := (hv.fr hfr).at_ hi
    refine s_lt_t (by omega) (pC_true ?_)
    rw [ev]
    refine s_ix (i := (i:Int)) usl36 (sze36 _) (by omega) (by omega) (s_ld2 (isAgg107 _) (sizeOf107 _) (by simpa using c0) (by simpa using c1) ?_)
    refine s_alloc (zeroValue107 _) ?_
    have bF := alloc_new w' (.cells #[.string .empty,.slice none 0 0] 107)
    have fF := Fr.alloc no w' (.cells #[.string .empty,.slice none 0 0] 107)
    have zF : (w'.alloc (.cells #[.string .empty,.slice none 0 0] 107)).heap.size = w'.heap.size + 1 := by simp
    show pu P _ (w'.alloc (.cells #[.string .empty,.slice none 0 0] 107)) _
    generalize w'.alloc (.cells #[.string .empty,.slice none 0 0] 107) = w1 at *
    have hbb := (hv.fr hfr).all _ (List.getElem_mem hi)
    have hbl := hd _ (List.getElem_mem hi)
    obtain ⟨Ab,cb,eb,-⟩ := hbb.form
    refine s_stN (n := 2) (vs := [.string l[i].1.1,l[i].2]) (sizeOf107 _) rfl (by intro u hu; simp at hu; rcases hu with rfl | rfl <;> first | rfl | (rw [eb]; rfl)) bF (by show 0 + 2 ≤ 2; decide) fun w2 b2 f2 z2 => ?_
    have b2 : w2.heap[w'.heap.size]? = some (.cells #[.string l[i].1.1,l[i].2] 107 (0,0)) := by rw [b2]; simp
    have f02 : Fr no w' w2 := fF.trans f2 fun b hb => .inr (by omega)
    have fd : Fr no w' w2.drew := f02.trans (Fr.drew _ _) fun b hb => .inl hb
    have bd : w2.drew.heap[w'.heap.size]? = some (.cells #[.string l[i].1.1,l[i].2] 107 (0,0)) := b2
    have zd : w2.drew.heap.size = w'.heap.size + 1 := by show w2.heap.size = _; omega
    clear bF fF zF f2 z2 b2 f02
    generalize w2.drew = w3 at *
    have h3 := hrep.fr fd fun b hb => hb.elim
    refine ⟨fun u => DRep u E (AD.loadTo room l.plain i) O I L ∧ u.heap[w'.heap.size]? = some (.cells #[.string l[i].1.1,l[i].2] 107 (0,0)),⟨h3,bd⟩,?_⟩
    refine q_of _ (fun w_ hS => s_nil ⟨rfl,rfl⟩) (q_of _ (fun w_ hS => fa88_1 ⟨rfl,rfl⟩) (q_of (.map (some L.sh)) (fun w_ hS => s_ldb (isAgg82 _) hS.1.disk rfl ⟨rfl,rfl⟩) ?_))
    refine q_of _ (fun w_ hS => fa107_0 ⟨rfl,rfl⟩) (q_of (.string l[i].1.1) (fun w_ hS => s_ldb (isAgg9 _) hS.2 rfl ⟨rfl,rfl⟩) ?_)
    refine q_of _ (fun w_ hS => lk82 hS.1.sh l[i].1.1 (zeroValue132 _) ⟨rfl,rfl⟩) ?_
    rw [h3.get]
    cases hg : alGet (AD.loadTo room l.plain i).shown l[i].1.1 with
    | some t =>
      refine q_of (.bool true) (fun w_ hS => s_nepn upt132 ⟨rfl,rfl⟩) (pC_true (hdup ?_ _ (hfr.trans fd fun b hb => .inl hb)))
      refine List.any_eq_true.2 ⟨i,List.mem_range.2 (by omega),?_⟩
      rw [dup_true' hi,hg]; rfl
    | none =>
      refine q_of (.bool false) (fun w_ hS => s_nepn upt132 ⟨rfl,rfl⟩) (pC_false ?_)
      refine fa107_1 (s_ldb (v := l[i].2) (isAgg23 _) bd rfl ?_)
      refine c_cloneB (hbb.fr fd fun _ _ h => h) (by omega) fun w4 bv s4 hb4 f4 => ?_
      have f04 : Fr no w' w4 := fd.trans f4 fun b hb => .inl hb
      have hz4 := f4.size
      obtain ⟨A4,c4,e4,-⟩ := s4.form
      refine px_ok (w' := w4) (v := .agg #[bv,bv,.slice none 0 0]) (by rw [e4]; kernel_rfl) (s_boxC (cs := #[bv,bv,.slice none 0 0]) (by rw [e4]; rfl) ?_)
      have bT := alloc_new w4 (.cells #[bv,bv,.slice none 0 0] 131)
      have fT := Fr.alloc no w4 (.cells #[bv,bv,.slice none 0 0] 131)
      have zT : (w4.alloc (.cells #[bv,bv,.slice none 0 0] 131)).heap.size = w4.heap.size + 1 := by simp
      generalize w4.alloc (.cells #[bv,bv,.slice none 0 0] 131) = w5 at *
      have f05 : Fr no w' w5.drew := (f04.trans fT fun b hb => .inl hb).trans (Fr.drew _ _) fun b hb => .inl hb
      have h6 := hrep.fr f05 fun b hb => hb.elim
      have bF6 : w5.drew.heap[w'.heap.size]? = some (.cells #[.string l[i].1.1,l[i].2] 107 (0,0)) := fT.get (f4.get bd id) id
      have bT6 : w5.drew.heap[w4.heap.size]? = some (.cells #[bv,bv,.slice none 0 0] 131 (0,0)) := bT
      have s6 : SBytes w5.drew bv l[i].1.2 := s4.fr (fT.trans (Fr.drew _ _) fun b hb => .inl hb) fun _ _ h => h
      have z6 : w5.drew.heap.size = w4.heap.size + 1 := zT
      clear bT fT zT
      generalize w5.drew = w6 at *
      have hnk : ∀ p ∈ mapVals L L.lsh,p.1 ≠ l[i].1.1 := alGet_none_iff.1 (by rw [h6.get,hg]; rfl)
      have hgs : alGet (AD.loadTo room l.plain i).safe l[i].1.1 = none := by rw [hload.safe]; exact hg
      have hnf : ∀ p ∈ mapVals L L.lsf,p.1 ≠ l[i].1.1 := alGet_none_iff.1 (by rw [mapVals_get,alGet_perm h6.sfp h6.lsfn,hgs]; rfl)
      have hmF : ∀ {u:World} {c T f} {m:Nat} {q:List (ByteArray × Value)} {b:Nat},SMap u m q → u.heap[b]? = some (.cells c T f) → ¬ b = m := fun h1 h2 => map_ne_cells h1 h2
      refine ⟨fun u => u.heap[E]? = some (.cells (dcells (AD.loadTo room l.plain i) L) 88 (0,0)) ∧ u.heap[w'.heap.size]? = some (.cells #[.string l[i].1.1,l[i].2] 107 (0,0)),⟨h6.disk,bF6⟩,?_⟩
      refine q_of _ (fun w_ hS => s_nil ⟨rfl,rfl⟩) (q_of _ (fun w_ hS => fa88_1 ⟨rfl,rfl⟩) (q_of (.map (some L.sh)) (fun w_ hS => s_ldb (isAgg82 _) hS.1 rfl ⟨rfl,rfl⟩) ?_))
      refine q_of _ (fun w_ hS => fa107_0 ⟨rfl,rfl⟩) (q_of (.string l[i].1.1) (fun w_ hS => s_ldb (isAgg9 _) hS.2 rfl ⟨rfl,rfl⟩) ?_)
      refine q_of _ (fun w_ hS => s_nil ⟨rfl,rfl⟩) (q_of _ (fun w_ hS => fa88_2 ⟨rfl,rfl⟩) (q_of (.map (some L.sf)) (fun w_ hS => s_ldb (isAgg82 _) hS.1 rfl ⟨rfl,rfl⟩) ?_))
      refine q_of _ (fun w_ hS => fa107_0 ⟨rfl,rfl⟩) (q_of (.string l[i].1.1) (fun w_ hS => s_ldb (isAgg9 _) hS.2 rfl ⟨rfl,rfl⟩) ?_)
      obtain ⟨wa,ca,ra,ga,za,nexta⟩ := h6.sh.entry_new underlying82 underlying9 (z := .pointer none) (fun w => zeroValue132 w) l[i].1.1 hnk
      refine px_ok ra ⟨⟨ga.get h6.disk (hmF h6.sh h6.disk),ga.get bF6 (hmF h6.sh bF6)⟩,q_of (i64 ca) (fun w_ hS => s_ext rfl ⟨rfl,rfl⟩) ?_⟩
      obtain ⟨wb,rb,mb,gb,zb⟩ := nexta (ptr w4.heap.size) wa rfl
      have gab : Fr (fun b => b = L.sh) w6 wb := ga.trans gb fun b hb => .inl hb
      refine pu_ok rb ⟨⟨gab.get h6.disk (hmF h6.sh h6.disk),gab.get bF6 (hmF h6.sh bF6)⟩,?_⟩
      obtain ⟨wc,cc,rc,gc,zc,nextc⟩ := (h6.sf.fr gab (fun e => h6.ne e.symm)).entry_new underlying82 underlying9 (z := .pointer none) (fun w => zeroValue132 w) l[i].1.1 hnf
      have dB := gab.get h6.disk (hmF h6.sh h6.disk)
      have fB := gab.get bF6 (hmF h6.sh bF6)
      have mB := h6.sf.fr gab (fun e => h6.ne e.symm)
      refine px_ok rc ⟨⟨gc.get dB (hmF mB dB),gc.get fB (hmF mB fB)⟩,q_of (i64 cc) (fun w_ hS => s_ext rfl ⟨rfl,rfl⟩) ?_⟩
      obtain ⟨wd,rd,md,gd,zd'⟩ := nextc (ptr w4.heap.size) wc rfl
      refine pu_ok rd (s_add_in (by omega) ?_)
      have gcd : Fr (fun b => b = L.sf) wb wd := gc.trans gd fun b hb => .inl hb
      have gall : Fr (fun b => b = L.sh ∨ b = L.sf) w6 wd := gab.or gcd
      have hal := hg
      have hOlt : ∀ b,O b ∨ I b → b < w'.heap.size := hrep.lt
      have hx : (AD.loadTo room l.plain i).addFile l[i].1 = AD.loadTo room l.plain (i + 1) := by rw [loadTo_succ room (by omega),plain_at' hi]
      have hzall := gall.size
      have hne6 : ∀ b,O b ∨ I b → b ≠ w4.heap.size := fun b hb => by have := hOlt b hb; omega
      have bTd : wd.heap[w4.heap.size]? = some (.cells #[bv,bv,.slice none 0 0] 131 (0,0)) := gall.get bT6 (by
        rintro (e | e)
        · exact hne6 _ (.inl h6.osh) e.symm
        · exact hne6 _ (.inl h6.osf) e.symm)
      have sd : SBytes wd bv l[i].1.2 := s6.fr gall fun b hb hM => by
        have := hb4 b hb
        rcases hM with e | e
        · have := hOlt _ (.inl h6.osh); omega
        · have := hOlt _ (.inl h6.osf); omega
      have hA := h6.addFile (f := l[i].1) (T := w4.heap.size) (I' := fun b => I b ∨ (w3.heap.size ≤ b ∧ b < w4.heap.size)) hload.ok.next hload.row hg hgs gall (fun hO => hne6 _ (.inl hO) rfl) (by omega)
        (mb.fr gcd (fun e => h6.ne e)) md
        ⟨⟨bv,bv,[],bTd,⟨sd,fun b hb => .inr (hb4 b hb)⟩,⟨sd,fun b hb => .inr (hb4 b hb)⟩,⟨rfl,.inl ⟨rfl,rfl⟩⟩,.nil⟩,.inr rfl,by rintro b hb; cases hb⟩
        (fun b => .inl) (by
          rintro b (hb | hb)
          · have := hOlt b (.inr hb); exact ⟨fun h => hrep.apart b h hb,by omega,by omega⟩
          · exact ⟨fun h => by have := hOlt b (.inl h); omega,by omega,by omega⟩)
      rw [hx] at hA
      have hWs := hfr.size
      refine ⟨m - 1,by omega,i + 1,by omega,e0,e6,e28.trans ev,e29,?_,_,_,_,hA,?_,?_,?_⟩
      · show i64 _ = i64 _; simp
      · rintro b ((hb | hb) | (hb | hb))
        · exact hlow b (.inl hb)
        · omega
        · exact hlow b (.inr hb)
        · omega
      · refine (hfr.trans f05 fun b hb => .inl hb).trans gall ?_
        rintro b (rfl | rfl)
        · exact .inr (hlow _ (.inl h6.osh))
        · exact .inr (hlow _ (.inl h6.osf))
      · intro j hj
        rcases Nat.lt_or_ge j i with h' | h'
        · exact hdj j h'
        · have : j = i := by omega
          subst this
          rw [dup_true' hi,hg]; rfl
  · refine s_lt_f (by omega) (pC_false ?_)
    rw [F93_2_eq]
    have hil : i = l.length := by omega
    subst hil
    exact hk hdj _ _ e0 e6 h
theorem c_load (hv:FilesS w v l) (hd:∀ p ∈ l,p.1.2.length ≤ 1048576) (hl:l.length ≤ 4611686018427387904) (hns:∀ f ∈ l.plain,f.1.size ≤ 9223372036854775807)
    (hno:AD.loadCode room l.plain ≠ 0 → ∀ w',Fr no w w' → k (.tuple #[.pointer none,i64 (AD.loadCode room l.plain)]) w')
    (hk:AD.loadCode room l.plain = 0 → ∀ w' E O I L,DRep w' E (AD.loadTo room l.plain l.length) O I L → (∀ b,O b ∨ I b → w.heap.size ≤ b) → Fr no w w' → k (.tuple #[ptr E,i64 0]) w') : pFn P 93 [i64 room,v] w k := by
  have hpl : l.plain.length = l.length := by unfold FilesL.plain; simp
  refine F93_in _ _ _ _ ?_
  unfold F93_0
  refine c_new (fun hr => ?_) fun hr w1 L1 h1 f1 => ?_
  · have hc : AD.loadCode room l.plain = 1 := by unfold AD.loadCode; rw [if_pos hr]
    rw [hc] at hno
    exact s_ext rfl (s_ext rfl (s_nei_t (by omega) (pC_true (hno (by omega) w (Fr.refl _ _)))))
  refine s_ext rfl (s_ext rfl (s_nei_f (by omega) (pC_false ?_)))
  have hv1 := hv.fr f1
  refine s_lenS usl36 hv1.src ?_
  unfold AD.loadCode at hno hk
  rw [if_neg (by omega:¬ ¬ (1 ≤ room ∧ room ≤ 1048576)),hpl] at hno hk
  by_cases hlen : l.length > 256
  · rw [if_pos hlen] at hno
    exact s_gt_t (by omega) (pC_true (hno (by omega) w1 f1))
  rw [if_neg hlen] at hno hk
  refine s_gt_f (by omega) (pC_false ?_)
  refine c_containsF hv1 (by omega) hns fun w2 f2 => ?_
  have f02 : Fr no w w2 := f1.trans f2 fun b hb => .inl hb
  cases hall : l.plain.any (fun f => !isName f.1) with
  | true =>
    rw [if_pos hall] at hno
    exact pC_true (hno (by omega) w2 f02)
  | false =>
  rw [if_neg (by rw [hall]; simp)] at hno hk
  have hnm : ∀ f ∈ l.plain,isName f.1 = true := fun f hf => by
    rw [List.any_eq_false] at hall
    simpa using hall f hf
  refine pC_false (s_lenS usl36 (hv1.fr f2).src ?_)
  have hsz : ∀ f ∈ l.plain,f.1.size ≤ 112 := fun f hf => by
    have := hnm f hf
    unfold isName at this
    simp only [Bool.and_eq_true,decide_eq_true_eq] at this
    exact this.2
  have hdl : ∀ f ∈ l.plain,f.2.length ≤ 1048576 := fun f hf => by obtain ⟨p,hp,rfl⟩ := List.mem_map.1 hf; exact hd p hp
  have h2 := h1.fr f2 fun b hb => hb.elim
  refine c_load1 (W := w) (room := room) (v := v) (E := w.heap.size + 2) hr hv (by omega) hd hnm (fun hdup w3 f3 => ?_) (fun hnd ρ w3 b0 b6 hL => ?_) rfl rfl rfl rfl rfl ⟨_,_,_,h2,?_,f02,fun j hj => absurd hj (Nat.not_lt_zero _)⟩
  · rw [hpl] at hdup
    rw [if_pos hdup] at hno
    exact hno (by omega) w3 f3
  · have hdn : (List.range l.length).any (dupAt room l.plain) = false := by
      rw [List.any_eq_false]; intro j hj; rw [hnd j (List.mem_range.1 hj)]; simp
    rw [if_neg (by rw [hdn]; simp)] at hno hk
    have hload := loading_to hr (l := l.plain) (by omega) hsz hdl l.length (by omega) hnd
    obtain ⟨O,I,L,hrep,hlow,hfr,-⟩ := hL
    unfold F93_2
    rw [b0,b6]
    refine c_used hrep hload.ok.room.1 (by have := used_le hload.ok; omega) fun w4 f4 => ?_
    have f04 : Fr no w w4 := hfr.trans f4 fun b hb => .inl hb
    by_cases hfull : ((AD.loadTo room l.plain l.length).used : Int) > room
    · rw [if_pos hfull] at hno
      exact s_gt_t hfull (pC_true (hno (by omega) w4 f04))
    rw [if_neg hfull] at hk
    refine s_gt_f hfull (pC_false ?_)
    exact hk rfl _ _ O I L (hrep.fr f4 fun b hb => hb.elim) hlow f04
  · rintro b (hb | hb)
    · exact hb.1
    · exact hb.elim
end
end Go.Proofs.YteeeggphkhimcaaGreatDoor

namespace Go.Proofs.XSep
open Go Go.RowKit Go.Proofs.XRed Go.Proofs.XHeap
def mvs : List Nat → List Asrt → List Asrt
 | [],l => l
 | i :: r,l => match l[i]? with
  | some a => mvs r (a :: l.eraseIdx i)
  | none => l
theorem sep_mvs {w:World} : ∀ (is:List Nat) {l:List Asrt},Sep l w → Sep (mvs is l) w
 | [],l,h => h
 | i :: r,l,h => by
  unfold mvs
  cases hi : l[i]? with
  | none => exact h
  | some a => exact sep_mvs r (h.front i hi)
theorem sep_dropN {w:World} : ∀ (n:Nat) {l:List Asrt},Sep l w → Sep (l.drop n) w
 | 0,l,h => h
 | n + 1,[],h => h
 | n + 1,a :: l,h => sep_dropN n h.drop
theorem sep_mv {w:World} {l l':List Asrt} (is:List Nat) (n:Nat) (h:Sep l w) (e:(mvs is l).drop n = l') : Sep l' w := e ▸ sep_dropN n (sep_mvs is h)
end Go.Proofs.XSep

namespace Go.Proofs.XRed
open Go Go.RowKit
section
variable {P:Program}
def endV (P:Program) (fn:Func) (k:KV) (ρ:Env) (w:World) : Prop := ∀ tmps : Array Value,(∀ t,tmps.getD t undef = ρ t) → ∃ v,(results fn tmps).run P w = .ok v w ∧ k v w
def pEnd (P:Program) (fn:Func) (k:KV) : List Deferred → KE
 | [],ρ,w => endV P fn k ρ w
 | d :: ds,ρ,w => ∃ fv cap f args,d.target = .fn fv cap ∧ (invoke d.target d.args).run P w = .ok (.enter f args) w ∧ CallsD P f args .returning w fun e u' w' => u' = .returning ∧ ∃ v,e = .returned v ∧ pEnd P fn k ds ρ w'
theorem leaves_of_end {fn:Func} {k:KV} {ρ:Env} {tmps:Array Value} (ht:∀ t,tmps.getD t undef = ρ t) : ∀ (ds:List Deferred) (w:World),pEnd P fn k ds ρ w → Leaves P fn tmps (fun e w' => ∃ v,e = .returned v ∧ k v w') ds .returning w
 | [],w,h => by
  obtain ⟨v,h1,h2⟩ := h tmps ht
  exact ⟨v,h1,v,rfl,h2⟩
 | d :: ds,w,⟨fv,cap,f,args,h1,h2,h3⟩ => by
  refine ⟨by simp,fv,cap,f,args,h1,h2,CallsD.mono h3 ?_⟩
  rintro e u' w' ⟨rfl,v,rfl,hp⟩
  exact leaves_of_end ht ds w' hp
def pDr (P:Program) (fn:Func) (k:KV) (c:Code) (ds:List Deferred) (ρ:Env) (w:World) : Prop := ∀ a,Sim ds fn.ntmps ρ a → c.wp P (bodyPostD P fn fun e w' => ∃ v,e = .returned v ∧ k v w') a w
def endN (N E:KE) : Xt → KE
 | .normal,ρ,w => N ρ w
 | .ret,ρ,w => E ρ w
 | _,_,_ => False
abbrev endQ (P:Program) (fn:Func) (k:KV) (ds:List Deferred) (N:KE) : Xt → KE := endN N (pEnd P fn k ds)
theorem pDr_code (hm:P.follows .mixedOrders = true) {fn:Func} {k:KV} {c:Code} {ds:List Deferred} {ρ:Env} {w:World} (hfit:Code.fits fn.ntmps c = true) (h:red P fn.ntmps c (endQ P fn k ds (pEnd P fn k ds)) ρ w) : pDr P fn k c ds ρ w := by
 intro a hs
 refine wp_mono (red_sound hm c hfit _ _ _ _ hs h) ?_
 intro e a w hq
 cases e with
 | normal => obtain ⟨ρ,hs,hr⟩ := hq; rw [bodyPostD,hs.1]; exact leaves_of_end hs.2.2 ds w hr
 | ret => obtain ⟨ρ,hs,hr⟩ := hq; rw [bodyPostD,hs.1]; exact leaves_of_end hs.2.2 ds w hr
 | exit i => obtain ⟨ρ,hs,hr⟩ := hq; exact hr.elim
 | goto l => obtain ⟨ρ,hs,hr⟩ := hq; exact hr.elim
 | panic c => exact hq.elim
 | outgrown => exact hq.elim
theorem pDr_seq (hm:P.follows .mixedOrders = true) {fn:Func} {k:KV} {x y:Code} {ds:List Deferred} {ρ:Env} {w:World} (hfit:Code.fits fn.ntmps x = true) (h:red P fn.ntmps x (endQ P fn k ds (pDr P fn k y ds)) ρ w) : pDr P fn k (.seq x y) ds ρ w := by
 intro a hs
 refine wp_seq (wp_mono (red_sound hm x hfit _ _ _ _ hs h) ?_)
 intro e a w hq
 cases e with
 | normal => obtain ⟨ρ,hs,hr⟩ := hq; exact hr a hs
 | ret => obtain ⟨ρ,hs,hr⟩ := hq; show Leaves _ _ _ _ _ _ _; rw [hs.1]; exact leaves_of_end hs.2.2 ds w hr
 | exit i => obtain ⟨ρ,hs,hr⟩ := hq; exact hr.elim
 | goto l => obtain ⟨ρ,hs,hr⟩ := hq; exact hr.elim
 | panic c => exact hq.elim
 | outgrown => exact hq.elim
def redOpsD (P:Program) (ops:List Oper) (K:List Deferred → KE) : List Oper → List Deferred → KE
 | [],ds,ρ,w => K ds ρ w
 | o :: rest,ds,ρ,w =>
  match o.guard,o.op with
  | none,.defer c => ∃ d,(resolve (ev ρ) c o.type).run P w = .ok d w ∧ redOpsD P ops K rest (d :: ds) (putO ρ o.dst undef) w
  | none,op => cp P op o.type ρ w fun v w => redOpsD P ops K rest ds (putO ρ o.dst v) w
  | some _,_ => False
theorem redOpsD_sound {n:Nat} {ops:Array Oper} (hw:wfOps n ops.toList = true) {K:List Deferred → KE} {Q:Exit → Act → World → Prop} (hK:∀ ds ρ a w,Sim ds n ρ a → K ds ρ w → Q .normal a w) :
    ∀ (l:List Oper),(∀ o ∈ l,o ∈ ops.toList) → ∀ (ds:List Deferred) (ρ:Env) (a:Act) (w:World),Sim ds n ρ a → redOpsD P ops.toList K l ds ρ w → wpList P ops Q l a w := by
  intro l
  induction l with
  | nil => intro _ ds ρ a w hs h; exact hK _ _ _ _ hs h
  | cons o rest ih =>
    intro hmem ds ρ a w hs h
    have hd := wfOps_at hw (hmem o (by simp))
    have ih' := ih (fun o ho => hmem o (by simp [ho]))
    unfold wpList
    unfold redOpsD at h
    split at h
    · rename_i c hg hop
      rw [if_pos (by simp [Region.wanted,hg])]
      obtain ⟨d,hr,h⟩ := h
      refine .inl ?_
      unfold Oper.wp
      rw [hs.eval]
      have he : (execOp (ev ρ) o).run P w = .ok (.defer d) w := by
        simp only [execOp,hop,Sem.run_bind,hr,Result.andThen,Sem.run_pure]
      rw [he,Oper.upon_defer]
      have hs' : Sim (d :: ds) n ρ { a with defers := d :: a.defers } := ⟨by show d :: a.defers = _; rw [hs.1],hs.2⟩
      exact ih' _ _ _ _ (hs'.putO hd _) h
    · rename_i hg hop
      rw [if_pos (by simp [Region.wanted,hg])]
      exact .inl (cp_sound hs (fun v w hk => ih' _ _ _ _ (hs.putO hd v) hk) h)
    · exact h.elim
theorem pDr_seqD {fn:Func} {k:KV} {id:Nat} {ops:Array Oper} {y:Code} {ds:List Deferred} {ρ:Env} {w:World} (hw:wfOps fn.ntmps ops.toList = true) (h:redOpsD P ops.toList (fun ds => pDr P fn k y ds) ops.toList ds ρ w) : pDr P fn k (.seq (.region id ops false) y) ds ρ w := by
 intro a hs
 exact wp_seq (wp_region_list (redOpsD_sound hw (Q := Exit.then (y.wp P (bodyPostD P fn fun e w' => ∃ v,e = .returned v ∧ k v w')) (bodyPostD P fn fun e w' => ∃ v,e = .returned v ∧ k v w')) (fun ds ρ a w hs h => h a hs) _ (fun o ho => ho) _ _ _ _ hs h))
theorem sim_args {n:Nat} {args:List Value} (hn:args.length ≤ n) : Sim [] n (argEnv args) { tmps := args.toArray ++ Array.replicate (n - args.toArray.size) undef,defers := [] } := by
 refine ⟨rfl,by simp; omega,fun t => ?_⟩
 simp only [argEnv]
 rcases Nat.lt_or_ge t args.length with h | h
 ·simp [Array.getElem?_append,h,List.getD_eq_getElem?_getD]
 ·have e : args.getD t undef = undef := by simp [List.getD_eq_getElem?_getD,List.getElem?_eq_none h]
  rw [e]
  rcases Nat.lt_or_ge (t - args.length) (n - args.length) with h2 | h2
  ·simp [Array.getElem?_append,Nat.not_lt.2 h,Array.getElem?_replicate,h2]
  ·simp [Array.getElem?_append,Nat.not_lt.2 h,Array.getElem?_replicate,Nat.not_lt.2 h2]
theorem pFn_of_pDr {f : FuncId} {fn : Func} (hf : P.funcs[f]? = some fn) (hname : (fn.name == "runtime.NumGoroutine") = false) {c : Code} (hb : fn.body = some c) {args : List Value} (hn : args.length ≤ fn.ntmps) {w : World} {k : KV} (h : pDr P fn k c [] (argEnv args) w) : pFn P f args w k :=
 pFn_of_calls hf hname (by rw [hb]; rfl) (calls_of_wp_defers hf hb (h _ (sim_args hn)))
theorem callsD_of_at (hm:P.follows .mixedOrders = true) {f:FuncId} {fn:Func} (hf:P.funcs[f]? = some fn) (hb:fn.body = some (bodyOf fn)) {n:Nat} (hn:fn.ntmps = n) (hfit:Code.fits n (bodyOf fn) = true) (hrs:fn.results = #[]) {args:List Value} (hlen:args.length ≤ n) {w:World} {k:KV}
    (h:At P n (bodyOf fn) (retQ P fn.results.toList k) [] (argEnv args) w) : CallsD P f args.toArray .returning w fun e u' w' => u' = .returning ∧ ∃ v,e = .returned v ∧ k v w' := by
  subst hn
  unfold At Pt at h
  have e1 : sub (bodyOf fn) [] = bodyOf fn := by generalize bodyOf fn = c; cases c <;> rfl
  have e2 : ∀ Q',contAt P fn.ntmps (bodyOf fn) Q' [] = Q' := by intro Q'; generalize bodyOf fn = c; cases c <;> rfl
  rw [e1,e2] at h
  refine CallsD.mono (callsD_of_wp (R := fun e w' => ∃ v,e = .returned v ∧ k v w') hf hb (wp_mono (red_sound hm _ hfit _ _ _ _ (sim_args hlen) h) ?_)) fun e u' w' h => h
  have done : ∀ (a:Act) (w:World) (ρ:Env),Sim [] fn.ntmps ρ a → retV (P := P) fn.results.toList ρ w k → a.defers = [] ∧ ∃ v,(results fn a.tmps).run P w = .ok v w ∧ ∃ u,Ending.returned v = .returned u ∧ k u w := by
    intro a w ρ hs hr
    rw [hrs] at hr
    exact ⟨hs.1,.tuple #[],by simp only [results,hrs]; simp,_,rfl,hr⟩
  intro e a w hq
  cases e with
  | normal => obtain ⟨ρ,hs,hr⟩ := hq; exact done a w ρ hs hr
  | ret => obtain ⟨ρ,hs,hr⟩ := hq; exact done a w ρ hs hr
  | exit i => obtain ⟨ρ,hs,hr⟩ := hq; exact hr.elim
  | goto l => obtain ⟨ρ,hs,hr⟩ := hq; exact hr.elim
  | panic c => exact hq.elim
  | outgrown => exact hq.elim
theorem red_at {n:Nat} {c:Code} {Q:Xt → KE} {ρ:Env} {w:World} : At P n c Q [] ρ w = red P n c Q ρ w := by cases c <;> rfl
theorem pDr_seqA (hm:P.follows .mixedOrders = true) {fn:Func} {k:KV} {C x y:Code} {ds:List Deferred} {ρ:Env} {w:World} {n:Nat} (hn:fn.ntmps = n) (hC:C = .seq x y) (hfit:Code.fits n x = true) (h:At P n x (endN (pDr P fn k y ds) (pEnd P fn k ds)) [] ρ w) : pDr P fn k C ds ρ w := by
 subst hn; subst hC
 rw [red_at] at h
 exact pDr_seq hm hfit h
theorem pDr_seqDA {fn:Func} {k:KV} {C:Code} {id:Nat} {ops:Array Oper} {y:Code} {ds:List Deferred} {ρ:Env} {w:World} {n:Nat} (hn:fn.ntmps = n) (hC:C = .seq (.region id ops false) y) (hw:wfOps n ops.toList = true) (h:redOpsD P ops.toList (fun ds => pDr P fn k y ds) ops.toList ds ρ w) : pDr P fn k C ds ρ w := by
 subst hn; subst hC; exact pDr_seqD hw h
theorem pDr_codeA (hm:P.follows .mixedOrders = true) {fn:Func} {k:KV} {c:Code} {ds:List Deferred} {ρ:Env} {w:World} {n:Nat} (hn:fn.ntmps = n) (hfit:Code.fits n c = true) (h:At P n c (endN (pEnd P fn k ds) (pEnd P fn k ds)) [] ρ w) : pDr P fn k c ds ρ w := by
 subst hn
 rw [red_at] at h
 exact pDr_code hm hfit h
theorem endV_cell {fn:Func} {k:KV} {ρ:Env} {w:World} {t:Tmp} {ty:TypeId} {a:Addr} {v:Value} (hr:fn.results = #[.cell t ty]) (ha:ρ t = .pointer (some a)) (hv:(loadVar ty a).run P w = .ok v w) (hk:k v w) : endV P fn k ρ w := by
 intro tmps ht
 refine ⟨v,?_,hk⟩
 have e : tmps.getD t undef = .pointer (some a) := (ht t).trans ha
 have e' : tmps[t]?.getD undef = .pointer (some a) := by simpa using e
 simp [results,hr,e',asAddr,hv,Result.andThen]
end
end Go.Proofs.XRed

namespace Go.Proofs.YteeeggphkhimcaaGreatDoor
open Go Go.Proofs Go.RowKit Go.Proofs.XRed Go.Proofs.XHeap Go.Proofs.XMaps Go.Proofs.XSlices Go.Proofs.XDisk Go.Proofs.XCalls Tryz
section
variable {w:World} {k:KV}
theorem s_addS {t:TypeId} {x y:Operand} {a b:ByteArray} (h:a.size + b.size ≤ 9223372036854775807) (hk:k (.string (a ++ b)) w) : px P (binSem .add t x y (.string a) (.string b)) w k := by
 refine s_bin (by simp) (by simp) ?_ hk
 have hn : ¬ (((a.size + b.size : Nat) : Int) > IntKind.i64.max) := by
  have : IntKind.i64.max = 9223372036854775807 := by decide
  rw [this]; omega
 have hn' : ¬ ((a.size : Int) + (b.size : Int) > IntKind.i64.max) := by simpa using hn
 simp only [binOp,Op.stringOp]
 first | (rw [if_neg hn]; rfl) | (rw [if_neg hn']; rfl)
def namedA (s:ByteArray) (most:Int) : Bool := s.data.toList.all okByte && decide (1 ≤ s.size) && decide ((s.size : Int) ≤ most)
theorem namedA_112 (s:ByteArray) : namedA s 112 = isName s := by
 unfold namedA isName
 congr 1
 exact decide_eq_decide.2 ⟨fun h => by omega,fun h => by omega⟩
theorem empty_iff (s:ByteArray) : s = ByteArray.mk #[] ↔ s.size = 0 := by
 constructor
 ·rintro rfl; rfl
 ·intro h
  apply ByteArray.ext
  exact Array.eq_empty_of_size_eq_zero h
set_option maxHeartbeats 1000000 in
theorem c_named (s:ByteArray) (most:Int) (hs:s.size ≤ 9223372036854775807) (hk:k (.bool (namedA s most)) w) : pFn P 66 [.string s,i64 most] w k := by
  refine F66_in _ _ _ _ ?_
  unfold F66_0
  refine s_eqs ?_
  by_cases he : s = ByteArray.mk #[]
  · have hf : namedA s most = false := by unfold namedA; have := (empty_iff s).1 he; simp [this]
    rw [hf] at hk
    rw [decide_eq_true he]
    exact pG_skf (pG_skf (pG_skf (pG_skf (s_pick_t (pC_true hk)))))
  have h0 : 1 ≤ s.size := by have := (not_congr (empty_iff s)).1 he; omega
  rw [decide_eq_false he]
  refine pG_yes rfl (pG_yes rfl (s_lens (by kernel_rfl) (pG_yes rfl (pG_yes rfl (s_gt ?_)))))
  by_cases hm : (s.size : Int) > most
  · have hf : namedA s most = false := by unfold namedA; rw [decide_eq_false (show ¬ (s.size : Int) ≤ most by omega)]; simp
    rw [hf] at hk
    rw [decide_eq_true hm]
    exact s_pick_f (pC_true hk)
  rw [decide_eq_false hm]
  refine s_pick_f (pC_false (s_lens (by kernel_rfl) ?_))
  refine F66L1_inv (m := s.size) k (fun m ρ w' => w' = w ∧ ρ 0 = .string s ∧ ρ 16 = i64 s.size ∧ ∃ i : Nat,ρ 17 = i64 i ∧ i + m = s.size ∧ ∀ j (hj:j < s.size),j < i → okByte s[j] = true) ?_ ⟨rfl,rfl,rfl,0,rfl,by omega,fun j _ hj => absurd hj (by omega)⟩
  rintro m ρ w' ⟨rfl,e0,h16,i,h17,him,hok⟩
  rw [F66_1_eq]
  unfold F66_1
  rw [e0,h16,h17]
  refine s_lt ?_
  by_cases hi : i < s.size
  · rw [decide_eq_true (by omega)]
    refine pC_true (s_ixs (by kernel_rfl) hi ?_)
    have hix := ix_ok s[i]
    generalize hc : s[i] = c at *
    have hlt := c.toNat_lt
    have hb : okByte c = (decide (97 ≤ c.toNat ∧ c.toNat ≤ 122) || decide (48 ≤ c.toNat ∧ c.toNat ≤ 57) || decide (0 ≤ Lib.indexByte [46,45,95,43] c)) := by
      rw [hix]; simp [UInt8.le_iff_toNat_le,Bool.decide_and]
    have next : okByte c = true → ∀ j (hj:j < s.size),j < i + 1 → okByte s[j] = true := by
      intro h j hj hji
      by_cases e : j = i
      · subst e; rw [hc]; exact h
      · exact hok j hj (by omega)
    have bad : okByte c = false → namedA s most = false := by
      intro h
      unfold namedA
      have : s.data.toList.all okByte = false := by
        rw [Bool.eq_false_iff]
        intro ha
        rw [List.all_eq_true] at ha
        have := ha c (by
          rw [← hc]
          have : i < s.data.toList.length := by simpa using hi
          have e : s[i] = s.data.toList[i] := rfl
          rw [e]; exact List.getElem_mem _)
        rw [h] at this; cases this
      simp [this]
    have eb : ((c.toNat : Int).toNat).toUInt8 = c := by simp
    have el : (ByteArray.mk #[46,45,95,43]).data.toList = [46,45,95,43] := rfl
    by_cases a1 : (c.toNat : Int) ≥ 97 <;> by_cases a2 : (c.toNat : Int) ≤ 122 <;> by_cases a3 : (c.toNat : Int) ≥ 48 <;> by_cases a4 : (c.toNat : Int) ≤ 57
    all_goals try (exfalso; omega)
    all_goals
      repeat (first | refine pG_yes rfl ?_ | refine pG_sk ?_ | refine pG_skf ?_ | refine pG_un ?_ | refine s_ge_t (by assumption) ?_ | refine s_ge_f (by assumption) ?_ | refine s_le_t (by assumption) ?_ | refine s_le_f (by assumption) ?_ | refine s_pick_t ?_ | refine s_pick_f ?_ | refine s_not ?_ | refine pC_true ?_ | refine pC_false ?_)
    all_goals first
      | (refine s_add_in (by omega) ?_
         exact ⟨m - 1,by omega,rfl,e0,h16,i + 1,rfl,by omega,next (by rw [hb,decide_eq_true (show 97 ≤ c.toNat ∧ c.toNat ≤ 122 by omega)]; rfl)⟩)
      | (refine s_add_in (by omega) ?_
         exact ⟨m - 1,by omega,rfl,e0,h16,i + 1,rfl,by omega,next (by rw [hb,decide_eq_true (show 48 ≤ c.toNat ∧ c.toNat ≤ 57 by omega)]; simp)⟩)
      | skip
    all_goals
      refine c_indexByte _ _ ?_
      rw [eb,el]
      have hb' : okByte c = decide (0 ≤ Lib.indexByte [46,45,95,43] c) := by
        rw [hb,decide_eq_false (show ¬ (97 ≤ c.toNat ∧ c.toNat ≤ 122) by omega),decide_eq_false (show ¬ (48 ≤ c.toNat ∧ c.toNat ≤ 57) by omega)]; rfl
      by_cases C : Lib.indexByte [46,45,95,43] c ≥ 0
      · repeat (first | refine pG_yes rfl ?_ | refine pG_sk ?_ | refine pG_skf ?_ | refine pG_un ?_ | refine s_ge_t (by assumption) ?_ | refine s_ge_f (by assumption) ?_ | refine s_le_t (by assumption) ?_ | refine s_le_f (by assumption) ?_ | refine s_pick_t ?_ | refine s_pick_f ?_ | refine s_not ?_ | refine pC_true ?_ | refine pC_false ?_)
        refine s_add_in (by omega) ?_
        exact ⟨m - 1,by omega,rfl,e0,h16,i + 1,rfl,by omega,next (by rw [hb']; exact decide_eq_true (by omega))⟩
      · repeat (first | refine pG_yes rfl ?_ | refine pG_sk ?_ | refine pG_skf ?_ | refine pG_un ?_ | refine s_ge_t (by assumption) ?_ | refine s_ge_f (by assumption) ?_ | refine s_le_t (by assumption) ?_ | refine s_le_f (by assumption) ?_ | refine s_pick_t ?_ | refine s_pick_f ?_ | refine s_not ?_ | refine pC_true ?_ | refine pC_false ?_)
        rw [bad (by rw [hb']; exact decide_eq_false (by omega))] at hk
        exact hk
  · rw [decide_eq_false (by omega)]
    refine pC_false ?_
    have := F66_2_eq k
    show F66A k _ _ _
    rw [F66_2_eq]
    unfold F66_2
    have hall : s.data.toList.all okByte = true := by
      rw [List.all_eq_true]
      intro c hc
      obtain ⟨j,hj,rfl⟩ := List.getElem_of_mem hc
      have hj' : j < s.size := by simpa using hj
      exact hok j hj' (by omega)
    have hfin : namedA s most = true := by
      unfold namedA
      rw [hall,decide_eq_true h0,decide_eq_true (show (s.size : Int) ≤ most by omega)]; rfl
    rw [hfin] at hk
    exact hk
def fopB : ByteArray := ByteArray.mk #[102,105,108,101,46]
def zeroId : List UInt8 := List.replicate 32 0
structure FaultAt (w:World) (b:Nat) (op name:ByteArray) (e:Int) : Prop where
 h : w.heap[b]? = some (.cells (faultCells (fopB ++ op) name zeroId (EV.no e).val) 77 (0,0))
theorem FaultAt.fr {O:Nat → Prop} {w w':World} {b:Nat} {op name:ByteArray} {e:Int} (h:FaultAt w b op name e) (hf:Fr O w w') (hn:¬ O b) : FaultAt w' b op name e := ⟨hf.get h.h hn⟩
theorem FaultAt.in_ {w:World} {b:Nat} {op name:ByteArray} {e:Int} (h:FaultAt w b op name e) : (EV.fault b (.no e)).In w := ⟨⟨_,_,zeroId,rfl,h.h⟩,trivial⟩
theorem c_refused {op name:ByteArray} {e:Int} (hs:op.size ≤ 1000) (hk:∀ w',FaultAt w' w.heap.size op name e → Fr (fun _ => False) w w' → w'.heap.size = w.heap.size + 1 → k (EV.fault w.heap.size (.no e)).val w') : pFn P 67 [.string op,.string name,i64 e] w k := by
 refine F67_in _ _ _ _ _ ?_
 unfold F67_0
 refine s_addS (by show 5 + _ ≤ _; omega) ?_
 refine s_mki (by kernel_rfl) ?_
 refine px_ok (w' := w) (v := .agg (faultCells (fopB ++ op) name zeroId (EV.no e).val)) ?_ ?_
 ·exact run_build w _ _ _ (by
   show P.built 77 [(0,.string (fopB ++ op)),(1,.string name),(3,(EV.no e).val)] = _
   generalize fopB ++ op = o
   kernel_rfl)
 refine s_box (s_mki (by kernel_rfl) ?_)
 refine hk _ ⟨?_⟩ (Fr.alloc _ _ _) (by simp)
 exact alloc_new _ _
end
open Go.Proofs.XSep
def BytesA (v:Value) (bs:Bytes) : Asrt where
 h w O I := SBytes w v bs ∧ (0 < bs.length → ∀ b,sblk v = some b → I b) ∧ (∀ b,¬ O b) ∧ ∀ b,I b → b < w.heap.size
 fr := fun ⟨h1,h2,h3,h4⟩ hf hm => ⟨SBytes.fr0 h1 hf fun h0 b hb e => (hm b e).2 (h2 h0 b hb),h2,h3,fun b hb => Nat.lt_of_lt_of_le (h4 b hb) hf.size⟩
 lt := fun ⟨h1,h2,h3,h4⟩ b hb => hb.elim (fun h => absurd h (h3 b)) (h4 b)
 ap := fun ⟨h1,h2,h3,h4⟩ b hb => absurd hb (h3 b)
section
variable {w w0:World} {k:KV} {W:World} {D E c:Nat} {S T:AD} {l:List Asrt}
theorem data_low {dv:Value} {d:Bytes} (h:SBytes W dv d) : 0 < d.length → ∀ b,sblk dv = some b → b < W.heap.size := fun h0 b hb => Src.lt (size := 1) h (by omega) h0 hb
theorem BytesA.mk {w:World} {v:Value} {bs:Bytes} (h:SBytes w v bs) : (BytesA v bs).h w (fun _ => False) (fun b => 0 < bs.length ∧ sblk v = some b) :=
 ⟨h,fun h0 b hb => ⟨h0,hb⟩,fun _ h => h,fun b hb => Src.lt (size := 1) h (by omega) hb.1 hb.2⟩
theorem s_read {l:List Asrt} {i:Nat} {D:Nat} {S:AD} {c:Nat} (hS:Sep l w) (hi:l[i]? = some (Dk D S)) (ok:S.Ok c) (name:ByteArray) (hs:name.size ≤ 9223372036854775807) (a n:Int) (hn:-9223372036854775808 ≤ a ∧ a ≤ 9223372036854775807)
    (hk:∀ w' v,Sep (l.set i (star (Dk D (S.read name a n).2.2) (BytesA v (S.read name a n).2.1))) w' → k (.tuple #[v,i64 (S.read name a n).1]) w') : pFn P 77 [ptr D,.string name,i64 a,i64 n] w k := by
  obtain ⟨O,I,J,⟨L,h1⟩,g1,g2,nx⟩ := hS.at_ i hi
  refine c_read h1 ok name hs a n hn fun w' O' I' L' v hx hv hb => hk w' v (nx _ w' O' (fun b => I' b ∨ (0 < (S.read name a n).2.1.length ∧ sblk v = some b)) ⟨O',I',_,_,⟨L',hx.rep⟩,BytesA.mk hv,⟨fun b hb' => ⟨id,fun e => (hb b e.2).2 hb'⟩,fun b hb' => hb'.elim⟩,fun b => by simp,fun b => Iff.rfl⟩ ⟨hx.fr,hx.on,fun b hb' => ?_⟩)
  rcases hb' with hb' | hb'
  · exact (hx.in_ b hb').imp (g1 b) id
  · exact .inr (hb b hb'.2).1
theorem crash_names {S:AD} {c:Nat} (ok:S.Ok c) (picks:List Int) : ∀ p ∈ S.crashNames picks,p.1.size ≤ maxLen := fun p hp => by have := ok.crashNames_small picks p hp; unfold maxLen; omega
end
end Go.Proofs.YteeeggphkhimcaaGreatDoor
