/- Put together by a program (wip/tools/shake.py): XRange,Steps. -/
import Derived.Test.YtcdcojpfealppaaGreatY3
import Derived.Maps.RangeRun
import Derived.Test.YtcdcojpfealppaaGreatProg
import Derived.Carry
set_option linter.unusedVariables false
set_option linter.unusedSimpArgs false
open Go.Proofs.Tryz renaming prog → Z
open Go renaming World → Y, Value → V
namespace Go.Proofs.XRange
open Go Go.RowKit Go.Proofs.XRed Go.Proofs.XHeap Go.Proofs.XMaps Go.MapKept
def kv (p:ByteArray×V):V×V:=(.string p.1,p.2)
def Iter (w:Y) (r m:Nat) (l rest:List (ByteArray×V)):Prop:=
 ∃es clock seen since c0,w.heap[r]? =some (.mapIter (some m) since seen c0)∧w.heap[m]? =some (.map es clock)∧Stamped es clock∧(∀x∈es.toList,x.born<since)∧since≤c0∧since≤clock∧es.toList.map (fun e=>(e.key,e.val))=l.map kv∧(leftOf es seen).toList.map (fun e=>(e.key,e.val))=rest.map kv
theorem Iter.fr {O:Nat→Prop} {w w':Y} {r m:Nat} {l rest:List (ByteArray×V)} (h:Iter w r m l rest) (hf:Fr O w w') (h1:¬O r) (h2:¬O m):Iter w' r m l rest:=by
 obtain⟨es,clock,seen,since,c0,hr,hm,rest⟩:=h
 exact⟨es,clock,seen,since,c0,hf.get hr h1,hf.get hm h2,rest⟩
theorem Iter.ne {w:Y} {r m:Nat} {l rest:List (ByteArray×V)} (h:Iter w r m l rest):r≠m:=by
 obtain⟨es,clock,seen,since,c0,hr,hm,_⟩:=h
 rintro rfl;rw[hr] at hm;cases hm
theorem Iter.obj {w:Y} {r m:Nat} {l rest:List (ByteArray×V)} (h:Iter w r m l rest):∃a b c d,w.heap[r]? =some (.mapIter a b c d):=by
 obtain⟨es,clock,seen,since,c0,hr,hm,_⟩:=h;exact⟨_,_,_,_,hr⟩
section
variable {P:Program} {w:Y} {k:KV}
theorem C8 {t kt et:TypeId} {m:Nat} {l:List (ByteArray×V)} (h:SMap w m l) (ht:P.underlying t=some (.map kt et)) (hk:∀w',Iter w' w.heap.size m l l→Fr (fun _=>False) w w'→w'.heap.size=w.heap.size+1→k (.pointer (some ⟨w.heap.size,0,none⟩)) w'):px P (Instr.range t (.map (some m))) w k:=by
 obtain⟨es,clock,hm,hs,hl⟩:=h
 refine Z9 (run_range_map w t kt et m es clock ht hm) (hk _ ⟨es,clock,#[],clock,clock,Z2 _ _,GJ _ hm,hs,hs.1,Nat.le_refl _,Nat.le_refl _,hl,?_⟩ (Fr.alloc _ _ _) (by simp))
 have:leftOf es #[]=es:=by unfold leftOf;simp
 rw[this];exact hl
theorem Kk {r m:Nat} {ty:TypeId} {l rest:List (ByteArray×V)} (h:Iter w r m l rest) (h0:rest=[]→k (.tuple #[.bool false]) w)
   (h1:∀p rest' w',rest.Perm (p::rest')→Iter w' r m l rest'→Fr (fun b=>b=r) w w'→w'.heap.size=w.heap.size→(∀kk:KV,kk (.tuple #[.string p.1,p.2]) w'→px P (Instr.entry (.pointer (some ⟨r,0,none⟩))) w' kk)→k (.tuple #[.bool true,.string p.1,p.2]) w'):
   px P (Instr.next (.pointer (some ⟨r,0,none⟩)) false ty) w k:=by
 have hne:=h.ne
 obtain⟨es,clock,seen,since,c0,hr,hm,hs,hold,hsc,hsk,hl,hrest⟩:=h
 rcases run_next_at (P:=P) w ty r m since c0 seen es clock hr hm hold hsc with ⟨hz,hrun⟩|⟨e,he,w1,hw1,hrun⟩
 · refine Z9    hrun (h0 ?_)
   have:(leftOf es seen).toList=[]:=List.eq_nil_of_length_eq_zero (by simpa using hz)
   rw[this] at hrest
   simp only[List.map_nil] at hrest
   exact List.map_eq_nil_iff.1 hrest.symm
 · have hmem := mem_left he
   have hin:(e.key,e.val)∈rest.map kv:=by rw[←hrest];exact List.mem_map_of_mem he
   obtain⟨p,hp,hpe⟩:=List.mem_map.1 hin
   have hpk:e.key= .string p.1∧e.val=p.2:=by
     have:=hpe.symm
     simp only[kv,Prod.mk.injEq] at this
     exact this
   have hw1h:w1.heap=w.heap:=by rcases hw1 with rfl|rfl<;>rfl
   have hl1:r<w1.heap.size:=by rw[hw1h];exact ZS hr
   have hg:(ChangeMaps.setBlock w1 r (.mapIter (some m) since (seen.push e.born) clock)).heap[r]? =some (.mapIter (some m) since (seen.push e.born) clock):=by
     simp[ChangeMaps.setBlock,hl1]
   have f1:Fr (fun b=>b=r) w (ChangeMaps.setBlock w1 r (.mapIter (some m) since (seen.push e.born) clock)):=by
     have f0:Fr (fun _=>False) w w1:=by rcases hw1 with rfl|rfl;exact Fr.refl _ _;exact Fr.drew _ _
     exact(f0.or (Fr.setBlock w1 r _)).mono fun b hb=>hb.elim (fun h=>h.elim) .inl
   have hm1:=f1.get hm (fun e=>hne e.symm)
   rw[hpk.1,hpk.2] at hrun
   have hnb:(es.toList.map (·.born)).Nodup:=hs.2.1
   have hleft:(leftOf es (seen.push e.born)).toList=(leftOf es seen).toList.filter fun x=> !(x.born==e.born):=by
     unfold leftOf
     simp only[Array.toList_filter,List.filter_filter]
     refine List.filter_congr fun x _=> ?_
     rw[contains_push,Bool.not_or,Bool.and_comm]
   have hnl:((leftOf es seen).toList.map (·.born)).Nodup:=by
     unfold leftOf
     rw[Array.toList_filter]
     exact hnb.sublist (List.Sublist.map _ List.filter_sublist)
   have hperm:(leftOf es seen).toList.Perm (e::(leftOf es (seen.push e.born)).toList):=by
     rw[hleft]
     generalize (leftOf es seen).toList=L at he hnl
     clear hrest hin hleft hrun
     induction L with
     |nil=>cases he
     | cons x L ih =>
       simp only[List.map_cons,List.nodup_cons] at hnl
       by_cases hx:x.born=e.born
       · have hxe:x=e:=by
           cases he with
           |head=>rfl
           |tail _ hm'=>exact absurd (List.mem_map_of_mem (f:=(·.born)) hm') (by rw[←hx];exact hnl.1)
         subst hxe
         rw[List.filter_cons_of_neg (by simp)]
         have:L.filter (fun y=> !(y.born==x.born))=L:=by
           rw[List.filter_eq_self]
           intro y hy
           have:y.born≠x.born:=fun h=>hnl.1 (by rw[←h];exact List.mem_map_of_mem hy)
           simp[this]
         rw[this]
       · rw [List.filter_cons_of_pos (by simp [hx])]
         have he':e∈L:=by
           cases he with
           |head=>exact absurd rfl hx
           |tail _ h=>exact h
         exact(List.Perm.cons x (ih he' hnl.2)).trans (List.Perm.swap ..)
   have hperm2:=hperm.map fun e=>(e.key,e.val)
   rw[hrest,List.map_cons,hpk.1,hpk.2] at hperm2
   let back:V×V→ByteArray×V:=fun q=>(match q.1 with| .string s=>s|_=>ByteArray.empty,q.2)
   have hback:∀q,back (kv q)=q:=fun q=>rfl
   have hall:∀x∈(leftOf es (seen.push e.born)).toList,kv (back (x.key,x.val))=(x.key,x.val):=by
     intro x hx
     have hx':x∈(leftOf es seen).toList:=by rw[hleft] at hx;exact(List.mem_filter.1 hx).1
     have:(x.key,x.val)∈rest.map kv:=by rw[←hrest];exact List.mem_map_of_mem (f:=fun e:MapEntry=>(e.key,e.val)) hx'
     obtain⟨q,_,hq⟩:=List.mem_map.1 this
     rw[←hq,hback]
   have hr2:(leftOf es (seen.push e.born)).toList.map (fun e=>(e.key,e.val))=((leftOf es (seen.push e.born)).toList.map fun e=>back (e.key,e.val)).map kv:=by
     rw[List.map_map]
     exact List.map_congr_left fun x hx=>(hall x hx).symm
   refine Z9 hrun (h1 p ((leftOf es (seen.push e.born)).toList.map fun e=>back (e.key,e.val)) _ ?_ ⟨es,clock,seen.push e.born,since,clock,hg,hm1,hs,hold,hsk,hsk,hl,hr2⟩ f1 (by simp[ChangeMaps.setBlock,hw1h]) ?_)
   · have h3 := hperm2.map back
     simp only[List.map_map,List.map_cons] at h3
     have h4:rest.map (back∘kv)=rest:=(List.map_congr_left (g:=id) (fun q _=>hback q)).trans (List.map_id _)
     rw[h4] at h3
     exact h3
   · intro kk hkk
     have:=run_entry_at (P:=P) _ r m since seen es clock e hg hm1 hmem.1 hnb
     rw[hpk.1,hpk.2] at this
     exact Z9 this hkk
end
end Go.Proofs.XRange
set_option maxRecDepth 100000
namespace Go.Proofs.YtcdcojpfealppaaGreat
open Go Go.Proofs Go.RowKit Go.Proofs.XRed Go.Proofs.XHeap Go.Proofs.XMaps Go.Proofs.XSlices Tryz
section
variable {w:Y} {k:KV}
theorem Yr {b o:Nat} (hk:k (.pointer (some ⟨b,o+0,none⟩)) w):px Z (Instr.fieldAt 33 (.pointer (some ⟨b,o,none⟩)) 0) w k:=
 YH 29 0 (runUnderlying33 w) (by kernel_rfl) (sizeOf29 w) (by decide) hk
theorem YL {b o:Nat} (hk:k (.pointer (some ⟨b,o+1,none⟩)) w):px Z (Instr.fieldAt 33 (.pointer (some ⟨b,o,none⟩)) 1) w k:=
 YH 30 1 (runUnderlying33 w) (by kernel_rfl) (sizeOf30 w) (by decide) hk
theorem QV {b o:Nat} (hk:k (.pointer (some ⟨b,o+2,none⟩)) w):px Z (Instr.fieldAt 33 (.pointer (some ⟨b,o,none⟩)) 2) w k:=
 YH 31 2 (runUnderlying33 w) (by kernel_rfl) (sizeOf31 w) (by decide) hk
theorem Kl {b o:Nat} (hk:k (.pointer (some ⟨b,o+0,none⟩)) w):px Z (Instr.fieldAt 38 (.pointer (some ⟨b,o,none⟩)) 0) w k:=
 YH 3 0 (runUnderlying38 w) (by kernel_rfl) (sizeOf3 w) (by decide) hk
theorem SW {b o:Nat} (hk:k (.pointer (some ⟨b,o+1,none⟩)) w):px Z (Instr.fieldAt 38 (.pointer (some ⟨b,o,none⟩)) 1) w k:=
 YH 3 1 (runUnderlying38 w) (by kernel_rfl) (sizeOf3 w) (by decide) hk
theorem SX {b o:Nat} (hk:k (.pointer (some ⟨b,o+2,none⟩)) w):px Z (Instr.fieldAt 38 (.pointer (some ⟨b,o,none⟩)) 2) w k:=
 YH 3 2 (runUnderlying38 w) (by kernel_rfl) (sizeOf3 w) (by decide) hk
theorem SY {b o:Nat} (hk:k (.pointer (some ⟨b,o+0,none⟩)) w):px Z (Instr.fieldAt 41 (.pointer (some ⟨b,o,none⟩)) 0) w k:=
 YH 3 0 (runUnderlying41 w) (by kernel_rfl) (sizeOf3 w) (by decide) hk
theorem YM {b o:Nat} (hk:k (.pointer (some ⟨b,o+1,none⟩)) w):px Z (Instr.fieldAt 41 (.pointer (some ⟨b,o,none⟩)) 1) w k:=
 YH 9 1 (runUnderlying41 w) (by kernel_rfl) (sizeOf9 w) (by decide) hk
theorem SZ {b o:Nat} (hk:k (.pointer (some ⟨b,o+2,none⟩)) w):px Z (Instr.fieldAt 41 (.pointer (some ⟨b,o,none⟩)) 2) w k:=
 YH 9 2 (runUnderlying41 w) (by kernel_rfl) (sizeOf9 w) (by decide) hk
theorem Du {b o:Nat} (hk:k (.pointer (some ⟨b,o+3,none⟩)) w):px Z (Instr.fieldAt 41 (.pointer (some ⟨b,o,none⟩)) 3) w k:=
 YH 3 3 (runUnderlying41 w) (by kernel_rfl) (sizeOf3 w) (by decide) hk
theorem Dv {b o:Nat} (hk:k (.pointer (some ⟨b,o+4,none⟩)) w):px Z (Instr.fieldAt 41 (.pointer (some ⟨b,o,none⟩)) 4) w k:=
 YH 3 4 (runUnderlying41 w) (by kernel_rfl) (sizeOf3 w) (by decide) hk
theorem JF {b o:Nat} (hk:k (.pointer (some ⟨b,o+5,none⟩)) w):px Z (Instr.fieldAt 41 (.pointer (some ⟨b,o,none⟩)) 5) w k:=
 YH 36 5 (runUnderlying41 w) (by kernel_rfl) (sizeOf36 w) (by decide) hk
theorem Ta {b o:Nat} (hk:k (.pointer (some ⟨b,o+6,none⟩)) w):px Z (Instr.fieldAt 41 (.pointer (some ⟨b,o,none⟩)) 6) w k:=
 YH 38 6 (runUnderlying41 w) (by kernel_rfl) (sizeOf38 w) (by decide) hk
theorem Dw {b o:Nat} (hk:k (.pointer (some ⟨b,o+9,none⟩)) w):px Z (Instr.fieldAt 41 (.pointer (some ⟨b,o,none⟩)) 7) w k:=
 YH 39 9 (runUnderlying41 w) (by kernel_rfl) (sizeOf39 w) (by decide) hk
theorem UB {b o:Nat} (hk:k (.pointer (some ⟨b,o+0,none⟩)) w):px Z (Instr.fieldAt 51 (.pointer (some ⟨b,o,none⟩)) 0) w k:=
 YH 36 0 (runUnderlying51 w) (by kernel_rfl) (sizeOf36 w) (by decide) hk
theorem Ql {b o:Nat} (hk:k (.pointer (some ⟨b,o+1,none⟩)) w):px Z (Instr.fieldAt 51 (.pointer (some ⟨b,o,none⟩)) 1) w k:=
 YH 39 1 (runUnderlying51 w) (by kernel_rfl) (sizeOf39 w) (by decide) hk
theorem Km {b o:Nat} (hk:k (.pointer (some ⟨b,o+0,none⟩)) w):px Z (Instr.fieldAt 58 (.pointer (some ⟨b,o,none⟩)) 0) w k:=
 YH 3 0 (runUnderlying58 w) (by kernel_rfl) (sizeOf3 w) (by decide) hk
theorem XF {b o:Nat} (hk:k (.pointer (some ⟨b,o+1,none⟩)) w):px Z (Instr.fieldAt 58 (.pointer (some ⟨b,o,none⟩)) 1) w k:=
 YH 54 1 (runUnderlying58 w) (by kernel_rfl) (sizeOf54 w) (by decide) hk
theorem Ui {b o:Nat} (hk:k (.pointer (some ⟨b,o+2,none⟩)) w):px Z (Instr.fieldAt 58 (.pointer (some ⟨b,o,none⟩)) 2) w k:=
 YH 54 2 (runUnderlying58 w) (by kernel_rfl) (sizeOf54 w) (by decide) hk
theorem Uj {b o:Nat} (hk:k (.pointer (some ⟨b,o+3,none⟩)) w):px Z (Instr.fieldAt 58 (.pointer (some ⟨b,o,none⟩)) 3) w k:=
 YH 55 3 (runUnderlying58 w) (by kernel_rfl) (sizeOf55 w) (by decide) hk
theorem Dx {b o:Nat} (hk:k (.pointer (some ⟨b,o+4,none⟩)) w):px Z (Instr.fieldAt 58 (.pointer (some ⟨b,o,none⟩)) 4) w k:=
 YH 3 4 (runUnderlying58 w) (by kernel_rfl) (sizeOf3 w) (by decide) hk
theorem BP {b o:Nat} (hk:k (.pointer (some ⟨b,o+5,none⟩)) w):px Z (Instr.fieldAt 58 (.pointer (some ⟨b,o,none⟩)) 5) w k:=
 YH 38 5 (runUnderlying58 w) (by kernel_rfl) (sizeOf38 w) (by decide) hk
theorem QW {b o:Nat} (hk:k (.pointer (some ⟨b,o+8,none⟩)) w):px Z (Instr.fieldAt 58 (.pointer (some ⟨b,o,none⟩)) 6) w k:=
 YH 3 8 (runUnderlying58 w) (by kernel_rfl) (sizeOf3 w) (by decide) hk
theorem BQ {b o:Nat} (hk:k (.pointer (some ⟨b,o+9,none⟩)) w):px Z (Instr.fieldAt 58 (.pointer (some ⟨b,o,none⟩)) 7) w k:=
 YH 4 9 (runUnderlying58 w) (by kernel_rfl) (sizeOf4 w) (by decide) hk
theorem UC {b o:Nat} (hk:k (.pointer (some ⟨b,o+10,none⟩)) w):px Z (Instr.fieldAt 58 (.pointer (some ⟨b,o,none⟩)) 8) w k:=
 YH 56 10 (runUnderlying58 w) (by kernel_rfl) (sizeOf56 w) (by decide) hk
theorem Kn {b o:Nat} (hk:k (.pointer (some ⟨b,o+0,none⟩)) w):px Z (Instr.fieldAt 62 (.pointer (some ⟨b,o,none⟩)) 0) w k:=
 YH 4 0 (runUnderlying62 w) (by kernel_rfl) (sizeOf4 w) (by decide) hk
theorem Dy {b o:Nat} (hk:k (.pointer (some ⟨b,o+1,none⟩)) w):px Z (Instr.fieldAt 62 (.pointer (some ⟨b,o,none⟩)) 1) w k:=
 YH 3 1 (runUnderlying62 w) (by kernel_rfl) (sizeOf3 w) (by decide) hk
theorem Yx {b o:Nat} (hk:k (.pointer (some ⟨b,o+2,none⟩)) w):px Z (Instr.fieldAt 62 (.pointer (some ⟨b,o,none⟩)) 2) w k:=
 YH 59 2 (runUnderlying62 w) (by kernel_rfl) (sizeOf59 w) (by decide) hk
theorem Vg {b o:Nat} (hk:k (.pointer (some ⟨b,o+3,none⟩)) w):px Z (Instr.fieldAt 62 (.pointer (some ⟨b,o,none⟩)) 3) w k:=
 YH 59 3 (runUnderlying62 w) (by kernel_rfl) (sizeOf59 w) (by decide) hk
theorem Vx {b o:Nat} (hk:k (.pointer (some ⟨b,o+4,none⟩)) w):px Z (Instr.fieldAt 62 (.pointer (some ⟨b,o,none⟩)) 4) w k:=
 YH 60 4 (runUnderlying62 w) (by kernel_rfl) (sizeOf60 w) (by decide) hk
theorem Dz {b o:Nat} (hk:k (.pointer (some ⟨b,o+5,none⟩)) w):px Z (Instr.fieldAt 62 (.pointer (some ⟨b,o,none⟩)) 5) w k:=
 YH 3 5 (runUnderlying62 w) (by kernel_rfl) (sizeOf3 w) (by decide) hk
theorem Qm {b o:Nat} (hk:k (.pointer (some ⟨b,o+6,none⟩)) w):px Z (Instr.fieldAt 62 (.pointer (some ⟨b,o,none⟩)) 6) w k:=
 YH 3 6 (runUnderlying62 w) (by kernel_rfl) (sizeOf3 w) (by decide) hk
theorem JG {b o:Nat} (hk:k (.pointer (some ⟨b,o+7,none⟩)) w):px Z (Instr.fieldAt 62 (.pointer (some ⟨b,o,none⟩)) 7) w k:=
 YH 38 7 (runUnderlying62 w) (by kernel_rfl) (sizeOf38 w) (by decide) hk
theorem JH {b o:Nat} (hk:k (.pointer (some ⟨b,o+10,none⟩)) w):px Z (Instr.fieldAt 62 (.pointer (some ⟨b,o,none⟩)) 8) w k:=
 YH 56 10 (runUnderlying62 w) (by kernel_rfl) (sizeOf56 w) (by decide) hk
theorem UD {b o:Nat} (hk:k (.pointer (some ⟨b,o+0,none⟩)) w):px Z (Instr.fieldAt 70 (.pointer (some ⟨b,o,none⟩)) 0) w k:=
 YH 65 0 (runUnderlying70 w) (by kernel_rfl) (sizeOf65 w) (by decide) hk
theorem UE {b o:Nat} (hk:k (.pointer (some ⟨b,o+1,none⟩)) w):px Z (Instr.fieldAt 70 (.pointer (some ⟨b,o,none⟩)) 1) w k:=
 YH 66 1 (runUnderlying70 w) (by kernel_rfl) (sizeOf66 w) (by decide) hk
theorem UF {b o:Nat} (hk:k (.pointer (some ⟨b,o+2,none⟩)) w):px Z (Instr.fieldAt 70 (.pointer (some ⟨b,o,none⟩)) 2) w k:=
 YH 67 2 (runUnderlying70 w) (by kernel_rfl) (sizeOf67 w) (by decide) hk
theorem UG {b o:Nat} (hk:k (.pointer (some ⟨b,o+3,none⟩)) w):px Z (Instr.fieldAt 70 (.pointer (some ⟨b,o,none⟩)) 3) w k:=
 YH 68 3 (runUnderlying70 w) (by kernel_rfl) (sizeOf68 w) (by decide) hk
theorem QX {b o:Nat} (hk:k (.pointer (some ⟨b,o+0,none⟩)) w):px Z (Instr.fieldAt 83 (.pointer (some ⟨b,o,none⟩)) 0) w k:=
 YH 9 0 (runUnderlying83 w) (by kernel_rfl) (sizeOf9 w) (by decide) hk
theorem JI {b o:Nat} (hk:k (.pointer (some ⟨b,o+1,none⟩)) w):px Z (Instr.fieldAt 83 (.pointer (some ⟨b,o,none⟩)) 1) w k:=
 YH 36 1 (runUnderlying83 w) (by kernel_rfl) (sizeOf36 w) (by decide) hk
theorem QY {b o:Nat} (hk:k (.pointer (some ⟨b,o+0,none⟩)) w):px Z (Instr.fieldAt 124 (.pointer (some ⟨b,o,none⟩)) 0) w k:=
 YH 36 0 (runUnderlying124 w) (by kernel_rfl) (sizeOf36 w) (by decide) hk
theorem YG {b o:Nat} (hk:k (.pointer (some ⟨b,o+1,none⟩)) w):px Z (Instr.fieldAt 124 (.pointer (some ⟨b,o,none⟩)) 1) w k:=
 YH 36 1 (runUnderlying124 w) (by kernel_rfl) (sizeOf36 w) (by decide) hk
theorem UX {b o:Nat} (hk:k (.pointer (some ⟨b,o+2,none⟩)) w):px Z (Instr.fieldAt 124 (.pointer (some ⟨b,o,none⟩)) 2) w k:=
 YH 122 2 (runUnderlying124 w) (by kernel_rfl) (sizeOf122 w) (by decide) hk
theorem Ko {b o:Nat} (hk:k (.pointer (some ⟨b,o+0,none⟩)) w):px Z (Instr.fieldAt 126 (.pointer (some ⟨b,o,none⟩)) 0) w k:=
 YH 9 0 (runUnderlying126 w) (by kernel_rfl) (sizeOf9 w) (by decide) hk
theorem C9 {b o:Nat} (hk:k (.pointer (some ⟨b,o+1,none⟩)) w):px Z (Instr.fieldAt 126 (.pointer (some ⟨b,o,none⟩)) 1) w k:=
 YH 117 1 (runUnderlying126 w) (by kernel_rfl) (sizeOf117 w) (by decide) hk
theorem CA {b o:Nat} (hk:k (.pointer (some ⟨b,o+1,none⟩)) w):px Z (Instr.fieldAt 134 (.pointer (some ⟨b,o,none⟩)) 1) w k:=
 YH 3 1 (runUnderlying134 w) (by kernel_rfl) (sizeOf3 w) (by decide) hk
theorem Us {b o:Nat} (hk:k (.pointer (some ⟨b,o+0,none⟩)) w):px Z (Instr.fieldAt 144 (.pointer (some ⟨b,o,none⟩)) 0) w k:=
 YH 9 0 (runUnderlying144 w) (by kernel_rfl) (sizeOf9 w) (by decide) hk
theorem UY {b o:Nat} (hk:k (.pointer (some ⟨b,o+1,none⟩)) w):px Z (Instr.fieldAt 144 (.pointer (some ⟨b,o,none⟩)) 1) w k:=
 YH 142 1 (runUnderlying144 w) (by kernel_rfl) (sizeOf142 w) (by decide) hk
theorem CB {b o:Nat} (hk:k (.pointer (some ⟨b,o+0,none⟩)) w):px Z (Instr.fieldAt 146 (.pointer (some ⟨b,o,none⟩)) 0) w k:=
 YH 3 0 (runUnderlying146 w) (by kernel_rfl) (sizeOf3 w) (by decide) hk
theorem AB {b o:Nat} (hk:k (.pointer (some ⟨b,o+1,none⟩)) w):px Z (Instr.fieldAt 146 (.pointer (some ⟨b,o,none⟩)) 1) w k:=
 YH 9 1 (runUnderlying146 w) (by kernel_rfl) (sizeOf9 w) (by decide) hk
theorem y5 {b o:Nat} (hk:k (.pointer (some ⟨b,o+2,none⟩)) w):px Z (Instr.fieldAt 146 (.pointer (some ⟨b,o,none⟩)) 2) w k:=
 YH 9 2 (runUnderlying146 w) (by kernel_rfl) (sizeOf9 w) (by decide) hk
theorem AE {b o:Nat} (hk:k (.pointer (some ⟨b,o+3,none⟩)) w):px Z (Instr.fieldAt 146 (.pointer (some ⟨b,o,none⟩)) 3) w k:=
 YH 142 3 (runUnderlying146 w) (by kernel_rfl) (sizeOf142 w) (by decide) hk
theorem AF {b o:Nat} (hk:k (.pointer (some ⟨b,o+0,none⟩)) w):px Z (Instr.fieldAt 156 (.pointer (some ⟨b,o,none⟩)) 0) w k:=
 YH 36 0 (runUnderlying156 w) (by kernel_rfl) (sizeOf36 w) (by decide) hk
theorem Xp {b o:Nat} (hk:k (.pointer (some ⟨b,o+1,none⟩)) w):px Z (Instr.fieldAt 156 (.pointer (some ⟨b,o,none⟩)) 1) w k:=
 YH 36 1 (runUnderlying156 w) (by kernel_rfl) (sizeOf36 w) (by decide) hk
theorem Ut {b o:Nat} (hk:k (.pointer (some ⟨b,o+2,none⟩)) w):px Z (Instr.fieldAt 156 (.pointer (some ⟨b,o,none⟩)) 2) w k:=
 YH 154 2 (runUnderlying156 w) (by kernel_rfl) (sizeOf154 w) (by decide) hk
theorem AG {b o:Nat} (hk:k (.pointer (some ⟨b,o+0,none⟩)) w):px Z (Instr.fieldAt 158 (.pointer (some ⟨b,o,none⟩)) 0) w k:=
 YH 36 0 (runUnderlying158 w) (by kernel_rfl) (sizeOf36 w) (by decide) hk
theorem QZ {b o:Nat} (hk:k (.pointer (some ⟨b,o+1,none⟩)) w):px Z (Instr.fieldAt 158 (.pointer (some ⟨b,o,none⟩)) 1) w k:=
 YH 36 1 (runUnderlying158 w) (by kernel_rfl) (sizeOf36 w) (by decide) hk
theorem Ja {b o:Nat} (hk:k (.pointer (some ⟨b,o+2,none⟩)) w):px Z (Instr.fieldAt 158 (.pointer (some ⟨b,o,none⟩)) 2) w k:=
 YH 5 2 (runUnderlying158 w) (by kernel_rfl) (sizeOf5 w) (by decide) hk
theorem AH {b o:Nat} (hk:k (.pointer (some ⟨b,o+0,none⟩)) w):px Z (Instr.fieldAt 161 (.pointer (some ⟨b,o,none⟩)) 0) w k:=
 YH 71 0 (runUnderlying161 w) (by kernel_rfl) (sizeOf71 w) (by decide) hk
theorem Jb {b o:Nat} (hk:k (.pointer (some ⟨b,o+1,none⟩)) w):px Z (Instr.fieldAt 161 (.pointer (some ⟨b,o,none⟩)) 1) w k:=
 YH 71 1 (runUnderlying161 w) (by kernel_rfl) (sizeOf71 w) (by decide) hk
theorem Jc {b o:Nat} (hk:k (.pointer (some ⟨b,o+2,none⟩)) w):px Z (Instr.fieldAt 161 (.pointer (some ⟨b,o,none⟩)) 2) w k:=
 YH 9 2 (runUnderlying161 w) (by kernel_rfl) (sizeOf9 w) (by decide) hk
theorem AI {b o:Nat} (hk:k (.pointer (some ⟨b,o+0,none⟩)) w):px Z (Instr.fieldAt 163 (.pointer (some ⟨b,o,none⟩)) 0) w k:=
 YH 73 0 (runUnderlying163 w) (by kernel_rfl) (sizeOf73 w) (by decide) hk
theorem Jd {b o:Nat} (hk:k (.pointer (some ⟨b,o+1,none⟩)) w):px Z (Instr.fieldAt 163 (.pointer (some ⟨b,o,none⟩)) 1) w k:=
 YH 73 1 (runUnderlying163 w) (by kernel_rfl) (sizeOf73 w) (by decide) hk
theorem Je {b o:Nat} (hk:k (.pointer (some ⟨b,o+2,none⟩)) w):px Z (Instr.fieldAt 163 (.pointer (some ⟨b,o,none⟩)) 2) w k:=
 YH 9 2 (runUnderlying163 w) (by kernel_rfl) (sizeOf9 w) (by decide) hk
theorem AJ {b o:Nat} (hk:k (.pointer (some ⟨b,o+0,none⟩)) w):px Z (Instr.fieldAt 165 (.pointer (some ⟨b,o,none⟩)) 0) w k:=
 YH 56 0 (runUnderlying165 w) (by kernel_rfl) (sizeOf56 w) (by decide) hk
theorem Jf {b o:Nat} (hk:k (.pointer (some ⟨b,o+1,none⟩)) w):px Z (Instr.fieldAt 165 (.pointer (some ⟨b,o,none⟩)) 1) w k:=
 YH 56 1 (runUnderlying165 w) (by kernel_rfl) (sizeOf56 w) (by decide) hk
theorem Jg {b o:Nat} (hk:k (.pointer (some ⟨b,o+2,none⟩)) w):px Z (Instr.fieldAt 165 (.pointer (some ⟨b,o,none⟩)) 2) w k:=
 YH 3 2 (runUnderlying165 w) (by kernel_rfl) (sizeOf3 w) (by decide) hk
theorem Kp {b o:Nat} (hk:k (.pointer (some ⟨b,o+0,none⟩)) w):px Z (Instr.fieldAt 172 (.pointer (some ⟨b,o,none⟩)) 0) w k:=
 YH 9 0 (runUnderlying172 w) (by kernel_rfl) (sizeOf9 w) (by decide) hk
theorem y6 {b o:Nat} (hk:k (.pointer (some ⟨b,o+1,none⟩)) w):px Z (Instr.fieldAt 172 (.pointer (some ⟨b,o,none⟩)) 1) w k:=
 YH 9 1 (runUnderlying172 w) (by kernel_rfl) (sizeOf9 w) (by decide) hk
theorem Kq {b o:Nat} (hk:k (.pointer (some ⟨b,o+0,none⟩)) w):px Z (Instr.fieldAt 184 (.pointer (some ⟨b,o,none⟩)) 0) w k:=
 YH 3 0 (runUnderlying184 w) (by kernel_rfl) (sizeOf3 w) (by decide) hk
theorem Kr {b o:Nat} (hk:k (.pointer (some ⟨b,o+1,none⟩)) w):px Z (Instr.fieldAt 184 (.pointer (some ⟨b,o,none⟩)) 1) w k:=
 YH 36 1 (runUnderlying184 w) (by kernel_rfl) (sizeOf36 w) (by decide) hk
theorem AK {b o:Nat} (hk:k (.pointer (some ⟨b,o+0,none⟩)) w):px Z (Instr.fieldAt 186 (.pointer (some ⟨b,o,none⟩)) 0) w k:=
 YH 4 0 (runUnderlying186 w) (by kernel_rfl) (sizeOf4 w) (by decide) hk
theorem CC {b o:Nat} (hk:k (.pointer (some ⟨b,o+1,none⟩)) w):px Z (Instr.fieldAt 186 (.pointer (some ⟨b,o,none⟩)) 1) w k:=
 YH 3 1 (runUnderlying186 w) (by kernel_rfl) (sizeOf3 w) (by decide) hk
theorem UZ {b o:Nat} (hk:k (.pointer (some ⟨b,o+2,none⟩)) w):px Z (Instr.fieldAt 186 (.pointer (some ⟨b,o,none⟩)) 2) w k:=
 YH 36 2 (runUnderlying186 w) (by kernel_rfl) (sizeOf36 w) (by decide) hk
theorem El:prog.underlying 22=some (.slice (prog.elem 22)):=by kernel_rfl
theorem zhj:prog.elem 22=41:=by kernel_rfl
theorem y7 (w:Y):(sizeOf (prog.elem 22)).run Z w= .ok 10 w:=by rw[zhj];exact sizeOf41 w
theorem Ya:prog.underlying 36=some (.slice (prog.elem 36)):=by kernel_rfl
theorem zhk:prog.elem 36=5:=by kernel_rfl
theorem Vm (w:Y):(sizeOf (prog.elem 36)).run Z w= .ok 1 w:=by rw[zhk];exact sizeOf5 w
theorem Vy:prog.underlying 39=some (.slice (prog.elem 39)):=by kernel_rfl
theorem zhl:prog.elem 39=3:=by kernel_rfl
theorem BR (w:Y):(sizeOf (prog.elem 39)).run Z w= .ok 1 w:=by rw[zhl];exact sizeOf3 w
theorem Em:prog.underlying 55=some (.slice (prog.elem 55)):=by kernel_rfl
theorem zhm:prog.elem 55=136:=by kernel_rfl
theorem y8 (w:Y):(sizeOf (prog.elem 55)).run Z w= .ok 1 w:=by rw[zhm];exact sizeOf136 w
theorem Uu:prog.underlying 56=some (.slice (prog.elem 56)):=by kernel_rfl
theorem zhn:prog.elem 56=134:=by kernel_rfl
theorem En (w:Y):(sizeOf (prog.elem 56)).run Z w= .ok 3 w:=by rw[zhn];exact sizeOf134 w
theorem X6:prog.underlying 59=some (.slice (prog.elem 59)):=by kernel_rfl
theorem zho:prog.elem 59=144:=by kernel_rfl
theorem UH (w:Y):(sizeOf (prog.elem 59)).run Z w= .ok 2 w:=by rw[zho];exact sizeOf144 w
theorem Eo:prog.underlying 60=some (.slice (prog.elem 60)):=by kernel_rfl
theorem zhp:prog.elem 60=146:=by kernel_rfl
theorem y9 (w:Y):(sizeOf (prog.elem 60)).run Z w= .ok 4 w:=by rw[zhp];exact sizeOf146 w
theorem CD:prog.underlying 65=some (.slice (prog.elem 65)):=by kernel_rfl
theorem zhq:prog.elem 65=158:=by kernel_rfl
theorem P6 (w:Y):(sizeOf (prog.elem 65)).run Z w= .ok 3 w:=by rw[zhq];exact sizeOf158 w
theorem CE:prog.underlying 66=some (.slice (prog.elem 66)):=by kernel_rfl
theorem zhr:prog.elem 66=163:=by kernel_rfl
theorem P7 (w:Y):(sizeOf (prog.elem 66)).run Z w= .ok 3 w:=by rw[zhr];exact sizeOf163 w
theorem CF:prog.underlying 67=some (.slice (prog.elem 67)):=by kernel_rfl
theorem zhs:prog.elem 67=161:=by kernel_rfl
theorem P8 (w:Y):(sizeOf (prog.elem 67)).run Z w= .ok 3 w:=by rw[zhs];exact sizeOf161 w
theorem CG:prog.underlying 68=some (.slice (prog.elem 68)):=by kernel_rfl
theorem zht:prog.elem 68=165:=by kernel_rfl
theorem P9 (w:Y):(sizeOf (prog.elem 68)).run Z w= .ok 3 w:=by rw[zht];exact sizeOf165 w
theorem X7:prog.underlying 71=some (.slice (prog.elem 71)):=by kernel_rfl
theorem zhu:prog.elem 71=83:=by kernel_rfl
theorem Uv (w:Y):(sizeOf (prog.elem 71)).run Z w= .ok 2 w:=by rw[zhu];exact sizeOf83 w
theorem Xf:prog.underlying 73=some (.slice (prog.elem 73)):=by kernel_rfl
theorem zhv:prog.elem 73=9:=by kernel_rfl
theorem Ue (w:Y):(sizeOf (prog.elem 73)).run Z w= .ok 1 w:=by rw[zhv];exact sizeOf9 w
theorem D1:prog.underlying 122=some (.slice (prog.elem 122)):=by kernel_rfl
theorem gJ:prog.elem 122=130:=by kernel_rfl
theorem Tb (w:Y):(sizeOf (prog.elem 122)).run Z w= .ok 1 w:=by rw[gJ];exact sizeOf130 w
theorem BS:prog.underlying 139=some (.slice (prog.elem 139)):=by kernel_rfl
theorem gK:prog.elem 139=142:=by kernel_rfl
theorem Ks (w:Y):(sizeOf (prog.elem 139)).run Z w= .ok 1 w:=by rw[gK];exact sizeOf142 w
theorem Tc:prog.underlying 154=some (.slice (prog.elem 154)):=by kernel_rfl
theorem gL:prog.elem 154=186:=by kernel_rfl
theorem gM (w:Y):(sizeOf (prog.elem 154)).run Z w= .ok 3 w:=by rw[gL];exact sizeOf186 w
theorem Kt:prog.underlying 29=some (.pointer (prog.pointee 29)):=by kernel_rfl
theorem Ju:prog.underlying 30=some (.pointer (prog.pointee 30)):=by kernel_rfl
theorem JJ:prog.underlying 117=some (.pointer (prog.pointee 117)):=by kernel_rfl
theorem JK:prog.underlying 142=some (.pointer (prog.pointee 142)):=by kernel_rfl
theorem zlv:prog.concrete 54=true:=by kernel_rfl
theorem gN:prog.concrete 126=true:=by kernel_rfl
theorem gO:prog.concrete 172=true:=by kernel_rfl
theorem gP:prog.concrete 177=true:=by kernel_rfl
theorem zhw:prog.concrete 184=true:=by kernel_rfl
theorem zhx:prog.concrete 189=true:=by kernel_rfl
theorem Jh (hk:k (.slice (some ⟨w.heap.size,0,none⟩) 0 0) (w.alloc (.cells #[] 5))):px Z (Instr.buildSlice 36 0 #[]) w k:=HV (runUnderlying36 w) (sizeOf5 w) hk
theorem Ku {x:V} (hx:x.cells= #[x]) (hk:k (.slice (some ⟨w.heap.size,0,none⟩) 1 1) (w.alloc (.cells #[x] 136))):px Z (Instr.buildSlice 55 1 #[(0,x)]) w k:=BI (runUnderlying55 w) (sizeOf136 w) (zeroValue136 w) rfl hx hk
theorem AL (hk:k (.slice (some ⟨w.heap.size,0,none⟩) 0 0) (w.alloc (.cells #[] 134))):px Z (Instr.buildSlice 56 0 #[]) w k:=HV (runUnderlying56 w) (sizeOf134 w) hk
theorem PA (hk:k (.slice (some ⟨w.heap.size,0,none⟩) 0 0) (w.alloc (.cells #[] 130))):px Z (Instr.buildSlice 122 0 #[]) w k:=HV (runUnderlying122 w) (sizeOf130 w) hk
theorem PB {x:V} (hx:x.cells= #[x]) (hk:k (.slice (some ⟨w.heap.size,0,none⟩) 1 1) (w.alloc (.cells #[x] 130))):px Z (Instr.buildSlice 122 1 #[(0,x)]) w k:=BI (runUnderlying122 w) (sizeOf130 w) (zeroValue130 w) rfl hx hk
theorem Te {base n m:Nat} {v x:V} {xs cs:List V} (HO:w.ownsRow base 5 1 v n xs) (HS:Src w x 1 m cs) (h1:∀u∈cs,u.oneCell'=true) (hb:(n+m)*1≤140737488355328) (hbase:base≤w.heap.size)
   (hk:∀v' w',w'.ownsRow base 5 1 v' (n+m) (xs++cs)→Fr (fun b=>some b=Zv v) w w'→(Zv v'=Zv v∨Zv v'=some w.heap.size)→k v' w'):px Z (bSem .append #[36,36] 36 #[v,x]) w k:=by
 refine YK (P:=Z) (t:=36) (e:=5) (i:=t5) (z:=(t5.zero).getD undef) (size:=1) (bytes:=1) (by kernel_rfl) rfl (by kernel_rfl) (by kernel_rfl) (by kernel_rfl) (by kernel_rfl) (by kernel_rfl) (by decide) HO HS h1 ?_ hb hbase hk
 unfold maxLen;omega
theorem zkc {base n m:Nat} {v x:V} {xs cs:List V} (HO:w.ownsRow base 136 1 v n xs) (HS:Src w x 1 m cs) (h1:∀u∈cs,u.oneCell'=true) (hb:(n+m)*16≤140737488355328) (hbase:base≤w.heap.size)
   (hk:∀v' w',w'.ownsRow base 136 1 v' (n+m) (xs++cs)→Fr (fun b=>some b=Zv v) w w'→(Zv v'=Zv v∨Zv v'=some w.heap.size)→k v' w'):px Z (bSem .append #[55,55] 55 #[v,x]) w k:=by
 refine YK (P:=Z) (t:=55) (e:=136) (i:=t136) (z:=(t136.zero).getD undef) (size:=1) (bytes:=16) (by kernel_rfl) rfl (by kernel_rfl) (by kernel_rfl) (by kernel_rfl) (by kernel_rfl) (by kernel_rfl) (by decide) HO HS h1 ?_ hb hbase hk
 unfold maxLen;omega
theorem yA {base n m:Nat} {v x:V} {xs cs:List V} (HO:w.ownsRow base 134 3 v n xs) (HS:Src w x 3 m cs) (h1:∀u∈cs,u.oneCell'=true) (hb:(n+m)*32≤140737488355328) (hbase:base≤w.heap.size)
   (hk:∀v' w',w'.ownsRow base 134 3 v' (n+m) (xs++cs)→Fr (fun b=>some b=Zv v) w w'→(Zv v'=Zv v∨Zv v'=some w.heap.size)→k v' w'):px Z (bSem .append #[56,56] 56 #[v,x]) w k:=by
 refine YK (P:=Z) (t:=56) (e:=134) (i:=t134) (z:=(t134.zero).getD undef) (size:=3) (bytes:=32) (by kernel_rfl) rfl (by kernel_rfl) (by kernel_rfl) (by kernel_rfl) (by kernel_rfl) (by kernel_rfl) (by decide) HO HS h1 ?_ hb hbase hk
 unfold maxLen;omega
theorem zco {base n m:Nat} {v x:V} {xs cs:List V} (HO:w.ownsRow base 144 2 v n xs) (HS:Src w x 2 m cs) (h1:∀u∈cs,u.oneCell'=true) (hb:(n+m)*24≤140737488355328) (hbase:base≤w.heap.size)
   (hk:∀v' w',w'.ownsRow base 144 2 v' (n+m) (xs++cs)→Fr (fun b=>some b=Zv v) w w'→(Zv v'=Zv v∨Zv v'=some w.heap.size)→k v' w'):px Z (bSem .append #[59,59] 59 #[v,x]) w k:=by
 refine YK (P:=Z) (t:=59) (e:=144) (i:=t144) (z:=(t144.zero).getD undef) (size:=2) (bytes:=24) (by kernel_rfl) rfl (by kernel_rfl) (by kernel_rfl) (by kernel_rfl) (by kernel_rfl) (by kernel_rfl) (by decide) HO HS h1 ?_ hb hbase hk
 unfold maxLen;omega
theorem zkd {base n m:Nat} {v x:V} {xs cs:List V} (HO:w.ownsRow base 146 4 v n xs) (HS:Src w x 4 m cs) (h1:∀u∈cs,u.oneCell'=true) (hb:(n+m)*48≤140737488355328) (hbase:base≤w.heap.size)
   (hk:∀v' w',w'.ownsRow base 146 4 v' (n+m) (xs++cs)→Fr (fun b=>some b=Zv v) w w'→(Zv v'=Zv v∨Zv v'=some w.heap.size)→k v' w'):px Z (bSem .append #[60,60] 60 #[v,x]) w k:=by
 refine YK (P:=Z) (t:=60) (e:=146) (i:=t146) (z:=(t146.zero).getD undef) (size:=4) (bytes:=48) (by kernel_rfl) rfl (by kernel_rfl) (by kernel_rfl) (by kernel_rfl) (by kernel_rfl) (by kernel_rfl) (by decide) HO HS h1 ?_ hb hbase hk
 unfold maxLen;omega
theorem zlx {base n m:Nat} {v x:V} {xs cs:List V} (HO:w.ownsRow base 158 3 v n xs) (HS:Src w x 3 m cs) (h1:∀u∈cs,u.oneCell'=true) (hb:(n+m)*56≤140737488355328) (hbase:base≤w.heap.size)
   (hk:∀v' w',w'.ownsRow base 158 3 v' (n+m) (xs++cs)→Fr (fun b=>some b=Zv v) w w'→(Zv v'=Zv v∨Zv v'=some w.heap.size)→k v' w'):px Z (bSem .append #[65,65] 65 #[v,x]) w k:=by
 refine YK (P:=Z) (t:=65) (e:=158) (i:=t158) (z:=(t158.zero).getD undef) (size:=3) (bytes:=56) (by kernel_rfl) rfl (by kernel_rfl) (by kernel_rfl) (by kernel_rfl) (by kernel_rfl) (by kernel_rfl) (by decide) HO HS h1 ?_ hb hbase hk
 unfold maxLen;omega
theorem zly {base n m:Nat} {v x:V} {xs cs:List V} (HO:w.ownsRow base 163 3 v n xs) (HS:Src w x 3 m cs) (h1:∀u∈cs,u.oneCell'=true) (hb:(n+m)*64≤140737488355328) (hbase:base≤w.heap.size)
   (hk:∀v' w',w'.ownsRow base 163 3 v' (n+m) (xs++cs)→Fr (fun b=>some b=Zv v) w w'→(Zv v'=Zv v∨Zv v'=some w.heap.size)→k v' w'):px Z (bSem .append #[66,66] 66 #[v,x]) w k:=by
 refine YK (P:=Z) (t:=66) (e:=163) (i:=t163) (z:=(t163.zero).getD undef) (size:=3) (bytes:=64) (by kernel_rfl) rfl (by kernel_rfl) (by kernel_rfl) (by kernel_rfl) (by kernel_rfl) (by kernel_rfl) (by decide) HO HS h1 ?_ hb hbase hk
 unfold maxLen;omega
theorem zlz {base n m:Nat} {v x:V} {xs cs:List V} (HO:w.ownsRow base 161 3 v n xs) (HS:Src w x 3 m cs) (h1:∀u∈cs,u.oneCell'=true) (hb:(n+m)*64≤140737488355328) (hbase:base≤w.heap.size)
   (hk:∀v' w',w'.ownsRow base 161 3 v' (n+m) (xs++cs)→Fr (fun b=>some b=Zv v) w w'→(Zv v'=Zv v∨Zv v'=some w.heap.size)→k v' w'):px Z (bSem .append #[67,67] 67 #[v,x]) w k:=by
 refine YK (P:=Z) (t:=67) (e:=161) (i:=t161) (z:=(t161.zero).getD undef) (size:=3) (bytes:=64) (by kernel_rfl) rfl (by kernel_rfl) (by kernel_rfl) (by kernel_rfl) (by kernel_rfl) (by kernel_rfl) (by decide) HO HS h1 ?_ hb hbase hk
 unfold maxLen;omega
theorem zl0 {base n m:Nat} {v x:V} {xs cs:List V} (HO:w.ownsRow base 165 3 v n xs) (HS:Src w x 3 m cs) (h1:∀u∈cs,u.oneCell'=true) (hb:(n+m)*56≤140737488355328) (hbase:base≤w.heap.size)
   (hk:∀v' w',w'.ownsRow base 165 3 v' (n+m) (xs++cs)→Fr (fun b=>some b=Zv v) w w'→(Zv v'=Zv v∨Zv v'=some w.heap.size)→k v' w'):px Z (bSem .append #[68,68] 68 #[v,x]) w k:=by
 refine YK (P:=Z) (t:=68) (e:=165) (i:=t165) (z:=(t165.zero).getD undef) (size:=3) (bytes:=56) (by kernel_rfl) rfl (by kernel_rfl) (by kernel_rfl) (by kernel_rfl) (by kernel_rfl) (by kernel_rfl) (by decide) HO HS h1 ?_ hb hbase hk
 unfold maxLen;omega
theorem yB {base n m:Nat} {v x:V} {xs cs:List V} (HO:w.ownsRow base 83 2 v n xs) (HS:Src w x 2 m cs) (h1:∀u∈cs,u.oneCell'=true) (hb:(n+m)*40≤140737488355328) (hbase:base≤w.heap.size)
   (hk:∀v' w',w'.ownsRow base 83 2 v' (n+m) (xs++cs)→Fr (fun b=>some b=Zv v) w w'→(Zv v'=Zv v∨Zv v'=some w.heap.size)→k v' w'):px Z (bSem .append #[71,71] 71 #[v,x]) w k:=by
 refine YK (P:=Z) (t:=71) (e:=83) (i:=t83) (z:=(t83.zero).getD undef) (size:=2) (bytes:=40) (by kernel_rfl) rfl (by kernel_rfl) (by kernel_rfl) (by kernel_rfl) (by kernel_rfl) (by kernel_rfl) (by decide) HO HS h1 ?_ hb hbase hk
 unfold maxLen;omega
theorem zl1 {base n m:Nat} {v x:V} {xs cs:List V} (HO:w.ownsRow base 9 1 v n xs) (HS:Src w x 1 m cs) (h1:∀u∈cs,u.oneCell'=true) (hb:(n+m)*16≤140737488355328) (hbase:base≤w.heap.size)
   (hk:∀v' w',w'.ownsRow base 9 1 v' (n+m) (xs++cs)→Fr (fun b=>some b=Zv v) w w'→(Zv v'=Zv v∨Zv v'=some w.heap.size)→k v' w'):px Z (bSem .append #[73,73] 73 #[v,x]) w k:=by
 refine YK (P:=Z) (t:=73) (e:=9) (i:=t9) (z:=(t9.zero).getD undef) (size:=1) (bytes:=16) (by kernel_rfl) rfl (by kernel_rfl) (by kernel_rfl) (by kernel_rfl) (by kernel_rfl) (by kernel_rfl) (by decide) HO HS h1 ?_ hb hbase hk
 unfold maxLen;omega
theorem gQ {base n m:Nat} {v x:V} {xs cs:List V} (HO:w.ownsRow base 130 1 v n xs) (HS:Src w x 1 m cs) (h1:∀u∈cs,u.oneCell'=true) (hb:(n+m)*16≤140737488355328) (hbase:base≤w.heap.size)
   (hk:∀v' w',w'.ownsRow base 130 1 v' (n+m) (xs++cs)→Fr (fun b=>some b=Zv v) w w'→(Zv v'=Zv v∨Zv v'=some w.heap.size)→k v' w'):px Z (bSem .append #[122,122] 122 #[v,x]) w k:=by
 refine YK (P:=Z) (t:=122) (e:=130) (i:=t130) (z:=(t130.zero).getD undef) (size:=1) (bytes:=16) (by kernel_rfl) rfl (by kernel_rfl) (by kernel_rfl) (by kernel_rfl) (by kernel_rfl) (by kernel_rfl) (by decide) HO HS h1 ?_ hb hbase hk
 unfold maxLen;omega
theorem zhy {base n m:Nat} {v x:V} {xs cs:List V} (HO:w.ownsRow base 142 1 v n xs) (HS:Src w x 1 m cs) (h1:∀u∈cs,u.oneCell'=true) (hb:(n+m)*8≤140737488355328) (hbase:base≤w.heap.size)
   (hk:∀v' w',w'.ownsRow base 142 1 v' (n+m) (xs++cs)→Fr (fun b=>some b=Zv v) w w'→(Zv v'=Zv v∨Zv v'=some w.heap.size)→k v' w'):px Z (bSem .append #[139,139] 139 #[v,x]) w k:=by
 refine YK (P:=Z) (t:=139) (e:=142) (i:=t142) (z:=(t142.zero).getD undef) (size:=1) (bytes:=8) (by kernel_rfl) rfl (by kernel_rfl) (by kernel_rfl) (by kernel_rfl) (by kernel_rfl) (by kernel_rfl) (by decide) HO HS h1 ?_ hb hbase hk
 unfold maxLen;omega
theorem gU {base n m:Nat} {v x:V} {xs cs:List V} (HO:w.ownsRow base 186 3 v n xs) (HS:Src w x 3 m cs) (h1:∀u∈cs,u.oneCell'=true) (hb:(n+m)*40≤140737488355328) (hbase:base≤w.heap.size)
   (hk:∀v' w',w'.ownsRow base 186 3 v' (n+m) (xs++cs)→Fr (fun b=>some b=Zv v) w w'→(Zv v'=Zv v∨Zv v'=some w.heap.size)→k v' w'):px Z (bSem .append #[154,154] 154 #[v,x]) w k:=by
 refine YK (P:=Z) (t:=154) (e:=186) (i:=t186) (z:=(t186.zero).getD undef) (size:=3) (bytes:=40) (by kernel_rfl) rfl (by kernel_rfl) (by kernel_rfl) (by kernel_rfl) (by kernel_rfl) (by kernel_rfl) (by decide) HO HS h1 ?_ hb hbase hk
 unfold maxLen;omega
theorem zl2 {base n:Nat} {v x0:V} {xs:List V} {kk:V→KV} (HO:w.ownsRow base 5 1 v n xs) (hx:x0.cells= #[x0]) (h1:∀u∈ [x0],u.oneCell'=true) (hb:(n+1)*1≤140737488355328) (hbase:base≤w.heap.size)
   (hk:∀u v' w',w'.ownsRow base 5 1 v' (n+1) (xs++[x0])→Fr (fun b=>some b=Zv v) w w'→(∀b,Zv v'=some b→Zv v=some b∨(w.heap.size≤b∧b<w'.heap.size))→kk u v' w'):px Z (Instr.buildSlice 36 1 #[(0,x0)]) w fun u w=>px Z (bSem .append #[36,36] 36 #[v,u]) w (kk u):=by
 refine BI (runUnderlying36 w) (sizeOf5 w) (zeroValue5 w) rfl hx ?_
 have f1:=Fr.alloc (fun _=>False) w (.cells #[x0] 5)
 have ho:=ZQ w 0 5 1 #[x0] 1 (Nat.zero_le _) (by unfold maxLen;omega) rfl
 have z1:(w.alloc (.cells #[x0] 5)).heap.size=w.heap.size+1:=by simp
 generalize w.alloc (.cells #[x0] 5)=w1 at *
 refine Te (Z4 HO f1 fun _ _ h=>h) (Src.Zt ho) h1 hb (by omega) fun v' w2 h2 f2 hb2=>hk _ v' w2 h2 ((f1.or f2).mono fun b hb=> .inl (hb.elim (fun h=>h.elim) id)) fun b hb=> ?_
 have hlt:=(Zu h2 hb).2
 rcases hb2 with e|e
 · exact .inl (e▸hb)
 · rw[e] at hb;injection hb with hb;exact .inr (by omega)
theorem zl3 {base n:Nat} {v x0 x1 x2:V} {xs:List V} {kk:V→KV} (HO:w.ownsRow base 134 3 v n xs) (h1:∀u∈ [x0,x1,x2],u.oneCell'=true) (hb:(n+1)*32≤140737488355328) (hbase:base≤w.heap.size)
   (hk:∀u v' w',w'.ownsRow base 134 3 v' (n+1) (xs++[x0,x1,x2])→Fr (fun b=>some b=Zv v) w w'→(∀b,Zv v'=some b→Zv v=some b∨(w.heap.size≤b∧b<w'.heap.size))→kk u v' w'):px Z (Instr.buildSlice 56 1 #[(0,.agg #[x0,x1,x2])]) w fun u w=>px Z (bSem .append #[56,56] 56 #[v,u]) w (kk u):=by
 refine Z9 (w':=w.alloc (.cells #[x0,x1,x2] 134)) (v:= .slice (some ⟨w.heap.size,0,none⟩) 1 1) (by kernel_rfl) ?_
 have f1:=Fr.alloc (fun _=>False) w (.cells #[x0,x1,x2] 134)
 have ho:=ZQ w 0 134 3 #[x0,x1,x2] 1 (Nat.zero_le _) (by unfold maxLen;omega) rfl
 have z1:(w.alloc (.cells #[x0,x1,x2] 134)).heap.size=w.heap.size+1:=by simp
 generalize w.alloc (.cells #[x0,x1,x2] 134)=w1 at *
 refine yA (Z4 HO f1 fun _ _ h=>h) (Src.Zt ho) h1 hb (by omega) fun v' w2 h2 f2 hb2=>hk _ v' w2 h2 ((f1.or f2).mono fun b hb=> .inl (hb.elim (fun h=>h.elim) id)) fun b hb=> ?_
 have hlt:=(Zu h2 hb).2
 rcases hb2 with e|e
 · exact .inl (e▸hb)
 · rw[e] at hb;injection hb with hb;exact .inr (by omega)
theorem zl4 {base n:Nat} {v x0 x1:V} {xs:List V} {kk:V→KV} (HO:w.ownsRow base 144 2 v n xs) (h1:∀u∈ [x0,x1],u.oneCell'=true) (hb:(n+1)*24≤140737488355328) (hbase:base≤w.heap.size)
   (hk:∀u v' w',w'.ownsRow base 144 2 v' (n+1) (xs++[x0,x1])→Fr (fun b=>some b=Zv v) w w'→(∀b,Zv v'=some b→Zv v=some b∨(w.heap.size≤b∧b<w'.heap.size))→kk u v' w'):px Z (Instr.buildSlice 59 1 #[(0,.agg #[x0,x1])]) w fun u w=>px Z (bSem .append #[59,59] 59 #[v,u]) w (kk u):=by
 refine Z9 (w':=w.alloc (.cells #[x0,x1] 144)) (v:= .slice (some ⟨w.heap.size,0,none⟩) 1 1) (by kernel_rfl) ?_
 have f1:=Fr.alloc (fun _=>False) w (.cells #[x0,x1] 144)
 have ho:=ZQ w 0 144 2 #[x0,x1] 1 (Nat.zero_le _) (by unfold maxLen;omega) rfl
 have z1:(w.alloc (.cells #[x0,x1] 144)).heap.size=w.heap.size+1:=by simp
 generalize w.alloc (.cells #[x0,x1] 144)=w1 at *
 refine zco (Z4 HO f1 fun _ _ h=>h) (Src.Zt ho) h1 hb (by omega) fun v' w2 h2 f2 hb2=>hk _ v' w2 h2 ((f1.or f2).mono fun b hb=> .inl (hb.elim (fun h=>h.elim) id)) fun b hb=> ?_
 have hlt:=(Zu h2 hb).2
 rcases hb2 with e|e
 · exact .inl (e▸hb)
 · rw[e] at hb;injection hb with hb;exact .inr (by omega)
theorem zl5 {base n:Nat} {v x0 x1:V} {xs:List V} {kk:V→KV} (HO:w.ownsRow base 83 2 v n xs) (h1:∀u∈ [x0,x1],u.oneCell'=true) (hb:(n+1)*40≤140737488355328) (hbase:base≤w.heap.size)
   (hk:∀u v' w',w'.ownsRow base 83 2 v' (n+1) (xs++[x0,x1])→Fr (fun b=>some b=Zv v) w w'→(∀b,Zv v'=some b→Zv v=some b∨(w.heap.size≤b∧b<w'.heap.size))→kk u v' w'):px Z (Instr.buildSlice 71 1 #[(0,.agg #[x0,x1])]) w fun u w=>px Z (bSem .append #[71,71] 71 #[v,u]) w (kk u):=by
 refine Z9 (w':=w.alloc (.cells #[x0,x1] 83)) (v:= .slice (some ⟨w.heap.size,0,none⟩) 1 1) (by kernel_rfl) ?_
 have f1:=Fr.alloc (fun _=>False) w (.cells #[x0,x1] 83)
 have ho:=ZQ w 0 83 2 #[x0,x1] 1 (Nat.zero_le _) (by unfold maxLen;omega) rfl
 have z1:(w.alloc (.cells #[x0,x1] 83)).heap.size=w.heap.size+1:=by simp
 generalize w.alloc (.cells #[x0,x1] 83)=w1 at *
 refine yB (Z4 HO f1 fun _ _ h=>h) (Src.Zt ho) h1 hb (by omega) fun v' w2 h2 f2 hb2=>hk _ v' w2 h2 ((f1.or f2).mono fun b hb=> .inl (hb.elim (fun h=>h.elim) id)) fun b hb=> ?_
 have hlt:=(Zu h2 hb).2
 rcases hb2 with e|e
 · exact .inl (e▸hb)
 · rw[e] at hb;injection hb with hb;exact .inr (by omega)
theorem zl6 {base n:Nat} {v x0:V} {xs:List V} {kk:V→KV} (HO:w.ownsRow base 9 1 v n xs) (hx:x0.cells= #[x0]) (h1:∀u∈ [x0],u.oneCell'=true) (hb:(n+1)*16≤140737488355328) (hbase:base≤w.heap.size)
   (hk:∀u v' w',w'.ownsRow base 9 1 v' (n+1) (xs++[x0])→Fr (fun b=>some b=Zv v) w w'→(∀b,Zv v'=some b→Zv v=some b∨(w.heap.size≤b∧b<w'.heap.size))→kk u v' w'):px Z (Instr.buildSlice 73 1 #[(0,x0)]) w fun u w=>px Z (bSem .append #[73,73] 73 #[v,u]) w (kk u):=by
 refine BI (runUnderlying73 w) (sizeOf9 w) (zeroValue9 w) rfl hx ?_
 have f1:=Fr.alloc (fun _=>False) w (.cells #[x0] 9)
 have ho:=ZQ w 0 9 1 #[x0] 1 (Nat.zero_le _) (by unfold maxLen;omega) rfl
 have z1:(w.alloc (.cells #[x0] 9)).heap.size=w.heap.size+1:=by simp
 generalize w.alloc (.cells #[x0] 9)=w1 at *
 refine zl1 (Z4 HO f1 fun _ _ h=>h) (Src.Zt ho) h1 hb (by omega) fun v' w2 h2 f2 hb2=>hk _ v' w2 h2 ((f1.or f2).mono fun b hb=> .inl (hb.elim (fun h=>h.elim) id)) fun b hb=> ?_
 have hlt:=(Zu h2 hb).2
 rcases hb2 with e|e
 · exact .inl (e▸hb)
 · rw[e] at hb;injection hb with hb;exact .inr (by omega)
theorem gV {base n:Nat} {v x0:V} {xs:List V} {kk:V→KV} (HO:w.ownsRow base 142 1 v n xs) (hx:x0.cells= #[x0]) (h1:∀u∈ [x0],u.oneCell'=true) (hb:(n+1)*8≤140737488355328) (hbase:base≤w.heap.size)
   (hk:∀u v' w',w'.ownsRow base 142 1 v' (n+1) (xs++[x0])→Fr (fun b=>some b=Zv v) w w'→(∀b,Zv v'=some b→Zv v=some b∨(w.heap.size≤b∧b<w'.heap.size))→kk u v' w'):px Z (Instr.buildSlice 139 1 #[(0,x0)]) w fun u w=>px Z (bSem .append #[139,139] 139 #[v,u]) w (kk u):=by
 refine BI (runUnderlying139 w) (sizeOf142 w) (zeroValue142 w) rfl hx ?_
 have f1:=Fr.alloc (fun _=>False) w (.cells #[x0] 142)
 have ho:=ZQ w 0 142 1 #[x0] 1 (Nat.zero_le _) (by unfold maxLen;omega) rfl
 have z1:(w.alloc (.cells #[x0] 142)).heap.size=w.heap.size+1:=by simp
 generalize w.alloc (.cells #[x0] 142)=w1 at *
 refine zhy (Z4 HO f1 fun _ _ h=>h) (Src.Zt ho) h1 hb (by omega) fun v' w2 h2 f2 hb2=>hk _ v' w2 h2 ((f1.or f2).mono fun b hb=> .inl (hb.elim (fun h=>h.elim) id)) fun b hb=> ?_
 have hlt:=(Zu h2 hb).2
 rcases hb2 with e|e
 · exact .inl (e▸hb)
 · rw[e] at hb;injection hb with hb;exact .inr (by omega)
theorem Mi {m:Nat} {l:List (ByteArray×V)} (h:SMap w m l) (s:ByteArray) {z:V} (hz:(zeroValue 117).run Z w= .ok z w) (hk:k ((ZV l s).getD z) w):px Z (Instr.lookup 54 (.map (some m)) (.string s) false) w k:=Z9 (h.lookup underlying54 underlying9 hz s) hk
theorem gW {m:Nat} {l:List (ByteArray×V)} {kk:Y→Prop} (h:SMap w m l) (s:ByteArray) (v:V) (hk:∀w',SMap w' m (Xs l s v)→Fr (fun b=>b=m) w w'→w'.heap.size=w.heap.size→kk w'):pu Z (Instr.mapUpdate 54 (.map (some m)) (.string s) v) w kk:=by
 obtain⟨w',h1,h2,h3,h4⟩:=h.update (P:=Z) underlying54 underlying9 s v
 exact Mj h1 (hk w' h2 h3 h4)
theorem zke {m:Nat} {l:List (ByteArray×V)} (h:SMap w m l) (s:ByteArray) (hk:∀w',SMap w' m (Yg l s)→Fr (fun b=>b=m) w w'→w'.heap.size=w.heap.size→k (.tuple #[]) w'):px Z (bSem .delete #[54,9] 0 #[.map (some m),.string s]) w k:=by
 obtain⟨w',h1,h2,h3,h4⟩:=h.delete (P:=Z) underlying54 underlying9 s (ty:=0)
 exact Z9 h1 (hk w' h2 h3 h4)
theorem zcp (hk:k (.map (some w.heap.size)) (w.alloc (.map #[] 0))):px Z (Instr.makeMap 54 none) w k:=Z9 (run_makeMap 54 w) hk
theorem zhz (hk:k (.map (some w.heap.size)) (w.alloc (.map #[] 0))):px Z (Instr.makeMap 127 none) w k:=Z9 (run_makeMap 127 w) hk
end
end Go.Proofs.YtcdcojpfealppaaGreat
