/- Put together by a program (wip/tools/shake.py): ROps11,ROps12,ROps13,RTwin. -/
import Derived.Test.YtcdcojpfealppaaGreatY21
set_option linter.unusedVariables false
set_option linter.unusedSimpArgs false
set_option maxRecDepth 100000
open Go renaming World → Y, Value → V
namespace Go.Proofs.YtcdcojpfealppaaGreat
open Go Go.Proofs Go.RowKit Go.Proofs.XRed Go.Proofs.XHeap Go.Proofs.XMaps Go.Proofs.XSlices Go.Proofs.XDisk Go.Proofs.XCalls Go.Proofs.XSep Tryz
section
variable {w w0:Y} {D:Nat} {S S':AD} {O I:Nat → Prop} {L L':Uy} {k:KV}
theorem QK {b s:Bytes} {row:List Chg} {c:Nat} (h:VS b row s) (hc:row.length≤1099511627776) (i:Nat):Ym (row.take i)≤1152921504606846976:=by
 have h1:=UP (l:=row.take i) fun c hc=>h.Ud c (List.mem_of_mem_take hc)
 have h2:(row.take i).length≤row.length:=by rw[List.length_take];omega
 have h3:(row.take i).length*1048576≤1099511627776*1048576:=Nat.mul_le_mul_right _ (by omega)
 omega
theorem As {T:Nat} {rb:V} {x:Thg} {w:Y} (ht:VK w O I T rb x) {i:Nat} (hi:i<x.row.length) {kk:V→V→V→V→KV} (hk:∀q1 q2 q3 p,VQ w I p→p.1=x.row[i]→kk q1 q2 rb q3 (.agg (ZK p).toArray) w):
   px P (Zh (ptr T)) w fun q1 w=>px P (Instr.fieldAt 156 q1 2) w fun q2 w=>px P (Instr.loadAt 154 q2) w fun v w=>px P (Instr.indexAt 154 v (i64 i)) w fun q3 w=>px P (Instr.loadAt 186 q3) w (kk q1 q2 v q3):=by
 obtain⟨sv,hv,ps,hb,g1,g2,g3,g4,g5⟩:=ht.ex
 refine Zn (Ut (Zj (v:=rb) (isAgg154 _) hb rfl ?_))
 have hl:ps.length=x.row.length:=by rw[←g4,List.length_map]
 have hip:i<ps.length:=by omega
 refine Um (m:=0) (vs:=ZK ps[i]) Tc (gM _) (isAgg186 _) (sizeOf186 _) (Src.Zt g3) hi (by omega) (YR _) (fun j hj=>Vf (f:=ZK) YR (List.getElem?_eq_getElem hip) hj) fun q3=> ?_
 refine hk _ _ _ ps[i] (g5 _ (List.getElem_mem hip)) ?_
 have:(ps.map (·.1))[i]? =x.row[i]? :=by rw[g4]
 rw[List.getElem?_map,List.getElem?_eq_getElem hip,List.getElem?_eq_getElem hi] at this
 simpa using this
theorem Au {T:Nat} {rb:V} {x:Thg} {w:Y} (ht:VK w O I T rb x) {kk:V→V→V→KV} (hk:∀q1 q2,kk q1 q2 rb (i64 x.row.length) w):
   px P (Zh (ptr T)) w fun q1 w=>px P (Instr.fieldAt 156 q1 2) w fun q2 w=>px P (Instr.loadAt 154 q2) w fun v w=>px P (bSem .len #[154] 3 #[v]) w (kk q1 q2 v):=by
 obtain⟨sv,hv,ps,hb,g1,g2,g3,g4,g5⟩:=ht.ex
 exact Zn (Ut (Zj (v:=rb) (isAgg154 _) hb rfl (ZF Tc (Src.Zt g3) (hk _ _))))
theorem zf0 {t i c:Nat} {pv lv:V} {N2:KE} (h:YC w D S O I L) (ht:L.has t) (hT:(S.things t).Ok c) (hc:c≤1099511627776) {ρ:Env} (e0:ρ 0=ptr D) (e1:ρ 1=pv) (e4:ρ 4=lv) (e8:ρ 8=i64 i) (e9:ρ 9=ptr (L.loc t)) (e10:ρ 10=i64 0) (e11:ρ 11=i64 0)
   (hk:∀ρ' w',Fr no w w'→ρ' 0=ptr D→ρ' 1=pv→ρ' 4=lv→ρ' 7=ρ 7→ρ' 8=i64 i→ρ' 9=ptr (L.loc t)→ρ' 10=i64 (Ym (S.things t).row)→CX k N2 ρ' w'):FZ k N2 ρ w:=by
 have hrl:=hT.row
 refine DO (m:=(S.things t).row.length) k N2 (fun m ρ' w'=>∃j:Nat,j+m=(S.things t).row.length∧Fr no w w'∧ρ' 0=ptr D∧ρ' 1=pv∧ρ' 4=lv∧ρ' 7=ρ 7∧ρ' 8=i64 i∧ρ' 9=ptr (L.loc t)∧ρ' 10=i64 (Ym ((S.things t).row.take j))∧ρ' 11=i64 j) ?_
   ⟨0,by omega,Fr.refl _ _,e0,e1,e4,rfl,e8,e9,e10,e11⟩
 rintro m ρ' w' ⟨j,hjm,hf,a0,a1,a4,a7,a8,a9,a10,a11⟩
 rw[Gf]
 unfold Sr
 rw[a9,a10,a11]
 have hT':=(h.fr hf fun b hb=>hb.elim).things t ht
 refine Au hT' fun q1 q2=> ?_
 by_cases hj:j<(S.things t).row.length
 · refine ZA     (by omega) (Zk      (As      hT' hj fun q1 q2 q3 p hp hpe => ?_))
   refine GG hp fun w2 f2=> ?_
   rw[hpe]
   have hu:=QK (c:=c) hT.ok (by omega) (j+1)
   have hs:=DW (S.things t).row hj
   refine Zp (by omega) (Zp (by omega) ⟨m-1,by omega,j+1,by omega,hf.trans f2 fun b=> .inl,a0,a1,a4,a7,a8,a9,?_,?_⟩)
   · show i64 _=i64 _;rw[hs];simp
   · show i64 _=i64 _;simp
 · refine ZB     (by omega) (Zf       ?_)
   rw[Gi]
   rw[List.take_of_length_le (by omega)] at a10
   exact hk _ w' hf a0 a1 a4 a7 a8 a9 a10
theorem zf4 {t i c:Nat} {pv lv:V} {picks:List Int} {N2:KE} (h:YC w D S O I L) (ht:L.has t) (hT:(S.things t).Ok c) (hc:c≤1099511627776) (hp:Src w pv 1 picks.length (picks.map i64)) (hi:i≤1099511627776) {ρ:Env} (e0:ρ 0=ptr D) (e1:ρ 1=pv) (e4:ρ 4=lv) (e8:ρ 8=i64 i) (e9:ρ 9=ptr (L.loc t)) (e10:ρ 10=i64 (Ym (S.things t).row))
   (hk:∀ρ' w',Fr no w w'→ρ' 0=ptr D→ρ' 1=pv→ρ' 4=lv→ρ' 7=ρ 7→ρ' 8=i64 i→Z5 w' (ρ' 13) (S.Yt picks i t)→(∀b,Zv (ρ' 13)=some b→w.heap.size≤b∧b<w'.heap.size)→Bo k N2 ρ' w'):CX k N2 ρ w:=by
 have hrl:=hT.row
 unfold CX
 rw[e1,e8,e9,e10]
 have hu:=QK (c:=c) hT.ok (by omega) (S.things t).row.length
 rw[List.take_length] at hu
 refine Zp (by omega) ?_
 show pFn P 135 [pv,i64 ((i+1:Nat):Int),_] w _
 refine GU hp (i+1) _ (by omega) (by omega) ?_
 obtain⟨sv,hv,ps,hb,g1,g2,g3,g4,g5⟩:=(h.things t ht).ex
 refine Zn (AF (Zj (v:=sv) (isAgg36 _) hb rfl (YZ g1.1 (by have:=hT.ok.len.2;omega) fun v1 w1 n1 f1=> ?_)))
 have hcb:S.Yt picks i t=XDisk.leftOf (S.things t).safe (S.things t).row (XE picks (i+1) (Ym (S.things t).row)):=rfl
 rw[hcb] at hk
 have hple:XE picks (i+1) (Ym (S.things t).row)≤Ym (S.things t).row:=by
   unfold XE
   split
   · rename_i p _
     unfold Qe
     have h1:=Int.emod_lt_of_pos p (show (0:Int)<(Ym (S.things t).row:Int)+1 by omega)
     have:p.emod ((Ym (S.things t).row:Int)+1)<(Ym (S.things t).row:Int)+1:=h1
     omega
   · omega
 generalize XE picks (i+1) (Ym (S.things t).row)=u0 at *
 refine DP (m:=(S.things t).row.length) k N2 (fun m ρ' w'=>∃(j u:Nat) (b:Bytes),j+m=(S.things t).row.length∧Fr no w w'∧ρ' 0=ptr D∧ρ' 1=pv∧ρ' 4=lv∧ρ' 7=ρ 7∧ρ' 8=i64 i∧ρ' 9=ptr (L.loc t)∧ρ' 12=i64 u∧ρ' 14=i64 j∧u≤u0∧Z5 w' (ρ' 13) b∧(∀x,Zv (ρ' 13)=some x→w.heap.size≤x∧x<w'.heap.size)∧
     XDisk.leftOf (S.things t).safe (S.things t).row u0=XDisk.leftOf b ((S.things t).row.drop j) u∧Aj b ((S.things t).row.drop j) u (S.things t).shown) ?_
   ⟨0,u0,(S.things t).safe,by omega,f1,e0,e1,e4,rfl,e8,e9,rfl,rfl,Nat.le_refl _,n1.sb,n1.blk,rfl,.inl hT.ok⟩
 rintro m ρ' w' ⟨j,u,b,hjm,hf,a0,a1,a4,a7,a8,a9,a12,a14,hu0,hsb,hblk,hleft,hmid⟩
 rw[Gj]
 unfold Ss
 rw[a9,a12,a14]
 have hT':=(h.fr hf fun b hb=>hb.elim).things t ht
 have fin:XDisk.leftOf b ((S.things t).row.drop j) u=b→∀ρ'',ρ'' 0=ptr D→ρ'' 1=pv→ρ'' 4=lv→ρ'' 7=ρ 7→ρ'' 8=i64 i→ρ'' 13=ρ' 13→Bo k N2 ρ'' w':=by
   intro he ρ'' b0 b1 b4 b7 b8 b13
   refine hk ρ'' w' hf b0 b1 b4 b7 b8 ?_ (by rw[b13];exact hblk)
   rw[b13,hleft,he];exact hsb
 refine Au hT' fun q1 q2=> ?_
 by_cases hj:j<(S.things t).row.length
 · refine ZA     (by omega) (Zl     rfl (Zl     rfl ?_))
   by_cases hu1:u=0
   · refine YI     (by omega) (Zx       (Zf       ?_))
     rw[Bp]
     exact fin (by rw[hu1];exact QB _ _) _ a0 a1 a4 a7 a8 rfl
   · refine YQ     (by omega) (Zx       (Zk      (As      hT' hj fun q1 q2 q3 p hpk hpe => ?_)))
     refine GG hpk fun w2 f2=> ?_
     have hlf:=Cp (u:=u) (b:=b) hj
     rw[List.drop_eq_getElem_cons hj] at hmid
     obtain⟨hm1,hbl,hcu,hm4,hm5⟩:=hmid.step
     have hrow:VS b ((S.things t).row[j]::(S.things t).row.drop (j+1)) (S.things t).shown:=hmid.resolve_right fun h=>hu1 h.1
     have next:∀(ρ2:Env) (v:Nat),v=min u (S.things t).row[j].units→ρ2 0=ptr D→ρ2 1=pv→ρ2 4=lv→ρ2 7=ρ 7→ρ2 8=i64 i→ρ2 9=ptr (L.loc t)→ρ2 12=i64 u→ρ2 13=ρ' 13→ρ2 14=i64 j→ρ2 15=i64 v→
         Gk k N2 (fun ρ' w'=>∃m',m'<m∧∃(j u:Nat) (b:Bytes),j+m'=(S.things t).row.length∧Fr no w w'∧ρ' 0=ptr D∧ρ' 1=pv∧ρ' 4=lv∧ρ' 7=ρ 7∧ρ' 8=i64 i∧ρ' 9=ptr (L.loc t)∧ρ' 12=i64 u∧ρ' 14=i64 j∧u≤u0∧Z5 w' (ρ' 13) b∧(∀x,Zv (ρ' 13)=some x→w.heap.size≤x∧x<w'.heap.size)∧
           XDisk.leftOf (S.things t).safe (S.things t).row u0=XDisk.leftOf b ((S.things t).row.drop j) u∧Aj b ((S.things t).row.drop j) u (S.things t).shown) ρ2 w2:=by
       intro ρ2 v hv b0 b1 b4 b7 b8 b9 b12 b13 b14 b15
       unfold Gk
       rw[b9,b12,b13,b14,b15]
       have hT2:=hT'.fr f2 (fun h=>h) (fun _ _ h=>h) fun _ _ h=>h
       refine As hT2 hj fun q1 q2 q3 p2 hpk2 hpe2=> ?_
       refine JY hpk2 (hsb.fr f2 fun _ _ h=>h) (by rw[hpe2,hv];omega) (by omega) (fun n e _=> ?_) (fun a d e=> ?_) fun v3 w3 h3 hb3 f3=> ?_
       · rw[hpe2] at e;exact hrow.2.1 n e
       · rw [hpe2] at e
         have:=hrow.2.2.1 a d e;omega
       · rw [hpe2,hv] at h3
         have z2:=f2.size
         have z3:=f3.size
         have zw:=hf.size
         refine V8 (by omega) (Zp (by omega) ⟨m-1,by omega,j+1,u-min u (S.things t).row[j].units,_,by omega,(hf.trans f2 fun b=> .inl).trans f3 fun b=> .inl,b0,b1,b4,b7,b8,b9,?_,?_,by omega,h3,fun x hx=> ?_,hleft.trans hlf,hm1⟩)
         · show i64 _=i64 _;congr 1;omega
         · show i64 _=i64 _;simp
         · rcases hb3 x hx with e | e
           · have:=hblk x e;omega
           · omega
     by_cases hg:(S.things t).row[j].units>u
     · refine YQ     (by rw [hpe]; omega) (Zk      ?_)
       rw[Bn]
       exact next _ u (by omega) a0 a1 a4 a7 a8 a9 a12 rfl a14 rfl
     · refine YI     (by rw [hpe]; omega) (Zf       ?_)
       rw[Bn]
       exact next _ p.1.units (by rw[hpe];omega) a0 a1 a4 a7 a8 a9 a12 rfl a14 rfl
 · refine ZB     (by omega) ?_
   repeat (first|refine V9 ?_|refine YF ?_)
   refine Zr (Zf ?_)
   rw[Bp]
   exact fin (by rw[List.drop_eq_nil_of_le (by omega)];rfl) _ a0 a1 a4 a7 a8 rfl
end
section
variable {w w0:Y} {D:Nat} {S S':AD} {O I:Nat → Prop} {L L':Uy} {k:KV}
def Ve (l:Names) (ts:List Nat):List V:=(l.zip ts).flatMap fun q=>[.string q.1.1,ptr q.2]
structure BB (w:Y) (B:Nat) (rowv:V) (l:Names) (f:Nat→Nat→Bytes) (ts:List Nat):Prop where
 row:w.ownsRow B 144 2 rowv ts.length (Ve l ts)
 nd:ts.Nodup
 len:ts.length≤l.length
 th:∀(j T:Nat),ts[j]? =some T→∀p,l[j]? =some p→∃sv hv,w.heap[T]? =some (.cells #[sv,hv,.slice none 0 0] 156 (0,0))∧B≤T∧Z5 w sv (f j p.2)∧Z5 w hv (f j p.2)∧∀b,Zv sv=some b∨Zv hv=some b→B≤b∧b<w.heap.size∧Zv rowv≠some b∧b∉ts
theorem BB.fr {w w':Y} {B:Nat} {rowv:V} {l:Names} {f:Nat→Nat→Bytes} {ts:List Nat} (h:BB w B rowv l f ts) (hf:Fr no w w'):BB w' B rowv l f ts where
 row:=Z4 h.row hf fun _ _ h=>h
 nd:=h.nd
 len:=h.len
 th:=fun j T hT p hp=>by
  obtain⟨sv,hv,h1,h2,h3,h4,h5⟩:=h.th j T hT p hp
  exact⟨sv,hv,hf.get h1 id,h2,h3.fr hf fun _ _ h=>h,h4.fr hf fun _ _ h=>h,fun b hb=>⟨(h5 b hb).1,Nat.lt_of_lt_of_le (h5 b hb).2.1 hf.size,(h5 b hb).2.2⟩⟩
theorem BB.lt {w:Y} {B:Nat} {rowv:V} {l:Names} {f:Nat→Nat→Bytes} {ts:List Nat} (h:BB w B rowv l f ts):∀T∈ts,B≤T∧T<w.heap.size∧Zv rowv≠some T:=by
 intro T hT
 obtain⟨j,hj⟩:=List.getElem?_of_mem hT
 have hjl:j<l.length:=Nat.lt_of_lt_of_le (List.getElem?_eq_some_iff.1 hj).1 h.len
 obtain⟨sv,hv,h1,h2,_⟩:=h.th j T hj _ (List.getElem?_eq_getElem hjl)
 refine⟨h2,ZS h1,fun e=> ?_⟩
 obtain⟨c,hc⟩:=Z0 h.row e
 exact absurd (Zy hc h1) (by decide)
theorem Di {α β:Type}:∀ {l:List α} {ts:List β} {T:β} (h:ts.length<l.length),l.zip (ts++[T])=l.zip ts++[(l[ts.length],T)]
 | [],ts,T,h=>by simp at h
 |p::l,[],T,h=>by simp
 |p::l,t::ts,T,h=>by
  have:=Di (l:=l) (ts:=ts) (T:=T) (by simpa using h)
  simpa using this
theorem Aw {l:Names} {ts:List Nat} {T:Nat} (h:ts.length<l.length):Ve l (ts++[T])=Ve l ts++[.string l[ts.length].1,ptr T]:=by
 unfold Ve
 rw[Di h,List.flatMap_append]
 simp
set_option maxHeartbeats 1000000 in
theorem zf5 {i:Nat} {pv lv:V} {l:Names} {f:Nat→Nat→Bytes} {ts:List Nat} {wl:Y} {N2:KE} (hl:Src wl lv 2 l.length (ZO L.loc l)) (hlw:Fr no wl w) (hi:ts.length<l.length) (hlen:l.length≤256) {ρ7:V} (hm:BB w wl.heap.size ρ7 l f ts)
   {ρ:Env} (e0:ρ 0=ptr D) (e1:ρ 1=pv) (e4:ρ 4=lv) (e8:ρ 8=i64 ts.length) (e7:ρ 7=ρ7) {w1:Y} (hf1:Fr no w w1) (hb:Z5 w1 (ρ 13) (f ts.length l[ts.length].2)) (hbl:(f ts.length l[ts.length].2).length≤1099511627776) (hbb:∀b,Zv (ρ 13)=some b→w.heap.size≤b∧b<w1.heap.size)
   (hk:∀ρ' w' T,Fr no wl w'→BB w' wl.heap.size (ρ' 7) l f (ts++[T])→ρ' 0=ptr D→ρ' 1=pv→ρ' 4=lv→ρ' 8=i64 (ts.length+1)→N2 ρ' w'):Bo k N2 ρ w1:=by
 unfold Bo
 rw[e4,e8,e7]
 have f01:=hlw.trans hf1 fun b=> .inl
 have hl1:Src w1 lv 2 l.length (ZO L.loc l):=hl.fr (by omega) f01 fun _ _ h=>h
 obtain⟨b,o,cc,ev,q0,q1⟩:=Jn hl1 hi
 have hbl0:b<wl.heap.size:=Src.lt hl (by omega) (by omega) (by rw[ev];rfl)
 have fd:Fr no w1 w1.drew:=Fr.drew _ _
 have Uk:∀w2:Y,w2.heap[b]? =w1.heap[b]?→w2.cell? ⟨b,o+ts.length*2,none⟩=some (.string l[ts.length].1):=fun w2 e=>by rw[World.cell?_of_block (w:=w1) e];exact q0
 have hb1:b<w1.heap.size:=Nat.lt_of_lt_of_le hbl0 f01.size
 refine⟨fun w2:Y=>w2.cell? ⟨b,o+ts.length*2,none⟩=some (.string l[ts.length].1),q0,?_⟩
 refine Zi (.pointer (some ⟨b,o+ts.length*2,none⟩)) (fun w_ hS=>by rw[ev];exact Vu (i:=(ts.length:Int)) X6 (UH _) (by omega) (by omega) ⟨by simp,rfl⟩) ?_
 refine Zi _ (fun w_ hS=>Us ⟨rfl,rfl⟩) (Zi _ (fun w_ hS=>Xl (isAgg9 _) hS ⟨rfl,rfl⟩) ?_)
 obtain⟨A3,c3,ev3,_⟩:=hb.form
 refine YZ (hb.fr fd fun _ _ h=>h) (by omega) fun v2 w2 n2 f2=> ?_
 obtain⟨A2,c2,ev2,_⟩:=n2.sb.form
 subst ev2
 rw[ev3]
 rw[ev3] at hb hbb
 have f12:Fr no w1 w2:=fd.trans f2 fun b=> .inl
 have zd:w1.drew.heap.size=w1.heap.size:=rfl
 have hn2:=n2.blk
 generalize hD:f ts.length l[ts.length].2=bs at *
 refine⟨Uk w2 (f12.block b hb1 id),Zi (.agg #[.slice A3 bs.length c3,.slice A2 bs.length c2,.slice none 0 0]) (fun w_ hS=>Z9 (w':=w_) (by kernel_rfl) ⟨rfl,rfl⟩) (Yw ?_)⟩
 have bT:=Z2 w2 (.cells #[.slice A3 bs.length c3,.slice A2 bs.length c2,.slice none 0 0] 156)
 have fT:=Fr.alloc no w2 (.cells #[.slice A3 bs.length c3,.slice A2 bs.length c2,.slice none 0 0] 156)
 have zT:(w2.alloc (.cells #[.slice A3 bs.length c3,.slice A2 bs.length c2,.slice none 0 0] 156)).heap.size=w2.heap.size+1:=by simp
 show _∧_
 have hwT:w2.alloc (.cells (Value.agg #[.slice A3 bs.length c3,.slice A2 bs.length c2,.slice none 0 0]).cells 156)=w2.alloc (.cells #[.slice A3 bs.length c3,.slice A2 bs.length c2,.slice none 0 0] 156):=rfl
 rw[hwT]
 generalize w2.alloc (.cells #[.slice A3 bs.length c3,.slice A2 bs.length c2,.slice none 0 0] 156)=w3 at *
 have f13:Fr no w1 w3:=f12.trans fT fun b=> .inl
 refine⟨Uk w3 (f13.block b hb1 id),Zi (.agg #[.string l[ts.length].1,ptr w2.heap.size]) (fun w_ hS=>Z9 (w':=w_) (by unfold ptr;kernel_rfl) ⟨rfl,rfl⟩) ?_⟩
 refine Z9 (w':=w3.alloc (.cells #[.string l[ts.length].1,ptr w2.heap.size] 144)) (v:= .slice (some ⟨w3.heap.size,0,none⟩) 1 1) (by unfold ptr;kernel_rfl) ?_
 have f4:=Fr.alloc no w3 (.cells #[.string l[ts.length].1,ptr w2.heap.size] 144)
 have ho4:=ZQ w3 0 144 2 #[.string l[ts.length].1,ptr w2.heap.size] 1 (Nat.zero_le _) (by unfold maxLen;omega) rfl
 have z4:(w3.alloc (.cells #[.string l[ts.length].1,ptr w2.heap.size] 144)).heap.size=w3.heap.size+1:=by simp
 generalize w3.alloc (.cells #[.string l[ts.length].1,ptr w2.heap.size] 144)=w4 at *
 have f14:Fr no w1 w4:=f13.trans f4 fun b=> .inl
 refine⟨Uk w4 (f14.block b hb1 id),?_⟩
 have f04:Fr no w w4:=hf1.trans f14 fun b=> .inl
 have hm4:=hm.fr f04
 have zw1:=hf1.size
 have zlw:=hlw.size
 have zf2:=f2.size
 refine zco (base:=wl.heap.size) hm4.row (Src.Zt ho4) (by intro u hu;simp at hu;rcases hu with rfl|rfl<;>rfl) (by omega) (by omega) fun v5 w5 h5 f5 hb5=> ?_
 have z5:=f5.size
 have hrb:∀x,Zv ρ7=some x→wl.heap.size≤x∧x<w.heap.size:=fun x hx=>Zu hm.row hx
 have hold:∀x,x≠(fun y=>y) x∨some x≠Zv ρ7→x<w4.heap.size→w5.heap[x]? =w4.heap[x]? :=fun x h hx=>f5.block x hx fun e=>by
   rcases h with h|h
   · exact h rfl
   · exact h e
 have hb5':∀x,Zv v5=some x→Zv ρ7=some x∨w4.heap.size≤x:=by
   intro x hx
   rcases hb5 with e|e
   · exact .inl (e▸hx)
   · rw[e] at hx;injection hx with hx;exact .inr (by omega)
 have hbw:some b≠Zv ρ7:=fun e=>by have:=(hrb b e.symm).1;omega
 refine⟨Uk w5 ((hold b (.inr hbw) (by omega)).trans (f14.block b hb1 id)),Zp (by omega) ?_⟩
 refine hk _ w5 w2.heap.size ((hlw.trans f04 fun b=> .inl).trans f5 fun x hx=> .inr (hrb x hx.symm).1) ⟨?_,?_,by rw[List.length_append];exact hi,?_⟩ e0 e1 e4 rfl
 · show w5.ownsRow _ _ _ v5 _ _
   rw[List.length_append,Aw hi];exact h5
 · rw [List.nodup_append]
   refine⟨hm.nd,by simp,fun x hx y hy=> ?_⟩
   rw[List.mem_singleton] at hy;subst hy
   have:=(hm.lt x hx).2.1;omega
 · intro j T hT p hp
   show∃sv hv,_∧_∧_∧_∧∀x,Zv sv=some x∨Zv hv=some x→_∧_∧Zv v5≠some x∧_
   rcases Nat.lt_or_ge j ts.length with hj|hj
   · rw [List.getElem?_append_left hj] at hT
     obtain⟨sv,hv,g1,g2,g3,g4,g5⟩:=hm4.th j T hT p hp
     have hTm:=hm4.lt T (List.mem_of_getElem? hT)
     refine⟨sv,hv,f5.get g1 fun e=>hTm.2.2 e.symm,g2,g3.fr f5 fun x hx e=>(g5 x (.inl hx)).2.2.1 e.symm,g4.fr f5 fun x hx e=>(g5 x (.inr hx)).2.2.1 e.symm,fun x hx=> ?_⟩
     have g6:=g5 x hx
     have hxw:x<w.heap.size:=by
       obtain⟨sv',hv',k1,_,_,_,k5⟩:=hm.th j T hT p hp
       have:w4.heap[T]? =w.heap[T]? :=f04.block T (ZS k1) id
       rw[g1,k1] at this
       injection this with this;injection this with this
       have e1:sv=sv':=by have:=congrArg (fun a:Array V=>a[0]?) this;simpa using this
       have e2:hv=hv':=by have:=congrArg (fun a:Array V=>a[1]?) this;simpa using this
       subst e1;subst e2
       exact(k5 x hx).2.1
     refine⟨g6.1,by omega,fun e=> ?_,fun hm'=> ?_⟩
     · rcases hb5' x e with e | e
       · exact g6.2.2.1 e
       · omega
     · rcases List.mem_append.1 hm' with hm' | hm'
       · exact g6.2.2.2 hm'
       · rw[List.mem_singleton] at hm';omega
   · have hj':j=ts.length:=by
       have:=(List.getElem?_eq_some_iff.1 hT).1
       simp at this;omega
     subst hj'
     rw[List.getElem?_append_right (Nat.le_refl _),Nat.sub_self] at hT
     simp at hT;subst hT
     have hp':p=l[ts.length]:=by rw[List.getElem?_eq_getElem hi] at hp;injection hp with hp;exact hp.symm
     subst hp'
     rw[hD]
     have hTr:some w2.heap.size≠Zv ρ7:=fun e=>by have:=(hrb _ e.symm).2;omega
     have hnr:∀x,w.heap.size≤x→some x≠Zv ρ7:=fun x hx e=>by have:=(hrb x e.symm).2;omega
     refine⟨.slice A3 bs.length c3,.slice A2 bs.length c2,f5.get (f4.get bT id) hTr,by omega,(hb.fr f14 fun _ _ h=>h).fr f5 fun x hx e=>hnr x (hbb x hx).1 e,((n2.sb.fr fT fun _ _ h=>h).fr f4 fun _ _ h=>h).fr f5 fun x hx e=>hnr x (by have:=hn2 x hx;omega) e,fun x hx=> ?_⟩
     have hx2:w.heap.size≤x∧x<w2.heap.size:=by
       rcases hx with hx|hx
       · have:=hbb x hx;omega
       · have:=hn2 x hx;omega
     refine⟨by omega,by omega,fun e=> ?_,fun hm'=> ?_⟩
     · rcases hb5' x e with e | e
       · exact hnr x hx2.1 e.symm
       · omega
     · rcases List.mem_append.1 hm' with hm' | hm'
       · have:=(hm.lt x hm').2.1;omega
       · rw[List.mem_singleton] at hm';omega
end
section
variable {w w0:Y} {D:Nat} {S S':AD} {O I:Nat → Prop} {L L':Uy} {k:KV}
def BC (l:Names) (n:Nat):Names:=l.zipIdx.map fun(p,i)=>(p.1,n+i)
theorem HL (l:Names) (n:Nat):(BC l n).length=l.length:=by unfold BC;simp
theorem QL:∀(l:Names) (ts:List Nat) (n j:Nat) (loc:Nat→Nat),ts.length=l.length→(∀i T,ts[i]? =some T→loc (n+(j+i))=T)→ZO loc ((l.zipIdx j).map fun(p,i)=>(p.1,n+i))=Ve l ts
 | [],[],_,_,_,_,_=>rfl
 | [],t::ts,_,_,_,h,_=>by simp at h
 |p::l,[],_,_,_,h,_=>by simp at h
 |p::l,t::ts,n,j,loc,h,hl=>by
  have ih:=QL l ts n (j+1) loc (by simpa using h) fun i T hi=>by
   have:=hl (i+1) T (by simpa using hi)
   rw[show j+1+i=j+(i+1) by omega];exact this
  have h0:=hl 0 t rfl
  unfold ZO Ve at *
  simp only[List.zipIdx_cons,List.map_cons,List.flatMap_cons,List.zip_cons_cons]
  rw[ih]
  rw[show n+j=n+(j+0) by omega,h0]
theorem BD {l:Names} {n t:Nat} {s:ByteArray} (h:(s,t)∈BC l n):n≤t∧t<n+l.length:=by
 unfold BC at h
 obtain⟨q,hq,e⟩:=List.mem_map.1 h
 have:=List.mem_zipIdx hq
 injection e with e1 e2
 omega
set_option maxHeartbeats 2000000 in
theorem yl {c:Nat} {picks:List Int} {pv:V} (h:YC w D S O I L) (ok:S.Ok c) (hp:Src w pv 1 picks.length (picks.map i64)) (hk:∀w' O' I' L',RNx w D O I w' (S.Xu picks) O' I' L'→k (.tuple #[]) w'):pFn P 123 [ptr D,pv] w k:=by
 have hsm:=ok.small
 have hrow:=ok.row
 have hroom:=ok.room
 refine WW _ _ _ _ ?_
 unfold Ga
 show px P (Zd BinOp.eql 30 _ _ (ptr D) (.pointer none)) w _
 refine YJ Ju (Zl rfl (Zl rfl (Zn (Zl rfl (Dy (Zl rfl (Zj (v:=i64 S.room) (isAgg3 _) h.disk rfl (Zl rfl (Yd (by omega) (Zr (Zf ?_)))))))))))
 refine Zn (Vg (Zj (v:=L.befv) (isAgg59 _) h.disk rfl (Zn (Vx (Zj (v:=L.turnv) (isAgg60 _) h.disk rfl (ZF Eo (Src.Zt h.turns) ?_))))))
 refine GU hp 0 S.row.length (by omega) (by omega) ?_
 have hple:XE picks 0 S.row.length≤S.row.length:=by
  unfold XE
  split
  ·rename_i p _
   unfold Qe
   have h1:p.emod ((S.row.length:Int)+1)<(S.row.length:Int)+1:=Int.emod_lt_of_pos p (show (0:Int)<(S.row.length:Int)+1 by omega)
   omega
  ·omega
 have hcn:S.Z7 picks=(S.row.take (XE picks 0 S.row.length)).foldl (fun l c=>c.on l) S.safe:=rfl
 generalize XE picks 0 S.row.length=n0 at *
 refine DM (m:=n0) k (fun m ρ w'=>∃i:Nat,i+m=n0∧Fr no w w'∧ρ 0=ptr D∧ρ 1=pv∧ρ 5=i64 n0∧ρ 6=i64 i∧Src w' (ρ 4) 2 ((S.row.take i).foldl (fun l c=>c.on l) S.safe).length (ZO L.loc ((S.row.take i).foldl (fun l c=>c.on l) S.safe))) ?_
  ⟨0,by omega,Fr.refl _ _,rfl,rfl,rfl,rfl,h.bef.1⟩
 rintro m ρ w' ⟨i,him,hf,e0,e1,e5,e6,hsrc⟩
 rw[Gc]
 unfold Sn
 rw[e0,e5,e6]
 have h':=h.fr hf fun b hb=>hb.elim
 by_cases hi:i<n0
 ·have hir:i<S.row.length:=by omega
  obtain⟨hgive,hlen⟩:=ok.turns.at_ (List.getElem?_eq_getElem hir)
  refine ZA (by omega) (Zk (Zn (Vx (Zj (v:=L.turnv) (isAgg60 _) h'.disk rfl ?_))))
  refine Um (m:=0) (vs:=Yp L.loc S.row[i]) Eo (y9 _) (isAgg146 _) (sizeOf146 _) (Src.Zt h'.turns) hir (by omega) (YO _ _) (fun j hj=>Vf (f:=Yp L.loc) (YO L.loc) (List.getElem?_eq_getElem hir) hj) fun q3=> ?_
  refine S9 (c:=S.row[i]) hsrc (by omega) hgive (Ordered.fold ok.safe).nodup fun v2 w2 hv2 hb2 f2=> ?_
  refine Zp (by omega) ⟨m-1,by omega,i+1,by omega,hf.trans f2 fun b=> .inl,e0,e1,e5,?_,?_⟩
  ·show i64 _=i64 _;simp
  ·rw[List.take_succ_eq_append_getElem hir,List.foldl_append]
   exact hv2
 refine ZB (by omega) (Zf ?_)
 rw[Gd]
 unfold Sp
 have hin:i=n0:=by omega
 subst hin
 rw[←hcn] at hsrc
 have hcl:(S.Z7 picks).length≤256:=by
  rw[hcn]
  rcases Nat.lt_or_ge i S.row.length with h1|h1
  ·exact(ok.turns.at_ (List.getElem?_eq_getElem h1)).2
  ·rw[List.take_of_length_le h1,←ok.turns.eq];exact ok.turns.len.1
 have hreach:=ok.V3 picks
 clear hcn hple him
 generalize hl:S.Z7 picks=l at *
 have hp':Src w' pv 1 picks.length (picks.map i64):=hp.fr (by omega) hf fun _ _ h=>h
 refine DN (m:=l.length) k (fun m ρ' w2=>∃ts:List Nat,ts.length+m=l.length∧Fr no w' w2∧ρ' 0=ptr D∧ρ' 1=pv∧ρ' 4=ρ 4∧ρ' 8=i64 ts.length∧BB w2 w'.heap.size (ρ' 7) l (S.Yt picks) ts) ?_
  ⟨[],by simp,Fr.refl _ _,e0,e1,rfl,rfl,⟨⟨by simp[Ve],.inl ⟨rfl,rfl⟩⟩,List.nodup_nil,Nat.zero_le _,fun j T hT=>by simp at hT⟩⟩
 rintro m ρ' w2 ⟨ts,htm,f2,a0,a1,a4,a8,hm⟩
 rw[Ge]
 unfold Sq
 rw[a4,a8]
 have hsrc2:Src w2 (ρ 4) 2 l.length (ZO L.loc l):=hsrc.fr (by omega) f2 fun _ _ h=>h
 refine ZF X6 hsrc2 ?_
 by_cases hi:ts.length<l.length
 ·refine ZA (by omega) (Zk (XA hsrc2 hi fun q1 q2=> ?_))
  have hre:=hreach l[ts.length] (List.getElem_mem hi)
  have hhas:L.has l[ts.length].2:=h.sub _ hre
  have hTok:=ok.Yk _ hre
  have f02:Fr no w w2:=hf.trans f2 fun b=> .inl
  have h2:=h.fr f02 fun b hb=>hb.elim
  refine zf0 (i:=ts.length) h2 hhas hTok (by omega) a0 a1 a4 a8 rfl rfl rfl fun ρ3 w3 f3 b0 b1 b4 b7 b8 b9 b10=> ?_
  have h3:=h2.fr f3 fun b hb=>hb.elim
  refine zf4 h3 hhas hTok (by omega) ((hp'.fr (by omega) f2 fun _ _ h=>h).fr (by omega) f3 fun _ _ h=>h) (by omega) b0 b1 b4 b8 b9 b10 fun ρ4 w4 f4 d0 d1 d4 d7 d8 hb hbb=> ?_
  have hbl:(S.Yt picks ts.length l[ts.length].2).length≤1099511627776:=by
   have:(S.Yt picks ts.length l[ts.length].2).length≤1048576:=UR (.inl hTok.ok)
   omega
  refine zf5 (i:=0) (D:=D) (L:=L) (w:=w3) hsrc (f2.trans f3 fun b=> .inl) hi hcl (hm.fr f3) d0 d1 d4 d8 (by rw[d7,b7];rfl) f4 hb hbl hbb fun ρ5 w5 T f5 hm5 g0 g1 g4 g8=> ?_
  exact⟨m-1,by omega,ts++[T],by rw[List.length_append];show ts.length+1+_=_;omega,f5,g0,g1,g4,by rw[List.length_append];exact g8,hm5⟩
 refine ZB (by omega) (Zf ?_)
 rw[Gh]
 have hlen:ts.length=l.length:=by have:=hm.len;omega
 have f02:Fr no w w2:=hf.trans f2 fun b=> .inl
 have h2:=h.fr f02 fun b hb=>hb.elim
 obtain⟨A7,c7,ev7⟩:∃A c',ρ' 7= .slice A l.length c':=by
  obtain⟨A,c',e,_⟩:=Src.Zt hm.row
  rw[hlen] at e;exact⟨A,c',e⟩
 suffices hs:∀ρ2:Env,ρ2 0=ptr D→ρ2 7= .slice A7 l.length c7→Gg k ρ2 w2 from hs _ a0 ev7
 intro ρ2 r0 r7
 unfold Gg
 rw[r0,r7]
 rw[ev7] at hm
 have dk:=h2.disk
 have fk:Fr (fun b=>b=D) w2 w2:=Fr.refl _ _
 have zk:w2.heap.size=w2.heap.size:=rfl
 refine Zn (Yx ?_)
 refine YA (sizeOf59 _) rfl rfl dk (by show 2<11;decide) ?_
 replace dk:=Z6 dk 2 (.slice A7 l.length c7)
 replace fk:Fr (fun b=>b=D) w2 (w2.setCell ⟨D,2,none⟩ (.slice A7 l.length c7)):=fk.trans (Fr.setCell w2 ⟨D,2,none⟩ _) fun b=> .inl
 replace zk:(w2.setCell ⟨D,2,none⟩ (.slice A7 l.length c7)).heap.size=w2.heap.size:=by rw[←zk];simp[World.setCell]
 generalize hg1:w2.setCell ⟨D,2,none⟩ (.slice A7 l.length c7)=u1 at *
 refine Zn (Vg ?_)
 refine YA (sizeOf59 _) rfl rfl dk (by show 3<11;decide) ?_
 replace dk:=Z6 dk 3 (.slice A7 l.length c7)
 replace fk:Fr (fun b=>b=D) w2 (u1.setCell ⟨D,3,none⟩ (.slice A7 l.length c7)):=fk.trans (Fr.setCell u1 ⟨D,3,none⟩ _) fun b=> .inl
 replace zk:(u1.setCell ⟨D,3,none⟩ (.slice A7 l.length c7)).heap.size=w2.heap.size:=by rw[←zk];simp[World.setCell]
 generalize hg2:u1.setCell ⟨D,3,none⟩ (.slice A7 l.length c7)=u2 at *
 refine Zn (Vx ?_)
 refine YA (sizeOf60 _) rfl rfl dk (by show 4<11;decide) ?_
 replace dk:=Z6 dk 4 (.slice none 0 0)
 replace fk:Fr (fun b=>b=D) w2 (u2.setCell ⟨D,4,none⟩ (.slice none 0 0)):=fk.trans (Fr.setCell u2 ⟨D,4,none⟩ _) fun b=> .inl
 replace zk:(u2.setCell ⟨D,4,none⟩ (.slice none 0 0)).heap.size=w2.heap.size:=by rw[←zk];simp[World.setCell]
 generalize hg3:u2.setCell ⟨D,4,none⟩ (.slice none 0 0)=u3 at *
 refine Zn (Kn ?_)
 refine YA (sizeOf4 _) rfl rfl dk (by show 0<11;decide) ?_
 replace dk:=Z6 dk 0 (.bool true)
 replace fk:Fr (fun b=>b=D) w2 (u3.setCell ⟨D,0,none⟩ (.bool true)):=fk.trans (Fr.setCell u3 ⟨D,0,none⟩ _) fun b=> .inl
 replace zk:(u3.setCell ⟨D,0,none⟩ (.bool true)).heap.size=w2.heap.size:=by rw[←zk];simp[World.setCell]
 generalize hg4:u3.setCell ⟨D,0,none⟩ (.bool true)=u4 at *
 refine Z9 (w':=u4) (v:= .agg #[i64 0,i64 0,i64 0]) (by kernel_rfl) ?_
 refine Zn (JG (Va (n:=3) (vs:=[i64 0,i64 0,i64 0]) (sizeOf38 _) rfl (by intro v hv;simp at hv;subst hv;rfl) dk (by show 7+3≤11;decide) fun u5 dk5 f5 z5=> ?_))
 replace dk:=dk5
 replace fk:Fr (fun b=>b=D) w2 u5:=fk.trans f5 fun b=> .inl
 replace zk:u5.heap.size=w2.heap.size:=z5.trans zk
 clear dk5 f5 z5
 refine Zn (Dz ?_)
 refine YA (sizeOf3 _) rfl rfl dk (by show 5<11;decide) ?_
 replace dk:=Z6 dk 5 (i64 0)
 replace fk:Fr (fun b=>b=D) w2 (u5.setCell ⟨D,5,none⟩ (i64 0)):=fk.trans (Fr.setCell u5 ⟨D,5,none⟩ _) fun b=> .inl
 replace zk:(u5.setCell ⟨D,5,none⟩ (i64 0)).heap.size=w2.heap.size:=by rw[←zk];simp[World.setCell]
 generalize hg6:u5.setCell ⟨D,5,none⟩ (i64 0)=u6 at *
 refine Zn (Qm ?_)
 refine YA (sizeOf3 _) rfl rfl dk (by show 6<11;decide) ?_
 replace dk:=Z6 dk 6 (i64 0)
 replace fk:Fr (fun b=>b=D) w2 (u6.setCell ⟨D,6,none⟩ (i64 0)):=fk.trans (Fr.setCell u6 ⟨D,6,none⟩ _) fun b=> .inl
 replace zk:(u6.setCell ⟨D,6,none⟩ (i64 0)).heap.size=w2.heap.size:=by rw[←zk];simp[World.setCell]
 generalize hg7:u6.setCell ⟨D,6,none⟩ (i64 0)=u7 at *
 have hdc:u7.heap[D]? =some (.cells (Y6 (S.Xu picks) { L with has:=fun t=>S.next≤t∧t<S.next+l.length,loc:=fun t=>ts.getD (t-S.next) 0,trow:=fun _=> .slice none 0 0,nowv:= .slice A7 l.length c7,befv:= .slice A7 l.length c7,turnv:= .slice none 0 0}) 62 (0,0)):=by rw[dk];rfl
 have hshown:(S.Xu picks).shown=BC l S.next:=by unfold AD.Xu;rw[hl];rfl
 have hsafe:(S.Xu picks).safe=BC l S.next:=by unfold AD.Xu;rw[hl];rfl
 have hrowc:(S.Xu picks).row=[]:=rfl
 have hreads:(S.Xu picks).reads=S.reads:=rfl
 have hnext:(S.Xu picks).next=S.next+l.length:=by unfold AD.Xu;rw[hl]
 have hthing:∀j (hj:j<l.length),(S.Xu picks).things (S.next+j)=⟨S.Yt picks j l[j].2,S.Yt picks j l[j].2,[]⟩:=by
  intro j hj
  show (if S.next+j<S.next then S.things (S.next+j) else match (S.Z7 picks)[S.next+j-S.next]? with|some p=>_|none=>_)=_
  rw[if_neg (by omega),show S.next+j-S.next=j by omega,hl,List.getElem?_eq_getElem hj]
 have zw:=f02.size
 have fin:Fr (fun b=>b=D) w u7:=(f02.mono fun b hb=>hb.elim).trans fk fun b=> .inl
 have hDw:=h.lt D (.inl h.oD)
 have zw':=hf.size
 have hDn:∀b,w.heap.size≤b→¬(b=D):=fun b hb e=>by omega
 have hnI:∀b,I b→¬(b=D):=fun b hb e=>h.apart b (e▸h.oD) hb
 have hrb:∀b,Zv (.slice A7 l.length c7)=some b→w'.heap.size≤b∧b<w2.heap.size:=fun b hb=>Zu hm.row hb
 have hrt:∀b,Zv (.slice A7 l.length c7)=some b→b∉ts:=fun b hb hm'=>(hm.lt b hm').2.2 hb
 have hcells:ZO (fun t=>ts.getD (t-S.next) 0) (BC l S.next)=Ve l ts:=QL l ts S.next 0 _ hlen fun i T hi=>by
  show ts.getD (S.next+(0+i)-S.next) 0=T
  rw[show S.next+(0+i)-S.next=i by omega,List.getD,hi];rfl
 have hnv:NV u7 (fun b=>I b∨(w.heap.size≤b∧b<u7.heap.size∧b∉ts)) (fun t=>ts.getD (t-S.next) 0) (.slice A7 l.length c7) (BC l S.next):=by
  refine⟨?_,fun b hb=> .inr ⟨by have:=hrb b hb;omega,by have:=hrb b hb;omega,hrt b hb⟩⟩
  rw[hcells,HL]
  have hS:=(Src.Zt hm.row).fr (by omega) fk fun b hb (e:b=D)=>by
   have:=(hrb b hb).1;omega
  rw[hlen] at hS
  exact hS
 refine hk u7 (fun b=>O b∨b∈ts) (fun b=>I b∨(w.heap.size≤b∧b<u7.heap.size∧b∉ts)) _ ⟨⟨hdc,by rw[hshown];exact hnv,by rw[hsafe];exact hnv,⟨rfl,.inl ⟨rfl,rfl⟩⟩,Z4 h.told fin ?_,?_,?_,?_,?_,?_,.inl h.oD,(by rintro b hb;cases hb),fun b hb=> .inl (h.otold b hb),?_,?_⟩,fin.mono fun b hb=> .inl (hb▸h.oD),fun b=> .inl,fun b=> .inl,?_,?_⟩
 ·rintro b hb rfl
  obtain⟨c1,h1⟩:=Z0 h.told hb
  exact absurd (Zy h1 h.disk) (by decide)
 ·rintro t (⟨n,ht⟩|⟨n,ht⟩|⟨n,ht⟩)
  ·rw[hshown] at ht;exact BD ht
  ·rw[hsafe] at ht;exact BD ht
  ·cases ht
 ·rintro t ⟨h1,h2⟩
  rw[hnext];exact h2
 ·rintro t ⟨h1,h2⟩
  obtain⟨j,rfl⟩:∃j,t=S.next+j:=⟨t-S.next,by omega⟩
  have hj:j<l.length:=by omega
  have hjt:j<ts.length:=by omega
  obtain⟨sv,hv,g1,g2,g3,g4,g5⟩:=hm.th j ts[j] (List.getElem?_eq_getElem hjt) l[j] (List.getElem?_eq_getElem hj)
  rw[hthing j hj]
  show VK u7 _ _ (ts.getD (S.next+j-S.next) 0) _ _
  rw[show S.next+j-S.next=j by omega,show ts.getD j 0=ts[j] by rw[List.getD,List.getElem?_eq_getElem hjt];rfl]
  have nD:∀b,Zv sv=some b∨Zv hv=some b→¬(b=D)∧(w.heap.size≤b∧b<u7.heap.size∧b∉ts):=fun b hb=>by have:=g5 b hb;exact⟨by omega,by omega,by omega,this.2.2.2⟩
  exact⟨⟨sv,hv,[],fk.get g1 fun e=>by have:ts[j]=D:=e;omega,⟨g3.fr fk fun b hb=>(nD b (.inl hb)).1,fun b hb=> .inr (nD b (.inl hb)).2⟩,⟨g4.fr fk fun b hb=>(nD b (.inr hb)).1,fun b hb=> .inr (nD b (.inr hb)).2⟩,⟨rfl,.inl ⟨rfl,rfl⟩⟩,rfl,by simp⟩,.inr (List.getElem_mem hjt),by rintro b hb;cases hb⟩
 ·rintro t u ⟨h1,h2⟩ ⟨h3,h4⟩ e
  have e':ts.getD (t-S.next) 0=ts.getD (u-S.next) 0:=e
  rw[List.getD,List.getD,List.getElem?_eq_getElem (by omega),List.getElem?_eq_getElem (by omega)] at e'
  have e2:ts[t-S.next]'(by omega)=ts[u-S.next]'(by omega):=e'
  rcases Nat.lt_trichotomy (t-S.next) (u-S.next) with hlt|heq|hgt
  ·exact absurd e2 (List.pairwise_iff_getElem.1 hm.nd _ _ (by omega) (by omega) hlt)
  ·omega
  ·exact absurd e2.symm (List.pairwise_iff_getElem.1 hm.nd _ _ (by omega) (by omega) hgt)
 ·intro t u _ _ _ b hb
  cases hb
 ·rintro b (hb|hb) (hi'|hi')
  ·exact h.apart b hb hi'
  ·have:=h.lt b (.inl hb);omega
  ·have:=h.lt b (.inr hi')
   have:=(hm.lt b hb).1;omega
  ·exact hi'.2.2 hb
 ·rintro b ((hb|hb)|(hb|hb))
  ·have:=h.lt b (.inl hb);omega
  ·have:=(hm.lt b hb).2.1;omega
  ·have:=h.lt b (.inr hb);omega
  ·exact hb.2.1
 ·rintro b (hb|hb)
  ·exact .inl hb
  ·have:=(hm.lt b hb).1;exact .inr (by omega)
 ·rintro b (hb|hb)
  ·exact .inl hb
  ·exact .inr hb.1
end
open Go.Proofs.XPtr
section
variable {w w0:Y} {D:Nat} {S S':AD} {O I:Nat → Prop} {L L':Uy} {k:KV}
theorem gh {x y:Operand} {a b:Nat} (ha:Blk w a) (hb:Blk w b) (hk:k (.bool (decide (a=b))) w):px P (Zd .eql 142 x y (ptr a) (ptr b)) w k:=by
 refine Vk (by unfold ptr;simp) (by unfold ptr;simp) ?_ hk
 have:=V6 (P:=P) (w:=w) (kt:=142) (et:=156) (a:=a) (b:=b) underlying142 (sizeOf156 _) (by decide) ha hb
 simp only[binOp]
 show ((do let e←Op.equal 142 (Uf a) (Uf b);pure (Value.bool e)):Sem V).run P w=_
 simp[this,Result.andThen]
abbrev Y4:=List (Nat×Nat×V)
def XL (L:Uy) (tl:Y4):List V:=tl.map fun p=>ptr (L.loc p.1)
def X4 (tl:Y4):List V:=tl.map fun p=>ptr p.2.1
theorem QM {ov mv:V} {tl:Y4} {b:Nat} (ho:Src w ov 1 tl.length (XL L tl)) (hm:Src w mv 1 tl.length (X4 tl)) (hl:tl.length≤4611686018427387904) (hb:Blk w b) (hbl:∀p∈tl,Blk w (L.loc p.1))
   (h1:∀p∈tl,L.loc p.1=b→k (ptr p.2.1) w) (h0:(∀p∈tl,L.loc p.1≠b)→k (.pointer none) w):pFn P 87 [ov,mv,ptr b] w k:=by
 refine RX _ _ _ _ _ ?_
 unfold N0
 refine Bg (m:=tl.length) k (fun m ρ w'=>∃i:Nat,i+m=tl.length∧w'=w∧ρ 0=ov∧ρ 1=mv∧ρ 2=ptr b∧ρ 7=i64 i∧∀p∈tl.take i,L.loc p.1≠b) ?_ ⟨0,by omega,rfl,rfl,rfl,rfl,rfl,fun p hp=>by simp at hp⟩
 rintro m ρ w' ⟨i,him,rfl,e0,e1,e2,e7,hall⟩
 rw[CV]
 unfold WI
 rw[e0,e1,e2,e7]
 refine ZF BS ho ?_
 by_cases hi:i<tl.length
 · have hmem := List.getElem_mem hi
   refine ZA (by omega) (Zk ?_)
   refine Qk (u:=ptr (L.loc tl[i].1)) BS (Ks _) (isAgg142 _) ho hi (by simp[XL,hi]) fun _=> ?_
   refine gh (hbl _ hmem) hb ?_
   by_cases e:L.loc tl[i].1=b
   · rw [decide_eq_true e]
     refine Zk (Qk (u:=ptr tl[i].2.1) BS (Ks _) (isAgg142 _) hm hi (by simp[X4,hi]) fun _=>h1 _ hmem e)
   · rw [decide_eq_false e]
     refine Zf (Zp (by omega) ⟨m-1,by omega,i+1,by omega,rfl,e0,e1,e2,?_,fun p hp=> ?_⟩)
     · show i64 _=i64 _;simp
     · rw [List.take_succ_eq_append_getElem hi] at hp
       rcases List.mem_append.1 hp with hp|hp
       · exact hall p hp
       · rw[List.mem_singleton] at hp;subst hp;exact e
 · refine ZB     (by omega) (Zf       ?_)
   rw[CW]
   exact h0 fun p hp=>hall p (by rw[List.take_of_length_le (by omega)];exact hp)
theorem J5 {ov mv:V} {tl:Y4} (ho:Src w ov 1 tl.length (XL L tl)) (hl:tl.length≤4611686018427387904) (hk:k (.pointer none) w):pFn P 87 [ov,mv,.pointer none] w k:=by
 refine RX _ _ _ _ _ ?_
 unfold N0
 refine Bg (m:=tl.length) k (fun m ρ w'=>∃i:Nat,i+m=tl.length∧w'=w∧ρ 0=ov∧ρ 2= .pointer none∧ρ 7=i64 i) ?_ ⟨0,by omega,rfl,rfl,rfl,rfl⟩
 rintro m ρ w' ⟨i,him,rfl,e0,e2,e7⟩
 rw[CV]
 unfold WI
 rw[e0,e2,e7]
 refine ZF BS ho ?_
 by_cases hi:i<tl.length
 ·refine ZA (by omega) (Zk ?_)
  refine Qk (u:=ptr (L.loc tl[i].1)) BS (Ks _) (isAgg142 _) ho hi (by simp[XL,hi]) fun _=> ?_
  unfold ptr
  refine YJ JK (Zf (Zp (by omega) ⟨m-1,by omega,i+1,by omega,rfl,e0,e2,?_⟩))
  show i64 _=i64 _;simp
 ·refine ZB (by omega) (Zf ?_)
  rw[CW]
  exact hk
def Ur (w0 w:Y):Chg×V→Prop
 |(.wr _ d,s)=>V1 w0 w s d
 |(.cut _,s)=>V1 w0 w s []
structure QN (w0 w:Y) (T:Nat) (rb:V) (x:Thg):Prop where
 ex:∃(sv hv:V) (ps:List (Chg×V)),w.heap[T]? =some (.cells #[sv,hv,rb] 156 (0,0))∧V1 w0 w sv x.safe∧V1 w0 w hv x.shown∧w.ownsRow w0.heap.size 186 3 rb x.row.length (ps.flatMap ZK)∧ps.map (·.1)=x.row∧∀p∈ps,Ur w0 w p
 low:w0.heap.size≤T
def BE (w:Y) (M:Nat→Prop):Prop:=∀b,M b→∀c T,w.heap[b]? =some (.cells c T (0,0))→T≠156∧T≠186∧T≠5
theorem BE.byte {M:Nat→Prop} (hM:BE w M) {v:V} {bs:Bytes} {wb:Y} (h:V1 wb w v bs):∀b,Zv v=some b→¬M b:=fun b hb hm=>by
 obtain⟨c,hc⟩:=Z0 h hb
 exact(hM b hm c _ hc).2.2 rfl
theorem V1.fr {w' wb:Y} {v:V} {bs:Bytes} {M:Nat→Prop} (h:V1 wb w v bs) (hf:Fr M w w') (hM:∀b,Zv v=some b→¬M b):V1 wb w' v bs:=Z4 h hf hM
theorem Ur.fr {w' wb:Y} {p:Chg×V} {M:Nat→Prop} (h:Ur wb w p) (hf:Fr M w w') (hM:BE w M):Ur wb w' p:=by
 obtain⟨c,s⟩:=p
 cases c with
 |wr a d=>exact V1.fr (v:=s) h hf (hM.byte (v:=s) h)
 |cut n=>exact V1.fr (v:=s) h hf (hM.byte (v:=s) h)
theorem QN.fr {w':Y} {T:Nat} {rb:V} {x:Thg} {M:Nat→Prop} (h:QN w0 w T rb x) (hf:Fr M w w') (hM:BE w M):QN w0 w' T rb x:=by
 obtain⟨⟨sv,hv,ps,h1,h2,h3,h4,h5,h6⟩,h7⟩:=h
 refine⟨⟨sv,hv,ps,hf.get h1 fun hm=>(hM T hm _ _ h1).1 rfl,h2.fr hf (hM.byte h2),h3.fr hf (hM.byte h3),Z4 h4 hf fun b hb hm=> ?_,h5,fun p hp=>(h6 p hp).fr hf hM⟩,h7⟩
 obtain⟨c,hc⟩:=Z0 h4 hb
 exact(hM b hm c _ hc).2.1 rfl
theorem V1.less {wa wb:Y} {v:V} {bs:Bytes} (h:V1 wb w v bs) (hz:wa.heap.size≤wb.heap.size):V1 wa w v bs:=Xo h hz
end
end Go.Proofs.YtcdcojpfealppaaGreat
