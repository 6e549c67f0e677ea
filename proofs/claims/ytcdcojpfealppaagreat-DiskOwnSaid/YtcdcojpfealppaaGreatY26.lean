/- Put together by a program (wip/tools/shake.py): BookGrow. -/
import Derived.Test.YtcdcojpfealppaaGreatY25
set_option linter.unusedVariables false
set_option linter.unusedSimpArgs false
set_option maxRecDepth 100000
open Go renaming World → Y, Value → V
namespace Go.Proofs.YtcdcojpfealppaaGreat
open Go Go.Proofs Go.RowKit Go.Proofs.XRed Go.Proofs.XHeap Go.Proofs.XMaps Go.Proofs.XSlices Go.Proofs.XDisk Go.Proofs.XCalls Go.Proofs.XSep Tryz
section
variable {w:Y} {k:KV} {Bk N G n:Nat} {v:V} {cs:List V} {r:List Yf}
theorem Vd {es:List Ent} {a:Nat} (ha:a<es.length) (g:V) (m:Nat):Zg (es.set a ⟨es[a].lv,g,es[a].mv,es[a].n,m⟩)=(Zg es).set (a*3+1) g:=by
 apply List.ext_getElem?
 intro i
 have hl:(Zg (es.set a ⟨es[a].lv,g,es[a].mv,es[a].n,m⟩)).length=es.length*3:=by rw[VT,List.length_set]
 rcases Nat.lt_or_ge i (es.length*3) with h|h
 ·have hq:i/3<es.length:=by omega
  have hi:i=i/3*3+i%3:=by omega
  have hm:i%3<3:=Nat.mod_lt _ (by omega)
  have key:∀(l:List Ent) (hq:i/3<l.length),(Zg l)[i]? =([l[i/3].lv,l[i/3].gv,l[i/3].mv]:List V)[i%3]? :=fun l hq=>by
   have:=Vf (f:=fun x:Ent=>[x.lv,x.gv,x.mv]) (n:=3) (fun _=>rfl) (l:=l) (i:=i/3) (j:=i%3) (a:=l[i/3]) (by simp[hq]) hm
   rw[←hi] at this
   exact this
  rw[key _ (by rw[List.length_set];exact hq)]
  by_cases hia:i/3=a
  ·subst hia
   simp only[List.getElem_set_self]
   by_cases h1:i%3=1
   ·rw[h1]
    have:i=i/3*3+1:=by omega
    rw[←this,List.getElem?_set_self (by rw[VT];omega)];rfl
   ·rw[List.getElem?_set_ne (by omega),key es hq]
    have:i%3=0∨i%3=2:=by omega
    rcases this with h|h<;>rw[h]<;>rfl
  ·rw[List.getElem?_set_ne (by omega),key es hq]
   simp only[List.getElem_set_ne (fun e=>hia e.symm)]
 ·rw[List.getElem?_eq_none (by omega),List.getElem?_eq_none (by rw[List.length_set,VT];omega)]
def Y1 (a:Nat):Nat:=if a<64 then 64 else 2
theorem Pm {a j:Nat} {o1 o2 o3 o4 o5 o6:Operand} {w:Y} {kk:V→V→V→V→V→V→V→KV} (ha:a≤1099511627776) (hj:j≤1099511627776) (hk:∀v1 v2 v3 v4 v5 v6 v7,kk v1 v2 v3 v4 v5 v6 v7 (.bool (decide (j<Y1 a))) w):
   px P (Zd .lss 3 o1 o2 (i64 j) (i64 2)) w fun v20 w=>pG v20 false (fun k=>k (i64 a) w) (w:=w) (next:=fun v22 w=>pG v20 false (fun k=>px P (Zd .lss 3 o3 o4 v22 (i64 64)) w k) (w:=w) (next:=fun v23 w=>pG v20 false (fun k=>k v23 w) (w:=w) (next:=fun v24 w=>
     pG v24 true (fun k=>k (i64 j) w) (w:=w) (next:=fun v25 w=>pG v24 true (fun k=>px P (Zd .lss 3 o5 o6 v25 (i64 64)) w k) (w:=w) (next:=fun v26 w=>pG v20 false (fun k=>px P (Zs v24 v26 (.bool false)) w k) (w:=w) (next:=fun v27 w=>px P (Zs v20 (.bool true) v27) w fun v28 w=>kk v20 v22 v23 v24 v25 v26 v27 v28 w)))))):=by
 unfold Y1 at hk
 by_cases h2:j<2
 · refine ZA     (by omega) (Yh     (Yh     (Yh     (YF    (YF    (Yh     (Zx       ?_)))))))
   have:decide (j<if a<64 then 64 else 2)=true:=by rw[decide_eq_true_eq];split<;>omega
   rw[this] at hk
   exact hk _ _ _ _ _ _ _
 · refine ZB     (by omega) (Zl     rfl (Zl     rfl ?_))
   by_cases ha6:a<64
   · refine ZA     (by omega) (Zl     rfl (Zl     rfl (Zl     rfl ?_)))
     rw[if_pos ha6] at hk
     by_cases h6:j<64
     · rw [decide_eq_true h6] at hk
       exact ZA (by omega) (Zl rfl (Zx (Zr (hk _ _ _ _ _ _ _))))
     · rw [decide_eq_false h6] at hk
       exact ZB (by omega) (Zl rfl (Zx (Zr (hk _ _ _ _ _ _ _))))
   · refine ZB     (by omega) (Zl     rfl (V9    (V9    (Zl     rfl (Zr       (Zr       ?_))))))
     rw[if_neg ha6,decide_eq_false h2] at hk
     exact hk _ _ _ _ _ _ _
set_option maxHeartbeats 1000000 in
theorem yh {rv tv fv sv:V} {er et ef es:List Ent} {ρ0:Env} {w1:Y} {N1:KE} {a:Nat} (ha:a<er.length) (hN:er.length≤1099511627) (hok:Up er[a].mv∧er[a].n≤2097152∧er[a].m≤64*4) (hS:Sep (BL Bk rv tv fv sv er et ef es++r) w1) (e0:ρ0 0=ptr Bk) (e2:ρ0 2=i64 a) (e3:ρ0 3=i64 0)
   (hk:∀(ρ:Env) w' gv,Sep (BL Bk rv tv fv sv (er.set a ⟨er[a].lv,gv,er[a].mv,er[a].n,er[a].m+Y1 a⟩) et ef es++r) w'→ρ 0=ptr Bk→ρ 2=i64 a→zZ k N1 ρ w'):zO k N1 ρ0 w1:=by
 obtain⟨hm,hn,hmm⟩:=hok
 obtain⟨y,hy⟩:=hm
 have hlim:Y1 a≤64:=by unfold Y1;split<;>omega
 refine Hz (m:=Y1 a) k N1 (fun m ρ w'=>∃(j:Nat) (gv:V),j+m=Y1 a∧Sep (BL Bk rv tv fv sv (er.set a ⟨er[a].lv,gv,er[a].mv,er[a].n,er[a].m+j⟩) et ef es++r) w'∧ρ 0=ptr Bk∧ρ 2=i64 a∧ρ 3=i64 j) ?_
   ⟨0,er[a].gv,by omega,by rw[show (⟨er[a].lv,er[a].gv,er[a].mv,er[a].n,er[a].m+0⟩:Ent)=er[a] from rfl,List.set_getElem_self];exact hS,e0,e2,e3⟩
 rintro m ρ w' ⟨j,gv,hjm,hS,e0,e2,e3⟩
 rw[OX]
 unfold jT
 rw[e0,e2,e3]
 refine Pm (by omega) (by omega) fun v1 v2 v3 v4 v5 v6 v7=> ?_
 by_cases hj:j<Y1 a
 · rw [decide_eq_true hj]
   refine Zk ?_
   have hSd:=hS.q (Fr.drew _ w')
   generalize w'.drew=w2 at *
   have hEa:a<(er.set a ⟨er[a].lv,gv,er[a].mv,er[a].n,er[a].m+j⟩).length:=by rw[List.length_set];exact ha
   have hE1:(er.set a ⟨er[a].lv,gv,er[a].mv,er[a].n,er[a].m+j⟩)[a]=⟨er[a].lv,gv,er[a].mv,er[a].n,er[a].m+j⟩:=List.getElem_set_self _
   have hE2:∀y:Ent,(er.set a ⟨er[a].lv,gv,er[a].mv,er[a].n,er[a].m+j⟩).set a y=er.set a y:=fun y=>List.set_set ..
   generalize hE:er.set a ⟨er[a].lv,gv,er[a].mv,er[a].n,er[a].m+j⟩=E at *
   generalize hx:er[a]=x at *
   obtain⟨R,cap,cur,ev,-,-,hg,hic,hcu,-⟩:=Xh (hSd.own 1 rfl) (i:=a*3+1) (by omega)
   obtain⟨-,-,-,-,-,-,-,hic2,hcu2,-⟩:=Xh (hSd.own 1 rfl) (i:=a*3+2) (by omega)
   obtain⟨c0,c1,c2⟩:=YS hEa
   rw[hE1] at c0 c1 c2
   have hc1:cur[a*3+1]? =some gv:=hcu.trans c1
   have hc2:cur[a*3+2]? =some (.int .u8 y):=by
     obtain⟨R',cap',cur',ev',-,-,hg',-,hcu',-⟩:=Xh (hSd.own 1 rfl) (i:=a*3+2) (by omega)
     rw[ev] at ev';injection ev' with h1;injection h1 with h1;injection h1 with h1;subst h1
     rw[hg] at hg';injection hg' with h1;injection h1 with h1;subst h1
     rw[hcu',c2];exact congrArg some hy
   refine⟨fun u=>u.heap[Bk]? =some (.cells #[rv,tv,fv,sv] 70 (0,0))∧u.heap[R]? =some (.cells cur 158 (0,0)),⟨hSd.cells 0 rfl,hg⟩,?_⟩
   refine Zi _ (fun w_ hS=>Zn ⟨rfl,rfl⟩) (Zi _ (fun w_ hS=>UD ⟨rfl,rfl⟩) (Zi rv (fun w_ hS=>Zj (isAgg65 _) hS.1 rfl ⟨rfl,rfl⟩) ?_))
   refine Zi _ (fun w_ hS=>Zn ⟨rfl,rfl⟩) (Zi _ (fun w_ hS=>UD ⟨rfl,rfl⟩) (Zi rv (fun w_ hS=>Zj (isAgg65 _) hS.1 rfl ⟨rfl,rfl⟩) ?_))
   refine Zi _ (fun w_ hS=>X3 ev CD (P6 _) hEa ⟨rfl,rfl⟩) (Zi _ (fun w_ hS=>QZ ⟨rfl,rfl⟩) (Zi gv (fun w_ hS=>Zj (isAgg36 _) hS.2 (by simpa using hc1) ⟨rfl,rfl⟩) ?_))
   refine Zi _ (fun w_ hS=>Zn ⟨rfl,rfl⟩) (Zi _ (fun w_ hS=>UD ⟨rfl,rfl⟩) (Zi rv (fun w_ hS=>Zj (isAgg65 _) hS.1 rfl ⟨rfl,rfl⟩) ?_))
   refine Zi _ (fun w_ hS=>X3 ev CD (P6 _) hEa ⟨rfl,rfl⟩) (Zi _ (fun w_ hS=>Ja ⟨rfl,rfl⟩) (Zi (.int .u8 y) (fun w_ hS=>Zj (isAgg5 _) hS.2 (by simpa using hc2) ⟨rfl,rfl⟩) ?_))
   refine Zi (.int .u8 (IntKind.u8.wrap (y+1))) (fun w_ hS=>Jp ⟨rfl,rfl⟩) ?_
   refine Z9 (w':=w2.alloc (.cells #[(.int .u8 (IntKind.u8.wrap (y+1)))] 5)) (v:= .slice (some ⟨w2.heap.size,0,none⟩) 1 1) (by kernel_rfl) ?_
   have f2:=Fr.alloc no w2 (.cells #[(.int .u8 (IntKind.u8.wrap (y+1)))] 5)
   have ho:=ZQ w2 0 5 1 #[(.int .u8 (IntKind.u8.wrap (y+1)))] 1 (Nat.zero_le _) (by unfold maxLen;omega) rfl
   generalize w2.alloc (.cells #[(.int .u8 (IntKind.u8.wrap (y+1)))] 5)=w3 at *
   have hS3:=hSd.q f2
   have hg3:=f2.get hg id
   refine⟨⟨hS3.cells 0 rfl,hg3⟩,?_⟩
   have h1:Sep (Bag (E.map (ZE 5 1 eR gR))::(Cells Bk #[rv,tv,fv,sv] 70::Zz 158 3 rv E.length (Zg E)::Zz 163 3 tv et.length (Zg et)::Bag (et.map (ZE 9 1 eT gT))::Zz 161 3 fv ef.length (Zg ef)::Bag (ef.map (ZE 83 2 eF gF))::Zz 165 3 sv es.length (Zg es)::Bag (es.map (ZE 134 3 eS gS))::r)) w3:=hS3.front 2 rfl
   have hxe:E[a]? =some ⟨x.lv,gv,x.mv,x.n,x.m+j⟩:=by rw[List.getElem?_eq_getElem hEa,hE1]
   have h2:Sep (ZE 5 1 eR gR ⟨x.lv,gv,x.mv,x.n,x.m+j⟩::Bag ((E.map (ZE 5 1 eR gR)).eraseIdx a)::(Cells Bk #[rv,tv,fv,sv] 70::Zz 158 3 rv E.length (Zg E)::Zz 163 3 tv et.length (Zg et)::Bag (et.map (ZE 9 1 eT gT))::Zz 161 3 fv ef.length (Zg ef)::Bag (ef.map (ZE 83 2 eF gF))::Zz 165 3 sv es.length (Zg es)::Bag (es.map (ZE 134 3 eS gS))::r)) w3:=h1.pick (i:=a) (by rw[List.getElem?_map,hxe];rfl)
   have hgm:gR x.mv=(#[(.int .u8 (IntKind.u8.wrap (y+1)))]:Array V).toList:=by rw[hy];rfl
   have hbb:(t5).bytes=1:=by kernel_rfl
   have h2':Sep (Cg 5 1 x.lv gv x.n (x.m+j) (rep x.n (eR x.mv)) (rep (x.m+j) (gR x.mv))::Bag ((E.map (ZE 5 1 eR gR)).eraseIdx a)::(Cells Bk #[rv,tv,fv,sv] 70::Zz 158 3 rv E.length (Zg E)::Zz 163 3 tv et.length (Zg et)::Bag (et.map (ZE 9 1 eT gT))::Zz 161 3 fv ef.length (Zg ef)::Bag (ef.map (ZE 83 2 eF gF))::Zz 165 3 sv es.length (Zg es)::Bag (es.map (ZE 134 3 eS gS))::r)) w3:=h2
   refine Sep.grow (P:=P) (ix:=0) (i:=t5) (z:=((t5).zero).getD undef) (e:=5) (by kernel_rfl) (by kernel_rfl) (by kernel_rfl) (by kernel_rfl) (by kernel_rfl) h2' rfl (Src.Zt ho) (by intro u hu;simp at hu;first|(subst hu;rfl)|(rcases hu with rfl|rfl<;>rfl)|(rcases hu with rfl|rfl|rfl<;>rfl)) (by unfold maxLen;omega) (by rw[hbb];omega) fun gv2 w4 h3 hfr=> ?_
   have hO:=h2'.apart 0 3 (by decide) rfl rfl
   obtain⟨O1,I1,O2,I2,q1,q2,q3,q4⟩:=hO
   have hg4:w4.heap[R]? =some (.cells cur 158 (0,0)):=(hfr O1 I1 q1).get hg3 fun h=>(q4 R ((q2.2.1 R).2 (by rw[ev];rfl))).1 h
   have h4:Sep (ZE 5 1 eR gR ⟨x.lv,gv2,x.mv,x.n,x.m+(j+1)⟩::Bag ((E.map (ZE 5 1 eR gR)).eraseIdx a)::(Cells Bk #[rv,tv,fv,sv] 70::Zz 158 3 rv E.length (Zg E)::Zz 163 3 tv et.length (Zg et)::Bag (et.map (ZE 9 1 eT gT))::Zz 161 3 fv ef.length (Zg ef)::Bag (ef.map (ZE 83 2 eF gF))::Zz 165 3 sv es.length (Zg es)::Bag (es.map (ZE 134 3 eS gS))::r)) w4:=by
     show Sep (Cg 5 1 x.lv gv2 x.n (x.m+j+1) (rep x.n (eR x.mv)) (rep (x.m+j+1) (gR x.mv))::_) w4
     rw[Ua,hgm]
     rw[hgm] at h3
     exact h3
   have hone:gv2.cells= #[gv2]∧gv2.oneCell'=true:=by
     obtain⟨O,I,h,_⟩:=h4.get 0 rfl
     exact ZW h
   obtain⟨x',hx'⟩:∃x':Ent,x'=⟨x.lv,gv2,x.mv,x.n,x.m+(j+1)⟩:=⟨_,rfl⟩
   rw[←hx'] at h4
   have h5:Sep (Bag ((E.map (ZE 5 1 eR gR)).set a (ZE 5 1 eR gR x'))::(Cells Bk #[rv,tv,fv,sv] 70::Zz 158 3 rv E.length (Zg E)::Zz 163 3 tv et.length (Zg et)::Bag (et.map (ZE 9 1 eT gT))::Zz 161 3 fv ef.length (Zg ef)::Bag (ef.map (ZE 83 2 eF gF))::Zz 165 3 sv es.length (Zg es)::Bag (es.map (ZE 134 3 eS gS))::r)) w4:=Sep.D8 (by rw[List.length_map];exact hEa) h4
   rw[←List.map_set] at h5
   have h6:Sep (Cells Bk #[rv,tv,fv,sv] 70::Zz 158 3 rv E.length (Zg E)::Bag ((E.set a x').map (ZE 5 1 eR gR))::Zz 163 3 tv et.length (Zg et)::Bag (et.map (ZE 9 1 eT gT))::Zz 161 3 fv ef.length (Zg ef)::Bag (ef.map (ZE 83 2 eF gF))::Zz 165 3 sv es.length (Zg es)::Bag (es.map (ZE 134 3 eS gS))::r) w4:=h5.E5 2
   obtain⟨R',cap',cur',ev',hg',hic',hset⟩:=h6.AQ 1 rfl (i:=a*3+1) (by omega)
   rw[ev] at ev';injection ev' with hq;injection hq with hq;injection hq with hq;subst hq
   have h7:=hset gv2
   refine⟨⟨h6.cells 0 rfl,hg4⟩,?_⟩
   refine Zi _ (fun w_ hS=>X3 ev CD (P6 _) hEa ⟨rfl,rfl⟩) (Zi _ (fun w_ hS=>QZ ⟨rfl,rfl⟩) ?_)
   have hst:(0+a*3+1:Nat)=a*3+1:=by omega
   rw[hst]
   refine YA (sizeOf36 _) hone.1 hone.2 hg4 hic (Zp (by omega) ?_)
   refine⟨m-1,by omega,j+1,gv2,by omega,?_,e0,e2,?_⟩
   · have hce := Vd           hEa gv2 (x.m + (j + 1))
     rw[hE1] at hce
     simp only at hce
     rw[←hx'] at hce
     rw[←hce] at h7
     have hfin:E.set a x'=er.set a ⟨x.lv,gv2,x.mv,x.n,x.m+(j+1)⟩:=by rw[hE2,hx']
     have hlen:E.length=(E.set a x').length:=by rw[List.length_set]
     rw[←hfin]
     have h8:Sep (BL Bk rv tv fv sv (E.set a x') et ef es++r) (w4.setCell ⟨R,a*3+1,none⟩ gv2):=by
       have h9:=h7
       simp only[List.set_cons_succ,List.set_cons_zero] at h9
       rw[hlen] at h9
       exact h9
     exact h8
   · show i64 _=i64 _;simp
 · rw [decide_eq_false hj]
   refine Zf ?_
   rw[OZ]
   have hjl:j=Y1 a:=by omega
   subst hjl
   exact hk _ w' gv hS e0 e2
theorem jZ {rv tv fv sv:V} {er et ef es:List Ent} {ρ0:Env} {w1:Y} (hS:Sep (BL Bk rv tv fv sv er et ef es++r) w1) (hk0:KOk Up N G er) (hN:N≤1099511627) (hG:G≤4) (e0:ρ0 0=ptr Bk) (e3:ρ0 2=i64 0)
   (hk:∀(ρ:Env) w' E,Sep (BL Bk rv tv fv sv E et ef es++r) w'→KOk Up N (G+1) E→ρ 0=ptr Bk→zY k ρ w'):zN k ρ0 w1:=by
 have hlen:=hk0.1
 refine Hy (m:=er.length) k (fun m ρ w'=>∃(i:Nat) (E:List Ent),i+m=er.length∧E.length=er.length∧(∀q (hq:q<E.length),Up E[q].mv∧E[q].n≤2097152∧E[q].m≤64*(if q<i then G+1 else G))∧Sep (BL Bk rv tv fv sv E et ef es++r) w'∧ρ 0=ptr Bk∧ρ 2=i64 i) ?_
   ⟨0,er,by omega,rfl,fun q hq=>by rw[if_neg (by omega)];exact hk0.2 _ (List.getElem_mem hq),hS,e0,e3⟩
 rintro m ρ w' ⟨i,E,him,hEl,hE,hS,e0,e3⟩
 rw[OW]
 unfold jS
 rw[e0,e3]
 have ho:=hS.own 1 rfl
 refine Zn (UD (Zj (v:=rv) (isAgg65 _) (hS.cells 0 rfl) rfl (ZF CD (Src.Zt ho) ?_)))
 by_cases hi:i<E.length
 · refine ZA     (by omega) (Zk      ?_)
   have hok:=hE i hi
   rw[if_neg (by omega)] at hok
   refine yh (a:=i) hi (by omega) ⟨hok.1,hok.2.1,by omega⟩ hS e0 e3 rfl fun ρ2 w4 gv hS4 a0 a2=> ?_
   unfold zZ
   rw[a2]
   have hlm:Y1 i≤64:=by unfold Y1;split<;>omega
   refine Zp (by omega) ⟨m-1,by omega,i+1,_,by omega,by rw[List.length_set];exact hEl,fun q hq=> ?_,hS4,a0,?_⟩
   · rw [List.length_set] at hq
     by_cases hqi:q=i
     · subst hqi
       rw[List.getElem_set_self,if_pos (by omega)]
       exact⟨hok.1,hok.2.1,by show E[q].m+Y1 q≤_;have:=hok.2.2;omega⟩
     · rw [List.getElem_set_ne (fun e => hqi e.symm)]
       have:=hE q hq
       refine⟨this.1,this.2.1,?_⟩
       have h3:=this.2.2
       by_cases hqlt:q<i
       · rw[if_pos hqlt] at h3;rw[if_pos (by omega)];exact h3
       · rw[if_neg hqlt] at h3;rw[if_neg (by omega)];exact h3
   · show i64 _=i64 _;simp
 · refine ZB     (by omega) (Zf       ?_)
   rw[OY]
   refine hk _ w' E hS ⟨by omega,fun y hy=> ?_⟩ e0
   obtain⟨q,hq,rfl⟩:=List.mem_iff_getElem.1 hy
   have:=hE q hq
   rw[if_pos (by omega)] at this
   exact this
set_option maxHeartbeats 1000000 in
theorem yi {rv tv fv sv:V} {er et ef es:List Ent} {ρ0:Env} {w1:Y} {N1:KE} {a:Nat} (ha:a<et.length) (hN:et.length≤1099511627) (hok:Xi et[a].mv∧et[a].n≤2097152∧et[a].m≤64*4) (hS:Sep (BL Bk rv tv fv sv er et ef es++r) w1) (e0:ρ0 0=ptr Bk) (e2:ρ0 4=i64 a) (e3:ρ0 5=i64 0)
   (hk:∀(ρ:Env) w' gv,Sep (BL Bk rv tv fv sv er (et.set a ⟨et[a].lv,gv,et[a].mv,et[a].n,et[a].m+Y1 a⟩) ef es++r) w'→ρ 0=ptr Bk→ρ 4=i64 a→yb k N1 ρ w'):zQ k N1 ρ0 w1:=by
 obtain⟨hm,hn,hmm⟩:=hok
 obtain⟨y,hy,hys⟩:=hm
 have hlim:Y1 a≤64:=by unfold Y1;split<;>omega
 refine H3 (m:=Y1 a) k N1 (fun m ρ w'=>∃(j:Nat) (gv:V),j+m=Y1 a∧Sep (BL Bk rv tv fv sv er (et.set a ⟨et[a].lv,gv,et[a].mv,et[a].n,et[a].m+j⟩) ef es++r) w'∧ρ 0=ptr Bk∧ρ 4=i64 a∧ρ 5=i64 j) ?_
   ⟨0,et[a].gv,by omega,by rw[show (⟨et[a].lv,et[a].gv,et[a].mv,et[a].n,et[a].m+0⟩:Ent)=et[a] from rfl,List.set_getElem_self];exact hS,e0,e2,e3⟩
 rintro m ρ w' ⟨j,gv,hjm,hS,e0,e2,e3⟩
 rw[Pc]
 unfold jV
 rw[e0,e2,e3]
 refine Pm (by omega) (by omega) fun v1 v2 v3 v4 v5 v6 v7=> ?_
 by_cases hj:j<Y1 a
 · rw [decide_eq_true hj]
   refine Zk ?_
   have hSd:=hS.q (Fr.drew _ w')
   generalize w'.drew=w2 at *
   have hEa:a<(et.set a ⟨et[a].lv,gv,et[a].mv,et[a].n,et[a].m+j⟩).length:=by rw[List.length_set];exact ha
   have hE1:(et.set a ⟨et[a].lv,gv,et[a].mv,et[a].n,et[a].m+j⟩)[a]=⟨et[a].lv,gv,et[a].mv,et[a].n,et[a].m+j⟩:=List.getElem_set_self _
   have hE2:∀y:Ent,(et.set a ⟨et[a].lv,gv,et[a].mv,et[a].n,et[a].m+j⟩).set a y=et.set a y:=fun y=>List.set_set ..
   generalize hE:et.set a ⟨et[a].lv,gv,et[a].mv,et[a].n,et[a].m+j⟩=E at *
   generalize hx:et[a]=x at *
   obtain⟨R,cap,cur,ev,-,-,hg,hic,hcu,-⟩:=Xh (hSd.own 3 rfl) (i:=a*3+1) (by omega)
   obtain⟨-,-,-,-,-,-,-,hic2,hcu2,-⟩:=Xh (hSd.own 3 rfl) (i:=a*3+2) (by omega)
   obtain⟨c0,c1,c2⟩:=YS hEa
   rw[hE1] at c0 c1 c2
   have hc1:cur[a*3+1]? =some gv:=hcu.trans c1
   have hc2:cur[a*3+2]? =some (.string y):=by
     obtain⟨R',cap',cur',ev',-,-,hg',-,hcu',-⟩:=Xh (hSd.own 3 rfl) (i:=a*3+2) (by omega)
     rw[ev] at ev';injection ev' with h1;injection h1 with h1;injection h1 with h1;subst h1
     rw[hg] at hg';injection hg' with h1;injection h1 with h1;subst h1
     rw[hcu',c2];exact congrArg some hy
   refine⟨fun u=>u.heap[Bk]? =some (.cells #[rv,tv,fv,sv] 70 (0,0))∧u.heap[R]? =some (.cells cur 163 (0,0)),⟨hSd.cells 0 rfl,hg⟩,?_⟩
   refine Zi _ (fun w_ hS=>Zn ⟨rfl,rfl⟩) (Zi _ (fun w_ hS=>UE ⟨rfl,rfl⟩) (Zi tv (fun w_ hS=>Zj (isAgg66 _) hS.1 rfl ⟨rfl,rfl⟩) ?_))
   refine Zi _ (fun w_ hS=>Zn ⟨rfl,rfl⟩) (Zi _ (fun w_ hS=>UE ⟨rfl,rfl⟩) (Zi tv (fun w_ hS=>Zj (isAgg66 _) hS.1 rfl ⟨rfl,rfl⟩) ?_))
   refine Zi _ (fun w_ hS=>X3 ev CE (P7 _) hEa ⟨rfl,rfl⟩) (Zi _ (fun w_ hS=>Jd ⟨rfl,rfl⟩) (Zi gv (fun w_ hS=>Zj (isAgg73 _) hS.2 (by simpa using hc1) ⟨rfl,rfl⟩) ?_))
   refine Zi _ (fun w_ hS=>Zn ⟨rfl,rfl⟩) (Zi _ (fun w_ hS=>UE ⟨rfl,rfl⟩) (Zi tv (fun w_ hS=>Zj (isAgg66 _) hS.1 rfl ⟨rfl,rfl⟩) ?_))
   refine Zi _ (fun w_ hS=>X3 ev CE (P7 _) hEa ⟨rfl,rfl⟩) (Zi _ (fun w_ hS=>Je ⟨rfl,rfl⟩) (Zi (.string y) (fun w_ hS=>Zj (isAgg9 _) hS.2 (by simpa using hc2) ⟨rfl,rfl⟩) ?_))
   refine Zi (.string (y++ByteArray.mk #[120])) (fun w_ hS=>Dh (by have:(ByteArray.mk #[120]).size=1:=rfl;omega) ⟨rfl,rfl⟩) ?_
   refine Z9 (w':=w2.alloc (.cells #[(.string (y++ByteArray.mk #[120]))] 9)) (v:= .slice (some ⟨w2.heap.size,0,none⟩) 1 1) (by kernel_rfl) ?_
   have f2:=Fr.alloc no w2 (.cells #[(.string (y++ByteArray.mk #[120]))] 9)
   have ho:=ZQ w2 0 9 1 #[(.string (y++ByteArray.mk #[120]))] 1 (Nat.zero_le _) (by unfold maxLen;omega) rfl
   generalize w2.alloc (.cells #[(.string (y++ByteArray.mk #[120]))] 9)=w3 at *
   have hS3:=hSd.q f2
   have hg3:=f2.get hg id
   refine⟨⟨hS3.cells 0 rfl,hg3⟩,?_⟩
   have h1:Sep (Bag (E.map (ZE 9 1 eT gT))::(Cells Bk #[rv,tv,fv,sv] 70::Zz 158 3 rv er.length (Zg er)::Bag (er.map (ZE 5 1 eR gR))::Zz 163 3 tv E.length (Zg E)::Zz 161 3 fv ef.length (Zg ef)::Bag (ef.map (ZE 83 2 eF gF))::Zz 165 3 sv es.length (Zg es)::Bag (es.map (ZE 134 3 eS gS))::r)) w3:=hS3.front 4 rfl
   have hxe:E[a]? =some ⟨x.lv,gv,x.mv,x.n,x.m+j⟩:=by rw[List.getElem?_eq_getElem hEa,hE1]
   have h2:Sep (ZE 9 1 eT gT ⟨x.lv,gv,x.mv,x.n,x.m+j⟩::Bag ((E.map (ZE 9 1 eT gT)).eraseIdx a)::(Cells Bk #[rv,tv,fv,sv] 70::Zz 158 3 rv er.length (Zg er)::Bag (er.map (ZE 5 1 eR gR))::Zz 163 3 tv E.length (Zg E)::Zz 161 3 fv ef.length (Zg ef)::Bag (ef.map (ZE 83 2 eF gF))::Zz 165 3 sv es.length (Zg es)::Bag (es.map (ZE 134 3 eS gS))::r)) w3:=h1.pick (i:=a) (by rw[List.getElem?_map,hxe];rfl)
   have hgm:gT x.mv=(#[(.string (y++ByteArray.mk #[120]))]:Array V).toList:=by rw[hy];rfl
   have hbb:(t9).bytes=16:=by kernel_rfl
   have h2':Sep (Cg 9 1 x.lv gv x.n (x.m+j) (rep x.n (eT x.mv)) (rep (x.m+j) (gT x.mv))::Bag ((E.map (ZE 9 1 eT gT)).eraseIdx a)::(Cells Bk #[rv,tv,fv,sv] 70::Zz 158 3 rv er.length (Zg er)::Bag (er.map (ZE 5 1 eR gR))::Zz 163 3 tv E.length (Zg E)::Zz 161 3 fv ef.length (Zg ef)::Bag (ef.map (ZE 83 2 eF gF))::Zz 165 3 sv es.length (Zg es)::Bag (es.map (ZE 134 3 eS gS))::r)) w3:=h2
   refine Sep.grow (P:=P) (ix:=0) (i:=t9) (z:=((t9).zero).getD undef) (e:=9) (by kernel_rfl) (by kernel_rfl) (by kernel_rfl) (by kernel_rfl) (by kernel_rfl) h2' rfl (Src.Zt ho) (by intro u hu;simp at hu;first|(subst hu;rfl)|(rcases hu with rfl|rfl<;>rfl)|(rcases hu with rfl|rfl|rfl<;>rfl)) (by unfold maxLen;omega) (by rw[hbb];omega) fun gv2 w4 h3 hfr=> ?_
   have hO:=h2'.apart 0 5 (by decide) rfl rfl
   obtain⟨O1,I1,O2,I2,q1,q2,q3,q4⟩:=hO
   have hg4:w4.heap[R]? =some (.cells cur 163 (0,0)):=(hfr O1 I1 q1).get hg3 fun h=>(q4 R ((q2.2.1 R).2 (by rw[ev];rfl))).1 h
   have h4:Sep (ZE 9 1 eT gT ⟨x.lv,gv2,x.mv,x.n,x.m+(j+1)⟩::Bag ((E.map (ZE 9 1 eT gT)).eraseIdx a)::(Cells Bk #[rv,tv,fv,sv] 70::Zz 158 3 rv er.length (Zg er)::Bag (er.map (ZE 5 1 eR gR))::Zz 163 3 tv E.length (Zg E)::Zz 161 3 fv ef.length (Zg ef)::Bag (ef.map (ZE 83 2 eF gF))::Zz 165 3 sv es.length (Zg es)::Bag (es.map (ZE 134 3 eS gS))::r)) w4:=by
     show Sep (Cg 9 1 x.lv gv2 x.n (x.m+j+1) (rep x.n (eT x.mv)) (rep (x.m+j+1) (gT x.mv))::_) w4
     rw[Ua,hgm]
     rw[hgm] at h3
     exact h3
   have hone:gv2.cells= #[gv2]∧gv2.oneCell'=true:=by
     obtain⟨O,I,h,_⟩:=h4.get 0 rfl
     exact ZW h
   obtain⟨x',hx'⟩:∃x':Ent,x'=⟨x.lv,gv2,x.mv,x.n,x.m+(j+1)⟩:=⟨_,rfl⟩
   rw[←hx'] at h4
   have h5:Sep (Bag ((E.map (ZE 9 1 eT gT)).set a (ZE 9 1 eT gT x'))::(Cells Bk #[rv,tv,fv,sv] 70::Zz 158 3 rv er.length (Zg er)::Bag (er.map (ZE 5 1 eR gR))::Zz 163 3 tv E.length (Zg E)::Zz 161 3 fv ef.length (Zg ef)::Bag (ef.map (ZE 83 2 eF gF))::Zz 165 3 sv es.length (Zg es)::Bag (es.map (ZE 134 3 eS gS))::r)) w4:=Sep.D8 (by rw[List.length_map];exact hEa) h4
   rw[←List.map_set] at h5
   have h6:Sep (Cells Bk #[rv,tv,fv,sv] 70::Zz 158 3 rv er.length (Zg er)::Bag (er.map (ZE 5 1 eR gR))::Zz 163 3 tv E.length (Zg E)::Bag ((E.set a x').map (ZE 9 1 eT gT))::Zz 161 3 fv ef.length (Zg ef)::Bag (ef.map (ZE 83 2 eF gF))::Zz 165 3 sv es.length (Zg es)::Bag (es.map (ZE 134 3 eS gS))::r) w4:=h5.E5 4
   obtain⟨R',cap',cur',ev',hg',hic',hset⟩:=h6.AQ 3 rfl (i:=a*3+1) (by omega)
   rw[ev] at ev';injection ev' with hq;injection hq with hq;injection hq with hq;subst hq
   have h7:=hset gv2
   refine⟨⟨h6.cells 0 rfl,hg4⟩,?_⟩
   refine Zi _ (fun w_ hS=>X3 ev CE (P7 _) hEa ⟨rfl,rfl⟩) (Zi _ (fun w_ hS=>Jd ⟨rfl,rfl⟩) ?_)
   have hst:(0+a*3+1:Nat)=a*3+1:=by omega
   rw[hst]
   refine YA (sizeOf73 _) hone.1 hone.2 hg4 hic (Zp (by omega) ?_)
   refine⟨m-1,by omega,j+1,gv2,by omega,?_,e0,e2,?_⟩
   · have hce := Vd           hEa gv2 (x.m + (j + 1))
     rw[hE1] at hce
     simp only at hce
     rw[←hx'] at hce
     rw[←hce] at h7
     have hfin:E.set a x'=et.set a ⟨x.lv,gv2,x.mv,x.n,x.m+(j+1)⟩:=by rw[hE2,hx']
     have hlen:E.length=(E.set a x').length:=by rw[List.length_set]
     rw[←hfin]
     have h8:Sep (BL Bk rv tv fv sv er (E.set a x') ef es++r) (w4.setCell ⟨R,a*3+1,none⟩ gv2):=by
       have h9:=h7
       simp only[List.set_cons_succ,List.set_cons_zero] at h9
       rw[hlen] at h9
       exact h9
     exact h8
   · show i64 _=i64 _;simp
 · rw [decide_eq_false hj]
   refine Zf ?_
   rw[Pe]
   have hjl:j=Y1 a:=by omega
   subst hjl
   exact hk _ w' gv hS e0 e2
theorem ga {rv tv fv sv:V} {er et ef es:List Ent} {ρ0:Env} {w1:Y} (hS:Sep (BL Bk rv tv fv sv er et ef es++r) w1) (hk0:KOk Xi N G et) (hN:N≤1099511627) (hG:G≤4) (e0:ρ0 0=ptr Bk) (e3:ρ0 4=i64 0)
   (hk:∀(ρ:Env) w' E,Sep (BL Bk rv tv fv sv er E ef es++r) w'→KOk Xi N (G+1) E→ρ 0=ptr Bk→ya k ρ w'):zP k ρ0 w1:=by
 have hlen:=hk0.1
 refine H2 (m:=et.length) k (fun m ρ w'=>∃(i:Nat) (E:List Ent),i+m=et.length∧E.length=et.length∧(∀q (hq:q<E.length),Xi E[q].mv∧E[q].n≤2097152∧E[q].m≤64*(if q<i then G+1 else G))∧Sep (BL Bk rv tv fv sv er E ef es++r) w'∧ρ 0=ptr Bk∧ρ 4=i64 i) ?_
   ⟨0,et,by omega,rfl,fun q hq=>by rw[if_neg (by omega)];exact hk0.2 _ (List.getElem_mem hq),hS,e0,e3⟩
 rintro m ρ w' ⟨i,E,him,hEl,hE,hS,e0,e3⟩
 rw[Pa]
 unfold jU
 rw[e0,e3]
 have ho:=hS.own 3 rfl
 refine Zn (UE (Zj (v:=tv) (isAgg66 _) (hS.cells 0 rfl) rfl (ZF CE (Src.Zt ho) ?_)))
 by_cases hi:i<E.length
 · refine ZA     (by omega) (Zk      ?_)
   have hok:=hE i hi
   rw[if_neg (by omega)] at hok
   refine yi (a:=i) hi (by omega) ⟨hok.1,hok.2.1,by omega⟩ hS e0 e3 rfl fun ρ2 w4 gv hS4 a0 a2=> ?_
   unfold yb
   rw[a2]
   have hlm:Y1 i≤64:=by unfold Y1;split<;>omega
   refine Zp (by omega) ⟨m-1,by omega,i+1,_,by omega,by rw[List.length_set];exact hEl,fun q hq=> ?_,hS4,a0,?_⟩
   · rw [List.length_set] at hq
     by_cases hqi:q=i
     · subst hqi
       rw[List.getElem_set_self,if_pos (by omega)]
       exact⟨hok.1,hok.2.1,by show E[q].m+Y1 q≤_;have:=hok.2.2;omega⟩
     · rw [List.getElem_set_ne (fun e => hqi e.symm)]
       have:=hE q hq
       refine⟨this.1,this.2.1,?_⟩
       have h3:=this.2.2
       by_cases hqlt:q<i
       · rw[if_pos hqlt] at h3;rw[if_pos (by omega)];exact h3
       · rw[if_neg hqlt] at h3;rw[if_neg (by omega)];exact h3
   · show i64 _=i64 _;simp
 · refine ZB     (by omega) (Zf       ?_)
   rw[Pd]
   refine hk _ w' E hS ⟨by omega,fun y hy=> ?_⟩ e0
   obtain⟨q,hq,rfl⟩:=List.mem_iff_getElem.1 hy
   have:=hE q hq
   rw[if_pos (by omega)] at this
   exact this
set_option maxHeartbeats 1000000 in
theorem yj {rv tv fv sv:V} {er et ef es:List Ent} {ρ0:Env} {w1:Y} {N1:KE} {a:Nat} (ha:a<ef.length) (hN:ef.length≤1099511627) (hok:Xi ef[a].mv∧ef[a].n≤2097152∧ef[a].m≤64*4) (hS:Sep (BL Bk rv tv fv sv er et ef es++r) w1) (e0:ρ0 0=ptr Bk) (e2:ρ0 6=i64 a) (e3:ρ0 7=i64 0)
   (hk:∀(ρ:Env) w' gv,Sep (BL Bk rv tv fv sv er et (ef.set a ⟨ef[a].lv,gv,ef[a].mv,ef[a].n,ef[a].m+Y1 a⟩) es++r) w'→ρ 0=ptr Bk→ρ 6=i64 a→HD k N1 ρ w'):zS k N1 ρ0 w1:=by
 obtain⟨hm,hn,hmm⟩:=hok
 obtain⟨y,hy,hys⟩:=hm
 have hlim:Y1 a≤64:=by unfold Y1;split<;>omega
 refine H6 (m:=Y1 a) k N1 (fun m ρ w'=>∃(j:Nat) (gv:V),j+m=Y1 a∧Sep (BL Bk rv tv fv sv er et (ef.set a ⟨ef[a].lv,gv,ef[a].mv,ef[a].n,ef[a].m+j⟩) es++r) w'∧ρ 0=ptr Bk∧ρ 6=i64 a∧ρ 7=i64 j) ?_
   ⟨0,ef[a].gv,by omega,by rw[show (⟨ef[a].lv,ef[a].gv,ef[a].mv,ef[a].n,ef[a].m+0⟩:Ent)=ef[a] from rfl,List.set_getElem_self];exact hS,e0,e2,e3⟩
 rintro m ρ w' ⟨j,gv,hjm,hS,e0,e2,e3⟩
 rw[HA]
 unfold SI
 rw[e0,e2,e3]
 refine Pm (by omega) (by omega) fun v1 v2 v3 v4 v5 v6 v7=> ?_
 by_cases hj:j<Y1 a
 · rw [decide_eq_true hj]
   refine Zk ?_
   have hSd:=hS.q (Fr.drew _ w')
   generalize w'.drew=w2 at *
   have hEa:a<(ef.set a ⟨ef[a].lv,gv,ef[a].mv,ef[a].n,ef[a].m+j⟩).length:=by rw[List.length_set];exact ha
   have hE1:(ef.set a ⟨ef[a].lv,gv,ef[a].mv,ef[a].n,ef[a].m+j⟩)[a]=⟨ef[a].lv,gv,ef[a].mv,ef[a].n,ef[a].m+j⟩:=List.getElem_set_self _
   have hE2:∀y:Ent,(ef.set a ⟨ef[a].lv,gv,ef[a].mv,ef[a].n,ef[a].m+j⟩).set a y=ef.set a y:=fun y=>List.set_set ..
   generalize hE:ef.set a ⟨ef[a].lv,gv,ef[a].mv,ef[a].n,ef[a].m+j⟩=E at *
   generalize hx:ef[a]=x at *
   obtain⟨R,cap,cur,ev,-,-,hg,hic,hcu,-⟩:=Xh (hSd.own 5 rfl) (i:=a*3+1) (by omega)
   obtain⟨-,-,-,-,-,-,-,hic2,hcu2,-⟩:=Xh (hSd.own 5 rfl) (i:=a*3+2) (by omega)
   obtain⟨c0,c1,c2⟩:=YS hEa
   rw[hE1] at c0 c1 c2
   have hc1:cur[a*3+1]? =some gv:=hcu.trans c1
   have hc2:cur[a*3+2]? =some (.string y):=by
     obtain⟨R',cap',cur',ev',-,-,hg',-,hcu',-⟩:=Xh (hSd.own 5 rfl) (i:=a*3+2) (by omega)
     rw[ev] at ev';injection ev' with h1;injection h1 with h1;injection h1 with h1;subst h1
     rw[hg] at hg';injection hg' with h1;injection h1 with h1;subst h1
     rw[hcu',c2];exact congrArg some hy
   refine⟨fun u=>u.heap[Bk]? =some (.cells #[rv,tv,fv,sv] 70 (0,0))∧u.heap[R]? =some (.cells cur 161 (0,0)),⟨hSd.cells 0 rfl,hg⟩,?_⟩
   refine Zi _ (fun w_ hS=>Zn ⟨rfl,rfl⟩) (Zi _ (fun w_ hS=>UF ⟨rfl,rfl⟩) (Zi fv (fun w_ hS=>Zj (isAgg67 _) hS.1 rfl ⟨rfl,rfl⟩) ?_))
   refine Zi _ (fun w_ hS=>Zn ⟨rfl,rfl⟩) (Zi _ (fun w_ hS=>UF ⟨rfl,rfl⟩) (Zi fv (fun w_ hS=>Zj (isAgg67 _) hS.1 rfl ⟨rfl,rfl⟩) ?_))
   refine Zi _ (fun w_ hS=>X3 ev CF (P8 _) hEa ⟨rfl,rfl⟩) (Zi _ (fun w_ hS=>Jb ⟨rfl,rfl⟩) (Zi gv (fun w_ hS=>Zj (isAgg71 _) hS.2 (by simpa using hc1) ⟨rfl,rfl⟩) ?_))
   refine Zi _ (fun w_ hS=>Zn ⟨rfl,rfl⟩) (Zi _ (fun w_ hS=>UF ⟨rfl,rfl⟩) (Zi fv (fun w_ hS=>Zj (isAgg67 _) hS.1 rfl ⟨rfl,rfl⟩) ?_))
   refine Zi _ (fun w_ hS=>X3 ev CF (P8 _) hEa ⟨rfl,rfl⟩) (Zi _ (fun w_ hS=>Jc ⟨rfl,rfl⟩) (Zi (.string y) (fun w_ hS=>Zj (isAgg9 _) hS.2 (by simpa using hc2) ⟨rfl,rfl⟩) ?_))
   refine Zi (.string (y++ByteArray.mk #[120])) (fun w_ hS=>Dh (by have:(ByteArray.mk #[120]).size=1:=rfl;omega) ⟨rfl,rfl⟩) ?_
   refine Zi (.agg #[(.string (y++ByteArray.mk #[120])),.slice none 0 0]) (fun w_ hS=>Z9 (w':=w_) (v:= .agg #[(.string (y++ByteArray.mk #[120])),.slice none 0 0]) (by kernel_rfl) ⟨rfl,rfl⟩) ?_
   refine Z9 (w':=w2.alloc (.cells #[(.string (y++ByteArray.mk #[120])),.slice none 0 0] 83)) (v:= .slice (some ⟨w2.heap.size,0,none⟩) 1 1) (by kernel_rfl) ?_
   have f2:=Fr.alloc no w2 (.cells #[(.string (y++ByteArray.mk #[120])),.slice none 0 0] 83)
   have ho:=ZQ w2 0 83 2 #[(.string (y++ByteArray.mk #[120])),.slice none 0 0] 1 (Nat.zero_le _) (by unfold maxLen;omega) rfl
   generalize w2.alloc (.cells #[(.string (y++ByteArray.mk #[120])),.slice none 0 0] 83)=w3 at *
   have hS3:=hSd.q f2
   have hg3:=f2.get hg id
   refine⟨⟨hS3.cells 0 rfl,hg3⟩,?_⟩
   have h1:Sep (Bag (E.map (ZE 83 2 eF gF))::(Cells Bk #[rv,tv,fv,sv] 70::Zz 158 3 rv er.length (Zg er)::Bag (er.map (ZE 5 1 eR gR))::Zz 163 3 tv et.length (Zg et)::Bag (et.map (ZE 9 1 eT gT))::Zz 161 3 fv E.length (Zg E)::Zz 165 3 sv es.length (Zg es)::Bag (es.map (ZE 134 3 eS gS))::r)) w3:=hS3.front 6 rfl
   have hxe:E[a]? =some ⟨x.lv,gv,x.mv,x.n,x.m+j⟩:=by rw[List.getElem?_eq_getElem hEa,hE1]
   have h2:Sep (ZE 83 2 eF gF ⟨x.lv,gv,x.mv,x.n,x.m+j⟩::Bag ((E.map (ZE 83 2 eF gF)).eraseIdx a)::(Cells Bk #[rv,tv,fv,sv] 70::Zz 158 3 rv er.length (Zg er)::Bag (er.map (ZE 5 1 eR gR))::Zz 163 3 tv et.length (Zg et)::Bag (et.map (ZE 9 1 eT gT))::Zz 161 3 fv E.length (Zg E)::Zz 165 3 sv es.length (Zg es)::Bag (es.map (ZE 134 3 eS gS))::r)) w3:=h1.pick (i:=a) (by rw[List.getElem?_map,hxe];rfl)
   have hgm:gF x.mv=(#[(.string (y++ByteArray.mk #[120])),.slice none 0 0]:Array V).toList:=by rw[hy];rfl
   have hbb:(t83).bytes=40:=by kernel_rfl
   have h2':Sep (Cg 83 2 x.lv gv x.n (x.m+j) (rep x.n (eF x.mv)) (rep (x.m+j) (gF x.mv))::Bag ((E.map (ZE 83 2 eF gF)).eraseIdx a)::(Cells Bk #[rv,tv,fv,sv] 70::Zz 158 3 rv er.length (Zg er)::Bag (er.map (ZE 5 1 eR gR))::Zz 163 3 tv et.length (Zg et)::Bag (et.map (ZE 9 1 eT gT))::Zz 161 3 fv E.length (Zg E)::Zz 165 3 sv es.length (Zg es)::Bag (es.map (ZE 134 3 eS gS))::r)) w3:=h2
   refine Sep.grow (P:=P) (ix:=0) (i:=t83) (z:=((t83).zero).getD undef) (e:=83) (by kernel_rfl) (by kernel_rfl) (by kernel_rfl) (by kernel_rfl) (by kernel_rfl) h2' rfl (Src.Zt ho) (by intro u hu;simp at hu;first|(subst hu;rfl)|(rcases hu with rfl|rfl<;>rfl)|(rcases hu with rfl|rfl|rfl<;>rfl)) (by unfold maxLen;omega) (by rw[hbb];omega) fun gv2 w4 h3 hfr=> ?_
   have hO:=h2'.apart 0 7 (by decide) rfl rfl
   obtain⟨O1,I1,O2,I2,q1,q2,q3,q4⟩:=hO
   have hg4:w4.heap[R]? =some (.cells cur 161 (0,0)):=(hfr O1 I1 q1).get hg3 fun h=>(q4 R ((q2.2.1 R).2 (by rw[ev];rfl))).1 h
   have h4:Sep (ZE 83 2 eF gF ⟨x.lv,gv2,x.mv,x.n,x.m+(j+1)⟩::Bag ((E.map (ZE 83 2 eF gF)).eraseIdx a)::(Cells Bk #[rv,tv,fv,sv] 70::Zz 158 3 rv er.length (Zg er)::Bag (er.map (ZE 5 1 eR gR))::Zz 163 3 tv et.length (Zg et)::Bag (et.map (ZE 9 1 eT gT))::Zz 161 3 fv E.length (Zg E)::Zz 165 3 sv es.length (Zg es)::Bag (es.map (ZE 134 3 eS gS))::r)) w4:=by
     show Sep (Cg 83 2 x.lv gv2 x.n (x.m+j+1) (rep x.n (eF x.mv)) (rep (x.m+j+1) (gF x.mv))::_) w4
     rw[Ua,hgm]
     rw[hgm] at h3
     exact h3
   have hone:gv2.cells= #[gv2]∧gv2.oneCell'=true:=by
     obtain⟨O,I,h,_⟩:=h4.get 0 rfl
     exact ZW h
   obtain⟨x',hx'⟩:∃x':Ent,x'=⟨x.lv,gv2,x.mv,x.n,x.m+(j+1)⟩:=⟨_,rfl⟩
   rw[←hx'] at h4
   have h5:Sep (Bag ((E.map (ZE 83 2 eF gF)).set a (ZE 83 2 eF gF x'))::(Cells Bk #[rv,tv,fv,sv] 70::Zz 158 3 rv er.length (Zg er)::Bag (er.map (ZE 5 1 eR gR))::Zz 163 3 tv et.length (Zg et)::Bag (et.map (ZE 9 1 eT gT))::Zz 161 3 fv E.length (Zg E)::Zz 165 3 sv es.length (Zg es)::Bag (es.map (ZE 134 3 eS gS))::r)) w4:=Sep.D8 (by rw[List.length_map];exact hEa) h4
   rw[←List.map_set] at h5
   have h6:Sep (Cells Bk #[rv,tv,fv,sv] 70::Zz 158 3 rv er.length (Zg er)::Bag (er.map (ZE 5 1 eR gR))::Zz 163 3 tv et.length (Zg et)::Bag (et.map (ZE 9 1 eT gT))::Zz 161 3 fv E.length (Zg E)::Bag ((E.set a x').map (ZE 83 2 eF gF))::Zz 165 3 sv es.length (Zg es)::Bag (es.map (ZE 134 3 eS gS))::r) w4:=h5.E5 6
   obtain⟨R',cap',cur',ev',hg',hic',hset⟩:=h6.AQ 5 rfl (i:=a*3+1) (by omega)
   rw[ev] at ev';injection ev' with hq;injection hq with hq;injection hq with hq;subst hq
   have h7:=hset gv2
   refine⟨⟨h6.cells 0 rfl,hg4⟩,?_⟩
   refine Zi _ (fun w_ hS=>X3 ev CF (P8 _) hEa ⟨rfl,rfl⟩) (Zi _ (fun w_ hS=>Jb ⟨rfl,rfl⟩) ?_)
   have hst:(0+a*3+1:Nat)=a*3+1:=by omega
   rw[hst]
   refine YA (sizeOf71 _) hone.1 hone.2 hg4 hic (Zp (by omega) ?_)
   refine⟨m-1,by omega,j+1,gv2,by omega,?_,e0,e2,?_⟩
   · have hce := Vd           hEa gv2 (x.m + (j + 1))
     rw[hE1] at hce
     simp only at hce
     rw[←hx'] at hce
     rw[←hce] at h7
     have hfin:E.set a x'=ef.set a ⟨x.lv,gv2,x.mv,x.n,x.m+(j+1)⟩:=by rw[hE2,hx']
     have hlen:E.length=(E.set a x').length:=by rw[List.length_set]
     rw[←hfin]
     have h8:Sep (BL Bk rv tv fv sv er et (E.set a x') es++r) (w4.setCell ⟨R,a*3+1,none⟩ gv2):=by
       have h9:=h7
       simp only[List.set_cons_succ,List.set_cons_zero] at h9
       rw[hlen] at h9
       exact h9
     exact h8
   · show i64 _=i64 _;simp
 · rw [decide_eq_false hj]
   refine Zf ?_
   rw[HE]
   have hjl:j=Y1 a:=by omega
   subst hjl
   exact hk _ w' gv hS e0 e2
theorem gf {rv tv fv sv:V} {er et ef es:List Ent} {ρ0:Env} {w1:Y} (hS:Sep (BL Bk rv tv fv sv er et ef es++r) w1) (hk0:KOk Xi N G ef) (hN:N≤1099511627) (hG:G≤4) (e0:ρ0 0=ptr Bk) (e3:ρ0 6=i64 0)
   (hk:∀(ρ:Env) w' E,Sep (BL Bk rv tv fv sv er et E es++r) w'→KOk Xi N (G+1) E→ρ 0=ptr Bk→HB k ρ w'):zR k ρ0 w1:=by
 have hlen:=hk0.1
 refine H5 (m:=ef.length) k (fun m ρ w'=>∃(i:Nat) (E:List Ent),i+m=ef.length∧E.length=ef.length∧(∀q (hq:q<E.length),Xi E[q].mv∧E[q].n≤2097152∧E[q].m≤64*(if q<i then G+1 else G))∧Sep (BL Bk rv tv fv sv er et E es++r) w'∧ρ 0=ptr Bk∧ρ 6=i64 i) ?_
   ⟨0,ef,by omega,rfl,fun q hq=>by rw[if_neg (by omega)];exact hk0.2 _ (List.getElem_mem hq),hS,e0,e3⟩
 rintro m ρ w' ⟨i,E,him,hEl,hE,hS,e0,e3⟩
 rw[Pf]
 unfold jW
 rw[e0,e3]
 have ho:=hS.own 5 rfl
 refine Zn (UF (Zj (v:=fv) (isAgg67 _) (hS.cells 0 rfl) rfl (ZF CF (Src.Zt ho) ?_)))
 by_cases hi:i<E.length
 · refine ZA     (by omega) (Zk      ?_)
   have hok:=hE i hi
   rw[if_neg (by omega)] at hok
   refine yj (a:=i) hi (by omega) ⟨hok.1,hok.2.1,by omega⟩ hS e0 e3 rfl fun ρ2 w4 gv hS4 a0 a2=> ?_
   unfold HD
   rw[a2]
   have hlm:Y1 i≤64:=by unfold Y1;split<;>omega
   refine Zp (by omega) ⟨m-1,by omega,i+1,_,by omega,by rw[List.length_set];exact hEl,fun q hq=> ?_,hS4,a0,?_⟩
   · rw [List.length_set] at hq
     by_cases hqi:q=i
     · subst hqi
       rw[List.getElem_set_self,if_pos (by omega)]
       exact⟨hok.1,hok.2.1,by show E[q].m+Y1 q≤_;have:=hok.2.2;omega⟩
     · rw [List.getElem_set_ne (fun e => hqi e.symm)]
       have:=hE q hq
       refine⟨this.1,this.2.1,?_⟩
       have h3:=this.2.2
       by_cases hqlt:q<i
       · rw[if_pos hqlt] at h3;rw[if_pos (by omega)];exact h3
       · rw[if_neg hqlt] at h3;rw[if_neg (by omega)];exact h3
   · show i64 _=i64 _;simp
 · refine ZB     (by omega) (Zf       ?_)
   rw[HC]
   refine hk _ w' E hS ⟨by omega,fun y hy=> ?_⟩ e0
   obtain⟨q,hq,rfl⟩:=List.mem_iff_getElem.1 hy
   have:=hE q hq
   rw[if_pos (by omega)] at this
   exact this
set_option maxHeartbeats 1000000 in
theorem yk {rv tv fv sv:V} {er et ef es:List Ent} {ρ0:Env} {w1:Y} {N1:KE} {a:Nat} (ha:a<es.length) (hN:es.length≤1099511627) (hok:Uq es[a].mv∧es[a].n≤2097152∧es[a].m≤64*4) (hS:Sep (BL Bk rv tv fv sv er et ef es++r) w1) (e0:ρ0 0=ptr Bk) (e2:ρ0 8=i64 a) (e3:ρ0 9=i64 0)
   (hk:∀(ρ:Env) w' gv,Sep (BL Bk rv tv fv sv er et ef (es.set a ⟨es[a].lv,gv,es[a].mv,es[a].n,es[a].m+Y1 a⟩)++r) w'→ρ 0=ptr Bk→ρ 8=i64 a→HH k N1 ρ w'):zV k N1 ρ0 w1:=by
 obtain⟨hm,hn,hmm⟩:=hok
 obtain⟨y,hy⟩:=hm
 have hlim:Y1 a≤64:=by unfold Y1;split<;>omega
 refine H9 (m:=Y1 a) k N1 (fun m ρ w'=>∃(j:Nat) (gv:V),j+m=Y1 a∧Sep (BL Bk rv tv fv sv er et ef (es.set a ⟨es[a].lv,gv,es[a].mv,es[a].n,es[a].m+j⟩)++r) w'∧ρ 0=ptr Bk∧ρ 8=i64 a∧ρ 9=i64 j) ?_
   ⟨0,es[a].gv,by omega,by rw[show (⟨es[a].lv,es[a].gv,es[a].mv,es[a].n,es[a].m+0⟩:Ent)=es[a] from rfl,List.set_getElem_self];exact hS,e0,e2,e3⟩
 rintro m ρ w' ⟨j,gv,hjm,hS,e0,e2,e3⟩
 rw[HG]
 unfold SK
 rw[e0,e2,e3]
 refine Pm (by omega) (by omega) fun v1 v2 v3 v4 v5 v6 v7=> ?_
 by_cases hj:j<Y1 a
 · rw [decide_eq_true hj]
   refine Zk ?_
   have hSd:=hS.q (Fr.drew _ w')
   generalize w'.drew=w2 at *
   have hEa:a<(es.set a ⟨es[a].lv,gv,es[a].mv,es[a].n,es[a].m+j⟩).length:=by rw[List.length_set];exact ha
   have hE1:(es.set a ⟨es[a].lv,gv,es[a].mv,es[a].n,es[a].m+j⟩)[a]=⟨es[a].lv,gv,es[a].mv,es[a].n,es[a].m+j⟩:=List.getElem_set_self _
   have hE2:∀y:Ent,(es.set a ⟨es[a].lv,gv,es[a].mv,es[a].n,es[a].m+j⟩).set a y=es.set a y:=fun y=>List.set_set ..
   generalize hE:es.set a ⟨es[a].lv,gv,es[a].mv,es[a].n,es[a].m+j⟩=E at *
   generalize hx:es[a]=x at *
   obtain⟨R,cap,cur,ev,-,-,hg,hic,hcu,-⟩:=Xh (hSd.own 7 rfl) (i:=a*3+1) (by omega)
   obtain⟨-,-,-,-,-,-,-,hic2,hcu2,-⟩:=Xh (hSd.own 7 rfl) (i:=a*3+2) (by omega)
   obtain⟨c0,c1,c2⟩:=YS hEa
   rw[hE1] at c0 c1 c2
   have hc1:cur[a*3+1]? =some gv:=hcu.trans c1
   have hc2:cur[a*3+2]? =some (.int .i64 y):=by
     obtain⟨R',cap',cur',ev',-,-,hg',-,hcu',-⟩:=Xh (hSd.own 7 rfl) (i:=a*3+2) (by omega)
     rw[ev] at ev';injection ev' with h1;injection h1 with h1;injection h1 with h1;subst h1
     rw[hg] at hg';injection hg' with h1;injection h1 with h1;subst h1
     rw[hcu',c2];exact congrArg some hy
   refine⟨fun u=>u.heap[Bk]? =some (.cells #[rv,tv,fv,sv] 70 (0,0))∧u.heap[R]? =some (.cells cur 165 (0,0)),⟨hSd.cells 0 rfl,hg⟩,?_⟩
   refine Zi _ (fun w_ hS=>Zn ⟨rfl,rfl⟩) (Zi _ (fun w_ hS=>UG ⟨rfl,rfl⟩) (Zi sv (fun w_ hS=>Zj (isAgg68 _) hS.1 rfl ⟨rfl,rfl⟩) ?_))
   refine Zi _ (fun w_ hS=>Zn ⟨rfl,rfl⟩) (Zi _ (fun w_ hS=>UG ⟨rfl,rfl⟩) (Zi sv (fun w_ hS=>Zj (isAgg68 _) hS.1 rfl ⟨rfl,rfl⟩) ?_))
   refine Zi _ (fun w_ hS=>X3 ev CG (P9 _) hEa ⟨rfl,rfl⟩) (Zi _ (fun w_ hS=>Jf ⟨rfl,rfl⟩) (Zi gv (fun w_ hS=>Zj (isAgg56 _) hS.2 (by simpa using hc1) ⟨rfl,rfl⟩) ?_))
   refine Zi _ (fun w_ hS=>Zn ⟨rfl,rfl⟩) (Zi _ (fun w_ hS=>UG ⟨rfl,rfl⟩) (Zi sv (fun w_ hS=>Zj (isAgg68 _) hS.1 rfl ⟨rfl,rfl⟩) ?_))
   refine Zi _ (fun w_ hS=>X3 ev CG (P9 _) hEa ⟨rfl,rfl⟩) (Zi _ (fun w_ hS=>Jg ⟨rfl,rfl⟩) (Zi (.int .i64 y) (fun w_ hS=>Zj (isAgg3 _) hS.2 (by simpa using hc2) ⟨rfl,rfl⟩) ?_))
   refine Zi (.int .i64 (IntKind.i64.wrap (y+1))) (fun w_ hS=>Jp ⟨rfl,rfl⟩) ?_
   refine Zi (.agg #[.string noB,(.int .i64 (IntKind.i64.wrap (y+1))),i64 0]) (fun w_ hS=>Z9 (w':=w_) (v:= .agg #[.string noB,(.int .i64 (IntKind.i64.wrap (y+1))),i64 0]) (by kernel_rfl) ⟨rfl,rfl⟩) ?_
   refine Z9 (w':=w2.alloc (.cells #[.string noB,(.int .i64 (IntKind.i64.wrap (y+1))),i64 0] 134)) (v:= .slice (some ⟨w2.heap.size,0,none⟩) 1 1) (by kernel_rfl) ?_
   have f2:=Fr.alloc no w2 (.cells #[.string noB,(.int .i64 (IntKind.i64.wrap (y+1))),i64 0] 134)
   have ho:=ZQ w2 0 134 3 #[.string noB,(.int .i64 (IntKind.i64.wrap (y+1))),i64 0] 1 (Nat.zero_le _) (by unfold maxLen;omega) rfl
   generalize w2.alloc (.cells #[.string noB,(.int .i64 (IntKind.i64.wrap (y+1))),i64 0] 134)=w3 at *
   have hS3:=hSd.q f2
   have hg3:=f2.get hg id
   refine⟨⟨hS3.cells 0 rfl,hg3⟩,?_⟩
   have h1:Sep (Bag (E.map (ZE 134 3 eS gS))::(Cells Bk #[rv,tv,fv,sv] 70::Zz 158 3 rv er.length (Zg er)::Bag (er.map (ZE 5 1 eR gR))::Zz 163 3 tv et.length (Zg et)::Bag (et.map (ZE 9 1 eT gT))::Zz 161 3 fv ef.length (Zg ef)::Bag (ef.map (ZE 83 2 eF gF))::Zz 165 3 sv E.length (Zg E)::r)) w3:=hS3.front 8 rfl
   have hxe:E[a]? =some ⟨x.lv,gv,x.mv,x.n,x.m+j⟩:=by rw[List.getElem?_eq_getElem hEa,hE1]
   have h2:Sep (ZE 134 3 eS gS ⟨x.lv,gv,x.mv,x.n,x.m+j⟩::Bag ((E.map (ZE 134 3 eS gS)).eraseIdx a)::(Cells Bk #[rv,tv,fv,sv] 70::Zz 158 3 rv er.length (Zg er)::Bag (er.map (ZE 5 1 eR gR))::Zz 163 3 tv et.length (Zg et)::Bag (et.map (ZE 9 1 eT gT))::Zz 161 3 fv ef.length (Zg ef)::Bag (ef.map (ZE 83 2 eF gF))::Zz 165 3 sv E.length (Zg E)::r)) w3:=h1.pick (i:=a) (by rw[List.getElem?_map,hxe];rfl)
   have hgm:gS x.mv=(#[.string noB,(.int .i64 (IntKind.i64.wrap (y+1))),i64 0]:Array V).toList:=by rw[hy];rfl
   have hbb:(t134).bytes=32:=by kernel_rfl
   have h2':Sep (Cg 134 3 x.lv gv x.n (x.m+j) (rep x.n (eS x.mv)) (rep (x.m+j) (gS x.mv))::Bag ((E.map (ZE 134 3 eS gS)).eraseIdx a)::(Cells Bk #[rv,tv,fv,sv] 70::Zz 158 3 rv er.length (Zg er)::Bag (er.map (ZE 5 1 eR gR))::Zz 163 3 tv et.length (Zg et)::Bag (et.map (ZE 9 1 eT gT))::Zz 161 3 fv ef.length (Zg ef)::Bag (ef.map (ZE 83 2 eF gF))::Zz 165 3 sv E.length (Zg E)::r)) w3:=h2
   refine Sep.grow (P:=P) (ix:=0) (i:=t134) (z:=((t134).zero).getD undef) (e:=134) (by kernel_rfl) (by kernel_rfl) (by kernel_rfl) (by kernel_rfl) (by kernel_rfl) h2' rfl (Src.Zt ho) (by intro u hu;simp at hu;first|(subst hu;rfl)|(rcases hu with rfl|rfl<;>rfl)|(rcases hu with rfl|rfl|rfl<;>rfl)) (by unfold maxLen;omega) (by rw[hbb];omega) fun gv2 w4 h3 hfr=> ?_
   have hO:=h2'.apart 0 9 (by decide) rfl rfl
   obtain⟨O1,I1,O2,I2,q1,q2,q3,q4⟩:=hO
   have hg4:w4.heap[R]? =some (.cells cur 165 (0,0)):=(hfr O1 I1 q1).get hg3 fun h=>(q4 R ((q2.2.1 R).2 (by rw[ev];rfl))).1 h
   have h4:Sep (ZE 134 3 eS gS ⟨x.lv,gv2,x.mv,x.n,x.m+(j+1)⟩::Bag ((E.map (ZE 134 3 eS gS)).eraseIdx a)::(Cells Bk #[rv,tv,fv,sv] 70::Zz 158 3 rv er.length (Zg er)::Bag (er.map (ZE 5 1 eR gR))::Zz 163 3 tv et.length (Zg et)::Bag (et.map (ZE 9 1 eT gT))::Zz 161 3 fv ef.length (Zg ef)::Bag (ef.map (ZE 83 2 eF gF))::Zz 165 3 sv E.length (Zg E)::r)) w4:=by
     show Sep (Cg 134 3 x.lv gv2 x.n (x.m+j+1) (rep x.n (eS x.mv)) (rep (x.m+j+1) (gS x.mv))::_) w4
     rw[Ua,hgm]
     rw[hgm] at h3
     exact h3
   have hone:gv2.cells= #[gv2]∧gv2.oneCell'=true:=by
     obtain⟨O,I,h,_⟩:=h4.get 0 rfl
     exact ZW h
   obtain⟨x',hx'⟩:∃x':Ent,x'=⟨x.lv,gv2,x.mv,x.n,x.m+(j+1)⟩:=⟨_,rfl⟩
   rw[←hx'] at h4
   have h5:Sep (Bag ((E.map (ZE 134 3 eS gS)).set a (ZE 134 3 eS gS x'))::(Cells Bk #[rv,tv,fv,sv] 70::Zz 158 3 rv er.length (Zg er)::Bag (er.map (ZE 5 1 eR gR))::Zz 163 3 tv et.length (Zg et)::Bag (et.map (ZE 9 1 eT gT))::Zz 161 3 fv ef.length (Zg ef)::Bag (ef.map (ZE 83 2 eF gF))::Zz 165 3 sv E.length (Zg E)::r)) w4:=Sep.D8 (by rw[List.length_map];exact hEa) h4
   rw[←List.map_set] at h5
   have h6:Sep (Cells Bk #[rv,tv,fv,sv] 70::Zz 158 3 rv er.length (Zg er)::Bag (er.map (ZE 5 1 eR gR))::Zz 163 3 tv et.length (Zg et)::Bag (et.map (ZE 9 1 eT gT))::Zz 161 3 fv ef.length (Zg ef)::Bag (ef.map (ZE 83 2 eF gF))::Zz 165 3 sv E.length (Zg E)::Bag ((E.set a x').map (ZE 134 3 eS gS))::r) w4:=h5.E5 8
   obtain⟨R',cap',cur',ev',hg',hic',hset⟩:=h6.AQ 7 rfl (i:=a*3+1) (by omega)
   rw[ev] at ev';injection ev' with hq;injection hq with hq;injection hq with hq;subst hq
   have h7:=hset gv2
   refine⟨⟨h6.cells 0 rfl,hg4⟩,?_⟩
   refine Zi _ (fun w_ hS=>X3 ev CG (P9 _) hEa ⟨rfl,rfl⟩) (Zi _ (fun w_ hS=>Jf ⟨rfl,rfl⟩) ?_)
   have hst:(0+a*3+1:Nat)=a*3+1:=by omega
   rw[hst]
   refine YA (sizeOf56 _) hone.1 hone.2 hg4 hic (Zp (by omega) ?_)
   refine⟨m-1,by omega,j+1,gv2,by omega,?_,e0,e2,?_⟩
   · have hce := Vd           hEa gv2 (x.m + (j + 1))
     rw[hE1] at hce
     simp only at hce
     rw[←hx'] at hce
     rw[←hce] at h7
     have hfin:E.set a x'=es.set a ⟨x.lv,gv2,x.mv,x.n,x.m+(j+1)⟩:=by rw[hE2,hx']
     have hlen:E.length=(E.set a x').length:=by rw[List.length_set]
     rw[←hfin]
     have h8:Sep (BL Bk rv tv fv sv er et ef (E.set a x')++r) (w4.setCell ⟨R,a*3+1,none⟩ gv2):=by
       have h9:=h7
       simp only[List.set_cons_succ,List.set_cons_zero] at h9
       rw[hlen] at h9
       exact h9
     exact h8
   · show i64 _=i64 _;simp
 · rw [decide_eq_false hj]
   refine Zf ?_
   rw[HI]
   have hjl:j=Y1 a:=by omega
   subst hjl
   exact hk _ w' gv hS e0 e2
theorem gg {rv tv fv sv:V} {er et ef es:List Ent} {ρ0:Env} {w1:Y} (hS:Sep (BL Bk rv tv fv sv er et ef es++r) w1) (hk0:KOk Uq N G es) (hN:N≤1099511627) (hG:G≤4) (e0:ρ0 0=ptr Bk) (e3:ρ0 8=i64 0)
   (hk:∀(ρ:Env) w' E,Sep (BL Bk rv tv fv sv er et ef E++r) w'→KOk Uq N (G+1) E→ρ 0=ptr Bk→k (.tuple #[]) w'):zU k ρ0 w1:=by
 have hlen:=hk0.1
 refine H8 (m:=es.length) k (fun m ρ w'=>∃(i:Nat) (E:List Ent),i+m=es.length∧E.length=es.length∧(∀q (hq:q<E.length),Uq E[q].mv∧E[q].n≤2097152∧E[q].m≤64*(if q<i then G+1 else G))∧Sep (BL Bk rv tv fv sv er et ef E++r) w'∧ρ 0=ptr Bk∧ρ 8=i64 i) ?_
   ⟨0,es,by omega,rfl,fun q hq=>by rw[if_neg (by omega)];exact hk0.2 _ (List.getElem_mem hq),hS,e0,e3⟩
 rintro m ρ w' ⟨i,E,him,hEl,hE,hS,e0,e3⟩
 rw[HF]
 unfold SJ
 rw[e0,e3]
 have ho:=hS.own 7 rfl
 refine Zn (UG (Zj (v:=sv) (isAgg68 _) (hS.cells 0 rfl) rfl (ZF CG (Src.Zt ho) ?_)))
 by_cases hi:i<E.length
 · refine ZA     (by omega) (Zk      ?_)
   have hok:=hE i hi
   rw[if_neg (by omega)] at hok
   refine yk (a:=i) hi (by omega) ⟨hok.1,hok.2.1,by omega⟩ hS e0 e3 rfl fun ρ2 w4 gv hS4 a0 a2=> ?_
   unfold HH
   rw[a2]
   have hlm:Y1 i≤64:=by unfold Y1;split<;>omega
   refine Zp (by omega) ⟨m-1,by omega,i+1,_,by omega,by rw[List.length_set];exact hEl,fun q hq=> ?_,hS4,a0,?_⟩
   · rw [List.length_set] at hq
     by_cases hqi:q=i
     · subst hqi
       rw[List.getElem_set_self,if_pos (by omega)]
       exact⟨hok.1,hok.2.1,by show E[q].m+Y1 q≤_;have:=hok.2.2;omega⟩
     · rw [List.getElem_set_ne (fun e => hqi e.symm)]
       have:=hE q hq
       refine⟨this.1,this.2.1,?_⟩
       have h3:=this.2.2
       by_cases hqlt:q<i
       · rw[if_pos hqlt] at h3;rw[if_pos (by omega)];exact h3
       · rw[if_neg hqlt] at h3;rw[if_neg (by omega)];exact h3
   · show i64 _=i64 _;simp
 · refine ZB     (by omega) (Zf       ?_)
   refine hk ρ w' E hS ⟨by omega,fun y hy=> ?_⟩ e0
   obtain⟨q,hq,rfl⟩:=List.mem_iff_getElem.1 hy
   have:=hE q hq
   rw[if_pos (by omega)] at this
   exact this
theorem SN (hS:Sep (Yj Bk N G::r) w) (hN:N≤1099511627) (hG:G≤4) (hk:∀w',Sep (Yj Bk N (G+1)::r) w'→k (.tuple #[]) w'):pFn P 47 [ptr Bk] w k:=by
 obtain⟨rv,tv,fv,sv,er,et,ef,es,hS,k1,k2,k3,k4⟩:=VA hS
 refine jX _ _ _ ?_
 unfold zW
 refine jZ hS k1 hN hG rfl rfl fun ρ w1 E1 h1 k1 e0=> ?_
 unfold zY
 refine ga h1 k2 hN hG e0 rfl fun ρ w2 E2 h2 k2 e0=> ?_
 unfold ya
 refine gf h2 k3 hN hG e0 rfl fun ρ w3 E3 h3 k3 e0=> ?_
 unfold HB
 refine gg h3 k4 hN hG e0 rfl fun ρ w4 E4 h4 k4 e0=> ?_
 exact hk w4 (XM h4 ⟨k1,k2,k3,k4⟩)
end
end Go.Proofs.YtcdcojpfealppaaGreat
