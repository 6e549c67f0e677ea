/- Put together by a program (wip/tools/shake.py): BookStill. -/
import Derived.Test.YtcdcojpfealppaaGreatY24
set_option linter.unusedVariables false
set_option linter.unusedSimpArgs false
set_option maxRecDepth 100000
open Go renaming World → Y, Value → V
namespace Go.Proofs.YtcdcojpfealppaaGreat
open Go Go.Proofs Go.RowKit Go.Proofs.XRed Go.Proofs.XHeap Go.Proofs.XMaps Go.Proofs.XSlices Go.Proofs.XDisk Go.Proofs.XCalls Go.Proofs.XSep Tryz
section
variable {w:Y} {k:KV} {Bk N G n:Nat} {v:V} {cs:List V} {r:List Yf}
theorem Dh {t:TypeId} {x y:Operand} {a b:ByteArray} {w:Y} {k:KV} (h:a.size+b.size≤1000) (hk:k (.string (a++b)) w):px P (Zd .add t x y (.string a) (.string b)) w k:=by
 refine Vk (by simp) (by simp) ?_ hk
 have hn:¬(((a.size+b.size:Nat):Int)>IntKind.i64.max):=by
  have:IntKind.i64.max=9223372036854775807:=by decide
  rw[this];omega
 have hn':¬((a.size:Int)+(b.size:Int)>IntKind.i64.max):=by simpa using hn
 simp only[binOp,Op.stringOp]
 first|(rw[if_neg hn];rfl)|(rw[if_neg hn'];rfl)
theorem X3 {t:TypeId} {v:V} {b o n c i sz:Nat} (ev:v= .slice (some ⟨b,o,none⟩) n c) (h:P.underlying t=some (.slice (P.elem t))) (hs:(sizeOf (P.elem t)).run P w= .ok sz w) (hi:i<n) (hk:k (.pointer (some ⟨b,o+i*sz,none⟩)) w):px P (Instr.indexAt t v (i64 i)) w k:=by
 subst ev;exact Vu (i:=(i:Int)) h hs (by omega) (by omega) (by simpa using hk)
theorem Xd {w u:Y} {x:V} {sz n:Nat} {cs:List V} (h:Src w x sz n cs) (h0:0<sz) (hf:Fr no w u) {b o c:Nat} (ev:x= .slice (some ⟨b,o,none⟩) n c) (hn:0<n) {j:Nat} {val:V} (hj:cs[j]? =some val):u.cell? ⟨b,o+j,none⟩=some val:=by
 obtain⟨A,c',e,hc,hl,hr⟩:=h.fr h0 hf fun _ _ h=>h
 obtain⟨b',o',e',hcell⟩:=hr hn
 rw[ev,e'] at e
 injection e with e1 e2 e3
 injection e1 with e1
 injection e1 with e1 e2
 subst e1 e2
 exact hcell j val hj
structure Cy (w:Y) (te sz:Nat) (e g:V→List V) (x:Ent):Prop where
 gown:w.ownsRow 0 te sz x.gv (x.n+x.m) (rep x.n (e x.mv)++rep x.m (g x.mv))
 lsrc:Src w x.lv sz x.n (rep x.n (e x.mv))
theorem Cy.fr {w':Y} {te sz:Nat} {e g:V→List V} {x:Ent} (h:Cy w te sz e g x) (h0:0<sz) (hf:Fr no w w'):Cy w' te sz e g x:=⟨Z4 h.gown hf fun _ _ h=>h,h.lsrc.fr h0 hf fun _ _ h=>h⟩
theorem Cy.of {te sz:Nat} {e g:V→List V} {x:Ent} {es:List Ent} {l:List Yf} {i j:Nat} (h:Sep l w) (hi:l[i]? =some (Bag (es.map (ZE te sz e g)))) (hj:es[j]? =some x):Cy w te sz e g x:=by
 have h1:=h.front i hi
 have h2:=h1.pick (i:=j) (a:=ZE te sz e g x) (by rw[List.getElem?_map,hj];rfl)
 obtain⟨O,I,h3,h4,_⟩:=h2.get 0 rfl
 exact⟨h3,h4⟩
theorem Qw {te sz:Nat} {e g:V→List V} {x:Ent} (h:Cy w te sz e g x) {j:Nat} (hj:j<x.n+x.m):∃b o c,x.gv= .slice (some ⟨b,o,none⟩) (x.n+x.m) c:=by
 obtain⟨A,c,e,_,_,hr⟩:=Src.Zt h.gown
 obtain⟨b,o,e',_⟩:=hr (by omega)
 exact⟨b,o,c,by rw[e,e']⟩
theorem U8 {te sz:Nat} {e g:V→List V} {x:Ent} (h:Cy w te sz e g x) {j:Nat} (hj:j<x.n):∃b o c,x.lv= .slice (some ⟨b,o,none⟩) x.n c:=by
 obtain⟨A,c,e,_,_,hr⟩:=h.lsrc
 obtain⟨b,o,e',_⟩:=hr (by omega)
 exact⟨b,o,c,by rw[e,e']⟩
theorem VU {n m j i:Nat} {e g:List V} {v:V} (hj:j<n) (hi:e[i]? =some v):(rep n e++rep m g)[j*e.length+i]? =some v:=by
 have hil:i<e.length:=(List.getElem?_eq_some_iff.1 hi).1
 have h1:j*e.length+i<n*e.length:=by
  have:(j+1)*e.length≤n*e.length:=Nat.mul_le_mul_right _ hj
  rw[Nat.succ_mul] at this;omega
 rw[List.getElem?_append_left (by rw[VB];exact h1),SL hj hil,hi]
theorem Qx {n m j i:Nat} {e g:List V} {v:V} (hj:n≤j) (hjm:j<n+m) (hl:g.length=e.length) (hi:g[i]? =some v):(rep n e++rep m g)[j*e.length+i]? =some v:=by
 have hil:i<g.length:=(List.getElem?_eq_some_iff.1 hi).1
 have e1:j*e.length+i=n*e.length+((j-n)*e.length+i):=by
  have:j*e.length=n*e.length+(j-n)*e.length:=by rw[←Nat.add_mul];congr 1;omega
  omega
 rw[e1,List.getElem?_append_right (by rw[VB];omega),VB,Nat.add_sub_cancel_left,←hl,SL (by omega) hil,hi]
theorem Pg {ρ0:Env} {w1:Y} {N1:KE} {X:Nat} {x:Ent} (hx:Cy w1 5 1 eR gR x) (hm:Up x.mv) (hb:x.n+x.m≤1099511627776) (hX:w1.heap[X]? =some (.cells #[x.lv,x.gv,x.mv] 158 (0,0))) (e4:ρ0 4=ptr X) (e5:ρ0 5=i64 0)
   (hk:∀(ρ:Env) w',Fr no w1 w'→(∀t,t<15→t≠5→ρ t=ρ0 t)→zJ k N1 ρ w'):zx k N1 ρ0 w1:=by
 obtain⟨y,hy⟩:=hm
 refine Hc (m:=x.n+x.m) k N1 (fun m ρ w'=>∃j:Nat,j+m=x.n+x.m∧Fr no w1 w'∧(∀t,t<15→t≠5→ρ t=ρ0 t)∧ρ 5=i64 j) ?_
   ⟨0,by omega,Fr.refl _ _,fun _ _ _=>rfl,e5⟩
 rintro m ρ w' ⟨j,hjm,hf,hρ,e5⟩
 rw[OF]
 unfold jJ
 have a4:ρ 4=ptr X:=(hρ 4 (by omega) (by omega)).trans e4
 rw[a4,e5]
 have hX1:=hf.get hX id
 have hx1:=hx.fr (by decide) hf
 have nt:∀t u,t<15→15≤u→t≠u:=fun t u h h'=>by omega
 refine QZ (Zj (v:=x.gv) (isAgg36 _) hX1 rfl (ZF Ya (Src.Zt hx1.gown) ?_))
 by_cases hj:j<x.n+x.m
 · refine ZA     (by omega) (Zk      ?_)
   have hX2:w'.drew.heap[X]? =some (.cells #[x.lv,x.gv,x.mv] 158 (0,0)):=hX1
   have hx2:=hx1.fr (by decide) (Fr.drew no w')
   have hf2:=hf.trans (Fr.drew no w') fun b hb=> .inl hb
   generalize w'.drew=w2 at *
   rw[hy] at hX2
   obtain⟨bg,og,cg,ev_g⟩:=Qw hx2 hj
   refine⟨fun u=>Fr no w2 u,Fr.refl _ _,?_⟩
   refine Zi _ (fun w_ hS=>AG ⟨rfl,rfl⟩) (Zi x.lv (fun w_ hS=>Zj (isAgg36 _) (hS.get hX2 id) rfl ⟨rfl,rfl⟩) (Zi (i64 x.n) (fun w_ hS=>ZF Ya (hx2.fr (by decide) hS).lsrc ⟨rfl,rfl⟩) ?_))
   by_cases hjn:j<x.n
   · refine Zi   (.bool true) (fun w_ hS => ZA     (by omega) ⟨rfl,rfl⟩) ?_
     obtain⟨bl,ol,cl,ev_l⟩:=U8 hx2 hjn
     have hc_l:∀u,Fr no w2 u→u.cell? ⟨bl,ol+j*1,none⟩=some (.int .u8 y):=fun u hu=>by
       have:=Xd hx2.lsrc (by decide) hu ev_l (by omega) (j:=j*1+0) (val:=(.int .u8 y)) (by have:=VU (n:=x.n) (m:=0) (j:=j) (i:=0) (e:=eR x.mv) (g:=gR x.mv) (v:=(.int .u8 y)) (by omega) (by rw[hy];rfl);rw[Qv,List.append_nil] at this;exact this)
       simpa[Nat.add_assoc] using this
     have hc_g:∀u,Fr no w2 u→u.cell? ⟨bg,og+j*1,none⟩=some (.int .u8 y):=fun u hu=>by
       have:=Xd (Src.Zt hx2.gown) (by decide) hu ev_g (by omega) (j:=j*1+0) (val:=(.int .u8 y)) (by have:=VU (n:=x.n) (m:=x.m) (j:=j) (i:=0) (e:=eR x.mv) (g:=gR x.mv) (v:=(.int .u8 y)) (by omega) (by rw[hy];rfl);exact this)
       simpa[Nat.add_assoc] using this
     refine Ze rfl (Zi _ (fun w_ hS=>AG ⟨rfl,rfl⟩) ?_)
     refine Ze rfl (Zi x.lv (fun w_ hS=>Zj (isAgg36 _) (hS.get hX2 id) rfl ⟨rfl,rfl⟩) (Ze rfl ?_))
     refine Ze rfl (Zi _ (fun w_ hS=>X3 ev_l Ya (Vm _) (by omega) ⟨rfl,rfl⟩) ?_)
     refine Ze rfl (Zi (.int .u8 y) (fun w_ hS=>Xl (isAgg5 _) (hc_l w_ hS) ⟨rfl,rfl⟩) ?_)
     refine Ze rfl (Zi _ (fun w_ hS=>Ja ⟨rfl,rfl⟩) ?_)
     refine Ze rfl (Zi (.int .u8 y) (fun w_ hS=>Zj (isAgg5 _) (hS.get hX2 id) rfl ⟨rfl,rfl⟩) ?_)
     refine Ze rfl (Zi (.bool false) (fun w_ hS=>ZY rfl ⟨rfl,rfl⟩) (Ze rfl ?_))
     refine Ze rfl (Zi _ (fun w_ hS=>QZ ⟨rfl,rfl⟩) ?_)
     refine Ze rfl (Zi x.gv (fun w_ hS=>Zj (isAgg36 _) (hS.get hX2 id) rfl ⟨rfl,rfl⟩) (Ze rfl ?_))
     refine Ze rfl (Zi _ (fun w_ hS=>X3 ev_g Ya (Vm _) (by omega) ⟨rfl,rfl⟩) ?_)
     refine Ze rfl (Zi (.int .u8 y) (fun w_ hS=>Xl (isAgg5 _) (hc_g w_ hS) ⟨rfl,rfl⟩) ?_)
     refine Ze rfl (Zi _ (fun w_ hS=>Ja ⟨rfl,rfl⟩) ?_)
     refine Ze rfl (Zi (.int .u8 y) (fun w_ hS=>Zj (isAgg5 _) (hS.get hX2 id) rfl ⟨rfl,rfl⟩) ?_)
     refine Ze rfl (Zi (.bool false) (fun w_ hS=>ZY rfl ⟨rfl,rfl⟩) ?_)
     refine Ze rfl (Zi (.bool false) (fun w_ hS=>Zr ⟨rfl,rfl⟩) ?_)
     refine Zi (.bool false) (fun w_ hS=>Zx ⟨rfl,rfl⟩) (Ze rfl ?_)
     refine Ze rfl (Zi _ (fun w_ hS=>AG ⟨rfl,rfl⟩) (Ze rfl (Zi x.lv (fun w_ hS=>Zj (isAgg36 _) (hS.get hX2 id) rfl ⟨rfl,rfl⟩) (Ze rfl (Zi (i64 x.n) (fun w_ hS=>ZF Ya (hx2.fr (by decide) hS).lsrc ⟨rfl,rfl⟩) ?_)))))
     refine Ze rfl (Zi (.bool false) (fun w_ hS=>XR (by omega) ⟨rfl,rfl⟩) (Ze rfl ?_))
     iterate 9 refine Y3 ?_
     refine Ze rfl (Zi (.bool false) (fun w_ hS=>Zr ⟨rfl,rfl⟩) ?_)
     refine Zi (.bool false) (fun w_ hS=>Zr ⟨rfl,rfl⟩) (Zf (Zp (by omega) ?_))
     refine⟨m-1,by omega,j+1,by omega,hf2,fun t ht htn=> ?_,?_⟩
     · rw [Y5     _ _ _ _ htn]
       repeat rw[Y5 _ _ _ _ (nt _ _ ht (by omega))]
       exact hρ t ht htn
     · show i64 _=i64 _;simp
   · refine Zi   (.bool false) (fun w_ hS => ZB     (by omega) ⟨rfl,rfl⟩) ?_
     have hc_g:∀u,Fr no w2 u→u.cell? ⟨bg,og+j*1,none⟩=some (.int .u8 (IntKind.u8.wrap (y+1))):=fun u hu=>by
       have:=Xd (Src.Zt hx2.gown) (by decide) hu ev_g (by omega) (j:=j*1+0) (val:=(.int .u8 (IntKind.u8.wrap (y+1)))) (by have:=Qx (n:=x.n) (m:=x.m) (j:=j) (i:=0) (e:=eR x.mv) (g:=gR x.mv) (v:=(.int .u8 (IntKind.u8.wrap (y+1)))) (by omega) (by omega) rfl (by rw[hy];rfl);exact this)
       simpa[Nat.add_assoc] using this
     iterate 9 refine Y3 ?_
     iterate 8 refine YD ?_
     refine Y3 (Zi (.bool false) (fun w_ hS=>Zr ⟨rfl,rfl⟩) (Ze rfl ?_))
     refine Ze rfl (Zi _ (fun w_ hS=>AG ⟨rfl,rfl⟩) (Ze rfl (Zi x.lv (fun w_ hS=>Zj (isAgg36 _) (hS.get hX2 id) rfl ⟨rfl,rfl⟩) (Ze rfl (Zi (i64 x.n) (fun w_ hS=>ZF Ya (hx2.fr (by decide) hS).lsrc ⟨rfl,rfl⟩) ?_)))))
     refine Ze rfl (Zi (.bool true) (fun w_ hS=>XQ (by omega) ⟨rfl,rfl⟩) (Ze rfl ?_))
     refine Ze rfl (Zi _ (fun w_ hS=>QZ ⟨rfl,rfl⟩) ?_)
     refine Ze rfl (Zi x.gv (fun w_ hS=>Zj (isAgg36 _) (hS.get hX2 id) rfl ⟨rfl,rfl⟩) (Ze rfl ?_))
     refine Ze rfl (Zi _ (fun w_ hS=>X3 ev_g Ya (Vm _) (by omega) ⟨rfl,rfl⟩) ?_)
     refine Ze rfl (Zi (.int .u8 (IntKind.u8.wrap (y+1))) (fun w_ hS=>Xl (isAgg5 _) (hc_g w_ hS) ⟨rfl,rfl⟩) ?_)
     refine Ze rfl (Zi _ (fun w_ hS=>Ja ⟨rfl,rfl⟩) ?_)
     refine Ze rfl (Zi (.int .u8 y) (fun w_ hS=>Zj (isAgg5 _) (hS.get hX2 id) rfl ⟨rfl,rfl⟩) ?_)
     refine Ze rfl (Zi (.int .u8 (IntKind.u8.wrap (y+1))) (fun w_ hS=>Jp ⟨rfl,rfl⟩) ?_)
     refine Ze rfl (Zi (.bool false) (fun w_ hS=>ZY rfl ⟨rfl,rfl⟩) ?_)
     refine Ze rfl (Zi (.bool false) (fun w_ hS=>Zx ⟨rfl,rfl⟩) ?_)
     refine Zi (.bool false) (fun w_ hS=>Zr ⟨rfl,rfl⟩) (Zf (Zp (by omega) ?_))
     refine⟨m-1,by omega,j+1,by omega,hf2,fun t ht htn=> ?_,?_⟩
     · rw [Y5     _ _ _ _ htn]
       repeat rw[Y5 _ _ _ _ (nt _ _ ht (by omega))]
       exact hρ t ht htn
     · show i64 _=i64 _;simp
 · refine ZB     (by omega) (Zf       ?_)
   rw[OH]
   refine hk _ w' hf fun t ht htn=> ?_
   repeat rw[Y5 _ _ _ _ (nt _ _ ht (by omega))]
   exact hρ t ht htn
theorem yd {rv tv fv sv:V} {er et ef es:List Ent} {ρ0:Env} {w1:Y} (hS:Sep (BL Bk rv tv fv sv er et ef es++r) w1) (hk0:KOk Up N G er) (hN:N≤1099511627) (hG:G≤4) (e0:ρ0 0=ptr Bk) (e3:ρ0 3=i64 0)
   (hk:∀(ρ:Env) w',Fr no w1 w'→ρ 0=ptr Bk→zI k ρ w'):zv k ρ0 w1:=by
 refine Hb (m:=er.length) k (fun m ρ w'=>∃i:Nat,i+m=er.length∧Fr no w1 w'∧ρ 0=ptr Bk∧ρ 3=i64 i) ?_
   ⟨0,by omega,Fr.refl _ _,e0,e3⟩
 rintro m ρ w' ⟨i,him,hf,e0,e3⟩
 rw[OE]
 unfold jI
 rw[e0,e3]
 have hS':=hS.q hf
 have ho:=hS'.own 1 rfl
 have hlen:=hk0.1
 refine Zn (UD (Zj (v:=rv) (isAgg65 _) (hS'.cells 0 rfl) rfl (ZF CD (Src.Zt ho) ?_)))
 by_cases hi:i<er.length
 · refine ZA     (by omega) (Zk      (Zn    (UD     (Zj    (v := rv) (isAgg65 _) (hS'.cells 0 rfl) rfl ?_))))
   obtain⟨c0,c1,c2⟩:=YS hi
   refine Um (m:=0) (vs:=[er[i].lv,er[i].gv,er[i].mv]) CD (P6 _) (isAgg158 _) (sizeOf158 _) (Src.Zt ho) hi (by decide) rfl (fun j hj=>by
     match j,hj with
     |0,_=>simpa using c0
     |1,_=>simpa using c1
     |2,_=>simpa using c2) fun q=> ?_
   refine Y9 (zeroValue158 _) ?_
   have hok:=hk0.2 _ (List.getElem_mem hi)
   have hx:=Cy.of hS' (i:=2) (j:=i) (x:=er[i]) rfl (by simp[hi])
   obtain⟨Al,cl,el,-⟩:∃A c,er[i].lv= .slice A er[i].n c∧er[i].n≤c:=by obtain⟨A,c,e,h,_⟩:=hx.lsrc;exact⟨A,c,e,h⟩
   obtain⟨Ag,cg,eg,-⟩:∃A c,er[i].gv= .slice A (er[i].n+er[i].m) c∧er[i].n+er[i].m≤c:=by obtain⟨A,c,e,h,_⟩:=Src.Zt hx.gown;exact⟨A,c,e,h⟩
   obtain⟨y,hy⟩:=id hok.1
   have f1:=Fr.alloc no w' (.cells #[.slice none 0 0,.slice none 0 0,.int .u8 0] 158)
   have b1:=Z2 w' (.cells #[.slice none 0 0,.slice none 0 0,.int .u8 0] 158)
   show pu P _ (w'.alloc (.cells #[.slice none 0 0,.slice none 0 0,.int .u8 0] 158)) _
   have z1:(w'.alloc (.cells #[.slice none 0 0,.slice none 0 0,.int .u8 0] 158)).heap.size=w'.heap.size+1:=by simp
   generalize w'.alloc (.cells #[.slice none 0 0,.slice none 0 0,.int .u8 0] 158)=w2 at *
   refine Va (n:=3) (vs:=[er[i].lv,er[i].gv,er[i].mv]) (sizeOf158 _) rfl (by intro u hu;simp at hu;rcases hu with rfl|rfl|rfl;rw[el];rfl;rw[eg];rfl;rw[hy];rfl) b1 (by show 0+3≤3;decide) fun w3 h3 f3 z3=> ?_
   have h3:w3.heap[w'.heap.size]? =some (.cells #[er[i].lv,er[i].gv,er[i].mv] 158 (0,0)):=by rw[h3];simp
   have f03:Fr no w' w3:=f1.trans f3 fun b hb=> .inr (by omega)
   refine Pg (X:=w'.heap.size) (hx.fr (by decide) f03) hok.1 (by have:=hok.2.1;have:=hok.2.2;omega) h3 rfl rfl fun ρ2 w4 f4 hρ2=> ?_
   have a3:ρ2 3=i64 i:=(hρ2 3 (by omega) (by omega)).trans e3
   have a0:ρ2 0=ptr Bk:=(hρ2 0 (by omega) (by omega)).trans e0
   unfold zJ
   rw[a3]
   refine Zp (by omega) ⟨m-1,by omega,i+1,by omega,(hf.trans f03 fun b hb=> .inl hb).trans f4 fun b hb=> .inl hb,a0,?_⟩
   show i64 _=i64 _;simp
 · refine ZB     (by omega) (Zf       ?_)
   rw[OG]
   exact hk _ w' hf e0
theorem Ph {ρ0:Env} {w1:Y} {N1:KE} {X:Nat} {x:Ent} (hx:Cy w1 9 1 eT gT x) (hm:Xi x.mv) (hb:x.n+x.m≤1099511627776) (hX:w1.heap[X]? =some (.cells #[x.lv,x.gv,x.mv] 163 (0,0))) (e4:ρ0 7=ptr X) (e5:ρ0 8=i64 0)
   (hk:∀(ρ:Env) w',Fr no w1 w'→(∀t,t<15→t≠8→ρ t=ρ0 t)→zL k N1 ρ w'):zz k N1 ρ0 w1:=by
 obtain⟨y,hy,hys⟩:=hm
 refine Hf (m:=x.n+x.m) k N1 (fun m ρ w'=>∃j:Nat,j+m=x.n+x.m∧Fr no w1 w'∧(∀t,t<15→t≠8→ρ t=ρ0 t)∧ρ 8=i64 j) ?_
   ⟨0,by omega,Fr.refl _ _,fun _ _ _=>rfl,e5⟩
 rintro m ρ w' ⟨j,hjm,hf,hρ,e5⟩
 rw[OJ]
 unfold jL
 have a4:ρ 7=ptr X:=(hρ 7 (by omega) (by omega)).trans e4
 rw[a4,e5]
 have hX1:=hf.get hX id
 have hx1:=hx.fr (by decide) hf
 have nt:∀t u,t<15→15≤u→t≠u:=fun t u h h'=>by omega
 refine Jd (Zj (v:=x.gv) (isAgg73 _) hX1 rfl (ZF Xf (Src.Zt hx1.gown) ?_))
 by_cases hj:j<x.n+x.m
 · refine ZA     (by omega) (Zk      ?_)
   have hX2:w'.drew.heap[X]? =some (.cells #[x.lv,x.gv,x.mv] 163 (0,0)):=hX1
   have hx2:=hx1.fr (by decide) (Fr.drew no w')
   have hf2:=hf.trans (Fr.drew no w') fun b hb=> .inl hb
   generalize w'.drew=w2 at *
   rw[hy] at hX2
   obtain⟨bg,og,cg,ev_g⟩:=Qw hx2 hj
   refine⟨fun u=>Fr no w2 u,Fr.refl _ _,?_⟩
   refine Zi _ (fun w_ hS=>AI ⟨rfl,rfl⟩) (Zi x.lv (fun w_ hS=>Zj (isAgg73 _) (hS.get hX2 id) rfl ⟨rfl,rfl⟩) (Zi (i64 x.n) (fun w_ hS=>ZF Xf (hx2.fr (by decide) hS).lsrc ⟨rfl,rfl⟩) ?_))
   by_cases hjn:j<x.n
   · refine Zi   (.bool true) (fun w_ hS => ZA     (by omega) ⟨rfl,rfl⟩) ?_
     obtain⟨bl,ol,cl,ev_l⟩:=U8 hx2 hjn
     have hc_l:∀u,Fr no w2 u→u.cell? ⟨bl,ol+j*1,none⟩=some (.string y):=fun u hu=>by
       have:=Xd hx2.lsrc (by decide) hu ev_l (by omega) (j:=j*1+0) (val:=(.string y)) (by have:=VU (n:=x.n) (m:=0) (j:=j) (i:=0) (e:=eT x.mv) (g:=gT x.mv) (v:=(.string y)) (by omega) (by rw[hy];rfl);rw[Qv,List.append_nil] at this;exact this)
       simpa[Nat.add_assoc] using this
     have hc_g:∀u,Fr no w2 u→u.cell? ⟨bg,og+j*1,none⟩=some (.string y):=fun u hu=>by
       have:=Xd (Src.Zt hx2.gown) (by decide) hu ev_g (by omega) (j:=j*1+0) (val:=(.string y)) (by have:=VU (n:=x.n) (m:=x.m) (j:=j) (i:=0) (e:=eT x.mv) (g:=gT x.mv) (v:=(.string y)) (by omega) (by rw[hy];rfl);exact this)
       simpa[Nat.add_assoc] using this
     refine Ze rfl (Zi _ (fun w_ hS=>AI ⟨rfl,rfl⟩) ?_)
     refine Ze rfl (Zi x.lv (fun w_ hS=>Zj (isAgg73 _) (hS.get hX2 id) rfl ⟨rfl,rfl⟩) (Ze rfl ?_))
     refine Ze rfl (Zi _ (fun w_ hS=>X3 ev_l Xf (Ue _) (by omega) ⟨rfl,rfl⟩) ?_)
     refine Ze rfl (Zi (.string y) (fun w_ hS=>Xl (isAgg9 _) (hc_l w_ hS) ⟨rfl,rfl⟩) ?_)
     refine Ze rfl (Zi _ (fun w_ hS=>Je ⟨rfl,rfl⟩) ?_)
     refine Ze rfl (Zi (.string y) (fun w_ hS=>Zj (isAgg9 _) (hS.get hX2 id) rfl ⟨rfl,rfl⟩) ?_)
     refine Ze rfl (Zi (.bool false) (fun w_ hS=>UN ⟨by simp,rfl⟩) (Ze rfl ?_))
     refine Ze rfl (Zi _ (fun w_ hS=>Jd ⟨rfl,rfl⟩) ?_)
     refine Ze rfl (Zi x.gv (fun w_ hS=>Zj (isAgg73 _) (hS.get hX2 id) rfl ⟨rfl,rfl⟩) (Ze rfl ?_))
     refine Ze rfl (Zi _ (fun w_ hS=>X3 ev_g Xf (Ue _) (by omega) ⟨rfl,rfl⟩) ?_)
     refine Ze rfl (Zi (.string y) (fun w_ hS=>Xl (isAgg9 _) (hc_g w_ hS) ⟨rfl,rfl⟩) ?_)
     refine Ze rfl (Zi _ (fun w_ hS=>Je ⟨rfl,rfl⟩) ?_)
     refine Ze rfl (Zi (.string y) (fun w_ hS=>Zj (isAgg9 _) (hS.get hX2 id) rfl ⟨rfl,rfl⟩) ?_)
     refine Ze rfl (Zi (.bool false) (fun w_ hS=>UN ⟨by simp,rfl⟩) ?_)
     refine Ze rfl (Zi (.bool false) (fun w_ hS=>Zr ⟨rfl,rfl⟩) ?_)
     refine Zi (.bool false) (fun w_ hS=>Zx ⟨rfl,rfl⟩) (Ze rfl ?_)
     refine Ze rfl (Zi _ (fun w_ hS=>AI ⟨rfl,rfl⟩) (Ze rfl (Zi x.lv (fun w_ hS=>Zj (isAgg73 _) (hS.get hX2 id) rfl ⟨rfl,rfl⟩) (Ze rfl (Zi (i64 x.n) (fun w_ hS=>ZF Xf (hx2.fr (by decide) hS).lsrc ⟨rfl,rfl⟩) ?_)))))
     refine Ze rfl (Zi (.bool false) (fun w_ hS=>XR (by omega) ⟨rfl,rfl⟩) (Ze rfl ?_))
     iterate 9 refine Y3 ?_
     refine Ze rfl (Zi (.bool false) (fun w_ hS=>Zr ⟨rfl,rfl⟩) ?_)
     refine Zi (.bool false) (fun w_ hS=>Zr ⟨rfl,rfl⟩) (Zf (Zp (by omega) ?_))
     refine⟨m-1,by omega,j+1,by omega,hf2,fun t ht htn=> ?_,?_⟩
     · rw [Y5     _ _ _ _ htn]
       repeat rw[Y5 _ _ _ _ (nt _ _ ht (by omega))]
       exact hρ t ht htn
     · show i64 _=i64 _;simp
   · refine Zi   (.bool false) (fun w_ hS => ZB     (by omega) ⟨rfl,rfl⟩) ?_
     have hc_g:∀u,Fr no w2 u→u.cell? ⟨bg,og+j*1,none⟩=some (.string (y++ByteArray.mk #[120])):=fun u hu=>by
       have:=Xd (Src.Zt hx2.gown) (by decide) hu ev_g (by omega) (j:=j*1+0) (val:=(.string (y++ByteArray.mk #[120]))) (by have:=Qx (n:=x.n) (m:=x.m) (j:=j) (i:=0) (e:=eT x.mv) (g:=gT x.mv) (v:=(.string (y++ByteArray.mk #[120]))) (by omega) (by omega) rfl (by rw[hy];rfl);exact this)
       simpa[Nat.add_assoc] using this
     iterate 9 refine Y3 ?_
     iterate 8 refine YD ?_
     refine Y3 (Zi (.bool false) (fun w_ hS=>Zr ⟨rfl,rfl⟩) (Ze rfl ?_))
     refine Ze rfl (Zi _ (fun w_ hS=>AI ⟨rfl,rfl⟩) (Ze rfl (Zi x.lv (fun w_ hS=>Zj (isAgg73 _) (hS.get hX2 id) rfl ⟨rfl,rfl⟩) (Ze rfl (Zi (i64 x.n) (fun w_ hS=>ZF Xf (hx2.fr (by decide) hS).lsrc ⟨rfl,rfl⟩) ?_)))))
     refine Ze rfl (Zi (.bool true) (fun w_ hS=>XQ (by omega) ⟨rfl,rfl⟩) (Ze rfl ?_))
     refine Ze rfl (Zi _ (fun w_ hS=>Jd ⟨rfl,rfl⟩) ?_)
     refine Ze rfl (Zi x.gv (fun w_ hS=>Zj (isAgg73 _) (hS.get hX2 id) rfl ⟨rfl,rfl⟩) (Ze rfl ?_))
     refine Ze rfl (Zi _ (fun w_ hS=>X3 ev_g Xf (Ue _) (by omega) ⟨rfl,rfl⟩) ?_)
     refine Ze rfl (Zi (.string (y++ByteArray.mk #[120])) (fun w_ hS=>Xl (isAgg9 _) (hc_g w_ hS) ⟨rfl,rfl⟩) ?_)
     refine Ze rfl (Zi _ (fun w_ hS=>Je ⟨rfl,rfl⟩) ?_)
     refine Ze rfl (Zi (.string y) (fun w_ hS=>Zj (isAgg9 _) (hS.get hX2 id) rfl ⟨rfl,rfl⟩) ?_)
     refine Ze rfl (Zi (.string (y++ByteArray.mk #[120])) (fun w_ hS=>Dh (by have:(ByteArray.mk #[120]).size=1:=rfl;omega) ⟨rfl,rfl⟩) ?_)
     refine Ze rfl (Zi (.bool false) (fun w_ hS=>UN ⟨by simp,rfl⟩) ?_)
     refine Ze rfl (Zi (.bool false) (fun w_ hS=>Zx ⟨rfl,rfl⟩) ?_)
     refine Zi (.bool false) (fun w_ hS=>Zr ⟨rfl,rfl⟩) (Zf (Zp (by omega) ?_))
     refine⟨m-1,by omega,j+1,by omega,hf2,fun t ht htn=> ?_,?_⟩
     · rw [Y5     _ _ _ _ htn]
       repeat rw[Y5 _ _ _ _ (nt _ _ ht (by omega))]
       exact hρ t ht htn
     · show i64 _=i64 _;simp
 · refine ZB     (by omega) (Zf       ?_)
   rw[OL]
   refine hk _ w' hf fun t ht htn=> ?_
   repeat rw[Y5 _ _ _ _ (nt _ _ ht (by omega))]
   exact hρ t ht htn
theorem ye {rv tv fv sv:V} {er et ef es:List Ent} {ρ0:Env} {w1:Y} (hS:Sep (BL Bk rv tv fv sv er et ef es++r) w1) (hk0:KOk Xi N G et) (hN:N≤1099511627) (hG:G≤4) (e0:ρ0 0=ptr Bk) (e3:ρ0 6=i64 0)
   (hk:∀(ρ:Env) w',Fr no w1 w'→ρ 0=ptr Bk→zK k ρ w'):zy k ρ0 w1:=by
 refine He (m:=et.length) k (fun m ρ w'=>∃i:Nat,i+m=et.length∧Fr no w1 w'∧ρ 0=ptr Bk∧ρ 6=i64 i) ?_
   ⟨0,by omega,Fr.refl _ _,e0,e3⟩
 rintro m ρ w' ⟨i,him,hf,e0,e3⟩
 rw[OI]
 unfold jK
 rw[e0,e3]
 have hS':=hS.q hf
 have ho:=hS'.own 3 rfl
 have hlen:=hk0.1
 refine Zn (UE (Zj (v:=tv) (isAgg66 _) (hS'.cells 0 rfl) rfl (ZF CE (Src.Zt ho) ?_)))
 by_cases hi:i<et.length
 · refine ZA     (by omega) (Zk      (Zn    (UE     (Zj    (v := tv) (isAgg66 _) (hS'.cells 0 rfl) rfl ?_))))
   obtain⟨c0,c1,c2⟩:=YS hi
   refine Um (m:=0) (vs:=[et[i].lv,et[i].gv,et[i].mv]) CE (P7 _) (isAgg163 _) (sizeOf163 _) (Src.Zt ho) hi (by decide) rfl (fun j hj=>by
     match j,hj with
     |0,_=>simpa using c0
     |1,_=>simpa using c1
     |2,_=>simpa using c2) fun q=> ?_
   refine Y9 (zeroValue163 _) ?_
   have hok:=hk0.2 _ (List.getElem_mem hi)
   have hx:=Cy.of hS' (i:=4) (j:=i) (x:=et[i]) rfl (by simp[hi])
   obtain⟨Al,cl,el,-⟩:∃A c,et[i].lv= .slice A et[i].n c∧et[i].n≤c:=by obtain⟨A,c,e,h,_⟩:=hx.lsrc;exact⟨A,c,e,h⟩
   obtain⟨Ag,cg,eg,-⟩:∃A c,et[i].gv= .slice A (et[i].n+et[i].m) c∧et[i].n+et[i].m≤c:=by obtain⟨A,c,e,h,_⟩:=Src.Zt hx.gown;exact⟨A,c,e,h⟩
   obtain⟨y,hy,hys⟩:=id hok.1
   have f1:=Fr.alloc no w' (.cells #[.slice none 0 0,.slice none 0 0,.string .empty] 163)
   have b1:=Z2 w' (.cells #[.slice none 0 0,.slice none 0 0,.string .empty] 163)
   show pu P _ (w'.alloc (.cells #[.slice none 0 0,.slice none 0 0,.string .empty] 163)) _
   have z1:(w'.alloc (.cells #[.slice none 0 0,.slice none 0 0,.string .empty] 163)).heap.size=w'.heap.size+1:=by simp
   generalize w'.alloc (.cells #[.slice none 0 0,.slice none 0 0,.string .empty] 163)=w2 at *
   refine Va (n:=3) (vs:=[et[i].lv,et[i].gv,et[i].mv]) (sizeOf163 _) rfl (by intro u hu;simp at hu;rcases hu with rfl|rfl|rfl;rw[el];rfl;rw[eg];rfl;rw[hy];rfl) b1 (by show 0+3≤3;decide) fun w3 h3 f3 z3=> ?_
   have h3:w3.heap[w'.heap.size]? =some (.cells #[et[i].lv,et[i].gv,et[i].mv] 163 (0,0)):=by rw[h3];simp
   have f03:Fr no w' w3:=f1.trans f3 fun b hb=> .inr (by omega)
   refine Ph (X:=w'.heap.size) (hx.fr (by decide) f03) hok.1 (by have:=hok.2.1;have:=hok.2.2;omega) h3 rfl rfl fun ρ2 w4 f4 hρ2=> ?_
   have a3:ρ2 6=i64 i:=(hρ2 6 (by omega) (by omega)).trans e3
   have a0:ρ2 0=ptr Bk:=(hρ2 0 (by omega) (by omega)).trans e0
   unfold zL
   rw[a3]
   refine Zp (by omega) ⟨m-1,by omega,i+1,by omega,(hf.trans f03 fun b hb=> .inl hb).trans f4 fun b hb=> .inl hb,a0,?_⟩
   show i64 _=i64 _;simp
 · refine ZB     (by omega) (Zf       ?_)
   rw[OK]
   exact hk _ w' hf e0
theorem Pj {ρ0:Env} {w1:Y} {N1:KE} {X:Nat} {x:Ent} (hx:Cy w1 83 2 eF gF x) (hm:Xi x.mv) (hb:x.n+x.m≤1099511627776) (hX:w1.heap[X]? =some (.cells #[x.lv,x.gv,x.mv] 161 (0,0))) (e4:ρ0 10=ptr X) (e5:ρ0 11=i64 0)
   (hk:∀(ρ:Env) w',Fr no w1 w'→(∀t,t<15→t≠11→ρ t=ρ0 t)→Hp k N1 ρ w'):zD k N1 ρ0 w1:=by
 obtain⟨y,hy,hys⟩:=hm
 refine Hi (m:=x.n+x.m) k N1 (fun m ρ w'=>∃j:Nat,j+m=x.n+x.m∧Fr no w1 w'∧(∀t,t<15→t≠11→ρ t=ρ0 t)∧ρ 11=i64 j) ?_
   ⟨0,by omega,Fr.refl _ _,fun _ _ _=>rfl,e5⟩
 rintro m ρ w' ⟨j,hjm,hf,hρ,e5⟩
 rw[Hm]
 unfold SF
 have a4:ρ 10=ptr X:=(hρ 10 (by omega) (by omega)).trans e4
 rw[a4,e5]
 have hX1:=hf.get hX id
 have hx1:=hx.fr (by decide) hf
 have nt:∀t u,t<15→15≤u→t≠u:=fun t u h h'=>by omega
 refine Jb (Zj (v:=x.gv) (isAgg71 _) hX1 rfl (ZF X7 (Src.Zt hx1.gown) ?_))
 by_cases hj:j<x.n+x.m
 · refine ZA     (by omega) (Zk      ?_)
   have hX2:w'.drew.heap[X]? =some (.cells #[x.lv,x.gv,x.mv] 161 (0,0)):=hX1
   have hx2:=hx1.fr (by decide) (Fr.drew no w')
   have hf2:=hf.trans (Fr.drew no w') fun b hb=> .inl hb
   generalize w'.drew=w2 at *
   rw[hy] at hX2
   obtain⟨bg,og,cg,ev_g⟩:=Qw hx2 hj
   refine⟨fun u=>Fr no w2 u,Fr.refl _ _,?_⟩
   refine Zi _ (fun w_ hS=>AH ⟨rfl,rfl⟩) (Zi x.lv (fun w_ hS=>Zj (isAgg71 _) (hS.get hX2 id) rfl ⟨rfl,rfl⟩) (Zi (i64 x.n) (fun w_ hS=>ZF X7 (hx2.fr (by decide) hS).lsrc ⟨rfl,rfl⟩) ?_))
   by_cases hjn:j<x.n
   · refine Zi   (.bool true) (fun w_ hS => ZA     (by omega) ⟨rfl,rfl⟩) ?_
     obtain⟨bl,ol,cl,ev_l⟩:=U8 hx2 hjn
     have hc_l:∀u,Fr no w2 u→u.cell? ⟨bl,ol+j*2+0,none⟩=some (.string y):=fun u hu=>by
       have:=Xd hx2.lsrc (by decide) hu ev_l (by omega) (j:=j*2+0) (val:=(.string y)) (by have:=VU (n:=x.n) (m:=0) (j:=j) (i:=0) (e:=eF x.mv) (g:=gF x.mv) (v:=(.string y)) (by omega) (by rw[hy];rfl);rw[Qv,List.append_nil] at this;exact this)
       simpa[Nat.add_assoc] using this
     have hc_g:∀u,Fr no w2 u→u.cell? ⟨bg,og+j*2+0,none⟩=some (.string y):=fun u hu=>by
       have:=Xd (Src.Zt hx2.gown) (by decide) hu ev_g (by omega) (j:=j*2+0) (val:=(.string y)) (by have:=VU (n:=x.n) (m:=x.m) (j:=j) (i:=0) (e:=eF x.mv) (g:=gF x.mv) (v:=(.string y)) (by omega) (by rw[hy];rfl);exact this)
       simpa[Nat.add_assoc] using this
     refine Ze rfl (Zi _ (fun w_ hS=>AH ⟨rfl,rfl⟩) ?_)
     refine Ze rfl (Zi x.lv (fun w_ hS=>Zj (isAgg71 _) (hS.get hX2 id) rfl ⟨rfl,rfl⟩) (Ze rfl ?_))
     refine Ze rfl (Zi _ (fun w_ hS=>X3 ev_l X7 (Uv _) (by omega) ⟨rfl,rfl⟩) ?_)
     refine Ze rfl (Zi _ (fun w_ hS=>QX ⟨rfl,rfl⟩) ?_)
     refine Ze rfl (Zi (.string y) (fun w_ hS=>Xl (isAgg9 _) (hc_l w_ hS) ⟨rfl,rfl⟩) ?_)
     refine Ze rfl (Zi _ (fun w_ hS=>Jc ⟨rfl,rfl⟩) ?_)
     refine Ze rfl (Zi (.string y) (fun w_ hS=>Zj (isAgg9 _) (hS.get hX2 id) rfl ⟨rfl,rfl⟩) ?_)
     refine Ze rfl (Zi (.bool false) (fun w_ hS=>UN ⟨by simp,rfl⟩) (Ze rfl ?_))
     refine Ze rfl (Zi _ (fun w_ hS=>Jb ⟨rfl,rfl⟩) ?_)
     refine Ze rfl (Zi x.gv (fun w_ hS=>Zj (isAgg71 _) (hS.get hX2 id) rfl ⟨rfl,rfl⟩) (Ze rfl ?_))
     refine Ze rfl (Zi _ (fun w_ hS=>X3 ev_g X7 (Uv _) (by omega) ⟨rfl,rfl⟩) ?_)
     refine Ze rfl (Zi _ (fun w_ hS=>QX ⟨rfl,rfl⟩) ?_)
     refine Ze rfl (Zi (.string y) (fun w_ hS=>Xl (isAgg9 _) (hc_g w_ hS) ⟨rfl,rfl⟩) ?_)
     refine Ze rfl (Zi _ (fun w_ hS=>Jc ⟨rfl,rfl⟩) ?_)
     refine Ze rfl (Zi (.string y) (fun w_ hS=>Zj (isAgg9 _) (hS.get hX2 id) rfl ⟨rfl,rfl⟩) ?_)
     refine Ze rfl (Zi (.bool false) (fun w_ hS=>UN ⟨by simp,rfl⟩) ?_)
     refine Ze rfl (Zi (.bool false) (fun w_ hS=>Zr ⟨rfl,rfl⟩) ?_)
     refine Zi (.bool false) (fun w_ hS=>Zx ⟨rfl,rfl⟩) (Ze rfl ?_)
     refine Ze rfl (Zi _ (fun w_ hS=>AH ⟨rfl,rfl⟩) (Ze rfl (Zi x.lv (fun w_ hS=>Zj (isAgg71 _) (hS.get hX2 id) rfl ⟨rfl,rfl⟩) (Ze rfl (Zi (i64 x.n) (fun w_ hS=>ZF X7 (hx2.fr (by decide) hS).lsrc ⟨rfl,rfl⟩) ?_)))))
     refine Ze rfl (Zi (.bool false) (fun w_ hS=>XR (by omega) ⟨rfl,rfl⟩) (Ze rfl ?_))
     iterate 10 refine Y3 ?_
     refine Ze rfl (Zi (.bool false) (fun w_ hS=>Zr ⟨rfl,rfl⟩) ?_)
     refine Zi (.bool false) (fun w_ hS=>Zr ⟨rfl,rfl⟩) (Zf (Zp (by omega) ?_))
     refine⟨m-1,by omega,j+1,by omega,hf2,fun t ht htn=> ?_,?_⟩
     · rw [Y5     _ _ _ _ htn]
       repeat rw[Y5 _ _ _ _ (nt _ _ ht (by omega))]
       exact hρ t ht htn
     · show i64 _=i64 _;simp
   · refine Zi   (.bool false) (fun w_ hS => ZB     (by omega) ⟨rfl,rfl⟩) ?_
     have hc_g:∀u,Fr no w2 u→u.cell? ⟨bg,og+j*2+0,none⟩=some (.string (y++ByteArray.mk #[120])):=fun u hu=>by
       have:=Xd (Src.Zt hx2.gown) (by decide) hu ev_g (by omega) (j:=j*2+0) (val:=(.string (y++ByteArray.mk #[120]))) (by have:=Qx (n:=x.n) (m:=x.m) (j:=j) (i:=0) (e:=eF x.mv) (g:=gF x.mv) (v:=(.string (y++ByteArray.mk #[120]))) (by omega) (by omega) rfl (by rw[hy];rfl);exact this)
       simpa[Nat.add_assoc] using this
     iterate 10 refine Y3 ?_
     iterate 9 refine YD ?_
     refine Y3 (Zi (.bool false) (fun w_ hS=>Zr ⟨rfl,rfl⟩) (Ze rfl ?_))
     refine Ze rfl (Zi _ (fun w_ hS=>AH ⟨rfl,rfl⟩) (Ze rfl (Zi x.lv (fun w_ hS=>Zj (isAgg71 _) (hS.get hX2 id) rfl ⟨rfl,rfl⟩) (Ze rfl (Zi (i64 x.n) (fun w_ hS=>ZF X7 (hx2.fr (by decide) hS).lsrc ⟨rfl,rfl⟩) ?_)))))
     refine Ze rfl (Zi (.bool true) (fun w_ hS=>XQ (by omega) ⟨rfl,rfl⟩) (Ze rfl ?_))
     refine Ze rfl (Zi _ (fun w_ hS=>Jb ⟨rfl,rfl⟩) ?_)
     refine Ze rfl (Zi x.gv (fun w_ hS=>Zj (isAgg71 _) (hS.get hX2 id) rfl ⟨rfl,rfl⟩) (Ze rfl ?_))
     refine Ze rfl (Zi _ (fun w_ hS=>X3 ev_g X7 (Uv _) (by omega) ⟨rfl,rfl⟩) ?_)
     refine Ze rfl (Zi _ (fun w_ hS=>QX ⟨rfl,rfl⟩) ?_)
     refine Ze rfl (Zi (.string (y++ByteArray.mk #[120])) (fun w_ hS=>Xl (isAgg9 _) (hc_g w_ hS) ⟨rfl,rfl⟩) ?_)
     refine Ze rfl (Zi _ (fun w_ hS=>Jc ⟨rfl,rfl⟩) ?_)
     refine Ze rfl (Zi (.string y) (fun w_ hS=>Zj (isAgg9 _) (hS.get hX2 id) rfl ⟨rfl,rfl⟩) ?_)
     refine Ze rfl (Zi (.string (y++ByteArray.mk #[120])) (fun w_ hS=>Dh (by have:(ByteArray.mk #[120]).size=1:=rfl;omega) ⟨rfl,rfl⟩) ?_)
     refine Ze rfl (Zi (.bool false) (fun w_ hS=>UN ⟨by simp,rfl⟩) ?_)
     refine Ze rfl (Zi (.bool false) (fun w_ hS=>Zx ⟨rfl,rfl⟩) ?_)
     refine Zi (.bool false) (fun w_ hS=>Zr ⟨rfl,rfl⟩) (Zf (Zp (by omega) ?_))
     refine⟨m-1,by omega,j+1,by omega,hf2,fun t ht htn=> ?_,?_⟩
     · rw [Y5     _ _ _ _ htn]
       repeat rw[Y5 _ _ _ _ (nt _ _ ht (by omega))]
       exact hρ t ht htn
     · show i64 _=i64 _;simp
 · refine ZB     (by omega) (Zf       ?_)
   rw[Hq]
   refine hk _ w' hf fun t ht htn=> ?_
   repeat rw[Y5 _ _ _ _ (nt _ _ ht (by omega))]
   exact hρ t ht htn
theorem yf {rv tv fv sv:V} {er et ef es:List Ent} {ρ0:Env} {w1:Y} (hS:Sep (BL Bk rv tv fv sv er et ef es++r) w1) (hk0:KOk Xi N G ef) (hN:N≤1099511627) (hG:G≤4) (e0:ρ0 0=ptr Bk) (e3:ρ0 9=i64 0)
   (hk:∀(ρ:Env) w',Fr no w1 w'→ρ 0=ptr Bk→Hn k ρ w'):zB k ρ0 w1:=by
 refine Hh (m:=ef.length) k (fun m ρ w'=>∃i:Nat,i+m=ef.length∧Fr no w1 w'∧ρ 0=ptr Bk∧ρ 9=i64 i) ?_
   ⟨0,by omega,Fr.refl _ _,e0,e3⟩
 rintro m ρ w' ⟨i,him,hf,e0,e3⟩
 rw[OM]
 unfold jM
 rw[e0,e3]
 have hS':=hS.q hf
 have ho:=hS'.own 5 rfl
 have hlen:=hk0.1
 refine Zn (UF (Zj (v:=fv) (isAgg67 _) (hS'.cells 0 rfl) rfl (ZF CF (Src.Zt ho) ?_)))
 by_cases hi:i<ef.length
 · refine ZA     (by omega) (Zk      (Zn    (UF     (Zj    (v := fv) (isAgg67 _) (hS'.cells 0 rfl) rfl ?_))))
   obtain⟨c0,c1,c2⟩:=YS hi
   refine Um (m:=0) (vs:=[ef[i].lv,ef[i].gv,ef[i].mv]) CF (P8 _) (isAgg161 _) (sizeOf161 _) (Src.Zt ho) hi (by decide) rfl (fun j hj=>by
     match j,hj with
     |0,_=>simpa using c0
     |1,_=>simpa using c1
     |2,_=>simpa using c2) fun q=> ?_
   refine Y9 (zeroValue161 _) ?_
   have hok:=hk0.2 _ (List.getElem_mem hi)
   have hx:=Cy.of hS' (i:=6) (j:=i) (x:=ef[i]) rfl (by simp[hi])
   obtain⟨Al,cl,el,-⟩:∃A c,ef[i].lv= .slice A ef[i].n c∧ef[i].n≤c:=by obtain⟨A,c,e,h,_⟩:=hx.lsrc;exact⟨A,c,e,h⟩
   obtain⟨Ag,cg,eg,-⟩:∃A c,ef[i].gv= .slice A (ef[i].n+ef[i].m) c∧ef[i].n+ef[i].m≤c:=by obtain⟨A,c,e,h,_⟩:=Src.Zt hx.gown;exact⟨A,c,e,h⟩
   obtain⟨y,hy,hys⟩:=id hok.1
   have f1:=Fr.alloc no w' (.cells #[.slice none 0 0,.slice none 0 0,.string .empty] 161)
   have b1:=Z2 w' (.cells #[.slice none 0 0,.slice none 0 0,.string .empty] 161)
   show pu P _ (w'.alloc (.cells #[.slice none 0 0,.slice none 0 0,.string .empty] 161)) _
   have z1:(w'.alloc (.cells #[.slice none 0 0,.slice none 0 0,.string .empty] 161)).heap.size=w'.heap.size+1:=by simp
   generalize w'.alloc (.cells #[.slice none 0 0,.slice none 0 0,.string .empty] 161)=w2 at *
   refine Va (n:=3) (vs:=[ef[i].lv,ef[i].gv,ef[i].mv]) (sizeOf161 _) rfl (by intro u hu;simp at hu;rcases hu with rfl|rfl|rfl;rw[el];rfl;rw[eg];rfl;rw[hy];rfl) b1 (by show 0+3≤3;decide) fun w3 h3 f3 z3=> ?_
   have h3:w3.heap[w'.heap.size]? =some (.cells #[ef[i].lv,ef[i].gv,ef[i].mv] 161 (0,0)):=by rw[h3];simp
   have f03:Fr no w' w3:=f1.trans f3 fun b hb=> .inr (by omega)
   refine Pj (X:=w'.heap.size) (hx.fr (by decide) f03) hok.1 (by have:=hok.2.1;have:=hok.2.2;omega) h3 rfl rfl fun ρ2 w4 f4 hρ2=> ?_
   have a3:ρ2 9=i64 i:=(hρ2 9 (by omega) (by omega)).trans e3
   have a0:ρ2 0=ptr Bk:=(hρ2 0 (by omega) (by omega)).trans e0
   unfold Hp
   rw[a3]
   refine Zp (by omega) ⟨m-1,by omega,i+1,by omega,(hf.trans f03 fun b hb=> .inl hb).trans f4 fun b hb=> .inl hb,a0,?_⟩
   show i64 _=i64 _;simp
 · refine ZB     (by omega) (Zf       ?_)
   rw[Ho]
   exact hk _ w' hf e0
theorem Pk {ρ0:Env} {w1:Y} {N1:KE} {X:Nat} {x:Ent} (hx:Cy w1 134 3 eS gS x) (hm:Uq x.mv) (hb:x.n+x.m≤1099511627776) (hX:w1.heap[X]? =some (.cells #[x.lv,x.gv,x.mv] 165 (0,0))) (e4:ρ0 13=ptr X) (e5:ρ0 14=i64 0)
   (hk:∀(ρ:Env) w',Fr no w1 w'→(∀t,t<15→t≠14→ρ t=ρ0 t)→Hv k N1 ρ w'):zG k N1 ρ0 w1:=by
 obtain⟨y,hy⟩:=hm
 refine Hl (m:=x.n+x.m) k N1 (fun m ρ w'=>∃j:Nat,j+m=x.n+x.m∧Fr no w1 w'∧(∀t,t<15→t≠14→ρ t=ρ0 t)∧ρ 14=i64 j) ?_
   ⟨0,by omega,Fr.refl _ _,fun _ _ _=>rfl,e5⟩
 rintro m ρ w' ⟨j,hjm,hf,hρ,e5⟩
 rw[Hs]
 unfold SH
 have a4:ρ 13=ptr X:=(hρ 13 (by omega) (by omega)).trans e4
 rw[a4,e5]
 have hX1:=hf.get hX id
 have hx1:=hx.fr (by decide) hf
 have nt:∀t u,t<15→15≤u→t≠u:=fun t u h h'=>by omega
 refine Jf (Zj (v:=x.gv) (isAgg56 _) hX1 rfl (ZF Uu (Src.Zt hx1.gown) ?_))
 by_cases hj:j<x.n+x.m
 · refine ZA     (by omega) (Zk      ?_)
   have hX2:w'.drew.heap[X]? =some (.cells #[x.lv,x.gv,x.mv] 165 (0,0)):=hX1
   have hx2:=hx1.fr (by decide) (Fr.drew no w')
   have hf2:=hf.trans (Fr.drew no w') fun b hb=> .inl hb
   generalize w'.drew=w2 at *
   rw[hy] at hX2
   obtain⟨bg,og,cg,ev_g⟩:=Qw hx2 hj
   refine⟨fun u=>Fr no w2 u,Fr.refl _ _,?_⟩
   refine Zi _ (fun w_ hS=>AJ ⟨rfl,rfl⟩) (Zi x.lv (fun w_ hS=>Zj (isAgg56 _) (hS.get hX2 id) rfl ⟨rfl,rfl⟩) (Zi (i64 x.n) (fun w_ hS=>ZF Uu (hx2.fr (by decide) hS).lsrc ⟨rfl,rfl⟩) ?_))
   by_cases hjn:j<x.n
   · refine Zi   (.bool true) (fun w_ hS => ZA     (by omega) ⟨rfl,rfl⟩) ?_
     obtain⟨bl,ol,cl,ev_l⟩:=U8 hx2 hjn
     have hc_l:∀u,Fr no w2 u→u.cell? ⟨bl,ol+j*3+1,none⟩=some (.int .i64 y):=fun u hu=>by
       have:=Xd hx2.lsrc (by decide) hu ev_l (by omega) (j:=j*3+1) (val:=(.int .i64 y)) (by have:=VU (n:=x.n) (m:=0) (j:=j) (i:=1) (e:=eS x.mv) (g:=gS x.mv) (v:=(.int .i64 y)) (by omega) (by rw[hy];rfl);rw[Qv,List.append_nil] at this;exact this)
       simpa[Nat.add_assoc] using this
     have hc_g:∀u,Fr no w2 u→u.cell? ⟨bg,og+j*3+1,none⟩=some (.int .i64 y):=fun u hu=>by
       have:=Xd (Src.Zt hx2.gown) (by decide) hu ev_g (by omega) (j:=j*3+1) (val:=(.int .i64 y)) (by have:=VU (n:=x.n) (m:=x.m) (j:=j) (i:=1) (e:=eS x.mv) (g:=gS x.mv) (v:=(.int .i64 y)) (by omega) (by rw[hy];rfl);exact this)
       simpa[Nat.add_assoc] using this
     refine Ze rfl (Zi _ (fun w_ hS=>AJ ⟨rfl,rfl⟩) ?_)
     refine Ze rfl (Zi x.lv (fun w_ hS=>Zj (isAgg56 _) (hS.get hX2 id) rfl ⟨rfl,rfl⟩) (Ze rfl ?_))
     refine Ze rfl (Zi _ (fun w_ hS=>X3 ev_l Uu (En _) (by omega) ⟨rfl,rfl⟩) ?_)
     refine Ze rfl (Zi _ (fun w_ hS=>CA ⟨rfl,rfl⟩) ?_)
     refine Ze rfl (Zi (.int .i64 y) (fun w_ hS=>Xl (isAgg3 _) (hc_l w_ hS) ⟨rfl,rfl⟩) ?_)
     refine Ze rfl (Zi _ (fun w_ hS=>Jg ⟨rfl,rfl⟩) ?_)
     refine Ze rfl (Zi (.int .i64 y) (fun w_ hS=>Zj (isAgg3 _) (hS.get hX2 id) rfl ⟨rfl,rfl⟩) ?_)
     refine Ze rfl (Zi (.bool false) (fun w_ hS=>ZY rfl ⟨rfl,rfl⟩) (Ze rfl ?_))
     refine Ze rfl (Zi _ (fun w_ hS=>Jf ⟨rfl,rfl⟩) ?_)
     refine Ze rfl (Zi x.gv (fun w_ hS=>Zj (isAgg56 _) (hS.get hX2 id) rfl ⟨rfl,rfl⟩) (Ze rfl ?_))
     refine Ze rfl (Zi _ (fun w_ hS=>X3 ev_g Uu (En _) (by omega) ⟨rfl,rfl⟩) ?_)
     refine Ze rfl (Zi _ (fun w_ hS=>CA ⟨rfl,rfl⟩) ?_)
     refine Ze rfl (Zi (.int .i64 y) (fun w_ hS=>Xl (isAgg3 _) (hc_g w_ hS) ⟨rfl,rfl⟩) ?_)
     refine Ze rfl (Zi _ (fun w_ hS=>Jg ⟨rfl,rfl⟩) ?_)
     refine Ze rfl (Zi (.int .i64 y) (fun w_ hS=>Zj (isAgg3 _) (hS.get hX2 id) rfl ⟨rfl,rfl⟩) ?_)
     refine Ze rfl (Zi (.bool false) (fun w_ hS=>ZY rfl ⟨rfl,rfl⟩) ?_)
     refine Ze rfl (Zi (.bool false) (fun w_ hS=>Zr ⟨rfl,rfl⟩) ?_)
     refine Zi (.bool false) (fun w_ hS=>Zx ⟨rfl,rfl⟩) (Ze rfl ?_)
     refine Ze rfl (Zi _ (fun w_ hS=>AJ ⟨rfl,rfl⟩) (Ze rfl (Zi x.lv (fun w_ hS=>Zj (isAgg56 _) (hS.get hX2 id) rfl ⟨rfl,rfl⟩) (Ze rfl (Zi (i64 x.n) (fun w_ hS=>ZF Uu (hx2.fr (by decide) hS).lsrc ⟨rfl,rfl⟩) ?_)))))
     refine Ze rfl (Zi (.bool false) (fun w_ hS=>XR (by omega) ⟨rfl,rfl⟩) (Ze rfl ?_))
     iterate 10 refine Y3 ?_
     refine Ze rfl (Zi (.bool false) (fun w_ hS=>Zr ⟨rfl,rfl⟩) ?_)
     refine Zi (.bool false) (fun w_ hS=>Zr ⟨rfl,rfl⟩) (Zf (Zp (by omega) ?_))
     refine⟨m-1,by omega,j+1,by omega,hf2,fun t ht htn=> ?_,?_⟩
     · rw [Y5     _ _ _ _ htn]
       repeat rw[Y5 _ _ _ _ (nt _ _ ht (by omega))]
       exact hρ t ht htn
     · show i64 _=i64 _;simp
   · refine Zi   (.bool false) (fun w_ hS => ZB     (by omega) ⟨rfl,rfl⟩) ?_
     have hc_g:∀u,Fr no w2 u→u.cell? ⟨bg,og+j*3+1,none⟩=some (.int .i64 (IntKind.i64.wrap (y+1))):=fun u hu=>by
       have:=Xd (Src.Zt hx2.gown) (by decide) hu ev_g (by omega) (j:=j*3+1) (val:=(.int .i64 (IntKind.i64.wrap (y+1)))) (by have:=Qx (n:=x.n) (m:=x.m) (j:=j) (i:=1) (e:=eS x.mv) (g:=gS x.mv) (v:=(.int .i64 (IntKind.i64.wrap (y+1)))) (by omega) (by omega) rfl (by rw[hy];rfl);exact this)
       simpa[Nat.add_assoc] using this
     iterate 10 refine Y3 ?_
     iterate 9 refine YD ?_
     refine Y3 (Zi (.bool false) (fun w_ hS=>Zr ⟨rfl,rfl⟩) (Ze rfl ?_))
     refine Ze rfl (Zi _ (fun w_ hS=>AJ ⟨rfl,rfl⟩) (Ze rfl (Zi x.lv (fun w_ hS=>Zj (isAgg56 _) (hS.get hX2 id) rfl ⟨rfl,rfl⟩) (Ze rfl (Zi (i64 x.n) (fun w_ hS=>ZF Uu (hx2.fr (by decide) hS).lsrc ⟨rfl,rfl⟩) ?_)))))
     refine Ze rfl (Zi (.bool true) (fun w_ hS=>XQ (by omega) ⟨rfl,rfl⟩) (Ze rfl ?_))
     refine Ze rfl (Zi _ (fun w_ hS=>Jf ⟨rfl,rfl⟩) ?_)
     refine Ze rfl (Zi x.gv (fun w_ hS=>Zj (isAgg56 _) (hS.get hX2 id) rfl ⟨rfl,rfl⟩) (Ze rfl ?_))
     refine Ze rfl (Zi _ (fun w_ hS=>X3 ev_g Uu (En _) (by omega) ⟨rfl,rfl⟩) ?_)
     refine Ze rfl (Zi _ (fun w_ hS=>CA ⟨rfl,rfl⟩) ?_)
     refine Ze rfl (Zi (.int .i64 (IntKind.i64.wrap (y+1))) (fun w_ hS=>Xl (isAgg3 _) (hc_g w_ hS) ⟨rfl,rfl⟩) ?_)
     refine Ze rfl (Zi _ (fun w_ hS=>Jg ⟨rfl,rfl⟩) ?_)
     refine Ze rfl (Zi (.int .i64 y) (fun w_ hS=>Zj (isAgg3 _) (hS.get hX2 id) rfl ⟨rfl,rfl⟩) ?_)
     refine Ze rfl (Zi (.int .i64 (IntKind.i64.wrap (y+1))) (fun w_ hS=>Jp ⟨rfl,rfl⟩) ?_)
     refine Ze rfl (Zi (.bool false) (fun w_ hS=>ZY rfl ⟨rfl,rfl⟩) ?_)
     refine Ze rfl (Zi (.bool false) (fun w_ hS=>Zx ⟨rfl,rfl⟩) ?_)
     refine Zi (.bool false) (fun w_ hS=>Zr ⟨rfl,rfl⟩) (Zf (Zp (by omega) ?_))
     refine⟨m-1,by omega,j+1,by omega,hf2,fun t ht htn=> ?_,?_⟩
     · rw [Y5     _ _ _ _ htn]
       repeat rw[Y5 _ _ _ _ (nt _ _ ht (by omega))]
       exact hρ t ht htn
     · show i64 _=i64 _;simp
 · refine ZB     (by omega) (Zf       ?_)
   rw[Hw]
   refine hk _ w' hf fun t ht htn=> ?_
   repeat rw[Y5 _ _ _ _ (nt _ _ ht (by omega))]
   exact hρ t ht htn
theorem yg {rv tv fv sv:V} {er et ef es:List Ent} {ρ0:Env} {w1:Y} (hS:Sep (BL Bk rv tv fv sv er et ef es++r) w1) (hk0:KOk Uq N G es) (hN:N≤1099511627) (hG:G≤4) (e0:ρ0 0=ptr Bk) (e3:ρ0 12=i64 0)
   (hk:∀(ρ:Env) w',Fr no w1 w'→ρ 0=ptr Bk→Ht k ρ w'):zE k ρ0 w1:=by
 refine Hk (m:=es.length) k (fun m ρ w'=>∃i:Nat,i+m=es.length∧Fr no w1 w'∧ρ 0=ptr Bk∧ρ 12=i64 i) ?_
   ⟨0,by omega,Fr.refl _ _,e0,e3⟩
 rintro m ρ w' ⟨i,him,hf,e0,e3⟩
 rw[Hr]
 unfold SG
 rw[e0,e3]
 have hS':=hS.q hf
 have ho:=hS'.own 7 rfl
 have hlen:=hk0.1
 refine Zn (UG (Zj (v:=sv) (isAgg68 _) (hS'.cells 0 rfl) rfl (ZF CG (Src.Zt ho) ?_)))
 by_cases hi:i<es.length
 · refine ZA     (by omega) (Zk      (Zn    (UG     (Zj    (v := sv) (isAgg68 _) (hS'.cells 0 rfl) rfl ?_))))
   obtain⟨c0,c1,c2⟩:=YS hi
   refine Um (m:=0) (vs:=[es[i].lv,es[i].gv,es[i].mv]) CG (P9 _) (isAgg165 _) (sizeOf165 _) (Src.Zt ho) hi (by decide) rfl (fun j hj=>by
     match j,hj with
     |0,_=>simpa using c0
     |1,_=>simpa using c1
     |2,_=>simpa using c2) fun q=> ?_
   refine Y9 (zeroValue165 _) ?_
   have hok:=hk0.2 _ (List.getElem_mem hi)
   have hx:=Cy.of hS' (i:=8) (j:=i) (x:=es[i]) rfl (by simp[hi])
   obtain⟨Al,cl,el,-⟩:∃A c,es[i].lv= .slice A es[i].n c∧es[i].n≤c:=by obtain⟨A,c,e,h,_⟩:=hx.lsrc;exact⟨A,c,e,h⟩
   obtain⟨Ag,cg,eg,-⟩:∃A c,es[i].gv= .slice A (es[i].n+es[i].m) c∧es[i].n+es[i].m≤c:=by obtain⟨A,c,e,h,_⟩:=Src.Zt hx.gown;exact⟨A,c,e,h⟩
   obtain⟨y,hy⟩:=id hok.1
   have f1:=Fr.alloc no w' (.cells #[.slice none 0 0,.slice none 0 0,i64 0] 165)
   have b1:=Z2 w' (.cells #[.slice none 0 0,.slice none 0 0,i64 0] 165)
   show pu P _ (w'.alloc (.cells #[.slice none 0 0,.slice none 0 0,i64 0] 165)) _
   have z1:(w'.alloc (.cells #[.slice none 0 0,.slice none 0 0,i64 0] 165)).heap.size=w'.heap.size+1:=by simp
   generalize w'.alloc (.cells #[.slice none 0 0,.slice none 0 0,i64 0] 165)=w2 at *
   refine Va (n:=3) (vs:=[es[i].lv,es[i].gv,es[i].mv]) (sizeOf165 _) rfl (by intro u hu;simp at hu;rcases hu with rfl|rfl|rfl;rw[el];rfl;rw[eg];rfl;rw[hy];rfl) b1 (by show 0+3≤3;decide) fun w3 h3 f3 z3=> ?_
   have h3:w3.heap[w'.heap.size]? =some (.cells #[es[i].lv,es[i].gv,es[i].mv] 165 (0,0)):=by rw[h3];simp
   have f03:Fr no w' w3:=f1.trans f3 fun b hb=> .inr (by omega)
   refine Pk (X:=w'.heap.size) (hx.fr (by decide) f03) hok.1 (by have:=hok.2.1;have:=hok.2.2;omega) h3 rfl rfl fun ρ2 w4 f4 hρ2=> ?_
   have a3:ρ2 12=i64 i:=(hρ2 12 (by omega) (by omega)).trans e3
   have a0:ρ2 0=ptr Bk:=(hρ2 0 (by omega) (by omega)).trans e0
   unfold Hv
   rw[a3]
   refine Zp (by omega) ⟨m-1,by omega,i+1,by omega,(hf.trans f03 fun b hb=> .inl hb).trans f4 fun b hb=> .inl hb,a0,?_⟩
   show i64 _=i64 _;simp
 · refine ZB     (by omega) (Zf       ?_)
   rw[Hu]
   exact hk _ w' hf e0
theorem HK (hS:Sep (Yj Bk N G::r) w) (hN:N≤1099511627) (hG:G≤4) (hk:∀w',Fr no w w'→k (.bool true) w'):pFn P 46 [ptr Bk] w k:=by
 obtain⟨rv,tv,fv,sv,er,et,ef,es,hS,k1,k2,k3,k4⟩:=VA hS
 refine jN _ _ _ ?_
 unfold zH
 refine yd hS k1 hN hG rfl rfl fun ρ w1 f1 e0=> ?_
 unfold zI
 refine ye (hS.q f1) k2 hN hG e0 rfl fun ρ w2 f2 e0=> ?_
 unfold zK
 have f02:=f1.trans f2 fun b hb=> .inl hb
 refine yf (hS.q f02) k3 hN hG e0 rfl fun ρ w3 f3 e0=> ?_
 unfold Hn
 have f03:=f02.trans f3 fun b hb=> .inl hb
 refine yg (hS.q f03) k4 hN hG e0 rfl fun ρ w4 f4 e0=> ?_
 unfold Ht
 exact hk w4 (f03.trans f4 fun b hb=> .inl hb)
end
end Go.Proofs.YtcdcojpfealppaaGreat
