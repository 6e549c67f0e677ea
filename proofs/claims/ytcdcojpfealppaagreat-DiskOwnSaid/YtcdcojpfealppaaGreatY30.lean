/- Put together by a program (wip/tools/shake.py): Desk2,Pair,Pair2,Pair3. -/
import Derived.Test.YtcdcojpfealppaaGreatY29
import Derived.Test.YtcdcojpfealppaaGreatY15
import Derived.Test.YtcdcojpfealppaaGreatY14
set_option linter.unusedVariables false
set_option linter.unusedSimpArgs false
set_option maxRecDepth 100000
open Go renaming World → Y, Value → V
namespace Go.Proofs.YtcdcojpfealppaaGreat
open Go Go.Proofs Go.RowKit Go.Proofs.XRed Go.Proofs.XHeap Go.Proofs.XMaps Go.Proofs.XSlices Go.Proofs.XDisk Go.Proofs.XCalls Go.Proofs.XSep Tryz
section
variable {w w0:Y} {k:KV}
theorem C2 {l:List Int} {i:Nat} (hi:i<l.length):(Qi l)[i]? =some (i64 l[i]):=by unfold Qi;simp[hi]
set_option maxHeartbeats 1000000 in
theorem gq {K n:Nat} {bv pv dv:V} {d:List UInt8} (hK:w.heap[K]? =some (.cells #[bv,pv] 51 (0,0))) (hb:w.ownsRow 0 5 1 bv (d.length+n) (u8s (d++List.replicate n 171))) (hd:Z5 w dv d) (hl:d.length+n≤1099511627776)
   (hk:∀w',Fr no w w'→k (.bool true) w'):pFn P 117 [ptr K,dv] w k:=by
 refine TZ _ _ _ _ ?_
 unfold EP
 refine DC (m:=d.length+n) k (fun m ρ w'=>∃i:Nat,i+m=d.length+n∧Fr no w w'∧ρ 0=ptr K∧ρ 1=dv∧ρ 5=i64 i) ?_ ⟨0,by omega,Fr.refl _ _,rfl,rfl,rfl⟩
 rintro m ρ w' ⟨i,him,hf,e0,e1,e5⟩
 rw[ES]
 unfold RR
 rw[e0,e1,e5]
 have hK':=hf.get hK id
 have hb':=Z4 hb hf fun _ _ h=>h
 have hd':Z5 w' dv d:=hd.fr hf fun _ _ h=>h
 obtain⟨Ad,cd,ed,_⟩:∃A c,dv= .slice A d.length c∧d.length≤c:=by obtain⟨A,c,e,h,_⟩:=hd;exact⟨A,c,e,h⟩
 refine Zn (UB (Zj (v:=bv) (isAgg36 _) hK' rfl (ZF Ya (Src.Zt hb') ?_)))
 by_cases hi:i<d.length+n
 · refine ZA     (by omega) (Zk      ?_)
   obtain⟨g,cap,cur,ev,hcap,hbase,hg,hic,hce,hset⟩:=Xh (i:=i) hb' (by omega)
   have hcell:w'.cell? ⟨g,i,none⟩=(u8s (d++List.replicate n 171))[i]? :=by
     rw[←hce]
     simp[World.cell?,hg]
   have hgw:=ZS hg
   have fd:Fr no w' w'.drew:=Fr.drew _ _
   by_cases hid:i<d.length
   · obtain ⟨b,o,c2,es,hp⟩ := Src.place (size := 1) hd' hid (by omega)
     have g1:w'.cell? ⟨b,o+i*1,none⟩=some (.int .u8 (d[i]).toNat):=hp 0 _ (by omega) (by simpa using B4 hid)
     have g0:w'.cell? ⟨g,i,none⟩=some (.int .u8 (d[i]).toNat):=by
       rw[hcell,B4 (show i<(d++List.replicate n 171).length by simp;omega),List.getElem_append_left hid]
     refine⟨fun x:Y=>x.heap[K]? =some (.cells #[bv,pv] 51 (0,0))∧x.cell? ⟨g,i,none⟩=some (.int .u8 (d[i]).toNat)∧x.cell? ⟨b,o+i*1,none⟩=some (.int .u8 (d[i]).toNat),⟨hK',g0,g1⟩,?_⟩
     refine Zi (i64 d.length) (fun w_ hS=>by rw[ed];exact Yn Ya ⟨rfl,rfl⟩) (Zi (.bool true) (fun w_ hS=>ZA (by omega) ⟨rfl,rfl⟩) ?_)
     refine Ze rfl (Ze rfl (Zi _ (fun w_ hS=>Zn ⟨rfl,rfl⟩) (Ze rfl (Zi _ (fun w_ hS=>UB ⟨rfl,rfl⟩) (Ze rfl (Zi bv (fun w_ hS=>Zj (isAgg36 _) hS.1 rfl ⟨rfl,rfl⟩) (Ze rfl (Ze rfl ?_))))))))
     refine Zi (.pointer (some ⟨g,i,none⟩)) (fun w_ hS=>by rw[ev];exact Ef Ya (Vm _) hi ⟨rfl,rfl⟩) (Ze rfl (Zi (.int .u8 (d[i]).toNat) (fun w_ hS=>Xl (isAgg5 _) hS.2.1 ⟨rfl,rfl⟩) (Ze rfl (Ze rfl (Ze rfl ?_)))))
     refine Zi (.pointer (some ⟨b,o+i*1,none⟩)) (fun w_ hS=>by rw[es];exact Vu (i:=(i:Int)) Ya (Vm _) (by omega) (by omega) ⟨by simp,rfl⟩) (Ze rfl (Zi (.int .u8 (d[i]).toNat) (fun w_ hS=>Xl (isAgg5 _) hS.2.2 ⟨rfl,rfl⟩) (Ze rfl ?_)))
     refine Zi (.bool false) (fun w_ hS=>ZY rfl ⟨rfl,rfl⟩) (Zi (.bool false) (fun w_ hS=>Zx ⟨rfl,rfl⟩) (Ze rfl (Ze rfl (Ze rfl ?_))))
     refine Zi (i64 d.length) (fun w_ hS=>by rw[ed];exact Yn Ya ⟨rfl,rfl⟩) (Ze rfl (Zi (.bool false) (fun w_ hS=>XR (by omega) ⟨rfl,rfl⟩) (Ze rfl ?_)))
     repeat (first|refine Y3 ?_|refine YD ?_)
     refine Ze rfl (Zi (.bool false) (fun w_ hS=>Zr ⟨rfl,rfl⟩) (Zi (.bool false) (fun w_ hS=>Zr ⟨rfl,rfl⟩) (Zf (Zp (by omega) ⟨m-1,by omega,i+1,by omega,hf.trans fd fun b=> .inl,e0,e1,?_⟩))))
     show i64 _=i64 _;simp
   · have g0:w'.cell? ⟨g,i,none⟩=some (.int .u8 ((171:UInt8)).toNat):=by
       rw[hcell,B4 (show i<(d++List.replicate n 171).length by simp;omega),List.getElem_append_right (by omega),List.getElem_replicate]
     refine⟨fun x:Y=>x.heap[K]? =some (.cells #[bv,pv] 51 (0,0))∧x.cell? ⟨g,i,none⟩=some (.int .u8 ((171:UInt8)).toNat),⟨hK',g0⟩,?_⟩
     refine Zi (i64 d.length) (fun w_ hS=>by rw[ed];exact Yn Ya ⟨rfl,rfl⟩) (Zi (.bool false) (fun w_ hS=>ZB (by omega) ⟨rfl,rfl⟩) ?_)
     repeat (first|refine Y3 ?_|refine YD ?_)
     refine Zi (.bool false) (fun w_ hS=>Zr ⟨rfl,rfl⟩) (Ze rfl (Ze rfl (Ze rfl ?_)))
     refine Zi (i64 d.length) (fun w_ hS=>by rw[ed];exact Yn Ya ⟨rfl,rfl⟩) (Ze rfl (Zi (.bool true) (fun w_ hS=>XQ (by omega) ⟨rfl,rfl⟩) (Ze rfl ?_)))
     refine Ze rfl (Ze rfl (Zi _ (fun w_ hS=>Zn ⟨rfl,rfl⟩) (Ze rfl (Zi _ (fun w_ hS=>UB ⟨rfl,rfl⟩) (Ze rfl (Zi bv (fun w_ hS=>Zj (isAgg36 _) hS.1 rfl ⟨rfl,rfl⟩) (Ze rfl (Ze rfl ?_))))))))
     refine Zi (.pointer (some ⟨g,i,none⟩)) (fun w_ hS=>by rw[ev];exact Ef Ya (Vm _) hi ⟨rfl,rfl⟩) (Ze rfl (Zi (.int .u8 ((171:UInt8)).toNat) (fun w_ hS=>Xl (isAgg5 _) hS.2 ⟨rfl,rfl⟩) (Ze rfl ?_)))
     refine Zi (.bool false) (fun w_ hS=>ZY rfl ⟨rfl,rfl⟩) (Ze rfl (Zi (.bool false) (fun w_ hS=>Zx ⟨rfl,rfl⟩) (Zi (.bool false) (fun w_ hS=>Zr ⟨rfl,rfl⟩) (Zf (Zp (by omega) ⟨m-1,by omega,i+1,by omega,hf.trans fd fun b=> .inl,e0,e1,?_⟩)))))
     show i64 _=i64 _;simp
 · refine ZB     (by omega) (Zf       ?_)
   rw[ET]
   exact hk w' hf
set_option maxHeartbeats 1000000 in
theorem Ps {K n:Nat} {bv pv dv:V} {d:List Int} (hK:w.heap[K]? =some (.cells #[bv,pv] 51 (0,0))) (hb:w.ownsRow 0 3 1 pv (d.length+n) (Qi (d++List.replicate n 77))) (hd:Vt w dv d) (hl:d.length+n≤1099511627776)
   (hk:∀w',Fr no w w'→k (.bool true) w'):pFn P 124 [ptr K,dv] w k:=by
 refine Wd _ _ _ _ ?_
 unfold Fb
 refine DF (m:=d.length+n) k (fun m ρ w'=>∃i:Nat,i+m=d.length+n∧Fr no w w'∧ρ 0=ptr K∧ρ 1=dv∧ρ 5=i64 i) ?_ ⟨0,by omega,Fr.refl _ _,rfl,rfl,rfl⟩
 rintro m ρ w' ⟨i,him,hf,e0,e1,e5⟩
 rw[Fe]
 unfold RW
 rw[e0,e1,e5]
 have hK':=hf.get hK id
 have hb':=Z4 hb hf fun _ _ h=>h
 have hd':Vt w' dv d:=hd.fr hf fun _ _ h=>h
 obtain⟨Ad,cd,ed,_⟩:∃A c,dv= .slice A d.length c∧d.length≤c:=by obtain⟨A,c,e,h,_⟩:=hd;exact⟨A,c,e,h⟩
 refine Zn (Ql (Zj (v:=pv) (isAgg39 _) hK' rfl (ZF Vy (Src.Zt hb') ?_)))
 by_cases hi:i<d.length+n
 · refine ZA     (by omega) (Zk      ?_)
   obtain⟨g,cap,cur,ev,hcap,hbase,hg,hic,hce,hset⟩:=Xh (i:=i) hb' (by omega)
   have hcell:w'.cell? ⟨g,i,none⟩=(Qi (d++List.replicate n 77))[i]? :=by
     rw[←hce]
     simp[World.cell?,hg]
   have hgw:=ZS hg
   have fd:Fr no w' w'.drew:=Fr.drew _ _
   by_cases hid:i<d.length
   · obtain ⟨b,o,c2,es,hp⟩ := Src.place (size := 1) hd' hid (by omega)
     have g1:w'.cell? ⟨b,o+i*1,none⟩=some (i64 d[i]):=hp 0 _ (by omega) (by simpa using C2 hid)
     have g0:w'.cell? ⟨g,i,none⟩=some (i64 d[i]):=by
       rw[hcell,C2 (show i<(d++List.replicate n 77).length by simp;omega),List.getElem_append_left hid]
     refine⟨fun x:Y=>x.heap[K]? =some (.cells #[bv,pv] 51 (0,0))∧x.cell? ⟨g,i,none⟩=some (i64 d[i])∧x.cell? ⟨b,o+i*1,none⟩=some (i64 d[i]),⟨hK',g0,g1⟩,?_⟩
     refine Zi (i64 d.length) (fun w_ hS=>by rw[ed];exact Yn Vy ⟨rfl,rfl⟩) (Zi (.bool true) (fun w_ hS=>ZA (by omega) ⟨rfl,rfl⟩) ?_)
     refine Ze rfl (Ze rfl (Zi _ (fun w_ hS=>Zn ⟨rfl,rfl⟩) (Ze rfl (Zi _ (fun w_ hS=>Ql ⟨rfl,rfl⟩) (Ze rfl (Zi pv (fun w_ hS=>Zj (isAgg39 _) hS.1 rfl ⟨rfl,rfl⟩) (Ze rfl (Ze rfl ?_))))))))
     refine Zi (.pointer (some ⟨g,i,none⟩)) (fun w_ hS=>by rw[ev];exact Ef Vy (BR _) hi ⟨rfl,rfl⟩) (Ze rfl (Zi (i64 d[i]) (fun w_ hS=>Xl (isAgg3 _) hS.2.1 ⟨rfl,rfl⟩) (Ze rfl (Ze rfl (Ze rfl ?_)))))
     refine Zi (.pointer (some ⟨b,o+i*1,none⟩)) (fun w_ hS=>by rw[es];exact Vu (i:=(i:Int)) Vy (BR _) (by omega) (by omega) ⟨by simp,rfl⟩) (Ze rfl (Zi (i64 d[i]) (fun w_ hS=>Xl (isAgg3 _) hS.2.2 ⟨rfl,rfl⟩) (Ze rfl ?_)))
     refine Zi (.bool false) (fun w_ hS=>ZY rfl ⟨rfl,rfl⟩) (Zi (.bool false) (fun w_ hS=>Zx ⟨rfl,rfl⟩) (Ze rfl (Ze rfl (Ze rfl ?_))))
     refine Zi (i64 d.length) (fun w_ hS=>by rw[ed];exact Yn Vy ⟨rfl,rfl⟩) (Ze rfl (Zi (.bool false) (fun w_ hS=>XR (by omega) ⟨rfl,rfl⟩) (Ze rfl ?_)))
     repeat (first|refine Y3 ?_|refine YD ?_)
     refine Ze rfl (Zi (.bool false) (fun w_ hS=>Zr ⟨rfl,rfl⟩) (Zi (.bool false) (fun w_ hS=>Zr ⟨rfl,rfl⟩) (Zf (Zp (by omega) ⟨m-1,by omega,i+1,by omega,hf.trans fd fun b=> .inl,e0,e1,?_⟩))))
     show i64 _=i64 _;simp
   · have g0:w'.cell? ⟨g,i,none⟩=some (i64 (77:Int)):=by
       rw[hcell,C2 (show i<(d++List.replicate n 77).length by simp;omega),List.getElem_append_right (by omega),List.getElem_replicate]
     refine⟨fun x:Y=>x.heap[K]? =some (.cells #[bv,pv] 51 (0,0))∧x.cell? ⟨g,i,none⟩=some (i64 (77:Int)),⟨hK',g0⟩,?_⟩
     refine Zi (i64 d.length) (fun w_ hS=>by rw[ed];exact Yn Vy ⟨rfl,rfl⟩) (Zi (.bool false) (fun w_ hS=>ZB (by omega) ⟨rfl,rfl⟩) ?_)
     repeat (first|refine Y3 ?_|refine YD ?_)
     refine Zi (.bool false) (fun w_ hS=>Zr ⟨rfl,rfl⟩) (Ze rfl (Ze rfl (Ze rfl ?_)))
     refine Zi (i64 d.length) (fun w_ hS=>by rw[ed];exact Yn Vy ⟨rfl,rfl⟩) (Ze rfl (Zi (.bool true) (fun w_ hS=>XQ (by omega) ⟨rfl,rfl⟩) (Ze rfl ?_)))
     refine Ze rfl (Ze rfl (Zi _ (fun w_ hS=>Zn ⟨rfl,rfl⟩) (Ze rfl (Zi _ (fun w_ hS=>Ql ⟨rfl,rfl⟩) (Ze rfl (Zi pv (fun w_ hS=>Zj (isAgg39 _) hS.1 rfl ⟨rfl,rfl⟩) (Ze rfl (Ze rfl ?_))))))))
     refine Zi (.pointer (some ⟨g,i,none⟩)) (fun w_ hS=>by rw[ev];exact Ef Vy (BR _) hi ⟨rfl,rfl⟩) (Ze rfl (Zi (i64 (77:Int)) (fun w_ hS=>Xl (isAgg3 _) hS.2 ⟨rfl,rfl⟩) (Ze rfl ?_)))
     refine Zi (.bool false) (fun w_ hS=>ZY rfl ⟨rfl,rfl⟩) (Ze rfl (Zi (.bool false) (fun w_ hS=>Zx ⟨rfl,rfl⟩) (Zi (.bool false) (fun w_ hS=>Zr ⟨rfl,rfl⟩) (Zf (Zp (by omega) ⟨m-1,by omega,i+1,by omega,hf.trans fd fun b=> .inl,e0,e1,?_⟩)))))
     show i64 _=i64 _;simp
 · refine ZB     (by omega) (Zf       ?_)
   rw[Ff]
   exact hk w' hf
theorem yr {K:Nat} {bv pv dv:V} {d:List Int} (hK:w.heap[K]? =some (.cells #[bv,pv] 51 (0,0))) (hd:Vt w dv d) (hdn:0<d.length→∀b,Zv dv=some b→b≠K) (hdl:d.length≤1099511627)
   (hk:∀w' pv' v,w'.heap[K]? =some (.cells #[bv,pv'] 51 (0,0))→w'.ownsRow 0 3 1 pv' (d.length+3) (Qi (d++List.replicate 3 77))→Vt w' v d→(∀b,Zv v=some b→Zv pv'=some b)→Fr (fun b=>b=K) w w'→(∀b,Zv pv'=some b→w.heap.size≤b)→k v w'):
   pFn P 122 [ptr K,dv] w k:=by
 refine Wb _ _ _ _ ?_
 unfold EV
 refine ZF Vy hd (Zp (by omega) ?_)
 refine yq (t:=39) (e:=3) (i:=t3) (z:=i64 0) (by kernel_rfl) (by kernel_rfl) (by kernel_rfl) (by omega) (by show (8:Int)*((d.length:Int)+3)≤_;omega) (by omega) ?_
 have hN:((d.length:Int)+3).toNat=d.length+3:=by omega
 have hmc:madeCells (i64 0).cells (((d.length:Int)+3).toNat*t3.size)=(List.replicate (d.length+3) (i64 0)).toArray:=by
   rw[VC _ rfl,hN,show t3.size=1 by kernel_rfl,Nat.mul_one]
 rw[hmc,hN]
 have b1:=Z2 w (.cells (List.replicate (d.length+3) (i64 0)).toArray 3)
 have f1:=Fr.alloc no w (.cells (List.replicate (d.length+3) (i64 0)).toArray 3)
 have z1:(w.alloc (.cells (List.replicate (d.length+3) (i64 0)).toArray 3)).heap.size=w.heap.size+1:=by simp
 generalize w.alloc (.cells (List.replicate (d.length+3) (i64 0)).toArray 3)=w1 at *
 have ho1:=G7 (base:=0) (size:=1) (n:=d.length+3) b1 (Nat.zero_le _) (by unfold maxLen;omega) (by simp)
 have hKw:=ZS hK
 refine Zn (Ql (YA (sizeOf39 _) rfl rfl (f1.get hK id) (by show 1<2;decide) ?_))
 have b2:=Z6 (f1.get hK id) 1 (.slice (some ⟨w.heap.size,0,none⟩) (d.length+3) (d.length+3))
 have f2:Fr (fun b=>b=K) w1 (w1.setCell ⟨K,1,none⟩ (.slice (some ⟨w.heap.size,0,none⟩) (d.length+3) (d.length+3))):=Fr.setCell w1 ⟨K,1,none⟩ _
 have ho2:=Z4 ho1 f2 fun b hb' (e:b=K)=>by injection hb' with hb';have:w.heap.size=b:=hb';omega
 have f02:Fr (fun b=>b=K) w (w1.setCell ⟨K,1,none⟩ (.slice (some ⟨w.heap.size,0,none⟩) (d.length+3) (d.length+3))):=(f1.mono fun b hb'=>hb'.elim).trans f2 fun b=> .inl
 show CQ k _ (w1.setCell ⟨K,1,none⟩ (.slice (some ⟨w.heap.size,0,none⟩) (d.length+3) (d.length+3)))
 generalize w1.setCell ⟨K,1,none⟩ (.slice (some ⟨w.heap.size,0,none⟩) (d.length+3) (d.length+3))=w2 at *
 have hbl:∀b,Zv (.slice (some ⟨w.heap.size,0,none⟩) (d.length+3) (d.length+3))=some b→b=w.heap.size:=fun b hb'=>by injection hb' with hb';exact hb'.symm
 refine Pq (bb:=List.replicate (d.length+3) 0) (pv:= .slice (some ⟨w.heap.size,0,none⟩) (d.length+3) (d.length+3)) (d:=d) (bv:=bv) b2 ?_ (Vt.fr0 hd f02 hdn) (fun h0 b hb' e=> ?_) (by simp;omega) (by simp) rfl rfl rfl fun w' v g1 g2 g3 g4 g5=> ?_
 · simpa[Qi] using ho2
 · have hbw := hbl b e
   have:=Src.lt (size:=1) hd (by omega) h0 hb'
   omega
 · rw [List.length_replicate,show d.length + 3 - d.length = 3 by omega] at g2
   refine hk w' _ v g1 (by simpa using g2) g3 g4 (f02.trans g5 fun b hb'=> .inr (Nat.le_of_eq (hbl b hb').symm)) fun b hb'=>Nat.le_of_eq (hbl b hb').symm
end
def X5 (K:Nat) (bv pv:V) (bb:Bytes) (pp:List Int):Yf where
 h w O I:=w.heap[K]? =some (.cells #[bv,pv] 51 (0,0))∧w.ownsRow 0 5 1 bv bb.length (u8s bb)∧w.ownsRow 0 3 1 pv pp.length (Qi pp)∧(∀b,O b↔b=K∨Zv bv=some b∨Zv pv=some b)∧∀b,¬I b
 fr:=fun⟨h1,h2,h3,h4,h5⟩ hf hm=>⟨hf.get h1 fun e=>(hm _ e).1 ((h4 _).2 (.inl rfl)),Z4 h2 hf fun b hb e=>(hm b e).1 ((h4 b).2 (.inr (.inl hb))),Z4 h3 hf fun b hb e=>(hm b e).1 ((h4 b).2 (.inr (.inr hb))),h4,h5⟩
 lt:=fun⟨h1,h2,h3,h4,h5⟩ b hb=>by
  rcases hb with hb|hb
  ·rcases (h4 b).1 hb with rfl|hb|hb
   ·exact ZS h1
   ·exact(Zu h2 hb).2
   ·exact(Zu h3 hb).2
  ·exact absurd hb (h5 b)
 ap:=fun⟨h1,h2,h3,h4,h5⟩ b _=>h5 b
def Xw (v:V) (bs:Bytes):Yf where
 h w O I:=Z5 w v bs∧(0<bs.length→∀b,Zv v=some b→I b)∧(∀b,¬O b)∧∀b,I b→b<w.heap.size
 fr:=fun⟨h1,h2,h3,h4⟩ hf hm=>⟨Z5.fr0 h1 hf fun h0 b hb e=>(hm b e).2 (h2 h0 b hb),h2,h3,fun b hb=>Nat.lt_of_lt_of_le (h4 b hb) hf.size⟩
 lt:=fun⟨h1,h2,h3,h4⟩ b hb=>hb.elim (fun h=>absurd h (h3 b)) (h4 b)
 ap:=fun⟨h1,h2,h3,h4⟩ b hb=>absurd hb (h3 b)
section
variable {w w0:Y} {k:KV}
abbrev VL (Pb D E K:Nat) (S:AD) (bv pv:V) (bb:Bytes) (pp:List Int) (l:List Yf):List Yf:=
 Cells Pb #[ptr D,ptr E,ptr K] 33::Dk D S::Rk E S::X5 K bv pv bb pp::l
abbrev Ys (xb:Nat) (x:XT) (dv pv':V) (Pb D E K:Nat) (S T:AD) (bv pv:V) (bb:Bytes) (pp:List Int) (l:List Yf):List Yf:=
 Cells xb (ZC x dv pv').toArray 41::Cells Pb #[ptr D,ptr E,ptr K] 33::Dk D S::Rk E T::X5 K bv pv bb pp::l
abbrev Seen (xb:Nat) (x:XT) (dv pv':V) (Pb D E K:Nat) (w:Y):Prop:=
 w.heap[xb]? =some (.cells (ZC x dv pv').toArray 41 (0,0))∧w.heap[Pb]? =some (.cells #[ptr D,ptr E,ptr K] 33 (0,0))
theorem seen {xb:Nat} {x:XT} {dv pv':V} {Pb D E K:Nat} {l:List Yf} (h:Sep (Cells xb (ZC x dv pv').toArray 41::Cells Pb #[ptr D,ptr E,ptr K] 33::l) w):Seen xb x dv pv' Pb D E K w:=⟨h.cells 0 rfl,h.cells 1 rfl⟩
variable {W:Y} {xb Pb D E K c:Nat} {x:XT} {dv pv' bv pv:V} {S T:AD} {bb:Bytes} {pp:List Int} {l:List Yf}
theorem YT {n:ByteArray} (h:n.size≤maxLen):n.size≤9223372036854775807:=DR h
theorem HW {o1 o2:Operand} (hS:Sep (Ys xb x dv pv' Pb D E K S S bv pv bb pp l) w) (ok:S.Ok c) (hv:V5 W x dv pv') (hk:∀w',Sep (Ys xb x dv pv' Pb D E K (S.create x.name).2 (S.create x.name).2 bv pv bb pp l) w'→k (.bool true) w'):
   ∃ S_ : World → Prop,S_ w.drew ∧ (fun w =>
     pq P S_ (Zh (ptr Pb)) fun v10=>
     pq P S_ (Instr.fieldAt 33 v10 0) fun v11=>
     pq P S_ (Instr.loadAt 29 v11) fun v12=>
     pq P S_ (Instr.fieldAt 41 (ptr xb) 1) fun v13=>
     pq P S_ (Instr.loadAt 9 v13) fun v14=>
     pq P S_ (Zh (ptr Pb)) fun v15=>
     pq P S_ (Instr.fieldAt 33 v15 1) fun v16=>
     pq P S_ (Instr.loadAt 30 v16) fun v17=>
     pq P S_ (Instr.fieldAt 41 (ptr xb) 1) fun v18=>
     pq P S_ (Instr.loadAt 9 v18) fun v19=>
     pFn P 21 [v12,v14] w fun a w=>S_ w∧(
     pFn P 20 [a] w fun b w=>S_ w∧(
     pFn P 61 [v17,v19] w fun c_ w=>S_ w∧(
     pq P S_ (Zd BinOp.eql 3 o1 o2 b c_) fun d=>
     k d w)))) w.drew:=by
 have hS:=hS.q (Fr.drew _ _)
 refine⟨Seen xb x dv pv' Pb D E K,seen hS,?_⟩
 refine Zi _ (fun w_ hS=>Zn ⟨rfl,rfl⟩) (Zi _ (fun w_ hS=>Yr ⟨rfl,rfl⟩) (Zi (ptr D) (fun w_ hS=>Zj (isAgg29 _) hS.2 rfl ⟨rfl,rfl⟩) ?_))
 refine Zi _ (fun w_ hS=>YM ⟨rfl,rfl⟩) (Zi (.string x.name) (fun w_ hS=>Zj (isAgg9 _) hS.1 rfl ⟨rfl,rfl⟩) ?_)
 refine Zi _ (fun w_ hS=>Zn ⟨rfl,rfl⟩) (Zi _ (fun w_ hS=>YL ⟨rfl,rfl⟩) (Zi (ptr E) (fun w_ hS=>Zj (isAgg30 _) hS.2 rfl ⟨rfl,rfl⟩) ?_))
 refine Zi _ (fun w_ hS=>YM ⟨rfl,rfl⟩) (Zi (.string x.name) (fun w_ hS=>Zj (isAgg9 _) hS.1 rfl ⟨rfl,rfl⟩) ?_)
 obtain⟨O,I,L,hd,nx⟩:=Sep.disk hS 2 rfl
 refine AO hd ok x.name (YT hv.name) fun w1 O1 I1 L1 hx=> ?_
 have hS1:Sep (Ys xb x dv pv' Pb D E K (S.create x.name).2 S bv pv bb pp l) w1:=nx _ _ _ _ _ hx
 refine⟨seen hS1,Vi _ ⟨seen hS1,?_⟩⟩
 obtain⟨O,I,L,hr,nr⟩:=Sep.ref hS1 3 rfl
 refine NR hr ok x.name fun w2 O2 I2 L2 hx2=> ?_
 have hS2:Sep (Ys xb x dv pv' Pb D E K (S.create x.name).2 (S.create x.name).2 bv pv bb pp l) w2:=nr _ _ _ _ _ hx2
 exact⟨seen hS2,Zi (.bool true) (fun w_ hS=>ZP rfl ⟨rfl,rfl⟩) (hk w2 hS2)⟩
theorem C3 {o1 o2:Operand} (hS:Sep (Ys xb x dv pv' Pb D E K S S bv pv bb pp l) w) (ok:S.Ok c) (hv:V5 W x dv pv') (hk:∀w',Sep (Ys xb x dv pv' Pb D E K (S.truncate x.name x.n).2 (S.truncate x.name x.n).2 bv pv bb pp l) w'→k (.bool true) w'):
   ∃ S_ : World → Prop,S_ w.drew ∧ (fun w =>
     pq P S_ (Zh (ptr Pb)) fun v10=>
     pq P S_ (Instr.fieldAt 33 v10 0) fun v11=>
     pq P S_ (Instr.loadAt 29 v11) fun v12=>
     pq P S_ (Instr.fieldAt 41 (ptr xb) 1) fun v13=>
     pq P S_ (Instr.loadAt 9 v13) fun v14=>
     pq P S_ (Instr.fieldAt 41 (ptr xb) 4) fun v15=>
     pq P S_ (Instr.loadAt 3 v15) fun v16=>
     pq P S_ (Zh (ptr Pb)) fun v17=>
     pq P S_ (Instr.fieldAt 33 v17 1) fun v18=>
     pq P S_ (Instr.loadAt 30 v18) fun v19=>
     pq P S_ (Instr.fieldAt 41 (ptr xb) 1) fun v20=>
     pq P S_ (Instr.loadAt 9 v20) fun v21=>
     pq P S_ (Instr.fieldAt 41 (ptr xb) 4) fun v22=>
     pq P S_ (Instr.loadAt 3 v22) fun v23=>
     pFn P 67 [v12,v14,v16] w fun a w=>S_ w∧(
     pFn P 20 [a] w fun b w=>S_ w∧(
     pFn P 68 [v19,v21,v23] w fun c_ w=>S_ w∧(
     pq P S_ (Zd BinOp.eql 3 o1 o2 b c_) fun d=>
     k d w)))) w.drew:=by
 have hS:=hS.q (Fr.drew _ _)
 refine⟨Seen xb x dv pv' Pb D E K,seen hS,?_⟩
 refine Zi _ (fun w_ hS=>Zn ⟨rfl,rfl⟩) (Zi _ (fun w_ hS=>Yr ⟨rfl,rfl⟩) (Zi (ptr D) (fun w_ hS=>Zj (isAgg29 _) hS.2 rfl ⟨rfl,rfl⟩) ?_))
 refine Zi _ (fun w_ hS=>YM ⟨rfl,rfl⟩) (Zi (.string x.name) (fun w_ hS=>Zj (isAgg9 _) hS.1 rfl ⟨rfl,rfl⟩) ?_)
 refine Zi _ (fun w_ hS=>Dv ⟨rfl,rfl⟩) (Zi (i64 x.n) (fun w_ hS=>Zj (isAgg3 _) hS.1 rfl ⟨rfl,rfl⟩) ?_)
 refine Zi _ (fun w_ hS=>Zn ⟨rfl,rfl⟩) (Zi _ (fun w_ hS=>YL ⟨rfl,rfl⟩) (Zi (ptr E) (fun w_ hS=>Zj (isAgg30 _) hS.2 rfl ⟨rfl,rfl⟩) ?_))
 refine Zi _ (fun w_ hS=>YM ⟨rfl,rfl⟩) (Zi (.string x.name) (fun w_ hS=>Zj (isAgg9 _) hS.1 rfl ⟨rfl,rfl⟩) ?_)
 refine Zi _ (fun w_ hS=>Dv ⟨rfl,rfl⟩) (Zi (i64 x.n) (fun w_ hS=>Zj (isAgg3 _) hS.1 rfl ⟨rfl,rfl⟩) ?_)
 obtain⟨O,I,L,hd,nx⟩:=Sep.disk hS 2 rfl
 refine Ez hd ok x.name (YT hv.name) x.n fun w1 O1 I1 L1 hx=> ?_
 have hS1:Sep (Ys xb x dv pv' Pb D E K (S.truncate x.name x.n).2 S bv pv bb pp l) w1:=nx _ _ _ _ _ hx
 refine⟨seen hS1,Vi _ ⟨seen hS1,?_⟩⟩
 obtain⟨O,I,L,hr,nr⟩:=Sep.ref hS1 3 rfl
 refine Ee hr ok x.name x.n fun w2 O2 I2 L2 hx2=> ?_
 have hS2:Sep (Ys xb x dv pv' Pb D E K (S.truncate x.name x.n).2 (S.truncate x.name x.n).2 bv pv bb pp l) w2:=nr _ _ _ _ _ hx2
 exact⟨seen hS2,Zi (.bool true) (fun w_ hS=>ZP rfl ⟨rfl,rfl⟩) (hk w2 hS2)⟩
theorem HX {o1 o2:Operand} (hS:Sep (Ys xb x dv pv' Pb D E K S S bv pv bb pp l) w) (ok:S.Ok c) (hv:V5 W x dv pv') (hk:∀w',Sep (Ys xb x dv pv' Pb D E K (S.rename x.name x.to_).2 (S.rename x.name x.to_).2 bv pv bb pp l) w'→k (.bool true) w'):
   ∃ S_ : World → Prop,S_ w.drew ∧ (fun w =>
     pq P S_ (Zh (ptr Pb)) fun v10=>
     pq P S_ (Instr.fieldAt 33 v10 0) fun v11=>
     pq P S_ (Instr.loadAt 29 v11) fun v12=>
     pq P S_ (Instr.fieldAt 41 (ptr xb) 1) fun v13=>
     pq P S_ (Instr.loadAt 9 v13) fun v14=>
     pq P S_ (Instr.fieldAt 41 (ptr xb) 2) fun v15=>
     pq P S_ (Instr.loadAt 9 v15) fun v16=>
     pq P S_ (Zh (ptr Pb)) fun v17=>
     pq P S_ (Instr.fieldAt 33 v17 1) fun v18=>
     pq P S_ (Instr.loadAt 30 v18) fun v19=>
     pq P S_ (Instr.fieldAt 41 (ptr xb) 1) fun v20=>
     pq P S_ (Instr.loadAt 9 v20) fun v21=>
     pq P S_ (Instr.fieldAt 41 (ptr xb) 2) fun v22=>
     pq P S_ (Instr.loadAt 9 v22) fun v23=>
     pFn P 56 [v12,v14,v16] w fun a w=>S_ w∧(
     pFn P 20 [a] w fun b w=>S_ w∧(
     pFn P 69 [v19,v21,v23] w fun c_ w=>S_ w∧(
     pq P S_ (Zd BinOp.eql 3 o1 o2 b c_) fun d=>
     k d w)))) w.drew:=by
 have hS:=hS.q (Fr.drew _ _)
 refine⟨Seen xb x dv pv' Pb D E K,seen hS,?_⟩
 refine Zi _ (fun w_ hS=>Zn ⟨rfl,rfl⟩) (Zi _ (fun w_ hS=>Yr ⟨rfl,rfl⟩) (Zi (ptr D) (fun w_ hS=>Zj (isAgg29 _) hS.2 rfl ⟨rfl,rfl⟩) ?_))
 refine Zi _ (fun w_ hS=>YM ⟨rfl,rfl⟩) (Zi (.string x.name) (fun w_ hS=>Zj (isAgg9 _) hS.1 rfl ⟨rfl,rfl⟩) ?_)
 refine Zi _ (fun w_ hS=>SZ ⟨rfl,rfl⟩) (Zi (.string x.to_) (fun w_ hS=>Zj (isAgg9 _) hS.1 rfl ⟨rfl,rfl⟩) ?_)
 refine Zi _ (fun w_ hS=>Zn ⟨rfl,rfl⟩) (Zi _ (fun w_ hS=>YL ⟨rfl,rfl⟩) (Zi (ptr E) (fun w_ hS=>Zj (isAgg30 _) hS.2 rfl ⟨rfl,rfl⟩) ?_))
 refine Zi _ (fun w_ hS=>YM ⟨rfl,rfl⟩) (Zi (.string x.name) (fun w_ hS=>Zj (isAgg9 _) hS.1 rfl ⟨rfl,rfl⟩) ?_)
 refine Zi _ (fun w_ hS=>SZ ⟨rfl,rfl⟩) (Zi (.string x.to_) (fun w_ hS=>Zj (isAgg9 _) hS.1 rfl ⟨rfl,rfl⟩) ?_)
 obtain⟨O,I,L,hd,nx⟩:=Sep.disk hS 2 rfl
 refine Ca hd ok x.name x.to_ (YT hv.name) (YT hv.to_) fun w1 O1 I1 L1 hx=> ?_
 have hS1:Sep (Ys xb x dv pv' Pb D E K (S.rename x.name x.to_).2 S bv pv bb pp l) w1:=nx _ _ _ _ _ hx
 refine⟨seen hS1,Vi _ ⟨seen hS1,?_⟩⟩
 obtain⟨O,I,L,hr,nr⟩:=Sep.ref hS1 3 rfl
 refine NT hr ok x.name x.to_ fun w2 O2 I2 L2 hx2=> ?_
 have hS2:Sep (Ys xb x dv pv' Pb D E K (S.rename x.name x.to_).2 (S.rename x.name x.to_).2 bv pv bb pp l) w2:=nr _ _ _ _ _ hx2
 exact⟨seen hS2,Zi (.bool true) (fun w_ hS=>ZP rfl ⟨rfl,rfl⟩) (hk w2 hS2)⟩
theorem HY {o1 o2:Operand} (hS:Sep (Ys xb x dv pv' Pb D E K S S bv pv bb pp l) w) (ok:S.Ok c) (hv:V5 W x dv pv') (hk:∀w',Sep (Ys xb x dv pv' Pb D E K (S.remove x.name).2 (S.remove x.name).2 bv pv bb pp l) w'→k (.bool true) w'):
   ∃ S_ : World → Prop,S_ w.drew ∧ (fun w =>
     pq P S_ (Zh (ptr Pb)) fun v10=>
     pq P S_ (Instr.fieldAt 33 v10 0) fun v11=>
     pq P S_ (Instr.loadAt 29 v11) fun v12=>
     pq P S_ (Instr.fieldAt 41 (ptr xb) 1) fun v13=>
     pq P S_ (Instr.loadAt 9 v13) fun v14=>
     pq P S_ (Zh (ptr Pb)) fun v15=>
     pq P S_ (Instr.fieldAt 33 v15 1) fun v16=>
     pq P S_ (Instr.loadAt 30 v16) fun v17=>
     pq P S_ (Instr.fieldAt 41 (ptr xb) 1) fun v18=>
     pq P S_ (Instr.loadAt 9 v18) fun v19=>
     pFn P 59 [v12,v14] w fun a w=>S_ w∧(
     pFn P 20 [a] w fun b w=>S_ w∧(
     pFn P 70 [v17,v19] w fun c_ w=>S_ w∧(
     pq P S_ (Zd BinOp.eql 3 o1 o2 b c_) fun d=>
     k d w)))) w.drew:=by
 have hS:=hS.q (Fr.drew _ _)
 refine⟨Seen xb x dv pv' Pb D E K,seen hS,?_⟩
 refine Zi _ (fun w_ hS=>Zn ⟨rfl,rfl⟩) (Zi _ (fun w_ hS=>Yr ⟨rfl,rfl⟩) (Zi (ptr D) (fun w_ hS=>Zj (isAgg29 _) hS.2 rfl ⟨rfl,rfl⟩) ?_))
 refine Zi _ (fun w_ hS=>YM ⟨rfl,rfl⟩) (Zi (.string x.name) (fun w_ hS=>Zj (isAgg9 _) hS.1 rfl ⟨rfl,rfl⟩) ?_)
 refine Zi _ (fun w_ hS=>Zn ⟨rfl,rfl⟩) (Zi _ (fun w_ hS=>YL ⟨rfl,rfl⟩) (Zi (ptr E) (fun w_ hS=>Zj (isAgg30 _) hS.2 rfl ⟨rfl,rfl⟩) ?_))
 refine Zi _ (fun w_ hS=>YM ⟨rfl,rfl⟩) (Zi (.string x.name) (fun w_ hS=>Zj (isAgg9 _) hS.1 rfl ⟨rfl,rfl⟩) ?_)
 obtain⟨O,I,L,hd,nx⟩:=Sep.disk hS 2 rfl
 refine AP hd ok x.name (YT hv.name) fun w1 O1 I1 L1 hx=> ?_
 have hS1:Sep (Ys xb x dv pv' Pb D E K (S.remove x.name).2 S bv pv bb pp l) w1:=nx _ _ _ _ _ hx
 refine⟨seen hS1,Vi _ ⟨seen hS1,?_⟩⟩
 obtain⟨O,I,L,hr,nr⟩:=Sep.ref hS1 3 rfl
 refine NS hr ok x.name fun w2 O2 I2 L2 hx2=> ?_
 have hS2:Sep (Ys xb x dv pv' Pb D E K (S.remove x.name).2 (S.remove x.name).2 bv pv bb pp l) w2:=nr _ _ _ _ _ hx2
 exact⟨seen hS2,Zi (.bool true) (fun w_ hS=>ZP rfl ⟨rfl,rfl⟩) (hk w2 hS2)⟩
theorem yt {o1 o2:Operand} (hS:Sep (Ys xb x dv pv' Pb D E K S S bv pv bb pp l) w) (ok:S.Ok c) (hv:V5 W x dv pv') (hk:∀w',Sep (Ys xb x dv pv' Pb D E K (S.sync x.name).2 (S.sync x.name).2 bv pv bb pp l) w'→k (.bool true) w'):
   ∃ S_ : World → Prop,S_ w.drew ∧ (fun w =>
     pq P S_ (Zh (ptr Pb)) fun v10=>
     pq P S_ (Instr.fieldAt 33 v10 0) fun v11=>
     pq P S_ (Instr.loadAt 29 v11) fun v12=>
     pq P S_ (Instr.fieldAt 41 (ptr xb) 1) fun v13=>
     pq P S_ (Instr.loadAt 9 v13) fun v14=>
     pq P S_ (Zh (ptr Pb)) fun v15=>
     pq P S_ (Instr.fieldAt 33 v15 1) fun v16=>
     pq P S_ (Instr.loadAt 30 v16) fun v17=>
     pq P S_ (Instr.fieldAt 41 (ptr xb) 1) fun v18=>
     pq P S_ (Instr.loadAt 9 v18) fun v19=>
     pFn P 54 [v12,v14] w fun a w=>S_ w∧(
     pFn P 20 [a] w fun b w=>S_ w∧(
     pFn P 71 [v17,v19] w fun c_ w=>S_ w∧(
     pq P S_ (Zd BinOp.eql 3 o1 o2 b c_) fun d=>
     k d w)))) w.drew:=by
 have hS:=hS.q (Fr.drew _ _)
 refine⟨Seen xb x dv pv' Pb D E K,seen hS,?_⟩
 refine Zi _ (fun w_ hS=>Zn ⟨rfl,rfl⟩) (Zi _ (fun w_ hS=>Yr ⟨rfl,rfl⟩) (Zi (ptr D) (fun w_ hS=>Zj (isAgg29 _) hS.2 rfl ⟨rfl,rfl⟩) ?_))
 refine Zi _ (fun w_ hS=>YM ⟨rfl,rfl⟩) (Zi (.string x.name) (fun w_ hS=>Zj (isAgg9 _) hS.1 rfl ⟨rfl,rfl⟩) ?_)
 refine Zi _ (fun w_ hS=>Zn ⟨rfl,rfl⟩) (Zi _ (fun w_ hS=>YL ⟨rfl,rfl⟩) (Zi (ptr E) (fun w_ hS=>Zj (isAgg30 _) hS.2 rfl ⟨rfl,rfl⟩) ?_))
 refine Zi _ (fun w_ hS=>YM ⟨rfl,rfl⟩) (Zi (.string x.name) (fun w_ hS=>Zj (isAgg9 _) hS.1 rfl ⟨rfl,rfl⟩) ?_)
 obtain⟨O,I,L,hd,nx⟩:=Sep.disk hS 2 rfl
 refine T6 hd ok x.name (YT hv.name) fun w1 O1 I1 L1 hx=> ?_
 have hS1:Sep (Ys xb x dv pv' Pb D E K (S.sync x.name).2 S bv pv bb pp l) w1:=nx _ _ _ _ _ hx
 refine⟨seen hS1,Vi _ ⟨seen hS1,?_⟩⟩
 obtain⟨O,I,L,hr,nr⟩:=Sep.ref hS1 3 rfl
 refine jq hr ok x.name fun w2 O2 I2 L2 hx2=> ?_
 have hS2:Sep (Ys xb x dv pv' Pb D E K (S.sync x.name).2 (S.sync x.name).2 bv pv bb pp l) w2:=nr _ _ _ _ _ hx2
 exact⟨seen hS2,Zi (.bool true) (fun w_ hS=>ZP rfl ⟨rfl,rfl⟩) (hk w2 hS2)⟩
theorem BM {o1 o2:Operand} (hS:Sep (Ys xb x dv pv' Pb D E K S S bv pv bb pp l) w) (ok:S.Ok c) (hv:V5 W x dv pv') (hk:∀w',Sep (Ys xb x dv pv' Pb D E K S.ZR.2 S.ZR.2 bv pv bb pp l) w'→k (.bool true) w'):
   ∃ S_ : World → Prop,S_ w.drew ∧ (fun w =>
     pq P S_ (Zh (ptr Pb)) fun v10=>
     pq P S_ (Instr.fieldAt 33 v10 0) fun v11=>
     pq P S_ (Instr.loadAt 29 v11) fun v12=>
     pq P S_ (Zh (ptr Pb)) fun v13=>
     pq P S_ (Instr.fieldAt 33 v13 1) fun v14=>
     pq P S_ (Instr.loadAt 30 v14) fun v15=>
     pFn P 55 [v12] w fun a w=>S_ w∧(
     pFn P 20 [a] w fun b w=>S_ w∧(
     pFn P 72 [v15] w fun c_ w=>S_ w∧(
     pq P S_ (Zd BinOp.eql 3 o1 o2 b c_) fun d=>
     k d w)))) w.drew:=by
 have hS:=hS.q (Fr.drew _ _)
 refine⟨Seen xb x dv pv' Pb D E K,seen hS,?_⟩
 refine Zi _ (fun w_ hS=>Zn ⟨rfl,rfl⟩) (Zi _ (fun w_ hS=>Yr ⟨rfl,rfl⟩) (Zi (ptr D) (fun w_ hS=>Zj (isAgg29 _) hS.2 rfl ⟨rfl,rfl⟩) ?_))
 refine Zi _ (fun w_ hS=>Zn ⟨rfl,rfl⟩) (Zi _ (fun w_ hS=>YL ⟨rfl,rfl⟩) (Zi (ptr E) (fun w_ hS=>Zj (isAgg30 _) hS.2 rfl ⟨rfl,rfl⟩) ?_))
 obtain⟨O,I,L,hd,nx⟩:=Sep.disk hS 2 rfl
 refine Uw hd ok fun w1 O1 I1 L1 hx=> ?_
 have hS1:Sep (Ys xb x dv pv' Pb D E K S.ZR.2 S bv pv bb pp l) w1:=nx _ _ _ _ _ hx
 refine⟨seen hS1,Vi _ ⟨seen hS1,?_⟩⟩
 obtain⟨O,I,L,hr,nr⟩:=Sep.ref hS1 3 rfl
 refine Cv hr ok fun w2 O2 I2 L2 hx2=> ?_
 have hS2:Sep (Ys xb x dv pv' Pb D E K S.ZR.2 S.ZR.2 bv pv bb pp l) w2:=nr _ _ _ _ _ hx2
 exact⟨seen hS2,Zi (.bool true) (fun w_ hS=>ZP rfl ⟨rfl,rfl⟩) (hk w2 hS2)⟩
theorem Az {l:List Yf} (hS:Sep l w) (i j:Nat) {a:Yf} (hij:i≠j) (hi:l[i]? =some a) (hj:l[j]? =some (Xk W)):
   ∃O I J,a.h w O I∧(∀x,O x→W.heap.size≤x)∧(∀b,I b→J b)∧(∀b,O b→¬J b)∧∀c w' O' I',c.h w' O' I'→Nxt w O J w' O' I'→Sep (l.set i c) w':=by
 obtain⟨O,I,O2,I2,J,h1,⟨_,_,h2⟩,g1,g2,g3,g4,g5⟩:=hS.at2 i j hij hi hj
 exact⟨O,I,J,h1,fun x hx=>by have:=(g1 x hx).2;rw[h2] at this;omega,g3,g4,g5⟩
theorem HZ {l:List Yf} (hS:Sep l w) (i j:Nat) {D:Nat} {S:AD} (hij:i≠j) (hi:l[i]? =some (Rk D S)) (hj:l[j]? =some (Xk W)):
   ∃O I L,YC w D S O I L∧(∀x,O x→W.heap.size≤x)∧∀w' S' O' I' L',RNx w D O I w' S' O' I' L'→Sep (l.set i (Rk D S')) w':=by
 obtain⟨O,I,J,⟨L,h1⟩,h2,h3,_,h5⟩:=Az hS i j hij hi hj
 exact⟨O,I,L,h1,h2,fun w' S' O' I' L' hx=>h5 _ w' O' I' ⟨L',hx.rep⟩ ⟨hx.fr,hx.on,fun b hb=>(hx.in_ b hb).imp (h3 b) id⟩⟩
theorem A0 {dv:V} {d:Bytes} (h:Z5 W dv d):0<d.length→∀b,Zv dv=some b→b<W.heap.size:=fun h0 b hb=>Src.lt (size:=1) h (by omega) h0 hb
theorem yu {l:List Yf} {i j K:Nat} {bv pv dv:V} {bb d:Bytes} {pp:List Int} (hS:Sep l w) (hij:i≠j) (hi:l[i]? =some (X5 K bv pv bb pp)) (hj:l[j]? =some (Xk W)) (hd:Z5 W dv d) (hl:bb.length≤1099511627776) (hdl:d.length≤274877906944)
   (hk:∀w' bv' v n,Sep (l.set i (X5 K bv' pv (d++List.replicate n 171) pp)) w'→(d++List.replicate n (171:UInt8)).length≤max bb.length (2*d.length+40)→Z5 w' v d→(∀b,Zv v=some b→Zv bv'=some b)→k v w'):pFn P 63 [ptr K,dv] w k:=by
 have hf:=hS.VX j hj
 obtain⟨O,I,J,⟨h1,h2,h3,h4,h5⟩,hlow,hIJ,hOJ,nx⟩:=Az hS i j hij hi hj
 have hlt:=fun b hb=>(X5 K bv pv bb pp).lt (w:=w) (O:=O) (I:=I) ⟨h1,h2,h3,h4,h5⟩ b (.inl hb)
 refine zgk h1 h2 (Z5.fr0 hd hf fun _ _ _ h=>h) (fun h0 b hb=> ?_) hl hdl fun w' bv' v bb' n g1 g2 g3 g4 g5 g6 g7 g8=> ?_
 · have hb' := A0       hd h0 b hb
   exact⟨fun e=>by have:=hlow b ((h4 b).2 (.inr (.inl e)));omega,fun e=>by have:=hlow b ((h4 b).2 (.inl e));omega⟩
 · subst g2
   have hbK:∀b,Zv pv=some b→¬(b=K∨Zv bv=some b):=by
     rintro b hb (rfl|e)
     · obtain⟨c1,q1⟩:=Z0 h3 hb;exact absurd (Zy q1 h1) (by decide)
     · obtain ⟨c1,q1⟩ := Z0      h3 hb
       obtain⟨c2,q2⟩:=Z0 h2 e
       exact absurd (Zy q1 q2) (by decide)
   refine hk w' bv' v n (nx _ w' (fun b=>b=K∨Zv bv'=some b∨Zv pv=some b) (fun _=>False) ⟨g1,g4,Z4 h3 g7 hbK,fun _=>Iff.rfl,fun _ h=>h⟩ ⟨g7.mono fun b hb=> .inl ((h4 b).2 (hb.imp id .inl)),fun b hb=> ?_,fun b hb=>hb.elim⟩) g3 g5 g6
   rcases hb with hb|hb|hb
   · exact .inl ((h4 b).2 (.inl hb))
   · exact(g8 b hb).imp (fun e=>(h4 b).2 (.inr (.inl e))) id
   · exact .inl ((h4 b).2 (.inr (.inr hb)))
theorem Ka {l:List Yf} {i j K:Nat} {bv pv dv:V} {bb:Bytes} {pp d:List Int} (hS:Sep l w) (hij:i≠j) (hi:l[i]? =some (X5 K bv pv bb pp)) (hj:l[j]? =some (Xk W)) (hd:Vt W dv d) (hdl:d.length≤1099511627)
   (hk:∀w' pv' v,Sep (l.set i (X5 K bv pv' bb (d++List.replicate 3 77))) w'→Vt w' v d→(∀b,Zv v=some b→Zv pv'=some b)→k v w'):pFn P 122 [ptr K,dv] w k:=by
 have hf:=hS.VX j hj
 obtain⟨O,I,J,⟨h1,h2,h3,h4,h5⟩,hlow,hIJ,hOJ,nx⟩:=Az hS i j hij hi hj
 refine yr h1 (Vt.fr0 hd hf fun _ _ _ h=>h) (fun h0 b hb e=> ?_) hdl fun w' pv' v g1 g2 g3 g4 g5 g6=> ?_
 · have hb' : b < W.heap.size := Src.lt (size := 1) hd (by omega) h0 hb
   have:=hlow b ((h4 b).2 (.inl e));omega
 · have hbK:∀b,Zv bv=some b→¬(b=K):=by
     rintro b hb rfl
     obtain⟨c1,q1⟩:=Z0 h2 hb;exact absurd (Zy q1 h1) (by decide)
   have e3:(d++List.replicate 3 (77:Int)).length=d.length+3:=by simp
   refine hk w' pv' v (nx _ w' (fun b=>b=K∨Zv bv=some b∨Zv pv'=some b) (fun _=>False) ⟨g1,Z4 h2 g5 hbK,by rw[e3];exact g2,fun _=>Iff.rfl,fun _ h=>h⟩ ⟨g5.mono fun b hb=> .inl ((h4 b).2 (.inl hb)),fun b hb=> ?_,fun b hb=>hb.elim⟩) g3 g4
   rcases hb with hb|hb|hb
   · exact .inl ((h4 b).2 (.inl hb))
   · exact .inl ((h4 b).2 (.inr (.inl hb)))
   · exact .inr (g6 b hb)
end
section
variable {w w0:Y} {k:KV}
variable {W:Y} {xb Pb D E K c:Nat} {x:XT} {dv pv' bv pv:V} {S T:AD} {bb:Bytes} {pp:List Int} {l:List Yf}
theorem Kb {n:Nat} (hS:Sep (Ys xb x dv pv' Pb D E K S T bv pv (x.data++List.replicate n 171) pp (Xk W::l)) w) (hv:V5 W x dv pv') (hd:x.data.length≤100000) (hn:x.data.length+n≤1099511627776)
   (hk:∀w' bv' m,Sep (Ys xb x dv pv' Pb D E K S T bv' pv (List.replicate m 171) pp (Xk W::l)) w'→m≤max (x.data.length+n) 40→k (.bool true) w'):pFn P 65 [ptr Pb,XH x dv pv'] w k:=by
 obtain⟨Ad,cd,ed,_⟩:=hv.data.form
 refine uq _ _ _ _ ?_
 unfold TW
 refine Yw ?_
 have hS1:Sep (Cells w.heap.size (ZC x dv pv').toArray 41::Ys xb x dv pv' Pb D E K S T bv pv (x.data++List.replicate n 171) pp (Xk W::l)) (w.alloc (.cells (ZC x dv pv').toArray 41)):=hS.cell _ _
 rw[show (XH x dv pv').cells=(ZC x dv pv').toArray from rfl]
 generalize w.alloc (.cells (ZC x dv pv').toArray 41)=w1 at *
 generalize w.heap.size=x2 at *
 have hS1:=hS1.q (Fr.drew _ _)
 refine⟨fun u=>u.heap[x2]? =some (.cells (ZC x dv pv').toArray 41 (0,0))∧u.heap[Pb]? =some (.cells #[ptr D,ptr E,ptr K] 33 (0,0)),⟨hS1.cells 0 rfl,hS1.cells 2 rfl⟩,?_⟩
 refine Zi _ (fun w_ hS=>Zn ⟨rfl,rfl⟩) (Zi _ (fun w_ hS=>QV ⟨rfl,rfl⟩) (Zi (ptr K) (fun w_ hS=>Zj (isAgg31 _) hS.2 rfl ⟨rfl,rfl⟩) ?_))
 refine Zi _ (fun w_ hS=>JF ⟨rfl,rfl⟩) (Zi dv (fun w_ hS=>Zj (isAgg36 _) hS.1 rfl ⟨rfl,rfl⟩) ?_)
 obtain⟨O,I,⟨h1,h2,_⟩⟩:=hS1.get 5 rfl
 have hdw:=(hv.fr (hS1.VX 6 rfl)).data
 refine gq (n:=n) h1 (by simpa using h2) hdw hn fun w3 f3=> ?_
 have hS3:=hS1.q f3
 refine⟨⟨hS3.cells 0 rfl,hS3.cells 2 rfl⟩,?_⟩
 refine Zn (QV (Zj (v:=ptr K) (isAgg31 _) (hS3.cells 2 rfl) rfl ?_))
 refine yu (d:=[]) hS3 (i:=5) (j:=6) (by decide) rfl rfl (Z5.nil W) (by simp;omega) (by simp) fun w4 bv' v m hS4 hm _ _=> ?_
 have hS5:Sep (Cells x2 (ZC x dv pv').toArray 41::Ys xb x dv pv' Pb D E K S T bv' pv (List.replicate m 171) pp (Xk W::l)) w4:=hS4
 exact hk w4 bv' m hS5.drop (by simpa using hm)
theorem A4 {a:Nat} {w:Y} {k:KV} (ha:w.heap[a]? =some (.cells (ZC x dv pv').toArray 41 (0,0))) (hk:k (XH x dv pv') w):px P (Instr.loadAt 41 (ptr a)) w k:=
 Xm (m:=10) (isAgg41 _) (sizeOf41 _) ha (by show 0+10≤10;decide) hk
set_option maxHeartbeats 1000000 in
theorem Ei {o1 o2:Operand} (hS:Sep (Ys xb x dv pv' Pb D E K S S bv pv bb pp (Xk W::l)) w) (ok:S.Ok c) (hv:V5 W x dv pv') (hd:x.data.length≤100000) (hbb:bb.length≤1000000)
   (hk:∀w' bv' bb',Sep (Ys xb x dv pv' Pb D E K (S.Ye x.name x.at_ x.data).2 (S.Ye x.name x.at_ x.data).2 bv' pv bb' pp (Xk W::l)) w'→bb'.length≤1000000→k (.bool true) w'):
   ∃ S_ : World → Prop,S_ w.drew ∧ (fun w =>
     pq P S_ (Zh (ptr Pb)) fun v28=>
     pq P S_ (Instr.fieldAt 33 v28 0) fun v29=>
     pq P S_ (Instr.loadAt 29 v29) fun v30=>
     pq P S_ (Instr.fieldAt 41 (ptr xb) 1) fun v31=>
     pq P S_ (Instr.loadAt 9 v31) fun v32=>
     pq P S_ (Instr.fieldAt 41 (ptr xb) 3) fun v33=>
     pq P S_ (Instr.loadAt 3 v33) fun v34=>
     pq P S_ (Zh (ptr Pb)) fun v36=>
     pq P S_ (Instr.fieldAt 33 v36 2) fun v37=>
     pq P S_ (Instr.loadAt 31 v37) fun v38=>
     pq P S_ (Instr.fieldAt 41 (ptr xb) 5) fun v39=>
     pq P S_ (Instr.loadAt 36 v39) fun v40=>
     pq P S_ (Zh (ptr Pb)) fun v45=>
     pq P S_ (Instr.fieldAt 33 v45 1) fun v46=>
     pq P S_ (Instr.loadAt 30 v46) fun v47=>
     pq P S_ (Instr.fieldAt 41 (ptr xb) 1) fun v48=>
     pq P S_ (Instr.loadAt 9 v48) fun v49=>
     pq P S_ (Instr.fieldAt 41 (ptr xb) 3) fun v50=>
     pq P S_ (Instr.loadAt 3 v50) fun v51=>
     pq P S_ (Instr.fieldAt 41 (ptr xb) 5) fun v52=>
     pq P S_ (Instr.loadAt 36 v52) fun v53=>
     pFn P 63 [v38,v40] w fun v41 w=>S_ w∧(
     pFn P 62 [v30,v32,v34,v41] w fun v42 w=>S_ w∧(
     pFn P 20 [v42] w fun v43 w=>S_ w∧(
     pFn P 64 [v47,v49,v51,v53] w fun v54 w=>S_ w∧(
     pq P S_ (Zd BinOp.eql 3 o1 o2 v43 v54) fun v55=>
     pGq v55 true (fun k=>k (ptr Pb)) (next:=fun v57=>
     pGq v55 true (fun k=>pq P S_ (Instr.loadAt 41 (ptr xb)) k) (next:=fun v58=>
     pG v55 true (fun k=>pFn P 65 [v57,v58] w k) (w:=w) (next:=fun v59 w=>S_ w∧(
     pq P S_ (Zs v55 v59 (.bool false)) fun v60=>
     k v60 w))))))))) w.drew:=by
 have hS:=hS.q (Fr.drew _ _)
 refine⟨Seen xb x dv pv' Pb D E K,seen hS,?_⟩
 refine Zi _ (fun w_ hS=>Zn ⟨rfl,rfl⟩) (Zi _ (fun w_ hS=>Yr ⟨rfl,rfl⟩) (Zi (ptr D) (fun w_ hS=>Zj (isAgg29 _) hS.2 rfl ⟨rfl,rfl⟩) ?_))
 refine Zi _ (fun w_ hS=>YM ⟨rfl,rfl⟩) (Zi (.string x.name) (fun w_ hS=>Zj (isAgg9 _) hS.1 rfl ⟨rfl,rfl⟩) ?_)
 refine Zi _ (fun w_ hS=>Du ⟨rfl,rfl⟩) (Zi (i64 x.at_) (fun w_ hS=>Zj (isAgg3 _) hS.1 rfl ⟨rfl,rfl⟩) ?_)
 refine Zi _ (fun w_ hS=>Zn ⟨rfl,rfl⟩) (Zi _ (fun w_ hS=>QV ⟨rfl,rfl⟩) (Zi (ptr K) (fun w_ hS=>Zj (isAgg31 _) hS.2 rfl ⟨rfl,rfl⟩) ?_))
 refine Zi _ (fun w_ hS=>JF ⟨rfl,rfl⟩) (Zi dv (fun w_ hS=>Zj (isAgg36 _) hS.1 rfl ⟨rfl,rfl⟩) ?_)
 refine Zi _ (fun w_ hS=>Zn ⟨rfl,rfl⟩) (Zi _ (fun w_ hS=>YL ⟨rfl,rfl⟩) (Zi (ptr E) (fun w_ hS=>Zj (isAgg30 _) hS.2 rfl ⟨rfl,rfl⟩) ?_))
 refine Zi _ (fun w_ hS=>YM ⟨rfl,rfl⟩) (Zi (.string x.name) (fun w_ hS=>Zj (isAgg9 _) hS.1 rfl ⟨rfl,rfl⟩) ?_)
 refine Zi _ (fun w_ hS=>Du ⟨rfl,rfl⟩) (Zi (i64 x.at_) (fun w_ hS=>Zj (isAgg3 _) hS.1 rfl ⟨rfl,rfl⟩) ?_)
 refine Zi _ (fun w_ hS=>JF ⟨rfl,rfl⟩) (Zi dv (fun w_ hS=>Zj (isAgg36 _) hS.1 rfl ⟨rfl,rfl⟩) ?_)
 refine yu hS (i:=4) (j:=5) (by decide) rfl rfl hv.data (by omega) (by omega) fun w1 bv1 v n hS1 hlen hv1 hvb=> ?_
 replace hS1:Sep (Ys xb x dv pv' Pb D E K S S bv1 pv (x.data++List.replicate n 171) pp (Xk W::l)) w1:=hS1
 refine⟨seen hS1,?_⟩
 obtain⟨O,I,O2,I2,J,⟨L,hdr⟩,⟨_,_,_,hO2,_⟩,g1,g2,g3,g4,nx⟩:=hS1.at2 2 4 (by decide) rfl rfl
 refine Cc hdr ok x.name (YT hv.name) x.at_ hv1 (fun b hb ho=>(g1 b ho).1 ((hO2 b).2 (.inr (.inl (hvb b hb))))) (by omega) fun w2 O' I' L' hx=> ?_
 have hS2:Sep (Ys xb x dv pv' Pb D E K (S.Ye x.name x.at_ x.data).2 S bv1 pv (x.data++List.replicate n 171) pp (Xk W::l)) w2:=nx _ w2 O' I' ⟨L',hx.rep⟩ (hx.nxt g3)
 refine⟨seen hS2,Vi _ ⟨seen hS2,?_⟩⟩
 obtain⟨O,I,L,hr,hlow,nr⟩:=HZ hS2 3 5 (by decide) rfl rfl
 have hdw:=(hv.fr (hS2.VX 5 rfl)).data
 refine B7 hr ok x.name x.at_ hv.at_ hdw (fun h0 b hb ho=>by have:=A0 hv.data h0 b hb;have:=hlow b ho;omega) (by omega) fun w3 O3 I3 L3 hx3=> ?_
 have hS3:Sep (Ys xb x dv pv' Pb D E K (S.Ye x.name x.at_ x.data).2 (S.Ye x.name x.at_ x.data).2 bv1 pv (x.data++List.replicate n 171) pp (Xk W::l)) w3:=nr _ _ _ _ _ hx3
 refine⟨seen hS3,Zi (.bool true) (fun w_ hS=>ZP rfl ⟨rfl,rfl⟩) (Ze rfl (Ze rfl ?_))⟩
 refine Zi (XH x dv pv') (fun w_ hS=>A4 hS.1 ⟨rfl,rfl⟩) (Zl rfl ?_)
 rw[List.length_append,List.length_replicate] at hlen
 refine Kb hS3 hv hd (by omega) fun w4 bv4 m hS4 hm=>⟨seen hS4,Zi (.bool true) (fun w_ hS=>Zx ⟨rfl,rfl⟩) (hk w4 bv4 _ hS4 (by rw[List.length_replicate];omega))⟩
set_option maxHeartbeats 1000000 in
theorem Kc {o1 o2:Operand} (hS:Sep (Ys xb x dv pv' Pb D E K S S bv pv bb pp (Xk W::l)) w) (ok:S.Ok c) (hv:V5 W x dv pv') (hd:x.data.length≤100000) (hbb:bb.length≤1000000)
   (hk:∀w' bv' bb',Sep (Ys xb x dv pv' Pb D E K (S.append x.name x.data).2 (S.append x.name x.data).2 bv' pv bb' pp (Xk W::l)) w'→bb'.length≤1000000→k (.bool true) w'):
   ∃ S_ : World → Prop,S_ w.drew ∧ (fun w =>
     pq P S_ (Zh (ptr Pb)) fun v28=>
     pq P S_ (Instr.fieldAt 33 v28 0) fun v29=>
     pq P S_ (Instr.loadAt 29 v29) fun v30=>
     pq P S_ (Instr.fieldAt 41 (ptr xb) 1) fun v31=>
     pq P S_ (Instr.loadAt 9 v31) fun v32=>
     pq P S_ (Zh (ptr Pb)) fun v36=>
     pq P S_ (Instr.fieldAt 33 v36 2) fun v37=>
     pq P S_ (Instr.loadAt 31 v37) fun v38=>
     pq P S_ (Instr.fieldAt 41 (ptr xb) 5) fun v39=>
     pq P S_ (Instr.loadAt 36 v39) fun v40=>
     pq P S_ (Zh (ptr Pb)) fun v45=>
     pq P S_ (Instr.fieldAt 33 v45 1) fun v46=>
     pq P S_ (Instr.loadAt 30 v46) fun v47=>
     pq P S_ (Instr.fieldAt 41 (ptr xb) 1) fun v48=>
     pq P S_ (Instr.loadAt 9 v48) fun v49=>
     pq P S_ (Instr.fieldAt 41 (ptr xb) 5) fun v52=>
     pq P S_ (Instr.loadAt 36 v52) fun v53=>
     pFn P 63 [v38,v40] w fun v41 w=>S_ w∧(
     pFn P 23 [v30,v32,v41] w fun v42 w=>S_ w∧(
     pFn P 20 [v42] w fun v43 w=>S_ w∧(
     pFn P 66 [v47,v49,v53] w fun v54 w=>S_ w∧(
     pq P S_ (Zd BinOp.eql 3 o1 o2 v43 v54) fun v55=>
     pGq v55 true (fun k=>k (ptr Pb)) (next:=fun v57=>
     pGq v55 true (fun k=>pq P S_ (Instr.loadAt 41 (ptr xb)) k) (next:=fun v58=>
     pG v55 true (fun k=>pFn P 65 [v57,v58] w k) (w:=w) (next:=fun v59 w=>S_ w∧(
     pq P S_ (Zs v55 v59 (.bool false)) fun v60=>
     k v60 w))))))))) w.drew:=by
 have hS:=hS.q (Fr.drew _ _)
 refine⟨Seen xb x dv pv' Pb D E K,seen hS,?_⟩
 refine Zi _ (fun w_ hS=>Zn ⟨rfl,rfl⟩) (Zi _ (fun w_ hS=>Yr ⟨rfl,rfl⟩) (Zi (ptr D) (fun w_ hS=>Zj (isAgg29 _) hS.2 rfl ⟨rfl,rfl⟩) ?_))
 refine Zi _ (fun w_ hS=>YM ⟨rfl,rfl⟩) (Zi (.string x.name) (fun w_ hS=>Zj (isAgg9 _) hS.1 rfl ⟨rfl,rfl⟩) ?_)
 refine Zi _ (fun w_ hS=>Zn ⟨rfl,rfl⟩) (Zi _ (fun w_ hS=>QV ⟨rfl,rfl⟩) (Zi (ptr K) (fun w_ hS=>Zj (isAgg31 _) hS.2 rfl ⟨rfl,rfl⟩) ?_))
 refine Zi _ (fun w_ hS=>JF ⟨rfl,rfl⟩) (Zi dv (fun w_ hS=>Zj (isAgg36 _) hS.1 rfl ⟨rfl,rfl⟩) ?_)
 refine Zi _ (fun w_ hS=>Zn ⟨rfl,rfl⟩) (Zi _ (fun w_ hS=>YL ⟨rfl,rfl⟩) (Zi (ptr E) (fun w_ hS=>Zj (isAgg30 _) hS.2 rfl ⟨rfl,rfl⟩) ?_))
 refine Zi _ (fun w_ hS=>YM ⟨rfl,rfl⟩) (Zi (.string x.name) (fun w_ hS=>Zj (isAgg9 _) hS.1 rfl ⟨rfl,rfl⟩) ?_)
 refine Zi _ (fun w_ hS=>JF ⟨rfl,rfl⟩) (Zi dv (fun w_ hS=>Zj (isAgg36 _) hS.1 rfl ⟨rfl,rfl⟩) ?_)
 refine yu hS (i:=4) (j:=5) (by decide) rfl rfl hv.data (by omega) (by omega) fun w1 bv1 v n hS1 hlen hv1 hvb=> ?_
 replace hS1:Sep (Ys xb x dv pv' Pb D E K S S bv1 pv (x.data++List.replicate n 171) pp (Xk W::l)) w1:=hS1
 refine⟨seen hS1,?_⟩
 obtain⟨O,I,O2,I2,J,⟨L,hdr⟩,⟨_,_,_,hO2,_⟩,g1,g2,g3,g4,nx⟩:=hS1.at2 2 4 (by decide) rfl rfl
 refine Q2 hdr ok x.name (YT hv.name) hv1 (fun b hb ho=>(g1 b ho).1 ((hO2 b).2 (.inr (.inl (hvb b hb))))) (by omega) fun w2 O' I' L' hx=> ?_
 have hS2:Sep (Ys xb x dv pv' Pb D E K (S.append x.name x.data).2 S bv1 pv (x.data++List.replicate n 171) pp (Xk W::l)) w2:=nx _ w2 O' I' ⟨L',hx.rep⟩ (hx.nxt g3)
 refine⟨seen hS2,Vi _ ⟨seen hS2,?_⟩⟩
 obtain⟨O,I,L,hr,hlow,nr⟩:=HZ hS2 3 5 (by decide) rfl rfl
 have hdw:=(hv.fr (hS2.VX 5 rfl)).data
 refine NW hr ok x.name hdw (fun h0 b hb ho=>by have:=A0 hv.data h0 b hb;have:=hlow b ho;omega) (by omega) fun w3 O3 I3 L3 hx3=> ?_
 have hS3:Sep (Ys xb x dv pv' Pb D E K (S.append x.name x.data).2 (S.append x.name x.data).2 bv1 pv (x.data++List.replicate n 171) pp (Xk W::l)) w3:=nr _ _ _ _ _ hx3
 refine⟨seen hS3,Zi (.bool true) (fun w_ hS=>ZP rfl ⟨rfl,rfl⟩) (Ze rfl (Ze rfl ?_))⟩
 refine Zi (XH x dv pv') (fun w_ hS=>A4 hS.1 ⟨rfl,rfl⟩) (Zl rfl ?_)
 rw[List.length_append,List.length_replicate] at hlen
 refine Kb hS3 hv hd (by omega) fun w4 bv4 m hS4 hm=>⟨seen hS4,Zi (.bool true) (fun w_ hS=>Zx ⟨rfl,rfl⟩) (hk w4 bv4 _ hS4 (by rw[List.length_replicate];omega))⟩
end
section
variable {w w0:Y} {k:KV}
variable {W:Y} {xb Pb D E K c:Nat} {x:XT} {dv pv' bv pv:V} {S T:AD} {bb:Bytes} {pp:List Int} {l:List Yf}
theorem Xw.mk {w:Y} {v:V} {bs:Bytes} (h:Z5 w v bs):(Xw v bs).h w (fun _=>False) (fun b=>0<bs.length∧Zv v=some b):=
 ⟨h,fun h0 b hb=>⟨h0,hb⟩,fun _ h=>h,fun b hb=>Src.lt (size:=1) h (by omega) hb.1 hb.2⟩
theorem gr {l:List Yf} {i:Nat} {D:Nat} {S:AD} {c:Nat} (hS:Sep l w) (hi:l[i]? =some (Dk D S)) (ok:S.Ok c) (name:ByteArray) (hs:name.size≤9223372036854775807) (a n:Int) (hn:-9223372036854775808≤a∧a≤9223372036854775807)
   (hk:∀w' v,Sep (l.set i (star (Dk D (S.read name a n).2.2) (Xw v (S.read name a n).2.1))) w'→k (.tuple #[v,i64 (S.read name a n).1]) w'):pFn P 32 [ptr D,.string name,i64 a,i64 n] w k:=by
 obtain⟨O,I,J,⟨L,h1⟩,g1,g2,nx⟩:=hS.at_ i hi
 refine Sy h1 ok name hs a n hn fun w' O' I' L' v hx hv hb=>hk w' v (nx _ w' O' (fun b=>I' b∨(0<(S.read name a n).2.1.length∧Zv v=some b)) ⟨O',I',_,_,⟨L',hx.rep⟩,Xw.mk hv,⟨fun b hb'=>⟨id,fun e=>(hb b e.2).2 hb'⟩,fun b hb'=>hb'.elim⟩,fun b=>by simp,fun b=>Iff.rfl⟩ ⟨hx.fr,hx.on,fun b hb'=> ?_⟩)
 rcases hb' with hb'|hb'
 · exact(hx.in_ b hb').imp (g1 b) id
 · exact .inr (hb b hb'.2).1
theorem Kd {l:List Yf} {i:Nat} {D:Nat} {S:AD} {c:Nat} (hS:Sep l w) (hi:l[i]? =some (Rk D S)) (ok:S.Ok c) (name:ByteArray) (a n:Int) (hn:-9223372036854775808≤a∧a≤9223372036854775807)
   (hk:∀w' v,Sep (l.set i (star (Rk D (S.read name a n).2.2) (Xw v (S.read name a n).2.1))) w'→k (.tuple #[v,i64 (S.read name a n).1]) w'):pFn P 34 [ptr D,.string name,i64 a,i64 n] w k:=by
 obtain⟨O,I,J,⟨L,h1⟩,g1,g2,nx⟩:=hS.at_ i hi
 refine js h1 ok name a n hn fun w' O' I' L' v hx hv hb=>hk w' v (nx _ w' O' (fun b=>I' b∨(0<(S.read name a n).2.1.length∧Zv v=some b)) ⟨O',I',_,_,⟨L',hx.rep⟩,Xw.mk hv,⟨fun b hb'=>⟨id,fun e=>(hb b e.2).2.2 hb'⟩,fun b hb'=>hb'.elim⟩,fun b=>by simp,fun b=>Iff.rfl⟩ ⟨hx.fr,hx.on,fun b hb'=> ?_⟩)
 rcases hb' with hb'|hb'
 · exact(hx.in_ b hb').imp (g1 b) id
 · exact .inr (hb b hb'.2).1
theorem Pu {S:AD} {c:Nat} (ok:S.Ok c) (name:ByteArray) (a n:Int):(S.read name a n).2.1.length≤1048576:=by
 unfold AD.read
 split
 ·simp
 ·split
  ·simp
  ·rename_i h _
   have hl:S.look name=0:=by simpa using h
   have hre:reach S (S.of name):= .inl ⟨name,ZU (HT hl).2⟩
   have:=(ok.Yk _ hre).ok.len.1
   have e:S.bytes name=(S.things (S.of name)).shown:=rfl
   simp only[List.length_take,List.length_drop,e]
   omega
theorem QR (S:AD) {c:Nat} (ok:S.Ok c) (p:ByteArray):(AD.Y2 S p).length≤256:=by
 unfold AD.Y2
 split
 ·simp
 ·refine Nat.le_trans (List.length_filter_le _ _) ?_
  rw[List.length_map];exact ok.turns.len.1
theorem C4 {S:AD} {c:Nat} (ok:S.Ok c) (picks:List Int):∀p∈S.Z7 picks,p.1.size≤maxLen:=fun p hp=>by have:=ok.XI picks p hp;unfold maxLen;omega
abbrev nZ:ByteArray:=ByteArray.mk #[122,122]
theorem zgo {i:Nat} {l:List Yf} {kk:V→V→V→V→V→V→V→V→KV} (hS:Sep l w) (hi:l[i]? =some (Dk D S)) (ok:S.Ok c) (hc:c≤1000000) (hk:∀w' S',Sep (l.set i (Dk D S')) w'→∀x1 x2 x3 x4 x5 x6 x7 x8 x9,kk x1 x2 x3 x4 x5 x6 x7 x8 x9 w'):
   pFn P 21 [ptr D,.string nZ] w fun v193 w=>px P (Instr.buildSlice 36 1 #[(0,(.int .u8 119))]) w fun v195 w=>px P (convert 36 36 v195) w fun v196 w=>pFn P 23 [ptr D,.string nZ,v196] w fun v197 w=>pFn P 55 [ptr D] w fun v199 w=>pFn P 125 [ptr D] w fun v201 w=>
     px P (Instr.build 38 #[(0,(i64 1))]) w fun v203 w=>pFn P 22 [ptr D,v203] w fun v204 w=>pFn P 59 [ptr D,.string nZ] w fun v206 w=>kk v193 v195 v196 v197 v199 v201 v203 v204 v206 w:=by
 have hlt:∀ {S1 S2:AD} (l:List Yf),(l.set i (Dk D S1)).set i (Dk D S2)=l.set i (Dk D S2):=fun l=>by rw[List.set_set]
 have hat:∀ {S1:AD},(l.set i (Dk D S1))[i]? =some (Dk D S1):=by
   intro S1
   have:=(List.getElem?_eq_some_iff.1 hi).1
   simp[this]
 have hz:nZ.size≤9223372036854775807:=by decide
 obtain⟨O,I,L,hd,nx⟩:=Sep.disk hS i hi
 refine AO hd ok nZ hz fun w1 O1 I1 L1 hx=> ?_
 have hS1:=nx _ _ _ _ _ hx
 have ok1:=ok.create (by omega) nZ
 generalize (S.create nZ).2=S1 at *
 generalize (S.create nZ).1=e1 at *
 obtain⟨O,I,L,hd,nx⟩:=Sep.disk hS1 i hat
 refine Q8 hd [119] (by kernel_rfl) fun w2 v f hv hO hR=> ?_
 refine Q2 hR ok1 nZ hz hv hO (by decide) fun w3 O3 I3 L3 hx=> ?_
 have hS3:=nx _ _ _ _ _ (Nx.from f hx hd.lt)
 rw[hlt] at hS3
 have ok3:=ok1.append (by omega) nZ [119]
 generalize (S1.append nZ [119]).2=S3 at *
 generalize (S1.append nZ [119]).1=e3 at *
 obtain⟨O,I,L,hd,nx⟩:=Sep.disk hS3 i hat
 refine Uw hd ok3 fun w4 O4 I4 L4 hx=> ?_
 have hS4:=nx _ _ _ _ _ hx
 rw[hlt] at hS4
 have ok4:=ok3.ZR (by omega)
 generalize S3.ZR.2=S4 at *
 generalize S3.ZR.1=e4 at *
 obtain⟨O,I,L,hd,nx⟩:=Sep.disk hS4 i hat
 refine G4 hd ok4.room.1 fun w5 O5 I5 L5 hx=> ?_
 have hS5:=nx _ _ _ _ _ hx
 rw[hlt] at hS5
 have ok5:=ok4.YW
 generalize S4.YW=S5 at *
 refine Z9 (w':=w5) (v:=Jk ⟨1,0,0⟩) (by kernel_rfl) ?_
 obtain⟨O,I,L,hd,nx⟩:=Sep.disk hS5 i hat
 refine T7 hd ok5.room.1 ⟨1,0,0⟩ fun w6 O6 I6 L6 hx=> ?_
 have hS6:=nx _ _ _ _ _ hx
 rw[hlt] at hS6
 have ok6:=ok5.Vn ⟨1,0,0⟩
 generalize S5.Vn ⟨1,0,0⟩=S6 at *
 obtain⟨O,I,L,hd,nx⟩:=Sep.disk hS6 i hat
 refine AP hd ok6 nZ hz fun w7 O7 I7 L7 hx=> ?_
 have hS7:=nx _ _ _ _ _ hx
 rw[hlt] at hS7
 exact hk w7 _ hS7 _ _ _ _ _ _ _ _ _
end
end Go.Proofs.YtcdcojpfealppaaGreat
