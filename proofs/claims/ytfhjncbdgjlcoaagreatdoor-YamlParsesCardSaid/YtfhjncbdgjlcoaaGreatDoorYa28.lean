import Derived.Test.YtfhjncbdgjlcoaaGreatDoorYa27
set_option maxRecDepth 100000
set_option maxHeartbeats 4000000
set_option linter.unusedVariables false
set_option linter.unusedSimpArgs false
namespace Go.Proofs.YtfhjncbdgjlcoaaGreatDoor
section
open Go.RowKit Go.Maps Go.WideMaps
open Go.Lib hiding intOf
def Fv (txt:aA) (ns:List aH) (p:Option Addr) (c:Nat) (lv:Nat):Prop:= ∀(k m:Nat) (w:World),fF ns lv k m->qT w p ns->
 Calls Tryz.prog 94 #[.agg #[bs txt, .slice p ns.length c],k] w (mJ (bE txt ns lv k) w)
theorem CS.text {W w:World}{Y:Nat}{k:Int}{s:aA} (h:CS W Y k s [] [] (.slice none 0 0) (.slice none 0 0) w) (s2:aA):CS W Y k s2 [] [] (.slice none 0 0) (.slice none 0 0) (w.setCell ⟨Y,1,none⟩ (.string (bs s2))):=
 ⟨by have:=rZ h.box 1 (.string (bs s2));exact this,bP.nil _ _,(λe=>by cases e),gB.nil _ _ _,h.bel.setCell (p:=⟨Y,1,none⟩) h.new_ _,h.new_⟩
abbrev mP (W:World) (D X g gk i q:Nat) (txt:ByteArray) (n c nk ck:Nat) (k1 k2:Int) (w:World):Prop:=
 (w.cell? ⟨D,0,none⟩=some (.string txt)/\w.cell? ⟨D,1,none⟩=some (.slice (some ⟨g,0,none⟩) n c)/\w.cell? ⟨X,5,none⟩=some (.slice (some ⟨gk,0,none⟩) nk ck)/\w.cell? ⟨gk,i,none⟩=some (.int .i64 (q:Int))/\w.cell? ⟨g,q*7+3,none⟩=some (.int .i64 k1)/\w.cell? ⟨g,q*7+4,none⟩=some (.int .i64 k2))/\Hid (Below W.heap.size W w)
section
variable {W w w2:World}{D X g gk i q:Nat}{txt:ByteArray}{n c nk ck:Nat}{k1 k2:Int}
theorem mP.bel (h:mP W D X g gk i q txt n c nk ck k1 k2 w):Below W.heap.size W w:=h.2.out
theorem mP.step (h:mP W D X g gk i q txt n c nk ck k1 k2 w) (hb:Below w.heap.size w w2):mP W D X g gk i q txt n c nk ck k1 k2 w2:=by
 obtain⟨⟨a,j,d,e,k,b⟩,f⟩:=h;exact⟨⟨cM a hb,cM j hb,cM d hb,cM e hb,cM k hb,cM b hb⟩,hid (aC f.out hb)⟩
theorem mP.drew (h:mP W D X g gk i q txt n c nk ck k1 k2 w):mP W D X g gk i q txt n c nk ck k1 k2 w.drew:=h.step (aB _ _).drew
end
theorem aAC (txt:aA) (ns:List aH) (p:Option Addr) (c:Nat) (hN:ns.length<=65536) (hs:txt.length<=1073741824) (lv:Nat) (IH:Fv txt ns p c lv):Fv txt ns p c (lv+1):=by
 intro k m w hT hn;obtain⟨x,hx⟩: ∃x,ns[k]?=some x:=by obtain⟨x,hx,_⟩:=hT;exact⟨x,hx⟩
 have gv:=hid (λq (Z:q∈x.kids)=>hT.kid hx Z);obtain⟨g,hp,kv,pv,n0,n1,n2,n3,n4,n5,n6,n7,n8⟩:=hn k x hx;obtain⟨pq,cq,rfl,Z⟩:=n7;obtain⟨pz,cz,rfl,_⟩:=n8;have hk:=(aR.1 hx).1;have dm:bE txt ns (lv+1) k= .mk (x.kind:Int) (nT x.kind (fZ txt (x.sf,x.st))) (fA txt ns x.kind x.kids) (x.kids.map (bE txt ns lv)):=by rw[bE,hx];rfl
 rw[dm];have ks:=hp;subst hp;obtain⟨D,hD⟩:=exQ<|w.heap.size;obtain⟨W1,bo⟩:=exQ<|w.alloc (.cells #[bs txt, .slice (some ⟨g,0,none⟩) ns.length c] 134);obtain⟨R,G⟩:=exQ<|W1.heap.size;obtain⟨W2,aY⟩:=exQ<|W1.alloc (.cells #[(0:Int), .string ⟨#[]⟩,(),()] 36);obtain⟨X,hX⟩:=exQ<|W2.heap.size;obtain⟨W3,a6⟩:=exQ<|W2.alloc (.cells #[.int .i64 (x.kind:Int), .int .i64 (x.sf:Int), .int .i64 (x.st:Int), .int .i64 (x.key.1:Int), .int .i64 (x.key.2:Int), .slice pq x.kids.length cq, .slice pz x.pcs.length cz] 167);have lU:Below w.heap.size w W1:=by rw[<-bo];exact aL _ _
 have ex:Below W1.heap.size W1 W2:=by rw[<-aY];exact aL _ _
 have fy:Below W2.heap.size W2 W3:=by rw[<-a6];exact aL _ _
 have a9:=hid (aC lU ex);have bf:=hid (aC a9.out fy);have jd:W1.heap[D]?=some (.cells #[bs txt, .slice (some ⟨g,0,none⟩) ns.length c] 134):=by rw[<-bo,<-hD];exact heap_alloc_new w _
 have gf:=aF jd;have jO:Hid (W3.heap[D]?=some (.cells #[bs txt, .slice (some ⟨g,0,none⟩) ns.length c] 134)):=hid ((fy.block D (iX gf ex.size)).trans ((ex.block D gf).trans jd));have ka:W2.heap[R]?=some (.cells #[(0:Int),bs [],(),()] 36):=by rw[<-aY,<-G];exact heap_alloc_new W1 _
 have gj:Hid (W3.heap[R]?=some (.cells #[(0:Int),bs [],(),()] 36)):=hid ((fy.block R (aF ka)).trans ka);have ec:Hid (W3.heap[X]?=some (.cells #[.int .i64 (x.kind:Int), .int .i64 (x.sf:Int), .int .i64 (x.st:Int), .int .i64 (x.key.1:Int), .int .i64 (x.key.2:Int), .slice pq x.kids.length cq, .slice pz x.pcs.length cz] 167)):=hid EM;have pM:R<W3.heap.size:=aF gj.out;have HQ:Hid (∀(w':World),Below W3.heap.size W3 w'-> ∀(j q:Nat),x.kids[j]?=some q-> ∃gk,pq=some ⟨gk,0,none⟩/\w'.cell? ⟨gk,j,none⟩=some (.int .i64 (q:Int))):=hid (λw' hb j q hj=>by obtain⟨gk,e1,e2⟩:=Z j q hj;exact⟨gk,e1,cM (cM e2 bf.out) hb⟩);have nU:Hid (∀w',Below W3.heap.size W3 w'->qT w' (some ⟨g,0,none⟩) ns):=hid (λw' hb=>(hn.keep bf.out).keep hb);have oM:Hid (∀w',Below W3.heap.size W3 w'-> ∀q∈x.kids,Calls Tryz.prog 94 #[.agg #[bs txt, .slice (some ⟨g,0,none⟩) ns.length c],q] w' (mJ (bE txt ns lv q) w')):=hid (λw' hb q Z=>by obtain⟨⟨m',lK⟩,_⟩:=gv.out q Z;exact IH q m' w' lK (nU.out w' hb));have u7:Hid (∀(y:Sp) (w':World),Calls Tryz.prog 133 #[.agg #[bs txt, .slice (some ⟨g,0,none⟩) ns.length c], .agg #[y.1,y.2]] w' λe w2=>e= .returned (.string (bs (fZ txt y)))/\Below w'.heap.size w' w2):=hid (λy w'=>by have:=Vg (bs txt) (.slice (some ⟨g,0,none⟩) ns.length c) rfl (y.1:Int) (y.2:Int) w';rw[Eb] at this;exact this);have zU:Hid (∀(y:Sp) (w':World),Calls Tryz.prog 57 #[bs (fZ txt y)] w' λe w2=>e=gP (dR (fZ txt y))/\Below w'.heap.size w' w2):=hid (λy w'=>Ae _ w' (by have:=vZ txt y;omega));obtain⟨sl,fc⟩:=exQ<|fZ txt (x.sf,x.st);have lL:=vZ txt (x.sf,x.st);rw[fc] at lL ⊢;have om:Hid (∀w',Calls Tryz.prog 133 #[.agg #[bs txt, .slice (some ⟨g,0,none⟩) ns.length c], .agg #[.int .i64 (x.sf:Int), .int .i64 (x.st:Int)]] w' λe w2=>e= .returned (.string (bs sl))/\Below w'.heap.size w' w2):=hid (λw'=>by have:=u7.out (x.sf,x.st) w';rw[fc] at this;exact this);obtain⟨tx,cV⟩:=exQ<|nT x.kind sl;rw[cV];have u2:=hid cV;have gC:(0:Int)<=(k:Int):=a_
 have ge:(k:Int)<(ns.length:Int):=a_
 have hkl:x.kids.length<=65536:=Le hT hx hN;have e0:W2.cell? ⟨g,k*7,none⟩=some (.int .i64 (x.kind:Int)):=cM n0 a9.out;have e1:W2.cell? ⟨g,k*7+1,none⟩=some (.int .i64 (x.sf:Int)):=cM n1 a9.out;have e2:W2.cell? ⟨g,k*7+2,none⟩=some (.int .i64 (x.st:Int)):=cM n2 a9.out;have e3:W2.cell? ⟨g,k*7+3,none⟩=some (.int .i64 (x.key.1:Int)):=cM n3 a9.out;have e4:W2.cell? ⟨g,k*7+4,none⟩=some (.int .i64 (x.key.2:Int)):=cM n4 a9.out;have e5:W2.cell? ⟨g,k*7+5,none⟩=some (.slice pq x.kids.length cq):=cM n5 a9.out;have e6:W2.cell? ⟨g,k*7+6,none⟩=some (.slice pz x.pcs.length cz):=cM n6 a9.out;have c1:W2.cell? ⟨D,1,none⟩=some (.slice (some ⟨g,0,none⟩) ns.length c):=by rw[mK ((ex.block D gf).trans jd) 1];rfl
 have AK:D<R:=by rw[<-G,<-hD,<-bo];simp
 obtain⟨kd,hkd⟩: ∃kd:Int,(x.kind:Int)=kd:=⟨_,rfl⟩;have lR:x.kind=6↔kd=6:=a_
 have H6:=hid lR;have qH:=hid hkd;rw[hkd] at ec a6 e0 ⊢;clear hn n0 n1 n2 n3 n4 n5 n6 dm hx hk hT lU ex fy jd ka fc cV ks Z gf hkd lR IH;go_enter Tryz.func94,Tryz.ntmps94;go_upto_region 1 with fail;clear bo G;go_upto_region 2 with fail;have bW:Hid (∀w',Below W3.heap.size W3 w'->(w'.cell? ⟨X,0,none⟩=some (.int .i64 kd)/\w'.cell? ⟨X,1,none⟩=some (.int .i64 (x.sf:Int))/\w'.cell? ⟨X,2,none⟩=some (.int .i64 (x.st:Int))/\w'.cell? ⟨X,5,none⟩=some (.slice pq x.kids.length cq))/\w'.cell? ⟨D,0,none⟩=some (.string (bs txt))/\w'.cell? ⟨D,1,none⟩=some (.slice (some ⟨g,0,none⟩) ns.length c)):=hid (λw' hb=>by have hx:=(hb.block X (aF ec.out)).trans ec.out;have hd:=(hb.block D (aF jO.out)).trans jO.out;exact⟨⟨by rw[mK hx];rfl,by rw[mK hx];rfl,by rw[mK hx];rfl,by rw[mK hx];rfl⟩,by rw[mK hd];rfl,by rw[mK hd];rfl⟩);clear e0 e1 e2 e3 e4 e5 e6 c1;obtain⟨⟨x0,x1,x2,x5⟩,z0,z1⟩:=bW.out W3 (aB _ _);go_wp2_with fail;refine(om.out _).mono ?_;rintro e w5 ⟨rfl,aj⟩;have dr:=hid aj;clear x0 x1 x2 x5 z0 z1 aj;obtain⟨⟨x0,x1,x2,x5⟩,z0,z1⟩:=bW.out w5 dr.out;have v6:=hid (CS.start dr.out kd []);go_upto_region 4 with fail;obtain⟨Y,hY⟩:=exQ<|w5.heap.size;obtain⟨w6,ry⟩:=exQ<|w5.alloc (.cells #[kd, .string ⟨#[]⟩,(),()] 36);have fV:Hid (CS W3 Y kd [] [] [] (.slice none 0 0) (.slice none 0 0) w6):=hid (by rw[<-ry,<-hY];exact v6.out);rw[ry,hY];clear v6 ry hY dr x0 x1 x2 x5 z0 z1;obtain⟨⟨x0,x1,x2,x5⟩,z0,z1⟩:=bW.out w6 fV.out.bel;go_upto_block 0 with fail;go_cut [8,9,28,29,30,31,32,33,34,35,36,37,38,39,40,41,42,43,44,45,46,47,48,49,50] (λs8 s9 yJ oc zW uF vC zM yO yW zR zK yV Az u9 vo kQ vw vg tQ AM zw zl yu li wx=>Hid (CS W3 Y kd tx [] [] (.slice none 0 0) (.slice none 0 0) wx))
 case first=>
  have hkd:=qH.out;have cV:=u2.out;unfold nT at cV;obtain⟨y0,y1,y2,y3,g0,g1,g2,g3⟩:=fV.out.cells;by_cases h2:x.kind=2
  ·rw[if_pos h2] at cV;obtain rfl:kd=2:=a_;subst cV;have HF:=hid (fV.out.text sl);clear hkd;exact dz
  rw[if_neg h2] at cV;have d2:(kd==2)=false:=aE.2 a_;by_cases h3:x.kind=3
  ·rw[if_pos h3] at cV;obtain rfl:kd=3:=a_;have CP:=hid (λw=>Fs sl w a_);have gf:=Lc sl;obtain⟨⟨n,er⟩,hP⟩:=exQ<|dP sl;rw[hP] at CP gf cV;simp only[] at gf cV;subst cV;have ne:=hid (λw=>Ns n w a_);clear hkd hP gf;go_wp2_with fail;refine(CP.out _).mono ?_;unfold oU dV;rintro e w7 ⟨rfl,dO⟩;have jD:=aC dO (aL w7 (.cells #[n.neg,bs n.dig,n.exp] 80));have zN:=hid (fV.out.keep jD);clear dO jD y0 y1 y2 y3 g0 g1 g2 g3 x0 x1 x2 x5 z0 z1;go_wp2_with fail;refine(ne.out _).mono ?_;rintro e w9 ⟨rfl,db⟩;have dZ:=hid (zN.out.keep db);clear db;obtain⟨y0,y1,y2,y3,g0,g1,g2,g3⟩:=dZ.out.cells;have HF:=hid (dZ.out.text (kB n));exact dz
  rw[if_neg h3] at cV;have d3:(kd==3)=false:=aE.2 a_;by_cases h4:x.kind=4
  ·rw[if_pos h4] at cV;obtain rfl:kd=4:=a_;have CU:=hid (λw=>Ae sl w a_);unfold gP at CU;obtain⟨⟨U,ua,ue⟩,hU⟩:=exQ<|dR sl;rw[hU] at CU cV;simp only[] at cV;subst cV;clear hkd hU;go_wp2_with fail;refine(CU.out _).mono ?_;rintro e w7 ⟨rfl,dO⟩;have dZ:=hid (fV.out.keep dO);clear dO y0 y1 y2 y3 g0 g1 g2 g3 x0 x1 x2 x5 z0 z1;obtain⟨y0,y1,y2,y3,g0,g1,g2,g3⟩:=dZ.out.cells;have HF:=hid (dZ.out.text U);exact dz
  rw[if_neg h4] at cV;have d4:(kd==4)=false:=aE.2 a_;subst cV;have HF:=fV;clear hkd;exact dz
 case rest=>
 have vX:=hcut;clear hcut fV x0 x1 x2 x5 z0 z1 om u2 qH;go_wp2_with fail;go_loopw [10,11,12,13] (λpc mG mC ia wr=> ∃(i:Nat) (kv ov:Value),pc= .int .i64 (i:Int)/\i<=x.kids.length/\Hid (CS W3 Y kd tx (fA txt ns x.kind (x.kids.take i)) ((x.kids.take i).map (bE txt ns lv)) kv ov wr)) (λpc _ _ _ _=>x.kids.length-(RowKit.intOf pc).toNat)
 case atStart=>exact⟨0, .slice none 0 0, .slice none 0 0,rfl,dY _,by rw[List.take_zero,Lf];first | exact vX | exact hid (vX.out.keep (aB _ _).drew)⟩
 case round=>
  have xn:=trivial;exact qf
theorem Nx (txt:aA) (ns:List aH) (p:Option Addr) (c:Nat) (hN:ns.length<=65536) (hs:txt.length<=1073741824): ∀lv,Fv txt ns p c lv
 | 0=>λ_ _ _ h=>h.elim
 | lv+1=>aAC txt ns p c hN hs lv (Nx txt ns p c hN hs lv)
end
section
open Go.RowKit
open Go.Lib hiding intOf
theorem aAD (s:aA) (w:World) (hs:s.length<=1073741824) (hCP: ∀w',Calls Tryz.prog 93 #[bs s] w' (xM s (fP s) w')):
  Calls Tryz.prog 59 #[bs s] w (Ah (jL s).1 (jL s).2.1 (jL s).2.2 w):=qk
end
end Go.Proofs.YtfhjncbdgjlcoaaGreatDoor
