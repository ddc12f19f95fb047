import Derived.Test.YtfhjncbdgjlcoaaGreatDoorYn27
set_option linter.unusedVariables false
set_option linter.unusedSimpArgs false
set_option maxRecDepth 100000
set_option maxHeartbeats 4000000
namespace Go.Proofs.YtfhjncbdgjlcoaaGreatDoor
open Tryz
section
open Go.RowKit Go.Maps Go.WideMaps
open Go.Lib hiding intOf
def Gq (txt:aB) (ns:List aM) (p:Option Addr) (c:Nat) (lv:Nat):Prop:= ∀(k m:Nat) (w:World),fR ns lv k m->rQ w p ns->
 Calls prog 94 #[.agg #[bs txt, .slice p ns.length c],k] w (jJ (bJ txt ns lv k) w)
theorem CS.text {W w:World}{Y:Nat}{k:Int}{s:aB} (h:CS W Y k s [] [] (.slice none 0 0) (.slice none 0 0) w) (s2:aB):CS W Y k s2 [] [] (.slice none 0 0) (.slice none 0 0) (w.setCell ⟨Y,1,none⟩ (.string (bs s2))):=
 ⟨by have:=rM h.box 1 (.string (bs s2));exact this,bZ.nil _ _,(λe=>by cases e),gM.nil _ _ _,h.bel.setCell (p:=⟨Y,1,none⟩) h.new_ _,h.new_⟩
abbrev nR (W:World) (D X g gk i q:Nat) (txt:ByteArray) (n c nk ck:Nat) (k1 k2:Int) (w:World):Prop:=
 (w.cell? (D,0)=some (.string txt)/\w.cell? (D,1)=some (.slice (some ⟨g,0,none⟩) n c)/\w.cell? (X,5)=some (.slice (some ⟨gk,0,none⟩) nk ck)/\w.cell? (gk,i)=some (.int .i64 (q:Int))/\w.cell? (g,q*7+3)=some (.int .i64 k1)/\w.cell? (g,q*7+4)=some (.int .i64 k2))/\Hid (Below W.heap.size W w)
section
variable {W w w2:World}{D X g gk i q:Nat}{txt:ByteArray}{n c nk ck:Nat}{k1 k2:Int}
theorem nR.bel (h:nR W D X g gk i q txt n c nk ck k1 k2 w):aA W w:=h.2.out
theorem nR.step (h:nR W D X g gk i q txt n c nk ck k1 k2 w) (hb:aA w w2):nR W D X g gk i q txt n c nk ck k1 k2 w2:=by
 obtain⟨⟨d,a,j,e,k,b⟩,f⟩:=h;exact⟨⟨cB d hb,cB a hb,cB j hb,cB e hb,cB k hb,cB b hb⟩,hid (aE f.out hb)⟩
theorem nR.drew (h:nR W D X g gk i q txt n c nk ck k1 k2 w):nR W D X g gk i q txt n c nk ck k1 k2 w.drew:=h.step (aD _ _).drew
end
theorem aBv (txt:aB) (ns:List aM) (p:Option Addr) (c:Nat) (hN:ns.length<=65536) (hs:txt.length<=1073741824) (lv:Nat) (IH:Gq txt ns p c lv):Gq txt ns p c (lv+1):=by
 intro k m w hT hn;obtain⟨x,hx⟩: ∃x,ns[k]?=some x:=by obtain⟨x,hx,_⟩:=hT;exact⟨x,hx⟩
 have gt:=hid (λq (Z:q∈x.kids)=>hT.kid hx Z);obtain⟨g,hp,kv,pv,n0,n1,n2,n3,n4,n5,n6,n7,n8⟩:=hn k x hx;obtain⟨pq,cq,rfl,Z⟩:=n7;obtain⟨pz,cz,rfl,_⟩:=n8;have hk:=(aW.1 hx).1;have dT:bJ txt ns (lv+1) k= .mk (x.kind:Int) (nZ x.kind (gL txt (x.sf,x.st))) (fO txt ns x.kind x.kids) (x.kids.map (bJ txt ns lv)):=by rw[bJ,hx];rfl
 rw[dT];have mr:=hp;subst hp;obtain⟨D,hD⟩:=exQ<|w.heap.size;obtain⟨W1,bp⟩:=exQ<|w.alloc (.cells #[bs txt,(g,ns.length,c)] 134);obtain⟨R,I⟩:=exQ<|W1.heap.size;obtain⟨W2,aw⟩:=exQ<|W1.alloc (.cells #[(0:Int), .string ⟨#[]⟩,(),()] 36);obtain⟨X,hX⟩:=exQ<|W2.heap.size;obtain⟨W3,a6⟩:=exQ<|W2.alloc (.cells #[.int .i64 (x.kind:Int), .int .i64 (x.sf:Int), .int .i64 (x.st:Int), .int .i64 (x.key.1:Int), .int .i64 (x.key.2:Int), .slice pq x.kids.length cq, .slice pz x.pcs.length cz] 167);have pb:aA w W1:=by rw[<-bp];exact aL _ _
 have fA:aA W1 W2:=by rw[<-aw];exact aL _ _
 have gw:aA W2 W3:=by rw[<-a6];exact aL _ _
 have bh:=hid (aE pb fA);have ax:=hid (aE bh.out gw);have kG:W1.heap[D]?=some (.cells #[bs txt,(g,ns.length,c)] 134):=by rw[<-bp,<-hD];exact heap_alloc_new w _
 have il:=aG kG;have j2:Hid (W3.heap[D]?=some (.cells #[bs txt,(g,ns.length,c)] 134)):=hid ((gw.block D (iG il fA.size)).trans ((fA.block D il).trans kG));have mo:W2.heap[R]?=some (.cells #[(0:Int),bs [],(),()] 36):=by rw[<-aw,<-I];exact heap_alloc_new W1 _
 have ij:Hid (W3.heap[R]?=some (.cells #[(0:Int),bs [],(),()] 36)):=hid ((gw.block R (aG mo)).trans mo);have em:Hid (W3.heap[X]?=some (.cells #[.int .i64 (x.kind:Int), .int .i64 (x.sf:Int), .int .i64 (x.st:Int), .int .i64 (x.key.1:Int), .int .i64 (x.key.2:Int), .slice pq x.kids.length cq, .slice pz x.pcs.length cz] 167)):=hid G1;have rg:R<W3.heap.size:=aG ij.out;have HQ:Hid (∀(w':World),aA W3 w'-> ∀(j q:Nat),x.kids[j]?=some q-> ∃gk,pq=some ⟨gk,0,none⟩/\w'.cell? ⟨gk,j,none⟩=some (.int .i64 (q:Int))):=hid (λw' hb j q hj=>by obtain⟨gk,e1,e2⟩:=Z j q hj;exact⟨gk,e1,cB (cB e2 ax.out) hb⟩);have pY:Hid (∀w',aA W3 w'->rQ w' (some ⟨g,0,none⟩) ns):=hid (λw' hb=>(hn.keep ax.out).keep hb);have og:Hid (∀w',aA W3 w'-> ∀q∈x.kids,Calls prog 94 #[.agg #[bs txt,(g,ns.length,c)],q] w' (jJ (bJ txt ns lv q) w')):=hid (λw' hb q Z=>by obtain⟨⟨m',lP⟩,_⟩:=gt.out q Z;exact IH q m' w' lP (pY.out w' hb));have zW:Hid (∀(y:Sp) (w':World),Calls prog 133 #[.agg #[bs txt,(g,ns.length,c)], .agg #[y.1,y.2]] w' (aT w' (.string (bs (gL txt y))))):=hid (λy w'=>by have:=Xd (bs txt) (.slice (some ⟨g,0,none⟩) ns.length c) rfl (y.1:Int) (y.2:Int) w';rw[Fa] at this;exact this);have BC:Hid (∀(y:Sp) (w':World),Calls prog 57 #[bs (gL txt y)] w' λe w2=>e=iF (eH (gL txt y))/\aA w' w2):=hid (λy w'=>Bb _ w' (by have:=wJ txt y;omega));obtain⟨sl,eb⟩:=exQ<|gL txt (x.sf,x.st);have oA:=wJ txt (x.sf,x.st);rw[eb] at oA ⊢;have qa:Hid (∀w',Calls prog 133 #[.agg #[bs txt,(g,ns.length,c)], .agg #[.int .i64 (x.sf:Int), .int .i64 (x.st:Int)]] w' (aT w' (.string (bs sl)))):=hid (λw'=>by have:=zW.out (x.sf,x.st) w';rw[eb] at this;exact this);obtain⟨tx,cE⟩:=exQ<|nZ x.kind sl;rw[cE];have qe:=hid cE;have gX:(0:Int)<=(k:Int):=a_
 have gm:(k:Int)<(ns.length:Int):=a_
 have hkl:x.kids.length<=65536:=Fc hT hx hN;have e0:W2.cell? (g,k*7)=some (.int .i64 (x.kind:Int)):=cB n0 bh.out;have e1:W2.cell? (g,k*7+1)=some (.int .i64 (x.sf:Int)):=cB n1 bh.out;have e2:W2.cell? (g,k*7+2)=some (.int .i64 (x.st:Int)):=cB n2 bh.out;have e3:W2.cell? (g,k*7+3)=some (.int .i64 (x.key.1:Int)):=cB n3 bh.out;have e4:W2.cell? (g,k*7+4)=some (.int .i64 (x.key.2:Int)):=cB n4 bh.out;have e5:W2.cell? (g,k*7+5)=some (.slice pq x.kids.length cq):=cB n5 bh.out;have e6:W2.cell? (g,k*7+6)=some (.slice pz x.pcs.length cz):=cB n6 bh.out;have c1:W2.cell? (D,1)=some (.slice (some ⟨g,0,none⟩) ns.length c):=by rw[nM ((fA.block D il).trans kG) 1];rfl
 have De:D<R:=by rw[<-I,<-hD,<-bp];simp
 obtain⟨kd,hkd⟩: ∃kd:Int,(x.kind:Int)=kd:=⟨_,rfl⟩;have oB:x.kind=6↔kd=6:=a_
 have H6:=hid oB;have tv:=hid hkd;rw[hkd] at em a6 e0 ⊢;clear hn n0 n1 n2 n3 n4 n5 n6 dT hx hk hT pb fA gw kG mo eb cE mr Z il hkd oB IH;go_in;go_upto_region 1 with fail;clear bp I;go_upto_region 2 with fail;have bN:Hid (∀w',aA W3 w'->(w'.cell? (X,0)=some (.int .i64 kd)/\w'.cell? (X,1)=some (.int .i64 (x.sf:Int))/\w'.cell? (X,2)=some (.int .i64 (x.st:Int))/\w'.cell? (X,5)=some (.slice pq x.kids.length cq))/\w'.cell? (D,0)=some (.string (bs txt))/\w'.cell? (D,1)=some (.slice (some ⟨g,0,none⟩) ns.length c)):=hid (λw' hb=>by have hx:=(hb.block X (aG em.out)).trans em.out;have hd:=(hb.block D (aG j2.out)).trans j2.out;exact⟨⟨by rw[nM hx];rfl,by rw[nM hx];rfl,by rw[nM hx];rfl,by rw[nM hx];rfl⟩,by rw[nM hd];rfl,by rw[nM hd];rfl⟩);clear e0 e1 e2 e3 e4 e5 e6 c1;obtain⟨⟨x0,x1,x2,x5⟩,z0,z1⟩:=bN.out W3 (aD _ _);go_wp2_with fail;refine aH (qa.out _) λw5 ag=>?_;have dY:=hid ag;clear x0 x1 x2 x5 z0 z1 ag;obtain⟨⟨x0,x1,x2,x5⟩,z0,z1⟩:=bN.out w5 dY.out;have zJ:=hid (CS.start dY.out kd []);go_upto_region 4 with fail;obtain⟨Y,hY⟩:=exQ<|w5.heap.size;obtain⟨w6,lN⟩:=exQ<|w5.alloc (.cells #[kd, .string ⟨#[]⟩,(),()] 36);have ii:Hid (CS W3 Y kd [] [] [] (.slice none 0 0) (.slice none 0 0) w6):=hid (by rw[<-lN,<-hY];exact zJ.out);rw[lN,hY];clear zJ lN hY dY x0 x1 x2 x5 z0 z1;obtain⟨⟨x0,x1,x2,x5⟩,z0,z1⟩:=bN.out w6 ii.out.bel;go_upto_block 0 with fail;go_cut [8,9,28,29,30,31,32,33,34,35,36,37,38,39,40,41,42,43,44,45,46,47,48,49,50] (λs8 s9 AT op BP Ag zk CZ Bf Cw BV AL Az Dq z9 yN nj xl Ad xm Dk C5 Bp Cf fi wx=>Hid (CS W3 Y kd tx [] [] (.slice none 0 0) (.slice none 0 0) wx))
 case first=>
  have hkd:=tv.out;have cE:=qe.out;unfold nZ at cE;obtain⟨y0,y1,y2,y3,g0,g1,g2,g3⟩:=ii.out.cells;by_cases h2:x.kind=2
  .rw[if_pos h2] at cE;obtain rfl:kd=2:=a_;subst cE;have HF:=hid (ii.out.text sl);clear hkd;go_wp2;go_meet;exact HF
  rw[if_neg h2] at cE;have d2:(kd==2)=false:=aI.2 a_;by_cases h3:x.kind=3
  .rw[if_pos h3] at cE;obtain rfl:kd=3:=a_;have CP:=hid (λw=>Gl sl w a_);have il:=Me sl;obtain⟨⟨n,er⟩,hP⟩:=exQ<|eF sl;rw[hP] at CP il cE;simp only[] at il cE;subst cE;have pT:=hid (λw=>Ot n w a_);clear hkd hP il;go_wp2_with fail;refine(CP.out _).mono ?_;unfold pR eK;rintro e w7 ⟨rfl,dm⟩;have lD:=aE dm (aL w7 (.cells #[n.neg,bs n.dig,n.exp] 80));have B1:=hid (ii.out.keep lD);clear dm lD y0 y1 y2 y3 g0 g1 g2 g3 x0 x1 x2 x5 z0 z1;go_wp2_with fail;refine aH (pT.out _) λw9 cG=>?_;have eQ:=hid (B1.out.keep cG);clear cG;obtain⟨y0,y1,y2,y3,g0,g1,g2,g3⟩:=eQ.out.cells;have HF:=hid (eQ.out.text (kS n));go_wp2;go_meet;exact HF
  rw[if_neg h3] at cE;have d3:(kd==3)=false:=aI.2 a_;by_cases h4:x.kind=4
  .rw[if_pos h4] at cE;obtain rfl:kd=4:=a_;have CU:=hid (λw=>Bb sl w a_);unfold iF at CU;obtain⟨⟨U,ua,ue⟩,hU⟩:=exQ<|eH sl;rw[hU] at CU cE;simp only[] at cE;subst cE;clear hkd hU;go_wp2_with fail;refine aH (CU.out _) λw7 dm=>?_;have eQ:=hid (ii.out.keep dm);clear dm y0 y1 y2 y3 g0 g1 g2 g3 x0 x1 x2 x5 z0 z1;obtain⟨y0,y1,y2,y3,g0,g1,g2,g3⟩:=eQ.out.cells;have HF:=hid (eQ.out.text U);go_wp2;go_meet;exact HF
  rw[if_neg h4] at cE;have d4:(kd==4)=false:=aI.2 a_;subst cE;have HF:=ii;clear hkd;go_wp2;go_meet;exact HF
 case rest=>
 have xN:=hcut;clear hcut ii x0 x1 x2 x5 z0 z1 qa qe tv;go_wp2;go_loopw [10,11,12,13] (λjF lO jT gp wr=> ∃(i:Nat) (kv ov:Value),jF= .int .i64 (i:Int)/\i<=x.kids.length/\Hid (CS W3 Y kd tx (fO txt ns x.kind (x.kids.take i)) ((x.kids.take i).map (bJ txt ns lv)) kv ov wr)) (λjF _ _ _ _=>x.kids.length-(RowKit.intOf jF).toNat)
 case atStart=>exact⟨0, .slice none 0 0, .slice none 0 0,rfl,cI _,by rw[List.take_zero,Mg];first | exact xN | exact hid (xN.out.keep (aD _ _).drew)⟩
 case round=>
  have RA:=trivial;exact PK
theorem Ox (txt:aB) (ns:List aM) (p:Option Addr) (c:Nat) (hN:ns.length<=65536) (hs:txt.length<=1073741824): ∀lv,Gq txt ns p c lv
 | 0=>λ_ _ _ h=>h.elim
 | lv+1=>aBv txt ns p c hN hs lv (Ox txt ns p c hN hs lv)
end
section
open Go.RowKit
open Go.Lib hiding intOf
theorem aBw (s:aB) (w:World) (hs:s.length<=1073741824) (hCP: ∀w',Calls prog 93 #[bs s] w' (yB s (gE s) w')):
  Calls prog 59 #[bs s] w (Bf (jV s).1 (jV s).2.1 (jV s).2.2 w):=PP
end
end Go.Proofs.YtfhjncbdgjlcoaaGreatDoor
