import Derived.Test.YtaifnmjjpddikaaGreatDoorRf25
import Derived.Test.YtaifnmjjpddikaaGreatDoorRf14
set_option maxRecDepth 100000
set_option maxHeartbeats 8000000
namespace Go.Proofs.YtaifnmjjpddikaaGreatDoor
set_option linter.unusedSimpArgs false
set_option linter.unusedVariables false
open Go.RowKit
open Go.Lib hiding intOf
theorem dM.kid {ns:List aM}{lv k hi:Nat}{x:aM} (h:dM ns (lv+1) k hi) (hx:ns[k]?=some x): ∀q∈x.kids,(∃m,dM ns lv q m)/\q<ns.length:=by
 obtain⟨x',hx',h2⟩:=h;rw[hx] at hx';obtain rfl:=bD hx';have key: ∀(l:List Nat) (a:Nat),cX (dM ns lv) l a hi-> ∀q∈l,∃m,dM ns lv q m:=by
  intro l
  induction l with
  | nil=>intro a _ q hq;cases hq
  | cons y l ih=>
   intro a h q hq;obtain⟨rfl,m,h3,h4⟩:=h;rcases dN.1 hq with rfl | hq
   ·exact⟨m,h3⟩
   ·exact ih m h4 q hq
 intro q hq;obtain⟨m,hm⟩:=key _ _ h2 q hq;refine⟨⟨m,hm⟩,?_⟩;cases lv with
 | zero=>exact hm.elim
 | succ lv=>obtain⟨y,hy,_⟩:=hm;exact(aQ.1 hy).1
def gI (s:aA) (ns:List aM) (kd:Nat) (l:List Nat):List aA:=if kd=3 then l.map (pI s ns) else []
theorem Mf (s:aA) (ns:List aM) (kd:Nat):gI s ns kd []= []:=by unfold gI;split<;>rfl
def zA (s:aA) (d:dG) (lv:Nat):Prop:= ∀(B:Nat) (lvv nv:Value) (k m:Nat) (lev:Int) (w:World),dM d.nodes lv k m->Hid (lev=33-(lv:Int))->lv<=32->eY B d lvv nv w->cA w->
 Calls Tryz.prog 24 #[.agg #[.string (bs s),lvv,nv], .int .i64 (k:Int), .int .i64 lev] w (jI (bH s d lv k) w)
theorem Zs (s:aA) (d:dG) (hb:rF s d) (hi64: ∀l∈d.lines,l.ind<=1099511627776) (lv:Nat) (IH:zA s d lv) (B:Nat) (lvv nv:Value) (k m:Nat) (lev:Int) (w:World) (hT:dM d.nodes (lv+1) k m) (hlev:Hid (lev=33-((lv+1:Nat):Int))) (hlv:lv+1<=32) (hD0:eY B d lvv nv w) (hV:cA w) (x:aM) (hx:d.nodes[k]?=some x) (hkd:x.kind=1):
  Calls Tryz.prog 24 #[.agg #[.string (bs s),lvv,nv], .int .i64 (k:Int), .int .i64 lev] w (jI (bH s d (lv+1) k) w):=by
 have hxd:=hx;obtain⟨z,hz,hln,hnd⟩:=id hD0;obtain⟨y,hy⟩: ∃y,z[k]?=some y:=by
  rw[<-hz,cU] at hx;cases hq:z[k]? with
  | none=>rw[hq] at hx;cases hx
  | some q=>exact⟨q,rfl⟩
 have hyx:y.1=x:=by
  rw[<-hz,cU,hy] at hx;exact bD hx
 obtain⟨gn,cn,cur,rfl,hcn,_,hgn⟩:=hnd.form (λe=>by rw[e] at hy;cases hy);obtain⟨pl,nl,cl,rfl⟩: ∃p n c,lvv= .slice p n c:=by
  rcases hln.2 with⟨h0,_⟩ | ⟨g,cap,cur,h1,_⟩
  ·exact⟨none,0,0,h0⟩
  ·exact⟨_,_,_,h1⟩
 have hkm:=hnd.kids y (aX hy);obtain⟨pk,ck,hkv⟩: ∃p c,y.2= .slice p y.1.kids.length c:=by
  rcases hkm.2 with⟨h0,h1⟩ | ⟨g,cap,cur,h1,_⟩
  ·exact⟨none,0,by rw[h0,h1]⟩
  ·exact⟨_,cap,h1⟩
 have HKR:Hid (∀w',Below w.heap.size w w'-> ∀(j q:Nat),x.kids[j]?=some q-> ∃gk,pk=some ⟨gk,0,none⟩/\w'.cell? ⟨gk,j,none⟩=some (.int .i64 (q:Int))):=hid (λw' hbw j q hj=>by
  have hkm2:=hkm;rw[hkv,hyx] at hkm2;have hjl:=(aQ.1 hj).1;rcases hkm2.2 with⟨h0,h1⟩ | ⟨g,cap,cur,h1,_⟩
  ·omega
  ·injection h1 with e1;subst e1;refine⟨g,rfl,bE ?_ hbw⟩;rw[World.ownsRow.cellAt hkm2 _ (by omega)];unfold dV;rw[cU,hj];rfl)
 obtain⟨mk,hmk⟩:=exQ<|y.1.kids.length;obtain⟨nz,hnz⟩:=exQ<|z.length;have hzl:z.length=d.nodes.length:=by rw[<-hz,bU]
 have hkz:k<z.length:=(aQ.1 hy).1;rw[hnz] at hD0 ⊢;have hk0:(0:Int)<=(k:Int):=by omega
 have hk1:(k:Int)<(nz:Int):=by omega
 have HNodes:Hid (∀w',Below w.heap.size w w'-> ∀(q:Nat) (yq:aM),d.nodes[q]?=some yq->w'.cell? ⟨gn,q*9+4,none⟩=some (.int .i64 yq.kf)/\w'.cell? ⟨gn,q*9+5,none⟩=some (.int .i64 yq.kt)):=hid (λw' hbw q yq hq=>by
  obtain⟨u,hu⟩: ∃u,z[q]?=some u:=by
   rw[<-hz,cU] at hq;cases hh:z[q]? with
   | none=>rw[hh] at hq;cases hq
   | some u=>exact⟨u,rfl⟩
  have hux:u.1=yq:=by
   rw[<-hz,cU,hu] at hq;exact bD hq
  have h4:=(hnd.at_ hu 4 (by omega) rfl).1;have h5:=(hnd.at_ hu 5 (by omega) rfl).1;rw[hux] at h4 h5;exact⟨bE h4 hbw,bE h5 hbw⟩)
 have HC:Hid (∀j u,j<9->(jB y)[j]?=some u->w.cell? ⟨gn,k*9+j,none⟩=some u):=hid (λj u hj hu=>(hnd.at_ hy j hj hu).1);obtain⟨hbf,hbt,hbk⟩:=hb.nd x (aX hx);rw[hyx] at hmk hkv;rw[hmk] at hkv hbk;obtain⟨W1,hW1⟩:=exQ<|w.alloc (.cells #[.string (bs s), .slice pl nl cl, .slice (some ⟨gn,0,none⟩) nz cn] 36);obtain⟨D,hDe⟩:=exQ<|w.heap.size;have b1:Below w.heap.size w W1:=by rw[<-hW1];exact aH _ _
 have h1:W1.heap[D]?=some (.cells #[.string (bs s), .slice pl nl cl, .slice (some ⟨gn,0,none⟩) nz cn] 36):=by rw[<-hW1,<-hDe];exact heap_alloc_new w _
 obtain⟨W2,hW2⟩:=exQ<|W1.alloc (.cells #[.int .i64 0, .string ⟨#[]⟩, .slice none 0 0, .slice none 0 0] 26);obtain⟨R,hRe⟩:=exQ<|W1.heap.size;have b2:Below W1.heap.size W1 W2:=by rw[<-hW2];exact aH _ _
 have h2:W2.heap[R]?=some (.cells #[.int .i64 0, .string (bs []), .slice none 0 0, .slice none 0 0] 26):=by rw[<-hW2,<-hRe];exact heap_alloc_new W1 _
 obtain⟨W3,hW3⟩:=exQ<|W2.alloc (.cells #[.int .i64 1, .int .i64 x.ind, .int .i64 (x.fr:Int), .int .i64 (x.til:Int), .int .i64 x.kf, .int .i64 x.kt, .int .i64 x.rf, .int .i64 x.rt, .slice pk mk ck] 62);obtain⟨X,hXe⟩:=exQ<|W2.heap.size;have b3:Below W2.heap.size W2 W3:=by rw[<-hW3];exact aH _ _
 have h3:W3.heap[X]?=some (.cells #[.int .i64 1, .int .i64 x.ind, .int .i64 (x.fr:Int), .int .i64 (x.til:Int), .int .i64 x.kf, .int .i64 x.kt, .int .i64 x.rf, .int .i64 x.rt, .slice pk mk ck] 62):=by rw[<-hW3,<-hXe];exact heap_alloc_new W2 _
 obtain⟨W4,hW4⟩:=exQ<|W3.alloc (.cells #[.int .i64 5, .string ⟨#[]⟩, .slice none 0 0, .slice none 0 0] 26);obtain⟨Y,hYe⟩:=exQ<|W3.heap.size;have b4:Below W3.heap.size W3 W4:=by rw[<-hW4];exact aH _ _
 have h4:W4.heap[Y]?=some (.cells #[.int .i64 5, .string (bs []), .slice none 0 0, .slice none 0 0] 26):=by rw[<-hW4,<-hYe];exact heap_alloc_new W3 _
 have hd2:=(b2.block D (aF h1)).trans h1;have hd3:=(b3.block D (aF hd2)).trans hd2;have hr3:=(b3.block R (aF h2)).trans h2;have HB2:=hid (aC b1 b2);have HB3:=hid (aC HB2.out b3);have HB4:=hid (aC HB3.out b4);have HB34:=hid b4;have H3:=hid (aI hd3 (aI hr3 h3));have H4:=hid h4;have HXC:Hid (∀w',Below W3.heap.size W3 w'->(w'.cell? ⟨D,0,none⟩=some (.string (bs s))/\w'.cell? ⟨D,1,none⟩=some (.slice pl nl cl)/\w'.cell? ⟨D,2,none⟩=some (.slice (some ⟨gn,0,none⟩) nz cn))/\(w'.cell? ⟨X,0,none⟩=some (.int .i64 1)/\w'.cell? ⟨X,6,none⟩=some (.int .i64 x.rf)/\w'.cell? ⟨X,7,none⟩=some (.int .i64 x.rt)/\w'.cell? ⟨X,8,none⟩=some (.slice pk mk ck))/\w'.heap[R]?=some (.cells #[.int .i64 0, .string (bs []), .slice none 0 0, .slice none 0 0] 26)):=hid (λw' h=>by obtain⟨e0,e1,e2,_⟩:=gQ ((h.block D (aF hd3)).trans hd3);obtain⟨f0,f1,f2,f3,f4,f5,f6,f7,f8⟩:=pE ((h.block X (aF h3)).trans h3);exact⟨⟨e0,e1,e2⟩,⟨f0,f6,f7,f8⟩,(h.block R (aF hr3)).trans hr3⟩);have hR3l:R<W3.heap.size:=aF hr3;have hYW:W3.heap.size<=Y:=by omega
 have hRw:w.heap.size<=R:=by rw[<-hRe];exact b1.size
 have hwW3:w.heap.size<=W3.heap.size:=HB3.out.size;have HDoc:Hid (∀w',Below W3.heap.size W3 w'->eY B d (.slice pl nl cl) (.slice (some ⟨gn,0,none⟩) nz cn) w'):=hid (λw' h=>(hD0.keep HB3.out).keep h);have HVr:Hid (∀w',Below W3.heap.size W3 w'->cA w'):=hid (λw' h=>(hV.keep HB3.out).keep h);have CBy:Hid (∀(a b:Int) w',Calls Tryz.prog 49 #[.agg #[.string (bs s), .slice pl nl cl, .slice (some ⟨gn,0,none⟩) nz cn], .agg #[.int .i64 a, .int .i64 b]] w' λe w2=>e= .returned (.string (bs (eZ s a b)))/\Below w'.heap.size w' w2):=hid (λa b w'=>yZ s _ _ ⟨_,_,_,rfl⟩ ⟨_,_,_,rfl⟩ a b w' (by have:=hb.txt;omega));have ck': ∀j u,j<9->(jB y)[j]?=some u->W2.cell? ⟨gn,k*9+j,none⟩=some u:=λj u hj hu=>by
  exact bE (HC.out j u hj hu) HB2.out
 have y0:=ck' 0 _ (by omega) rfl;have y1:=ck' 1 _ (by omega) rfl;have y2:=ck' 2 _ (by omega) rfl;have y3:=ck' 3 _ (by omega) rfl;have y4:=ck' 4 _ (by omega) rfl;have y5:=ck' 5 _ (by omega) rfl;have y6:=ck' 6 _ (by omega) rfl;have y7:=ck' 7 _ (by omega) rfl;have y8:=ck' 8 _ (by omega) rfl;rw[hyx] at y0 y1 y2 y3 y4 y5 y6 y7;rw[hkv] at y8;rw[hkd] at y0;simp only[Nat.add_zero] at y0;have d2:W2.cell? ⟨D,2,none⟩=some (.slice (some ⟨gn,0,none⟩) nz cn):=(gQ hd2).2.2.1;have HKM:=hid (aI hmk hbk);have HKD:=hid (hT.kid hxd);have HZN:=hid (hzl.symm.trans hnz);have hyz:=hlev.out;clear b1 b2 b3 b4 h1 h2 h3 h4 hd2 hd3 hr3 hz hln hnd hkm hkv hx hy hyx hzl hkz hgn hcn ck' hmk hnz hT hD0 hV;obtain⟨t,ht⟩:=exQ<|eZ s x.rf x.rt;have CB:=hid (λw'=>CBy.out x.rf x.rt w');rw[ht] at CB;have htl:=Do s x.rf x.rt;rw[ht] at htl;obtain⟨⟨T,er⟩,hTr⟩:=exQ<|jJ t;have CR:Hid (∀w',Below W3.heap.size W3 w'->Calls Tryz.prog 48 #[.string (bs t)] w' (yI T er w')):=hid (λw' hbw=>by have:=Jq t w' (by have:=hb.txt;omega) (HVr.out w' hbw);rw[hTr] at this;exact this);have hval:bH s d (lv+1) k=T:=by
  unfold bH;rw[hxd];simp only[];rw[if_pos hkd,ht,hTr]
 rw[hval];clear hval hTr ht hkd hxd;go_enter Tryz.func24,Tryz.ntmps24;go_upto_region 1 with fail;clear hW1 hW2 hDe hRe;go_upto_region 2 with fail;clear hW3 hXe y0 y1 y2 y3 y4 y5 y6 y7 y8 d2;have HW4:=hid hW4;clear hW4;go_upto_region 3 with fail
 first | rw[HW4.out] | skip
 clear hYe;obtain⟨⟨e0,e1,e2⟩,⟨x0,x6,x7,x8⟩,hr⟩:=HXC.out W4 HB34.out;have hYl:=aF H4.out;go_wp2_with fail;refine(CB.out _).mono ?_;rintro e w5 ⟨rfl,hb5⟩;have HB5:Hid (Below W4.heap.size W4 w5):=hid (by first | exact hb5 | exact aC (aB _ _).drew hb5);clear hb5 e0 e1 e2 x0 x6 x7 x8 hr;go_wp2_with fail;refine(CR.out _ (by first | exact HB34.out.trans (HB5.out.mono HB34.out.size))).mono ?_;rintro e w6 ⟨⟨kv,iv,rfl,hv6⟩,hb6⟩;have HB6:=hid (aC HB5.out hb6);obtain⟨pk6,ck6,pi6,ci6,rfl,rfl⟩:=hv6.toVD.form;have HV6:Hid (eU W4.heap.size w6 T.depth T (.slice pk6 T.keys.length ck6) (.slice pi6 T.items.length ci6)):=hid (hv6.mono (λq hq _=>aW HB5.out.size hq));have HYP:=hid (iQ (t:=T) HB34.out hYW hYl HV6.out HB6.out H4.out);obtain⟨c0,c1,c2,c3,f0,f1,f2,f3⟩:=bC ((HB6.out.block Y hYl).trans H4.out);unfold vv;clear hv6 hb6;go_upto_region 6 with fail;have hWF':(((w6.setCell ⟨Y,0,none⟩ (.int .i64 T.kind)).setCell ⟨Y,1,none⟩ (.string (bs T.text))).setCell ⟨Y,2,none⟩ (.slice pk6 T.keys.length ck6)).setCell ⟨Y,3,none⟩ (.slice pi6 T.items.length ci6)=bF w6 Y T.kind T.text (.slice pk6 T.keys.length ck6) (.slice pi6 T.items.length ci6):=rfl;rw[hWF'];obtain⟨WF,hWF⟩:=exQ<|bF w6 Y T.kind T.text (.slice pk6 T.keys.length ck6) (.slice pi6 T.items.length ci6);rw[hWF] at HYP ⊢;clear hWF' hWF c0 c1 c2 c3 f0 f1 f2 f3;obtain⟨c0,c1,c2,c3,_⟩:=bC HYP.out.2.2;obtain⟨_,_,hr⟩:=HXC.out WF HYP.out.2.1;obtain⟨r0,r1,r2,r3,g0,g1,g2,g3⟩:=bC hr;have HRP:=hid (iQ (t:=T) HB3.out hRw hR3l HYP.out.1 HYP.out.2.1 H3.out.2.1);clear hr;go_wp2_with fail;have hWR':(((WF.setCell ⟨R,0,none⟩ (.int .i64 T.kind)).setCell ⟨R,1,none⟩ (.string (bs T.text))).setCell ⟨R,2,none⟩ (.slice pk6 T.keys.length ck6)).setCell ⟨R,3,none⟩ (.slice pi6 T.items.length ci6)=bF WF R T.kind T.text (.slice pk6 T.keys.length ck6) (.slice pi6 T.items.length ci6):=rfl;rw[hWR'];obtain⟨WR,hWR⟩:=exQ<|bF WF R T.kind T.text (.slice pk6 T.keys.length ck6) (.slice pi6 T.items.length ci6);rw[hWR] at HRP ⊢;clear hWR' hWR r0 r1 r2 r3 g0 g1 g2 g3;obtain⟨d0,d1,d2,d3,_⟩:=bC HRP.out.2.2;refine bodyPost_ret (v:= .agg #[.int .i64 T.kind, .string (bs T.text), .slice pk6 T.keys.length ck6, .slice pi6 T.items.length ci6]) ?_ rfl ⟨⟨_,_,rfl,HRP.out.1⟩,HRP.out.2.1⟩;simp[results,Tryz.results24,go_sem,d0,d1,d2,d3]
theorem Zt (s:aA) (d:dG) (hb:rF s d) (hi64: ∀l∈d.lines,l.ind<=1099511627776) (lv:Nat) (IH:zA s d lv) (B:Nat) (lvv nv:Value) (k m:Nat) (lev:Int) (w:World) (hT:dM d.nodes (lv+1) k m) (hlev:Hid (lev=33-((lv+1:Nat):Int))) (hlv:lv+1<=32) (hD0:eY B d lvv nv w) (hV:cA w) (x:aM) (hx:d.nodes[k]?=some x) (hkd:x.kind=4):
  Calls Tryz.prog 24 #[.agg #[.string (bs s),lvv,nv], .int .i64 (k:Int), .int .i64 lev] w (jI (bH s d (lv+1) k) w):=by
 have hxd:=hx;obtain⟨z,hz,hln,hnd⟩:=id hD0;obtain⟨y,hy⟩: ∃y,z[k]?=some y:=by
  rw[<-hz,cU] at hx;cases hq:z[k]? with
  | none=>rw[hq] at hx;cases hx
  | some q=>exact⟨q,rfl⟩
 have hyx:y.1=x:=by
  rw[<-hz,cU,hy] at hx;exact bD hx
 obtain⟨gn,cn,cur,rfl,hcn,_,hgn⟩:=hnd.form (λe=>by rw[e] at hy;cases hy);obtain⟨pl,nl,cl,rfl⟩: ∃p n c,lvv= .slice p n c:=by
  rcases hln.2 with⟨h0,_⟩ | ⟨g,cap,cur,h1,_⟩
  ·exact⟨none,0,0,h0⟩
  ·exact⟨_,_,_,h1⟩
 have hkm:=hnd.kids y (aX hy);obtain⟨pk,ck,hkv⟩: ∃p c,y.2= .slice p y.1.kids.length c:=by
  rcases hkm.2 with⟨h0,h1⟩ | ⟨g,cap,cur,h1,_⟩
  ·exact⟨none,0,by rw[h0,h1]⟩
  ·exact⟨_,cap,h1⟩
 have HKR:Hid (∀w',Below w.heap.size w w'-> ∀(j q:Nat),x.kids[j]?=some q-> ∃gk,pk=some ⟨gk,0,none⟩/\w'.cell? ⟨gk,j,none⟩=some (.int .i64 (q:Int))):=hid (λw' hbw j q hj=>by
  have hkm2:=hkm;rw[hkv,hyx] at hkm2;have hjl:=(aQ.1 hj).1;rcases hkm2.2 with⟨h0,h1⟩ | ⟨g,cap,cur,h1,_⟩
  ·omega
  ·injection h1 with e1;subst e1;refine⟨g,rfl,bE ?_ hbw⟩;rw[World.ownsRow.cellAt hkm2 _ (by omega)];unfold dV;rw[cU,hj];rfl)
 obtain⟨mk,hmk⟩:=exQ<|y.1.kids.length;obtain⟨nz,hnz⟩:=exQ<|z.length;have hzl:z.length=d.nodes.length:=by rw[<-hz,bU]
 have hkz:k<z.length:=(aQ.1 hy).1;rw[hnz] at hD0 ⊢;have hk0:(0:Int)<=(k:Int):=by omega
 have hk1:(k:Int)<(nz:Int):=by omega
 have HNodes:Hid (∀w',Below w.heap.size w w'-> ∀(q:Nat) (yq:aM),d.nodes[q]?=some yq->w'.cell? ⟨gn,q*9+4,none⟩=some (.int .i64 yq.kf)/\w'.cell? ⟨gn,q*9+5,none⟩=some (.int .i64 yq.kt)):=hid (λw' hbw q yq hq=>by
  obtain⟨u,hu⟩: ∃u,z[q]?=some u:=by
   rw[<-hz,cU] at hq;cases hh:z[q]? with
   | none=>rw[hh] at hq;cases hq
   | some u=>exact⟨u,rfl⟩
  have hux:u.1=yq:=by
   rw[<-hz,cU,hu] at hq;exact bD hq
  have h4:=(hnd.at_ hu 4 (by omega) rfl).1;have h5:=(hnd.at_ hu 5 (by omega) rfl).1;rw[hux] at h4 h5;exact⟨bE h4 hbw,bE h5 hbw⟩)
 have HC:Hid (∀j u,j<9->(jB y)[j]?=some u->w.cell? ⟨gn,k*9+j,none⟩=some u):=hid (λj u hj hu=>(hnd.at_ hy j hj hu).1);obtain⟨hbf,hbt,hbk⟩:=hb.nd x (aX hx);rw[hyx] at hmk hkv;rw[hmk] at hkv hbk;obtain⟨W1,hW1⟩:=exQ<|w.alloc (.cells #[.string (bs s), .slice pl nl cl, .slice (some ⟨gn,0,none⟩) nz cn] 36);obtain⟨D,hDe⟩:=exQ<|w.heap.size;have b1:Below w.heap.size w W1:=by rw[<-hW1];exact aH _ _
 have h1:W1.heap[D]?=some (.cells #[.string (bs s), .slice pl nl cl, .slice (some ⟨gn,0,none⟩) nz cn] 36):=by rw[<-hW1,<-hDe];exact heap_alloc_new w _
 obtain⟨W2,hW2⟩:=exQ<|W1.alloc (.cells #[.int .i64 0, .string ⟨#[]⟩, .slice none 0 0, .slice none 0 0] 26);obtain⟨R,hRe⟩:=exQ<|W1.heap.size;have b2:Below W1.heap.size W1 W2:=by rw[<-hW2];exact aH _ _
 have h2:W2.heap[R]?=some (.cells #[.int .i64 0, .string (bs []), .slice none 0 0, .slice none 0 0] 26):=by rw[<-hW2,<-hRe];exact heap_alloc_new W1 _
 obtain⟨W3,hW3⟩:=exQ<|W2.alloc (.cells #[.int .i64 4, .int .i64 x.ind, .int .i64 (x.fr:Int), .int .i64 (x.til:Int), .int .i64 x.kf, .int .i64 x.kt, .int .i64 x.rf, .int .i64 x.rt, .slice pk mk ck] 62);obtain⟨X,hXe⟩:=exQ<|W2.heap.size;have b3:Below W2.heap.size W2 W3:=by rw[<-hW3];exact aH _ _
 have h3:W3.heap[X]?=some (.cells #[.int .i64 4, .int .i64 x.ind, .int .i64 (x.fr:Int), .int .i64 (x.til:Int), .int .i64 x.kf, .int .i64 x.kt, .int .i64 x.rf, .int .i64 x.rt, .slice pk mk ck] 62):=by rw[<-hW3,<-hXe];exact heap_alloc_new W2 _
 obtain⟨W4,hW4⟩:=exQ<|W3.alloc (.cells #[.int .i64 5, .string ⟨#[]⟩, .slice none 0 0, .slice none 0 0] 26);obtain⟨Y,hYe⟩:=exQ<|W3.heap.size;have b4:Below W3.heap.size W3 W4:=by rw[<-hW4];exact aH _ _
 have h4:W4.heap[Y]?=some (.cells #[.int .i64 5, .string (bs []), .slice none 0 0, .slice none 0 0] 26):=by rw[<-hW4,<-hYe];exact heap_alloc_new W3 _
 have hd2:=(b2.block D (aF h1)).trans h1;have hd3:=(b3.block D (aF hd2)).trans hd2;have hr3:=(b3.block R (aF h2)).trans h2;have HB2:=hid (aC b1 b2);have HB3:=hid (aC HB2.out b3);have HB4:=hid (aC HB3.out b4);have HB34:=hid b4;have H3:=hid (aI hd3 (aI hr3 h3));have H4:=hid h4;have HXC:Hid (∀w',Below W3.heap.size W3 w'->(w'.cell? ⟨D,0,none⟩=some (.string (bs s))/\w'.cell? ⟨D,1,none⟩=some (.slice pl nl cl)/\w'.cell? ⟨D,2,none⟩=some (.slice (some ⟨gn,0,none⟩) nz cn))/\(w'.cell? ⟨X,0,none⟩=some (.int .i64 4)/\w'.cell? ⟨X,6,none⟩=some (.int .i64 x.rf)/\w'.cell? ⟨X,7,none⟩=some (.int .i64 x.rt)/\w'.cell? ⟨X,8,none⟩=some (.slice pk mk ck))/\w'.heap[R]?=some (.cells #[.int .i64 0, .string (bs []), .slice none 0 0, .slice none 0 0] 26)):=hid (λw' h=>by obtain⟨e0,e1,e2,_⟩:=gQ ((h.block D (aF hd3)).trans hd3);obtain⟨f0,f1,f2,f3,f4,f5,f6,f7,f8⟩:=pE ((h.block X (aF h3)).trans h3);exact⟨⟨e0,e1,e2⟩,⟨f0,f6,f7,f8⟩,(h.block R (aF hr3)).trans hr3⟩);have hR3l:R<W3.heap.size:=aF hr3;have hYW:W3.heap.size<=Y:=by omega
 have hRw:w.heap.size<=R:=by rw[<-hRe];exact b1.size
 have hwW3:w.heap.size<=W3.heap.size:=HB3.out.size;have HDoc:Hid (∀w',Below W3.heap.size W3 w'->eY B d (.slice pl nl cl) (.slice (some ⟨gn,0,none⟩) nz cn) w'):=hid (λw' h=>(hD0.keep HB3.out).keep h);have HVr:Hid (∀w',Below W3.heap.size W3 w'->cA w'):=hid (λw' h=>(hV.keep HB3.out).keep h);have CBy:Hid (∀(a b:Int) w',Calls Tryz.prog 49 #[.agg #[.string (bs s), .slice pl nl cl, .slice (some ⟨gn,0,none⟩) nz cn], .agg #[.int .i64 a, .int .i64 b]] w' λe w2=>e= .returned (.string (bs (eZ s a b)))/\Below w'.heap.size w' w2):=hid (λa b w'=>yZ s _ _ ⟨_,_,_,rfl⟩ ⟨_,_,_,rfl⟩ a b w' (by have:=hb.txt;omega));have ck': ∀j u,j<9->(jB y)[j]?=some u->W2.cell? ⟨gn,k*9+j,none⟩=some u:=λj u hj hu=>by
  exact bE (HC.out j u hj hu) HB2.out
 have y0:=ck' 0 _ (by omega) rfl;have y1:=ck' 1 _ (by omega) rfl;have y2:=ck' 2 _ (by omega) rfl;have y3:=ck' 3 _ (by omega) rfl;have y4:=ck' 4 _ (by omega) rfl;have y5:=ck' 5 _ (by omega) rfl;have y6:=ck' 6 _ (by omega) rfl;have y7:=ck' 7 _ (by omega) rfl;have y8:=ck' 8 _ (by omega) rfl;rw[hyx] at y0 y1 y2 y3 y4 y5 y6 y7;rw[hkv] at y8;rw[hkd] at y0;simp only[Nat.add_zero] at y0;have d2:W2.cell? ⟨D,2,none⟩=some (.slice (some ⟨gn,0,none⟩) nz cn):=(gQ hd2).2.2.1;have HKM:=hid (aI hmk hbk);have HKD:=hid (hT.kid hxd);have HZN:=hid (hzl.symm.trans hnz);have hyz:=hlev.out;clear b1 b2 b3 b4 h1 h2 h3 h4 hd2 hd3 hr3 hz hln hnd hkm hkv hx hy hyx hzl hkz hgn hcn ck' hmk hnz hT hD0 hV;obtain⟨t,ht⟩:=exQ<|wU s d.lines x;have CL:Hid (∀w',Below W3.heap.size W3 w'->Calls Tryz.prog 50 #[.agg #[.string (bs s), .slice pl nl cl, .slice (some ⟨gn,0,none⟩) nz cn], .int .i64 (k:Int)] w' λe w2=>e= .returned (.tuple #[.string (bs t), .bool true])/\Below w'.heap.size w' w2):=hid (λw' hbw=>by have:=Zr s d _ _ B w' (HDoc.out w' hbw) hb hi64 k x hxd hkd;rw[ht] at this;exact this);have COf:=hid (λw'=>Bz t w');have hval:bH s d (lv+1) k=kN t:=by
  unfold bH;rw[hxd];simp only[];rw[if_neg (by omega),if_pos hkd,ht]
 rw[hval];clear hval ht hkd hxd;go_enter Tryz.func24,Tryz.ntmps24;go_upto_region 1 with fail;clear hW1 hW2 hDe hRe;go_upto_region 2 with fail;clear hW3 hXe y0 y1 y2 y3 y4 y5 y6 y7 y8 d2;have HW4:=hid hW4;clear hW4;go_upto_region 3 with fail
 first | rw[HW4.out] | skip
 clear hYe;obtain⟨⟨e0,e1,e2⟩,⟨x0,x6,x7,x8⟩,hr⟩:=HXC.out W4 HB34.out;go_wp2_with fail;refine(CL.out _ (by first | exact HB34.out | exact HB34.out.drew)).mono ?_;rintro e w5 ⟨rfl,hb5⟩;have HB5:Hid (Below W4.heap.size W4 w5):=hid (by first | exact hb5 | exact aC (aB _ _).drew hb5);clear hb5 e0 e1 e2 x0 x6 x7 x8 hr;go_wp2_with fail;refine(COf.out _).mono ?_;rintro e w6 ⟨rfl,hb6⟩;have HB6:Hid (Below W3.heap.size W3 w6):=hid (HB34.out.trans ((aC HB5.out hb6).mono HB34.out.size));obtain⟨_,_,hr⟩:=HXC.out w6 HB6.out;obtain⟨r0,r1,r2,r3,g0,g1,g2,g3⟩:=bC hr;have HRP:=hid (iQ (t:=kN t) HB3.out hRw hR3l (oQ _ _ _ _) HB6.out H3.out.2.1);clear hr hb6;go_wp2_with fail;have hWR':(((w6.setCell ⟨R,0,none⟩ (.int .i64 4)).setCell ⟨R,1,none⟩ (.string (bs t))).setCell ⟨R,2,none⟩ (.slice none 0 0)).setCell ⟨R,3,none⟩ (.slice none 0 0)=bF w6 R (kN t).kind (kN t).text (.slice none 0 0) (.slice none 0 0):=rfl;rw[hWR'];obtain⟨WR,hWR⟩:=exQ<|bF w6 R (kN t).kind (kN t).text (.slice none 0 0) (.slice none 0 0);rw[hWR] at HRP ⊢;clear hWR' hWR r0 r1 r2 r3 g0 g1 g2 g3;obtain⟨d0,d1,d2,d3,_⟩:=bC HRP.out.2.2;refine bodyPost_ret (v:= .agg #[.int .i64 (kN t).kind, .string (bs (kN t).text), .slice none 0 0, .slice none 0 0]) ?_ rfl ⟨⟨_,_,rfl,HRP.out.1⟩,HRP.out.2.1⟩;simp[results,Tryz.results24,go_sem,d0,d1,d2,d3]
theorem Zu (s:aA) (d:dG) (hb:rF s d) (hi64: ∀l∈d.lines,l.ind<=1099511627776) (lv:Nat) (IH:zA s d lv) (B:Nat) (lvv nv:Value) (k m:Nat) (lev:Int) (w:World) (hT:dM d.nodes (lv+1) k m) (hlev:Hid (lev=33-((lv+1:Nat):Int))) (hlv:lv+1<=32) (hD0:eY B d lvv nv w) (hV:cA w) (x:aM) (hx:d.nodes[k]?=some x) (h1:x.kind≠1) (h4:x.kind≠4):
    Calls Tryz.prog 24 #[.agg #[.string (bs s),lvv,nv], .int .i64 (k:Int), .int .i64 lev] w (jI (bH s d (lv+1) k) w):=by
  have hxd:=hx;obtain⟨z,hz,hln,hnd⟩:=id hD0;obtain⟨y,hy⟩: ∃y,z[k]?=some y:=by
    rw[<-hz,cU] at hx;cases hq:z[k]? with
    | none=>rw[hq] at hx;cases hx
    | some q=>exact⟨q,rfl⟩
  have hyx:y.1=x:=by
    rw[<-hz,cU,hy] at hx;exact bD hx
  obtain⟨gn,cn,cur,rfl,hcn,_,hgn⟩:=hnd.form (λe=>by rw[e] at hy;cases hy);obtain⟨pl,nl,cl,rfl⟩: ∃p n c,lvv= .slice p n c:=by
    rcases hln.2 with⟨h0,_⟩ | ⟨g,cap,cur,h1,_⟩
    · exact⟨none,0,0,h0⟩
    · exact⟨_,_,_,h1⟩
  have hkm:=hnd.kids y (aX hy);obtain⟨pk,ck,hkv⟩: ∃p c,y.2= .slice p y.1.kids.length c:=by
    rcases hkm.2 with⟨h0,h1⟩ | ⟨g,cap,cur,h1,_⟩
    · exact⟨none,0,by rw[h0,h1]⟩
    · exact⟨_,cap,h1⟩
  have HKR:Hid (∀w',Below w.heap.size w w'-> ∀(j q:Nat),x.kids[j]?=some q-> ∃gk,pk=some ⟨gk,0,none⟩/\w'.cell? ⟨gk,j,none⟩=some (.int .i64 (q:Int))):=hid (λw' hbw j q hj=>by
    have hkm2:=hkm;rw[hkv,hyx] at hkm2;have hjl:=(aQ.1 hj).1;rcases hkm2.2 with⟨h0,h1⟩ | ⟨g,cap,cur,h1,_⟩
    · omega
    · injection h1 with e1;subst e1;refine⟨g,rfl,bE ?_ hbw⟩;rw[World.ownsRow.cellAt hkm2 _ (by omega)];unfold dV;rw[cU,hj];rfl)
  obtain⟨mk,hmk⟩:=exQ<|y.1.kids.length;obtain⟨nz,hnz⟩:=exQ<|z.length;have hzl:z.length=d.nodes.length:=by rw[<-hz,bU]
  have hkz:k<z.length:=(aQ.1 hy).1;rw[hnz] at hD0 ⊢;have hk0:(0:Int)<=(k:Int):=by omega
  have hk1:(k:Int)<(nz:Int):=by omega
  have HNodes:Hid (∀w',Below w.heap.size w w'-> ∀(q:Nat) (yq:aM),d.nodes[q]?=some yq->w'.cell? ⟨gn,q*9+4,none⟩=some (.int .i64 yq.kf)/\w'.cell? ⟨gn,q*9+5,none⟩=some (.int .i64 yq.kt)):=hid (λw' hbw q yq hq=>by
    obtain⟨u,hu⟩: ∃u,z[q]?=some u:=by
      rw[<-hz,cU] at hq;cases hh:z[q]? with
      | none=>rw[hh] at hq;cases hq
      | some u=>exact⟨u,rfl⟩
    have hux:u.1=yq:=by
      rw[<-hz,cU,hu] at hq;exact bD hq
    have h4:=(hnd.at_ hu 4 (by omega) rfl).1;have h5:=(hnd.at_ hu 5 (by omega) rfl).1;rw[hux] at h4 h5;exact⟨bE h4 hbw,bE h5 hbw⟩)
  have HC:Hid (∀j u,j<9->(jB y)[j]?=some u->w.cell? ⟨gn,k*9+j,none⟩=some u):=hid (λj u hj hu=>(hnd.at_ hy j hj hu).1);obtain⟨hbf,hbt,hbk⟩:=hb.nd x (aX hx);rw[hyx] at hmk hkv;rw[hmk] at hkv hbk;obtain⟨W1,hW1⟩:=exQ<|w.alloc (.cells #[.string (bs s), .slice pl nl cl, .slice (some ⟨gn,0,none⟩) nz cn] 36);obtain⟨D,hDe⟩:=exQ<|w.heap.size;have b1:Below w.heap.size w W1:=by rw[<-hW1];exact aH _ _
  have h1:W1.heap[D]?=some (.cells #[.string (bs s), .slice pl nl cl, .slice (some ⟨gn,0,none⟩) nz cn] 36):=by rw[<-hW1,<-hDe];exact heap_alloc_new w _
  obtain⟨W2,hW2⟩:=exQ<|W1.alloc (.cells #[.int .i64 0, .string ⟨#[]⟩, .slice none 0 0, .slice none 0 0] 26);obtain⟨R,hRe⟩:=exQ<|W1.heap.size;have b2:Below W1.heap.size W1 W2:=by rw[<-hW2];exact aH _ _
  have h2:W2.heap[R]?=some (.cells #[.int .i64 0, .string (bs []), .slice none 0 0, .slice none 0 0] 26):=by rw[<-hW2,<-hRe];exact heap_alloc_new W1 _
  obtain⟨W3,hW3⟩:=exQ<|W2.alloc (.cells #[.int .i64 (x.kind:Int), .int .i64 x.ind, .int .i64 (x.fr:Int), .int .i64 (x.til:Int), .int .i64 x.kf, .int .i64 x.kt, .int .i64 x.rf, .int .i64 x.rt, .slice pk mk ck] 62);obtain⟨X,hXe⟩:=exQ<|W2.heap.size;have b3:Below W2.heap.size W2 W3:=by rw[<-hW3];exact aH _ _
  have h3:W3.heap[X]?=some (.cells #[.int .i64 (x.kind:Int), .int .i64 x.ind, .int .i64 (x.fr:Int), .int .i64 (x.til:Int), .int .i64 x.kf, .int .i64 x.kt, .int .i64 x.rf, .int .i64 x.rt, .slice pk mk ck] 62):=by rw[<-hW3,<-hXe];exact heap_alloc_new W2 _
  obtain⟨W4,hW4⟩:=exQ<|W3.alloc (.cells #[.int .i64 5, .string ⟨#[]⟩, .slice none 0 0, .slice none 0 0] 26);obtain⟨Y,hYe⟩:=exQ<|W3.heap.size;have b4:Below W3.heap.size W3 W4:=by rw[<-hW4];exact aH _ _
  have h4:W4.heap[Y]?=some (.cells #[.int .i64 5, .string (bs []), .slice none 0 0, .slice none 0 0] 26):=by rw[<-hW4,<-hYe];exact heap_alloc_new W3 _
  have hd2:=(b2.block D (aF h1)).trans h1;have hd3:=(b3.block D (aF hd2)).trans hd2;have hr3:=(b3.block R (aF h2)).trans h2;have HB2:=hid (aC b1 b2);have HB3:=hid (aC HB2.out b3);have HB4:=hid (aC HB3.out b4);have HB34:=hid b4;have H3:=hid (aI hd3 (aI hr3 h3));have H4:=hid h4;have HXC:Hid (∀w',Below W3.heap.size W3 w'->(w'.cell? ⟨D,0,none⟩=some (.string (bs s))/\w'.cell? ⟨D,1,none⟩=some (.slice pl nl cl)/\w'.cell? ⟨D,2,none⟩=some (.slice (some ⟨gn,0,none⟩) nz cn))/\(w'.cell? ⟨X,0,none⟩=some (.int .i64 (x.kind:Int))/\w'.cell? ⟨X,6,none⟩=some (.int .i64 x.rf)/\w'.cell? ⟨X,7,none⟩=some (.int .i64 x.rt)/\w'.cell? ⟨X,8,none⟩=some (.slice pk mk ck))/\w'.heap[R]?=some (.cells #[.int .i64 0, .string (bs []), .slice none 0 0, .slice none 0 0] 26)):=hid (λw' h=>by obtain⟨e0,e1,e2,_⟩:=gQ ((h.block D (aF hd3)).trans hd3);obtain⟨f0,f1,f2,f3,f4,f5,f6,f7,f8⟩:=pE ((h.block X (aF h3)).trans h3);exact⟨⟨e0,e1,e2⟩,⟨f0,f6,f7,f8⟩,(h.block R (aF hr3)).trans hr3⟩);have hR3l:R<W3.heap.size:=aF hr3;have hYW:W3.heap.size<=Y:=by omega
  have hRw:w.heap.size<=R:=by rw[<-hRe];exact b1.size
  have hwW3:w.heap.size<=W3.heap.size:=HB3.out.size;have HDoc:Hid (∀w',Below W3.heap.size W3 w'->eY B d (.slice pl nl cl) (.slice (some ⟨gn,0,none⟩) nz cn) w'):=hid (λw' h=>(hD0.keep HB3.out).keep h);have HVr:Hid (∀w',Below W3.heap.size W3 w'->cA w'):=hid (λw' h=>(hV.keep HB3.out).keep h);have CBy:Hid (∀(a b:Int) w',Calls Tryz.prog 49 #[.agg #[.string (bs s), .slice pl nl cl, .slice (some ⟨gn,0,none⟩) nz cn], .agg #[.int .i64 a, .int .i64 b]] w' λe w2=>e= .returned (.string (bs (eZ s a b)))/\Below w'.heap.size w' w2):=hid (λa b w'=>yZ s _ _ ⟨_,_,_,rfl⟩ ⟨_,_,_,rfl⟩ a b w' (by have:=hb.txt;omega));have ck': ∀j u,j<9->(jB y)[j]?=some u->W2.cell? ⟨gn,k*9+j,none⟩=some u:=λj u hj hu=>by
    exact bE (HC.out j u hj hu) HB2.out
  have y0:=ck' 0 _ (by omega) rfl;have y1:=ck' 1 _ (by omega) rfl;have y2:=ck' 2 _ (by omega) rfl;have y3:=ck' 3 _ (by omega) rfl;have y4:=ck' 4 _ (by omega) rfl;have y5:=ck' 5 _ (by omega) rfl;have y6:=ck' 6 _ (by omega) rfl;have y7:=ck' 7 _ (by omega) rfl;have y8:=ck' 8 _ (by omega) rfl;rw[hyx] at y0 y1 y2 y3 y4 y5 y6 y7;rw[hkv] at y8;simp only[Nat.add_zero] at y0;have d2:W2.cell? ⟨D,2,none⟩=some (.slice (some ⟨gn,0,none⟩) nz cn):=(gQ hd2).2.2.1;have HKM:=hid (aI hmk hbk);have HKD:=hid (hT.kid hxd);have HZN:=hid (hzl.symm.trans hnz);have hyz:=hlev.out;clear b1 b2 b3 b4 h1 h2 h3 h4 hd2 hd3 hr3 hz hln hnd hkm hkv hx hy hyx hzl hkz hgn hcn ck' hmk hnz hT hD0 hV;obtain⟨kd,hkd0⟩: ∃kd:Int,(if x.kind=3 then 6 else 5:Int)=kd:=⟨_,rfl⟩;obtain⟨xk,hxk⟩: ∃xk:Int,(x.kind:Int)=xk:=⟨_,rfl⟩;have hval:bH s d (lv+1) k= .mk kd [] (gI s d.nodes x.kind x.kids) (x.kids.map (bH s d lv)):=by
    rw[<-hkd0];show bH s d (lv+1) k=_
    conv=>lhs;unfold bH
    rw[hxd];simp only[];rw[if_neg h1,if_neg h4];rfl
  rw[hval];rw[hxk] at hW3 HXC H3 y0;have k1:(xk==1)=false:=aG.2 (by omega);have k4:(xk==4)=false:=aG.2 (by omega);have HXK:=hid (aI hxk hkd0);have HND:Hid (∀w',Below W3.heap.size W3 w'-> ∀q∈x.kids,Calls Tryz.prog 24 #[.agg #[.string (bs s), .slice pl nl cl, .slice (some ⟨gn,0,none⟩) nz cn], .int .i64 (q:Int), .int .i64 (lev+1)] w' (jI (bH s d lv q) w')):=hid (λw' hbw q hq=>by obtain⟨⟨m',hm'⟩,_⟩:=HKD.out q hq;exact IH B _ _ q m' (lev+1) w' hm' (hid (by have:=hlev.out;omega)) (by omega) (HDoc.out w' hbw) (HVr.out w' hbw));have HC4:Hid (CS W3 Y 5 [] [] [] (.slice none 0 0) (.slice none 0 0) W4):=hid (by have:=CS.start (aB W3.heap.size W3) 5 [];rw[hYe] at this;rw[<-hW4];exact this);have hl1:decide ((32:Int)<lev)=false:=aJ (by omega);have hl2:IntKind.i64.wrap (lev+1)=lev+1:=IntWalk.i64_in _ (by omega);have hDR3:D<W3.heap.size:=aF H3.out.1;have hbk:=HKM.out.2;have hmk0:(0:Int)<=(mk:Int):=by omega
  clear hval hkd0 hxk h1 h4 hxd IH hyz;go_enter Tryz.func24,Tryz.ntmps24;go_upto_region 1 with fail;clear hW1 hW2 hDe hRe;go_upto_region 2 with fail;clear hW3 hXe y0 y1 y2 y3 y4 y5 y6 y7 y8 d2;have HW4:=hid hW4;clear hW4;go_upto_region 3 with fail
  first | rw[HW4.out] | skip
  clear hYe;obtain⟨⟨e0,e1,e2⟩,⟨x0,x6,x7,x8⟩,hr⟩:=HXC.out W4 HB34.out;have hYl:=aF H4.out;obtain⟨c0,c1,c2,c3,f0,f1,f2,f3⟩:=bC H4.out;clear hr;obtain⟨W5,hW5⟩: ∃W5,(W5=W4\/W5=W4.setCell ⟨Y,0,none⟩ (.int .i64 6))/\Hid (CS W3 Y kd [] [] [] (.slice none 0 0) (.slice none 0 0) W5)/\((xk==3)=true->W5=W4.setCell ⟨Y,0,none⟩ (.int .i64 6))/\((xk==3)=false->W5=W4):=by
    by_cases h3:xk=3
    · have hk6:kd=6:=(by rw[<-HXK.out.2,if_pos (by have:=HXK.out.1;omega)]);refine⟨_, .inr rfl,hid ?_,λ_=>rfl,λe=>absurd h3 (aG.1 e)⟩;have h:=HC4.out;refine⟨?_,bV.nil _ _,λe=>(by cases e),fD.nil _ _ _,h.bel.setCell (p:=⟨Y,0,none⟩) h.new_ _,h.new_⟩;rw[hk6];exact gL h.box 0 _
    · have hk5:kd=5:=(by rw[<-HXK.out.2,if_neg (by have:=HXK.out.1;omega)]);exact⟨_, .inl rfl,by rw[hk5];exact HC4,λe=>absurd (eq_of_beq e) h3,λ_=>rfl⟩
  obtain⟨hW5a,HC,hW5b,hW5c⟩:=hW5;have HGO: ∀(b:Bool),(xk==3)=b->Hid (CS W3 Y kd [] [] [] (.slice none 0 0) (.slice none 0 0) (if b then W4.setCell ⟨Y,0,none⟩ (.int .i64 6) else W4)):=λb hb2=>by
    cases b with
    | true=>rw[if_pos rfl,<-hW5b hb2];exact HC
    | false=>rw[if_neg (by simp),<-hW5c hb2];exact HC
  clear hW5a HC hW5b hW5c;obtain⟨b3,hb3⟩:=exQ (xk==3);have HCb:=HGO b3 hb3;have HX3:=hid hb3;clear HGO;cases b3 with
  | false =>
    rw[if_neg (by simp)] at HCb;have HC:=HCb;go_upto_region 12 with fail;clear c0 c1 c2 c3 f0 f1 f2 f3;go_wp2_with fail;clear x0 x6 x7 x8 e0 e1 e2;go_loopw [50,12,13,14] (λs50 s12 s13 s14 wr=> ∃(i:Nat) (kv ov:Value),s50= .int .i64 (i:Int)/\i<=mk/\Hid (CS W3 Y kd [] (gI s d.nodes x.kind (x.kids.take i)) ((x.kids.take i).map (bH s d lv)) kv ov wr)) (λs50 _ _ _ _=>mk-(RowKit.intOf s50).toNat)
    case atStart=>exact⟨0, .slice none 0 0, .slice none 0 0,rfl,cN _,by rw[List.take_zero,Mf];first | exact HC | exact hid (HC.out.keep (aB _ _).drew)⟩
    case round=>
      clear HC;obtain⟨i,kv,ov,rfl,hi,HC⟩:=hrel;obtain⟨⟨e0,e1,e2⟩,⟨x0,x6,x7,x8⟩,hr⟩:=HXC.out wr HC.out.bel;by_cases hil:i<mk
      · obtain⟨q,hq⟩: ∃q,x.kids[i]?=some q:=⟨_,bJ (by rw[HKM.out.1];exact hil)⟩;have hqm:=aX hq;obtain⟨gk,rfl,kc⟩:=HKR.out wr (HB3.out.trans (HC.out.bel.mono hwW3)) i q hq;obtain⟨_,hqn⟩:=HKD.out q hqm;have hi1:(i:Int)<(mk:Int):=(by omega);have dk:decide ((i:Int)<(mk:Int))=true:=aN hi1;have hi0:(0:Int)<=(i:Int):=(by omega);have hqz:q<nz:=by have:=HZN.out;omega
        have dq1:decide ((q:Int)<0)=false:=aJ (by omega);have dq2:decide ((nz:Int)<=(q:Int))=false:=aJ (by omega);have dq3:decide (nz<=q)=false:=aJ (by omega);have hq0:(0:Int)<=(q:Int):=(by omega);have hq1:(q:Int)<(nz:Int):=(by omega);have HTK:=hid (vD hq);obtain⟨pa,ca,hkv⟩:=HC.out.keys.slice;obtain⟨po,co,hov⟩:=HC.out.its.slice;have hlt:((x.kids.take i).map (bH s d lv)).length=i:=by rw[bU,cF];have:=HKM.out.1;omega
        rw[hlt] at hov;obtain⟨nk,hnk⟩:=exQ<|(gI s d.nodes x.kind (x.kids.take i)).length;have hnk1:nk<=131072:=by
          rw[<-hnk];unfold gI;split
          · rw[bU,cF];omega
          · exact cN _
        rw[hnk] at hkv;subst hkv hov;have HNK:=hid hnk;have HQM:=hid hqm;obtain⟨yq,hyq⟩: ∃yq,d.nodes[q]?=some yq:=⟨_,bJ hqn⟩;have HYQ:=hid hyq;clear hq hqm hnk hlt hyq;go_upto_if 70 with fail;go_cut [71,72,73,74,75,76,77,78,79,80,81,82,83,84,85,86,87,88,13,14] (λs71 s72 s73 s74 s75 s76 s77 s78 s79 s80 s81 s82 s83 s84 s85 s86 s87 s88 s13 s14 wx=> ∃kv',Hid (CS W3 Y kd [] (gI s d.nodes x.kind (x.kids.take (i+1))) ((x.kids.take i).map (bH s d lv)) kv' (.slice po i co) wx))
        case first=>
          have hx6: ¬x.kind=3:=λe=>by have h1:=HXK.out.1;have h2:=aG.1 HX3.out;omega
          have HC1:Hid (CS W3 Y kd [] (gI s d.nodes x.kind (x.kids.take (i+1))) ((x.kids.take i).map (bH s d lv)) (.slice pa nk ca) (.slice po i co) wr):=hid (by have:=HC.out;unfold gI at this ⊢;rw[if_neg hx6] at this ⊢;exact this);clear hx6;go_wp2_with fail;go_meet;exact⟨_,by first | exact HC1 | exact hid (HC1.out.keep (aB _ _).drew)⟩
        case rest=>
          obtain⟨kv',HC1⟩:=hcut;clear HC HNK hnk1 x0 x6 x7 x8 e0 e1 e2 kc hr;obtain⟨W0,hW0⟩:=exQ<|wc.drew;have hb0r:Below wc.heap.size wc W0:=by rw[<-hW0];exact(aB _ _).drew
          have HC0':=hid (HC1.out.keep hb0r);have hlen2:((x.kids.take i).map (bH s d lv)++ [bH s d lv q]).length=i+1:=by rw[aS,bU,cF,eD];have:=HKM.out.1;omega
          have hlk:((x.kids.take i).map (bH s d lv)).length<=4294967295:=by rw[bU,cF];omega
          have HL2:=hid (aI hlen2 hlk);clear hlen2 hlk hb0r;go_upto_region 20 with fail;obtain⟨SA,hSA⟩: ∃S:World->Prop,(λw'=>(w'.cell? ⟨Y,3,none⟩=some (.slice po i co)/\w'.frozen? ⟨Y,3,none⟩=false)/\w'.cell? ⟨D,0,none⟩=some (.string (bs s))/\w'.cell? ⟨D,1,none⟩=some (.slice pl nl cl)/\w'.cell? ⟨D,2,none⟩=some (.slice (some ⟨gn,0,none⟩) nz cn))=S:=⟨_,rfl⟩;have HSA:Hid (∀w',Below W0.heap.size W0 w'->SA w'):=hid (λw' hb=>by rw[<-hSA];obtain⟨⟨a3,a4,a5⟩,_,_⟩:=HXC.out w' (aC HC0'.out.bel hb);have q:=(HC0'.out.keep hb).cells;exact⟨⟨q.2.2.2.1,q.2.2.2.2.2.2.2⟩,a3,a4,a5⟩);have HSG:Hid (∀w' c',iD W0 Y kv'.ownBlock (bH s d lv q) ((x.kids.take i).map (bH s d lv)) (.slice po i co) 3 c' w'->SA w'):=hid (λw' c' hp=>by rw[<-hSA];obtain⟨q1,q2,q3,q4⟩:=hp;have hbox:=HC0'.out.box;have hn:=HC0'.out.new_;have hbY:Below (Y+1) W0 w':=q2;have e2:w'.heap[Y]?=_:=(hbY.block Y (tS _)).trans hbox;have e3: ∀o',w'.cell? ⟨D,o',none⟩=W0.cell? ⟨D,o',none⟩:=λo'=>hbY.cell (p:=⟨D,o',none⟩) (by show D<Y+1;omega);obtain⟨⟨a3,a4,a5⟩,_,_⟩:=HXC.out W0 HC0'.out.bel;obtain⟨y0,y1,y2,y3,y4,y5,y6,y7⟩:=bC e2;exact⟨⟨y3,y7⟩,by rw[e3];exact a3,by rw[e3];exact a4,by rw[e3];exact a5⟩);have hfol:Tryz.prog.follows .mixedOrders=true:=(by kernel_rfl);refine kR hfol [some 89,some 90,some 91,some 92,some 93,some 94,some 95,some 96,some 97,some 98,none] [89,90,91,92,93,94,95,96,97,98] [6,7,8,10] 1000000 (λ_ _=>True) 101 rfl (by kernel_rfl) (by kernel_rfl) (by kernel_rfl) (λiz=>match iz with | 0=> .pointer (some ⟨Y,3,none⟩) | 1=> .slice po i co | 2=> .agg #[.string (bs s), .slice pl nl cl, .slice (some ⟨gn,0,none⟩) nz cn] | 3=> .int .i64 (q:Int) | 4=> .int .i64 lev | 5=> .int .i64 (lev+1) | 9=> .pointer (some ⟨Y,3,none⟩) | _=>undef) SA (iD W0 Y kv'.ownBlock (bH s d lv q) ((x.kids.take i).map (bH s d lv)) (.slice po i co)) (by rw[hW0];exact HSA.out _ (aB _ _)) (by rw[hW0];exact aB _ _) ?_ ?_
          · intro dd a w' iq o' ho hi hall hfr hF R' hR;have hiN:iq<11:=(cM.1 ho).1;have q2:a.tmps[2]?.getD undef= .int .i64 lev:=aY hfr 2 (by decide);have q3:a.tmps[3]?.getD undef= .pointer (some ⟨D,0,none⟩):=aY hfr 3 (by decide);have q8:a.tmps[8]?.getD undef= .pointer (some ⟨Y,0,none⟩):=aY hfr 8 (by decide);have q12:a.tmps[12]?.getD undef= .int .i64 (q:Int):=aY hfr 12 (by decide);have hc:=hF.all [(0,89),(1,90),(2,91),(3,92),(4,93),(5,94),(9,98)] (by decide);dsimp only[eW] at hc;clear hfr;have ha:=hall;have hoo:=ho;have hcs:iq=6\/iq=7\/iq=8\/iq=10\/iq=0\/iq=3\/iq=4\/iq=5\/iq=9\/iq=1\/iq=2:=(by omega);clear hiN;rcases hcs with rfl|rfl|rfl|rfl|rfl|rfl|rfl|rfl|rfl|rfl|rfl<;>simp only[dW,dA,cD,cS] at ho<;>subst ho<;>(try simp[Region.binds] at hall)
            · have c91:=hF.g 2 91 rfl (by decide) (by decide) (by decide) (by simp[hall]);have c92:=hF.g 3 92 rfl (by decide) (by decide) (by decide) (by simp[hall]);have c94:=hF.g 5 94 rfl (by decide) (by decide) (by decide) (by simp[hall]);have hP0:=hF.at2 (j:=0) rfl hi (.inl rfl);have hA:Below W0.heap.size W0 w':=hP0;go_simp;go_at_call 24;refine(HND.out _ (aC HC0'.out.bel hA) q HQM.out).mono ?_;rintro e w5 ⟨⟨kv5,iv5,rfl,hv5⟩,hb5⟩;have hb6:=aC hA hb5;exact hR _ _ (hF.eff2 (by kernel_rfl) (by decide) 0 hoo ha rfl hi (.inl rfl) rfl (by decide) (λ_ _ _=>trivial) (λ_=>HSA.out _ hb6) ⟨kv5,iv5,rfl,hv5.mono (λq hq _=>aW hA.size hq),hb6⟩)
            · have hpv:dd 6=true:=(by simp[hall]);have hP0:=hF.at2 (j:=1) rfl hi (.inr ⟨6,rfl,hpv⟩);obtain⟨kv5,iv5,hc5,hv5,hb5⟩:=hP0;have hc5:a.tmps.getD 95 undef=vv (bH s d lv q) kv5 iv5:=hc5;have c95:a.tmps[95]?.getD undef= .agg #[.int .i64 (bH s d lv q).kind, .string (bs (bH s d lv q).text),kv5,iv5]:=by rw[<-aO];exact hc5
              have hb6:=λob=>aC hb5 (aH w' ob);go_simp;exact hR _ _ (hF.eff2 (by kernel_rfl) (by decide) 1 hoo ha rfl hi (.inr ⟨6,rfl,hpv⟩) rfl (by decide) (λ_ _ _=>trivial) (λ_=>HSA.out _ (hb6 _)) ⟨w',kv5,iv5,hv5,hb5,rfl,rfl⟩)
            · have c90:=hF.g 1 90 rfl (by decide) (by decide) (by decide) (by simp[hall]);have hpv:dd 7=true:=(by simp[hall]);have hP0:=hF.at2 (j:=2) rfl hi (.inr ⟨7,rfl,hpv⟩);have c90':a.tmps.getD 90 undef= .slice po i co:=by rw[aO];exact c90
              exact iD.app (.tmp 90) (.tmp 96) rfl HC0'.out hP0 c90' rfl HL2.out.2 (λv' w2 hp3=>hR _ _ (hF.eff2 (by kernel_rfl) (by decide) 2 hoo ha rfl hi (.inr ⟨7,rfl,hpv⟩) rfl (by decide) (λ_ _ _=>trivial) (λ_=>HSG.out _ _ hp3) hp3))
            · have c98:=hF.g 9 98 rfl (by decide) (by decide) (by decide) (by simp[hall]);have hpv:dd 8=true:=(by simp[hall]);have hP0:=hF.at2 (j:=3) rfl hi (.inr ⟨8,rfl,hpv⟩);have hP3:iD W0 Y kv'.ownBlock (bH s d lv q) ((x.kids.take i).map (bH s d lv)) (.slice po i co) 3 (a.tmps.getD 97 undef) w':=hP0;have hS0:=hF.st hi;rw[<-hSA] at hS0;obtain⟨⟨x3,x3f⟩,_⟩:=hS0;obtain⟨pz2,cz2,hz⟩:=hP3.1.slice;rw[HL2.out.1] at hz;rw[hz] at hP3;have c97:a.tmps[97]?.getD undef= .slice pz2 (i+1) cz2:=by rw[<-aO];exact hz
              go_simp;exact hR undef _ (hF.eff2 (by kernel_rfl) (by decide) 3 hoo ha rfl hi (.inr ⟨8,rfl,hpv⟩) rfl (by decide) (λ_ _ _=>trivial) (λh=>absurd rfl h) ⟨_,_,hP3,rfl⟩)
            iterate 5 (go_simp;exact hR _ _ (hF.pure (by kernel_rfl) hoo ha rfl (by decide) (by decide) (by decide) rfl))
            all_goals
              have hS0:=hF.early (f:=11) (by kernel_rfl) hi;rw[<-hSA] at hS0;obtain⟨⟨x3,x3f⟩,s0,s1,s2⟩:=hS0;go_simp;exact hR _ _ (hF.pure (by kernel_rfl) hoo ha rfl (by decide) (by decide) (by decide) rfl)
          intro v wz hcl hP4;obtain⟨ov2,HC2⟩:=iD.fin HC0'.out hP4;have HC2:Hid (CS W3 Y kd [] (gI s d.nodes x.kind (x.kids.take (i+1))) ((x.kids.take (i+1)).map (bH s d lv)) kv' ov2 wz):=hid (by
            have e:(x.kids.take (i+1)).map (bH s d lv)=(x.kids.take i).map (bH s d lv)++ [bH s d lv q]:=by rw[HTK.out,oM];rfl
            rw[e];exact HC2)
          clear hcl hP4 HSG HSA hSA HC0' hW0 HC1;simp only[cE,eE,dF,eF];go_wp2_with fail;go_roundw
          case rel=>exact⟨i+1,kv',ov2,by go_num,by omega,by first | exact HC2 | exact hid (HC2.out.keep (aB _ _).drew)⟩
          case measure=>simp[RowKit.intOf];omega
      · have dk:decide ((i:Int)<(mk:Int))=false:=aJ (by omega);obtain rfl:i=mk:=(by omega);have hc0:=HC.out;rw[<-HKM.out.1,List.take_length] at hc0;have HC9:=hid hc0;clear hc0;obtain⟨pa,ca,hkv⟩:=HC9.out.keys.slice;obtain⟨po,co,hov⟩:=HC9.out.its.slice;obtain⟨nk,hnk⟩:=exQ<|(gI s d.nodes x.kind x.kids).length;obtain⟨ni,hni⟩:=exQ<|(x.kids.map (bH s d lv)).length;rw[hnk] at hkv;rw[hni] at hov;subst hkv hov;have HP:Hid (jI (VT.mk kd [] (gI s d.nodes x.kind x.kids) (x.kids.map (bH s d lv))) w (.returned (.agg #[.int .i64 kd, .string (bs []), .slice pa nk ca, .slice po ni co])) (bF wr R kd [] (.slice pa nk ca) (.slice po ni co))):=hid (by refine⟨⟨_,_,rfl,?_⟩,oL (aC HB3.out HC9.out.bel) (by omega)⟩;exact(HC9.out.put (R:=R) hR3l).mono (λq hq _=>aW HB3.out.size hq));have HRf:Hid ((bF wr R kd [] (.slice pa nk ca) (.slice po ni co)).heap[R]?=some (.cells #[.int .i64 kd, .string (bs []), .slice pa nk ca, .slice po ni co] 26)):=hid (rC hr);obtain⟨r0,r1,r2,r3,f0,f1,f2,f3⟩:=bC hr;obtain⟨y0,y1,y2,y3,_⟩:=HC9.out.cells;clear hnk hni HC hr;go_wp2_with fail;obtain⟨WF,hWF⟩:=exQ<|bF wr R kd [] (.slice pa nk ca) (.slice po ni co);rw[hWF] at HP HRf;have hWF':(((wr.setCell ⟨R,0,none⟩ (.int .i64 kd)).setCell ⟨R,1,none⟩ (.string (bs []))).setCell ⟨R,2,none⟩ (.slice pa nk ca)).setCell ⟨R,3,none⟩ (.slice po ni co)=WF:=hWF
        first
          | rw[hWF']
          | (have hWF2:(((wr.setCell ⟨R,0,none⟩ (.int .i64 kd)).setCell ⟨R,1,none⟩ (.string ⟨#[]⟩)).setCell ⟨R,2,none⟩ (.slice pa nk ca)).setCell ⟨R,3,none⟩ (.slice po ni co)=WF:=hWF
             rw[hWF2])
        clear hWF hWF' r0 r1 r2 r3 f0 f1 f2 f3 y0 y1 y2 y3;obtain⟨d0,d1,d2,d3,_⟩:=bC HRf.out;refine bodyPost_ret (v:= .agg #[.int .i64 kd, .string (bs []), .slice pa nk ca, .slice po ni co]) ?_ rfl HP.out;simp[results,Tryz.results24,go_sem,d0,d1,d2,d3]
  | true=>
    rw[if_pos rfl] at HCb;obtain⟨W5,hW5⟩:=exQ<|W4.setCell ⟨Y,0,none⟩ (.int .i64 6);rw[hW5] at HCb;have HC:=HCb;go_upto_region 12 with fail;clear hW5 c0 c1 c2 c3 f0 f1 f2 f3 x0 x6 x7 x8 e0 e1 e2;obtain⟨⟨e0,e1,e2⟩,⟨x0,x6,x7,x8⟩,_⟩:=HXC.out W5 HC.out.bel;go_wp2_with fail;clear x0 x6 x7 x8 e0 e1 e2;go_loopw [50,12,13,14] (λs50 s12 s13 s14 wr=> ∃(i:Nat) (kv ov:Value),s50= .int .i64 (i:Int)/\i<=mk/\Hid (CS W3 Y kd [] (gI s d.nodes x.kind (x.kids.take i)) ((x.kids.take i).map (bH s d lv)) kv ov wr)) (λs50 _ _ _ _=>mk-(RowKit.intOf s50).toNat)
    case atStart=>exact⟨0, .slice none 0 0, .slice none 0 0,rfl,cN _,by rw[List.take_zero,Mf];first | exact HC | exact hid (HC.out.keep (aB _ _).drew)⟩
    case round=>
      clear HC;obtain⟨i,kv,ov,rfl,hi,HC⟩:=hrel;obtain⟨⟨e0,e1,e2⟩,⟨x0,x6,x7,x8⟩,hr⟩:=HXC.out wr HC.out.bel;by_cases hil:i<mk
      · obtain⟨q,hq⟩: ∃q,x.kids[i]?=some q:=⟨_,bJ (by rw[HKM.out.1];exact hil)⟩;have hqm:=aX hq;obtain⟨gk,rfl,kc⟩:=HKR.out wr (HB3.out.trans (HC.out.bel.mono hwW3)) i q hq;obtain⟨_,hqn⟩:=HKD.out q hqm;have hi1:(i:Int)<(mk:Int):=(by omega);have dk:decide ((i:Int)<(mk:Int))=true:=aN hi1;have hi0:(0:Int)<=(i:Int):=(by omega);have hqz:q<nz:=by have:=HZN.out;omega
        have dq1:decide ((q:Int)<0)=false:=aJ (by omega);have dq2:decide ((nz:Int)<=(q:Int))=false:=aJ (by omega);have dq3:decide (nz<=q)=false:=aJ (by omega);have hq0:(0:Int)<=(q:Int):=(by omega);have hq1:(q:Int)<(nz:Int):=(by omega);have HTK:=hid (vD hq);obtain⟨pa,ca,hkv⟩:=HC.out.keys.slice;obtain⟨po,co,hov⟩:=HC.out.its.slice;have hlt:((x.kids.take i).map (bH s d lv)).length=i:=by rw[bU,cF];have:=HKM.out.1;omega
        rw[hlt] at hov;obtain⟨nk,hnk⟩:=exQ<|(gI s d.nodes x.kind (x.kids.take i)).length;have hnk1:nk<=131072:=by
          rw[<-hnk];unfold gI;split
          · rw[bU,cF];omega
          · exact cN _
        rw[hnk] at hkv;subst hkv hov;have HNK:=hid hnk;have HQM:=hid hqm;obtain⟨yq,hyq⟩: ∃yq,d.nodes[q]?=some yq:=⟨_,bJ hqn⟩;have HYQ:=hid hyq;clear hq hqm hnk hlt hyq;go_upto_if 70 with fail;go_cut [71,72,73,74,75,76,77,78,79,80,81,82,83,84,85,86,87,88,13,14] (λs71 s72 s73 s74 s75 s76 s77 s78 s79 s80 s81 s82 s83 s84 s85 s86 s87 s88 s13 s14 wx=> ∃kv',Hid (CS W3 Y kd [] (gI s d.nodes x.kind (x.kids.take (i+1))) ((x.kids.take i).map (bH s d lv)) kv' (.slice po i co) wx))
        case first=>
          have hx6:x.kind=3:=by have h1:=HXK.out.1;have h2:=eq_of_beq HX3.out;omega
          obtain⟨qkf,hqkf⟩:=exQ<|yq.kf;obtain⟨qkt,hqkt⟩:=exQ<|yq.kt;obtain⟨qs,hqs⟩:=exQ<|eZ s qkf qkt;obtain⟨⟨key,ke⟩,hke⟩:=exQ<|oO qs;have hkey:pI s d.nodes q=key:=by
            unfold pI;rw[HYQ.out];simp only[];rw[hqkf,hqkt,hqs,hke]
          have CBq:=hid (λw'=>CBy.out qkf qkt w');rw[hqs] at CBq;have hqsl:=Do s qkf qkt;rw[hqs] at hqsl;obtain⟨W0,hW0⟩:=exQ<|wr.drew;have hb0r:Below wr.heap.size wr W0:=by rw[<-hW0];exact(aB _ _).drew
          have HB0:Hid (Below W3.heap.size W3 W0):=hid (aC HC.out.bel hb0r);have CKq:Hid (∀w',Below W0.heap.size W0 w'->Calls Tryz.prog 52 #[.string (bs qs)] w' λe w2=>e= .returned (.tuple #[.string (bs key), .int .i64 ke])/\Below w'.heap.size w' w2):=hid (λw' hbw=>by have:=Cb qs w' (by have:=hb.txt;omega) (HVr.out w' (aC HB0.out hbw));rw[hke] at this;exact this);have HSQ:Hid (∀w',Below W0.heap.size W0 w'->w'.cell? ⟨D,0,none⟩=some (.string (bs s))/\w'.cell? ⟨D,1,none⟩=some (.slice pl nl cl)/\w'.cell? ⟨D,2,none⟩=some (.slice (some ⟨gn,0,none⟩) nz cn)/\w'.cell? ⟨gn,q*9+4,none⟩=some (.int .i64 qkf)/\w'.cell? ⟨gn,q*9+5,none⟩=some (.int .i64 qkt)):=hid (λw' hbw=>by obtain⟨⟨a3,a4,a5⟩,_,_⟩:=HXC.out w' (aC HB0.out hbw);obtain⟨n4,n5⟩:=HNodes.out w' (aC HB3.out (aC HB0.out hbw)) q yq HYQ.out;rw[hqkf] at n4;rw[hqkt] at n5;exact⟨a3,a4,a5,n4,n5⟩);have HCk:Hid (CS W3 Y kd [] ((x.kids.take i).map (pI s d.nodes)) ((x.kids.take i).map (bH s d lv)) (.slice pa nk ca) (.slice po i co) wr):=hid (by have:=HC.out;unfold gI at this;rw[if_pos hx6] at this;exact this);have hlk:((x.kids.take i).map (pI s d.nodes)).length<=4294967295:=by rw[bU,cF];omega
          have hlen2:((x.kids.take i).map (pI s d.nodes)++ [key]).length=nk+1:=by
            have:=HNK.out;unfold gI at this;rw[if_pos hx6] at this;rw[aS,this,eD]
          have HX6:=hid (aI hx6 hkey);have HL2:=hid (aI hlen2 hlk);clear hx6 hqkf hqkt hqs hke hkey hlen2 hlk hb0r hqsl;go_upto_region 18 with fail;clear x0 x6 x7 x8 e0 e1 e2 kc hr;have hfol:Tryz.prog.follows .mixedOrders=true:=(by kernel_rfl);refine nG hfol [72,73,74,75,76,77,78,79,80,71,81,82,13,14] 101 rfl (by kernel_rfl) (by kernel_rfl) (λiz=>match iz with | 0=> .agg #[.string (bs s), .slice pl nl cl, .slice (some ⟨gn,0,none⟩) nz cn] | 1=> .pointer (some ⟨D,2,none⟩) | 2=> .slice (some ⟨gn,0,none⟩) nz cn | 3=> .int .i64 (q:Int) | 4=> .pointer (some ⟨gn,q*9,none⟩) | 5=> .pointer (some ⟨gn,q*9+4,none⟩) | 6=> .agg #[.int .i64 qkf, .int .i64 qkt] | 7=> .string (bs qs) | 8=> .tuple #[.string (bs key), .int .i64 ke] | 9=> .tuple #[.string (bs key), .int .i64 ke] | 10=> .string (bs key) | 11=> .int .i64 ke | 12=> .string (bs key) | 13=> .int .i64 ke | _=>undef) (λw'=>Below W0.heap.size W0 w') (by rw[hW0];exact aB _ _) ?_ ?_
          · intro dd a w' iq o' ho hi hall hfr hF R' hR;have hiN:iq<14:=(cM.1 ho).1;have q3:a.tmps[3]?.getD undef= .pointer (some ⟨D,0,none⟩):=aY hfr 3 (by decide);have q12:a.tmps[12]?.getD undef= .int .i64 (q:Int):=aY hfr 12 (by decide);have hc:=hF.all [(9,71),(0,72),(1,73),(2,74),(3,75),(4,76),(5,77),(6,78),(7,79),(8,80),(10,81),(11,82)] (by decide);dsimp only[eW] at hc;clear hfr;obtain⟨s0,s1,s2,q4,q5⟩:=HSQ.out _ hF.st;have hcs:iq=7\/iq=8\/iq=0\/iq=1\/iq=2\/iq=3\/iq=4\/iq=5\/iq=6\/iq=9\/iq=10\/iq=11\/iq=12\/iq=13:=(by omega);clear hiN;rcases hcs with rfl|rfl|rfl|rfl|rfl|rfl|rfl|rfl|rfl|rfl|rfl|rfl|rfl|rfl<;>simp only[dW,dA,cD,cS] at ho<;>subst ho<;>(try simp[Region.binds] at hall)
            · have c72:=hF.g 0 72 rfl (by simp[hall]);have c78:=hF.g 6 78 rfl (by simp[hall]);refine eV (kS rfl) ?_;go_simp;go_at_call 49;refine(CBq.out _).mono ?_;rintro e w5 ⟨rfl,hb5⟩;exact hR _ _ (hF.step (by decide) rfl rfl (aC hF.st hb5))
            · have c79:=hF.g 7 79 rfl (by simp[hall]);refine eV (kS rfl) ?_;go_simp;go_at_call 52;refine(CKq.out _ hF.st).mono ?_;rintro e w5 ⟨rfl,hb5⟩;exact hR _ _ (hF.step (by decide) rfl rfl (aC hF.st hb5))
            iterate 12 (refine eV (kS rfl) ?_;go_simp;exact hR _ _ (hF.step (by decide) rfl (by first | rfl | simp) hF.st))
          intro v wz hcl hS;have hv:=nF (l:= [72,73,74,75,76,77,78,79,80,71,81,82,13,14]) hcl (by decide);dsimp only[lH] at hv;simp only[cE,eE,dF,eF,hv];clear hcl hv;have HB1:=hid hS;have HCz:Hid (CS W3 Y kd [] ((x.kids.take i).map (pI s d.nodes)) ((x.kids.take i).map (bH s d lv)) (.slice pa nk ca) (.slice po i co) wz):=hid ((HCk.out.keep (show Below wr.heap.size wr W0 from by rw[<-hW0];exact(aB _ _).drew)).keep hS);clear hS;obtain⟨c0,c1,c2,c3,f0,f1,f2,f3⟩:=HCz.out.cells;have hYz:=aF HCz.out.box;go_wp2_with (at_builtin;refine wpList_step λK hK=>?_;rw[if_pos (by rfl)];refine mF.app (W:=W3) (W0:=wz) (Y:=Y) (key:=key) (.tmp 84) (.tmp 86) rfl HCz.out ⟨wz,aB _ _,rfl,rfl⟩ rfl rfl HL2.out.2 (λv1 w7 hp3=>?_);have HP3:=hid hp3;obtain⟨pz2,cz2,hz⟩:=hp3.1.slice;rw[HL2.out.1] at hz;subst hz;obtain⟨c20,c21,c22,c23,f20,f21,f22,f23⟩:=bC ((HP3.out.2.2.2.1 Y hYz HCz.out.off).trans HCz.out.box);clear hp3 c0 c1 c2 c3 f0 f1 f2 f3;refine hK _ _ ?_);obtain⟨kv2,hC2⟩:=mF.fin (c:=undef) (w':=w7.setCell ⟨Y,2,none⟩ (.slice pz2 (nk+1) cz2)) HCz.out ⟨_,_,HP3.out,rfl⟩;have HC2:Hid (CS W3 Y kd [] (gI s d.nodes x.kind (x.kids.take (i+1))) ((x.kids.take i).map (bH s d lv)) kv2 (.slice po i co) (w7.setCell ⟨Y,2,none⟩ (.slice pz2 (nk+1) cz2))):=hid (by unfold gI;rw[if_pos HX6.out.1,HTK.out,oM];show CS W3 Y kd [] (_++ [pI s d.nodes q]) _ _ _ _;rw[HX6.out.2];exact hC2);clear hC2;go_wp2_with fail;go_meet;exact⟨_,by first | exact HC2 | exact hid (HC2.out.keep (aB _ _).drew)⟩
        case rest=>
          obtain⟨kv',HC1⟩:=hcut;clear HC HNK hnk1 x0 x6 x7 x8 e0 e1 e2 kc hr;obtain⟨W0,hW0⟩:=exQ<|wc.drew;have hb0r:Below wc.heap.size wc W0:=by rw[<-hW0];exact(aB _ _).drew
          have HC0':=hid (HC1.out.keep hb0r);have hlen2:((x.kids.take i).map (bH s d lv)++ [bH s d lv q]).length=i+1:=by rw[aS,bU,cF,eD];have:=HKM.out.1;omega
          have hlk:((x.kids.take i).map (bH s d lv)).length<=4294967295:=by rw[bU,cF];omega
          have HL2:=hid (aI hlen2 hlk);clear hlen2 hlk hb0r;go_upto_region 20 with fail;obtain⟨SA,hSA⟩: ∃S:World->Prop,(λw'=>(w'.cell? ⟨Y,3,none⟩=some (.slice po i co)/\w'.frozen? ⟨Y,3,none⟩=false)/\w'.cell? ⟨D,0,none⟩=some (.string (bs s))/\w'.cell? ⟨D,1,none⟩=some (.slice pl nl cl)/\w'.cell? ⟨D,2,none⟩=some (.slice (some ⟨gn,0,none⟩) nz cn))=S:=⟨_,rfl⟩;have HSA:Hid (∀w',Below W0.heap.size W0 w'->SA w'):=hid (λw' hb=>by rw[<-hSA];obtain⟨⟨a3,a4,a5⟩,_,_⟩:=HXC.out w' (aC HC0'.out.bel hb);have q:=(HC0'.out.keep hb).cells;exact⟨⟨q.2.2.2.1,q.2.2.2.2.2.2.2⟩,a3,a4,a5⟩);have HSG:Hid (∀w' c',iD W0 Y kv'.ownBlock (bH s d lv q) ((x.kids.take i).map (bH s d lv)) (.slice po i co) 3 c' w'->SA w'):=hid (λw' c' hp=>by rw[<-hSA];obtain⟨q1,q2,q3,q4⟩:=hp;have hbox:=HC0'.out.box;have hn:=HC0'.out.new_;have hbY:Below (Y+1) W0 w':=q2;have e2:w'.heap[Y]?=_:=(hbY.block Y (tS _)).trans hbox;have e3: ∀o',w'.cell? ⟨D,o',none⟩=W0.cell? ⟨D,o',none⟩:=λo'=>hbY.cell (p:=⟨D,o',none⟩) (by show D<Y+1;omega);obtain⟨⟨a3,a4,a5⟩,_,_⟩:=HXC.out W0 HC0'.out.bel;obtain⟨y0,y1,y2,y3,y4,y5,y6,y7⟩:=bC e2;exact⟨⟨y3,y7⟩,by rw[e3];exact a3,by rw[e3];exact a4,by rw[e3];exact a5⟩);have hfol:Tryz.prog.follows .mixedOrders=true:=(by kernel_rfl);refine kR hfol [some 89,some 90,some 91,some 92,some 93,some 94,some 95,some 96,some 97,some 98,none] [89,90,91,92,93,94,95,96,97,98] [6,7,8,10] 1000000 (λ_ _=>True) 101 rfl (by kernel_rfl) (by kernel_rfl) (by kernel_rfl) (λiz=>match iz with | 0=> .pointer (some ⟨Y,3,none⟩) | 1=> .slice po i co | 2=> .agg #[.string (bs s), .slice pl nl cl, .slice (some ⟨gn,0,none⟩) nz cn] | 3=> .int .i64 (q:Int) | 4=> .int .i64 lev | 5=> .int .i64 (lev+1) | 9=> .pointer (some ⟨Y,3,none⟩) | _=>undef) SA (iD W0 Y kv'.ownBlock (bH s d lv q) ((x.kids.take i).map (bH s d lv)) (.slice po i co)) (by rw[hW0];exact HSA.out _ (aB _ _)) (by rw[hW0];exact aB _ _) ?_ ?_
          · intro dd a w' iq o' ho hi hall hfr hF R' hR;have hiN:iq<11:=(cM.1 ho).1;have q2:a.tmps[2]?.getD undef= .int .i64 lev:=aY hfr 2 (by decide);have q3:a.tmps[3]?.getD undef= .pointer (some ⟨D,0,none⟩):=aY hfr 3 (by decide);have q8:a.tmps[8]?.getD undef= .pointer (some ⟨Y,0,none⟩):=aY hfr 8 (by decide);have q12:a.tmps[12]?.getD undef= .int .i64 (q:Int):=aY hfr 12 (by decide);have hc:=hF.all [(0,89),(1,90),(2,91),(3,92),(4,93),(5,94),(9,98)] (by decide);dsimp only[eW] at hc;clear hfr;have ha:=hall;have hoo:=ho;have hcs:iq=6\/iq=7\/iq=8\/iq=10\/iq=0\/iq=3\/iq=4\/iq=5\/iq=9\/iq=1\/iq=2:=(by omega);clear hiN;rcases hcs with rfl|rfl|rfl|rfl|rfl|rfl|rfl|rfl|rfl|rfl|rfl<;>simp only[dW,dA,cD,cS] at ho<;>subst ho<;>(try simp[Region.binds] at hall)
            · have c91:=hF.g 2 91 rfl (by decide) (by decide) (by decide) (by simp[hall]);have c92:=hF.g 3 92 rfl (by decide) (by decide) (by decide) (by simp[hall]);have c94:=hF.g 5 94 rfl (by decide) (by decide) (by decide) (by simp[hall]);have hP0:=hF.at2 (j:=0) rfl hi (.inl rfl);have hA:Below W0.heap.size W0 w':=hP0;go_simp;go_at_call 24;refine(HND.out _ (aC HC0'.out.bel hA) q HQM.out).mono ?_;rintro e w5 ⟨⟨kv5,iv5,rfl,hv5⟩,hb5⟩;have hb6:=aC hA hb5;exact hR _ _ (hF.eff2 (by kernel_rfl) (by decide) 0 hoo ha rfl hi (.inl rfl) rfl (by decide) (λ_ _ _=>trivial) (λ_=>HSA.out _ hb6) ⟨kv5,iv5,rfl,hv5.mono (λq hq _=>aW hA.size hq),hb6⟩)
            · have hpv:dd 6=true:=(by simp[hall]);have hP0:=hF.at2 (j:=1) rfl hi (.inr ⟨6,rfl,hpv⟩);obtain⟨kv5,iv5,hc5,hv5,hb5⟩:=hP0;have hc5:a.tmps.getD 95 undef=vv (bH s d lv q) kv5 iv5:=hc5;have c95:a.tmps[95]?.getD undef= .agg #[.int .i64 (bH s d lv q).kind, .string (bs (bH s d lv q).text),kv5,iv5]:=by rw[<-aO];exact hc5
              have hb6:=λob=>aC hb5 (aH w' ob);go_simp;exact hR _ _ (hF.eff2 (by kernel_rfl) (by decide) 1 hoo ha rfl hi (.inr ⟨6,rfl,hpv⟩) rfl (by decide) (λ_ _ _=>trivial) (λ_=>HSA.out _ (hb6 _)) ⟨w',kv5,iv5,hv5,hb5,rfl,rfl⟩)
            · have c90:=hF.g 1 90 rfl (by decide) (by decide) (by decide) (by simp[hall]);have hpv:dd 7=true:=(by simp[hall]);have hP0:=hF.at2 (j:=2) rfl hi (.inr ⟨7,rfl,hpv⟩);have c90':a.tmps.getD 90 undef= .slice po i co:=by rw[aO];exact c90
              exact iD.app (.tmp 90) (.tmp 96) rfl HC0'.out hP0 c90' rfl HL2.out.2 (λv' w2 hp3=>hR _ _ (hF.eff2 (by kernel_rfl) (by decide) 2 hoo ha rfl hi (.inr ⟨7,rfl,hpv⟩) rfl (by decide) (λ_ _ _=>trivial) (λ_=>HSG.out _ _ hp3) hp3))
            · have c98:=hF.g 9 98 rfl (by decide) (by decide) (by decide) (by simp[hall]);have hpv:dd 8=true:=(by simp[hall]);have hP0:=hF.at2 (j:=3) rfl hi (.inr ⟨8,rfl,hpv⟩);have hP3:iD W0 Y kv'.ownBlock (bH s d lv q) ((x.kids.take i).map (bH s d lv)) (.slice po i co) 3 (a.tmps.getD 97 undef) w':=hP0;have hS0:=hF.st hi;rw[<-hSA] at hS0;obtain⟨⟨x3,x3f⟩,_⟩:=hS0;obtain⟨pz2,cz2,hz⟩:=hP3.1.slice;rw[HL2.out.1] at hz;rw[hz] at hP3;have c97:a.tmps[97]?.getD undef= .slice pz2 (i+1) cz2:=by rw[<-aO];exact hz
              go_simp;exact hR undef _ (hF.eff2 (by kernel_rfl) (by decide) 3 hoo ha rfl hi (.inr ⟨8,rfl,hpv⟩) rfl (by decide) (λ_ _ _=>trivial) (λh=>absurd rfl h) ⟨_,_,hP3,rfl⟩)
            iterate 5 (go_simp;exact hR _ _ (hF.pure (by kernel_rfl) hoo ha rfl (by decide) (by decide) (by decide) rfl))
            all_goals
              have hS0:=hF.early (f:=11) (by kernel_rfl) hi;rw[<-hSA] at hS0;obtain⟨⟨x3,x3f⟩,s0,s1,s2⟩:=hS0;go_simp;exact hR _ _ (hF.pure (by kernel_rfl) hoo ha rfl (by decide) (by decide) (by decide) rfl)
          intro v wz hcl hP4;obtain⟨ov2,HC2⟩:=iD.fin HC0'.out hP4;have HC2:Hid (CS W3 Y kd [] (gI s d.nodes x.kind (x.kids.take (i+1))) ((x.kids.take (i+1)).map (bH s d lv)) kv' ov2 wz):=hid (by
            have e:(x.kids.take (i+1)).map (bH s d lv)=(x.kids.take i).map (bH s d lv)++ [bH s d lv q]:=by rw[HTK.out,oM];rfl
            rw[e];exact HC2)
          clear hcl hP4 HSG HSA hSA HC0' hW0 HC1;simp only[cE,eE,dF,eF];go_wp2_with fail;go_roundw
          case rel=>exact⟨i+1,kv',ov2,by go_num,by omega,by first | exact HC2 | exact hid (HC2.out.keep (aB _ _).drew)⟩
          case measure=>simp[RowKit.intOf];omega
      · have dk:decide ((i:Int)<(mk:Int))=false:=aJ (by omega);obtain rfl:i=mk:=(by omega);have hc0:=HC.out;rw[<-HKM.out.1,List.take_length] at hc0;have HC9:=hid hc0;clear hc0;obtain⟨pa,ca,hkv⟩:=HC9.out.keys.slice;obtain⟨po,co,hov⟩:=HC9.out.its.slice;obtain⟨nk,hnk⟩:=exQ<|(gI s d.nodes x.kind x.kids).length;obtain⟨ni,hni⟩:=exQ<|(x.kids.map (bH s d lv)).length;rw[hnk] at hkv;rw[hni] at hov;subst hkv hov;have HP:Hid (jI (VT.mk kd [] (gI s d.nodes x.kind x.kids) (x.kids.map (bH s d lv))) w (.returned (.agg #[.int .i64 kd, .string (bs []), .slice pa nk ca, .slice po ni co])) (bF wr R kd [] (.slice pa nk ca) (.slice po ni co))):=hid (by refine⟨⟨_,_,rfl,?_⟩,oL (aC HB3.out HC9.out.bel) (by omega)⟩;exact(HC9.out.put (R:=R) hR3l).mono (λq hq _=>aW HB3.out.size hq));have HRf:Hid ((bF wr R kd [] (.slice pa nk ca) (.slice po ni co)).heap[R]?=some (.cells #[.int .i64 kd, .string (bs []), .slice pa nk ca, .slice po ni co] 26)):=hid (rC hr);obtain⟨r0,r1,r2,r3,f0,f1,f2,f3⟩:=bC hr;obtain⟨y0,y1,y2,y3,_⟩:=HC9.out.cells;clear hnk hni HC hr;go_wp2_with fail;obtain⟨WF,hWF⟩:=exQ<|bF wr R kd [] (.slice pa nk ca) (.slice po ni co);rw[hWF] at HP HRf;have hWF':(((wr.setCell ⟨R,0,none⟩ (.int .i64 kd)).setCell ⟨R,1,none⟩ (.string (bs []))).setCell ⟨R,2,none⟩ (.slice pa nk ca)).setCell ⟨R,3,none⟩ (.slice po ni co)=WF:=hWF
        first
          | rw[hWF']
          | (have hWF2:(((wr.setCell ⟨R,0,none⟩ (.int .i64 kd)).setCell ⟨R,1,none⟩ (.string ⟨#[]⟩)).setCell ⟨R,2,none⟩ (.slice pa nk ca)).setCell ⟨R,3,none⟩ (.slice po ni co)=WF:=hWF
             rw[hWF2])
        clear hWF hWF' r0 r1 r2 r3 f0 f1 f2 f3 y0 y1 y2 y3;obtain⟨d0,d1,d2,d3,_⟩:=bC HRf.out;refine bodyPost_ret (v:= .agg #[.int .i64 kd, .string (bs []), .slice pa nk ca, .slice po ni co]) ?_ rfl HP.out;simp[results,Tryz.results24,go_sem,d0,d1,d2,d3]
theorem Mg (s:aA) (d:dG) (hb:rF s d) (hi64: ∀l∈d.lines,l.ind<=1099511627776): ∀lv,zA s d lv
 | 0=>λ_ _ _ _ _ _ _ h=>h.elim
 | lv+1=>λB lvv nv k m lev w hT hlev hlv hD hV=>by
  obtain⟨x,hx⟩: ∃x,d.nodes[k]?=some x:=by obtain⟨x,hx,_⟩:=hT;exact⟨x,hx⟩
  have IH:=Mg s d hb hi64 lv;by_cases h1:x.kind=1
  ·exact Zs s d hb hi64 lv IH B lvv nv k m lev w hT hlev hlv hD hV x hx h1
  ·by_cases h4:x.kind=4
   ·exact Zt s d hb hi64 lv IH B lvv nv k m lev w hT hlev hlv hD hV x hx h4
   ·exact Zu s d hb hi64 lv IH B lvv nv k m lev w hT hlev hlv hD hV x hx h1 h4
end Go.Proofs.YtaifnmjjpddikaaGreatDoor
