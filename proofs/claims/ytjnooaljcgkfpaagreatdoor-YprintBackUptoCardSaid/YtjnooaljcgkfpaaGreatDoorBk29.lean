import Derived.Test.YtjnooaljcgkfpaaGreatDoorBk28
import Derived.Test.YtjnooaljcgkfpaaGreatDoorBk14
set_option maxRecDepth 100000
set_option maxHeartbeats 8000000
namespace Go.Proofs.YtjnooaljcgkfpaaGreatDoor
set_option linter.unusedSimpArgs false
set_option linter.unusedVariables false
open Go.RowKit
open Go.Lib hiding intOf
theorem eM.kid {ns:List aM}{lv k hi:Nat}{x:aM} (h:eM ns (lv+1) k hi) (hx:ns[k]?=some x): ∀q∈x.kids,(∃m,eM ns lv q m)/\q<ns.length:=by
 obtain⟨x',c,f⟩:=h;rw[hx] at c;obtain rfl:=bC c;have key: ∀(l:List Nat) (a:Nat),dP (eM ns lv) l a hi-> ∀q∈l,∃m,eM ns lv q m:=by
  intro l
  induction l with
  | nil=>intro a _ q b;cases b
  | cons y l ih=>
   intro a h q b;obtain⟨rfl,m,e,g⟩:=h;rcases eV.1 b with rfl | b
   ·exact⟨m,e⟩
   ·exact ih m g q b
 intro q b;obtain⟨m,d⟩:=key _ _ f q b;refine⟨⟨m,d⟩,?_⟩;cases lv with
 | zero=>exact d.elim
 | succ lv=>obtain⟨y,i,_⟩:=d;exact(aP.1 i).1
def gW (s:aA) (ns:List aM) (kd:Nat) (l:List Nat):List aA:=if kd=3 then l.map (nJ s ns) else []
theorem Sf (s:aA) (ns:List aM) (kd:Nat):gW s ns kd []= []:=by unfold gW;split<;>rfl
def Cj (s:aA) (d:fS) (lv:Nat):Prop:= ∀(B:Nat) (lvv nv:Value) (k m:Nat) (lev:Int) (w:World),eM d.nodes lv k m->Hid (lev=33-(lv:Int))->lv<=32->iX B d lvv nv w->cG w->
 Calls Tryz.prog 45 #[.agg #[.string (bs s),lvv,nv], .int .i64 (k:Int), .int .i64 lev] w (oQ (bE s d lv k) w)
theorem aDZ (s:aA) (d:fS) (hb:uS s d) (hi64: ∀l∈d.lines,l.ind<=1099511627776) (lv:Nat) (IH:Cj s d lv) (B:Nat) (lvv nv:Value) (k m:Nat) (lev:Int) (w:World) (hT:eM d.nodes (lv+1) k m) (hlev:Hid (lev=33-((lv+1:Nat):Int))) (hlv:lv+1<=32) (hD0:iX B d lvv nv w) (hV:cG w) (x:aM) (hx:d.nodes[k]?=some x) (hkd:x.kind=1):
  Calls Tryz.prog 45 #[.agg #[.string (bs s),lvv,nv], .int .i64 (k:Int), .int .i64 lev] w (oQ (bE s d (lv+1) k) w):=by
 have ah:=hx;obtain⟨z,hz,aw,o⟩:=id hD0;obtain⟨y,hy⟩: ∃y,z[k]?=some y:=by
  rw[<-hz,cW] at hx;cases H:z[k]? with
  | none=>rw[H] at hx;cases hx
  | some q=>exact⟨q,rfl⟩
 have J:y.1=x:=by
  rw[<-hz,cW,hy] at hx;exact bC hx
 obtain⟨gn,cn,cur,rfl,aN,_,ay⟩:=o.form (λe=>by rw[e] at hy;cases hy);obtain⟨pl,nl,cl,rfl⟩: ∃p n c,lvv= .slice p n c:=by
  rcases aw.2 with⟨h0,_⟩ | ⟨g,cap,cur,r,_⟩
  ·exact⟨none,0,0,h0⟩
  ·exact⟨_,_,_,r⟩
 have ab:=o.kids y (bA hy);obtain⟨pk,ck,G⟩: ∃p c,y.2= .slice p y.1.kids.length c:=by
  rcases ab.2 with⟨h0,r⟩ | ⟨g,cap,cur,r,_⟩
  ·exact⟨none,0,by rw[h0,r]⟩
  ·exact⟨_,cap,r⟩
 have HKR:Hid (∀w',Below w.heap.size w w'-> ∀(j q:Nat),x.kids[j]?=some q-> ∃gk,pk=some ⟨gk,0,none⟩/\w'.cell? ⟨gk,j,none⟩=some (.int .i64 (q:Int))):=hid (λw' i j q hj=>by
  have F:=ab;rw[G,J] at F;have hjl:=(aP.1 hj).1;rcases F.2 with⟨h0,r⟩ | ⟨g,cap,cur,r,_⟩
  ·omega
  ·injection r with e1;subst e1;refine⟨g,rfl,dT ?_ i⟩;rw[World.ownsRow.cellAt F _ (by omega)];unfold eO;rw[cW,hj];rfl)
 obtain⟨mk,M⟩:=exQ<|y.1.kids.length;obtain⟨nz,aa⟩:=exQ<|z.length;have an:z.length=d.nodes.length:=by rw[<-hz,cA]
 have aD:k<z.length:=(aP.1 hy).1;rw[aa] at hD0 ⊢;have hk0:(0:Int)<=(k:Int):=by omega
 have hk1:(k:Int)<(nz:Int):=by omega
 have HNodes:Hid (∀w',Below w.heap.size w w'-> ∀(q:Nat) (yq:aM),d.nodes[q]?=some yq->w'.cell? ⟨gn,q*9+4,none⟩=some (.int .i64 yq.kf)/\w'.cell? ⟨gn,q*9+5,none⟩=some (.int .i64 yq.kt)):=hid (λw' i q yq H=>by
  obtain⟨u,S⟩: ∃u,z[q]?=some u:=by
   rw[<-hz,cW] at H;cases hh:z[q]? with
   | none=>rw[hh] at H;cases H
   | some u=>exact⟨u,rfl⟩
  have az:u.1=yq:=by
   rw[<-hz,cW,S] at H;exact bC H
  have h4:=(o.at_ S 4 (by omega) rfl).1;have h5:=(o.at_ S 5 (by omega) rfl).1;rw[az] at h4 h5;exact⟨dT h4 i,dT h5 i⟩)
 have HC:Hid (∀j u,j<9->(kR y)[j]?=some u->w.cell? ⟨gn,k*9+j,none⟩=some u):=hid (λj u hj S=>(o.at_ hy j hj S).1);obtain⟨hbf,hbt,ap⟩:=hb.nd x (bA hx);rw[J] at M G;rw[M] at G ap;obtain⟨W1,ad⟩:=exQ<|w.alloc (.cells #[.string (bs s), .slice pl nl cl, .slice (some ⟨gn,0,none⟩) nz cn] 45);obtain⟨D,ak⟩:=exQ<|w.heap.size;have b1:Below w.heap.size w W1:=by rw[<-ad];exact aH _ _
 have r:W1.heap[D]?=some (.cells #[.string (bs s), .slice pl nl cl, .slice (some ⟨gn,0,none⟩) nz cn] 45):=by rw[<-ad,<-ak];exact heap_alloc_new w _
 obtain⟨W2,af⟩:=exQ<|W1.alloc (.cells #[.int .i64 0, .string ⟨#[]⟩, .slice none 0 0, .slice none 0 0] 25);obtain⟨R,ag⟩:=exQ<|W1.heap.size;have b2:Below W1.heap.size W1 W2:=by rw[<-af];exact aH _ _
 have h2:W2.heap[R]?=some (.cells #[.int .i64 0, .string (bs []), .slice none 0 0, .slice none 0 0] 25):=by rw[<-af,<-ag];exact heap_alloc_new W1 _
 obtain⟨W3,U⟩:=exQ<|W2.alloc (.cells #[.int .i64 1, .int .i64 x.ind, .int .i64 (x.fr:Int), .int .i64 (x.til:Int), .int .i64 x.kf, .int .i64 x.kt, .int .i64 x.rf, .int .i64 x.rt, .slice pk mk ck] 100);obtain⟨X,ai⟩:=exQ<|W2.heap.size;have b3:Below W2.heap.size W2 W3:=by rw[<-U];exact aH _ _
 have h3:W3.heap[X]?=some (.cells #[.int .i64 1, .int .i64 x.ind, .int .i64 (x.fr:Int), .int .i64 (x.til:Int), .int .i64 x.kf, .int .i64 x.kt, .int .i64 x.rf, .int .i64 x.rt, .slice pk mk ck] 100):=by rw[<-U,<-ai];exact heap_alloc_new W2 _
 obtain⟨W4,L⟩:=exQ<|W3.alloc (.cells #[.int .i64 5, .string ⟨#[]⟩, .slice none 0 0, .slice none 0 0] 25);obtain⟨Y,al⟩:=exQ<|W3.heap.size;have b4:Below W3.heap.size W3 W4:=by rw[<-L];exact aH _ _
 have h4:W4.heap[Y]?=some (.cells #[.int .i64 5, .string (bs []), .slice none 0 0, .slice none 0 0] 25):=by rw[<-L,<-al];exact heap_alloc_new W3 _
 have K:=(b2.block D (aE r)).trans r;have N:=(b3.block D (aE K)).trans K;have E:=(b3.block R (aE h2)).trans h2;have ax:=hid (aC b1 b2);have C:=hid (aC ax.out b3);have HB4:=hid (aC C.out b4);have f:=hid b4;have H3:=hid (aT N (aT E h3));have H4:=hid h4;have ao:Hid (∀w',Below W3.heap.size W3 w'->(w'.cell? ⟨D,0,none⟩=some (.string (bs s))/\w'.cell? ⟨D,1,none⟩=some (.slice pl nl cl)/\w'.cell? ⟨D,2,none⟩=some (.slice (some ⟨gn,0,none⟩) nz cn))/\(w'.cell? ⟨X,0,none⟩=some (.int .i64 1)/\w'.cell? ⟨X,6,none⟩=some (.int .i64 x.rf)/\w'.cell? ⟨X,7,none⟩=some (.int .i64 x.rt)/\w'.cell? ⟨X,8,none⟩=some (.slice pk mk ck))/\w'.heap[R]?=some (.cells #[.int .i64 0, .string (bs []), .slice none 0 0, .slice none 0 0] 25)):=hid (λw' h=>by obtain⟨e0,e1,e2,_⟩:=kS ((h.block D (aE N)).trans N);obtain⟨f0,f1,f2,f3,f4,f5,f6,f7,f8⟩:=qU ((h.block X (aE h3)).trans h3);exact⟨⟨e0,e1,e2⟩,⟨f0,f6,f7,f8⟩,(h.block R (aE E)).trans E⟩);have av:R<W3.heap.size:=aE E;have aK:W3.heap.size<=Y:=by omega
 have aG:w.heap.size<=R:=by rw[<-ag];exact b1.size
 have hwW3:w.heap.size<=W3.heap.size:=C.out.size;have HDoc:Hid (∀w',Below W3.heap.size W3 w'->iX B d (.slice pl nl cl) (.slice (some ⟨gn,0,none⟩) nz cn) w'):=hid (λw' h=>(hD0.keep C.out).keep h);have aL:Hid (∀w',Below W3.heap.size W3 w'->cG w'):=hid (λw' h=>(hV.keep C.out).keep h);have CBy:Hid (∀(a b:Int) w',Calls Tryz.prog 70 #[.agg #[.string (bs s), .slice pl nl cl, .slice (some ⟨gn,0,none⟩) nz cn], .agg #[.int .i64 a, .int .i64 b]] w' λe w2=>e= .returned (.string (bs (jG s a b)))/\Below w'.heap.size w' w2):=hid (λa b w'=>Ci s _ _ ⟨_,_,_,rfl⟩ ⟨_,_,_,rfl⟩ a b w' (by have:=hb.txt;omega));have ck': ∀j u,j<9->(kR y)[j]?=some u->W2.cell? ⟨gn,k*9+j,none⟩=some u:=λj u hj S=>by
  exact dT (HC.out j u hj S) ax.out
 have y0:=ck' 0 _ (by omega) rfl;have y1:=ck' 1 _ (by omega) rfl;have y2:=ck' 2 _ (by omega) rfl;have y3:=ck' 3 _ (by omega) rfl;have y4:=ck' 4 _ (by omega) rfl;have y5:=ck' 5 _ (by omega) rfl;have y6:=ck' 6 _ (by omega) rfl;have y7:=ck' 7 _ (by omega) rfl;have y8:=ck' 8 _ (by omega) rfl;rw[J] at y0 y1 y2 y3 y4 y5 y6 y7;rw[G] at y8;rw[hkd] at y0;simp only[Nat.add_zero] at y0;have d2:W2.cell? ⟨D,2,none⟩=some (.slice (some ⟨gn,0,none⟩) nz cn):=(kS K).2.2.1;have HKM:=hid (aT M ap);have HKD:=hid (hT.kid ah);have HZN:=hid (an.symm.trans aa);have hyz:=hlev.out;clear b1 b2 b3 b4 r h2 h3 h4 K N E hz aw o ab G hx hy J an aD ay aN ck' M aa hT hD0 hV;obtain⟨t,ht⟩:=exQ<|jG s x.rf x.rt;have CB:=hid (λw'=>CBy.out x.rf x.rt w');rw[ht] at CB;have aJ:=Hj s x.rf x.rt;rw[ht] at aJ;obtain⟨⟨T,er⟩,W⟩:=exQ<|iU t;have CR:Hid (∀w',Below W3.heap.size W3 w'->Calls Tryz.prog 69 #[.string (bs t)] w' (Ay T er w')):=hid (λw' i=>by have:=Ng t w' (by have:=hb.txt;omega) (aL.out w' i);rw[W] at this;exact this);have O:bE s d (lv+1) k=T:=by
  unfold bE;rw[ah];simp only[];rw[if_pos hkd,ht,W]
 rw[O];clear O W ht hkd ah;go_enter Tryz.func45,Tryz.ntmps45;go_upto_region 1 with fail;clear ad af ak ag;go_upto_region 2 with fail;clear U ai y0 y1 y2 y3 y4 y5 y6 y7 y8 d2;have aI:=hid L;clear L;go_upto_region 3 with fail
 first | rw[aI.out] | skip
 clear al;obtain⟨⟨e0,e1,e2⟩,⟨x0,x6,x7,x8⟩,hr⟩:=ao.out W4 f.out;have aj:=aE H4.out;go_wp2_with fail;refine(CB.out _).mono ?_;rintro e w5 ⟨rfl,V⟩;have Z:Hid (Below W4.heap.size W4 w5):=hid (by first | exact V | exact aC (aB _ _).drew V);clear V e0 e1 e2 x0 x6 x7 x8 hr;go_wp2_with fail;refine(CR.out _ (by first | exact f.out.trans (Z.out.mono f.out.size))).mono ?_;rintro e w6 ⟨⟨kv,iv,rfl,ae⟩,au⟩;have aq:=hid (aC Z.out au);obtain⟨pk6,ck6,pi6,ci6,rfl,rfl⟩:=ae.toVD.form;have aF:Hid (jP W4.heap.size w6 T.depth T (.slice pk6 T.keys.length ck6) (.slice pi6 T.items.length ci6)):=hid (ae.mono (λq H _=>aV Z.out.size H));have A:=hid (mK (t:=T) f.out aK aj aF.out aq.out H4.out);obtain⟨c0,c1,c2,c3,f0,f1,f2,f3⟩:=cF ((aq.out.block Y aj).trans H4.out);unfold vv;clear ae au;go_upto_region 6 with fail;have Q:(((w6.setCell ⟨Y,0,none⟩ (.int .i64 T.kind)).setCell ⟨Y,1,none⟩ (.string (bs T.text))).setCell ⟨Y,2,none⟩ (.slice pk6 T.keys.length ck6)).setCell ⟨Y,3,none⟩ (.slice pi6 T.items.length ci6)=bL w6 Y T.kind T.text (.slice pk6 T.keys.length ck6) (.slice pi6 T.items.length ci6):=rfl;rw[Q];obtain⟨WF,am⟩:=exQ<|bL w6 Y T.kind T.text (.slice pk6 T.keys.length ck6) (.slice pi6 T.items.length ci6);rw[am] at A ⊢;clear Q am c0 c1 c2 c3 f0 f1 f2 f3;obtain⟨c0,c1,c2,c3,_⟩:=cF A.out.2.2;obtain⟨_,_,hr⟩:=ao.out WF A.out.2.1;obtain⟨r0,r1,r2,r3,g0,g1,g2,g3⟩:=cF hr;have I:=hid (mK (t:=T) C.out aG av A.out.1 A.out.2.1 H3.out.2.1);clear hr;go_wp2_with fail;have P:(((WF.setCell ⟨R,0,none⟩ (.int .i64 T.kind)).setCell ⟨R,1,none⟩ (.string (bs T.text))).setCell ⟨R,2,none⟩ (.slice pk6 T.keys.length ck6)).setCell ⟨R,3,none⟩ (.slice pi6 T.items.length ci6)=bL WF R T.kind T.text (.slice pk6 T.keys.length ck6) (.slice pi6 T.items.length ci6):=rfl;rw[P];obtain⟨WR,ar⟩:=exQ<|bL WF R T.kind T.text (.slice pk6 T.keys.length ck6) (.slice pi6 T.items.length ci6);rw[ar] at I ⊢;clear P ar r0 r1 r2 r3 g0 g1 g2 g3;obtain⟨d0,d1,d2,d3,_⟩:=cF I.out.2.2;refine bodyPost_ret (v:= .agg #[.int .i64 T.kind, .string (bs T.text), .slice pk6 T.keys.length ck6, .slice pi6 T.items.length ci6]) ?_ rfl ⟨⟨_,_,rfl,I.out.1⟩,I.out.2.1⟩;simp[results,Tryz.results45,go_sem,d0,d1,d2,d3]
theorem aEa (s:aA) (d:fS) (hb:uS s d) (hi64: ∀l∈d.lines,l.ind<=1099511627776) (lv:Nat) (IH:Cj s d lv) (B:Nat) (lvv nv:Value) (k m:Nat) (lev:Int) (w:World) (hT:eM d.nodes (lv+1) k m) (hlev:Hid (lev=33-((lv+1:Nat):Int))) (hlv:lv+1<=32) (hD0:iX B d lvv nv w) (hV:cG w) (x:aM) (hx:d.nodes[k]?=some x) (hkd:x.kind=4):
  Calls Tryz.prog 45 #[.agg #[.string (bs s),lvv,nv], .int .i64 (k:Int), .int .i64 lev] w (oQ (bE s d (lv+1) k) w):=by
 have M:=hx;obtain⟨z,hz,ao,o⟩:=id hD0;obtain⟨y,Z⟩: ∃y,z[k]?=some y:=by
  rw[<-hz,cW] at hx;cases P:z[k]? with
  | none=>rw[P] at hx;cases hx
  | some q=>exact⟨q,rfl⟩
 have H:y.1=x:=by
  rw[<-hz,cW,Z] at hx;exact bC hx
 obtain⟨gn,cn,cur,rfl,ay,_,aq⟩:=o.form (λe=>by rw[e] at Z;cases Z);obtain⟨pl,nl,cl,rfl⟩: ∃p n c,lvv= .slice p n c:=by
  rcases ao.2 with⟨h0,_⟩ | ⟨g,cap,cur,r,_⟩
  ·exact⟨none,0,0,h0⟩
  ·exact⟨_,_,_,r⟩
 have V:=o.kids y (bA Z);obtain⟨pk,ck,F⟩: ∃p c,y.2= .slice p y.1.kids.length c:=by
  rcases V.2 with⟨h0,r⟩ | ⟨g,cap,cur,r,_⟩
  ·exact⟨none,0,by rw[h0,r]⟩
  ·exact⟨_,cap,r⟩
 have HKR:Hid (∀w',Below w.heap.size w w'-> ∀(j q:Nat),x.kids[j]?=some q-> ∃gk,pk=some ⟨gk,0,none⟩/\w'.cell? ⟨gk,j,none⟩=some (.int .i64 (q:Int))):=hid (λw' i j q hj=>by
  have E:=V;rw[F,H] at E;have hjl:=(aP.1 hj).1;rcases E.2 with⟨h0,r⟩ | ⟨g,cap,cur,r,_⟩
  ·omega
  ·injection r with e1;subst e1;refine⟨g,rfl,dT ?_ i⟩;rw[World.ownsRow.cellAt E _ (by omega)];unfold eO;rw[cW,hj];rfl)
 obtain⟨mk,K⟩:=exQ<|y.1.kids.length;obtain⟨nz,U⟩:=exQ<|z.length;have ag:z.length=d.nodes.length:=by rw[<-hz,cA]
 have av:k<z.length:=(aP.1 Z).1;rw[U] at hD0 ⊢;have hk0:(0:Int)<=(k:Int):=by omega
 have hk1:(k:Int)<(nz:Int):=by omega
 have HNodes:Hid (∀w',Below w.heap.size w w'-> ∀(q:Nat) (yq:aM),d.nodes[q]?=some yq->w'.cell? ⟨gn,q*9+4,none⟩=some (.int .i64 yq.kf)/\w'.cell? ⟨gn,q*9+5,none⟩=some (.int .i64 yq.kt)):=hid (λw' i q yq P=>by
  obtain⟨u,Q⟩: ∃u,z[q]?=some u:=by
   rw[<-hz,cW] at P;cases hh:z[q]? with
   | none=>rw[hh] at P;cases P
   | some u=>exact⟨u,rfl⟩
  have au:u.1=yq:=by
   rw[<-hz,cW,Q] at P;exact bC P
  have h4:=(o.at_ Q 4 (by omega) rfl).1;have h5:=(o.at_ Q 5 (by omega) rfl).1;rw[au] at h4 h5;exact⟨dT h4 i,dT h5 i⟩)
 have HC:Hid (∀j u,j<9->(kR y)[j]?=some u->w.cell? ⟨gn,k*9+j,none⟩=some u):=hid (λj u hj Q=>(o.at_ Z j hj Q).1);obtain⟨hbf,hbt,aj⟩:=hb.nd x (bA hx);rw[H] at K F;rw[K] at F aj;obtain⟨W1,W⟩:=exQ<|w.alloc (.cells #[.string (bs s), .slice pl nl cl, .slice (some ⟨gn,0,none⟩) nz cn] 45);obtain⟨D,ae⟩:=exQ<|w.heap.size;have b1:Below w.heap.size w W1:=by rw[<-W];exact aH _ _
 have r:W1.heap[D]?=some (.cells #[.string (bs s), .slice pl nl cl, .slice (some ⟨gn,0,none⟩) nz cn] 45):=by rw[<-W,<-ae];exact heap_alloc_new w _
 obtain⟨W2,aa⟩:=exQ<|W1.alloc (.cells #[.int .i64 0, .string ⟨#[]⟩, .slice none 0 0, .slice none 0 0] 25);obtain⟨R,ab⟩:=exQ<|W1.heap.size;have b2:Below W1.heap.size W1 W2:=by rw[<-aa];exact aH _ _
 have h2:W2.heap[R]?=some (.cells #[.int .i64 0, .string (bs []), .slice none 0 0, .slice none 0 0] 25):=by rw[<-aa,<-ab];exact heap_alloc_new W1 _
 obtain⟨W3,S⟩:=exQ<|W2.alloc (.cells #[.int .i64 4, .int .i64 x.ind, .int .i64 (x.fr:Int), .int .i64 (x.til:Int), .int .i64 x.kf, .int .i64 x.kt, .int .i64 x.rf, .int .i64 x.rt, .slice pk mk ck] 100);obtain⟨X,ad⟩:=exQ<|W2.heap.size;have b3:Below W2.heap.size W2 W3:=by rw[<-S];exact aH _ _
 have h3:W3.heap[X]?=some (.cells #[.int .i64 4, .int .i64 x.ind, .int .i64 (x.fr:Int), .int .i64 (x.til:Int), .int .i64 x.kf, .int .i64 x.kt, .int .i64 x.rf, .int .i64 x.rt, .slice pk mk ck] 100):=by rw[<-S,<-ad];exact heap_alloc_new W2 _
 obtain⟨W4,J⟩:=exQ<|W3.alloc (.cells #[.int .i64 5, .string ⟨#[]⟩, .slice none 0 0, .slice none 0 0] 25);obtain⟨Y,af⟩:=exQ<|W3.heap.size;have b4:Below W3.heap.size W3 W4:=by rw[<-J];exact aH _ _
 have h4:W4.heap[Y]?=some (.cells #[.int .i64 5, .string (bs []), .slice none 0 0, .slice none 0 0] 25):=by rw[<-J,<-af];exact heap_alloc_new W3 _
 have I:=(b2.block D (aE r)).trans r;have L:=(b3.block D (aE I)).trans I;have C:=(b3.block R (aE h2)).trans h2;have ap:=hid (aC b1 b2);have A:=hid (aC ap.out b3);have HB4:=hid (aC A.out b4);have f:=hid b4;have H3:=hid (aT L (aT C h3));have H4:=hid h4;have ah:Hid (∀w',Below W3.heap.size W3 w'->(w'.cell? ⟨D,0,none⟩=some (.string (bs s))/\w'.cell? ⟨D,1,none⟩=some (.slice pl nl cl)/\w'.cell? ⟨D,2,none⟩=some (.slice (some ⟨gn,0,none⟩) nz cn))/\(w'.cell? ⟨X,0,none⟩=some (.int .i64 4)/\w'.cell? ⟨X,6,none⟩=some (.int .i64 x.rf)/\w'.cell? ⟨X,7,none⟩=some (.int .i64 x.rt)/\w'.cell? ⟨X,8,none⟩=some (.slice pk mk ck))/\w'.heap[R]?=some (.cells #[.int .i64 0, .string (bs []), .slice none 0 0, .slice none 0 0] 25)):=hid (λw' h=>by obtain⟨e0,e1,e2,_⟩:=kS ((h.block D (aE L)).trans L);obtain⟨f0,f1,f2,f3,f4,f5,f6,f7,f8⟩:=qU ((h.block X (aE h3)).trans h3);exact⟨⟨e0,e1,e2⟩,⟨f0,f6,f7,f8⟩,(h.block R (aE C)).trans C⟩);have an:R<W3.heap.size:=aE C;have hYW:W3.heap.size<=Y:=by omega
 have aw:w.heap.size<=R:=by rw[<-ab];exact b1.size
 have hwW3:w.heap.size<=W3.heap.size:=A.out.size;have ai:Hid (∀w',Below W3.heap.size W3 w'->iX B d (.slice pl nl cl) (.slice (some ⟨gn,0,none⟩) nz cn) w'):=hid (λw' h=>(hD0.keep A.out).keep h);have HVr:Hid (∀w',Below W3.heap.size W3 w'->cG w'):=hid (λw' h=>(hV.keep A.out).keep h);have CBy:Hid (∀(a b:Int) w',Calls Tryz.prog 70 #[.agg #[.string (bs s), .slice pl nl cl, .slice (some ⟨gn,0,none⟩) nz cn], .agg #[.int .i64 a, .int .i64 b]] w' λe w2=>e= .returned (.string (bs (jG s a b)))/\Below w'.heap.size w' w2):=hid (λa b w'=>Ci s _ _ ⟨_,_,_,rfl⟩ ⟨_,_,_,rfl⟩ a b w' (by have:=hb.txt;omega));have ck': ∀j u,j<9->(kR y)[j]?=some u->W2.cell? ⟨gn,k*9+j,none⟩=some u:=λj u hj Q=>by
  exact dT (HC.out j u hj Q) ap.out
 have y0:=ck' 0 _ (by omega) rfl;have y1:=ck' 1 _ (by omega) rfl;have y2:=ck' 2 _ (by omega) rfl;have y3:=ck' 3 _ (by omega) rfl;have y4:=ck' 4 _ (by omega) rfl;have y5:=ck' 5 _ (by omega) rfl;have y6:=ck' 6 _ (by omega) rfl;have y7:=ck' 7 _ (by omega) rfl;have y8:=ck' 8 _ (by omega) rfl;rw[H] at y0 y1 y2 y3 y4 y5 y6 y7;rw[F] at y8;rw[hkd] at y0;simp only[Nat.add_zero] at y0;have d2:W2.cell? ⟨D,2,none⟩=some (.slice (some ⟨gn,0,none⟩) nz cn):=(kS I).2.2.1;have HKM:=hid (aT K aj);have HKD:=hid (hT.kid M);have HZN:=hid (ag.symm.trans U);have hyz:=hlev.out;clear b1 b2 b3 b4 r h2 h3 h4 I L C hz ao o V F hx Z H ag av aq ay ck' K U hT hD0 hV;obtain⟨t,ht⟩:=exQ<|yJ s d.lines x;have CL:Hid (∀w',Below W3.heap.size W3 w'->Calls Tryz.prog 71 #[.agg #[.string (bs s), .slice pl nl cl, .slice (some ⟨gn,0,none⟩) nz cn], .int .i64 (k:Int)] w' λe w2=>e= .returned (.tuple #[.string (bs t), .bool true])/\Below w'.heap.size w' w2):=hid (λw' i=>by have:=aDY s d _ _ B w' (ai.out w' i) hb hi64 k x M hkd;rw[ht] at this;exact this);have COf:=hid (λw'=>yB t w');have N:bE s d (lv+1) k=lF t:=by
  unfold bE;rw[M];simp only[];rw[if_neg (by omega),if_pos hkd,ht]
 rw[N];clear N ht hkd M;go_enter Tryz.func45,Tryz.ntmps45;go_upto_region 1 with fail;clear W aa ae ab;go_upto_region 2 with fail;clear S ad y0 y1 y2 y3 y4 y5 y6 y7 y8 d2;have ax:=hid J;clear J;go_upto_region 3 with fail
 first | rw[ax.out] | skip
 clear af;obtain⟨⟨e0,e1,e2⟩,⟨x0,x6,x7,x8⟩,hr⟩:=ah.out W4 f.out;go_wp2_with fail;refine(CL.out _ (by first | exact f.out | exact f.out.drew)).mono ?_;rintro e w5 ⟨rfl,T⟩;have ar:Hid (Below W4.heap.size W4 w5):=hid (by first | exact T | exact aC (aB _ _).drew T);clear T e0 e1 e2 x0 x6 x7 x8 hr;go_wp2_with fail;refine(COf.out _).mono ?_;rintro e w6 ⟨rfl,am⟩;have ak:Hid (Below W3.heap.size W3 w6):=hid (f.out.trans ((aC ar.out am).mono f.out.size));obtain⟨_,_,hr⟩:=ah.out w6 ak.out;obtain⟨r0,r1,r2,r3,g0,g1,g2,g3⟩:=cF hr;have G:=hid (mK (t:=lF t) A.out aw an (sV _ _ _ _) ak.out H3.out.2.1);clear hr am;go_wp2_with fail;have O:(((w6.setCell ⟨R,0,none⟩ (.int .i64 4)).setCell ⟨R,1,none⟩ (.string (bs t))).setCell ⟨R,2,none⟩ (.slice none 0 0)).setCell ⟨R,3,none⟩ (.slice none 0 0)=bL w6 R (lF t).kind (lF t).text (.slice none 0 0) (.slice none 0 0):=rfl;rw[O];obtain⟨WR,al⟩:=exQ<|bL w6 R (lF t).kind (lF t).text (.slice none 0 0) (.slice none 0 0);rw[al] at G ⊢;clear O al r0 r1 r2 r3 g0 g1 g2 g3;obtain⟨d0,d1,d2,d3,_⟩:=cF G.out.2.2;refine bodyPost_ret (v:= .agg #[.int .i64 (lF t).kind, .string (bs (lF t).text), .slice none 0 0, .slice none 0 0]) ?_ rfl ⟨⟨_,_,rfl,G.out.1⟩,G.out.2.1⟩;simp[results,Tryz.results45,go_sem,d0,d1,d2,d3]
theorem aEb (s:aA) (d:fS) (hb:uS s d) (hi64: ∀l∈d.lines,l.ind<=1099511627776) (lv:Nat) (IH:Cj s d lv) (B:Nat) (lvv nv:Value) (k m:Nat) (lev:Int) (w:World) (hT:eM d.nodes (lv+1) k m) (hlev:Hid (lev=33-((lv+1:Nat):Int))) (hlv:lv+1<=32) (hD0:iX B d lvv nv w) (hV:cG w) (x:aM) (hx:d.nodes[k]?=some x) (h1:x.kind≠1) (h4:x.kind≠4):
    Calls Tryz.prog 45 #[.agg #[.string (bs s),lvv,nv], .int .i64 (k:Int), .int .i64 lev] w (oQ (bE s d (lv+1) k) w):=by
  have bQ:=hx;obtain⟨z,hz,cd,ax⟩:=id hD0;obtain⟨y,hy⟩: ∃y,z[k]?=some y:=by
    rw[<-hz,cW] at hx;cases L:z[k]? with
    | none=>rw[L] at hx;cases hx
    | some q=>exact⟨q,rfl⟩
  have bg:y.1=x:=by
    rw[<-hz,cW,hy] at hx;exact bC hx
  obtain⟨gn,cn,cur,rfl,cD,_,cu⟩:=ax.form (λe=>by rw[e] at hy;cases hy);obtain⟨pl,nl,cl,rfl⟩: ∃p n c,lvv= .slice p n c:=by
    rcases cd.2 with⟨h0,_⟩ | ⟨g,cap,cur,h1,_⟩
    · exact⟨none,0,0,h0⟩
    · exact⟨_,_,_,h1⟩
  have bK:=ax.kids y (bA hy);obtain⟨pk,ck,A⟩: ∃p c,y.2= .slice p y.1.kids.length c:=by
    rcases bK.2 with⟨h0,h1⟩ | ⟨g,cap,cur,h1,_⟩
    · exact⟨none,0,by rw[h0,h1]⟩
    · exact⟨_,cap,h1⟩
  have bV:Hid (∀w',Below w.heap.size w w'-> ∀(j q:Nat),x.kids[j]?=some q-> ∃gk,pk=some ⟨gk,0,none⟩/\w'.cell? ⟨gk,j,none⟩=some (.int .i64 (q:Int))):=hid (λw' P j q hj=>by
    have a2:=bK;rw[A,bg] at a2;have hjl:=(aP.1 hj).1;rcases a2.2 with⟨h0,h1⟩ | ⟨g,cap,cur,h1,_⟩
    · omega
    · injection h1 with e1;subst e1;refine⟨g,rfl,dT ?_ P⟩;rw[World.ownsRow.cellAt a2 _ (by omega)];unfold eO;rw[cW,hj];rfl)
  obtain⟨mk,bc⟩:=exQ<|y.1.kids.length;obtain⟨nz,bx⟩:=exQ<|z.length;have bX:z.length=d.nodes.length:=by rw[<-hz,cA]
  have cr:k<z.length:=(aP.1 hy).1;rw[bx] at hD0 ⊢;have hk0:(0:Int)<=(k:Int):=by omega
  have hk1:(k:Int)<(nz:Int):=by omega
  have bb:Hid (∀w',Below w.heap.size w w'-> ∀(q:Nat) (yq:aM),d.nodes[q]?=some yq->w'.cell? ⟨gn,q*9+4,none⟩=some (.int .i64 yq.kf)/\w'.cell? ⟨gn,q*9+5,none⟩=some (.int .i64 yq.kt)):=hid (λw' P q yq L=>by
    obtain⟨u,hu⟩: ∃u,z[q]?=some u:=by
      rw[<-hz,cW] at L;cases hh:z[q]? with
      | none=>rw[hh] at L;cases L
      | some u=>exact⟨u,rfl⟩
    have cq:u.1=yq:=by
      rw[<-hz,cW,hu] at L;exact bC L
    have h4:=(ax.at_ hu 4 (by omega) rfl).1;have h5:=(ax.at_ hu 5 (by omega) rfl).1;rw[cq] at h4 h5;exact⟨dT h4 P,dT h5 P⟩)
  have F:Hid (∀j u,j<9->(kR y)[j]?=some u->w.cell? ⟨gn,k*9+j,none⟩=some u):=hid (λj u hj hu=>(ax.at_ hy j hj hu).1);obtain⟨hbf,hbt,bJ⟩:=hb.nd x (bA hx);rw[bg] at bc A;rw[bc] at A bJ;obtain⟨W1,bN⟩:=exQ<|w.alloc (.cells #[.string (bs s), .slice pl nl cl, .slice (some ⟨gn,0,none⟩) nz cn] 45);obtain⟨D,bW⟩:=exQ<|w.heap.size;have b1:Below w.heap.size w W1:=by rw[<-bN];exact aH _ _
  have h1:W1.heap[D]?=some (.cells #[.string (bs s), .slice pl nl cl, .slice (some ⟨gn,0,none⟩) nz cn] 45):=by rw[<-bN,<-bW];exact heap_alloc_new w _
  obtain⟨W2,bP⟩:=exQ<|W1.alloc (.cells #[.int .i64 0, .string ⟨#[]⟩, .slice none 0 0, .slice none 0 0] 25);obtain⟨R,bG⟩:=exQ<|W1.heap.size;have b2:Below W1.heap.size W1 W2:=by rw[<-bP];exact aH _ _
  have h2:W2.heap[R]?=some (.cells #[.int .i64 0, .string (bs []), .slice none 0 0, .slice none 0 0] 25):=by rw[<-bP,<-bG];exact heap_alloc_new W1 _
  obtain⟨W3,bf⟩:=exQ<|W2.alloc (.cells #[.int .i64 (x.kind:Int), .int .i64 x.ind, .int .i64 (x.fr:Int), .int .i64 (x.til:Int), .int .i64 x.kf, .int .i64 x.kt, .int .i64 x.rf, .int .i64 x.rt, .slice pk mk ck] 100);obtain⟨X,bT⟩:=exQ<|W2.heap.size;have b3:Below W2.heap.size W2 W3:=by rw[<-bf];exact aH _ _
  have h3:W3.heap[X]?=some (.cells #[.int .i64 (x.kind:Int), .int .i64 x.ind, .int .i64 (x.fr:Int), .int .i64 (x.til:Int), .int .i64 x.kf, .int .i64 x.kt, .int .i64 x.rf, .int .i64 x.rt, .slice pk mk ck] 100):=by rw[<-bf,<-bT];exact heap_alloc_new W2 _
  obtain⟨W4,a1⟩:=exQ<|W3.alloc (.cells #[.int .i64 5, .string ⟨#[]⟩, .slice none 0 0, .slice none 0 0] 25);obtain⟨Y,bw⟩:=exQ<|W3.heap.size;have b4:Below W3.heap.size W3 W4:=by rw[<-a1];exact aH _ _
  have h4:W4.heap[Y]?=some (.cells #[.int .i64 5, .string (bs []), .slice none 0 0, .slice none 0 0] 25):=by rw[<-a1,<-bw];exact heap_alloc_new W3 _
  have ba:=(b2.block D (aE h1)).trans h1;have bj:=(b3.block D (aE ba)).trans ba;have aR:=(b3.block R (aE h2)).trans h2;have cf:=hid (aC b1 b2);have Z:=hid (aC cf.out b3);have HB4:=hid (aC Z.out b4);have bU:=hid b4;have H3:=hid (aT bj (aT aR h3));have H4:=hid h4;have ad:Hid (∀w',Below W3.heap.size W3 w'->(w'.cell? ⟨D,0,none⟩=some (.string (bs s))/\w'.cell? ⟨D,1,none⟩=some (.slice pl nl cl)/\w'.cell? ⟨D,2,none⟩=some (.slice (some ⟨gn,0,none⟩) nz cn))/\(w'.cell? ⟨X,0,none⟩=some (.int .i64 (x.kind:Int))/\w'.cell? ⟨X,6,none⟩=some (.int .i64 x.rf)/\w'.cell? ⟨X,7,none⟩=some (.int .i64 x.rt)/\w'.cell? ⟨X,8,none⟩=some (.slice pk mk ck))/\w'.heap[R]?=some (.cells #[.int .i64 0, .string (bs []), .slice none 0 0, .slice none 0 0] 25)):=hid (λw' h=>by obtain⟨e0,e1,e2,_⟩:=kS ((h.block D (aE bj)).trans bj);obtain⟨f0,f1,f2,f3,f4,f5,f6,f7,f8⟩:=qU ((h.block X (aE h3)).trans h3);exact⟨⟨e0,e1,e2⟩,⟨f0,f6,f7,f8⟩,(h.block R (aE aR)).trans aR⟩);have bq:R<W3.heap.size:=aE aR;have hYW:W3.heap.size<=Y:=by omega
  have hRw:w.heap.size<=R:=by rw[<-bG];exact b1.size
  have bl:w.heap.size<=W3.heap.size:=Z.out.size;have bY:Hid (∀w',Below W3.heap.size W3 w'->iX B d (.slice pl nl cl) (.slice (some ⟨gn,0,none⟩) nz cn) w'):=hid (λw' h=>(hD0.keep Z.out).keep h);have b5:Hid (∀w',Below W3.heap.size W3 w'->cG w'):=hid (λw' h=>(hV.keep Z.out).keep h);have CBy:Hid (∀(a b:Int) w',Calls Tryz.prog 70 #[.agg #[.string (bs s), .slice pl nl cl, .slice (some ⟨gn,0,none⟩) nz cn], .agg #[.int .i64 a, .int .i64 b]] w' λe w2=>e= .returned (.string (bs (jG s a b)))/\Below w'.heap.size w' w2):=hid (λa b w'=>Ci s _ _ ⟨_,_,_,rfl⟩ ⟨_,_,_,rfl⟩ a b w' (by have:=hb.txt;omega));have ck': ∀j u,j<9->(kR y)[j]?=some u->W2.cell? ⟨gn,k*9+j,none⟩=some u:=λj u hj hu=>by
    exact dT (F.out j u hj hu) cf.out
  have y0:=ck' 0 _ (by omega) rfl;have y1:=ck' 1 _ (by omega) rfl;have y2:=ck' 2 _ (by omega) rfl;have y3:=ck' 3 _ (by omega) rfl;have y4:=ck' 4 _ (by omega) rfl;have y5:=ck' 5 _ (by omega) rfl;have y6:=ck' 6 _ (by omega) rfl;have y7:=ck' 7 _ (by omega) rfl;have y8:=ck' 8 _ (by omega) rfl;rw[bg] at y0 y1 y2 y3 y4 y5 y6 y7;rw[A] at y8;simp only[Nat.add_zero] at y0;have d2:W2.cell? ⟨D,2,none⟩=some (.slice (some ⟨gn,0,none⟩) nz cn):=(kS ba).2.2.1;have ae:=hid (aT bc bJ);have bu:=hid (hT.kid bQ);have b9:=hid (bX.symm.trans bx);have cp:=hlev.out;clear b1 b2 b3 b4 h1 h2 h3 h4 ba bj aR hz cd ax bK A hx hy bg bX cr cu cD ck' bc bx hT hD0 hV;obtain⟨kd,aW⟩: ∃kd:Int,(if x.kind=3 then 6 else 5:Int)=kd:=⟨_,rfl⟩;obtain⟨xk,bI⟩: ∃xk:Int,(x.kind:Int)=xk:=⟨_,rfl⟩;have bp:bE s d (lv+1) k= .mk kd [] (gW s d.nodes x.kind x.kids) (x.kids.map (bE s d lv)):=by
    rw[<-aW];show bE s d (lv+1) k=_
    conv=>lhs;unfold bE
    rw[bQ];simp only[];rw[if_neg h1,if_neg h4];rfl
  rw[bp];rw[bI] at bf ad H3 y0;have k1:(xk==1)=false:=aG.2 (by omega);have k4:(xk==4)=false:=aG.2 (by omega);have ay:=hid (aT bI aW);have cg:Hid (∀w',Below W3.heap.size W3 w'-> ∀q∈x.kids,Calls Tryz.prog 45 #[.agg #[.string (bs s), .slice pl nl cl, .slice (some ⟨gn,0,none⟩) nz cn], .int .i64 (q:Int), .int .i64 (lev+1)] w' (oQ (bE s d lv q) w')):=hid (λw' P q L=>by obtain⟨⟨m',cx⟩,_⟩:=bu.out q L;exact IH B _ _ q m' (lev+1) w' cx (hid (by have:=hlev.out;omega)) (by omega) (bY.out w' P) (b5.out w' P));have ch:Hid (CS W3 Y 5 [] [] [] (.slice none 0 0) (.slice none 0 0) W4):=hid (by have:=CS.start (aB W3.heap.size W3) 5 [];rw[bw] at this;rw[<-a1];exact this);have hl1:decide ((32:Int)<lev)=false:=aJ (by omega);have hl2:IntKind.i64.wrap (lev+1)=lev+1:=IntWalk.i64_in _ (by omega);have hDR3:D<W3.heap.size:=aE H3.out.1;have bJ:=ae.out.2;have hmk0:(0:Int)<=(mk:Int):=by omega
  clear bp aW bI h1 h4 bQ IH cp;go_enter Tryz.func45,Tryz.ntmps45;go_upto_region 1 with fail;clear bN bP bW bG;go_upto_region 2 with fail;clear bf bT y0 y1 y2 y3 y4 y5 y6 y7 y8 d2;have cz:=hid a1;clear a1;go_upto_region 3 with fail
  first | rw[cz.out] | skip
  clear bw;obtain⟨⟨e0,e1,e2⟩,⟨x0,x6,x7,x8⟩,hr⟩:=ad.out W4 bU.out;have hYl:=aE H4.out;obtain⟨c0,c1,c2,c3,f0,f1,f2,f3⟩:=cF H4.out;clear hr;obtain⟨W5,bk⟩: ∃W5,(W5=W4\/W5=W4.setCell ⟨Y,0,none⟩ (.int .i64 6))/\Hid (CS W3 Y kd [] [] [] (.slice none 0 0) (.slice none 0 0) W5)/\((xk==3)=true->W5=W4.setCell ⟨Y,0,none⟩ (.int .i64 6))/\((xk==3)=false->W5=W4):=by
    by_cases h3:xk=3
    · have cv:kd=6:=(by rw[<-ay.out.2,if_pos (by have:=ay.out.1;omega)]);refine⟨_, .inr rfl,hid ?_,λ_=>rfl,λe=>absurd h3 (aG.1 e)⟩;have h:=ch.out;refine⟨?_,bS.nil _ _,λe=>(by cases e),fM.nil _ _ _,h.bel.setCell (p:=⟨Y,0,none⟩) h.new_ _,h.new_⟩;rw[cv];exact tO h.box 0 _
    · have ci:kd=5:=(by rw[<-ay.out.2,if_neg (by have:=ay.out.1;omega)]);exact⟨_, .inl rfl,by rw[ci];exact ch,λe=>absurd (eq_of_beq e) h3,λ_=>rfl⟩
  obtain⟨ce,F,bm,bn⟩:=bk;have cb: ∀(b:Bool),(xk==3)=b->Hid (CS W3 Y kd [] [] [] (.slice none 0 0) (.slice none 0 0) (if b then W4.setCell ⟨Y,0,none⟩ (.int .i64 6) else W4)):=λb cc=>by
    cases b with
    | true=>rw[if_pos rfl,<-bm cc];exact F
    | false=>rw[if_neg (by simp),<-bn cc];exact F
  clear ce F bm bn;obtain⟨b3,b6⟩:=exQ (xk==3);have aX:=cb b3 b6;have bZ:=hid b6;clear cb;cases b3 with
  | false =>
    rw[if_neg (by simp)] at aX;have F:=aX;go_upto_region 12 with fail;clear c0 c1 c2 c3 f0 f1 f2 f3;go_wp2_with fail;clear x0 x6 x7 x8 e0 e1 e2;go_loopw [50,12,13,14] (λs50 s12 s13 s14 wr=> ∃(i:Nat) (kv ov:Value),s50= .int .i64 (i:Int)/\i<=mk/\Hid (CS W3 Y kd [] (gW s d.nodes x.kind (x.kids.take i)) ((x.kids.take i).map (bE s d lv)) kv ov wr)) (λs50 _ _ _ _=>mk-(RowKit.intOf s50).toNat)
    case atStart=>exact⟨0, .slice none 0 0, .slice none 0 0,rfl,cH _,by rw[List.take_zero,Sf];first | exact F | exact hid (F.out.keep (aB _ _).drew)⟩
    case round=>
      clear F;obtain⟨i,kv,ov,rfl,T,F⟩:=hrel;obtain⟨⟨e0,e1,e2⟩,⟨x0,x6,x7,x8⟩,hr⟩:=ad.out wr F.out.bel;by_cases hil:i<mk
      · obtain⟨q,L⟩: ∃q,x.kids[i]?=some q:=⟨_,bH (by rw[ae.out.1];exact hil)⟩;have ap:=bA L;obtain⟨gk,rfl,kc⟩:=bV.out wr (Z.out.trans (F.out.bel.mono bl)) i q L;obtain⟨_,bt⟩:=bu.out q ap;have bR:(i:Int)<(mk:Int):=(by omega);have dk:decide ((i:Int)<(mk:Int))=true:=aN bR;have cw:(0:Int)<=(i:Int):=(by omega);have ct:q<nz:=by have:=b9.out;omega
        have dq1:decide ((q:Int)<0)=false:=aJ (by omega);have dq2:decide ((nz:Int)<=(q:Int))=false:=aJ (by omega);have dq3:decide (nz<=q)=false:=aJ (by omega);have cm:(0:Int)<=(q:Int):=(by omega);have cy:(q:Int)<(nz:Int):=(by omega);have bh:=hid (jM L);obtain⟨pa,ca,A⟩:=F.out.keys.slice;obtain⟨po,co,V⟩:=F.out.its.slice;have aQ:((x.kids.take i).map (bE s d lv)).length=i:=by rw[cA,cB];have:=ae.out.1;omega
        rw[aQ] at V;obtain⟨nk,I⟩:=exQ<|(gW s d.nodes x.kind (x.kids.take i)).length;have a7:nk<=131072:=by
          rw[<-I];unfold gW;split
          · rw[cA,cB];omega
          · exact cH _
        rw[I] at A;subst A V;have bi:=hid I;have bB:=hid ap;obtain⟨yq,aZ⟩: ∃yq,d.nodes[q]?=some yq:=⟨_,bH bt⟩;have bF:=hid aZ;clear L ap I aQ aZ;go_upto_if 70 with fail;go_cut [71,72,73,74,75,76,77,78,79,80,81,82,83,84,85,86,87,88,13,14] (λs71 s72 s73 s74 s75 s76 s77 s78 s79 s80 s81 s82 s83 s84 s85 s86 s87 s88 s13 s14 wx=> ∃kv',Hid (CS W3 Y kd [] (gW s d.nodes x.kind (x.kids.take (i+1))) ((x.kids.take i).map (bE s d lv)) kv' (.slice po i co) wx))
        case first=>
          have ar: ¬x.kind=3:=λe=>by have h1:=ay.out.1;have h2:=aG.1 bZ.out;omega
          have am:Hid (CS W3 Y kd [] (gW s d.nodes x.kind (x.kids.take (i+1))) ((x.kids.take i).map (bE s d lv)) (.slice pa nk ca) (.slice po i co) wr):=hid (by have:=F.out;unfold gW at this ⊢;rw[if_neg ar] at this ⊢;exact this);clear ar;go_wp2_with fail;go_meet;exact⟨_,by first | exact am | exact hid (am.out.keep (aB _ _).drew)⟩
        case rest=>
          obtain⟨kv',am⟩:=hcut;clear F bi a7 x0 x6 x7 x8 e0 e1 e2 kc hr;obtain⟨W0,N⟩:=exQ<|wc.drew;have O:Below wc.heap.size wc W0:=by rw[<-N];exact(aB _ _).drew
          have r:=hid (am.out.keep O);have E:((x.kids.take i).map (bE s d lv)++ [bE s d lv q]).length=i+1:=by rw[aI,cA,cB,dQ];have:=ae.out.1;omega
          have al:((x.kids.take i).map (bE s d lv)).length<=4294967295:=by rw[cA,cB];omega
          have aj:=hid (aT E al);clear E al O;go_upto_region 20 with fail;obtain⟨SA,U⟩: ∃S:World->Prop,(λw'=>(w'.cell? ⟨Y,3,none⟩=some (.slice po i co)/\w'.frozen? ⟨Y,3,none⟩=false)/\w'.cell? ⟨D,0,none⟩=some (.string (bs s))/\w'.cell? ⟨D,1,none⟩=some (.slice pl nl cl)/\w'.cell? ⟨D,2,none⟩=some (.slice (some ⟨gn,0,none⟩) nz cn))=S:=⟨_,rfl⟩;have ah:Hid (∀w',Below W0.heap.size W0 w'->SA w'):=hid (λw' hb=>by rw[<-U];obtain⟨⟨a3,a4,a5⟩,_,_⟩:=ad.out w' (aC r.out.bel hb);have q:=(r.out.keep hb).cells;exact⟨⟨q.2.2.2.1,q.2.2.2.2.2.2.2⟩,a3,a4,a5⟩);have aF:Hid (∀w' c',jB W0 Y kv'.ownBlock (bE s d lv q) ((x.kids.take i).map (bE s d lv)) (.slice po i co) 3 c' w'->SA w'):=hid (λw' c' hp=>by rw[<-U];obtain⟨q1,q2,q3,q4⟩:=hp;have a9:=r.out.box;have hn:=r.out.new_;have aL:Below (Y+1) W0 w':=q2;have e2:w'.heap[Y]?=_:=(aL.block Y (jY _)).trans a9;have e3: ∀o',w'.cell? ⟨D,o',none⟩=W0.cell? ⟨D,o',none⟩:=λo'=>aL.cell (p:=⟨D,o',none⟩) (by show D<Y+1;omega);obtain⟨⟨a3,a4,a5⟩,_,_⟩:=ad.out W0 r.out.bel;obtain⟨y0,y1,y2,y3,y4,y5,y6,y7⟩:=cF e2;exact⟨⟨y3,y7⟩,by rw[e3];exact a3,by rw[e3];exact a4,by rw[e3];exact a5⟩);have an:Tryz.prog.follows .mixedOrders=true:=(by kernel_rfl);refine nL an [some 89,some 90,some 91,some 92,some 93,some 94,some 95,some 96,some 97,some 98,none] [89,90,91,92,93,94,95,96,97,98] [6,7,8,10] 1000000 (λ_ _=>True) 101 rfl (by kernel_rfl) (by kernel_rfl) (by kernel_rfl) (λiz=>match iz with | 0=> .pointer (some ⟨Y,3,none⟩) | 1=> .slice po i co | 2=> .agg #[.string (bs s), .slice pl nl cl, .slice (some ⟨gn,0,none⟩) nz cn] | 3=> .int .i64 (q:Int) | 4=> .int .i64 lev | 5=> .int .i64 (lev+1) | 9=> .pointer (some ⟨Y,3,none⟩) | _=>undef) SA (jB W0 Y kv'.ownBlock (bE s d lv q) ((x.kids.take i).map (bE s d lv)) (.slice po i co)) (by rw[N];exact ah.out _ (aB _ _)) (by rw[N];exact aB _ _) ?_ ?_
          · intro dd a w' iq o' ho T o H t R' hR;have a6:iq<11:=(dW.1 ho).1;have q2:a.tmps[2]?.getD undef= .int .i64 lev:=bD H 2 (by decide);have q3:a.tmps[3]?.getD undef= .pointer (some ⟨D,0,none⟩):=bD H 3 (by decide);have q8:a.tmps[8]?.getD undef= .pointer (some ⟨Y,0,none⟩):=bD H 8 (by decide);have q12:a.tmps[12]?.getD undef= .int .i64 (q:Int):=bD H 12 (by decide);have hc:=t.all [(0,89),(1,90),(2,91),(3,92),(4,93),(5,94),(9,98)] (by decide);dsimp only[fU] at hc;clear H;have ha:=o;have M:=ho;have aS:iq=6\/iq=7\/iq=8\/iq=10\/iq=0\/iq=3\/iq=4\/iq=5\/iq=9\/iq=1\/iq=2:=(by omega);clear a6;rcases aS with rfl|rfl|rfl|rfl|rfl|rfl|rfl|rfl|rfl|rfl|rfl<;>simp only[fN,dG,bM,cP] at ho<;>subst ho<;>(try simp[Region.binds] at o)
            · have c91:=t.g 2 91 rfl (by decide) (by decide) (by decide) (by simp[o]);have c92:=t.g 3 92 rfl (by decide) (by decide) (by decide) (by simp[o]);have c94:=t.g 5 94 rfl (by decide) (by decide) (by decide) (by simp[o]);have G:=t.at2 (j:=0) rfl T (.inl rfl);have hA:Below W0.heap.size W0 w':=G;go_simp;go_at_call 45;refine(cg.out _ (aC r.out.bel hA) q bB.out).mono ?_;rintro e w5 ⟨⟨kv5,iv5,rfl,ao⟩,J⟩;have ag:=aC hA J;exact hR _ _ (t.eff2 (by kernel_rfl) (by decide) 0 M ha rfl T (.inl rfl) rfl (by decide) (λ_ _ _=>trivial) (λ_=>ah.out _ ag) ⟨kv5,iv5,rfl,ao.mono (λq L _=>aV hA.size L),ag⟩)
            · have C:dd 6=true:=(by simp[o]);have G:=t.at2 (j:=1) rfl T (.inr ⟨6,rfl,C⟩);obtain⟨kv5,iv5,aq,ao,J⟩:=G;have aq:a.tmps.getD 95 undef=vv (bE s d lv q) kv5 iv5:=aq;have c95:a.tmps[95]?.getD undef= .agg #[.int .i64 (bE s d lv q).kind, .string (bs (bE s d lv q).text),kv5,iv5]:=by rw[<-aU];exact aq
              have ag:=λob=>aC J (aH w' ob);go_simp;exact hR _ _ (t.eff2 (by kernel_rfl) (by decide) 1 M ha rfl T (.inr ⟨6,rfl,C⟩) rfl (by decide) (λ_ _ _=>trivial) (λ_=>ah.out _ (ag _)) ⟨w',kv5,iv5,ao,J,rfl,rfl⟩)
            · have c90:=t.g 1 90 rfl (by decide) (by decide) (by decide) (by simp[o]);have C:dd 7=true:=(by simp[o]);have G:=t.at2 (j:=2) rfl T (.inr ⟨7,rfl,C⟩);have c90':a.tmps.getD 90 undef= .slice po i co:=by rw[aU];exact c90
              exact jB.app (.tmp 90) (.tmp 96) rfl r.out G c90' rfl aj.out.2 (λv' w2 ai=>hR _ _ (t.eff2 (by kernel_rfl) (by decide) 2 M ha rfl T (.inr ⟨7,rfl,C⟩) rfl (by decide) (λ_ _ _=>trivial) (λ_=>aF.out _ _ ai) ai))
            · have c98:=t.g 9 98 rfl (by decide) (by decide) (by decide) (by simp[o]);have C:dd 8=true:=(by simp[o]);have G:=t.at2 (j:=3) rfl T (.inr ⟨8,rfl,C⟩);have av:jB W0 Y kv'.ownBlock (bE s d lv q) ((x.kids.take i).map (bE s d lv)) (.slice po i co) 3 (a.tmps.getD 97 undef) w':=G;have ab:=t.st T;rw[<-U] at ab;obtain⟨⟨x3,x3f⟩,_⟩:=ab;obtain⟨pz2,cz2,hz⟩:=av.1.slice;rw[aj.out.1] at hz;rw[hz] at av;have c97:a.tmps[97]?.getD undef= .slice pz2 (i+1) cz2:=by rw[<-aU];exact hz
              go_simp;exact hR undef _ (t.eff2 (by kernel_rfl) (by decide) 3 M ha rfl T (.inr ⟨8,rfl,C⟩) rfl (by decide) (λ_ _ _=>trivial) (λh=>absurd rfl h) ⟨_,_,av,rfl⟩)
            iterate 5 (go_simp;exact hR _ _ (t.pure (by kernel_rfl) M ha rfl (by decide) (by decide) (by decide) rfl))
            all_goals
              have ab:=t.early (f:=11) (by kernel_rfl) T;rw[<-U] at ab;obtain⟨⟨x3,x3f⟩,s0,s1,s2⟩:=ab;go_simp;exact hR _ _ (t.pure (by kernel_rfl) M ha rfl (by decide) (by decide) (by decide) rfl)
          intro v wz az aY;obtain⟨ov2,Q⟩:=jB.fin r.out aY;have Q:Hid (CS W3 Y kd [] (gW s d.nodes x.kind (x.kids.take (i+1))) ((x.kids.take (i+1)).map (bE s d lv)) kv' ov2 wz):=hid (by
            have e:(x.kids.take (i+1)).map (bE s d lv)=(x.kids.take i).map (bE s d lv)++ [bE s d lv q]:=by rw[bh.out,qE];rfl
            rw[e];exact Q)
          clear az aY aF ah U r N am;simp only[cV,fO,eP,fP];go_wp2_with fail;go_roundw
          case rel=>exact⟨i+1,kv',ov2,by go_num,by omega,by first | exact Q | exact hid (Q.out.keep (aB _ _).drew)⟩
          case measure=>simp[RowKit.intOf];omega
      · have dk:decide ((i:Int)<(mk:Int))=false:=aJ (by omega);obtain rfl:i=mk:=(by omega);have au:=F.out;rw[<-ae.out.1,List.take_length] at au;have aa:=hid au;clear au;obtain⟨pa,ca,A⟩:=aa.out.keys.slice;obtain⟨po,co,V⟩:=aa.out.its.slice;obtain⟨nk,I⟩:=exQ<|(gW s d.nodes x.kind x.kids).length;obtain⟨ni,aK⟩:=exQ<|(x.kids.map (bE s d lv)).length;rw[I] at A;rw[aK] at V;subst A V;have HP:Hid (oQ (VT.mk kd [] (gW s d.nodes x.kind x.kids) (x.kids.map (bE s d lv))) w (.returned (.agg #[.int .i64 kd, .string (bs []), .slice pa nk ca, .slice po ni co])) (bL wr R kd [] (.slice pa nk ca) (.slice po ni co))):=hid (by refine⟨⟨_,_,rfl,?_⟩,yC (aC Z.out aa.out.bel) (by omega)⟩;exact(aa.out.put (R:=R) bq).mono (λq L _=>aV Z.out.size L));have a8:Hid ((bL wr R kd [] (.slice pa nk ca) (.slice po ni co)).heap[R]?=some (.cells #[.int .i64 kd, .string (bs []), .slice pa nk ca, .slice po ni co] 25)):=hid (yD hr);obtain⟨r0,r1,r2,r3,f0,f1,f2,f3⟩:=cF hr;obtain⟨y0,y1,y2,y3,_⟩:=aa.out.cells;clear I aK F hr;go_wp2_with fail;obtain⟨WF,af⟩:=exQ<|bL wr R kd [] (.slice pa nk ca) (.slice po ni co);rw[af] at HP a8;have ak:(((wr.setCell ⟨R,0,none⟩ (.int .i64 kd)).setCell ⟨R,1,none⟩ (.string (bs []))).setCell ⟨R,2,none⟩ (.slice pa nk ca)).setCell ⟨R,3,none⟩ (.slice po ni co)=WF:=af
        first
          | rw[ak]
          | (have a0:(((wr.setCell ⟨R,0,none⟩ (.int .i64 kd)).setCell ⟨R,1,none⟩ (.string ⟨#[]⟩)).setCell ⟨R,2,none⟩ (.slice pa nk ca)).setCell ⟨R,3,none⟩ (.slice po ni co)=WF:=af
             rw[a0])
        clear af ak r0 r1 r2 r3 f0 f1 f2 f3 y0 y1 y2 y3;obtain⟨d0,d1,d2,d3,_⟩:=cF a8.out;refine bodyPost_ret (v:= .agg #[.int .i64 kd, .string (bs []), .slice pa nk ca, .slice po ni co]) ?_ rfl HP.out;simp[results,Tryz.results45,go_sem,d0,d1,d2,d3]
  | true=>
    rw[if_pos rfl] at aX;obtain⟨W5,bk⟩:=exQ<|W4.setCell ⟨Y,0,none⟩ (.int .i64 6);rw[bk] at aX;have F:=aX;go_upto_region 12 with fail;clear bk c0 c1 c2 c3 f0 f1 f2 f3 x0 x6 x7 x8 e0 e1 e2;obtain⟨⟨e0,e1,e2⟩,⟨x0,x6,x7,x8⟩,_⟩:=ad.out W5 F.out.bel;go_wp2_with fail;clear x0 x6 x7 x8 e0 e1 e2;go_loopw [50,12,13,14] (λs50 s12 s13 s14 wr=> ∃(i:Nat) (kv ov:Value),s50= .int .i64 (i:Int)/\i<=mk/\Hid (CS W3 Y kd [] (gW s d.nodes x.kind (x.kids.take i)) ((x.kids.take i).map (bE s d lv)) kv ov wr)) (λs50 _ _ _ _=>mk-(RowKit.intOf s50).toNat)
    case atStart=>exact⟨0, .slice none 0 0, .slice none 0 0,rfl,cH _,by rw[List.take_zero,Sf];first | exact F | exact hid (F.out.keep (aB _ _).drew)⟩
    case round=>
      clear F;obtain⟨i,kv,ov,rfl,T,F⟩:=hrel;obtain⟨⟨e0,e1,e2⟩,⟨x0,x6,x7,x8⟩,hr⟩:=ad.out wr F.out.bel;by_cases hil:i<mk
      · obtain⟨q,L⟩: ∃q,x.kids[i]?=some q:=⟨_,bH (by rw[ae.out.1];exact hil)⟩;have ap:=bA L;obtain⟨gk,rfl,kc⟩:=bV.out wr (Z.out.trans (F.out.bel.mono bl)) i q L;obtain⟨_,bt⟩:=bu.out q ap;have bR:(i:Int)<(mk:Int):=(by omega);have dk:decide ((i:Int)<(mk:Int))=true:=aN bR;have cw:(0:Int)<=(i:Int):=(by omega);have ct:q<nz:=by have:=b9.out;omega
        have dq1:decide ((q:Int)<0)=false:=aJ (by omega);have dq2:decide ((nz:Int)<=(q:Int))=false:=aJ (by omega);have dq3:decide (nz<=q)=false:=aJ (by omega);have cm:(0:Int)<=(q:Int):=(by omega);have cy:(q:Int)<(nz:Int):=(by omega);have bh:=hid (jM L);obtain⟨pa,ca,A⟩:=F.out.keys.slice;obtain⟨po,co,V⟩:=F.out.its.slice;have aQ:((x.kids.take i).map (bE s d lv)).length=i:=by rw[cA,cB];have:=ae.out.1;omega
        rw[aQ] at V;obtain⟨nk,I⟩:=exQ<|(gW s d.nodes x.kind (x.kids.take i)).length;have a7:nk<=131072:=by
          rw[<-I];unfold gW;split
          · rw[cA,cB];omega
          · exact cH _
        rw[I] at A;subst A V;have bi:=hid I;have bB:=hid ap;obtain⟨yq,aZ⟩: ∃yq,d.nodes[q]?=some yq:=⟨_,bH bt⟩;have bF:=hid aZ;clear L ap I aQ aZ;go_upto_if 70 with fail;go_cut [71,72,73,74,75,76,77,78,79,80,81,82,83,84,85,86,87,88,13,14] (λs71 s72 s73 s74 s75 s76 s77 s78 s79 s80 s81 s82 s83 s84 s85 s86 s87 s88 s13 s14 wx=> ∃kv',Hid (CS W3 Y kd [] (gW s d.nodes x.kind (x.kids.take (i+1))) ((x.kids.take i).map (bE s d lv)) kv' (.slice po i co) wx))
        case first=>
          have ar:x.kind=3:=by have h1:=ay.out.1;have h2:=eq_of_beq bZ.out;omega
          obtain⟨qkf,aO⟩:=exQ<|yq.kf;obtain⟨qkt,aD⟩:=exQ<|yq.kt;obtain⟨qs,bd⟩:=exQ<|jG s qkf qkt;obtain⟨⟨key,ke⟩,bO⟩:=exQ<|mJ qs;have br:nJ s d.nodes q=key:=by
            unfold nJ;rw[bF.out];simp only[];rw[aO,aD,bd,bO]
          have CBq:=hid (λw'=>CBy.out qkf qkt w');rw[bd] at CBq;have bo:=Hj s qkf qkt;rw[bd] at bo;obtain⟨W0,N⟩:=exQ<|wr.drew;have O:Below wr.heap.size wr W0:=by rw[<-N];exact(aB _ _).drew
          have bz:Hid (Below W3.heap.size W3 W0):=hid (aC F.out.bel O);have CKq:Hid (∀w',Below W0.heap.size W0 w'->Calls Tryz.prog 72 #[.string (bs qs)] w' λe w2=>e= .returned (.tuple #[.string (bs key), .int .i64 ke])/\Below w'.heap.size w' w2):=hid (λw' P=>by have:=Nf qs w' (by have:=hb.txt;omega) (b5.out w' (aC bz.out P));rw[bO] at this;exact this);have cC:Hid (∀w',Below W0.heap.size W0 w'->w'.cell? ⟨D,0,none⟩=some (.string (bs s))/\w'.cell? ⟨D,1,none⟩=some (.slice pl nl cl)/\w'.cell? ⟨D,2,none⟩=some (.slice (some ⟨gn,0,none⟩) nz cn)/\w'.cell? ⟨gn,q*9+4,none⟩=some (.int .i64 qkf)/\w'.cell? ⟨gn,q*9+5,none⟩=some (.int .i64 qkt)):=hid (λw' P=>by obtain⟨⟨a3,a4,a5⟩,_,_⟩:=ad.out w' (aC bz.out P);obtain⟨n4,n5⟩:=bb.out w' (aC Z.out (aC bz.out P)) q yq bF.out;rw[aO] at n4;rw[aD] at n5;exact⟨a3,a4,a5,n4,n5⟩);have cs:Hid (CS W3 Y kd [] ((x.kids.take i).map (nJ s d.nodes)) ((x.kids.take i).map (bE s d lv)) (.slice pa nk ca) (.slice po i co) wr):=hid (by have:=F.out;unfold gW at this;rw[if_pos ar] at this;exact this);have al:((x.kids.take i).map (nJ s d.nodes)).length<=4294967295:=by rw[cA,cB];omega
          have E:((x.kids.take i).map (nJ s d.nodes)++ [key]).length=nk+1:=by
            have:=bi.out;unfold gW at this;rw[if_pos ar] at this;rw[aI,this,dQ]
          have b8:=hid (aT ar br);have aj:=hid (aT E al);clear ar aO aD bd bO br E al O bo;go_upto_region 18 with fail;clear x0 x6 x7 x8 e0 e1 e2 kc hr;have an:Tryz.prog.follows .mixedOrders=true:=(by kernel_rfl);refine pB an [72,73,74,75,76,77,78,79,80,71,81,82,13,14] 101 rfl (by kernel_rfl) (by kernel_rfl) (λiz=>match iz with | 0=> .agg #[.string (bs s), .slice pl nl cl, .slice (some ⟨gn,0,none⟩) nz cn] | 1=> .pointer (some ⟨D,2,none⟩) | 2=> .slice (some ⟨gn,0,none⟩) nz cn | 3=> .int .i64 (q:Int) | 4=> .pointer (some ⟨gn,q*9,none⟩) | 5=> .pointer (some ⟨gn,q*9+4,none⟩) | 6=> .agg #[.int .i64 qkf, .int .i64 qkt] | 7=> .string (bs qs) | 8=> .tuple #[.string (bs key), .int .i64 ke] | 9=> .tuple #[.string (bs key), .int .i64 ke] | 10=> .string (bs key) | 11=> .int .i64 ke | 12=> .string (bs key) | 13=> .int .i64 ke | _=>undef) (λw'=>Below W0.heap.size W0 w') (by rw[N];exact aB _ _) ?_ ?_
          · intro dd a w' iq o' ho T o H t R' hR;have a6:iq<14:=(dW.1 ho).1;have q3:a.tmps[3]?.getD undef= .pointer (some ⟨D,0,none⟩):=bD H 3 (by decide);have q12:a.tmps[12]?.getD undef= .int .i64 (q:Int):=bD H 12 (by decide);have hc:=t.all [(9,71),(0,72),(1,73),(2,74),(3,75),(4,76),(5,77),(6,78),(7,79),(8,80),(10,81),(11,82)] (by decide);dsimp only[fU] at hc;clear H;obtain⟨s0,s1,s2,q4,q5⟩:=cC.out _ t.st;have aS:iq=7\/iq=8\/iq=0\/iq=1\/iq=2\/iq=3\/iq=4\/iq=5\/iq=6\/iq=9\/iq=10\/iq=11\/iq=12\/iq=13:=(by omega);clear a6;rcases aS with rfl|rfl|rfl|rfl|rfl|rfl|rfl|rfl|rfl|rfl|rfl|rfl|rfl|rfl<;>simp only[fN,dG,bM,cP] at ho<;>subst ho<;>(try simp[Region.binds] at o)
            · have c72:=t.g 0 72 rfl (by simp[o]);have c78:=t.g 6 78 rfl (by simp[o]);refine fF (mB rfl) ?_;go_simp;go_at_call 70;refine(CBq.out _).mono ?_;rintro e w5 ⟨rfl,J⟩;exact hR _ _ (t.step (by decide) rfl rfl (aC t.st J))
            · have c79:=t.g 7 79 rfl (by simp[o]);refine fF (mB rfl) ?_;go_simp;go_at_call 72;refine(CKq.out _ t.st).mono ?_;rintro e w5 ⟨rfl,J⟩;exact hR _ _ (t.step (by decide) rfl rfl (aC t.st J))
            iterate 12 (refine fF (mB rfl) ?_;go_simp;exact hR _ _ (t.step (by decide) rfl (by first | rfl | simp) t.st))
          intro v wz az hS;have hv:=pA (l:= [72,73,74,75,76,77,78,79,80,71,81,82,13,14]) az (by decide);dsimp only[mQ] at hv;simp only[cV,fO,eP,fP,hv];clear az hv;have HB1:=hid hS;have aw:Hid (CS W3 Y kd [] ((x.kids.take i).map (nJ s d.nodes)) ((x.kids.take i).map (bE s d lv)) (.slice pa nk ca) (.slice po i co) wz):=hid ((cs.out.keep (show Below wr.heap.size wr W0 from by rw[<-N];exact(aB _ _).drew)).keep hS);clear hS;obtain⟨c0,c1,c2,c3,f0,f1,f2,f3⟩:=aw.out.cells;have cj:=aE aw.out.box;go_wp2_with (at_builtin;refine wpList_step λK hK=>?_;rw[if_pos (by rfl)];refine nV.app (W:=W3) (W0:=wz) (Y:=Y) (key:=key) (.tmp 84) (.tmp 86) rfl aw.out ⟨wz,aB _ _,rfl,rfl⟩ rfl rfl aj.out.2 (λv1 w7 ai=>?_);have b0:=hid ai;obtain⟨pz2,cz2,hz⟩:=ai.1.slice;rw[aj.out.1] at hz;subst hz;obtain⟨c20,c21,c22,c23,f20,f21,f22,f23⟩:=cF ((b0.out.2.2.2.1 Y cj aw.out.off).trans aw.out.box);clear ai c0 c1 c2 c3 f0 f1 f2 f3;refine hK _ _ ?_);obtain⟨kv2,b7⟩:=nV.fin (c:=undef) (w':=w7.setCell ⟨Y,2,none⟩ (.slice pz2 (nk+1) cz2)) aw.out ⟨_,_,b0.out,rfl⟩;have Q:Hid (CS W3 Y kd [] (gW s d.nodes x.kind (x.kids.take (i+1))) ((x.kids.take i).map (bE s d lv)) kv2 (.slice po i co) (w7.setCell ⟨Y,2,none⟩ (.slice pz2 (nk+1) cz2))):=hid (by unfold gW;rw[if_pos b8.out.1,bh.out,qE];show CS W3 Y kd [] (_++ [nJ s d.nodes q]) _ _ _ _;rw[b8.out.2];exact b7);clear b7;go_wp2_with fail;go_meet;exact⟨_,by first | exact Q | exact hid (Q.out.keep (aB _ _).drew)⟩
        case rest=>
          obtain⟨kv',am⟩:=hcut;clear F bi a7 x0 x6 x7 x8 e0 e1 e2 kc hr;obtain⟨W0,N⟩:=exQ<|wc.drew;have O:Below wc.heap.size wc W0:=by rw[<-N];exact(aB _ _).drew
          have r:=hid (am.out.keep O);have E:((x.kids.take i).map (bE s d lv)++ [bE s d lv q]).length=i+1:=by rw[aI,cA,cB,dQ];have:=ae.out.1;omega
          have al:((x.kids.take i).map (bE s d lv)).length<=4294967295:=by rw[cA,cB];omega
          have aj:=hid (aT E al);clear E al O;go_upto_region 20 with fail;obtain⟨SA,U⟩: ∃S:World->Prop,(λw'=>(w'.cell? ⟨Y,3,none⟩=some (.slice po i co)/\w'.frozen? ⟨Y,3,none⟩=false)/\w'.cell? ⟨D,0,none⟩=some (.string (bs s))/\w'.cell? ⟨D,1,none⟩=some (.slice pl nl cl)/\w'.cell? ⟨D,2,none⟩=some (.slice (some ⟨gn,0,none⟩) nz cn))=S:=⟨_,rfl⟩;have ah:Hid (∀w',Below W0.heap.size W0 w'->SA w'):=hid (λw' hb=>by rw[<-U];obtain⟨⟨a3,a4,a5⟩,_,_⟩:=ad.out w' (aC r.out.bel hb);have q:=(r.out.keep hb).cells;exact⟨⟨q.2.2.2.1,q.2.2.2.2.2.2.2⟩,a3,a4,a5⟩);have aF:Hid (∀w' c',jB W0 Y kv'.ownBlock (bE s d lv q) ((x.kids.take i).map (bE s d lv)) (.slice po i co) 3 c' w'->SA w'):=hid (λw' c' hp=>by rw[<-U];obtain⟨q1,q2,q3,q4⟩:=hp;have a9:=r.out.box;have hn:=r.out.new_;have aL:Below (Y+1) W0 w':=q2;have e2:w'.heap[Y]?=_:=(aL.block Y (jY _)).trans a9;have e3: ∀o',w'.cell? ⟨D,o',none⟩=W0.cell? ⟨D,o',none⟩:=λo'=>aL.cell (p:=⟨D,o',none⟩) (by show D<Y+1;omega);obtain⟨⟨a3,a4,a5⟩,_,_⟩:=ad.out W0 r.out.bel;obtain⟨y0,y1,y2,y3,y4,y5,y6,y7⟩:=cF e2;exact⟨⟨y3,y7⟩,by rw[e3];exact a3,by rw[e3];exact a4,by rw[e3];exact a5⟩);have an:Tryz.prog.follows .mixedOrders=true:=(by kernel_rfl);refine nL an [some 89,some 90,some 91,some 92,some 93,some 94,some 95,some 96,some 97,some 98,none] [89,90,91,92,93,94,95,96,97,98] [6,7,8,10] 1000000 (λ_ _=>True) 101 rfl (by kernel_rfl) (by kernel_rfl) (by kernel_rfl) (λiz=>match iz with | 0=> .pointer (some ⟨Y,3,none⟩) | 1=> .slice po i co | 2=> .agg #[.string (bs s), .slice pl nl cl, .slice (some ⟨gn,0,none⟩) nz cn] | 3=> .int .i64 (q:Int) | 4=> .int .i64 lev | 5=> .int .i64 (lev+1) | 9=> .pointer (some ⟨Y,3,none⟩) | _=>undef) SA (jB W0 Y kv'.ownBlock (bE s d lv q) ((x.kids.take i).map (bE s d lv)) (.slice po i co)) (by rw[N];exact ah.out _ (aB _ _)) (by rw[N];exact aB _ _) ?_ ?_
          · intro dd a w' iq o' ho T o H t R' hR;have a6:iq<11:=(dW.1 ho).1;have q2:a.tmps[2]?.getD undef= .int .i64 lev:=bD H 2 (by decide);have q3:a.tmps[3]?.getD undef= .pointer (some ⟨D,0,none⟩):=bD H 3 (by decide);have q8:a.tmps[8]?.getD undef= .pointer (some ⟨Y,0,none⟩):=bD H 8 (by decide);have q12:a.tmps[12]?.getD undef= .int .i64 (q:Int):=bD H 12 (by decide);have hc:=t.all [(0,89),(1,90),(2,91),(3,92),(4,93),(5,94),(9,98)] (by decide);dsimp only[fU] at hc;clear H;have ha:=o;have M:=ho;have aS:iq=6\/iq=7\/iq=8\/iq=10\/iq=0\/iq=3\/iq=4\/iq=5\/iq=9\/iq=1\/iq=2:=(by omega);clear a6;rcases aS with rfl|rfl|rfl|rfl|rfl|rfl|rfl|rfl|rfl|rfl|rfl<;>simp only[fN,dG,bM,cP] at ho<;>subst ho<;>(try simp[Region.binds] at o)
            · have c91:=t.g 2 91 rfl (by decide) (by decide) (by decide) (by simp[o]);have c92:=t.g 3 92 rfl (by decide) (by decide) (by decide) (by simp[o]);have c94:=t.g 5 94 rfl (by decide) (by decide) (by decide) (by simp[o]);have G:=t.at2 (j:=0) rfl T (.inl rfl);have hA:Below W0.heap.size W0 w':=G;go_simp;go_at_call 45;refine(cg.out _ (aC r.out.bel hA) q bB.out).mono ?_;rintro e w5 ⟨⟨kv5,iv5,rfl,ao⟩,J⟩;have ag:=aC hA J;exact hR _ _ (t.eff2 (by kernel_rfl) (by decide) 0 M ha rfl T (.inl rfl) rfl (by decide) (λ_ _ _=>trivial) (λ_=>ah.out _ ag) ⟨kv5,iv5,rfl,ao.mono (λq L _=>aV hA.size L),ag⟩)
            · have C:dd 6=true:=(by simp[o]);have G:=t.at2 (j:=1) rfl T (.inr ⟨6,rfl,C⟩);obtain⟨kv5,iv5,aq,ao,J⟩:=G;have aq:a.tmps.getD 95 undef=vv (bE s d lv q) kv5 iv5:=aq;have c95:a.tmps[95]?.getD undef= .agg #[.int .i64 (bE s d lv q).kind, .string (bs (bE s d lv q).text),kv5,iv5]:=by rw[<-aU];exact aq
              have ag:=λob=>aC J (aH w' ob);go_simp;exact hR _ _ (t.eff2 (by kernel_rfl) (by decide) 1 M ha rfl T (.inr ⟨6,rfl,C⟩) rfl (by decide) (λ_ _ _=>trivial) (λ_=>ah.out _ (ag _)) ⟨w',kv5,iv5,ao,J,rfl,rfl⟩)
            · have c90:=t.g 1 90 rfl (by decide) (by decide) (by decide) (by simp[o]);have C:dd 7=true:=(by simp[o]);have G:=t.at2 (j:=2) rfl T (.inr ⟨7,rfl,C⟩);have c90':a.tmps.getD 90 undef= .slice po i co:=by rw[aU];exact c90
              exact jB.app (.tmp 90) (.tmp 96) rfl r.out G c90' rfl aj.out.2 (λv' w2 ai=>hR _ _ (t.eff2 (by kernel_rfl) (by decide) 2 M ha rfl T (.inr ⟨7,rfl,C⟩) rfl (by decide) (λ_ _ _=>trivial) (λ_=>aF.out _ _ ai) ai))
            · have c98:=t.g 9 98 rfl (by decide) (by decide) (by decide) (by simp[o]);have C:dd 8=true:=(by simp[o]);have G:=t.at2 (j:=3) rfl T (.inr ⟨8,rfl,C⟩);have av:jB W0 Y kv'.ownBlock (bE s d lv q) ((x.kids.take i).map (bE s d lv)) (.slice po i co) 3 (a.tmps.getD 97 undef) w':=G;have ab:=t.st T;rw[<-U] at ab;obtain⟨⟨x3,x3f⟩,_⟩:=ab;obtain⟨pz2,cz2,hz⟩:=av.1.slice;rw[aj.out.1] at hz;rw[hz] at av;have c97:a.tmps[97]?.getD undef= .slice pz2 (i+1) cz2:=by rw[<-aU];exact hz
              go_simp;exact hR undef _ (t.eff2 (by kernel_rfl) (by decide) 3 M ha rfl T (.inr ⟨8,rfl,C⟩) rfl (by decide) (λ_ _ _=>trivial) (λh=>absurd rfl h) ⟨_,_,av,rfl⟩)
            iterate 5 (go_simp;exact hR _ _ (t.pure (by kernel_rfl) M ha rfl (by decide) (by decide) (by decide) rfl))
            all_goals
              have ab:=t.early (f:=11) (by kernel_rfl) T;rw[<-U] at ab;obtain⟨⟨x3,x3f⟩,s0,s1,s2⟩:=ab;go_simp;exact hR _ _ (t.pure (by kernel_rfl) M ha rfl (by decide) (by decide) (by decide) rfl)
          intro v wz az aY;obtain⟨ov2,Q⟩:=jB.fin r.out aY;have Q:Hid (CS W3 Y kd [] (gW s d.nodes x.kind (x.kids.take (i+1))) ((x.kids.take (i+1)).map (bE s d lv)) kv' ov2 wz):=hid (by
            have e:(x.kids.take (i+1)).map (bE s d lv)=(x.kids.take i).map (bE s d lv)++ [bE s d lv q]:=by rw[bh.out,qE];rfl
            rw[e];exact Q)
          clear az aY aF ah U r N am;simp only[cV,fO,eP,fP];go_wp2_with fail;go_roundw
          case rel=>exact⟨i+1,kv',ov2,by go_num,by omega,by first | exact Q | exact hid (Q.out.keep (aB _ _).drew)⟩
          case measure=>simp[RowKit.intOf];omega
      · have dk:decide ((i:Int)<(mk:Int))=false:=aJ (by omega);obtain rfl:i=mk:=(by omega);have au:=F.out;rw[<-ae.out.1,List.take_length] at au;have aa:=hid au;clear au;obtain⟨pa,ca,A⟩:=aa.out.keys.slice;obtain⟨po,co,V⟩:=aa.out.its.slice;obtain⟨nk,I⟩:=exQ<|(gW s d.nodes x.kind x.kids).length;obtain⟨ni,aK⟩:=exQ<|(x.kids.map (bE s d lv)).length;rw[I] at A;rw[aK] at V;subst A V;have HP:Hid (oQ (VT.mk kd [] (gW s d.nodes x.kind x.kids) (x.kids.map (bE s d lv))) w (.returned (.agg #[.int .i64 kd, .string (bs []), .slice pa nk ca, .slice po ni co])) (bL wr R kd [] (.slice pa nk ca) (.slice po ni co))):=hid (by refine⟨⟨_,_,rfl,?_⟩,yC (aC Z.out aa.out.bel) (by omega)⟩;exact(aa.out.put (R:=R) bq).mono (λq L _=>aV Z.out.size L));have a8:Hid ((bL wr R kd [] (.slice pa nk ca) (.slice po ni co)).heap[R]?=some (.cells #[.int .i64 kd, .string (bs []), .slice pa nk ca, .slice po ni co] 25)):=hid (yD hr);obtain⟨r0,r1,r2,r3,f0,f1,f2,f3⟩:=cF hr;obtain⟨y0,y1,y2,y3,_⟩:=aa.out.cells;clear I aK F hr;go_wp2_with fail;obtain⟨WF,af⟩:=exQ<|bL wr R kd [] (.slice pa nk ca) (.slice po ni co);rw[af] at HP a8;have ak:(((wr.setCell ⟨R,0,none⟩ (.int .i64 kd)).setCell ⟨R,1,none⟩ (.string (bs []))).setCell ⟨R,2,none⟩ (.slice pa nk ca)).setCell ⟨R,3,none⟩ (.slice po ni co)=WF:=af
        first
          | rw[ak]
          | (have a0:(((wr.setCell ⟨R,0,none⟩ (.int .i64 kd)).setCell ⟨R,1,none⟩ (.string ⟨#[]⟩)).setCell ⟨R,2,none⟩ (.slice pa nk ca)).setCell ⟨R,3,none⟩ (.slice po ni co)=WF:=af
             rw[a0])
        clear af ak r0 r1 r2 r3 f0 f1 f2 f3 y0 y1 y2 y3;obtain⟨d0,d1,d2,d3,_⟩:=cF a8.out;refine bodyPost_ret (v:= .agg #[.int .i64 kd, .string (bs []), .slice pa nk ca, .slice po ni co]) ?_ rfl HP.out;simp[results,Tryz.results45,go_sem,d0,d1,d2,d3]
theorem Sg (s:aA) (d:fS) (hb:uS s d) (hi64: ∀l∈d.lines,l.ind<=1099511627776): ∀lv,Cj s d lv
 | 0=>λ_ _ _ _ _ _ _ h=>h.elim
 | lv+1=>λB lvv nv k m lev w hT hlev hlv hD hV=>by
  obtain⟨x,hx⟩: ∃x,d.nodes[k]?=some x:=by obtain⟨x,hx,_⟩:=hT;exact⟨x,hx⟩
  have IH:=Sg s d hb hi64 lv;by_cases h1:x.kind=1
  ·exact aDZ s d hb hi64 lv IH B lvv nv k m lev w hT hlev hlv hD hV x hx h1
  ·by_cases h4:x.kind=4
   ·exact aEa s d hb hi64 lv IH B lvv nv k m lev w hT hlev hlv hD hV x hx h4
   ·exact aEb s d hb hi64 lv IH B lvv nv k m lev w hT hlev hlv hD hV x hx h1 h4
end Go.Proofs.YtjnooaljcgkfpaaGreatDoor
