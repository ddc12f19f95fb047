import Derived.Test.YtaifnmjjpddikaaGreatDoorRl24
import Derived.Test.YtaifnmjjpddikaaGreatDoorRl13
set_option maxRecDepth 100000
set_option maxHeartbeats 8000000
namespace Go.Proofs.YtaifnmjjpddikaaGreatDoor
set_option linter.unusedSimpArgs false
set_option linter.unusedVariables false
open Go.RowKit
open Go.Lib hiding intOf
theorem eB.kid {ns:List aG}{lv k hi:Nat}{x:aG} (h:eB ns (lv+1) k hi) (hx:ns[k]?=some x): ∀q∈x.kids,(∃m,eB ns lv q m)/\q<ns.length:=by
 obtain⟨x',c,i⟩:=h;rw[hx] at c;obtain rfl:=bD c;have key: ∀(l:List Nat) (a:Nat),cO (eB ns lv) l a hi-> ∀q∈l,∃m,eB ns lv q m:=by
  intro l
  induction l with
  | nil=>intro a _ q b;cases b
  | cons y l ih=>
   intro a h q b;obtain⟨rfl,m,g,e⟩:=h;rcases dC.1 b with rfl | b
   ·exact⟨m,g⟩
   ·exact ih m e q b
 intro q b;obtain⟨m,d⟩:=key _ _ i q b;refine⟨⟨m,d⟩,?_⟩;cases lv with
 | zero=>exact d.elim
 | succ lv=>obtain⟨y,f,_⟩:=d;exact(aR.1 f).1
def gP (s:aA) (ns:List aG) (kd:Nat) (l:List Nat):List aA:=if kd=3 then l.map (cX s ns) else []
theorem Mw (s:aA) (ns:List aG) (kd:Nat):gP s ns kd []= []:=by unfold gP;split<;>rfl
def zV (s:aA) (d:cF) (lv:Nat):Prop:= ∀(B:Nat) (lvv nv:Value) (k m:Nat) (lev:Int) (w:World),eB d.nodes lv k m->Hid (lev=33-(lv:Int))->lv<=32->fE B d lvv nv w->bU w->
 Calls Tryz.prog 24 #[.agg #[.string (bs s),lvv,nv], .int .i64 (k:Int), .int .i64 lev] w (jN (aN s d lv k) w)
theorem aAt (s:aA) (d:cF) (hb:rT s d) (hi64: ∀l∈d.lines,l.ind<=1099511627776) (lv:Nat) (IH:zV s d lv) (B:Nat) (lvv nv:Value) (k m:Nat) (lev:Int) (w:World) (hT:eB d.nodes (lv+1) k m) (hlev:Hid (lev=33-((lv+1:Nat):Int))) (hlv:lv+1<=32) (hD0:fE B d lvv nv w) (hV:bU w) (x:aG) (hx:d.nodes[k]?=some x) (hkd:x.kind=1):
  Calls Tryz.prog 24 #[.agg #[.string (bs s),lvv,nv], .int .i64 (k:Int), .int .i64 lev] w (jN (aN s d (lv+1) k) w):=by
 have aa:=hx;obtain⟨z,hz,ap,o⟩:=id hD0;obtain⟨y,S⟩: ∃y,z[k]?=some y:=by
  rw[<-hz,cW] at hx;cases N:z[k]? with
  | none=>rw[N] at hx;cases hx
  | some q=>exact⟨q,rfl⟩
 have L:y.1=x:=by
  rw[<-hz,cW,S] at hx;exact bD hx
 obtain⟨gn,cn,cur,rfl,aE,_,aP⟩:=o.form (λe=>by rw[e] at S;cases S);obtain⟨pl,nl,cl,rfl⟩: ∃p n c,lvv= .slice p n c:=by
  rcases ap.2 with⟨h0,_⟩ | ⟨g,cap,cur,r,_⟩
  ·exact⟨none,0,0,h0⟩
  ·exact⟨_,_,_,r⟩
 have U:=o.kids y (aX S);obtain⟨pk,ck,E⟩: ∃p c,y.2= .slice p y.1.kids.length c:=by
  rcases U.2 with⟨h0,r⟩ | ⟨g,cap,cur,r,_⟩
  ·exact⟨none,0,by rw[h0,r]⟩
  ·exact⟨_,cap,r⟩
 have HKR:Hid (∀w',Below w.heap.size w w'-> ∀(j q:Nat),x.kids[j]?=some q-> ∃gk,pk=some ⟨gk,0,none⟩/\w'.cell? ⟨gk,j,none⟩=some (.int .i64 (q:Int))):=hid (λw' i j q hj=>by
  have F:=U;rw[E,L] at F;have hjl:=(aR.1 hj).1;rcases F.2 with⟨h0,r⟩ | ⟨g,cap,cur,r,_⟩
  ·omega
  ·injection r with e1;subst e1;refine⟨g,rfl,bH ?_ i⟩;rw[World.ownsRow.cellAt F _ (by omega)];unfold eI;rw[cW,hj];rfl)
 obtain⟨mk,M⟩:=exQ<|y.1.kids.length;obtain⟨nz,ae⟩:=exQ<|z.length;have ax:z.length=d.nodes.length:=by rw[<-hz,bK]
 have ay:k<z.length:=(aR.1 S).1;rw[ae] at hD0 ⊢;have hk0:(0:Int)<=(k:Int):=by omega
 have hk1:(k:Int)<(nz:Int):=by omega
 have HNodes:Hid (∀w',Below w.heap.size w w'-> ∀(q:Nat) (yq:aG),d.nodes[q]?=some yq->w'.cell? ⟨gn,q*9+4,none⟩=some (.int .i64 yq.kf)/\w'.cell? ⟨gn,q*9+5,none⟩=some (.int .i64 yq.kt)):=hid (λw' i q yq N=>by
  obtain⟨u,hu⟩: ∃u,z[q]?=some u:=by
   rw[<-hz,cW] at N;cases hh:z[q]? with
   | none=>rw[hh] at N;cases N
   | some u=>exact⟨u,rfl⟩
  have aK:u.1=yq:=by
   rw[<-hz,cW,hu] at N;exact bD N
  have h4:=(o.at_ hu 4 (by omega) rfl).1;have h5:=(o.at_ hu 5 (by omega) rfl).1;rw[aK] at h4 h5;exact⟨bH h4 i,bH h5 i⟩)
 have HC:Hid (∀j u,j<9->(jC y)[j]?=some u->w.cell? ⟨gn,k*9+j,none⟩=some u):=hid (λj u hj hu=>(o.at_ S j hj hu).1);obtain⟨hbf,hbt,ai⟩:=hb.nd x (aX hx);rw[L] at M E;rw[M] at E ai;obtain⟨W1,Z⟩:=exQ<|w.alloc (.cells #[.string (bs s), .slice pl nl cl, .slice (some ⟨gn,0,none⟩) nz cn] 36);obtain⟨D,ao⟩:=exQ<|w.heap.size;have b1:Below w.heap.size w W1:=by rw[<-Z];exact aI _ _
 have r:W1.heap[D]?=some (.cells #[.string (bs s), .slice pl nl cl, .slice (some ⟨gn,0,none⟩) nz cn] 36):=by rw[<-Z,<-ao];exact heap_alloc_new w _
 obtain⟨W2,W⟩:=exQ<|W1.alloc (.cells #[.int .i64 0, .string ⟨#[]⟩, .slice none 0 0, .slice none 0 0] 26);obtain⟨R,ab⟩:=exQ<|W1.heap.size;have b2:Below W1.heap.size W1 W2:=by rw[<-W];exact aI _ _
 have h2:W2.heap[R]?=some (.cells #[.int .i64 0, .string (bs []), .slice none 0 0, .slice none 0 0] 26):=by rw[<-W,<-ab];exact heap_alloc_new W1 _
 obtain⟨W3,af⟩:=exQ<|W2.alloc (.cells #[.int .i64 1, .int .i64 x.ind, .int .i64 (x.fr:Int), .int .i64 (x.til:Int), .int .i64 x.kf, .int .i64 x.kt, .int .i64 x.rf, .int .i64 x.rt, .slice pk mk ck] 62);obtain⟨X,an⟩:=exQ<|W2.heap.size;have b3:Below W2.heap.size W2 W3:=by rw[<-af];exact aI _ _
 have h3:W3.heap[X]?=some (.cells #[.int .i64 1, .int .i64 x.ind, .int .i64 (x.fr:Int), .int .i64 (x.til:Int), .int .i64 x.kf, .int .i64 x.kt, .int .i64 x.rf, .int .i64 x.rt, .slice pk mk ck] 62):=by rw[<-af,<-an];exact heap_alloc_new W2 _
 obtain⟨W4,J⟩:=exQ<|W3.alloc (.cells #[.int .i64 5, .string ⟨#[]⟩, .slice none 0 0, .slice none 0 0] 26);obtain⟨Y,ak⟩:=exQ<|W3.heap.size;have b4:Below W3.heap.size W3 W4:=by rw[<-J];exact aI _ _
 have h4:W4.heap[Y]?=some (.cells #[.int .i64 5, .string (bs []), .slice none 0 0, .slice none 0 0] 26):=by rw[<-J,<-ak];exact heap_alloc_new W3 _
 have K:=(b2.block D (aF r)).trans r;have I:=(b3.block D (aF K)).trans K;have C:=(b3.block R (aF h2)).trans h2;have am:=hid (aC b1 b2);have G:=hid (aC am.out b3);have HB4:=hid (aC G.out b4);have f:=hid b4;have H3:=hid (aJ I (aJ C h3));have H4:=hid h4;have au:Hid (∀w',Below W3.heap.size W3 w'->(w'.cell? ⟨D,0,none⟩=some (.string (bs s))/\w'.cell? ⟨D,1,none⟩=some (.slice pl nl cl)/\w'.cell? ⟨D,2,none⟩=some (.slice (some ⟨gn,0,none⟩) nz cn))/\(w'.cell? ⟨X,0,none⟩=some (.int .i64 1)/\w'.cell? ⟨X,6,none⟩=some (.int .i64 x.rf)/\w'.cell? ⟨X,7,none⟩=some (.int .i64 x.rt)/\w'.cell? ⟨X,8,none⟩=some (.slice pk mk ck))/\w'.heap[R]?=some (.cells #[.int .i64 0, .string (bs []), .slice none 0 0, .slice none 0 0] 26)):=hid (λw' h=>by obtain⟨e0,e1,e2,_⟩:=gJ ((h.block D (aF I)).trans I);obtain⟨f0,f1,f2,f3,f4,f5,f6,f7,f8⟩:=pS ((h.block X (aF h3)).trans h3);exact⟨⟨e0,e1,e2⟩,⟨f0,f6,f7,f8⟩,(h.block R (aF C)).trans C⟩);have ar:R<W3.heap.size:=aF C;have aL:W3.heap.size<=Y:=by omega
 have aO:w.heap.size<=R:=by rw[<-ab];exact b1.size
 have hwW3:w.heap.size<=W3.heap.size:=G.out.size;have HDoc:Hid (∀w',Below W3.heap.size W3 w'->fE B d (.slice pl nl cl) (.slice (some ⟨gn,0,none⟩) nz cn) w'):=hid (λw' h=>(hD0.keep G.out).keep h);have aD:Hid (∀w',Below W3.heap.size W3 w'->bU w'):=hid (λw' h=>(hV.keep G.out).keep h);have CBy:Hid (∀(a b:Int) w',Calls Tryz.prog 49 #[.agg #[.string (bs s), .slice pl nl cl, .slice (some ⟨gn,0,none⟩) nz cn], .agg #[.int .i64 a, .int .i64 b]] w' λe w2=>e= .returned (.string (bs (dY s a b)))/\Below w'.heap.size w' w2):=hid (λa b w'=>zU s _ _ ⟨_,_,_,rfl⟩ ⟨_,_,_,rfl⟩ a b w' (by have:=hb.txt;omega));have ck': ∀j u,j<9->(jC y)[j]?=some u->W2.cell? ⟨gn,k*9+j,none⟩=some u:=λj u hj hu=>by
  exact bH (HC.out j u hj hu) am.out
 have y0:=ck' 0 _ (by omega) rfl;have y1:=ck' 1 _ (by omega) rfl;have y2:=ck' 2 _ (by omega) rfl;have y3:=ck' 3 _ (by omega) rfl;have y4:=ck' 4 _ (by omega) rfl;have y5:=ck' 5 _ (by omega) rfl;have y6:=ck' 6 _ (by omega) rfl;have y7:=ck' 7 _ (by omega) rfl;have y8:=ck' 8 _ (by omega) rfl;rw[L] at y0 y1 y2 y3 y4 y5 y6 y7;rw[E] at y8;rw[hkd] at y0;simp only[Nat.add_zero] at y0;have d2:W2.cell? ⟨D,2,none⟩=some (.slice (some ⟨gn,0,none⟩) nz cn):=(gJ K).2.2.1;have HKM:=hid (aJ M ai);have HKD:=hid (hT.kid aa);have HZN:=hid (ax.symm.trans ae);have hyz:=hlev.out;clear b1 b2 b3 b4 r h2 h3 h4 K I C hz ap o U E hx S L ax ay aP aE ck' M ae hT hD0 hV;obtain⟨t,ht⟩:=exQ<|dY s x.rf x.rt;have CB:=hid (λw'=>CBy.out x.rf x.rt w');rw[ht] at CB;have az:=Eh s x.rf x.rt;rw[ht] at az;obtain⟨⟨T,er⟩,ah⟩:=exQ<|fP t;have CR:Hid (∀w',Below W3.heap.size W3 w'->Calls Tryz.prog 48 #[.string (bs t)] w' (yX T er w')):=hid (λw' i=>by have:=Ks t w' (by have:=hb.txt;omega) (aD.out w' i);rw[ah] at this;exact this);have O:aN s d (lv+1) k=T:=by
  unfold aN;rw[aa];simp only[];rw[if_pos hkd,ht,ah]
 rw[O];clear O ah ht hkd aa;go_enter Tryz.func24,Tryz.ntmps24;go_upto_region 1 with fail;clear Z W ao ab;go_upto_region 2 with fail;clear af an y0 y1 y2 y3 y4 y5 y6 y7 y8 d2;have aM:=hid J;clear J;go_upto_region 3 with fail
 first | rw[aM.out] | skip
 clear ak;obtain⟨⟨e0,e1,e2⟩,⟨x0,x6,x7,x8⟩,hr⟩:=au.out W4 f.out;have av:=aF H4.out;go_wp2_with fail;refine(CB.out _).mono ?_;rintro e w5 ⟨rfl,ad⟩;have ag:Hid (Below W4.heap.size W4 w5):=hid (by first | exact ad | exact aC (aB _ _).drew ad);clear ad e0 e1 e2 x0 x6 x7 x8 hr;go_wp2_with fail;refine(CR.out _ (by first | exact f.out.trans (ag.out.mono f.out.size))).mono ?_;rintro e w6 ⟨⟨kv,iv,rfl,V⟩,aw⟩;have al:=hid (aC ag.out aw);obtain⟨pk6,ck6,pi6,ci6,rfl,rfl⟩:=V.toVD.form;have aH:Hid (eZ W4.heap.size w6 T.depth T (.slice pk6 T.keys.length ck6) (.slice pi6 T.items.length ci6)):=hid (V.mono (λq N _=>aY ag.out.size N));have A:=hid (iT (t:=T) f.out aL av aH.out al.out H4.out);obtain⟨c0,c1,c2,c3,f0,f1,f2,f3⟩:=bC ((al.out.block Y av).trans H4.out);unfold vv;clear V aw;go_upto_region 6 with fail;have Q:(((w6.setCell ⟨Y,0,none⟩ (.int .i64 T.kind)).setCell ⟨Y,1,none⟩ (.string (bs T.text))).setCell ⟨Y,2,none⟩ (.slice pk6 T.keys.length ck6)).setCell ⟨Y,3,none⟩ (.slice pi6 T.items.length ci6)=bG w6 Y T.kind T.text (.slice pk6 T.keys.length ck6) (.slice pi6 T.items.length ci6):=rfl;rw[Q];obtain⟨WF,aj⟩:=exQ<|bG w6 Y T.kind T.text (.slice pk6 T.keys.length ck6) (.slice pi6 T.items.length ci6);rw[aj] at A ⊢;clear Q aj c0 c1 c2 c3 f0 f1 f2 f3;obtain⟨c0,c1,c2,c3,_⟩:=bC A.out.2.2;obtain⟨_,_,hr⟩:=au.out WF A.out.2.1;obtain⟨r0,r1,r2,r3,g0,g1,g2,g3⟩:=bC hr;have H:=hid (iT (t:=T) G.out aO ar A.out.1 A.out.2.1 H3.out.2.1);clear hr;go_wp2_with fail;have P:(((WF.setCell ⟨R,0,none⟩ (.int .i64 T.kind)).setCell ⟨R,1,none⟩ (.string (bs T.text))).setCell ⟨R,2,none⟩ (.slice pk6 T.keys.length ck6)).setCell ⟨R,3,none⟩ (.slice pi6 T.items.length ci6)=bG WF R T.kind T.text (.slice pk6 T.keys.length ck6) (.slice pi6 T.items.length ci6):=rfl;rw[P];obtain⟨WR,aq⟩:=exQ<|bG WF R T.kind T.text (.slice pk6 T.keys.length ck6) (.slice pi6 T.items.length ci6);rw[aq] at H ⊢;clear P aq r0 r1 r2 r3 g0 g1 g2 g3;obtain⟨d0,d1,d2,d3,_⟩:=bC H.out.2.2;refine bodyPost_ret (v:= .agg #[.int .i64 T.kind, .string (bs T.text), .slice pk6 T.keys.length ck6, .slice pi6 T.items.length ci6]) ?_ rfl ⟨⟨_,_,rfl,H.out.1⟩,H.out.2.1⟩;simp[results,Tryz.results24,go_sem,d0,d1,d2,d3]
theorem aAu (s:aA) (d:cF) (hb:rT s d) (hi64: ∀l∈d.lines,l.ind<=1099511627776) (lv:Nat) (IH:zV s d lv) (B:Nat) (lvv nv:Value) (k m:Nat) (lev:Int) (w:World) (hT:eB d.nodes (lv+1) k m) (hlev:Hid (lev=33-((lv+1:Nat):Int))) (hlv:lv+1<=32) (hD0:fE B d lvv nv w) (hV:bU w) (x:aG) (hx:d.nodes[k]?=some x) (hkd:x.kind=4):
  Calls Tryz.prog 24 #[.agg #[.string (bs s),lvv,nv], .int .i64 (k:Int), .int .i64 lev] w (jN (aN s d (lv+1) k) w):=by
 have J:=hx;obtain⟨z,hz,ai,o⟩:=id hD0;obtain⟨y,P⟩: ∃y,z[k]?=some y:=by
  rw[<-hz,cW] at hx;cases hq:z[k]? with
  | none=>rw[hq] at hx;cases hx
  | some q=>exact⟨q,rfl⟩
 have L:y.1=x:=by
  rw[<-hz,cW,P] at hx;exact bD hx
 obtain⟨gn,cn,cur,rfl,aq,_,aw⟩:=o.form (λe=>by rw[e] at P;cases P);obtain⟨pl,nl,cl,rfl⟩: ∃p n c,lvv= .slice p n c:=by
  rcases ai.2 with⟨h0,_⟩ | ⟨g,cap,cur,r,_⟩
  ·exact⟨none,0,0,h0⟩
  ·exact⟨_,_,_,r⟩
 have Q:=o.kids y (aX P);obtain⟨pk,ck,C⟩: ∃p c,y.2= .slice p y.1.kids.length c:=by
  rcases Q.2 with⟨h0,r⟩ | ⟨g,cap,cur,r,_⟩
  ·exact⟨none,0,by rw[h0,r]⟩
  ·exact⟨_,cap,r⟩
 have HKR:Hid (∀w',Below w.heap.size w w'-> ∀(j q:Nat),x.kids[j]?=some q-> ∃gk,pk=some ⟨gk,0,none⟩/\w'.cell? ⟨gk,j,none⟩=some (.int .i64 (q:Int))):=hid (λw' i j q hj=>by
  have E:=Q;rw[C,L] at E;have hjl:=(aR.1 hj).1;rcases E.2 with⟨h0,r⟩ | ⟨g,cap,cur,r,_⟩
  ·omega
  ·injection r with e1;subst e1;refine⟨g,rfl,bH ?_ i⟩;rw[World.ownsRow.cellAt E _ (by omega)];unfold eI;rw[cW,hj];rfl)
 obtain⟨mk,M⟩:=exQ<|y.1.kids.length;obtain⟨nz,W⟩:=exQ<|z.length;have ao:z.length=d.nodes.length:=by rw[<-hz,bK]
 have ap:k<z.length:=(aR.1 P).1;rw[W] at hD0 ⊢;have hk0:(0:Int)<=(k:Int):=by omega
 have hk1:(k:Int)<(nz:Int):=by omega
 have HNodes:Hid (∀w',Below w.heap.size w w'-> ∀(q:Nat) (yq:aG),d.nodes[q]?=some yq->w'.cell? ⟨gn,q*9+4,none⟩=some (.int .i64 yq.kf)/\w'.cell? ⟨gn,q*9+5,none⟩=some (.int .i64 yq.kt)):=hid (λw' i q yq hq=>by
  obtain⟨u,Z⟩: ∃u,z[q]?=some u:=by
   rw[<-hz,cW] at hq;cases hh:z[q]? with
   | none=>rw[hh] at hq;cases hq
   | some u=>exact⟨u,rfl⟩
  have ar:u.1=yq:=by
   rw[<-hz,cW,Z] at hq;exact bD hq
  have h4:=(o.at_ Z 4 (by omega) rfl).1;have h5:=(o.at_ Z 5 (by omega) rfl).1;rw[ar] at h4 h5;exact⟨bH h4 i,bH h5 i⟩)
 have HC:Hid (∀j u,j<9->(jC y)[j]?=some u->w.cell? ⟨gn,k*9+j,none⟩=some u):=hid (λj u hj Z=>(o.at_ P j hj Z).1);obtain⟨hbf,hbt,ab⟩:=hb.nd x (aX hx);rw[L] at M C;rw[M] at C ab;obtain⟨W1,T⟩:=exQ<|w.alloc (.cells #[.string (bs s), .slice pl nl cl, .slice (some ⟨gn,0,none⟩) nz cn] 36);obtain⟨D,ah⟩:=exQ<|w.heap.size;have b1:Below w.heap.size w W1:=by rw[<-T];exact aI _ _
 have r:W1.heap[D]?=some (.cells #[.string (bs s), .slice pl nl cl, .slice (some ⟨gn,0,none⟩) nz cn] 36):=by rw[<-T,<-ah];exact heap_alloc_new w _
 obtain⟨W2,S⟩:=exQ<|W1.alloc (.cells #[.int .i64 0, .string ⟨#[]⟩, .slice none 0 0, .slice none 0 0] 26);obtain⟨R,U⟩:=exQ<|W1.heap.size;have b2:Below W1.heap.size W1 W2:=by rw[<-S];exact aI _ _
 have h2:W2.heap[R]?=some (.cells #[.int .i64 0, .string (bs []), .slice none 0 0, .slice none 0 0] 26):=by rw[<-S,<-U];exact heap_alloc_new W1 _
 obtain⟨W3,aa⟩:=exQ<|W2.alloc (.cells #[.int .i64 4, .int .i64 x.ind, .int .i64 (x.fr:Int), .int .i64 (x.til:Int), .int .i64 x.kf, .int .i64 x.kt, .int .i64 x.rf, .int .i64 x.rt, .slice pk mk ck] 62);obtain⟨X,ag⟩:=exQ<|W2.heap.size;have b3:Below W2.heap.size W2 W3:=by rw[<-aa];exact aI _ _
 have h3:W3.heap[X]?=some (.cells #[.int .i64 4, .int .i64 x.ind, .int .i64 (x.fr:Int), .int .i64 (x.til:Int), .int .i64 x.kf, .int .i64 x.kt, .int .i64 x.rf, .int .i64 x.rt, .slice pk mk ck] 62):=by rw[<-aa,<-ag];exact heap_alloc_new W2 _
 obtain⟨W4,I⟩:=exQ<|W3.alloc (.cells #[.int .i64 5, .string ⟨#[]⟩, .slice none 0 0, .slice none 0 0] 26);obtain⟨Y,ad⟩:=exQ<|W3.heap.size;have b4:Below W3.heap.size W3 W4:=by rw[<-I];exact aI _ _
 have h4:W4.heap[Y]?=some (.cells #[.int .i64 5, .string (bs []), .slice none 0 0, .slice none 0 0] 26):=by rw[<-I,<-ad];exact heap_alloc_new W3 _
 have K:=(b2.block D (aF r)).trans r;have H:=(b3.block D (aF K)).trans K;have A:=(b3.block R (aF h2)).trans h2;have af:=hid (aC b1 b2);have F:=hid (aC af.out b3);have HB4:=hid (aC F.out b4);have f:=hid b4;have H3:=hid (aJ H (aJ A h3));have H4:=hid h4;have al:Hid (∀w',Below W3.heap.size W3 w'->(w'.cell? ⟨D,0,none⟩=some (.string (bs s))/\w'.cell? ⟨D,1,none⟩=some (.slice pl nl cl)/\w'.cell? ⟨D,2,none⟩=some (.slice (some ⟨gn,0,none⟩) nz cn))/\(w'.cell? ⟨X,0,none⟩=some (.int .i64 4)/\w'.cell? ⟨X,6,none⟩=some (.int .i64 x.rf)/\w'.cell? ⟨X,7,none⟩=some (.int .i64 x.rt)/\w'.cell? ⟨X,8,none⟩=some (.slice pk mk ck))/\w'.heap[R]?=some (.cells #[.int .i64 0, .string (bs []), .slice none 0 0, .slice none 0 0] 26)):=hid (λw' h=>by obtain⟨e0,e1,e2,_⟩:=gJ ((h.block D (aF H)).trans H);obtain⟨f0,f1,f2,f3,f4,f5,f6,f7,f8⟩:=pS ((h.block X (aF h3)).trans h3);exact⟨⟨e0,e1,e2⟩,⟨f0,f6,f7,f8⟩,(h.block R (aF A)).trans A⟩);have ak:R<W3.heap.size:=aF A;have hYW:W3.heap.size<=Y:=by omega
 have av:w.heap.size<=R:=by rw[<-U];exact b1.size
 have hwW3:w.heap.size<=W3.heap.size:=F.out.size;have an:Hid (∀w',Below W3.heap.size W3 w'->fE B d (.slice pl nl cl) (.slice (some ⟨gn,0,none⟩) nz cn) w'):=hid (λw' h=>(hD0.keep F.out).keep h);have HVr:Hid (∀w',Below W3.heap.size W3 w'->bU w'):=hid (λw' h=>(hV.keep F.out).keep h);have CBy:Hid (∀(a b:Int) w',Calls Tryz.prog 49 #[.agg #[.string (bs s), .slice pl nl cl, .slice (some ⟨gn,0,none⟩) nz cn], .agg #[.int .i64 a, .int .i64 b]] w' λe w2=>e= .returned (.string (bs (dY s a b)))/\Below w'.heap.size w' w2):=hid (λa b w'=>zU s _ _ ⟨_,_,_,rfl⟩ ⟨_,_,_,rfl⟩ a b w' (by have:=hb.txt;omega));have ck': ∀j u,j<9->(jC y)[j]?=some u->W2.cell? ⟨gn,k*9+j,none⟩=some u:=λj u hj Z=>by
  exact bH (HC.out j u hj Z) af.out
 have y0:=ck' 0 _ (by omega) rfl;have y1:=ck' 1 _ (by omega) rfl;have y2:=ck' 2 _ (by omega) rfl;have y3:=ck' 3 _ (by omega) rfl;have y4:=ck' 4 _ (by omega) rfl;have y5:=ck' 5 _ (by omega) rfl;have y6:=ck' 6 _ (by omega) rfl;have y7:=ck' 7 _ (by omega) rfl;have y8:=ck' 8 _ (by omega) rfl;rw[L] at y0 y1 y2 y3 y4 y5 y6 y7;rw[C] at y8;rw[hkd] at y0;simp only[Nat.add_zero] at y0;have d2:W2.cell? ⟨D,2,none⟩=some (.slice (some ⟨gn,0,none⟩) nz cn):=(gJ K).2.2.1;have HKM:=hid (aJ M ab);have HKD:=hid (hT.kid J);have HZN:=hid (ao.symm.trans W);have hyz:=hlev.out;clear b1 b2 b3 b4 r h2 h3 h4 K H A hz ai o Q C hx P L ao ap aw aq ck' M W hT hD0 hV;obtain⟨t,ht⟩:=exQ<|pU s d.lines x;have CL:Hid (∀w',Below W3.heap.size W3 w'->Calls Tryz.prog 50 #[.agg #[.string (bs s), .slice pl nl cl, .slice (some ⟨gn,0,none⟩) nz cn], .int .i64 (k:Int)] w' λe w2=>e= .returned (.tuple #[.string (bs t), .bool true])/\Below w'.heap.size w' w2):=hid (λw' i=>by have:=aAs s d _ _ B w' (an.out w' i) hb hi64 k x J hkd;rw[ht] at this;exact this);have COf:=hid (λw'=>Cr t w');have N:aN s d (lv+1) k=kH t:=by
  unfold aN;rw[J];simp only[];rw[if_neg (by omega),if_pos hkd,ht]
 rw[N];clear N ht hkd J;go_enter Tryz.func24,Tryz.ntmps24;go_upto_region 1 with fail;clear T S ah U;go_upto_region 2 with fail;clear aa ag y0 y1 y2 y3 y4 y5 y6 y7 y8 d2;have au:=hid I;clear I;go_upto_region 3 with fail
 first | rw[au.out] | skip
 clear ad;obtain⟨⟨e0,e1,e2⟩,⟨x0,x6,x7,x8⟩,hr⟩:=al.out W4 f.out;go_wp2_with fail;refine(CL.out _ (by first | exact f.out | exact f.out.drew)).mono ?_;rintro e w5 ⟨rfl,V⟩;have ax:Hid (Below W4.heap.size W4 w5):=hid (by first | exact V | exact aC (aB _ _).drew V);clear V e0 e1 e2 x0 x6 x7 x8 hr;go_wp2_with fail;refine(COf.out _).mono ?_;rintro e w6 ⟨rfl,am⟩;have ae:Hid (Below W3.heap.size W3 w6):=hid (f.out.trans ((aC ax.out am).mono f.out.size));obtain⟨_,_,hr⟩:=al.out w6 ae.out;obtain⟨r0,r1,r2,r3,g0,g1,g2,g3⟩:=bC hr;have G:=hid (iT (t:=kH t) F.out av ak (pL _ _ _ _) ae.out H3.out.2.1);clear hr am;go_wp2_with fail;have O:(((w6.setCell ⟨R,0,none⟩ (.int .i64 4)).setCell ⟨R,1,none⟩ (.string (bs t))).setCell ⟨R,2,none⟩ (.slice none 0 0)).setCell ⟨R,3,none⟩ (.slice none 0 0)=bG w6 R (kH t).kind (kH t).text (.slice none 0 0) (.slice none 0 0):=rfl;rw[O];obtain⟨WR,aj⟩:=exQ<|bG w6 R (kH t).kind (kH t).text (.slice none 0 0) (.slice none 0 0);rw[aj] at G ⊢;clear O aj r0 r1 r2 r3 g0 g1 g2 g3;obtain⟨d0,d1,d2,d3,_⟩:=bC G.out.2.2;refine bodyPost_ret (v:= .agg #[.int .i64 (kH t).kind, .string (bs (kH t).text), .slice none 0 0, .slice none 0 0]) ?_ rfl ⟨⟨_,_,rfl,G.out.1⟩,G.out.2.1⟩;simp[results,Tryz.results24,go_sem,d0,d1,d2,d3]
theorem aAv (s:aA) (d:cF) (hb:rT s d) (hi64: ∀l∈d.lines,l.ind<=1099511627776) (lv:Nat) (IH:zV s d lv) (B:Nat) (lvv nv:Value) (k m:Nat) (lev:Int) (w:World) (hT:eB d.nodes (lv+1) k m) (hlev:Hid (lev=33-((lv+1:Nat):Int))) (hlv:lv+1<=32) (hD0:fE B d lvv nv w) (hV:bU w) (x:aG) (hx:d.nodes[k]?=some x) (h1:x.kind≠1) (h4:x.kind≠4):
    Calls Tryz.prog 24 #[.agg #[.string (bs s),lvv,nv], .int .i64 (k:Int), .int .i64 lev] w (jN (aN s d (lv+1) k) w):=by
  have bF:=hx;obtain⟨z,hz,b6,ay⟩:=id hD0;obtain⟨y,hy⟩: ∃y,z[k]?=some y:=by
    rw[<-hz,cW] at hx;cases L:z[k]? with
    | none=>rw[L] at hx;cases hx
    | some q=>exact⟨q,rfl⟩
  have bk:y.1=x:=by
    rw[<-hz,cW,hy] at hx;exact bD hx
  obtain⟨gn,cn,cur,rfl,cG,_,cw⟩:=ay.form (λe=>by rw[e] at hy;cases hy);obtain⟨pl,nl,cl,rfl⟩: ∃p n c,lvv= .slice p n c:=by
    rcases b6.2 with⟨h0,_⟩ | ⟨g,cap,cur,h1,_⟩
    · exact⟨none,0,0,h0⟩
    · exact⟨_,_,_,h1⟩
  have bz:=ay.kids y (aX hy);obtain⟨pk,ck,A⟩: ∃p c,y.2= .slice p y.1.kids.length c:=by
    rcases bz.2 with⟨h0,h1⟩ | ⟨g,cap,cur,h1,_⟩
    · exact⟨none,0,by rw[h0,h1]⟩
    · exact⟨_,cap,h1⟩
  have cj:Hid (∀w',Below w.heap.size w w'-> ∀(j q:Nat),x.kids[j]?=some q-> ∃gk,pk=some ⟨gk,0,none⟩/\w'.cell? ⟨gk,j,none⟩=some (.int .i64 (q:Int))):=hid (λw' P j q hj=>by
    have a7:=bz;rw[A,bk] at a7;have hjl:=(aR.1 hj).1;rcases a7.2 with⟨h0,h1⟩ | ⟨g,cap,cur,h1,_⟩
    · omega
    · injection h1 with e1;subst e1;refine⟨g,rfl,bH ?_ P⟩;rw[World.ownsRow.cellAt a7 _ (by omega)];unfold eI;rw[cW,hj];rfl)
  obtain⟨mk,bl⟩:=exQ<|y.1.kids.length;obtain⟨nz,bI⟩:=exQ<|z.length;have cp:z.length=d.nodes.length:=by rw[<-hz,bK]
  have cA:k<z.length:=(aR.1 hy).1;rw[bI] at hD0 ⊢;have hk0:(0:Int)<=(k:Int):=by omega
  have hk1:(k:Int)<(nz:Int):=by omega
  have bi:Hid (∀w',Below w.heap.size w w'-> ∀(q:Nat) (yq:aG),d.nodes[q]?=some yq->w'.cell? ⟨gn,q*9+4,none⟩=some (.int .i64 yq.kf)/\w'.cell? ⟨gn,q*9+5,none⟩=some (.int .i64 yq.kt)):=hid (λw' P q yq L=>by
    obtain⟨u,hu⟩: ∃u,z[q]?=some u:=by
      rw[<-hz,cW] at L;cases hh:z[q]? with
      | none=>rw[hh] at L;cases L
      | some u=>exact⟨u,rfl⟩
    have cI:u.1=yq:=by
      rw[<-hz,cW,hu] at L;exact bD L
    have h4:=(ay.at_ hu 4 (by omega) rfl).1;have h5:=(ay.at_ hu 5 (by omega) rfl).1;rw[cI] at h4 h5;exact⟨bH h4 P,bH h5 P⟩)
  have F:Hid (∀j u,j<9->(jC y)[j]?=some u->w.cell? ⟨gn,k*9+j,none⟩=some u):=hid (λj u hj hu=>(ay.at_ hy j hj hu).1);obtain⟨hbf,hbt,bN⟩:=hb.nd x (aX hx);rw[bk] at bl A;rw[bl] at A bN;obtain⟨W1,bP⟩:=exQ<|w.alloc (.cells #[.string (bs s), .slice pl nl cl, .slice (some ⟨gn,0,none⟩) nz cn] 36);obtain⟨D,ch⟩:=exQ<|w.heap.size;have b1:Below w.heap.size w W1:=by rw[<-bP];exact aI _ _
  have h1:W1.heap[D]?=some (.cells #[.string (bs s), .slice pl nl cl, .slice (some ⟨gn,0,none⟩) nz cn] 36):=by rw[<-bP,<-ch];exact heap_alloc_new w _
  obtain⟨W2,bO⟩:=exQ<|W1.alloc (.cells #[.int .i64 0, .string ⟨#[]⟩, .slice none 0 0, .slice none 0 0] 26);obtain⟨R,bQ⟩:=exQ<|W1.heap.size;have b2:Below W1.heap.size W1 W2:=by rw[<-bO];exact aI _ _
  have h2:W2.heap[R]?=some (.cells #[.int .i64 0, .string (bs []), .slice none 0 0, .slice none 0 0] 26):=by rw[<-bO,<-bQ];exact heap_alloc_new W1 _
  obtain⟨W3,bf⟩:=exQ<|W2.alloc (.cells #[.int .i64 (x.kind:Int), .int .i64 x.ind, .int .i64 (x.fr:Int), .int .i64 (x.til:Int), .int .i64 x.kf, .int .i64 x.kt, .int .i64 x.rf, .int .i64 x.rt, .slice pk mk ck] 62);obtain⟨X,ce⟩:=exQ<|W2.heap.size;have b3:Below W2.heap.size W2 W3:=by rw[<-bf];exact aI _ _
  have h3:W3.heap[X]?=some (.cells #[.int .i64 (x.kind:Int), .int .i64 x.ind, .int .i64 (x.fr:Int), .int .i64 (x.til:Int), .int .i64 x.kf, .int .i64 x.kt, .int .i64 x.rf, .int .i64 x.rt, .slice pk mk ck] 62):=by rw[<-bf,<-ce];exact heap_alloc_new W2 _
  obtain⟨W4,aL⟩:=exQ<|W3.alloc (.cells #[.int .i64 5, .string ⟨#[]⟩, .slice none 0 0, .slice none 0 0] 26);obtain⟨Y,bB⟩:=exQ<|W3.heap.size;have b4:Below W3.heap.size W3 W4:=by rw[<-aL];exact aI _ _
  have h4:W4.heap[Y]?=some (.cells #[.int .i64 5, .string (bs []), .slice none 0 0, .slice none 0 0] 26):=by rw[<-aL,<-bB];exact heap_alloc_new W3 _
  have bc:=(b2.block D (aF h1)).trans h1;have bh:=(b3.block D (aF bc)).trans bc;have aD:=(b3.block R (aF h2)).trans h2;have cb:=hid (aC b1 b2);have V:=hid (aC cb.out b3);have HB4:=hid (aC V.out b4);have bZ:=hid b4;have H3:=hid (aJ bh (aJ aD h3));have H4:=hid h4;have ad:Hid (∀w',Below W3.heap.size W3 w'->(w'.cell? ⟨D,0,none⟩=some (.string (bs s))/\w'.cell? ⟨D,1,none⟩=some (.slice pl nl cl)/\w'.cell? ⟨D,2,none⟩=some (.slice (some ⟨gn,0,none⟩) nz cn))/\(w'.cell? ⟨X,0,none⟩=some (.int .i64 (x.kind:Int))/\w'.cell? ⟨X,6,none⟩=some (.int .i64 x.rf)/\w'.cell? ⟨X,7,none⟩=some (.int .i64 x.rt)/\w'.cell? ⟨X,8,none⟩=some (.slice pk mk ck))/\w'.heap[R]?=some (.cells #[.int .i64 0, .string (bs []), .slice none 0 0, .slice none 0 0] 26)):=hid (λw' h=>by obtain⟨e0,e1,e2,_⟩:=gJ ((h.block D (aF bh)).trans bh);obtain⟨f0,f1,f2,f3,f4,f5,f6,f7,f8⟩:=pS ((h.block X (aF h3)).trans h3);exact⟨⟨e0,e1,e2⟩,⟨f0,f6,f7,f8⟩,(h.block R (aF aD)).trans aD⟩);have bu:R<W3.heap.size:=aF aD;have hYW:W3.heap.size<=Y:=by omega
  have hRw:w.heap.size<=R:=by rw[<-bQ];exact b1.size
  have bt:w.heap.size<=W3.heap.size:=V.out.size;have cm:Hid (∀w',Below W3.heap.size W3 w'->fE B d (.slice pl nl cl) (.slice (some ⟨gn,0,none⟩) nz cn) w'):=hid (λw' h=>(hD0.keep V.out).keep h);have b5:Hid (∀w',Below W3.heap.size W3 w'->bU w'):=hid (λw' h=>(hV.keep V.out).keep h);have CBy:Hid (∀(a b:Int) w',Calls Tryz.prog 49 #[.agg #[.string (bs s), .slice pl nl cl, .slice (some ⟨gn,0,none⟩) nz cn], .agg #[.int .i64 a, .int .i64 b]] w' λe w2=>e= .returned (.string (bs (dY s a b)))/\Below w'.heap.size w' w2):=hid (λa b w'=>zU s _ _ ⟨_,_,_,rfl⟩ ⟨_,_,_,rfl⟩ a b w' (by have:=hb.txt;omega));have ck': ∀j u,j<9->(jC y)[j]?=some u->W2.cell? ⟨gn,k*9+j,none⟩=some u:=λj u hj hu=>by
    exact bH (F.out j u hj hu) cb.out
  have y0:=ck' 0 _ (by omega) rfl;have y1:=ck' 1 _ (by omega) rfl;have y2:=ck' 2 _ (by omega) rfl;have y3:=ck' 3 _ (by omega) rfl;have y4:=ck' 4 _ (by omega) rfl;have y5:=ck' 5 _ (by omega) rfl;have y6:=ck' 6 _ (by omega) rfl;have y7:=ck' 7 _ (by omega) rfl;have y8:=ck' 8 _ (by omega) rfl;rw[bk] at y0 y1 y2 y3 y4 y5 y6 y7;rw[A] at y8;simp only[Nat.add_zero] at y0;have d2:W2.cell? ⟨D,2,none⟩=some (.slice (some ⟨gn,0,none⟩) nz cn):=(gJ bc).2.2.1;have ah:=hid (aJ bl bN);have bS:=hid (hT.kid bF);have cd:=hid (cp.symm.trans bI);have cE:=hlev.out;clear b1 b2 b3 b4 h1 h2 h3 h4 bc bh aD hz b6 ay bz A hx hy bk cp cA cw cG ck' bl bI hT hD0 hV;obtain⟨kd,ba⟩: ∃kd:Int,(if x.kind=3 then 6 else 5:Int)=kd:=⟨_,rfl⟩;obtain⟨xk,bT⟩: ∃xk:Int,(x.kind:Int)=xk:=⟨_,rfl⟩;have bq:aN s d (lv+1) k= .mk kd [] (gP s d.nodes x.kind x.kids) (x.kids.map (aN s d lv)):=by
    rw[<-ba];show aN s d (lv+1) k=_
    conv=>lhs;unfold aN
    rw[bF];simp only[];rw[if_neg h1,if_neg h4];rfl
  rw[bq];rw[bT] at bf ad H3 y0;have k1:(xk==1)=false:=aK.2 (by omega);have k4:(xk==4)=false:=aK.2 (by omega);have az:=hid (aJ bT ba);have b9:Hid (∀w',Below W3.heap.size W3 w'-> ∀q∈x.kids,Calls Tryz.prog 24 #[.agg #[.string (bs s), .slice pl nl cl, .slice (some ⟨gn,0,none⟩) nz cn], .int .i64 (q:Int), .int .i64 (lev+1)] w' (jN (aN s d lv q) w')):=hid (λw' P q L=>by obtain⟨⟨m',cx⟩,_⟩:=bS.out q L;exact IH B _ _ q m' (lev+1) w' cx (hid (by have:=hlev.out;omega)) (by omega) (cm.out w' P) (b5.out w' P));have bY:Hid (CS W3 Y 5 [] [] [] (.slice none 0 0) (.slice none 0 0) W4):=hid (by have:=CS.start (aB W3.heap.size W3) 5 [];rw[bB] at this;rw[<-aL];exact this);have hl1:decide ((32:Int)<lev)=false:=aH (by omega);have hl2:IntKind.i64.wrap (lev+1)=lev+1:=IntWalk.i64_in _ (by omega);have hDR3:D<W3.heap.size:=aF H3.out.1;have bN:=ah.out.2;have hmk0:(0:Int)<=(mk:Int):=by omega
  clear bq ba bT h1 h4 bF IH cE;go_enter Tryz.func24,Tryz.ntmps24;go_upto_region 1 with fail;clear bP bO ch bQ;go_upto_region 2 with fail;clear bf ce y0 y1 y2 y3 y4 y5 y6 y7 y8 d2;have cK:=hid aL;clear aL;go_upto_region 3 with fail
  first | rw[cK.out] | skip
  clear bB;obtain⟨⟨e0,e1,e2⟩,⟨x0,x6,x7,x8⟩,hr⟩:=ad.out W4 bZ.out;have hYl:=aF H4.out;obtain⟨c0,c1,c2,c3,f0,f1,f2,f3⟩:=bC H4.out;clear hr;obtain⟨W5,bj⟩: ∃W5,(W5=W4\/W5=W4.setCell ⟨Y,0,none⟩ (.int .i64 6))/\Hid (CS W3 Y kd [] [] [] (.slice none 0 0) (.slice none 0 0) W5)/\((xk==3)=true->W5=W4.setCell ⟨Y,0,none⟩ (.int .i64 6))/\((xk==3)=false->W5=W4):=by
    by_cases h3:xk=3
    · have cB:kd=6:=(by rw[<-az.out.2,if_pos (by have:=az.out.1;omega)]);refine⟨_, .inr rfl,hid ?_,λ_=>rfl,λe=>absurd h3 (aK.1 e)⟩;have h:=bY.out;refine⟨?_,bR.nil _ _,λe=>(by cases e),fJ.nil _ _ _,h.bel.setCell (p:=⟨Y,0,none⟩) h.new_ _,h.new_⟩;rw[cB];exact fO h.box 0 _
    · have cq:kd=5:=(by rw[<-az.out.2,if_neg (by have:=az.out.1;omega)]);exact⟨_, .inl rfl,by rw[cq];exact bY,λe=>absurd (eq_of_beq e) h3,λ_=>rfl⟩
  obtain⟨bX,F,bp,br⟩:=bj;have cg: ∀(b:Bool),(xk==3)=b->Hid (CS W3 Y kd [] [] [] (.slice none 0 0) (.slice none 0 0) (if b then W4.setCell ⟨Y,0,none⟩ (.int .i64 6) else W4)):=λb b7=>by
    cases b with
    | true=>rw[if_pos rfl,<-bp b7];exact F
    | false=>rw[if_neg (by simp),<-br b7];exact F
  clear bX F bp br;obtain⟨b3,cf⟩:=exQ (xk==3);have aT:=cg b3 cf;have cc:=hid cf;clear cg;cases b3 with
  | false =>
    rw[if_neg (by simp)] at aT;have F:=aT;go_upto_region 12 with fail;clear c0 c1 c2 c3 f0 f1 f2 f3;go_wp2_with fail;clear x0 x6 x7 x8 e0 e1 e2;go_loopw [50,12,13,14] (λs50 s12 s13 s14 wr=> ∃(i:Nat) (kv ov:Value),s50= .int .i64 (i:Int)/\i<=mk/\Hid (CS W3 Y kd [] (gP s d.nodes x.kind (x.kids.take i)) ((x.kids.take i).map (aN s d lv)) kv ov wr)) (λs50 _ _ _ _=>mk-(RowKit.intOf s50).toNat)
    case atStart=>exact⟨0, .slice none 0 0, .slice none 0 0,rfl,bM _,by rw[List.take_zero,Mw];first | exact F | exact hid (F.out.keep (aB _ _).drew)⟩
    case round=>
      clear F;obtain⟨i,kv,ov,rfl,T,F⟩:=hrel;obtain⟨⟨e0,e1,e2⟩,⟨x0,x6,x7,x8⟩,hr⟩:=ad.out wr F.out.bel;by_cases hil:i<mk
      · obtain⟨q,L⟩: ∃q,x.kids[i]?=some q:=⟨_,bE (by rw[ah.out.1];exact hil)⟩;have av:=aX L;obtain⟨gk,rfl,kc⟩:=cj.out wr (V.out.trans (F.out.bel.mono bt)) i q L;obtain⟨_,bL⟩:=bS.out q av;have bx:(i:Int)<(mk:Int):=(by omega);have dk:decide ((i:Int)<(mk:Int))=true:=aM bx;have ct:(0:Int)<=(i:Int):=(by omega);have cy:q<nz:=by have:=cd.out;omega
        have dq1:decide ((q:Int)<0)=false:=aH (by omega);have dq2:decide ((nz:Int)<=(q:Int))=false:=aH (by omega);have dq3:decide (nz<=q)=false:=aH (by omega);have cr:(0:Int)<=(q:Int):=(by omega);have cv:(q:Int)<(nz:Int):=(by omega);have bm:=hid (vU L);obtain⟨pa,ca,A⟩:=F.out.keys.slice;obtain⟨po,co,aa⟩:=F.out.its.slice;have aV:((x.kids.take i).map (aN s d lv)).length=i:=by rw[bK,cD];have:=ah.out.1;omega
        rw[aV] at aa;obtain⟨nk,I⟩:=exQ<|(gP s d.nodes x.kind (x.kids.take i)).length;have aP:nk<=131072:=by
          rw[<-I];unfold gP;split
          · rw[bK,cD];omega
          · exact bM _
        rw[I] at A;subst A aa;have bd:=hid I;have bJ:=hid av;obtain⟨yq,aS⟩: ∃yq,d.nodes[q]?=some yq:=⟨_,bE bL⟩;have bW:=hid aS;clear L av I aV aS;go_upto_if 70 with fail;go_cut [71,72,73,74,75,76,77,78,79,80,81,82,83,84,85,86,87,88,13,14] (λs71 s72 s73 s74 s75 s76 s77 s78 s79 s80 s81 s82 s83 s84 s85 s86 s87 s88 s13 s14 wx=> ∃kv',Hid (CS W3 Y kd [] (gP s d.nodes x.kind (x.kids.take (i+1))) ((x.kids.take i).map (aN s d lv)) kv' (.slice po i co) wx))
        case first=>
          have ar: ¬x.kind=3:=λe=>by have h1:=az.out.1;have h2:=aK.1 cc.out;omega
          have ak:Hid (CS W3 Y kd [] (gP s d.nodes x.kind (x.kids.take (i+1))) ((x.kids.take i).map (aN s d lv)) (.slice pa nk ca) (.slice po i co) wr):=hid (by have:=F.out;unfold gP at this ⊢;rw[if_neg ar] at this ⊢;exact this);clear ar;go_wp2_with fail;go_meet;exact⟨_,by first | exact ak | exact hid (ak.out.keep (aB _ _).drew)⟩
        case rest=>
          obtain⟨kv',ak⟩:=hcut;clear F bd aP x0 x6 x7 x8 e0 e1 e2 kc hr;obtain⟨W0,N⟩:=exQ<|wc.drew;have O:Below wc.heap.size wc W0:=by rw[<-N];exact(aB _ _).drew
          have r:=hid (ak.out.keep O);have C:((x.kids.take i).map (aN s d lv)++ [aN s d lv q]).length=i+1:=by rw[aW,bK,cD,dU];have:=ah.out.1;omega
          have al:((x.kids.take i).map (aN s d lv)).length<=4294967295:=by rw[bK,cD];omega
          have aj:=hid (aJ C al);clear C al O;go_upto_region 20 with fail;obtain⟨SA,U⟩: ∃S:World->Prop,(λw'=>(w'.cell? ⟨Y,3,none⟩=some (.slice po i co)/\w'.frozen? ⟨Y,3,none⟩=false)/\w'.cell? ⟨D,0,none⟩=some (.string (bs s))/\w'.cell? ⟨D,1,none⟩=some (.slice pl nl cl)/\w'.cell? ⟨D,2,none⟩=some (.slice (some ⟨gn,0,none⟩) nz cn))=S:=⟨_,rfl⟩;have ae:Hid (∀w',Below W0.heap.size W0 w'->SA w'):=hid (λw' hb=>by rw[<-U];obtain⟨⟨a3,a4,a5⟩,_,_⟩:=ad.out w' (aC r.out.bel hb);have q:=(r.out.keep hb).cells;exact⟨⟨q.2.2.2.1,q.2.2.2.2.2.2.2⟩,a3,a4,a5⟩);have aU:Hid (∀w' c',iK W0 Y kv'.ownBlock (aN s d lv q) ((x.kids.take i).map (aN s d lv)) (.slice po i co) 3 c' w'->SA w'):=hid (λw' c' hp=>by rw[<-U];obtain⟨q1,q2,q3,q4⟩:=hp;have a9:=r.out.box;have hn:=r.out.new_;have aE:Below (Y+1) W0 w':=q2;have e2:w'.heap[Y]?=_:=(aE.block Y (uG _)).trans a9;have e3: ∀o',w'.cell? ⟨D,o',none⟩=W0.cell? ⟨D,o',none⟩:=λo'=>aE.cell (p:=⟨D,o',none⟩) (by show D<Y+1;omega);obtain⟨⟨a3,a4,a5⟩,_,_⟩:=ad.out W0 r.out.bel;obtain⟨y0,y1,y2,y3,y4,y5,y6,y7⟩:=bC e2;exact⟨⟨y3,y7⟩,by rw[e3];exact a3,by rw[e3];exact a4,by rw[e3];exact a5⟩);have am:Tryz.prog.follows .mixedOrders=true:=(by kernel_rfl);refine lD am [some 89,some 90,some 91,some 92,some 93,some 94,some 95,some 96,some 97,some 98,none] [89,90,91,92,93,94,95,96,97,98] [6,7,8,10] 1000000 (λ_ _=>True) 101 rfl (by kernel_rfl) (by kernel_rfl) (by kernel_rfl) (λiz=>match iz with | 0=> .pointer (some ⟨Y,3,none⟩) | 1=> .slice po i co | 2=> .agg #[.string (bs s), .slice pl nl cl, .slice (some ⟨gn,0,none⟩) nz cn] | 3=> .int .i64 (q:Int) | 4=> .int .i64 lev | 5=> .int .i64 (lev+1) | 9=> .pointer (some ⟨Y,3,none⟩) | _=>undef) SA (iK W0 Y kv'.ownBlock (aN s d lv q) ((x.kids.take i).map (aN s d lv)) (.slice po i co)) (by rw[N];exact ae.out _ (aB _ _)) (by rw[N];exact aB _ _) ?_ ?_
          · intro dd a w' iq o' ho T o G t R' hR;have a6:iq<11:=(cJ.1 ho).1;have q2:a.tmps[2]?.getD undef= .int .i64 lev:=bA G 2 (by decide);have q3:a.tmps[3]?.getD undef= .pointer (some ⟨D,0,none⟩):=bA G 3 (by decide);have q8:a.tmps[8]?.getD undef= .pointer (some ⟨Y,0,none⟩):=bA G 8 (by decide);have q12:a.tmps[12]?.getD undef= .int .i64 (q:Int):=bA G 12 (by decide);have hc:=t.all [(0,89),(1,90),(2,91),(3,92),(4,93),(5,94),(9,98)] (by decide);dsimp only[fC] at hc;clear G;have ha:=o;have M:=ho;have aZ:iq=6\/iq=7\/iq=8\/iq=10\/iq=0\/iq=3\/iq=4\/iq=5\/iq=9\/iq=1\/iq=2:=(by omega);clear a6;rcases aZ with rfl|rfl|rfl|rfl|rfl|rfl|rfl|rfl|rfl|rfl|rfl<;>simp only[eC,dV,cH,cN] at ho<;>subst ho<;>(try simp[Region.binds] at o)
            · have c91:=t.g 2 91 rfl (by decide) (by decide) (by decide) (by simp[o]);have c92:=t.g 3 92 rfl (by decide) (by decide) (by decide) (by simp[o]);have c94:=t.g 5 94 rfl (by decide) (by decide) (by decide) (by simp[o]);have H:=t.at2 (j:=0) rfl T (.inl rfl);have hA:Below W0.heap.size W0 w':=H;go_simp;go_at_call 24;refine(b9.out _ (aC r.out.bel hA) q bJ.out).mono ?_;rintro e w5 ⟨⟨kv5,iv5,rfl,ao⟩,J⟩;have ai:=aC hA J;exact hR _ _ (t.eff2 (by kernel_rfl) (by decide) 0 M ha rfl T (.inl rfl) rfl (by decide) (λ_ _ _=>trivial) (λ_=>ae.out _ ai) ⟨kv5,iv5,rfl,ao.mono (λq L _=>aY hA.size L),ai⟩)
            · have E:dd 6=true:=(by simp[o]);have H:=t.at2 (j:=1) rfl T (.inr ⟨6,rfl,E⟩);obtain⟨kv5,iv5,ap,ao,J⟩:=H;have ap:a.tmps.getD 95 undef=vv (aN s d lv q) kv5 iv5:=ap;have c95:a.tmps[95]?.getD undef= .agg #[.int .i64 (aN s d lv q).kind, .string (bs (aN s d lv q).text),kv5,iv5]:=by rw[<-aO];exact ap
              have ai:=λob=>aC J (aI w' ob);go_simp;exact hR _ _ (t.eff2 (by kernel_rfl) (by decide) 1 M ha rfl T (.inr ⟨6,rfl,E⟩) rfl (by decide) (λ_ _ _=>trivial) (λ_=>ae.out _ (ai _)) ⟨w',kv5,iv5,ao,J,rfl,rfl⟩)
            · have c90:=t.g 1 90 rfl (by decide) (by decide) (by decide) (by simp[o]);have E:dd 7=true:=(by simp[o]);have H:=t.at2 (j:=2) rfl T (.inr ⟨7,rfl,E⟩);have c90':a.tmps.getD 90 undef= .slice po i co:=by rw[aO];exact c90
              exact iK.app (.tmp 90) (.tmp 96) rfl r.out H c90' rfl aj.out.2 (λv' w2 ag=>hR _ _ (t.eff2 (by kernel_rfl) (by decide) 2 M ha rfl T (.inr ⟨7,rfl,E⟩) rfl (by decide) (λ_ _ _=>trivial) (λ_=>aU.out _ _ ag) ag))
            · have c98:=t.g 9 98 rfl (by decide) (by decide) (by decide) (by simp[o]);have E:dd 8=true:=(by simp[o]);have H:=t.at2 (j:=3) rfl T (.inr ⟨8,rfl,E⟩);have au:iK W0 Y kv'.ownBlock (aN s d lv q) ((x.kids.take i).map (aN s d lv)) (.slice po i co) 3 (a.tmps.getD 97 undef) w':=H;have Z:=t.st T;rw[<-U] at Z;obtain⟨⟨x3,x3f⟩,_⟩:=Z;obtain⟨pz2,cz2,hz⟩:=au.1.slice;rw[aj.out.1] at hz;rw[hz] at au;have c97:a.tmps[97]?.getD undef= .slice pz2 (i+1) cz2:=by rw[<-aO];exact hz
              go_simp;exact hR undef _ (t.eff2 (by kernel_rfl) (by decide) 3 M ha rfl T (.inr ⟨8,rfl,E⟩) rfl (by decide) (λ_ _ _=>trivial) (λh=>absurd rfl h) ⟨_,_,au,rfl⟩)
            iterate 5 (go_simp;exact hR _ _ (t.pure (by kernel_rfl) M ha rfl (by decide) (by decide) (by decide) rfl))
            all_goals
              have Z:=t.early (f:=11) (by kernel_rfl) T;rw[<-U] at Z;obtain⟨⟨x3,x3f⟩,s0,s1,s2⟩:=Z;go_simp;exact hR _ _ (t.pure (by kernel_rfl) M ha rfl (by decide) (by decide) (by decide) rfl)
          intro v wz ax a2;obtain⟨ov2,Q⟩:=iK.fin r.out a2;have Q:Hid (CS W3 Y kd [] (gP s d.nodes x.kind (x.kids.take (i+1))) ((x.kids.take (i+1)).map (aN s d lv)) kv' ov2 wz):=hid (by
            have e:(x.kids.take (i+1)).map (aN s d lv)=(x.kids.take i).map (aN s d lv)++ [aN s d lv q]:=by rw[bm.out,mZ];rfl
            rw[e];exact Q)
          clear ax a2 aU ae U r N ak;simp only[cC,eJ,dO,eK];go_wp2_with fail;go_roundw
          case rel=>exact⟨i+1,kv',ov2,by go_num,by omega,by first | exact Q | exact hid (Q.out.keep (aB _ _).drew)⟩
          case measure=>simp[RowKit.intOf];omega
      · have dk:decide ((i:Int)<(mk:Int))=false:=aH (by omega);obtain rfl:i=mk:=(by omega);have aq:=F.out;rw[<-ah.out.1,List.take_length] at aq;have ab:=hid aq;clear aq;obtain⟨pa,ca,A⟩:=ab.out.keys.slice;obtain⟨po,co,aa⟩:=ab.out.its.slice;obtain⟨nk,I⟩:=exQ<|(gP s d.nodes x.kind x.kids).length;obtain⟨ni,a0⟩:=exQ<|(x.kids.map (aN s d lv)).length;rw[I] at A;rw[a0] at aa;subst A aa;have HP:Hid (jN (VT.mk kd [] (gP s d.nodes x.kind x.kids) (x.kids.map (aN s d lv))) w (.returned (.agg #[.int .i64 kd, .string (bs []), .slice pa nk ca, .slice po ni co])) (bG wr R kd [] (.slice pa nk ca) (.slice po ni co))):=hid (by refine⟨⟨_,_,rfl,?_⟩,pK (aC V.out ab.out.bel) (by omega)⟩;exact(ab.out.put (R:=R) bu).mono (λq L _=>aY V.out.size L));have a8:Hid ((bG wr R kd [] (.slice pa nk ca) (.slice po ni co)).heap[R]?=some (.cells #[.int .i64 kd, .string (bs []), .slice pa nk ca, .slice po ni co] 26)):=hid (rQ hr);obtain⟨r0,r1,r2,r3,f0,f1,f2,f3⟩:=bC hr;obtain⟨y0,y1,y2,y3,_⟩:=ab.out.cells;clear I a0 F hr;go_wp2_with fail;obtain⟨WF,af⟩:=exQ<|bG wr R kd [] (.slice pa nk ca) (.slice po ni co);rw[af] at HP a8;have an:(((wr.setCell ⟨R,0,none⟩ (.int .i64 kd)).setCell ⟨R,1,none⟩ (.string (bs []))).setCell ⟨R,2,none⟩ (.slice pa nk ca)).setCell ⟨R,3,none⟩ (.slice po ni co)=WF:=af
        first
          | rw[an]
          | (have a1:(((wr.setCell ⟨R,0,none⟩ (.int .i64 kd)).setCell ⟨R,1,none⟩ (.string ⟨#[]⟩)).setCell ⟨R,2,none⟩ (.slice pa nk ca)).setCell ⟨R,3,none⟩ (.slice po ni co)=WF:=af
             rw[a1])
        clear af an r0 r1 r2 r3 f0 f1 f2 f3 y0 y1 y2 y3;obtain⟨d0,d1,d2,d3,_⟩:=bC a8.out;refine bodyPost_ret (v:= .agg #[.int .i64 kd, .string (bs []), .slice pa nk ca, .slice po ni co]) ?_ rfl HP.out;simp[results,Tryz.results24,go_sem,d0,d1,d2,d3]
  | true=>
    rw[if_pos rfl] at aT;obtain⟨W5,bj⟩:=exQ<|W4.setCell ⟨Y,0,none⟩ (.int .i64 6);rw[bj] at aT;have F:=aT;go_upto_region 12 with fail;clear bj c0 c1 c2 c3 f0 f1 f2 f3 x0 x6 x7 x8 e0 e1 e2;obtain⟨⟨e0,e1,e2⟩,⟨x0,x6,x7,x8⟩,_⟩:=ad.out W5 F.out.bel;go_wp2_with fail;clear x0 x6 x7 x8 e0 e1 e2;go_loopw [50,12,13,14] (λs50 s12 s13 s14 wr=> ∃(i:Nat) (kv ov:Value),s50= .int .i64 (i:Int)/\i<=mk/\Hid (CS W3 Y kd [] (gP s d.nodes x.kind (x.kids.take i)) ((x.kids.take i).map (aN s d lv)) kv ov wr)) (λs50 _ _ _ _=>mk-(RowKit.intOf s50).toNat)
    case atStart=>exact⟨0, .slice none 0 0, .slice none 0 0,rfl,bM _,by rw[List.take_zero,Mw];first | exact F | exact hid (F.out.keep (aB _ _).drew)⟩
    case round=>
      clear F;obtain⟨i,kv,ov,rfl,T,F⟩:=hrel;obtain⟨⟨e0,e1,e2⟩,⟨x0,x6,x7,x8⟩,hr⟩:=ad.out wr F.out.bel;by_cases hil:i<mk
      · obtain⟨q,L⟩: ∃q,x.kids[i]?=some q:=⟨_,bE (by rw[ah.out.1];exact hil)⟩;have av:=aX L;obtain⟨gk,rfl,kc⟩:=cj.out wr (V.out.trans (F.out.bel.mono bt)) i q L;obtain⟨_,bL⟩:=bS.out q av;have bx:(i:Int)<(mk:Int):=(by omega);have dk:decide ((i:Int)<(mk:Int))=true:=aM bx;have ct:(0:Int)<=(i:Int):=(by omega);have cy:q<nz:=by have:=cd.out;omega
        have dq1:decide ((q:Int)<0)=false:=aH (by omega);have dq2:decide ((nz:Int)<=(q:Int))=false:=aH (by omega);have dq3:decide (nz<=q)=false:=aH (by omega);have cr:(0:Int)<=(q:Int):=(by omega);have cv:(q:Int)<(nz:Int):=(by omega);have bm:=hid (vU L);obtain⟨pa,ca,A⟩:=F.out.keys.slice;obtain⟨po,co,aa⟩:=F.out.its.slice;have aV:((x.kids.take i).map (aN s d lv)).length=i:=by rw[bK,cD];have:=ah.out.1;omega
        rw[aV] at aa;obtain⟨nk,I⟩:=exQ<|(gP s d.nodes x.kind (x.kids.take i)).length;have aP:nk<=131072:=by
          rw[<-I];unfold gP;split
          · rw[bK,cD];omega
          · exact bM _
        rw[I] at A;subst A aa;have bd:=hid I;have bJ:=hid av;obtain⟨yq,aS⟩: ∃yq,d.nodes[q]?=some yq:=⟨_,bE bL⟩;have bW:=hid aS;clear L av I aV aS;go_upto_if 70 with fail;go_cut [71,72,73,74,75,76,77,78,79,80,81,82,83,84,85,86,87,88,13,14] (λs71 s72 s73 s74 s75 s76 s77 s78 s79 s80 s81 s82 s83 s84 s85 s86 s87 s88 s13 s14 wx=> ∃kv',Hid (CS W3 Y kd [] (gP s d.nodes x.kind (x.kids.take (i+1))) ((x.kids.take i).map (aN s d lv)) kv' (.slice po i co) wx))
        case first=>
          have ar:x.kind=3:=by have h1:=az.out.1;have h2:=eq_of_beq cc.out;omega
          obtain⟨qkf,bb⟩:=exQ<|yq.kf;obtain⟨qkt,aQ⟩:=exQ<|yq.kt;obtain⟨qs,bg⟩:=exQ<|dY s qkf qkt;obtain⟨⟨key,ke⟩,bw⟩:=exQ<|jO qs;have bn:cX s d.nodes q=key:=by
            unfold cX;rw[bW.out];simp only[];rw[bb,aQ,bg,bw]
          have CBq:=hid (λw'=>CBy.out qkf qkt w');rw[bg] at CBq;have bo:=Eh s qkf qkt;rw[bg] at bo;obtain⟨W0,N⟩:=exQ<|wr.drew;have O:Below wr.heap.size wr W0:=by rw[<-N];exact(aB _ _).drew
          have bV:Hid (Below W3.heap.size W3 W0):=hid (aC F.out.bel O);have CKq:Hid (∀w',Below W0.heap.size W0 w'->Calls Tryz.prog 52 #[.string (bs qs)] w' λe w2=>e= .returned (.tuple #[.string (bs key), .int .i64 ke])/\Below w'.heap.size w' w2):=hid (λw' P=>by have:=Ct qs w' (by have:=hb.txt;omega) (b5.out w' (aC bV.out P));rw[bw] at this;exact this);have cu:Hid (∀w',Below W0.heap.size W0 w'->w'.cell? ⟨D,0,none⟩=some (.string (bs s))/\w'.cell? ⟨D,1,none⟩=some (.slice pl nl cl)/\w'.cell? ⟨D,2,none⟩=some (.slice (some ⟨gn,0,none⟩) nz cn)/\w'.cell? ⟨gn,q*9+4,none⟩=some (.int .i64 qkf)/\w'.cell? ⟨gn,q*9+5,none⟩=some (.int .i64 qkt)):=hid (λw' P=>by obtain⟨⟨a3,a4,a5⟩,_,_⟩:=ad.out w' (aC bV.out P);obtain⟨n4,n5⟩:=bi.out w' (aC V.out (aC bV.out P)) q yq bW.out;rw[bb] at n4;rw[aQ] at n5;exact⟨a3,a4,a5,n4,n5⟩);have cz:Hid (CS W3 Y kd [] ((x.kids.take i).map (cX s d.nodes)) ((x.kids.take i).map (aN s d lv)) (.slice pa nk ca) (.slice po i co) wr):=hid (by have:=F.out;unfold gP at this;rw[if_pos ar] at this;exact this);have al:((x.kids.take i).map (cX s d.nodes)).length<=4294967295:=by rw[bK,cD];omega
          have C:((x.kids.take i).map (cX s d.nodes)++ [key]).length=nk+1:=by
            have:=bd.out;unfold gP at this;rw[if_pos ar] at this;rw[aW,this,dU]
          have b8:=hid (aJ ar bn);have aj:=hid (aJ C al);clear ar bb aQ bg bw bn C al O bo;go_upto_region 18 with fail;clear x0 x6 x7 x8 e0 e1 e2 kc hr;have am:Tryz.prog.follows .mixedOrders=true:=(by kernel_rfl);refine oH am [72,73,74,75,76,77,78,79,80,71,81,82,13,14] 101 rfl (by kernel_rfl) (by kernel_rfl) (λiz=>match iz with | 0=> .agg #[.string (bs s), .slice pl nl cl, .slice (some ⟨gn,0,none⟩) nz cn] | 1=> .pointer (some ⟨D,2,none⟩) | 2=> .slice (some ⟨gn,0,none⟩) nz cn | 3=> .int .i64 (q:Int) | 4=> .pointer (some ⟨gn,q*9,none⟩) | 5=> .pointer (some ⟨gn,q*9+4,none⟩) | 6=> .agg #[.int .i64 qkf, .int .i64 qkt] | 7=> .string (bs qs) | 8=> .tuple #[.string (bs key), .int .i64 ke] | 9=> .tuple #[.string (bs key), .int .i64 ke] | 10=> .string (bs key) | 11=> .int .i64 ke | 12=> .string (bs key) | 13=> .int .i64 ke | _=>undef) (λw'=>Below W0.heap.size W0 w') (by rw[N];exact aB _ _) ?_ ?_
          · intro dd a w' iq o' ho T o G t R' hR;have a6:iq<14:=(cJ.1 ho).1;have q3:a.tmps[3]?.getD undef= .pointer (some ⟨D,0,none⟩):=bA G 3 (by decide);have q12:a.tmps[12]?.getD undef= .int .i64 (q:Int):=bA G 12 (by decide);have hc:=t.all [(9,71),(0,72),(1,73),(2,74),(3,75),(4,76),(5,77),(6,78),(7,79),(8,80),(10,81),(11,82)] (by decide);dsimp only[fC] at hc;clear G;obtain⟨s0,s1,s2,q4,q5⟩:=cu.out _ t.st;have aZ:iq=7\/iq=8\/iq=0\/iq=1\/iq=2\/iq=3\/iq=4\/iq=5\/iq=6\/iq=9\/iq=10\/iq=11\/iq=12\/iq=13:=(by omega);clear a6;rcases aZ with rfl|rfl|rfl|rfl|rfl|rfl|rfl|rfl|rfl|rfl|rfl|rfl|rfl|rfl<;>simp only[eC,dV,cH,cN] at ho<;>subst ho<;>(try simp[Region.binds] at o)
            · have c72:=t.g 0 72 rfl (by simp[o]);have c78:=t.g 6 78 rfl (by simp[o]);refine fB (lE rfl) ?_;go_simp;go_at_call 49;refine(CBq.out _).mono ?_;rintro e w5 ⟨rfl,J⟩;exact hR _ _ (t.step (by decide) rfl rfl (aC t.st J))
            · have c79:=t.g 7 79 rfl (by simp[o]);refine fB (lE rfl) ?_;go_simp;go_at_call 52;refine(CKq.out _ t.st).mono ?_;rintro e w5 ⟨rfl,J⟩;exact hR _ _ (t.step (by decide) rfl rfl (aC t.st J))
            iterate 12 (refine fB (lE rfl) ?_;go_simp;exact hR _ _ (t.step (by decide) rfl (by first | rfl | simp) t.st))
          intro v wz ax hS;have hv:=oF (l:= [72,73,74,75,76,77,78,79,80,71,81,82,13,14]) ax (by decide);dsimp only[lS] at hv;simp only[cC,eJ,dO,eK,hv];clear ax hv;have HB1:=hid hS;have aw:Hid (CS W3 Y kd [] ((x.kids.take i).map (cX s d.nodes)) ((x.kids.take i).map (aN s d lv)) (.slice pa nk ca) (.slice po i co) wz):=hid ((cz.out.keep (show Below wr.heap.size wr W0 from by rw[<-N];exact(aB _ _).drew)).keep hS);clear hS;obtain⟨c0,c1,c2,c3,f0,f1,f2,f3⟩:=aw.out.cells;have cs:=aF aw.out.box;go_wp2_with (at_builtin;refine wpList_step λK hK=>?_;rw[if_pos (by rfl)];refine mW.app (W:=W3) (W0:=wz) (Y:=Y) (key:=key) (.tmp 84) (.tmp 86) rfl aw.out ⟨wz,aB _ _,rfl,rfl⟩ rfl rfl aj.out.2 (λv1 w7 ag=>?_);have b0:=hid ag;obtain⟨pz2,cz2,hz⟩:=ag.1.slice;rw[aj.out.1] at hz;subst hz;obtain⟨c20,c21,c22,c23,f20,f21,f22,f23⟩:=bC ((b0.out.2.2.2.1 Y cs aw.out.off).trans aw.out.box);clear ag c0 c1 c2 c3 f0 f1 f2 f3;refine hK _ _ ?_);obtain⟨kv2,ci⟩:=mW.fin (c:=undef) (w':=w7.setCell ⟨Y,2,none⟩ (.slice pz2 (nk+1) cz2)) aw.out ⟨_,_,b0.out,rfl⟩;have Q:Hid (CS W3 Y kd [] (gP s d.nodes x.kind (x.kids.take (i+1))) ((x.kids.take i).map (aN s d lv)) kv2 (.slice po i co) (w7.setCell ⟨Y,2,none⟩ (.slice pz2 (nk+1) cz2))):=hid (by unfold gP;rw[if_pos b8.out.1,bm.out,mZ];show CS W3 Y kd [] (_++ [cX s d.nodes q]) _ _ _ _;rw[b8.out.2];exact ci);clear ci;go_wp2_with fail;go_meet;exact⟨_,by first | exact Q | exact hid (Q.out.keep (aB _ _).drew)⟩
        case rest=>
          obtain⟨kv',ak⟩:=hcut;clear F bd aP x0 x6 x7 x8 e0 e1 e2 kc hr;obtain⟨W0,N⟩:=exQ<|wc.drew;have O:Below wc.heap.size wc W0:=by rw[<-N];exact(aB _ _).drew
          have r:=hid (ak.out.keep O);have C:((x.kids.take i).map (aN s d lv)++ [aN s d lv q]).length=i+1:=by rw[aW,bK,cD,dU];have:=ah.out.1;omega
          have al:((x.kids.take i).map (aN s d lv)).length<=4294967295:=by rw[bK,cD];omega
          have aj:=hid (aJ C al);clear C al O;go_upto_region 20 with fail;obtain⟨SA,U⟩: ∃S:World->Prop,(λw'=>(w'.cell? ⟨Y,3,none⟩=some (.slice po i co)/\w'.frozen? ⟨Y,3,none⟩=false)/\w'.cell? ⟨D,0,none⟩=some (.string (bs s))/\w'.cell? ⟨D,1,none⟩=some (.slice pl nl cl)/\w'.cell? ⟨D,2,none⟩=some (.slice (some ⟨gn,0,none⟩) nz cn))=S:=⟨_,rfl⟩;have ae:Hid (∀w',Below W0.heap.size W0 w'->SA w'):=hid (λw' hb=>by rw[<-U];obtain⟨⟨a3,a4,a5⟩,_,_⟩:=ad.out w' (aC r.out.bel hb);have q:=(r.out.keep hb).cells;exact⟨⟨q.2.2.2.1,q.2.2.2.2.2.2.2⟩,a3,a4,a5⟩);have aU:Hid (∀w' c',iK W0 Y kv'.ownBlock (aN s d lv q) ((x.kids.take i).map (aN s d lv)) (.slice po i co) 3 c' w'->SA w'):=hid (λw' c' hp=>by rw[<-U];obtain⟨q1,q2,q3,q4⟩:=hp;have a9:=r.out.box;have hn:=r.out.new_;have aE:Below (Y+1) W0 w':=q2;have e2:w'.heap[Y]?=_:=(aE.block Y (uG _)).trans a9;have e3: ∀o',w'.cell? ⟨D,o',none⟩=W0.cell? ⟨D,o',none⟩:=λo'=>aE.cell (p:=⟨D,o',none⟩) (by show D<Y+1;omega);obtain⟨⟨a3,a4,a5⟩,_,_⟩:=ad.out W0 r.out.bel;obtain⟨y0,y1,y2,y3,y4,y5,y6,y7⟩:=bC e2;exact⟨⟨y3,y7⟩,by rw[e3];exact a3,by rw[e3];exact a4,by rw[e3];exact a5⟩);have am:Tryz.prog.follows .mixedOrders=true:=(by kernel_rfl);refine lD am [some 89,some 90,some 91,some 92,some 93,some 94,some 95,some 96,some 97,some 98,none] [89,90,91,92,93,94,95,96,97,98] [6,7,8,10] 1000000 (λ_ _=>True) 101 rfl (by kernel_rfl) (by kernel_rfl) (by kernel_rfl) (λiz=>match iz with | 0=> .pointer (some ⟨Y,3,none⟩) | 1=> .slice po i co | 2=> .agg #[.string (bs s), .slice pl nl cl, .slice (some ⟨gn,0,none⟩) nz cn] | 3=> .int .i64 (q:Int) | 4=> .int .i64 lev | 5=> .int .i64 (lev+1) | 9=> .pointer (some ⟨Y,3,none⟩) | _=>undef) SA (iK W0 Y kv'.ownBlock (aN s d lv q) ((x.kids.take i).map (aN s d lv)) (.slice po i co)) (by rw[N];exact ae.out _ (aB _ _)) (by rw[N];exact aB _ _) ?_ ?_
          · intro dd a w' iq o' ho T o G t R' hR;have a6:iq<11:=(cJ.1 ho).1;have q2:a.tmps[2]?.getD undef= .int .i64 lev:=bA G 2 (by decide);have q3:a.tmps[3]?.getD undef= .pointer (some ⟨D,0,none⟩):=bA G 3 (by decide);have q8:a.tmps[8]?.getD undef= .pointer (some ⟨Y,0,none⟩):=bA G 8 (by decide);have q12:a.tmps[12]?.getD undef= .int .i64 (q:Int):=bA G 12 (by decide);have hc:=t.all [(0,89),(1,90),(2,91),(3,92),(4,93),(5,94),(9,98)] (by decide);dsimp only[fC] at hc;clear G;have ha:=o;have M:=ho;have aZ:iq=6\/iq=7\/iq=8\/iq=10\/iq=0\/iq=3\/iq=4\/iq=5\/iq=9\/iq=1\/iq=2:=(by omega);clear a6;rcases aZ with rfl|rfl|rfl|rfl|rfl|rfl|rfl|rfl|rfl|rfl|rfl<;>simp only[eC,dV,cH,cN] at ho<;>subst ho<;>(try simp[Region.binds] at o)
            · have c91:=t.g 2 91 rfl (by decide) (by decide) (by decide) (by simp[o]);have c92:=t.g 3 92 rfl (by decide) (by decide) (by decide) (by simp[o]);have c94:=t.g 5 94 rfl (by decide) (by decide) (by decide) (by simp[o]);have H:=t.at2 (j:=0) rfl T (.inl rfl);have hA:Below W0.heap.size W0 w':=H;go_simp;go_at_call 24;refine(b9.out _ (aC r.out.bel hA) q bJ.out).mono ?_;rintro e w5 ⟨⟨kv5,iv5,rfl,ao⟩,J⟩;have ai:=aC hA J;exact hR _ _ (t.eff2 (by kernel_rfl) (by decide) 0 M ha rfl T (.inl rfl) rfl (by decide) (λ_ _ _=>trivial) (λ_=>ae.out _ ai) ⟨kv5,iv5,rfl,ao.mono (λq L _=>aY hA.size L),ai⟩)
            · have E:dd 6=true:=(by simp[o]);have H:=t.at2 (j:=1) rfl T (.inr ⟨6,rfl,E⟩);obtain⟨kv5,iv5,ap,ao,J⟩:=H;have ap:a.tmps.getD 95 undef=vv (aN s d lv q) kv5 iv5:=ap;have c95:a.tmps[95]?.getD undef= .agg #[.int .i64 (aN s d lv q).kind, .string (bs (aN s d lv q).text),kv5,iv5]:=by rw[<-aO];exact ap
              have ai:=λob=>aC J (aI w' ob);go_simp;exact hR _ _ (t.eff2 (by kernel_rfl) (by decide) 1 M ha rfl T (.inr ⟨6,rfl,E⟩) rfl (by decide) (λ_ _ _=>trivial) (λ_=>ae.out _ (ai _)) ⟨w',kv5,iv5,ao,J,rfl,rfl⟩)
            · have c90:=t.g 1 90 rfl (by decide) (by decide) (by decide) (by simp[o]);have E:dd 7=true:=(by simp[o]);have H:=t.at2 (j:=2) rfl T (.inr ⟨7,rfl,E⟩);have c90':a.tmps.getD 90 undef= .slice po i co:=by rw[aO];exact c90
              exact iK.app (.tmp 90) (.tmp 96) rfl r.out H c90' rfl aj.out.2 (λv' w2 ag=>hR _ _ (t.eff2 (by kernel_rfl) (by decide) 2 M ha rfl T (.inr ⟨7,rfl,E⟩) rfl (by decide) (λ_ _ _=>trivial) (λ_=>aU.out _ _ ag) ag))
            · have c98:=t.g 9 98 rfl (by decide) (by decide) (by decide) (by simp[o]);have E:dd 8=true:=(by simp[o]);have H:=t.at2 (j:=3) rfl T (.inr ⟨8,rfl,E⟩);have au:iK W0 Y kv'.ownBlock (aN s d lv q) ((x.kids.take i).map (aN s d lv)) (.slice po i co) 3 (a.tmps.getD 97 undef) w':=H;have Z:=t.st T;rw[<-U] at Z;obtain⟨⟨x3,x3f⟩,_⟩:=Z;obtain⟨pz2,cz2,hz⟩:=au.1.slice;rw[aj.out.1] at hz;rw[hz] at au;have c97:a.tmps[97]?.getD undef= .slice pz2 (i+1) cz2:=by rw[<-aO];exact hz
              go_simp;exact hR undef _ (t.eff2 (by kernel_rfl) (by decide) 3 M ha rfl T (.inr ⟨8,rfl,E⟩) rfl (by decide) (λ_ _ _=>trivial) (λh=>absurd rfl h) ⟨_,_,au,rfl⟩)
            iterate 5 (go_simp;exact hR _ _ (t.pure (by kernel_rfl) M ha rfl (by decide) (by decide) (by decide) rfl))
            all_goals
              have Z:=t.early (f:=11) (by kernel_rfl) T;rw[<-U] at Z;obtain⟨⟨x3,x3f⟩,s0,s1,s2⟩:=Z;go_simp;exact hR _ _ (t.pure (by kernel_rfl) M ha rfl (by decide) (by decide) (by decide) rfl)
          intro v wz ax a2;obtain⟨ov2,Q⟩:=iK.fin r.out a2;have Q:Hid (CS W3 Y kd [] (gP s d.nodes x.kind (x.kids.take (i+1))) ((x.kids.take (i+1)).map (aN s d lv)) kv' ov2 wz):=hid (by
            have e:(x.kids.take (i+1)).map (aN s d lv)=(x.kids.take i).map (aN s d lv)++ [aN s d lv q]:=by rw[bm.out,mZ];rfl
            rw[e];exact Q)
          clear ax a2 aU ae U r N ak;simp only[cC,eJ,dO,eK];go_wp2_with fail;go_roundw
          case rel=>exact⟨i+1,kv',ov2,by go_num,by omega,by first | exact Q | exact hid (Q.out.keep (aB _ _).drew)⟩
          case measure=>simp[RowKit.intOf];omega
      · have dk:decide ((i:Int)<(mk:Int))=false:=aH (by omega);obtain rfl:i=mk:=(by omega);have aq:=F.out;rw[<-ah.out.1,List.take_length] at aq;have ab:=hid aq;clear aq;obtain⟨pa,ca,A⟩:=ab.out.keys.slice;obtain⟨po,co,aa⟩:=ab.out.its.slice;obtain⟨nk,I⟩:=exQ<|(gP s d.nodes x.kind x.kids).length;obtain⟨ni,a0⟩:=exQ<|(x.kids.map (aN s d lv)).length;rw[I] at A;rw[a0] at aa;subst A aa;have HP:Hid (jN (VT.mk kd [] (gP s d.nodes x.kind x.kids) (x.kids.map (aN s d lv))) w (.returned (.agg #[.int .i64 kd, .string (bs []), .slice pa nk ca, .slice po ni co])) (bG wr R kd [] (.slice pa nk ca) (.slice po ni co))):=hid (by refine⟨⟨_,_,rfl,?_⟩,pK (aC V.out ab.out.bel) (by omega)⟩;exact(ab.out.put (R:=R) bu).mono (λq L _=>aY V.out.size L));have a8:Hid ((bG wr R kd [] (.slice pa nk ca) (.slice po ni co)).heap[R]?=some (.cells #[.int .i64 kd, .string (bs []), .slice pa nk ca, .slice po ni co] 26)):=hid (rQ hr);obtain⟨r0,r1,r2,r3,f0,f1,f2,f3⟩:=bC hr;obtain⟨y0,y1,y2,y3,_⟩:=ab.out.cells;clear I a0 F hr;go_wp2_with fail;obtain⟨WF,af⟩:=exQ<|bG wr R kd [] (.slice pa nk ca) (.slice po ni co);rw[af] at HP a8;have an:(((wr.setCell ⟨R,0,none⟩ (.int .i64 kd)).setCell ⟨R,1,none⟩ (.string (bs []))).setCell ⟨R,2,none⟩ (.slice pa nk ca)).setCell ⟨R,3,none⟩ (.slice po ni co)=WF:=af
        first
          | rw[an]
          | (have a1:(((wr.setCell ⟨R,0,none⟩ (.int .i64 kd)).setCell ⟨R,1,none⟩ (.string ⟨#[]⟩)).setCell ⟨R,2,none⟩ (.slice pa nk ca)).setCell ⟨R,3,none⟩ (.slice po ni co)=WF:=af
             rw[a1])
        clear af an r0 r1 r2 r3 f0 f1 f2 f3 y0 y1 y2 y3;obtain⟨d0,d1,d2,d3,_⟩:=bC a8.out;refine bodyPost_ret (v:= .agg #[.int .i64 kd, .string (bs []), .slice pa nk ca, .slice po ni co]) ?_ rfl HP.out;simp[results,Tryz.results24,go_sem,d0,d1,d2,d3]
theorem Mx (s:aA) (d:cF) (hb:rT s d) (hi64: ∀l∈d.lines,l.ind<=1099511627776): ∀lv,zV s d lv
 | 0=>λ_ _ _ _ _ _ _ h=>h.elim
 | lv+1=>λB lvv nv k m lev w hT hlev hlv hD hV=>by
  obtain⟨x,hx⟩: ∃x,d.nodes[k]?=some x:=by obtain⟨x,hx,_⟩:=hT;exact⟨x,hx⟩
  have IH:=Mx s d hb hi64 lv;by_cases h1:x.kind=1
  ·exact aAt s d hb hi64 lv IH B lvv nv k m lev w hT hlev hlv hD hV x hx h1
  ·by_cases h4:x.kind=4
   ·exact aAu s d hb hi64 lv IH B lvv nv k m lev w hT hlev hlv hD hV x hx h4
   ·exact aAv s d hb hi64 lv IH B lvv nv k m lev w hT hlev hlv hD hV x hx h1 h4
end Go.Proofs.YtaifnmjjpddikaaGreatDoor
