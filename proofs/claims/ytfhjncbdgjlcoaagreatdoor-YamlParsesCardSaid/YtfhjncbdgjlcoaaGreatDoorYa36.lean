import Derived.Test.YtfhjncbdgjlcoaaGreatDoorYa34
import Derived.Test.YtfhjncbdgjlcoaaGreatDoorYa35
set_option maxRecDepth 100000
set_option maxHeartbeats 8000000
set_option linter.unusedVariables false
set_option linter.unusedSimpArgs false
namespace Go.Proofs.YtfhjncbdgjlcoaaGreatDoor
section
open Go.RowKit
open Go.Lib hiding intOf
theorem Oh (w0:World) (P:Nat) (txt:aA) (sp:List (Nat×Nat)) (hsp0:eR txt sp) (hs:txt.length<=65536) (hn:sp.length<=131072) (hV:bU w0) (HRd:Hid uW) (HKy:Hid uX) (lv:Nat) (hlv:lv<=32) (V:YB) (hVG:lv≠0->iV txt sp V) (IH: ∀m,lv=m+1->wN 40 w0 P txt sp V m):wN 21 w0 P txt sp (oE txt sp V lv) lv:=by
 intro Pr k kf kt st a w h c d b;exact aBs w0 P txt sp hsp0 hs hn hV HRd HKy lv hlv V hVG IH Pr k kf kt st a w h c d b
theorem Oi (w0:World) (P:Nat) (txt:aA) (sp:List (Nat×Nat)) (hsp0:eR txt sp) (hs:txt.length<=65536) (hn:sp.length<=131072) (hV:bU w0) (HRd:Hid uW) (HKy:Hid uX): ∀(lv:Nat),lv<=32->wN 21 w0 P txt sp (tA txt sp lv) lv
 | 0,hl=>Oh w0 P txt sp hsp0 hs hn hV HRd HKy 0 hl _ (λh=>absurd rfl h) (λm h=>by omega)
 | lv+1,hl=>Oh w0 P txt sp hsp0 hs hn hV HRd HKy (lv+1) hl _ (λ_=>Ew hsp0 (tB hsp0 lv) lv) (λm h=>by obtain rfl:m=lv:=a_;exact aAS w0 P txt sp hsp0 hs hn hV HRd m a_ _ (tB hsp0 m) (Oi w0 P txt sp hsp0 hs hn hV HRd HKy m a_))
theorem YK.one {T:TypeId}{Pr:aJ}{w0 w:World}{P:Nat}{l:aA}{sp:List (Nat×Nat)}{lines:List aP}{z:List YN}{tot:Nat}{a er:Int}{sv lv nv:Value} (h:YK T Pr w0 P l sp lines z tot a er sv lv nv w) (hz:z= []):
  YK T Pr w0 P l sp lines [((⟨1,0,0,0,0,0,(l.length:Int),(l.length:Int),[]⟩:bA),())] tot a er sv lv (.slice (some ⟨w.heap.size,0,none⟩) 1 1) ((w.alloc (.cells #[(1:Int),(0:Int),(0:Int),(0:Int),(0:Int),(0:Int),l.length,l.length,()] 45)).setCell ⟨P,3,none⟩ (.slice (some ⟨w.heap.size,0,none⟩) 1 1)):=by
 subst hz;have b:=aL w (.cells #[(1:Int),(0:Int),(0:Int),(0:Int),(0:Int),(0:Int),l.length,l.length,()] 45);exact h.node (nv':= .slice (some ⟨w.heap.size,0,none⟩) 1 1) (x:=(⟨1,0,0,0,0,0,(l.length:Int),(l.length:Int),[]⟩:bA)) rfl (aD _) ⟨rfl, .inr ⟨w.heap.size,1,_,rfl,h.bel.size,heap_alloc_new w _,aD _,b_,rfl,rfl⟩⟩ ⟨b.os,b.tape,b.output,b.size,λi c _=>b.block i c⟩ (.inr rfl)
theorem aBz (l:aA) (w:World) (hV:bU w) (HRd:Hid uW) (HKy:Hid uX):
  Calls Tryz.prog 6 #[bs l] w (Bs l (pF l) w):=qg
def uY (w:World) (p:Option Addr) (ls:List aP):Prop:= ∀k r,ls[k]?=some r-> ∃g,p=some ⟨g,0,none⟩/\ ∀i u,i<10->(rA r)[i]?=some u->w.cell? ⟨g,k*10+i,none⟩=some u
def uZ (w:World) (p:Option Addr) (ns:List bA):Prop:= ∀k x,ns[k]?=some x-> ∃g kv,p=some ⟨g,0,none⟩/\qS w kv x.kids/\ ∀i u,i<9->(jX (x,kv))[i]?=some u->w.cell? ⟨g,k*9+i,none⟩=some u
section
variable {w w':World}{p:Option Addr}
theorem uY.keep {ls:List aP} (h:uY w p ls) (hb:Below w.heap.size w w'):uY w' p ls:=λk r b=>by
 obtain⟨g,e,a⟩:=h k r b;exact⟨g,e,λi u c d=>gM (a i u c d) hb⟩
theorem uZ.keep {ns:List bA} (h:uZ w p ns) (hb:Below w.heap.size w w'):uZ w' p ns:=λk r b=>by
 obtain⟨g,kv,e,f,a⟩:=h k r b;exact⟨g,kv,e,f.keep hb,λi u c d=>gM (a i u c d) hb⟩
theorem qS.cellsY {n c:Nat}{l:List Nat} (h:qS w (.slice p n c) l) (hb:Below w.heap.size w w') {j:Nat}{k:Nat} (hj:l[j]?=some k): ∃g,p=some ⟨g,0,none⟩/\w'.cell? ⟨g,j,none⟩=some (.int .i64 (k:Int)):=by
 obtain⟨p',c',e,h⟩:=h.keep hb;injection e with e1 e2 e3;subst e1;exact h j k hj
end
theorem aBA {B:Nat}{l:List Nat}{v:Value}{w:World} (h:w.ownsRow B 3 1 v l.length (dJ l)):qS w v l:=by
 have c:=h;rcases h.2 with⟨e,d⟩ | ⟨g,b,cur,rfl,_⟩
 ·exact⟨none,0,by rw[e,d],λj k a=>by have:=(aR.1 a).1;omega⟩
 ·refine⟨_,b,rfl,λj k a=>⟨g,rfl,?_⟩⟩;have hl:=(aR.1 a).1;rw[World.ownsRow.cellAt c _ a_,dJ,dE,a];rfl
theorem eD.read {B:Nat}{d:gD}{lv nv:Value}{w:World} (h:eD B d lv nv w): ∃p1 c1 p2 c2,lv= .slice p1 d.lines.length c1/\nv= .slice p2 d.nodes.length c2/\uY w p1 d.lines/\uZ w p2 d.nodes:=by
 obtain⟨z,A,l,j⟩:=h;obtain⟨p1,c1,e1,s⟩: ∃p1 c1,lv= .slice p1 d.lines.length c1/\uY w p1 d.lines:=by
  rcases l.2 with⟨g1,g2⟩ | ⟨g,a,n,g1,_⟩
  ·exact⟨none,0,by rw[g1,g2],λk r b=>by have:=(aR.1 b).1;omega⟩
  ·refine⟨_,a,g1,λk r b=>⟨g,rfl,λi u q f=>?_⟩⟩;have s:=(aR.1 b).1;rw[g1] at l;rw[World.ownsRow.cellAt l _ a_,gK,pG _ 10 En d.lines k r b i q,f]
 have c:z.length=d.nodes.length:=by rw[<-A,bR]
 obtain⟨p2,c2,e2,C⟩: ∃p2 c2,nv= .slice p2 d.nodes.length c2/\uZ w p2 d.nodes:=by
  rcases j.row.2 with⟨g1,g2⟩ | ⟨g,a,n,g1,_⟩
  ·exact⟨none,0,by rw[g1,<-c,g2],λk r b=>by have:=(aR.1 b).1;omega⟩
  ·refine⟨_,a,by rw[<-c];exact g1,λk x o=>?_⟩;have s:=(aR.1 o).1;obtain⟨y,m⟩: ∃y,z[k]?=some y:=⟨_,bC a_⟩;have e:y.1=x:=by
    rw[<-A,dE,m] at o;exact aV o
   have v:=aBA (j.kids y (bD m));rw[e] at v;refine⟨g,y.2,rfl,v,λi u q f=>?_⟩;rw[g1] at j;exact(j.at_ m i q (by rw[<-e] at f;exact f)).1
 exact⟨p1,c1,p2,c2,e1,e2,s,C⟩
def tG (O1 O2:Obj) (w wr:World):Prop:=Below w.heap.size w wr/\wr.heap[w.heap.size]?=some O1/\wr.heap[w.heap.size+1]?=some O2
theorem tG.first (O1 O2:Obj) (w:World):tG O1 O2 w ((w.alloc O1).alloc O2):=by
 have b1:=aL w O1;have b2:=aL (w.alloc O1) O2;refine⟨b1.trans (b2.mono e_),(b2.block _ e_).trans (heap_alloc_new w _),?_⟩;have:=heap_alloc_new (w.alloc O1) O2;simpa using this
theorem tG.step {O1 O2:Obj}{w wr w2:World} (h:tG O1 O2 w wr) (hb:Below wr.heap.size wr w2):tG O1 O2 w w2:=by
 obtain⟨c,a,b⟩:=h;exact⟨aC c hb,(hb.block _ (aF a)).trans a,(hb.block _ (aF b)).trans b⟩
theorem Oj {w:World}{g k:Nat}{r:aP} (h: ∀i u,i<10->(rA r)[i]?=some u->w.cell? ⟨g,k*10+i,none⟩=some u):w.cell? ⟨g,k*10,none⟩=some (.int .i64 r.kind)/\w.cell? ⟨g,k*10+1,none⟩=some (.int .i64 r.sf)/\w.cell? ⟨g,k*10+2,none⟩=some (.int .i64 r.st)/\w.cell? ⟨g,k*10+3,none⟩=some (.int .i64 r.ind)/\w.cell? ⟨g,k*10+4,none⟩=some (.int .i64 r.kf)/\w.cell? ⟨g,k*10+5,none⟩=some (.int .i64 r.kt)/\w.cell? ⟨g,k*10+6,none⟩=some (.int .i64 r.rf)/\w.cell? ⟨g,k*10+7,none⟩=some (.int .i64 r.rt)/\w.cell? ⟨g,k*10+8,none⟩=some (.int .i64 r.nf)/\w.cell? ⟨g,k*10+9,none⟩=some (.int .i64 r.nt):=
 ⟨h 0 _ a_ rfl,h 1 _ a_ rfl,h 2 _ a_ rfl,h 3 _ a_ rfl,h 4 _ a_ rfl,h 5 _ a_ rfl,h 6 _ a_ rfl,h 7 _ a_ rfl,h 8 _ a_ rfl,h 9 _ a_ rfl⟩
theorem Ok {w:World}{g k:Nat}{x:bA}{kv:Value} (h: ∀i u,i<9->(jX (x,kv))[i]?=some u->w.cell? ⟨g,k*9+i,none⟩=some u):w.cell? ⟨g,k*9,none⟩=some (.int .i64 (x.kind:Int))/\w.cell? ⟨g,k*9+1,none⟩=some (.int .i64 x.ind)/\w.cell? ⟨g,k*9+2,none⟩=some (.int .i64 (x.fr:Int))/\w.cell? ⟨g,k*9+3,none⟩=some (.int .i64 (x.til:Int))/\w.cell? ⟨g,k*9+4,none⟩=some (.int .i64 x.kf)/\w.cell? ⟨g,k*9+5,none⟩=some (.int .i64 x.kt)/\w.cell? ⟨g,k*9+6,none⟩=some (.int .i64 x.rf)/\w.cell? ⟨g,k*9+7,none⟩=some (.int .i64 x.rt)/\w.cell? ⟨g,k*9+8,none⟩=some kv:=
 ⟨h 0 _ a_ rfl,h 1 _ a_ rfl,h 2 _ a_ rfl,h 3 _ a_ rfl,h 4 _ a_ rfl,h 5 _ a_ rfl,h 6 _ a_ rfl,h 7 _ a_ rfl,h 8 _ a_ rfl⟩
theorem aBB (tx:ByteArray) (d:gD) (p1 p2 q1 q2:Option Addr) (c1 c2 c3 c4:Nat) (w:World) (hl:d.lines.length<=9223372036854775807) (hn:d.nodes.length<=9223372036854775807) (hk: ∀x∈d.nodes,x.kids.length<=9223372036854775807)
  (h1:uY w p1 d.lines) (h2:uZ w p2 d.nodes) (h3:uY w q1 d.lines) (h4:uZ w q2 d.nodes):
  Calls Tryz.prog 8 #[.agg #[tx, .slice p1 d.lines.length c1, .slice p2 d.nodes.length c2], .agg #[tx, .slice q1 d.lines.length c3, .slice q2 d.nodes.length c4]] w λe w'=>e= .returned (.bool true)/\Below w.heap.size w w':=by
 have H1:=hid h1;have H2:=hid h2;have H3:=hid h3;have H4:=hid h4;have HK:=hid hk;obtain⟨nl,f⟩:=exQ<|d.lines.length;obtain⟨nn,b⟩:=exQ<|d.nodes.length;have HN:=hid (aK f b);rw[f] at hl;rw[b] at hn;rw[f,b];clear h1 h2 h3 h4 hk f b;have o:=hid (tG.first (.cells #[tx, .slice p1 nl c1, .slice p2 nn c2] 26) (.cells #[tx, .slice q1 nl c3, .slice q2 nn c4] 26) w);obtain⟨a0,a1,a2,_,_,_⟩:=eE o.out.2.1;obtain⟨b0,b1,b2,_,_,_⟩:=eE o.out.2.2;go_enter Tryz.func8,Tryz.ntmps8;go_wp2_with fail;clear a0 a1 a2 b0 b1 b2;go_loopw [5] (λi wr=> ∃j:Nat,j<=nl/\i= .int .i64 j/\Hid (tG (.cells #[tx, .slice p1 nl c1, .slice p2 nn c2] 26) (.cells #[tx, .slice q1 nl c3, .slice q2 nn c4] 26) w wr)) (λi _=>nl-(RowKit.intOf i).toNat)
 case atStart=>exact⟨0,a_,rfl,o⟩
 case round=>
  obtain⟨j,hj,rfl,a⟩:=hrel;obtain⟨a0,a1,a2,_,_,_⟩:=eE a.out.2.1;obtain⟨b0,b1,b2,_,_,_⟩:=eE a.out.2.2;by_cases hlt:j<nl
  ·obtain⟨r,I⟩: ∃r,d.lines[j]?=some r:=⟨_,bC (by rw[HN.out.1];exact hlt)⟩;obtain⟨g1,rfl,D⟩:=H1.out.keep a.out.1 j r I;obtain⟨g3,rfl,E⟩:=H3.out.keep a.out.1 j r I;obtain⟨x0,x1,x2,x3,x4,x5,x6,x7,x8,x9⟩:=Oj D;obtain⟨y0,y1,y2,y3,y4,y5,y6,y7,y8,y9⟩:=Oj E;have aa:(0:Int)<=(j:Int):=a_;have U:(j:Int)<(nl:Int):=a_;clear I D E;go_wp2_with fail;go_quiet (fail);go_wp2_with fail;go_roundw
   case rel=>exact⟨j+1,a_,q_,hid (a.out.step (below_drewN (aB _ _) _))⟩
   case measure=>simp[RowKit.intOf];omega
  ·go_wp2_with fail;clear a0 a1 a2 b0 b1 b2;go_loopw [6] (λi wr=> ∃j:Nat,j<=nn/\i= .int .i64 j/\Hid (tG (.cells #[tx, .slice p1 nl c1, .slice p2 nn c2] 26) (.cells #[tx, .slice q1 nl c3, .slice q2 nn c4] 26) w wr)) (λi _=>nn-(RowKit.intOf i).toNat)
   case atStart=>exact⟨0,a_,rfl,a⟩
   case round=>
    clear a hj hlt;obtain⟨j,hj,rfl,a⟩:=hrel;obtain⟨a0,a1,a2,_,_,_⟩:=eE a.out.2.1;obtain⟨b0,b1,b2,_,_,_⟩:=eE a.out.2.2;by_cases hlt:j<nn
    ·obtain⟨x,F⟩: ∃r,d.nodes[j]?=some r:=⟨_,bC (by rw[HN.out.2];exact hlt)⟩;obtain⟨g2,kv1,rfl,s,C⟩:=H2.out.keep a.out.1 j x F;obtain⟨g4,kv2,rfl,q,A⟩:=H4.out.keep a.out.1 j x F;obtain⟨x0,x1,x2,x3,x4,x5,x6,x7,x8⟩:=Ok C;obtain⟨y0,y1,y2,y3,y4,y5,y6,y7,y8⟩:=Ok A;obtain⟨r1,d1,rfl,_⟩:=id s;obtain⟨r2,d2,rfl,_⟩:=id q;have XK:=hid s;have YK:=hid q;have G:=hid (HK.out x (bD F));have aa:(0:Int)<=(j:Int):=a_;have U:(j:Int)<(nn:Int):=a_;clear F C A s q;obtain⟨OX,n⟩: ∃ob:Obj, .cells #[x.kind,x.ind,x.fr,x.til,x.kf,x.kt,x.rf,x.rt, .slice r1 x.kids.length d1] 45=ob:=⟨_,rfl⟩;obtain⟨OY,g⟩: ∃ob:Obj, .cells #[x.kind,x.ind,x.fr,x.til,x.kf,x.kt,x.rf,x.rt, .slice r2 x.kids.length d2] 45=ob:=⟨_,rfl⟩;have bX:=aL wr OX;have nX:=heap_alloc_new wr OX;obtain⟨X,hX⟩:=exQ<|wr.heap.size;obtain⟨W1,u⟩:=exQ<|wr.alloc OX;rw[u] at bX nX;have K:=gM b2 bX;have M:=gM y0 bX;have O:=gM y1 bX;have S:=gM y2 bX;have Z:=gM y3 bX;have Q:=gM y4 bX;have T:=gM y5 bX;have L:=gM y6 bX;have W:=gM y7 bX;have V:=gM y8 bX;rw[hX] at nX;go_upto_region 12 with fail
     try rw[n]
     try rw[u]
     try rw[hX]
     clear u hX;clear y0 y1 y2 y3 y4 y5 y6 y7 y8 b2 x0 x1 x2 x3 x4 x5 x6 x7 x8;have bY:=aL W1 OY;have nY:=heap_alloc_new W1 OY;obtain⟨Y,H⟩:=exQ<|W1.heap.size;obtain⟨W2,h⟩:=exQ<|W1.alloc OY;rw[h] at bY nY;rw[H] at nY;have l:=(bY.block _ (aF nX)).trans nX;go_upto_region 13 with fail
     try rw[g]
     try rw[h]
     try rw[H]
     clear h H;have c:=aC bX bY;have ab:=hid (a.out.step c);have R:=hid (XK.out.keep c);have P:=hid (YK.out.keep c);rw[<-n] at l;rw[<-g] at nY;obtain⟨x0,x1,x2,x3,x4,x5,x6,x7,x8,_⟩:=yB l;obtain⟨y0,y1,y2,y3,y4,y5,y6,y7,y8,_⟩:=yB nY;clear n g K M O S Z Q T L W V bX bY nX c XK YK;go_wp2_with fail;have N:=hid x8;have J:=hid y8;clear x0 x1 x2 x3 x4 x5 x6 x7 x8 y0 y1 y2 y3 y4 y5 y6 y7 y8 l nY a0 a1 a2 b0 b1;go_loopw [9] (λi wq=> ∃m:Nat,m<=x.kids.length/\i= .int .i64 m/\Hid (Below W2.heap.size W2 wq)) (λi _=>x.kids.length-(RowKit.intOf i).toNat)
     case atStart=>exact⟨0,a_,rfl,hid (aB _ _)⟩
     case round=>
      obtain⟨m,hm,rfl,y⟩:=hrel;have x5:=gM N.out y.out;have hkb:=G.out;have y5:=gM J.out y.out;by_cases hmt:m<x.kids.length
      ·obtain⟨kd,v⟩: ∃k,x.kids[m]?=some k:=⟨_,bC hmt⟩;obtain⟨g3',rfl,z1⟩:=R.out.cellsY y.out v;obtain⟨g4',rfl,z2⟩:=P.out.cellsY y.out v;have hm0:(0:Int)<=(m:Int):=a_;have hmz:(m:Int)<(x.kids.length:Int):=a_;clear v;go_wp2_with fail;go_quiet (fail);go_wp2_with fail;go_roundw
       case rel=>exact⟨m+1,a_,q_,below_drewN y.out _⟩
       case measure=>simp[RowKit.intOf];omega
      ·have HE:=hid (ab.out.step y.out);go_wp2_with fail;exact⟨⟨j+1,a_,q_,HE⟩,by simp[RowKit.intOf];omega⟩
    ·go_wp2_with fail;go_ret;exact⟨rfl,a.out.1⟩
theorem Bt {w:World}{B:Nat}{e:TypeId}{s:Nat}{v:Value}{n:Nat}{xs:List Value} (h:w.ownsRow B e s v n xs) (g j:Nat) (u:Value): ∃xs',(w.setCell ⟨g,j,none⟩ u).ownsRow B e s v n xs':=by
 have a:=h;rcases h.2 with⟨c,b⟩ | ⟨g',cap,cur,rfl,b,h3,h4⟩
 ·exact⟨xs,h.1, .inl ⟨c,b⟩⟩
 ·by_cases hg:g'=g
  ·subst hg;exact⟨_,(World.ownsRow.stored a j u).1⟩
  ·refine⟨xs,a.kept (cT w g j u) (.inr ?_)⟩;intro e;exact hg (aV e)
theorem Bu {w:World}{B:Nat}{e:TypeId}{s:Nat}{v:Value}{n:Nat}{xs:List Value} (h:w.ownsRow B e s v n xs) (hn:n≠0): ∃g cap cur,v= .slice (some ⟨g,0,none⟩) n cap/\B<=g/\w.heap[g]?=some (.cells cur e (0,0))/\ ∀i u,xs[i]?=some u->w.cell? ⟨g,i,none⟩=some u/\w.frozen? ⟨g,i,none⟩=false:=by
 have b:=h;rcases h.2 with⟨h1,a⟩ | ⟨g,cap,cur,rfl,a,k,h4⟩
 ·exact absurd a hn
 ·refine⟨g,cap,cur,rfl,a,k,λi u f=>⟨?_,World.ownsRow.frozenAt b _⟩⟩;have d:=b.cells (g:=g) rfl;exact k6
theorem Gi {w:World}{B:Nat}{e:TypeId}{s:Nat}{v:Value}{n:Nat}{xs:List Value} (h:w.ownsRow B e s v n xs): ∃p c,v= .slice p n c:=by
 rcases h.2 with⟨b,a⟩ | ⟨g,cap,cur,rfl,_⟩
 ·exact⟨none,0,by rw[b,a]⟩
 ·exact⟨_,_,rfl⟩
structure jZ (B nl:Nat) (z:List YN) (lv nv:Value) (w:World):Prop where
 ln: ∃xs,w.ownsRow B 68 10 lv nl xs
 row: ∃xs,w.ownsRow B 45 9 nv z.length xs/\ ∀i y,z[i]?=some y->xs[i*9+8]?=some y.2
 kids: ∀y∈z,∃xs,w.ownsRow B 3 1 y.2 y.1.kids.length xs
theorem jZ.of {B:Nat}{d:gD}{lv nv:Value}{w:World} (h:eD B d lv nv w): ∃z:List YN,z.map (·.1)=d.nodes/\jZ B d.lines.length z lv nv w:=by
 obtain⟨z,e,c,b⟩:=h;exact⟨z,e,⟨_,c⟩,⟨_,b.row,λi y a=>pG _ 9 xU z i y a 8 a_⟩,λy a=>⟨_,b.kids y a⟩⟩
section
variable {B nl:Nat}{z:List YN}{lv nv:Value}{w:World}
theorem jZ.setOff (h:jZ B nl z lv nv w) {g:Nat}{cur:Array Value}{t:TypeId} (hg:w.heap[g]?=some (.cells cur t (0,0))) (ht:45≠t) (j:Nat) (u:Value):jZ B nl z lv nv (w.setCell ⟨g,j,none⟩ u):=by
 obtain⟨⟨xl,d⟩,⟨xs,a,b⟩,c⟩:=h;exact⟨Bt d g j u,⟨xs,a.kept (cT w g j u) (cQ a hg ht),b⟩,λy e=>by obtain⟨x,f⟩:=c y e;exact Bt f g j u⟩
theorem jZ.setNode {g n cap:Nat} (h:jZ B nl z lv (.slice (some ⟨g,0,none⟩) n cap) w) (i:Nat) (u:Value):jZ B nl z lv (.slice (some ⟨g,0,none⟩) n cap) (w.setCell ⟨g,i*9,none⟩ u):=by
 obtain⟨⟨xl,f⟩,⟨xs,c,d⟩,e⟩:=h;have j:n=z.length:=by
  rcases c.2 with⟨a,_⟩ | ⟨g',cap',cur,a,_⟩
  ·simp at a
  ·injection a
 subst j;refine⟨Bt f g _ u,⟨_,(World.ownsRow.stored c (i*9) u).1,λk y b=>?_⟩,λy b=>by obtain⟨x,l⟩:=e y b;exact Bt l g _ u⟩;rw[List.getElem?_set_ne a_];exact d k y b
theorem jZ.below {w2:World} (h:jZ B nl z lv nv w) (hb:Below w.heap.size w w2):jZ B nl z lv nv w2:=by
 obtain⟨⟨xl,c⟩,⟨xs,f,a⟩,b⟩:=h;exact⟨⟨xl,gH c hb⟩,⟨xs,gH f hb,a⟩,λy d=>by obtain⟨x,e⟩:=b y d;exact⟨x,gH e hb⟩⟩
end
theorem jZ.at_ {B nl:Nat}{z:List YN}{lv nv:Value}{w:World} (h:jZ B nl z lv nv w) {i:Nat}{y:YN} (hy:z[i]?=some y): ∃g cap u,nv= .slice (some ⟨g,0,none⟩) z.length cap/\B<=g/\w.cell? ⟨g,i*9,none⟩=some u/\w.frozen? ⟨g,i*9,none⟩=false/\w.cell? ⟨g,i*9+8,none⟩=some y.2:=by
 obtain⟨xs,f,c⟩:=h.row;have hi:=(aR.1 hy).1;obtain⟨g,cap,cur,e,d,hg,b⟩:=Bu f a_;have a:=c i y hy;have hl:=(aR.1 a).1;exact⟨g,cap,xs[i*9]' a_,e,d,(b _ _ (bC a_)).1,(b _ _ (bC a_)).2,(b _ _ a).1⟩
theorem jZ.at2 {B nl g c:Nat}{z:List YN}{lv:Value}{w:World} (h:jZ B nl z lv (.slice (some ⟨g,0,none⟩) z.length c) w) {i:Nat}{y:YN} (hy:z[i]?=some y):B<=g/\ ∃u,w.cell? ⟨g,i*9,none⟩=some u/\w.frozen? ⟨g,i*9,none⟩=false/\w.cell? ⟨g,i*9+8,none⟩=some y.2:=by
 obtain⟨g',cap,u,e,b,a⟩:=h.at_ hy;injection e with e1 e2 e3;have e4:g=g':=by injection e1 with e1;injection e1
 subst e4;exact⟨b,u,a⟩
def nL (B nl:Nat) (z:List YN) (lv nv:Value) (t:ByteArray) (w wr:World):Prop:=Below B w wr/\jZ B nl z lv nv wr/\wr.heap[w.heap.size]?=some (.cells #[t,lv,nv] 26)/\B<=wr.heap.size
section
variable {B nl:Nat}{z:List YN}{lv nv:Value}{t:ByteArray}{w wr:World}
theorem nL.first (h:jZ B nl z lv nv w) (hB:B<=w.heap.size):nL B nl z lv nv t w (w.alloc (.cells #[t,lv,nv] 26)):=by
 have b:=aL w (.cells #[t,lv,nv] 26);exact⟨b.mono hB,h.below b,heap_alloc_new w _,aZ hB b.size⟩
theorem nL.off (h:nL B nl z lv nv t w wr) {g:Nat}{cur:Array Value}{e:TypeId} (hg:wr.heap[g]?=some (.cells cur e (0,0))) (he:45≠e) (he2:26≠e) (hB:B<=g) (j:Nat) (u:Value):nL B nl z lv nv t w (wr.setCell ⟨g,j,none⟩ u):=by
 obtain⟨c,b,a,d⟩:=h;refine⟨c.setCell hB u,b.setOff hg he j u,?_,by simpa using d⟩;rw[eC wr ⟨g,j,none⟩ u _ (λe0=>by have e0:w.heap.size=g:=e0;rw[<-e0,a] at hg;injection hg with hg;injection hg with _ hg;exact he2 hg)];exact a
theorem nL.node {g n c:Nat} (h:nL B nl z lv (.slice (some ⟨g,0,none⟩) n c) t w wr) (hB:B<=g) {cur:Array Value} (hg:wr.heap[g]?=some (.cells cur 45 (0,0))) (i:Nat) (u:Value):nL B nl z lv (.slice (some ⟨g,0,none⟩) n c) t w (wr.setCell ⟨g,i*9,none⟩ u):=by
 obtain⟨d,b,a,e⟩:=h;refine⟨d.setCell hB u,b.setNode i u,?_,by simpa using e⟩;rw[eC wr ⟨g,i*9,none⟩ u _ (λe0=>by have e0:w.heap.size=g:=e0;rw[<-e0,a] at hg;injection hg with hg;injection hg with _ hg;exact absurd hg b_)];exact a
end
theorem aBC (B nl:Nat) (z:List YN) (lv nv:Value) (t:ByteArray) (w:World) (h:jZ B nl z lv nv w) (hB:B<=w.heap.size) (hnl:nl<=9223372036854775807) (hn:z.length<=9223372036854775807) (hk: ∀y∈z,y.1.kids.length<=9223372036854775807):
  Calls Tryz.prog 9 #[.agg #[t,lv,nv]] w λe w'=>e= .returned (.tuple #[])/\Below B w w':=by
 obtain⟨xs0,k,_⟩:=id h.row;obtain⟨xl0,q⟩:=id h.ln;obtain⟨p,c,rfl⟩:=Gi k;obtain⟨pl,cl,rfl⟩:=Gi q;have Q:=hid hk;have L:Hid (nL B nl z (.slice pl nl cl) (.slice p z.length c) t w (w.alloc (.cells #[t, .slice pl nl cl, .slice p z.length c] 26))):=hid (nL.first h hB);clear h hk k q;go_enter Tryz.func9,Tryz.ntmps9;go_wp2_with fail;go_loopw [2] (λs2 wr=> ∃i:Nat,i<=nl/\s2= .int .i64 i/\Hid (nL B nl z (.slice pl nl cl) (.slice p z.length c) t w wr)) (λs2 _=>nl-(RowKit.intOf s2).toNat)
 case atStart=>exact⟨0,a_,rfl,L⟩
 case round=>
  obtain⟨i,P,rfl,b⟩:=hrel;obtain⟨d0,d1,d2,_,_,_⟩:=eE b.out.2.2.1;by_cases hlt:i<nl
  ·obtain⟨xl,d⟩:=b.out.2.1.ln;obtain⟨gl,capl,curl,el,M,j,n⟩:=Bu d a_;injection el with el1 el2 el3;subst el1;have r:=d.1;obtain⟨u0,o⟩: ∃u,xl[i*10]?=some u:=⟨_,bC a_⟩;obtain⟨c0,O⟩:=n (i*10) u0 o;have F:=hid (b.out.off j b_ b_ M (i*10) (.int .i64 (-7)));have G:(0:Int)<=(i:Int):=a_;have K:(i:Int)<(nl:Int):=a_;clear o n d r j el3;exact k9
  ·go_wp2_with fail;clear d0 d1 d2 P hlt;go_loopw [3] (λs3 wr=> ∃i:Nat,i<=z.length/\s3= .int .i64 i/\Hid (nL B nl z (.slice pl nl cl) (.slice p z.length c) t w wr)) (λs3 _=>z.length-(RowKit.intOf s3).toNat)
   case atStart=>exact⟨0,a_,rfl,b⟩
   case round=>
    clear b;obtain⟨i,P,rfl,b⟩:=hrel;obtain⟨d0,d1,d2,_,_,_⟩:=eE b.out.2.2.1;by_cases hlt:i<z.length
    ·obtain⟨⟨x,kv⟩,E⟩: ∃y,z[i]?=some y:=⟨_,bC hlt⟩;obtain⟨g,cap,u,e,_⟩:=b.out.2.1.at_ E;injection e with e1 e2 e3;subst e1;have l:=bD E;obtain⟨xk,a⟩:=b.out.2.1.kids _ l;obtain⟨pk,ck,ek⟩:=Gi a;simp only[] at ek;subst ek;have H:=Q.out _ l;simp only[] at H;have G:(0:Int)<=(i:Int):=a_;have K:(i:Int)<(z.length:Int):=a_;have S:=hid E;have R:=hid l;have hiu:(i:Int)<=9223372036854775807:=a_;clear a E l e3;go_wp2_with fail;clear d0 d1 d2;go_loopw [4] (λs4 wr=> ∃m:Nat,m<=x.kids.length/\s4= .int .i64 m/\Hid (nL B nl z (.slice pl nl cl) (.slice (some ⟨g,0,none⟩) z.length c) t w wr)) (λs4 _=>x.kids.length-(RowKit.intOf s4).toNat)
     case atStart=>exact⟨0,a_,rfl,b⟩
     case round=>
      obtain⟨m,l,rfl,f⟩:=hrel;obtain⟨d0,d1,d2,_,_,_⟩:=eE f.out.2.2.1;obtain⟨N,u0,n0,f0,n5⟩:=f.out.2.1.at2 S.out;simp only[] at n5;by_cases hmt:m<x.kids.length
      ·obtain⟨xk,a⟩:=f.out.2.1.kids _ R.out;simp only[] at a;obtain⟨gk,capk,curk,ek,J,A,v⟩:=Bu a a_;injection ek with ek1 ek2 ek3;subst ek1;have d:=a.1;obtain⟨uk,s⟩: ∃uk,xk[m]?=some uk:=⟨_,bC a_⟩;obtain⟨c0,O⟩:=v m uk s;have F:=hid (f.out.off A b_ b_ J m (.int .i64 (-7)));have hm0:(0:Int)<=(m:Int):=a_;have hmz:(m:Int)<(x.kids.length:Int):=a_;clear s v a d A n0 f0 ek3;go_wp2_with fail;go_roundw
       case rel=>exact⟨m+1,a_,q_,F⟩
       case measure=>simp[RowKit.intOf];omega
      ·obtain⟨xr,C,_⟩:=f.out.2.1.row;obtain⟨g9,cap9,cur9,e9,hB9,D,_⟩:=Bu C a_;injection e9 with e91 _ _;have I:g=g9:=by injection e91 with e91;injection e91
       subst I;have F:=hid (f.out.node N D i (.int .i64 (-7)));clear C D e91;exact k9
    ·go_wp2_with fail;go_end0;exact⟨rfl,b.out.1⟩
end
section
open Go.Lib
def kG (s:aA) (a b:Int):aA:=if a<0\/b<a\/(s.length:Int)<b then [] else eQ s a b
def qD:List aA->aA
 | []=> []
 | [x]=>x
 | x::y::r=>x++10::qD (y::r)
def lD:List (aA×Int)->Int
 | []=> -1
 | (t,i)::r=>if aX t≠t.length then i else lD r
def qE (ls:List aP) (x:bA):List aP:=(ls.take x.til).drop (x.fr+1)
def rJ (s:aA) (ls:List aP) (x:bA):List (aA×Int):=(qE ls x).map λl=>(kG s l.sf l.st,l.ind)
def wO (s:aA) (ls:List aP) (x:bA):aA:=
 qD ((rJ s ls x).map λt=>t.1.drop (lD (rJ s ls x)).toNat)++(if rJ s ls x≠ []/\kG s x.rf x.rt= [124] then [10] else [])
def rK (s:aA) (ns:List bA) (q:Nat):aA:=match ns[q]? with
 | some y=>(jM (kG s y.kf y.kt)).1
 | none=> []
def bS (s:aA) (d:gD):Nat->Nat->VT
 | 0,_=>fD
 | f+1,k=>match d.nodes[k]? with
  | none=>fD
  | some x=>if x.kind=1 then(iB (kG s x.rf x.rt)).1 else if x.kind=4 then jC (wO s d.lines x) else
   .mk (if x.kind=3 then 6 else 5) [] (if x.kind=3 then x.kids.map (rK s d.nodes) else []) (x.kids.map (bS s d f))
def lE (ns:List bA):Nat->Nat->Nat->Prop
 | 0,_,_=>False
 | lv+1,k,hi=> ∃x,ns[k]?=some x/\gY (lE ns lv) x.kids (k+1) hi
end
end Go.Proofs.YtfhjncbdgjlcoaaGreatDoor
