import Derived.Test.YtfhjncbdgjlcoaaGreatDoorYa41
import Derived.Test.YtfhjncbdgjlcoaaGreatDoorYa42
set_option maxRecDepth 100000
set_option maxHeartbeats 80000000
set_option linter.unusedVariables false
set_option linter.unusedSimpArgs false
namespace Go.Proofs.YtfhjncbdgjlcoaaGreatDoor
open Go.RowKit Go.Maps Go.WideMaps
open Go.Lib hiding intOf
theorem Pf {w:World}{P j X i:Nat}{u v:Value} (h:w.cell? ⟨P,j,none⟩=some u) (hne:X≠P):(w.setCell ⟨X,i,none⟩ v).cell? ⟨P,j,none⟩=some u:=by
 rw[iY (eC w ⟨X,i,none⟩ v P (λe=>hne e.symm))];exact h
theorem QZ.gne {B P:Nat}{txt:List UInt8}{L:List aN}{k:Nat}{z:List ND}{g n c:Nat}{w:World} (h:QZ B P txt L k z (.slice (some ⟨g,0,none⟩) n c) w):g≠P:=by
 rintro rfl;obtain⟨lv,b,_,_,d,_⟩:=h;obtain⟨cur,a⟩:=kO d.row g rfl;unfold cH at b;rw[b] at a;injection a with a;injection a with _ a;exact absurd a b_
def kN (P:Nat) (w:World):Nat:=match w.cell? ⟨P,2,none⟩ with
 | some (.int .i64 n)=>n.toNat
 | _=>0
theorem QJ.step {B P:Nat}{txt:List UInt8}{L:List aN}{k:Nat}{nodes:List aH}{w:World} (h:QJ B P txt L k nodes w) (hk:k<L.length):QJ B P txt L (k+1) nodes (w.setCell ⟨P,2,none⟩ (.int .i64 ((k+1:Nat):Int)))/\Fr B P w (w.setCell ⟨P,2,none⟩ (.int .i64 ((k+1:Nat):Int))):=by
 obtain⟨z,nv,c,h⟩:=h;have a:B<=P:=by obtain⟨_,_,_,_,_,b⟩:=h;exact b
 exact⟨⟨z,nv,c,h.step hk⟩,Fr.setP a⟩
theorem QJ.c2 {B P:Nat}{txt:List UInt8}{L:List aN}{k:Nat}{nodes:List aH}{w:World} (h:QJ B P txt L k nodes w):w.cell? ⟨P,2,none⟩=some (.int .i64 (k:Int))/\w.frozen? ⟨P,2,none⟩=false:=by
 obtain⟨z,nv,hz,lv,h,_⟩:=h;exact⟨h.cells.2.2.1,h.cells.2.2.2.2.2.2.2.1⟩
theorem QJ.kN {B P:Nat}{txt:List UInt8}{L:List aN}{k:Nat}{nodes:List aH}{w:World} (h:QJ B P txt L k nodes w):kN P w=k:=by
 unfold Go.Proofs.YtfhjncbdgjlcoaaGreatDoor.kN;rw[h.c2.1];simp
theorem QJ.c3 {B P:Nat}{txt:List UInt8}{L:List aN}{k:Nat}{nodes:List aH}{w:World} (h:QJ B P txt L k nodes w): ∃p c,w.cell? ⟨P,3,none⟩=some (.slice p nodes.length c):=by
 obtain⟨z,nv,b,lv,h,_,_,a,_⟩:=h;obtain⟨p,c,rfl⟩:=a.slice;exact⟨p,c,by rw[h.cells.2.2.2.1,<-b,bR]⟩
def aCy (P gn nl cap pl ml:Nat) (yv:Value):Nat->Value
 | 0=> .pointer (some ⟨P,0,none⟩)
 | 1=> .pointer (some ⟨P,0,none⟩)
 | 2=> .pointer (some ⟨P,3,none⟩)
 | 3=> .slice (some ⟨gn,0,none⟩) nl cap
 | 4=> .int .i64 (pl:Int)
 | 5=> .pointer (some ⟨P,0,none⟩)
 | 6=> .pointer (some ⟨P,0,none⟩)
 | 7=> .pointer (some ⟨P,3,none⟩)
 | 8=> .slice (some ⟨gn,0,none⟩) nl cap
 | 9=> .int .i64 (pl:Int)
 | 10=> .pointer (some ⟨gn,pl*7,none⟩)
 | 11=> .pointer (some ⟨gn,pl*7+5,none⟩)
 | 12=>yv
 | 13=> .int .i64 (ml:Int)
 | 16=> .pointer (some ⟨gn,pl*7,none⟩)
 | 17=> .pointer (some ⟨gn,pl*7+5,none⟩)
 | _=>undef
def aCz (P gn nl cap pl l2 hh:Nat) (yv:Value):Nat->Value
 | 0=> .pointer (some ⟨P,0,none⟩)
 | 1=> .pointer (some ⟨P,0,none⟩)
 | 2=> .pointer (some ⟨P,3,none⟩)
 | 3=> .slice (some ⟨gn,0,none⟩) nl cap
 | 4=> .int .i64 (pl:Int)
 | 5=> .pointer (some ⟨P,0,none⟩)
 | 6=> .pointer (some ⟨P,0,none⟩)
 | 7=> .pointer (some ⟨P,3,none⟩)
 | 8=> .slice (some ⟨gn,0,none⟩) nl cap
 | 9=> .int .i64 (pl:Int)
 | 10=> .pointer (some ⟨gn,pl*7,none⟩)
 | 11=> .pointer (some ⟨gn,pl*7+6,none⟩)
 | 12=>yv
 | 13=> .int .i64 (l2:Int)
 | 14=> .pointer (some ⟨P,0,none⟩)
 | 15=> .int .i64 (hh:Int)
 | 16=> .agg #[l2,hh]
 | 19=> .pointer (some ⟨gn,pl*7,none⟩)
 | 20=> .pointer (some ⟨gn,pl*7+6,none⟩)
 | _=>undef
theorem aCA (w0:World) (P:Nat) (txt:List UInt8) (L:List aN) (lv:Nat) (IH:Bz w0 P txt L lv) (w:World) (k:Nat) (tb:aN) (pre:List aH) (x:aH) (post nodes:List aH) (lev:Int) (closing:Nat) (obj:Bool)
  (h:QJ w0.heap.size P txt L (k+1) nodes w) (hLb:L[k]?=some tb) (hmid:fW pre x post nodes) (hb:Below w0.heap.size w0 w) (hN:nodes.length+(L.drop (k+1)).length<=131074) (hN4:nodes.length<=4096) (hl:lev+1=33-(lv:Int)) (hlev:0<=lev/\lev<=32)
  (hL:L.length<=65536) (hs:txt.length<=65536) (hTB: ∀t∈L,t.sf<=t.st/\t.st<=txt.length) (hsg: ∀t∈L,t.kind=6->t.st=t.sf+1) (hc:(closing=5/\obj=false)\/(closing=3/\obj=true)):
  Calls Tryz.prog 169 #[some P,pre.length,lev,closing] w
   (qG w0.heap.size P txt L (gG txt (bI txt lv) closing obj pre.length (L.drop (k+1)) (tb.sf,tb.st) nodes) w):=by
 obtain⟨R,C⟩:=exQ<|gG txt (bI txt lv) closing obj pre.length (L.drop (k+1)) (tb.sf,tb.st) nodes;rw[C];have G:w0.heap.size<=w.heap.size:=hb.size;obtain⟨eK,af⟩:=h.ptr;obtain⟨fw,eH⟩:=hlev;obtain⟨kk,fn⟩:=exQ<|k+1;rw[fn] at h hN C;have hkz:(kk:Int)-1=(k:Int):=a_
 have eP:(0:Int)<=(k:Int):=a_
 have hkl:(k:Int)<(L.length:Int):=by have:=(aR.1 hLb).1;omega
 have dy:=h.qN;have dj:=hid dy;have HB:=hid hb;have HJ:=hid h;have U:=hid hmid;have cf:=hid hTB;have fq:=hid hsg;have hkb:(kk:Int)<=65536:=by have:=h.le;omega
 obtain⟨z,nv,hz,lvv,qb,qt,_⟩:=h;obtain⟨c0,c1,c2,c3,c4,c5,f1,f2,f3,f4,f5⟩:=qb.cells;obtain⟨g,o,c,rfl,hcc,t0,t1,t2,_⟩:=qt.tok hLb;obtain⟨q,hq⟩:=exQ<|dI (L.drop kk);have CK:Hid (∀w',Below w.heap.size w w'->Calls Tryz.prog 168 #[some P] w' λe w2=>e= .returned (.int .i64 (q:Int))/\Below w'.heap.size w' w2):=hid (λw' N=>by have:=vC _ P txt L kk nodes w' (HJ.out.keep N) a_;rw[hq] at this;exact this);have hcl0:closing≠0:=a_
 by_cases hcl:q=closing
 ·subst hcl;obtain⟨t,cN⟩: ∃t,L[kk]?=some t:=⟨_,bC (yM a_)⟩;have bo:=wQ cN;have ei:t.kind=q:=by rw[bo] at hq;exact hq
  have bE:JR.ok (L.drop (kk+1)) (t.sf,t.st) nodes=R:=by
   rw[<-C,bo];unfold gG;simp only[ei,if_true]
  have de:((q:Int)==(q:Int))=true:=e_
  have HR:=hid bE;have d2:=hid cN;clear bo ei C bE cN hq hb hmid hTB hsg qt dy;go_enter Tryz.func169,Tryz.ntmps169;go_upto_region 2 with fail;go_region;go_wp2_with fail;refine(CK.out _ (aB _ _).drew).mono ?_;rintro e w2 ⟨rfl,bS⟩;have aW:=aC (aB w.heap.size w).drew bS;have dg:=HJ.out.keep aW;obtain⟨c2',f2'⟩:=dg.c2;obtain⟨aM,dl⟩:=dg.step (aR.1 d2.out).1;have ek:((kk+1:Nat):Int)=(kk:Int)+1:=a_
  rw[ek] at aM dl;have bp:=hid aM;have O:=hid ((Fr.of_below (P:=P) aW G).trans dl);clear dg aM dl aW bS ek;go_wp2_with fail;go_ret;rw[<-HR.out];exact⟨rfl,⟨kk,t,rfl,d2.out,rfl,bp.out⟩,O.out⟩
 ·have ay: ∃f,(L.drop kk).length<f/\iP txt (bI txt lv) closing obj pre.length f [] (L.drop kk) (tb.sf,tb.st) nodes=R:=by
   rw[<-C];unfold gG;cases hd:L.drop kk with
   | nil=>exact⟨1,e_,rfl⟩
   | cons t r=>
    rw[hd] at hq;have d3:t.kind=q:=hq;exact⟨(t::r).length+1,e_,(if_neg (show ¬t.kind=closing by rw[d3];exact hcl)).symm⟩
  obtain⟨f0,bg,bj⟩:=ay;have fs:=hid bj;have dcl:((q:Int)==(closing:Int))=false:=by simp;omega
  have fL:=hid IH;have bU:=hN;clear bj C hq hb hmid hTB hsg qt dy hcl IH hz;go_enter Tryz.func169,Tryz.ntmps169;go_upto_region 2 with fail;go_region;go_wp2_with fail;refine(CK.out _ (aB _ _).drew).mono ?_;rintro e w2 ⟨rfl,bS⟩;have aW:=aC (aB w.heap.size w).drew bS;have bi:=hid (HJ.out.keep aW);have a2:=hid (Fr.of_below (P:=P) aW G);have dU:kP w.heap.size w2 (.slice none 0 0) []:=⟨rfl, .inl ⟨rfl,rfl⟩⟩;have ft:=hid dU;clear aW bS c0 c1 c2 c3 c4 c5 f1 f2 f3 f4 f5 t0 t1 t2 CK HJ dU;go_wp2_with fail;go_loopw [9,10] (λs9 fA wr=> ∃(hm:List (List UInt8)) (ks:Nat) (ls:Sp) (ns:List aH) (x:aH) (post:List aH) (f:Nat) (hv:Value),s9=hv/\fA= .int .i64 (ls.2:Int)/\Hid (kP w.heap.size wr hv hm)/\Hid (QJ w0.heap.size P txt L ks ns wr)/\Hid (fW pre x post ns)/\Hid (iP txt (bI txt lv) closing obj pre.length f hm.reverse (L.drop ks) ls ns=R)/\(L.drop ks).length<f/\nodes.length<=ns.length/\ns.length<=4096/\ns.length+(L.drop ks).length<=131074/\hm.length<=ks/\ls.2<=65536/\Hid (Fr w0.heap.size P w wr)) (λ_ _ wr=>L.length-kN P wr)
  case atStart=>exact⟨[],kk,_,nodes,x,post,f0,_,rfl,rfl,ft,bi,U,fs,bg,aD _,hN4,hN,dY _,by have:=(cf.out tb (bD hLb)).2;simp only[];omega,a2⟩
  case round=>
   obtain⟨hm,ks,ls,ns,x,post,f,hv,rfl,rfl,HH,bw,HM,HL,hf,db,ee,hN,eI,hls,W⟩:=hrel;obtain⟨f,rfl⟩: ∃f',f=f'+1:=⟨f-1,a_⟩;have e6:=bw.out.kN;have dL:=HL.out;unfold iP at dL;have cx:=hid dL;clear dL HL;have al:w0.heap.size<=wr.heap.size:=aZ G W.out.sz;have b1:=aL wr (.cells #[(0:Int),(0:Int)] 42);have ch:=heap_alloc_new wr (.cells #[(0:Int),(0:Int)] 42);obtain⟨K,ce⟩:=exQ<|wr.heap.size;obtain⟨W1,ea⟩:=exQ<|wr.alloc (.cells #[(0:Int),(0:Int)] 42);rw[ea] at b1 ch;rw[ce] at ch;have dq:=hid (bw.out.keep b1);have b6:=hid (HH.out.keep b1);have ci:=hid ch;have b0:=hid (W.out.trans (Fr.of_below (P:=P) b1 al));have eW:w.heap.size<=K:=by rw[<-ce];exact W.out.sz
   have cC:K≠P:=by have:=bw.out.ptr.1;omega
   have bz:w0.heap.size<=W1.heap.size:=aZ G b0.out.sz;obtain⟨z,nv,hz,dm⟩:=bw.out;have b9:=hid (aK hz dm);have cM:=hid (dm.keep b1);have ez:wr.heap.size<=K:=mW ce;clear b1 ch bw HH W al hz dm;go_upto_if 43 with fail;clear ea ce;go_cut [9,12,13,14,44,45,46,47,48,49,50,51,52,53,54,55,56,57] (λs9 s12 s13 s14 s44 s45 s46 s47 s48 s49 s50 s51 s52 s53 s54 s55 s56 s57 wx=> ∃(aa:List (List UInt8)) (k2:Nat) (lq:Sp) (kp:Sp),Hid (kP w.heap.size wx s9 aa)/\Hid (QJ w0.heap.size P txt L k2 ns wx)/\Hid (wx.heap[K]?=some (.cells #[kp.1,kp.2] 42))/\Hid (gF txt (bI txt lv) obj hm.reverse (L.drop ks) ls ns=(bI txt lv (L.drop k2) lq ns kp,aa.reverse))/\ks<=k2/\aa.length<=k2/\Hid (Fr w0.heap.size P w wx))
   case first=>
    rcases hc with⟨rfl,rfl⟩ | ⟨rfl,rfl⟩
    ·go_wp2_with fail;go_meet;exact⟨hm,ks,ls,(0,0),b6,dq,ci,hid (by unfold gF;rw[if_pos rfl]),aD _,eI,b0⟩
    ·have hks:ks<=L.length:=dq.out.le;have bF:=aCq w0.heap.size P txt L ks z nv W1 cM.out w.heap.size u9 hm b6.out hL hs cf.out a_;obtain⟨e8,df⟩:=exQ<|oM txt hm (L.drop ks);rw[df] at bF;have cI:=hid bF;have eb:=hid df;clear bF df;cases e8 with
     | bad a er=>
      obtain⟨h',aq⟩:=aCu (V:=bI txt lv) (ls:=ls) (ns:=ns) eb.out;have C:=cx.out;rw[aq] at C;have HR:=hid (show JR.bad a er=R from C);clear C aq;go_wp2_with fail;refine cI.out.mono ?_;rintro e w3 ⟨⟨s,xx,yy,rfl⟩,ae,ho⟩;have O:=hid (b0.out.trans (dC.fr ho af bz));have bA:=hid ae;have e7:Hid (qN P w<=z.length):=hid (by have h1:=dj.out;have h2:=congrArg List.length b9.out.1;rw[bR] at h2;omega);clear ae ho;go_wp2_with fail;go_ret;rw[<-HR.out];exact⟨rfl,(bA.out.keep (aL _ _)).mono e7.out,O.out.trans (Fr.of_below (aL _ _) (aZ G O.out.sz))⟩
     | ok key t=>
      obtain⟨c',r2,bo,aq⟩:=aCv (V:=bI txt lv) (ls:=ls) (ns:=ns) eb.out;have cu:r2=L.drop (ks+2):=by rw[<-jJ,bo];rfl
      rw[cu] at aq;have b8:=hid aq;clear aq bo cu;go_wp2_with fail;refine cI.out.mono ?_;rintro e w3 ⟨rfl,dX,ho⟩;have O:=hid (b0.out.trans (dC.fr ho af bz));have et: ∀cs t fz,W1.heap[P]?=some (.cells cs t fz)->t≠9:=λcs t fz hp=>by
       obtain⟨dw,ai,_⟩:=cM.out;unfold cH at ai;rw[ai] at hp;injection hp with hp;injection hp with _ hp;rw[<-hp];decide
      have dZ:=hid (b6.out.fr (dC.fr ho af bz) et);have cF:=hid ((ho.block K (aF ci.out) (by simpa using cC)).trans ci.out);have dT:=hid dX;clear et dX ho cI;go_upto_region 11 with fail;have b4:=aL w3 (.cells #[.int .i64 (t.sf:Int), .int .i64 (t.st:Int)] 42);have cc:=heap_alloc_new w3 (.cells #[.int .i64 (t.sf:Int), .int .i64 (t.st:Int)] 42);obtain⟨S,dK⟩:=exQ<|w3.heap.size;obtain⟨W4,cU⟩:=exQ<|w3.alloc (.cells #[.int .i64 (t.sf:Int), .int .i64 (t.st:Int)] 42);rw[cU] at b4 cc;rw[dK] at cc;rw[cU,dK];have ah:=hid (O.out.trans (Fr.of_below (P:=P) b4 (aZ G O.out.sz)));have bt:=hid (dZ.out.keep b4);have cV:=hid ((b4.block _ (aF cF.out)).trans cF.out);have cK:=hid cc;have cm:=hid (dT.out.keep b4);have d4:w.heap.size<=W4.heap.size:=ah.out.sz;have dW:=bt.out;clear cU dK b4 cc dZ cF dT;go_wp2_with (at_builtin;go_must (refine aCt DU (.tmp 53) (.tmp 55) rfl w.heap.size W4 u9 hm key rfl dW rfl a_ d4 ?_);intro kv w5 bh ar;have dd:=(ar.block K (aF cV.out) (λe=>by rcases cQ bt.out cV.out b_ with h1 | h1;(· rw[h1] at e;cases e);(· exact h1 e.symm))).trans cV.out;have ev:=(ar.block S (aF cK.out) (λe=>by rcases cQ bt.out cK.out b_ with h1 | h1;(· rw[h1] at e;cases e);(· exact h1 e.symm))).trans cK.out;obtain⟨s0,s1,_,_⟩:=lG ev;obtain⟨x0,x1,fx0,fx1⟩:=lG dd);have a3:=hid dd;have fM:=hid (ah.out.newN ar (λb hb=>(World.ownsRow.lt bt.out b hb).1) G);have dB:=hid (cm.out.grow bt.out ar);have eo:=hid bh;clear dd ev bh ar;have d5:w0.heap.size<=K:=aZ G eW;have fa:=hid (bN (bN a3.out 0 (.int .i64 (t.sf:Int))) 1 (.int .i64 (t.st:Int)));have eR:=hid (QZ.offK (i:=1) (u:= .int .i64 (t.st:Int)) (QZ.offK (i:=0) (u:= .int .i64 (t.sf:Int)) dB.out b9.out.2.at_ ez cC a3.out) b9.out.2.at_ ez cC (bN a3.out 0 _));have fo:=hid (fM.out.trans ((Fr.setM (i:=0) (u:= .int .i64 (t.sf:Int)) a3.out b_ d5).trans (Fr.setM (i:=1) (u:= .int .i64 (t.st:Int)) (bN a3.out 0 _) b_ d5)));have fp:Hid (kP w.heap.size ((w5.setCell ⟨K,0,none⟩ (.int .i64 (t.sf:Int))).setCell ⟨K,1,none⟩ (.int .i64 (t.st:Int))) kv (hm++ [key])):=hid (by have h1:kP w.heap.size (w5.setCell ⟨K,0,none⟩ (.int .i64 (t.sf:Int))) kv (hm++ [key]):=World.ownsRow.kept eo.out (cT w5 K 0 _) (cQ eo.out a3.out b_);exact World.ownsRow.kept h1 (cT _ K 1 _) (cQ h1 (bN a3.out 0 _) b_));go_meet;exact⟨hm++ [key],ks+2,(c'.sf,c'.st),(t.sf,t.st),fp,hid (eR.out.toJ.cast b9.out.1),fa,hid (by rw[b8.out,List.reverse_append];rfl),a_,by rw[aT,dS];omega,fo⟩
   obtain⟨aa,k2,lq,kp,dV,bi,e9,b8,hk2,hhm2,a2⟩:=hcut;have cg:=cx.out;rw[b8.out] at cg;have hdl:(L.drop k2).length<=(L.drop ks).length:=by rw[aU,aU];omega
   obtain⟨Q1,cb⟩:=exQ<|bI txt lv (L.drop k2) lq ns kp;rw[cb] at cg;have dr:=hid cg;have cq:=hid cb;have hBwc:w0.heap.size<=wc.heap.size:=aZ G a2.out.sz;have CV:=fL.out wc k2 lq ns kp (33-(lv:Int)) bi.out (HB.out.trans a2.out.bel) a_ ee rfl;rw[cb] at CV;have el:=hid CV;obtain⟨p3,cp3,c3⟩:=bi.out.c3;obtain⟨x0,x1,_,_⟩:=lG e9.out;clear CV cg cb cx b8 ci b6 dq cM b0;go_wp2_with fail;refine el.out.mono ?_;rintro e w3 hE;clear c3 x0 x1;cases Q1 with
   | bad a er=>
    obtain⟨rfl,ae,hf⟩:=hE;have HR:=hid (show JR.bad a er=R from dr.out);have cY:Hid (qN P w<=qN P wc):=hid (by rw[dj.out,bi.out.qN];exact db);have bA:=hid ae;have O:=hid (a2.out.trans hf);clear ae hf;go_wp2_with fail;go_ret;rw[<-HR.out];exact⟨rfl,bA.out.mono cY.out,O.out⟩
   | ok r1 l1 ns1=>
    obtain⟨rfl,⟨k3,t3,rfl,hLt3,rfl,aM⟩,hf⟩:=hE;obtain⟨D,rfl,aG,cr,⟨kd,bm⟩,ba⟩:=mV txt lv _ _ _ _ _ _ _ cq.out;have cD:=Pd txt lv _ _ _ _ _ _ _ cq.out ee;have O:=hid (a2.out.trans hf);have bp:=hid aM;have fi:=hid (dV.out.fr hf (λcs t fz hp=>by obtain⟨z1,ef,_,dw,ai,_⟩:=bi.out;unfold cH at ai;rw[ai] at hp;injection hp with hp;injection hp with _ hp;rw[<-hp];decide));have d7:=dr.out;obtain⟨q1,cy⟩:=exQ<|dI (L.drop (k3+1));have hk3:k3+1<=L.length:=aM.le;have hk23:k2<k3+1:=by
     rw[aU,aU] at cr;omega
    have b7:Hid (∀w',Below w3.heap.size w3 w'->Calls Tryz.prog 168 #[some P] w' λe w2=>e= .returned (.int .i64 (q1:Int))/\Below w'.heap.size w' w2):=hid (λw' N=>by have:=vC _ P txt L (k3+1) (ns++D) w' (bp.out.keep N) a_;rw[cy] at this;exact this);have bx:=hid cy;have eD:=hid d7;have ec:=hid aM;clear hf aM d7 cy bm dr el dV a2;by_cases hgo:q1=6\/q1=closing
    case neg=>
     have BX:=trivial;exact uu
    go_upto_region 17 with fail;go_cut [71,72,73,74,75,76,77,78] (λs71 s72 s73 s74 s75 s76 s77 fK wx=>fK= .bool false/\Hid (Below w3.heap.size w3 wx))
    case first=>
     by_cases h6:q1=6
     ·have d6:((q1:Int) !=6)=false:=by rw[h6];rfl
      clear h6 hgo;go_wp2_with fail;refine(b7.out _ (aB _ _)).mono ?_;rintro e w4 ⟨rfl,aO⟩;have a7:=hid aO;clear aO;go_wp2_with fail;go_meet;exact⟨rfl,a7⟩
     ·exact uu
    obtain⟨rfl,dz⟩:=hcut;have U:=hid (HM.out.add ba aG ns.length (ls.2,cA txt.length (L.drop (k3+1))));have a6:w0.heap.size<=wc.heap.size:=aZ (aZ G O.out.sz) dz.out.size;have cO:w0.heap.size<=w3.heap.size:=aZ G O.out.sz;have ah:=hid (Fr.of_below (B:=w0.heap.size) (P:=P) dz.out cO);obtain⟨z4,nv4,cj,dx⟩:=bp.out.keep dz.out;have cE: ∃x0,(ns++D)[pre.length]?=some x0/\x0.kids.length<=131074/\x0.pcs.length<=131074:=by
     obtain⟨e1,e2,e3,e4⟩:=HM.out;exact kl
    have fc:pre.length<ns.length:=by
     have:=congrArg List.length HM.out.1;simp only[aT,bH] at this;omega
    obtain⟨fe,aP,hk0',fj⟩:=cE;obtain⟨y,hy,rfl⟩: ∃y:ND,z4[pre.length]?=some y/\y.1=fe:=by
     rw[<-cj,dE] at aP;obtain⟨y,h1,h2⟩:=tS.1 aP;exact⟨y,h1,h2⟩
    have bb:z4.length=ns.length+D.length:=(by rw[<-bR (f:=(·.1)),cj,aT]);obtain⟨gn,cap,rfl,eA⟩:=dx.form (λe=>by rw[e] at hy;simp at hy);have cm:=hid dx;have HY:=hid hy;have HZ:=hid cj;have fD:=hid bb;have hpl4:(pre.length:Int)<(z4.length:Int):=a_;have hpl0:(0:Int)<=(pre.length:Int):=a_;clear aP cj bb dx hy bp b7;have bY:=ah;go_upto_region 19 with fail;have bJ:Tryz.prog.follows .mixedOrders=true:=d';obtain⟨W0,F⟩:=exQ<|wc.drew;have bP:QZ w0.heap.size P txt L (k3+1) z4 (.slice (some ⟨gn,0,none⟩) z4.length cap) W0:=by rw[<-F];exact cm.out.keep (aB _ wc).drew
    have M:=hid bP;have aX:w0.heap.size<=W0.heap.size:=by rw[<-F];exact a6
    have bO:Fr w0.heap.size P w3 W0:=by rw[<-F];exact bY.out.trans (Fr.of_below (P:=P) (aB _ wc).drew a6)
    have bW:=hid bO;obtain⟨SA,au⟩: ∃S:World->Prop,(λw'=>w'.cell? ⟨gn,pre.length*7+5,none⟩=some y.2.1/\w'.frozen? ⟨gn,pre.length*7+5,none⟩=false)=S:=⟨_,rfl⟩;obtain⟨S1,ap⟩: ∃S:World->Prop,(λw'=>w'.cell? ⟨P,3,none⟩=some (.slice (some ⟨gn,0,none⟩) z4.length cap))=S:=⟨_,rfl⟩;have HS:Hid (∀w2,Below W0.heap.size W0 w2->SA w2):=hid (λw2 hb=>by rw[<-au];exact(M.out.keep hb).at_.at_ HY.out 5 a_ rfl);have aV:Hid (∀w2,Below W0.heap.size W0 w2->S1 w2):=hid (λw2 hb=>by rw[<-ap];exact(M.out.keep hb).c3);have aQ:Hid (∀w1 w2,Below W0.heap.size W0 w1->w1.grownBy w2 (y.2.1).ownBlock->SA w2/\S1 w2/\ ∀u,S1 (w2.setCell ⟨gn,pre.length*7+5,none⟩ u)):=hid (λw1 w2 hb hg=>by have h3:=(M.out.keep hb).c3_kids (bD HY.out) hg;rw[<-au,<-ap];exact⟨(M.out.keep hb).at_.cellK HY.out hg,h3,λu=>Pf h3 M.out.gne⟩);clear bP bO;refine tR bJ [81,82,83,84,85,86,87,88,89,90,91,92,93,94,95,96,97,98] 135 rfl d' d' (λd v w'=>RG 18 81 13 13 12 14 15 18 (aCy P gn z4.length cap pre.length ns.length y.2.1) S1 SA (λw'=>Below W0.heap.size W0 w') (λx w'=> ∃w1,Below W0.heap.size W0 w1/\x= .slice (some ⟨w1.heap.size,0,none⟩) 1 1/\w'=w1.alloc (.cells #[ns.length] 3)) (λx w'=> ∃w1,Below W0.heap.size W0 w1/\w'.ownsRow w0.heap.size 3 1 x (y.1.kids.length+1) (dJ y.1.kids++ [.int .i64 (ns.length:Int)])/\w1.grownBy w' (y.2.1).ownBlock/\(x.ownBlock=(y.2.1).ownBlock\/x.ownBlock=some (w1.heap.size+1))) (λw'=> ∃x w1,((λx w'=> ∃w1,Below W0.heap.size W0 w1/\w'.ownsRow w0.heap.size 3 1 x (y.1.kids.length+1) (dJ y.1.kids++ [.int .i64 (ns.length:Int)])/\w1.grownBy w' (y.2.1).ownBlock/\(x.ownBlock=(y.2.1).ownBlock\/x.ownBlock=some (w1.heap.size+1))) x w1)/\w'=w1.setCell ⟨gn,pre.length*7+5,none⟩ x) d v w') ⟨λ_ _ _ _ h=>absurd h b_,by rw[F];exact aV.out _ (aB _ _),λ_=>by rw[F];exact HS.out _ (aB _ _),λh=>absurd h b_,λh=>absurd h b_,λh=>absurd h b_,λh=>absurd h b_,λh=>absurd h b_,λ_=>by rw[F];exact aB _ _,λh=>absurd h b_,λh=>absurd h b_,λh=>absurd h b_⟩ ?_ ?_
    ·have yl:=trivial;exact qp
    intro v wz A;obtain⟨kv,w7,⟨w1,hA,aw,aA,ad⟩,dP⟩:=A.w3 b_;obtain⟨dt,av⟩:=(M.out.keep hA).kid (m:=ns.length) HY.out (H:=w1.heap.size+1) a_ (aZ aX hA.size) aw aA ad;rw[<-dP] at dt av;have dv:=hid dt;have ao:=hid (bW.out.trans ((Fr.of_below (P:=P) hA aX).trans av));clear dt av aw aA ad dP A aQ aV HS M ap au hA bW F aX W0 SA S1 w7 w1 a6 bY;simp only[cS,dF,cP,dG];have a6:w0.heap.size<=wz.heap.size:=aZ cO ao.out.sz;have a1:(z4.set pre.length ({ y.1 with kids:=y.1.kids++ [ns.length] },kv,y.2.2))[pre.length]?=some ({ y.1 with kids:=y.1.kids++ [ns.length] },kv,y.2.2):=(by rw[List.getElem?_set,if_pos rfl,if_pos (aR.1 HY.out).1]);have am:=hid a1;obtain⟨z6,ca⟩:=exQ<|z4.set pre.length ({ y.1 with kids:=y.1.kids++ [ns.length] },kv,y.2.2);rw[ca] at dv am;have ct:z6.length=z4.length:=(by rw[<-ca,List.length_set]);have hpl6:(pre.length:Int)<(z6.length:Int):=a_;have fb:=hid ca;have HZ6l:=hid ct;clear a1 ca ct cm;have fv:cA txt.length (L.drop (k3+1))<=65536:=by
     cases hd:L.drop (k3+1) with
     | nil=>exact hs
     | cons t r'=>
      have hm:t∈L:=List.mem_of_mem_drop (by rw[hd];exact lN);have:=cf.out t hm;show t.sf<=65536;omega
    have bY:=ao;go_upto_region 20 with fail;have bJ:Tryz.prog.follows .mixedOrders=true:=d';obtain⟨W0,F⟩:=exQ<|wz.drew;have bP:QZ w0.heap.size P txt L (k3+1) z6 (.slice (some ⟨gn,0,none⟩) z6.length cap) W0:=by rw[<-F];exact dv.out.keep (aB _ wz).drew
    have M:=hid bP;have aX:w0.heap.size<=W0.heap.size:=by rw[<-F];exact a6
    have bO:Fr w0.heap.size P w3 W0:=by rw[<-F];exact bY.out.trans (Fr.of_below (P:=P) (aB _ wz).drew a6)
    have bW:=hid bO;have CH:Hid (∀w',Below W0.heap.size W0 w'->Calls Tryz.prog 170 #[some P] w' λe w2=>e= .returned (.int .i64 ((cA txt.length (L.drop (k3+1)):Nat):Int))/\Below w'.heap.size w' w2):=hid (λw' N=>Gt _ P txt L (k3+1) _ w' (M.out.keep N).toJ a_ a_);obtain⟨SA,au⟩: ∃S:World->Prop,(λw'=>w'.cell? ⟨gn,pre.length*7+6,none⟩=some y.2.2/\w'.frozen? ⟨gn,pre.length*7+6,none⟩=false)=S:=⟨_,rfl⟩;obtain⟨S1,ap⟩: ∃S:World->Prop,(λw'=>w'.cell? ⟨P,3,none⟩=some (.slice (some ⟨gn,0,none⟩) z6.length cap))=S:=⟨_,rfl⟩;have HS:Hid (∀w2,Below W0.heap.size W0 w2->SA w2):=hid (λw2 hb=>by rw[<-au];exact(M.out.keep hb).at_.at_ am.out 6 a_ rfl);have aV:Hid (∀w2,Below W0.heap.size W0 w2->S1 w2):=hid (λw2 hb=>by rw[<-ap];exact(M.out.keep hb).c3);have aQ:Hid (∀w1 w2,Below W0.heap.size W0 w1->w1.grownBy w2 (y.2.2).ownBlock->SA w2/\S1 w2/\ ∀u,S1 (w2.setCell ⟨gn,pre.length*7+6,none⟩ u)):=hid (λw1 w2 hb hg=>by have h3:=(M.out.keep hb).c3_pcs (y:=({ y.1 with kids:=y.1.kids++ [ns.length] },kv,y.2.2)) (bD am.out) hg;rw[<-au,<-ap];exact⟨(M.out.keep hb).at_.cellP (y:=({ y.1 with kids:=y.1.kids++ [ns.length] },kv,y.2.2)) am.out hg,h3,λu=>Pf h3 M.out.gne⟩);clear bP bO;refine tR bJ [99,100,101,102,103,104,105,106,107,108,109,110,111,112,113,114,115,116,117,118,119] 135 rfl d' d' (λd v w'=>RG 21 99 15 16 12 17 18 21 (aCz P gn z6.length cap pre.length ls.2 (cA txt.length (L.drop (k3+1))) y.2.2) S1 SA (λw'=>Below W0.heap.size W0 w') (λx w'=> ∃w1,Below W0.heap.size W0 w1/\x= .slice (some ⟨w1.heap.size,0,none⟩) 1 1/\w'=w1.alloc (.cells #[ls.2,((cA txt.length (L.drop (k3+1)):Nat):Int)] 42)) (λx w'=> ∃w1,Below W0.heap.size W0 w1/\w'.ownsRow w0.heap.size 42 2 x (y.1.pcs.length+1) (kU y.1.pcs++ [.int .i64 (ls.2:Int), .int .i64 ((cA txt.length (L.drop (k3+1)):Nat):Int)])/\w1.grownBy w' (y.2.2).ownBlock/\(x.ownBlock=(y.2.2).ownBlock\/x.ownBlock=some (w1.heap.size+1))) (λw'=> ∃x w1,((λx w'=> ∃w1,Below W0.heap.size W0 w1/\w'.ownsRow w0.heap.size 42 2 x (y.1.pcs.length+1) (kU y.1.pcs++ [.int .i64 (ls.2:Int), .int .i64 ((cA txt.length (L.drop (k3+1)):Nat):Int)])/\w1.grownBy w' (y.2.2).ownBlock/\(x.ownBlock=(y.2.2).ownBlock\/x.ownBlock=some (w1.heap.size+1))) x w1)/\w'=w1.setCell ⟨gn,pre.length*7+6,none⟩ x) d v w') ⟨λ_ _ _ _ h=>absurd h b_,by rw[F];exact aV.out _ (aB _ _),λ_=>by rw[F];exact HS.out _ (aB _ _),λh=>absurd h b_,λh=>absurd h b_,λh=>absurd h b_,λh=>absurd h b_,λh=>absurd h b_,λ_=>by rw[F];exact aB _ _,λh=>absurd h b_,λh=>absurd h b_,λh=>absurd h b_⟩ ?_ ?_
    ·exact qp
    intro v wy A;obtain⟨eZ,w7,⟨w1,hA,aw,aA,ad⟩,ep⟩:=A.w3 b_;obtain⟨cz,ax⟩:=(M.out.keep hA).pc (m:=(ls.2,cA txt.length (L.drop (k3+1)))) am.out (H:=w1.heap.size+1) a_ (aZ aX hA.size) aw aA ad;rw[<-ep] at cz ax;have aY:=cz.toJ;rw[<-fb.out,(Df (z:=z4) (n:=pre.length) (k:=ns.length) (pc:=(ls.2,cA txt.length (L.drop (k3+1)))) HY.out),HZ.out] at aY;have Z:=hid aY;have T:=hid (bW.out.trans ((Fr.of_below (P:=P) hA aX).trans ax));clear cz ax aY aw aA ad ep A aQ aV HS M ap au hA bW F aX W0 SA S1 w7 w1 a6 bY CH dv;simp only[cS,dF,cP,dG];have eY:w0.heap.size<=wy.heap.size:=aZ cO T.out.sz;have fy:q1≠0:=a_;obtain⟨t8,aE⟩: ∃t,L[k3+1]?=some t:=⟨_,bC (yM (by rw[bx.out];exact fy))⟩;have bc:=wQ aE;have cp:t8.kind=q1:=by have:=bx.out;rw[bc] at this;exact this
    have a8:cA txt.length (L.drop (k3+1))=t8.sf:=by rw[bc];rfl
    have bG:=eD.out;rw[bc] at bG;simp only[] at bG;rw[cp] at bG;rw[a8] at Z U;have eg:=hid (fi.out.fr T.out (λcs t fz hp=>by obtain⟨z1,ef,_,dw,ai,_⟩:=ec.out;unfold cH at ai;rw[ai] at hp;injection hp with hp;injection hp with _ hp;rw[<-hp];decide));have eO:Hid (∀w',Below wy.heap.size wy w'->Calls Tryz.prog 168 #[some P] w' λe w2=>e= .returned (.int .i64 (q1:Int))/\Below w'.heap.size w' w2):=hid (λw' N=>by have:=vC _ P txt L (k3+1) _ w' (Z.out.keep N) a_;rw[bx.out] at this;exact this);have eQ:Hid (∀w',Below wy.heap.size wy w'->Calls Tryz.prog 170 #[some P] w' λe w2=>e= .returned (.int .i64 (t8.sf:Int))/\Below w'.heap.size w' w2):=hid (λw' N=>by have:=Gt _ P txt L (k3+1) _ w' (Z.out.keep N) a_ a_;rw[a8] at this;exact this);have c7:=bD aE;have htb8:=cf.out t8 c7;have hsf8:(t8.sf:Int)<=65536:=a_;have hsf80:(0:Int)<=(t8.sf:Int):=a_;have eE:=fq.out t8 c7;obtain⟨k4,cL⟩:=exQ<|k3+1;have hk4b:(k4:Int)<=65536:=a_;have cB:=hid bG;have bM:=hid aE;have eu:k4<L.length:=by rw[<-cL];exact(aR.1 aE).1
    rw[cL] at Z bM cB;clear bG aE bc cp a8 c7;go_wp2_with fail;refine(eO.out _ (aB _ _)).mono ?_;rintro e w4 ⟨rfl,aO⟩;have a7:=hid aO;clear aO;go_wp2_with fail;refine(eQ.out _ a7.out).mono ?_;rintro e w5 ⟨rfl,ak⟩;have bf:=aC a7.out ak;have ds:=Z.out.keep bf;obtain⟨c2,f2⟩:=ds.c2;obtain⟨ag,bq⟩:=ds.step eu;have ab:=hid (T.out.trans ((Fr.of_below (P:=P) bf eY).trans bq));have aj:=hid ag;have a4:=hid bf;have ek:((k4+1:Nat):Int)=(k4:Int)+1:=a_;rw[ek] at aj ab;clear ds ag bq bf ak ek;by_cases hcl8:q1=closing
    ·have dN:((q1:Int)==(closing:Int))=true:=by rw[hcl8];simp
     have C:=cB.out;rw[if_pos hcl8] at C;have HR:=hid C;clear C hcl8 hgo;go_wp2_with fail;go_ret;rw[<-HR.out];exact⟨rfl,⟨k4,t8,rfl,bM.out,rfl,aj.out⟩,O.out.trans ab.out⟩
    ·have dN:((q1:Int)==(closing:Int))=false:=by simp;omega
     have c9:q1=6:=hgo.resolve_right hcl8;have C:=cB.out;rw[if_neg hcl8,if_pos c9] at C;have ej:t8.st=t8.sf+1:=eE (by have:=bx.out;rw[cL,wQ bM.out] at this;rw[show t8.kind=q1 from this];exact c9);have cJ:(t8.sf:Int)+1=(t8.st:Int):=a_;have HR:=hid C;have bQ:=cT w5 P 2 (.int .i64 ((k4:Int)+1));have eU:Hid (kP w.heap.size (w5.setCell ⟨P,2,none⟩ (.int .i64 ((k4:Int)+1))) u9 aa):=hid (by have h1:=eg.out.keep a4.out;refine World.ownsRow.kept h1 bQ ?_;obtain⟨z1,ef,_,dw,ai,_⟩:=Z.out.keep a4.out;unfold cH at ai;exact cQ h1 ai b_);have bU:(eM pre.length ns.length (ls.2,t8.sf) (ns++D)).length+(L.drop (k4+1)).length<=131074:=by
      unfold eM;rw[lM,aT];rw[aU,aU] at cr;rw[aU] at hN ⊢;omega
     have bd:nodes.length<=(eM pre.length ns.length (ls.2,t8.sf) (ns++D)).length:=by
      unfold eM;rw[lM,aT];omega
     have em:(eM pre.length ns.length (ls.2,t8.sf) (ns++D)).length<=4096:=by
      unfold eM;rw[lM];exact cD
     have ey:(L.drop (k4+1)).length<f:=by
      rw[aU] at hf ⊢;omega
     have en:=aj.out.kN;have hks9:ks<L.length:=a_;clear C hcl8 hgo c9 ej bQ;go_wp2_with fail;go_roundw
     ·exact⟨aa,k4+1,(t8.sf,t8.st),_,_,_,f,u9,rfl,by rw[<-cJ],eU,aj,U,HR,ey,bd,em,bU,a_,by simp only[];omega,hid (O.out.trans ab.out)⟩
     ·rw[en,e6];omega
end Go.Proofs.YtfhjncbdgjlcoaaGreatDoor
