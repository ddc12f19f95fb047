import Derived.Test.YtfhjncbdgjlcoaaGreatDoorYn41
import Derived.Test.YtfhjncbdgjlcoaaGreatDoorYn42
set_option linter.unusedVariables false
set_option linter.unusedSimpArgs false
set_option maxRecDepth 100000
set_option maxHeartbeats 80000000
namespace Go.Proofs.YtfhjncbdgjlcoaaGreatDoor
open Tryz
set_option linter.unnecessarySimpa false
open Go.RowKit Go.Maps Go.WideMaps
open Go.Lib hiding intOf
theorem Qe {w:World}{P j X i:Nat}{u v:Value} (h:w.cell? (P,j)=some u) (hne:X≠P):(w.setCell ⟨X,i,none⟩ v).cell? (P,j)=some u:=by
 rw[jQ (eW w ⟨X,i,none⟩ v P (λe=>hne e.symm))];exact h
theorem QZ.gne {B P:Nat}{txt:aC}{L:List aR}{k:Nat}{z:List ND}{g n c:Nat}{w:World} (h:QZ B P txt L k z (.slice (some ⟨g,0,none⟩) n c) w):g≠P:=by
 rintro rfl;obtain⟨lv,b,_,_,d,_⟩:=h;obtain⟨cur,a⟩:=lI d.row g rfl;unfold cN at b;rw[b] at a;injection a with a;injection a with _ a;exact absurd a b_
def kN (P:Nat) (w:World):Nat:=match w.cell? (P,2) with
 | some (.int .i64 n)=>n.toNat
 | _=>0
theorem QJ.step {B P:Nat}{txt:aC}{L:List aR}{k:Nat}{nodes:List aM}{w:World} (h:QJ B P txt L k nodes w) (hk:k<L.length):QJ B P txt L (k+1) nodes (w.setCell ⟨P,2,none⟩ (.int .i64 ((k+1:Nat):Int)))/\Fr B P w (w.setCell ⟨P,2,none⟩ (.int .i64 ((k+1:Nat):Int))):=by
 obtain⟨z,nv,c,h⟩:=h;have a:B<=P:=by obtain⟨_,_,_,_,_,b⟩:=h;exact b
 exact⟨⟨z,nv,c,h.step hk⟩,Fr.setP a⟩
theorem QJ.c2 {B P:Nat}{txt:aC}{L:List aR}{k:Nat}{nodes:List aM}{w:World} (h:QJ B P txt L k nodes w):w.cell? (P,2)=some (.int .i64 (k:Int))/\w.frozen? ⟨P,2,none⟩=false:=by
 obtain⟨z,nv,hz,lv,h,_⟩:=h;exact⟨h.cells.2.2.1,h.cells.2.2.2.2.2.2.2.1⟩
theorem QJ.kN {B P:Nat}{txt:aC}{L:List aR}{k:Nat}{nodes:List aM}{w:World} (h:QJ B P txt L k nodes w):kN P w=k:=by
 unfold Go.Proofs.YtfhjncbdgjlcoaaGreatDoor.kN;rw[h.c2.1];simp
theorem QJ.c3 {B P:Nat}{txt:aC}{L:List aR}{k:Nat}{nodes:List aM}{w:World} (h:QJ B P txt L k nodes w): ∃p c,w.cell? (P,3)=some (.slice p nodes.length c):=by
 obtain⟨z,nv,b,lv,h,_,_,a,_⟩:=h;obtain⟨p,c,rfl⟩:=a.slice;exact⟨p,c,by rw[h.cells.2.2.2.1,<-b,bP]⟩
def aDm (P gn nl cap pl ml:Nat) (yv:Value):Nat->Value
 | 0=> .pointer (some ⟨P,0,none⟩)
 | 1=> .pointer (some ⟨P,0,none⟩)
 | 2=> .pointer (some ⟨P,3,none⟩)
 | 3=> .slice (some ⟨gn,0,none⟩) nl cap
 | 4=> .int .i64 (pl:Int)
 | 5=> .pointer (some ⟨P,0,none⟩)
 | 6=> .pointer (some ⟨P,0,none⟩)
 | 7=> .pointer (some ⟨P,3,none⟩)
 | 8=> .slice (some ⟨gn,0,none⟩) nl cap
 | 9=> .int .i64 (pl:Int)
 | 10=> .pointer (some ⟨gn,pl*7,none⟩)
 | 11=> .pointer (some ⟨gn,pl*7+5,none⟩)
 | 12=>yv
 | 13=> .int .i64 (ml:Int)
 | 16=> .pointer (some ⟨gn,pl*7,none⟩)
 | 17=> .pointer (some ⟨gn,pl*7+5,none⟩)
 | _=>undef
def aDn (P gn nl cap pl l2 hh:Nat) (yv:Value):Nat->Value
 | 0=> .pointer (some ⟨P,0,none⟩)
 | 1=> .pointer (some ⟨P,0,none⟩)
 | 2=> .pointer (some ⟨P,3,none⟩)
 | 3=> .slice (some ⟨gn,0,none⟩) nl cap
 | 4=> .int .i64 (pl:Int)
 | 5=> .pointer (some ⟨P,0,none⟩)
 | 6=> .pointer (some ⟨P,0,none⟩)
 | 7=> .pointer (some ⟨P,3,none⟩)
 | 8=> .slice (some ⟨gn,0,none⟩) nl cap
 | 9=> .int .i64 (pl:Int)
 | 10=> .pointer (some ⟨gn,pl*7,none⟩)
 | 11=> .pointer (some ⟨gn,pl*7+6,none⟩)
 | 12=>yv
 | 13=> .int .i64 (l2:Int)
 | 14=> .pointer (some ⟨P,0,none⟩)
 | 15=> .int .i64 (hh:Int)
 | 16=> .agg #[l2,hh]
 | 19=> .pointer (some ⟨gn,pl*7,none⟩)
 | 20=> .pointer (some ⟨gn,pl*7+6,none⟩)
 | _=>undef
theorem aDo (w0:World) (P:Nat) (txt:aC) (L:List aR) (lv:Nat) (IH:Cx w0 P txt L lv) (w:World) (k:Nat) (tb:aR) (pre:List aM) (x:aM) (post nodes:List aM) (lev:Int) (closing:Nat) (obj:Bool)
  (h:QJ w0.heap.size P txt L (k+1) nodes w) (hLb:L[k]?=some tb) (hmid:gK pre x post nodes) (hb:aA w0 w) (hN:nodes.length+(L.drop (k+1)).length<=131074) (hN4:nodes.length<=4096) (hl:lev+1=33-(lv:Int)) (hlev:0<=lev/\lev<=32)
  (hL:L.length<=65536) (hs:txt.length<=65536) (hTB: ∀t∈L,t.sf<=t.st/\t.st<=txt.length) (hsg: ∀t∈L,t.kind=6->t.st=t.sf+1) (hc:(closing=5/\obj=false)\/(closing=3/\obj=true)):
  Calls prog 169 #[some P,pre.length,lev,closing] w
   (rE w0.heap.size P txt L (gV txt (bS txt lv) closing obj pre.length (L.drop (k+1)) (tb.sf,tb.st) nodes) w):=by
 obtain⟨R,C⟩:=exQ<|gV txt (bS txt lv) closing obj pre.length (L.drop (k+1)) (tb.sf,tb.st) nodes;rw[C];have F:w0.heap.size<=w.heap.size:=hb.size;obtain⟨fa,af⟩:=h.ptr;obtain⟨fy,fn⟩:=hlev;obtain⟨kk,e9⟩:=exQ<|k+1;rw[e9] at h hN C;have hkz:(kk:Int)-1=(k:Int):=a_
 have fF:(0:Int)<=(k:Int):=a_
 have hkl:(k:Int)<(L.length:Int):=by have:=(aW.1 hLb).1;omega
 have dN:=h.qN;have dQ:=hid dN;have HB:=hid hb;have HJ:=hid h;have U:=hid hmid;have cb:=hid hTB;have fo:=hid hsg;have hkb:(kk:Int)<=65536:=by have:=h.le;omega
 obtain⟨z,nv,hz,lvv,qb,qt,_⟩:=h;obtain⟨c0,c1,c2,c3,c4,c5,f1,f2,f3,f4,f5⟩:=qb.cells;obtain⟨g,o,c,rfl,hcc,t0,t1,t2,_⟩:=qt.tok hLb;obtain⟨q,hq⟩:=exQ<|dY (L.drop kk);have CK:Hid (∀w',aA w w'->Calls prog 168 #[some P] w' (aT w' (.int .i64 (q:Int)))):=hid (λw' M=>by have:=vM _ P txt L kk nodes w' (HJ.out.keep M) a_;rw[hq] at this;exact this);have hcl0:closing≠0:=a_
 by_cases hcl:q=closing
 .subst hcl;obtain⟨t,dK⟩: ∃t,L[kk]?=some t:=⟨_,bI (zD a_)⟩;have bn:=xD dK;have d4:t.kind=q:=by rw[bn] at hq;exact hq
  have bE:JR.ok (L.drop (kk+1)) (t.sf,t.st) nodes=R:=by
   rw[<-C,bn];unfold gV;simp only[d4,if_true]
  have de:((q:Int)==(q:Int))=true:=e_
  have HR:=hid bE;have d0:=hid dK;clear bn d4 C bE dK hq hb hmid hTB hsg qt dN;go_in;go_upto_region 2 with fail;go_region;go_wp2_with fail;refine aH (CK.out _ (aD _ _).drew) λw2 bO=>?_;have a4:=aE (aD w.heap.size w).drew bO;have cS:=HJ.out.keep a4;obtain⟨c2',f2'⟩:=cS.c2;obtain⟨aP,dz⟩:=cS.step (aW.1 d0.out).1;have ek:((kk+1:Nat):Int)=(kk:Int)+1:=a_
  rw[ek] at aP dz;have bq:=hid aP;have O:=hid ((Fr.of_below (P:=P) a4 F).trans dz);clear cS aP dz a4 bO ek;go_wp2;go_ret;rw[<-HR.out];exact⟨rfl,⟨kk,t,rfl,d0.out,rfl,bq.out⟩,O.out⟩
 .have ay: ∃f,(L.drop kk).length<f/\jF txt (bS txt lv) closing obj pre.length f [] (L.drop kk) (tb.sf,tb.st) nodes=R:=by
   rw[<-C];unfold gV;cases hd:L.drop kk with
   | nil=>exact⟨1,e_,rfl⟩
   | cons t r=>
    rw[hd] at hq;have ey:t.kind=q:=hq;exact⟨(t::r).length+1,e_,(if_neg (show ¬t.kind=closing by rw[ey];exact hcl)).symm⟩
  obtain⟨f0,bm,br⟩:=ay;have fb:=hid br;have dcl:((q:Int)==(closing:Int))=false:=by simp;omega
  have eK:=hid IH;have b6:=hN;clear br C hq hb hmid hTB hsg qt dN hcl IH hz;go_in;go_upto_region 2 with fail;go_region;go_wp2_with fail;refine aH (CK.out _ (aD _ _).drew) λw2 bO=>?_;have a4:=aE (aD w.heap.size w).drew bO;have bo:=hid (HJ.out.keep a4);have a9:=hid (Fr.of_below (P:=P) a4 F);have ei:lN w.heap.size w2 (.slice none 0 0) []:=⟨rfl, .inl ⟨rfl,rfl⟩⟩;have fs:=hid ei;clear a4 bO c0 c1 c2 c3 c4 c5 f1 f2 f3 f4 f5 t0 t1 t2 CK HJ ei;go_wp2;go_loopw [9,10] (λs9 fC wr=> ∃(hm:List aC) (ks:Nat) (ls:Sp) (ns:List aM) (x:aM) (post:List aM) (f:Nat) (hv:Value),s9=hv/\fC= .int .i64 (ls.2:Int)/\Hid (lN w.heap.size wr hv hm)/\Hid (QJ w0.heap.size P txt L ks ns wr)/\Hid (gK pre x post ns)/\Hid (jF txt (bS txt lv) closing obj pre.length f hm.reverse (L.drop ks) ls ns=R)/\(L.drop ks).length<f/\nodes.length<=ns.length/\ns.length<=4096/\ns.length+(L.drop ks).length<=131074/\hm.length<=ks/\ls.2<=65536/\Hid (Fr w0.heap.size P w wr)) (λ_ _ wr=>L.length-kN P wr)
  case atStart=>exact⟨[],kk,_,nodes,x,post,f0,_,rfl,rfl,fs,bo,U,fb,bm,aF _,hN4,hN,cI _,by have:=(cb.out tb (bH hLb)).2;simp only[];omega,a9⟩
  case round=>
   obtain⟨hm,ks,ls,ns,x,post,f,hv,rfl,rfl,HH,bQ,HM,HL,hf,dg,eG,hN,fv,hls,W⟩:=hrel;obtain⟨f,rfl⟩: ∃f',f=f'+1:=⟨f-1,a_⟩;have fI:=bQ.out.kN;have c7:=HL.out;unfold jF at c7;have dI:=hid c7;clear c7 HL;have am:w0.heap.size<=wr.heap.size:=bF F W.out.sz;have b1:=aL wr (.cells #[(0:Int),(0:Int)] 42);have ca:=heap_alloc_new wr (.cells #[(0:Int),(0:Int)] 42);obtain⟨K,cp⟩:=exQ<|wr.heap.size;obtain⟨W1,eg⟩:=exQ<|wr.alloc (.cells #[(0:Int),(0:Int)] 42);rw[eg] at b1 ca;rw[cp] at ca;have cM:=hid (bQ.out.keep b1);have cm:=hid (HH.out.keep b1);have ce:=hid ca;have bw:=hid (W.out.trans (Fr.of_below (P:=P) b1 am));have eM:w.heap.size<=K:=by rw[<-cp];exact W.out.sz
   have dh:K≠P:=by have:=bQ.out.ptr.1;omega
   have bJ:w0.heap.size<=W1.heap.size:=bF F bw.out.sz;obtain⟨z,nv,hz,c9⟩:=bQ.out;have b9:=hid (aK hz c9);have cV:=hid (c9.keep b1);have eF:wr.heap.size<=K:=mP cp;clear b1 ca bQ HH W am hz c9;go_upto_if 43 with fail;clear eg cp;go_cut [9,12,13,14,44,45,46,47,48,49,50,51,52,53,54,55,56,57] (λs9 s12 s13 s14 s44 s45 s46 s47 s48 s49 s50 s51 s52 s53 s54 s55 s56 s57 wx=> ∃(aa:List aC) (k2:Nat) (lq:Sp) (kp:Sp),Hid (lN w.heap.size wx s9 aa)/\Hid (QJ w0.heap.size P txt L k2 ns wx)/\Hid (wx.heap[K]?=some (.cells #[kp.1,kp.2] 42))/\Hid (gU txt (bS txt lv) obj hm.reverse (L.drop ks) ls ns=(bS txt lv (L.drop k2) lq ns kp,aa.reverse))/\ks<=k2/\aa.length<=k2/\Hid (Fr w0.heap.size P w wx))
   case first=>
    rcases hc with⟨rfl,rfl⟩ | ⟨rfl,rfl⟩
    .go_wp2;go_meet;exact⟨hm,ks,ls,(0,0),cm,cM,ce,hid (by unfold gU;rw[if_pos rfl]),aF _,fv,bw⟩
    .have hks:ks<=L.length:=cM.out.le;have bG:=aDe w0.heap.size P txt L ks z nv W1 cV.out w.heap.size u9 hm cm.out hL hs cb.out a_;obtain⟨eL,ds⟩:=exQ<|pK txt hm (L.drop ks);rw[ds] at bG;have cz:=hid bG;have eI:=hid ds;clear bG ds;cases eL with
     | bad a er=>
      obtain⟨h',av⟩:=aDi (V:=bS txt lv) (ls:=ls) (ns:=ns) eI.out;have C:=dI.out;rw[av] at C;have HR:=hid (show JR.bad a er=R from C);clear C av;go_wp2_with fail;refine cz.out.mono ?_;rintro e w3 ⟨⟨s,xx,yy,rfl⟩,ae,ho⟩;have O:=hid (bw.out.trans (dT.fr ho af bJ));have bB:=hid ae;have fA:Hid (qN P w<=z.length):=hid (by have h1:=dQ.out;have h2:=congrArg List.length b9.out.1;rw[bP] at h2;omega);clear ae ho;go_wp2;go_ret;rw[<-HR.out];exact⟨rfl,(bB.out.keep (aL _ _)).mono fA.out,O.out.trans (Fr.of_below (aL _ _) (bF F O.out.sz))⟩
     | ok key t=>
      obtain⟨c',r2,bn,av⟩:=aDj (V:=bS txt lv) (ls:=ls) (ns:=ns) eI.out;have ct:r2=L.drop (ks+2):=by rw[<-jO,bn];rfl
      rw[ct] at av;have cj:=hid av;clear av bn ct;go_wp2_with fail;refine cz.out.mono ?_;rintro e w3 ⟨rfl,es,ho⟩;have O:=hid (bw.out.trans (dT.fr ho af bJ));have dR: ∀cs t fz,W1.heap[P]?=some (.cells cs t fz)->t≠9:=λcs t fz hp=>by
       obtain⟨cJ,aj,_⟩:=cV.out;unfold cN at aj;rw[aj] at hp;injection hp with hp;injection hp with _ hp;rw[<-hp];decide
      have ev:=hid (cm.out.fr (dT.fr ho af bJ) dR);have cE:=hid ((ho.block K (aG ce.out) (by simpa using dh)).trans ce.out);have eE:=hid es;clear dR es ho cz;go_upto_region 11 with fail;have b4:=aL w3 (.cells #[.int .i64 (t.sf:Int), .int .i64 (t.st:Int)] 42);have cn:=heap_alloc_new w3 (.cells #[.int .i64 (t.sf:Int), .int .i64 (t.st:Int)] 42);obtain⟨S,dL⟩:=exQ<|w3.heap.size;obtain⟨W4,dk⟩:=exQ<|w3.alloc (.cells #[.int .i64 (t.sf:Int), .int .i64 (t.st:Int)] 42);rw[dk] at b4 cn;rw[dL] at cn;rw[dk,dL];have ag:=hid (O.out.trans (Fr.of_below (P:=P) b4 (bF F O.out.sz)));have bx:=hid (ev.out.keep b4);have cL:=hid ((b4.block _ (aG cE.out)).trans cE.out);have db:=hid cn;have co:=hid (eE.out.keep b4);have ea:w.heap.size<=W4.heap.size:=ag.out.sz;have d3:=bx.out;clear dk dL b4 cn ev cE eE;go_wp2_with (at_builtin;go_must (refine aDh DS (.tmp 53) (.tmp 55) rfl w.heap.size W4 u9 hm key rfl d3 rfl a_ ea ?_);intro kv w5 bj aB;have dB:=(aB.block K (aG cL.out) (λe=>by rcases dG bx.out cL.out b_ with h1 | h1;(· rw[h1] at e;cases e);(· exact h1 e.symm))).trans cL.out;have ec:=(aB.block S (aG db.out) (λe=>by rcases dG bx.out db.out b_ with h1 | h1;(· rw[h1] at e;cases e);(· exact h1 e.symm))).trans db.out;obtain⟨s0,s1,_,_⟩:=mF ec;obtain⟨x0,x1,fx0,fx1⟩:=mF dB);have a1:=hid dB;have eV:=hid (ag.out.newN aB (λb hb=>(World.ownsRow.lt bx.out b hb).1) F);have dC:=hid (co.out.grow bx.out aB);have el:=hid bj;clear dB ec bj aB;have ed:w0.heap.size<=K:=bF F eM;have fM:=hid (cA (cA a1.out 0 (.int .i64 (t.sf:Int))) 1 (.int .i64 (t.st:Int)));have eP:=hid (QZ.offK (i:=1) (u:= .int .i64 (t.st:Int)) (QZ.offK (i:=0) (u:= .int .i64 (t.sf:Int)) dC.out b9.out.2.at_ eF dh a1.out) b9.out.2.at_ eF dh (cA a1.out 0 _));have fq:=hid (eV.out.trans ((Fr.setM (i:=0) (u:= .int .i64 (t.sf:Int)) a1.out b_ ed).trans (Fr.setM (i:=1) (u:= .int .i64 (t.st:Int)) (cA a1.out 0 _) b_ ed)));have fE:Hid (lN w.heap.size ((w5.setCell ⟨K,0,none⟩ (.int .i64 (t.sf:Int))).setCell ⟨K,1,none⟩ (.int .i64 (t.st:Int))) kv (hm++ [key])):=hid (by have h1:lN w.heap.size (w5.setCell ⟨K,0,none⟩ (.int .i64 (t.sf:Int))) kv (hm++ [key]):=World.ownsRow.kept el.out (dP w5 K 0 _) (dG el.out a1.out b_);exact World.ownsRow.kept h1 (dP _ K 1 _) (dG h1 (cA a1.out 0 _) b_));go_meet;exact⟨hm++ [key],ks+2,(c'.sf,c'.st),(t.sf,t.st),fE,hid (eP.out.toJ.cast b9.out.1),fM,hid (by rw[cj.out,List.reverse_append];rfl),a_,by rw[aZ,dF];omega,fq⟩
   obtain⟨aa,k2,lq,kp,d5,bo,fh,cj,hk2,hhm2,a9⟩:=hcut;have cd:=dI.out;rw[cj.out] at cd;have hdl:(L.drop k2).length<=(L.drop ks).length:=by rw[bC,bC];omega
   obtain⟨Q1,ci⟩:=exQ<|bS txt lv (L.drop k2) lq ns kp;rw[ci] at cd;have dl:=hid cd;have cx:=hid ci;have hBwc:w0.heap.size<=wc.heap.size:=bF F a9.out.sz;have CV:=eK.out wc k2 lq ns kp (33-(lv:Int)) bo.out (HB.out.trans a9.out.bel) a_ eG rfl;rw[ci] at CV;have ef:=hid CV;obtain⟨p3,cp3,c3⟩:=bo.out.c3;obtain⟨x0,x1,_,_⟩:=mF fh.out;clear CV cd ci dI cj ce cm cM cV bw;go_wp2_with fail;refine ef.out.mono ?_;rintro e w3 hE;clear c3 x0 x1;cases Q1 with
   | bad a er=>
    obtain⟨rfl,ae,hf⟩:=hE;have HR:=hid (show JR.bad a er=R from dl.out);have dw:Hid (qN P w<=qN P wc):=hid (by rw[dQ.out,bo.out.qN];exact dg);have bB:=hid ae;have O:=hid (a9.out.trans hf);clear ae hf;go_wp2;go_ret;rw[<-HR.out];exact⟨rfl,bB.out.mono dw.out,O.out⟩
   | ok r1 l1 ns1=>
    obtain⟨rfl,⟨k3,t3,rfl,hLt3,rfl,aP⟩,hf⟩:=hE;obtain⟨D,rfl,aJ,cu,⟨kd,bk⟩,bd⟩:=nY txt lv _ _ _ _ _ _ _ cx.out;have dx:=Qc txt lv _ _ _ _ _ _ _ cx.out eG;have O:=hid (a9.out.trans hf);have bq:=hid aP;have fK:=hid (d5.out.fr hf (λcs t fz hp=>by obtain⟨z1,dX,_,cJ,aj,_⟩:=bo.out;unfold cN at aj;rw[aj] at hp;injection hp with hp;injection hp with _ hp;rw[<-hp];decide));have dV:=dl.out;obtain⟨q1,dp⟩:=exQ<|dY (L.drop (k3+1));have hk3:k3+1<=L.length:=aP.le;have hk23:k2<k3+1:=by
     rw[bC,bC] at cu;omega
    have ch:Hid (∀w',aA w3 w'->Calls prog 168 #[some P] w' (aT w' (.int .i64 (q1:Int)))):=hid (λw' M=>by have:=vM _ P txt L (k3+1) (ns++D) w' (bq.out.keep M) a_;rw[dp] at this;exact this);have bX:=hid dp;have d2:=hid dV;have ez:=hid aP;clear hf aP dV dp bk dl ef d5 a9;by_cases hgo:q1=6\/q1=closing
    case neg=>
     have SY:=trivial;exact QH
    go_upto_region 17 with fail;go_cut [71,72,73,74,75,76,77,78] (λs71 s72 s73 s74 s75 s76 s77 fH wx=>fH= .bool false/\Hid (aA w3 wx))
    case first=>
     by_cases h6:q1=6
     .have d6:((q1:Int) !=6)=false:=by rw[h6];rfl
      clear h6 hgo;go_wp2_with fail;refine aH (ch.out _ (aD _ _)) λw4 aS=>?_;have aX:=hid aS;clear aS;go_wp2;go_meet;exact⟨rfl,aX⟩
     .exact QH
    obtain⟨rfl,dm⟩:=hcut;have U:=hid (HM.out.add bd aJ ns.length (ls.2,cH txt.length (L.drop (k3+1))));have a7:w0.heap.size<=wc.heap.size:=bF (bF F O.out.sz) dm.out.size;have cG:w0.heap.size<=w3.heap.size:=bF F O.out.sz;have ag:=hid (Fr.of_below (B:=w0.heap.size) (P:=P) dm.out cG);obtain⟨z4,nv4,cg,dt⟩:=bq.out.keep dm.out;have dM: ∃x0,(ns++D)[pre.length]?=some x0/\x0.kids.length<=131074/\x0.pcs.length<=131074:=by
     obtain⟨e1,e2,e3,e4⟩:=HM.out;exact FK
    have eR:pre.length<ns.length:=by
     have:=congrArg List.length HM.out.1;simp only[aZ,bM] at this;omega
    obtain⟨fp,aU,hk0',fl⟩:=dM;obtain⟨y,hy,rfl⟩: ∃y:ND,z4[pre.length]?=some y/\y.1=fp:=by
     rw[<-cg,cF] at aU;obtain⟨y,h1,h2⟩:=uM.1 aU;exact⟨y,h1,h2⟩
    have bc:z4.length=ns.length+D.length:=(by rw[<-bP (f:=(·.1)),cg,aZ]);obtain⟨gn,cap,rfl,eA⟩:=dt.form (λe=>by rw[e] at hy;simp at hy);have co:=hid dt;have HY:=hid hy;have HZ:=hid cg;have fD:=hid bc;have hpl4:(pre.length:Int)<(z4.length:Int):=a_;have hpl0:(0:Int)<=(pre.length:Int):=a_;clear aU cg bc dt hy bq ch;have bD:=ag;go_upto_region 19 with fail;have bL:prog.follows .mixedOrders=true:=d';obtain⟨W0,G⟩:=exQ<|wc.drew;have bU:QZ w0.heap.size P txt L (k3+1) z4 (.slice (some ⟨gn,0,none⟩) z4.length cap) W0:=by rw[<-G];exact co.out.keep (aD _ wc).drew
    have N:=hid bU;have a0:w0.heap.size<=W0.heap.size:=by rw[<-G];exact a7
    have b8:Fr w0.heap.size P w3 W0:=by rw[<-G];exact bD.out.trans (Fr.of_below (P:=P) (aD _ wc).drew a7)
    have bu:=hid b8;obtain⟨SA,ap⟩: ∃S:World->Prop,(λw'=>w'.cell? (gn,pre.length*7+5)=some y.2.1/\w'.frozen? ⟨gn,pre.length*7+5,none⟩=false)=S:=⟨_,rfl⟩;obtain⟨S1,aq⟩: ∃S:World->Prop,(λw'=>w'.cell? (P,3)=some (.slice (some ⟨gn,0,none⟩) z4.length cap))=S:=⟨_,rfl⟩;have HS:Hid (∀w2,aA W0 w2->SA w2):=hid (λw2 hb=>by rw[<-ap];exact(N.out.keep hb).at_.at_ HY.out 5 a_ rfl);have a2:Hid (∀w2,aA W0 w2->S1 w2):=hid (λw2 hb=>by rw[<-aq];exact(N.out.keep hb).c3);have aQ:Hid (∀w1 w2,aA W0 w1->w1.grownBy w2 (y.2.1).ownBlock->SA w2/\S1 w2/\ ∀u,S1 (w2.setCell ⟨gn,pre.length*7+5,none⟩ u)):=hid (λw1 w2 hb hg=>by have h3:=(N.out.keep hb).c3_kids (bH HY.out) hg;rw[<-ap,<-aq];exact⟨(N.out.keep hb).at_.cellK HY.out hg,h3,λu=>Qe h3 N.out.gne⟩);clear bU b8;refine uL bL [81,82,83,84,85,86,87,88,89,90,91,92,93,94,95,96,97,98] 135 rfl d' d' (λd v w'=>RG 18 81 13 13 12 14 15 18 (aDm P gn z4.length cap pre.length ns.length y.2.1) S1 SA (λw'=>aA W0 w') (λx w'=> ∃w1,aA W0 w1/\x= .slice (some ⟨w1.heap.size,0,none⟩) 1 1/\w'=w1.alloc (.cells #[ns.length] 3)) (λx w'=> ∃w1,aA W0 w1/\w'.ownsRow w0.heap.size 3 1 x (y.1.kids.length+1) (dH y.1.kids++ [.int .i64 (ns.length:Int)])/\w1.grownBy w' (y.2.1).ownBlock/\(x.ownBlock=(y.2.1).ownBlock\/x.ownBlock=some (w1.heap.size+1))) (λw'=> ∃x w1,((λx w'=> ∃w1,aA W0 w1/\w'.ownsRow w0.heap.size 3 1 x (y.1.kids.length+1) (dH y.1.kids++ [.int .i64 (ns.length:Int)])/\w1.grownBy w' (y.2.1).ownBlock/\(x.ownBlock=(y.2.1).ownBlock\/x.ownBlock=some (w1.heap.size+1))) x w1)/\w'=w1.setCell ⟨gn,pre.length*7+5,none⟩ x) d v w') ⟨λ_ _ _ _ h=>absurd h b_,by rw[G];exact a2.out _ (aD _ _),λ_=>by rw[G];exact HS.out _ (aD _ _),λh=>absurd h b_,λh=>absurd h b_,λh=>absurd h b_,λh=>absurd h b_,λh=>absurd h b_,λ_=>by rw[G];exact aD _ _,λh=>absurd h b_,λh=>absurd h b_,λh=>absurd h b_⟩ ?_ ?_
    .have RQ:=trivial;exact PS
    intro v wz A;obtain⟨kv,w7,⟨w1,hA,au,az,ad⟩,eD⟩:=A.w3 b_;obtain⟨cW,ar⟩:=(N.out.keep hA).kid (m:=ns.length) HY.out (H:=w1.heap.size+1) a_ (bF a0 hA.size) au az ad;rw[<-eD] at cW ar;have cB:=hid cW;have ao:=hid (bu.out.trans ((Fr.of_below (P:=P) hA a0).trans ar));clear cW ar au az ad eD A aQ a2 HS N aq ap hA bu G a0 W0 SA S1 w7 w1 a7 bD;simp only[cU,cY,cQ,cZ];have a7:w0.heap.size<=wz.heap.size:=bF cG ao.out.sz;have bb:(z4.set pre.length ({ y.1 with kids:=y.1.kids++ [ns.length] },kv,y.2.2))[pre.length]?=some ({ y.1 with kids:=y.1.kids++ [ns.length] },kv,y.2.2):=(by rw[List.getElem?_set,if_pos rfl,if_pos (aW.1 HY.out).1]);have al:=hid bb;obtain⟨z6,cc⟩:=exQ<|z4.set pre.length ({ y.1 with kids:=y.1.kids++ [ns.length] },kv,y.2.2);rw[cc] at cB al;have cw:z6.length=z4.length:=(by rw[<-cc,List.length_set]);have hpl6:(pre.length:Int)<(z6.length:Int):=a_;have fw:=hid cc;have HZ6l:=hid cw;clear bb cc cw co;have fg:cH txt.length (L.drop (k3+1))<=65536:=by
     cases hd:L.drop (k3+1) with
     | nil=>exact hs
     | cons t r'=>
      have hm:t∈L:=List.mem_of_mem_drop (by rw[hd];exact kR);have:=cb.out t hm;show t.sf<=65536;omega
    have bD:=ao;go_upto_region 20 with fail;have bL:prog.follows .mixedOrders=true:=d';obtain⟨W0,G⟩:=exQ<|wz.drew;have bU:QZ w0.heap.size P txt L (k3+1) z6 (.slice (some ⟨gn,0,none⟩) z6.length cap) W0:=by rw[<-G];exact cB.out.keep (aD _ wz).drew
    have N:=hid bU;have a0:w0.heap.size<=W0.heap.size:=by rw[<-G];exact a7
    have b8:Fr w0.heap.size P w3 W0:=by rw[<-G];exact bD.out.trans (Fr.of_below (P:=P) (aD _ wz).drew a7)
    have bu:=hid b8;have CH:Hid (∀w',aA W0 w'->Calls prog 170 #[some P] w' (aT w' (.int .i64 ((cH txt.length (L.drop (k3+1)):Nat):Int)))):=hid (λw' M=>Hm _ P txt L (k3+1) _ w' (N.out.keep M).toJ a_ a_);obtain⟨SA,ap⟩: ∃S:World->Prop,(λw'=>w'.cell? (gn,pre.length*7+6)=some y.2.2/\w'.frozen? ⟨gn,pre.length*7+6,none⟩=false)=S:=⟨_,rfl⟩;obtain⟨S1,aq⟩: ∃S:World->Prop,(λw'=>w'.cell? (P,3)=some (.slice (some ⟨gn,0,none⟩) z6.length cap))=S:=⟨_,rfl⟩;have HS:Hid (∀w2,aA W0 w2->SA w2):=hid (λw2 hb=>by rw[<-ap];exact(N.out.keep hb).at_.at_ al.out 6 a_ rfl);have a2:Hid (∀w2,aA W0 w2->S1 w2):=hid (λw2 hb=>by rw[<-aq];exact(N.out.keep hb).c3);have aQ:Hid (∀w1 w2,aA W0 w1->w1.grownBy w2 (y.2.2).ownBlock->SA w2/\S1 w2/\ ∀u,S1 (w2.setCell ⟨gn,pre.length*7+6,none⟩ u)):=hid (λw1 w2 hb hg=>by have h3:=(N.out.keep hb).c3_pcs (y:=({ y.1 with kids:=y.1.kids++ [ns.length] },kv,y.2.2)) (bH al.out) hg;rw[<-ap,<-aq];exact⟨(N.out.keep hb).at_.cellP (y:=({ y.1 with kids:=y.1.kids++ [ns.length] },kv,y.2.2)) al.out hg,h3,λu=>Qe h3 N.out.gne⟩);clear bU b8;refine uL bL [99,100,101,102,103,104,105,106,107,108,109,110,111,112,113,114,115,116,117,118,119] 135 rfl d' d' (λd v w'=>RG 21 99 15 16 12 17 18 21 (aDn P gn z6.length cap pre.length ls.2 (cH txt.length (L.drop (k3+1))) y.2.2) S1 SA (λw'=>aA W0 w') (λx w'=> ∃w1,aA W0 w1/\x= .slice (some ⟨w1.heap.size,0,none⟩) 1 1/\w'=w1.alloc (.cells #[ls.2,((cH txt.length (L.drop (k3+1)):Nat):Int)] 42)) (λx w'=> ∃w1,aA W0 w1/\w'.ownsRow w0.heap.size 42 2 x (y.1.pcs.length+1) (lS y.1.pcs++ [.int .i64 (ls.2:Int), .int .i64 ((cH txt.length (L.drop (k3+1)):Nat):Int)])/\w1.grownBy w' (y.2.2).ownBlock/\(x.ownBlock=(y.2.2).ownBlock\/x.ownBlock=some (w1.heap.size+1))) (λw'=> ∃x w1,((λx w'=> ∃w1,aA W0 w1/\w'.ownsRow w0.heap.size 42 2 x (y.1.pcs.length+1) (lS y.1.pcs++ [.int .i64 (ls.2:Int), .int .i64 ((cH txt.length (L.drop (k3+1)):Nat):Int)])/\w1.grownBy w' (y.2.2).ownBlock/\(x.ownBlock=(y.2.2).ownBlock\/x.ownBlock=some (w1.heap.size+1))) x w1)/\w'=w1.setCell ⟨gn,pre.length*7+6,none⟩ x) d v w') ⟨λ_ _ _ _ h=>absurd h b_,by rw[G];exact a2.out _ (aD _ _),λ_=>by rw[G];exact HS.out _ (aD _ _),λh=>absurd h b_,λh=>absurd h b_,λh=>absurd h b_,λh=>absurd h b_,λh=>absurd h b_,λ_=>by rw[G];exact aD _ _,λh=>absurd h b_,λh=>absurd h b_,λh=>absurd h b_⟩ ?_ ?_
    .exact PS
    intro v wy A;obtain⟨fP,w7,⟨w1,hA,au,az,ad⟩,et⟩:=A.w3 b_;obtain⟨dO,aw⟩:=(N.out.keep hA).pc (m:=(ls.2,cH txt.length (L.drop (k3+1)))) al.out (H:=w1.heap.size+1) a_ (bF a0 hA.size) au az ad;rw[<-et] at dO aw;have aY:=dO.toJ;rw[<-fw.out,(Ec (z:=z4) (n:=pre.length) (k:=ns.length) (pc:=(ls.2,cH txt.length (L.drop (k3+1)))) HY.out),HZ.out] at aY;have Z:=hid aY;have T:=hid (bu.out.trans ((Fr.of_below (P:=P) hA a0).trans aw));clear dO aw aY au az ad et A aQ a2 HS N aq ap hA bu G a0 W0 SA S1 w7 w1 a7 bD CH cB;simp only[cU,cY,cQ,cZ];have fe:w0.heap.size<=wy.heap.size:=bF cG T.out.sz;have fG:q1≠0:=a_;obtain⟨t8,aI⟩: ∃t,L[k3+1]?=some t:=⟨_,bI (zD (by rw[bX.out];exact fG))⟩;have bg:=xD aI;have cr:t8.kind=q1:=by have:=bX.out;rw[bg] at this;exact this
    have a3:cH txt.length (L.drop (k3+1))=t8.sf:=by rw[bg];rfl
    have b7:=d2.out;rw[bg] at b7;simp only[] at b7;rw[cr] at b7;rw[a3] at Z U;have d7:=hid (fK.out.fr T.out (λcs t fz hp=>by obtain⟨z1,dX,_,cJ,aj,_⟩:=ez.out;unfold cN at aj;rw[aj] at hp;injection hp with hp;injection hp with _ hp;rw[<-hp];decide));have fL:Hid (∀w',aA wy w'->Calls prog 168 #[some P] w' (aT w' (.int .i64 (q1:Int)))):=hid (λw' M=>by have:=vM _ P txt L (k3+1) _ w' (Z.out.keep M) a_;rw[bX.out] at this;exact this);have fi:Hid (∀w',aA wy w'->Calls prog 170 #[some P] w' (aT w' (.int .i64 (t8.sf:Int)))):=hid (λw' M=>by have:=Hm _ P txt L (k3+1) _ w' (Z.out.keep M) a_ a_;rw[a3] at this;exact this);have df:=bH aI;have htb8:=cb.out t8 df;have hsf8:(t8.sf:Int)<=65536:=a_;have hsf80:(0:Int)<=(t8.sf:Int):=a_;have ex:=fo.out t8 df;obtain⟨k4,du⟩:=exQ<|k3+1;have hk4b:(k4:Int)<=65536:=a_;have cK:=hid b7;have bV:=hid aI;have dS:k4<L.length:=by rw[<-du];exact(aW.1 aI).1
    rw[du] at Z bV cK;clear b7 aI bg cr a3 df;go_wp2_with fail;refine aH (fL.out _ (aD _ _)) λw4 aS=>?_;have aX:=hid aS;clear aS;go_wp2_with fail;refine aH (fi.out _ aX.out) λw5 ak=>?_;have bh:=aE aX.out ak;have dD:=Z.out.keep bh;obtain⟨c2,f2⟩:=dD.c2;obtain⟨ah,bs⟩:=dD.step dS;have ab:=hid (T.out.trans ((Fr.of_below (P:=P) bh fe).trans bs));have ai:=hid ah;have a8:=hid bh;have ek:((k4+1:Nat):Int)=(k4:Int)+1:=a_;rw[ek] at ai ab;clear dD ah bs bh ak ek;by_cases hcl8:q1=closing
    .have eo:((q1:Int)==(closing:Int))=true:=by rw[hcl8];simp
     have C:=cK.out;rw[if_pos hcl8] at C;have HR:=hid C;clear C hcl8 hgo;go_wp2;go_ret;rw[<-HR.out];exact⟨rfl,⟨k4,t8,rfl,bV.out,rfl,ai.out⟩,O.out.trans ab.out⟩
    .have eo:((q1:Int)==(closing:Int))=false:=by simp;omega
     have dv:q1=6:=hgo.resolve_right hcl8;have C:=cK.out;rw[if_neg hcl8,if_pos dv] at C;have ee:t8.st=t8.sf+1:=ex (by have:=bX.out;rw[du,xD bV.out] at this;rw[show t8.kind=q1 from this];exact dv);have cy:(t8.sf:Int)+1=(t8.st:Int):=a_;have HR:=hid C;have bR:=dP w5 P 2 (.int .i64 ((k4:Int)+1));have eZ:Hid (lN w.heap.size (w5.setCell ⟨P,2,none⟩ (.int .i64 ((k4:Int)+1))) u9 aa):=hid (by have h1:=d7.out.keep a8.out;refine World.ownsRow.kept h1 bR ?_;obtain⟨z1,dX,_,cJ,aj,_⟩:=Z.out.keep a8.out;unfold cN at aj;exact dG h1 aj b_);have b6:(fB pre.length ns.length (ls.2,t8.sf) (ns++D)).length+(L.drop (k4+1)).length<=131074:=by
      unfold fB;rw[mO,aZ];rw[bC,bC] at cu;rw[bC] at hN ⊢;omega
     have bf:nodes.length<=(fB pre.length ns.length (ls.2,t8.sf) (ns++D)).length:=by
      unfold fB;rw[mO,aZ];omega
     have eC:(fB pre.length ns.length (ls.2,t8.sf) (ns++D)).length<=4096:=by
      unfold fB;rw[mO];exact dx
     have en:(L.drop (k4+1)).length<f:=by
      rw[bC] at hf ⊢;omega
     have dZ:=ai.out.kN;have hks9:ks<L.length:=a_;clear C hcl8 hgo dv ee bR;go_wp2;go_roundw
     .exact⟨aa,k4+1,(t8.sf,t8.st),_,_,_,f,u9,rfl,by rw[<-cy],eZ,ai,U,HR,en,bf,eC,b6,a_,by simp only[];omega,hid (O.out.trans ab.out)⟩
     .rw[dZ,fI];omega
end Go.Proofs.YtfhjncbdgjlcoaaGreatDoor
