import Derived.WalkMore
import Derived.BigQuiet
import Derived.Deep.DeepCutAuto
import Derived.Deep.CutBlock
import Derived.Deep.DeepMust
import Derived.Deep.RegionHeld3
import Derived.Deep.RegionLaw
import Derived.Maps.Own
set_option maxRecDepth 100000
namespace Go.Proofs.YtfhjncbdgjlcoaaGreatDoor
instance:Coe Int Value:=⟨.int .i64⟩
instance:Coe Nat Value:=⟨λn=>.int .i64 n⟩
instance:Coe ByteArray Value:=⟨.string⟩
instance:Coe Bool Value:=⟨.bool⟩
instance(n:Nat):CoeDep (Option Nat) (some n) Value:=⟨.pointer (some ⟨n,0,none⟩)⟩
instance:CoeDep Unit () Value:=⟨.slice none 0 0⟩
variable{P:Prop}
theorem qm(h:P:=by
 first|have _:=yd;obtain⟨g1,⟨m1,kr,g2⟩,⟨Af,g3⟩,g4,g5,g6⟩:=(show mN txt sp k st kid s2 from hg);simp only[] at G|obtain⟨g1,⟨m1,kr,sY⟩,⟨Af,zx⟩,g4,g5,g6⟩:=(show mN txt sp kk sr kid s2 from ds);obtain⟨hx,hxi,eY⟩:=HX.out
 have k9:=(aR.1 hx).1;first|have _:=yd;have df:s2.nodes[n]?=some x:=by rw[g2,qO k9];exact hx|have df:s2.nodes[nn]?=some x:=by rw[sY,qO k9];exact hx
 have jk:kid<s2.nodes.length:=by
  first|have _:=yd;rw[g2,aT,g1]|rw[sY,aT,g1]
  have:=qV.2 kr;omega
 first|have _:=yd;obtain⟨xk,eY⟩: ∃xk,s2.nodes[kid]?=some xk:=⟨_,bC jk⟩|obtain⟨xk,mF⟩: ∃xk,s2.nodes[kid]?=some xk:=⟨_,bC jk⟩
 obtain⟨til,cx⟩:=exQ<|iL s2.nodes kid
 first
 |have _:=yd;have j0:xk.til=til:=by rw[<-cx,wE eY]
  rw[cx] at G g4 g5;have ju:x.kids.length<=131072:=nC s2 kid eW rfl x df;have bd:=oH (k:=til) hsp g4.2 g6.ls g5;have dH:n≠kid:=a_
  have up:n<s2.nodes.length:=(aR.1 df).1
 |have j0:xk.til=til:=by rw[<-cx,wE mF]
  rw[cx] at g4 g5;have ju:x.kids.length<=131072:=by have:=ji.out.tot;omega
  have bd:=oH (k:=til) hsp0 g4.2 g6.ls g5;have dH:nn≠kid:=a_
  have up:nn<s2.nodes.length:=(aR.1 df).1
 have pj:s2.nodes.length<=4096:=by have:=g6.tot;omega
 have HG:=hid (aK g4 (aK g6.ls.1 pj));first|have _:=yd;have fa:=hid (aK df (aK eY (aK j0 hxi)))|have fa:=hid (aK df (aK mF (aK j0 hxi)))
 obtain⟨N,hN⟩:=exQ<|fR txt sp til s2.lines
 first|have _:=yd;rw[hN] at G bd;have HN:=hid hN;have HR:=hid G|rw[hN] at bd;have HN:=hid (aK hN cx)
 have fH:=hid bd;first|have _:=yd;clear G hg nC hw hx df eY j0 hxi cx hN bd g1 g2 kr g3 g4 g5 g6 jk;go_enter Tryz.func78,Tryz.ntmps78;go_wp2_with fail;refine vb.out.mono ?_;rintro e w2 ⟨rfl,Pr',kp,fj,hH⟩;have lj:=hid kp;have HH:=hid hH;obtain⟨z,sv,lv,nv,hz,hK⟩:=fj|clear ds hx eY df mF j0 hxi cx hN bd g1 sY kr zx g4 g5 g6 jk k9;go_wp2_with fail;refine(vm.out _ D4).mono ?_;rintro e w2 ⟨rfl,fj⟩;obtain⟨z,sv,lvv,nv,hz,hK⟩:=fj
 have cH:z.length=s2.nodes.length:=E3
 obtain⟨gn,cn,dL,rfl,gZ,_,_⟩:=hK.nod.form (λe=>by rw[e] at cH;simp at cH;omega);first|have _:=yd;obtain⟨y,hy⟩: ∃y,z[n]?=some y:=⟨_,bC a_⟩|obtain⟨y,hy⟩: ∃y,z[nn]?=some y:=⟨_,bC a_⟩
 have jJ:y.1=x:=by
  have:=fa.out.1;rw[<-hz,dE,hy] at this;exact aV this
 obtain⟨yk,nN⟩: ∃yk,z[kid]?=some yk:=by
  have:=fa.out.2.1;rw[<-hz,dE] at this;cases hzk:z[kid]? with
  | none=>rw[hzk] at this;cases this
  | some q=>exact⟨q,rfl⟩
 have nV:yk.1=xk:=by
  have:=fa.out.2.1;rw[<-hz,dE,nN] at this;exact aV this
 have gE:=hK.nod.kids y (bD hy);obtain⟨pk,ck,cc⟩: ∃p c,y.2= .slice p y.1.kids.length c:=ij;obtain⟨mk,eK⟩:=exQ<|y.1.kids.length;have vD:mk<=131072:=by rw[<-eK,jJ];exact ju
 obtain⟨m,hm⟩:=exQ<|z.length
 first
 |have _:=yd;have sQ:(n:Int)<(m:Int):=a_
  have vd:(0:Int)<=(n:Int):=a_
 |have sQ:(nn:Int)<(m:Int):=a_
  have vd:(0:Int)<=(nn:Int):=a_
 have kO:(0:Int)<=(kid:Int):=a_
 have hkd1:(kid:Int)<(m:Int):=by have:=(aR.1 nN).1;omega
 first|have _:=yd;have c3:=hK.cells.1.2.2.2.1;have jp:=hK.lt;rw[hm] at c3 gZ|have ql:=hK.lt;rw[hm] at gZ
 have HY:=hid (aK hy (aK jJ (aK nN nV)));have ii:=hid (aK cc eK)
 first
 |have _:=yd;have HM:=hid (aK hz hm);have HK:=hid hK;clear hK hz cH hy jJ nN nV gE cc eK hm kp hH ju;go_upto_region 5 with fail;clear c3
 |have oO:=hid (aK hz hm);have HK:=hid hK;clear hK hz cH hy jJ nN nV gE cc eK hm ju lC b4 b5 jp;go_upto_region 21 with fail
 obtain⟨i0,cy,cm,dg,dh⟩:=info_parts Tryz.infoInt;obtain⟨W0,ai⟩:=exQ<|w2.drew;have iP:=HK.out.keep (aB _ w2).drew;rw[ai] at iP;have jq:=hid iP;have bh:=iP.nod.kids y (bD HY.out.1);rw[ii.out.1,ii.out.2] at bh;have cf:=hid bh;have dI:=hid iP.bel.size
 first
 |have _:=yd;obtain⟨SA,ah⟩: ∃S:World->Prop,(λw'=>w'.cell? ⟨P,3,none⟩=some (.slice (some ⟨gn,0,none⟩) m cn)/\w'.cell? ⟨gn,kid*9+3,none⟩=some (.int .i64 (til:Int))/\w'.frozen? ⟨gn,n*9+8,none⟩=false/\w'.frozen? ⟨gn,n*9+3,none⟩=false)=S:=⟨_,rfl⟩;have jo:Hid (∀q c w',bM 3 w0.heap.size (.slice pk mk ck) mk (dJ y.1.kids) #[kid] gn (n*9+8) W0 q c w'->bM 3 w0.heap.size y.2 y.1.kids.length (dJ y.1.kids) #[kid] gn (n*9+8) W0 q c w'):=hid (λq c w' hp=>by rw[ii.out.1,ii.out.2];exact hp);have ru:Hid (∀q c w',q<3->bM 3 w0.heap.size (.slice pk mk ck) mk (dJ y.1.kids) #[kid] gn (n*9+8) W0 q c w'->w'.cell? ⟨gn,n*9+8,none⟩=some (.slice pk mk ck)):=hid (λq c w' Z hp=>by obtain⟨_,h2⟩:=jq.out.seenK HY.out.1 (jo.out q c w' hp) Z;have:=(h2 n y 8 y.2 HY.out.1 a_ rfl).1;rw[ii.out.1,ii.out.2] at this;exact this);have mT:Hid (∀c w',bM 3 w0.heap.size (.slice pk mk ck) mk (dJ y.1.kids) #[kid] gn (n*9+8) W0 3 c w'->w'.cell? ⟨gn,n*9+3,none⟩=some (.int .i64 (y.1.til:Int))):=hid (λc w' hp=>by obtain⟨kv,cI⟩:=jq.out.kidA HY.out.1 (jo.out 3 c w' hp);have gI:(z.set n ({ y.1 with kids:=y.1.kids++ [kid] },kv))[n]?=some ({ y.1 with kids:=y.1.kids++ [kid] },kv):=(by rw[List.getElem?_set_self (aR.1 HY.out.1).1]);exact(cI.nod.at_ gI 3 a_ rfl).1);have ak:Hid (∀q c w',q<4->bM 3 w0.heap.size (.slice pk mk ck) mk (dJ y.1.kids) #[kid] gn (n*9+8) W0 q c w'->SA w'):=hid (λq c w' Z hp=>by
   rw[<-ah];have ei:=jo.out q c w' hp;by_cases hq3:q<3
   ·obtain⟨h1,h2⟩:=jq.out.seenK HY.out.1 ei hq3;rw[HM.out.2] at h1;refine⟨h1,?_,(h2 n y 8 _ HY.out.1 a_ rfl).2,(h2 n y 3 _ HY.out.1 a_ rfl).2⟩;have:=(h2 kid yk 3 _ HY.out.2.2.1 a_ rfl).1;rw[HY.out.2.2.2,fa.out.2.2.1] at this;exact this
   ·obtain rfl:q=3:=a_;obtain⟨kv,cI⟩:=jq.out.kidA HY.out.1 ei;have gI:(z.set n ({ y.1 with kids:=y.1.kids++ [kid] },kv))[n]?=some ({ y.1 with kids:=y.1.kids++ [kid] },kv):=(by rw[List.getElem?_set_self (aR.1 HY.out.1).1]);have j2:(z.set n ({ y.1 with kids:=y.1.kids++ [kid] },kv))[kid]?=some yk:=by rw[List.getElem?_set_ne dH];exact HY.out.2.2.1
    have h1:=cI.cells.1.2.2.2.1;rw[List.length_set,HM.out.2] at h1;refine⟨h1,?_,(cI.nod.at_ gI 8 a_ rfl).2,(cI.nod.at_ gI 3 a_ rfl).2⟩;have:=(cI.nod.at_ j2 3 a_ rfl).1;rw[HY.out.2.2.2,fa.out.2.2.1] at this;exact this)
  clear iP bh;refine iW [31,32,33,34,35,36,37,38,39,40,41,42,43,44,45,46,47,48,49,50,51] [19,22] [7,8,19,22] 1000000 (λ_ _=>True) 89 [.pointer (some ⟨gn,n*9,none⟩), .pointer (some ⟨gn,n*9,none⟩), .pointer (some ⟨gn,n*9,none⟩), .pointer (some ⟨gn,n*9,none⟩), .pointer (some ⟨gn,n*9+8,none⟩), .slice pk mk ck,kid,undef,undef,some P,some P, .pointer (some ⟨P,3,none⟩), .slice (some ⟨gn,0,none⟩) m cn,kid, .pointer (some ⟨gn,kid*9,none⟩), .pointer (some ⟨gn,kid*9+3,none⟩),til, .pointer (some ⟨gn,n*9,none⟩), .pointer (some ⟨gn,n*9+8,none⟩),undef, .pointer (some ⟨gn,n*9,none⟩), .pointer (some ⟨gn,n*9+3,none⟩)] SA (Bp w0.heap.size (.slice pk mk ck) mk (dJ y.1.kids) #[kid] gn n til W0) [5,7,8,19,22,0,1,2,3,4,6,9,10,11,13,14,15,17,18,20,21,12,16] D8 i_ ?_ ?_
 |obtain⟨SA,ah⟩: ∃S:World->Prop,(λw'=>w'.cell? ⟨P,3,none⟩=some (.slice (some ⟨gn,0,none⟩) m cn)/\w'.cell? ⟨gn,nn*9+8,none⟩=some (.slice pk mk ck)/\w'.frozen? ⟨gn,nn*9+8,none⟩=false)=S:=⟨_,rfl⟩;have jo:Hid (∀q c w',bM 3 w0.heap.size (.slice pk mk ck) mk (dJ y.1.kids) #[kid] gn (nn*9+8) W0 q c w'->bM 3 w0.heap.size y.2 y.1.kids.length (dJ y.1.kids) #[kid] gn (nn*9+8) W0 q c w'):=hid (λq c w' hp=>by rw[ii.out.1,ii.out.2];exact hp);have ak:Hid (∀q c w',q<3->bM 3 w0.heap.size (.slice pk mk ck) mk (dJ y.1.kids) #[kid] gn (nn*9+8) W0 q c w'->SA w'):=hid (λq c w' Z hp=>by rw[<-ah];obtain⟨h1,h2⟩:=jq.out.seenK HY.out.1 (jo.out q c w' hp) Z;rw[oO.out.2] at h1;have h3:=h2 nn y 8 y.2 HY.out.1 a_ rfl;rw[ii.out.1,ii.out.2] at h3;exact⟨h1,h3.1,h3.2⟩);clear iP bh;refine iW [133,134,135,136,137,138,139,140,141,142,143,144,145,146,147,148,149,150] [18] [14,15,18] 1000000 (λ_ _=>True) 207 [some P,some P, .pointer (some ⟨P,3,none⟩), .slice (some ⟨gn,0,none⟩) m cn,nn,some P,some P, .pointer (some ⟨P,3,none⟩), .slice (some ⟨gn,0,none⟩) m cn,nn, .pointer (some ⟨gn,nn*9,none⟩), .pointer (some ⟨gn,nn*9+8,none⟩), .slice pk mk ck,kid,undef,undef, .pointer (some ⟨gn,nn*9,none⟩), .pointer (some ⟨gn,nn*9+8,none⟩)] SA (bM 3 w0.heap.size (.slice pk mk ck) mk (dJ y.1.kids) #[kid] gn (nn*9+8) W0) [14,15,18,0,1,2,4,5,6,7,9,11,13,17,3,8,10,12,16] D8 i_ ?_ ?_
 ·intro d a w' iq o' hO ho hi E aa F R' G;first|have _:=yd;have Z:=eA aa [(0,some P),(12,kid),(14, .pointer (some ⟨gn,n*9,none⟩))] rfl rfl;have hc:=F.all [(0,31),(1,32),(2,33),(3,34),(4,35),(5,36),(6,37),(9,40),(10,41),(11,42),(12,43),(13,44),(14,45),(15,46),(16,47),(17,48),(18,49),(20,50),(21,51)] b_|have Z:=eA aa [(0,some P),(13,nn),(18,kid)] rfl rfl;have hc:=F.all [(0,133),(1,134),(2,135),(3,136),(4,137),(5,138),(6,139),(7,140),(8,141),(9,142),(10,143),(11,144),(12,145),(13,146),(16,149),(17,150)] b_
  dsimp only[dX,dT,lk] at Z hc;clear aa;have ha:=E;have ad:=ho
  repeat' rcases hO with _ | ⟨_,hO⟩
  all_goals (simp only[dA,cR,bZ,cG] at ho;subst ho;try simp[Region.binds] at E)
  first
  |have _:=yd
   ·have zn:=F.gg 4 35 c_;obtain⟨kq,nC,xK,An⟩:=F.ph;have lb:kq<3:=by
     apply Classical.byContradiction;intro hge;have h1:=(xK 2 19 rfl).2 a_;have h2:=F.clo.reach 23 19 5 d' h1;rw[hi] at h2;cases h2
    have zt:=ru.out kq _ _ lb (Bp.lt3 lb An);exact ag
  |skip
  ·first|have _:=yd;have sT:=F.gg 6 37 c_|have c146:=F.gg 13 146 c_
   have ab:=F.at2 (j:=0) rfl hi (.inl rfl);have hA:Below W0.heap.size W0 w':=ab;go_simp;exact G _ _ (F.ef 0 ad ha hi (.inl rfl) (λ_ _ _=>trivial) (λ_=>ak.out 1 _ _ b_ ⟨w',hA,rfl,rfl⟩) ⟨w',hA,rfl,rfl⟩)
  first
  |have _:=yd
   ·have lG:=F.gg 5 36 c_;have ae:d 7=true:=c_;have ab:=F.at2 (j:=1) rfl hi (.inr ⟨7,rfl,ae⟩);have eO:a.tmps.getD 36 undef= .slice pk mk ck:=by rw[aI];exact lG
    exact bM.app rfl (.tmp 36) (.tmp 38) 43 rfl Tryz.underlying43 cy cm dg dh rfl b_ rfl (Nz kid) cf.out a_ b_ dI.out ab eO rfl (λv' w2 hp=>G _ _ (F.ef 1 ad ha hi (.inr ⟨7,rfl,ae⟩) (λ_ _ _=>trivial) (λ_=>ak.out 2 _ _ b_ hp) hp))
   ·have yN:=F.gg 18 49 c_;have ae:d 8=true:=c_;have ab:=F.at2 (j:=2) rfl hi (.inr ⟨8,rfl,ae⟩);have L:=F.st (F.lastNot (f:=23) (i:=19) d' hi);rw[<-ah] at L;obtain⟨p3,q3,f8,f3⟩:=L;have cA:bM 3 w0.heap.size (.slice pk mk ck) mk (dJ y.1.kids) #[kid] gn (n*9+8) W0 2 (a.tmps.getD 39 undef) w':=ab;obtain⟨gz,cz,hz⟩:=cA.form;rw[hz] at cA;have tp:a.tmps[39]?.getD undef= .slice (some ⟨gz,0,none⟩) (mk+1) cz:=by rw[<-aI];exact hz
    have zt:=ru.out 2 _ _ b_ cA;go_simp;exact G undef _ (F.ef 2 ad ha hi (.inr ⟨8,rfl,ae⟩) (λ_ _ _=>trivial) (λ_=>ak.out 3 undef _ b_ ⟨_,_,cA,rfl⟩) ⟨_,_,cA,rfl⟩)
   ·have sm:=F.gg 16 47 c_;have yh:=F.gg 21 51 c_;have ae:d 19=true:=by first | simp[E];done | exact ha ⟨_,_⟩ e_ rfl | exact F.clo.reach 23 16 19 d' c_
    have ab:=F.at2 (j:=3) rfl hi (.inr ⟨19,rfl,ae⟩);have L:=F.st hi;rw[<-ah] at L;obtain⟨p3,q3,f8,f3⟩:=L;have k3:=mT.out undef _ ab;go_simp;exact G undef _ (F.ef 3 ad ha hi (.inr ⟨19,rfl,ae⟩) (λ_ _ _=>trivial) (λh=>absurd rfl h) ⟨undef,_,ab,rfl⟩)
   iterate 16 (go_simp;exact G _ _ (F.pu ad ha))
  |·have vW:=F.gg 12 145 c_
    have ae:d 14=true:=c_;have ab:=F.at2 (j:=1) rfl hi (.inr ⟨14,rfl,ae⟩);have eO:a.tmps.getD 145 undef= .slice pk mk ck:=by rw[aI];exact vW
    exact bM.app rfl (.tmp 145) (.tmp 147) 43 rfl Tryz.underlying43 cy cm dg dh rfl b_ rfl (Nz kid) cf.out a_ b_ dI.out ab eO rfl (λv' w2 hp=>G _ _ (F.ef 1 ad ha hi (.inr ⟨14,rfl,ae⟩) (λ_ _ _=>trivial) (λ_=>ak.out 2 _ _ b_ hp) hp))
   ·have c150:=F.gg 17 150 c_;have ae:d 15=true:=c_;have ab:=F.at2 (j:=2) rfl hi (.inr ⟨15,rfl,ae⟩);have L:=F.st hi;rw[<-ah] at L;obtain⟨p3,q3,f8⟩:=L;have cA:bM 3 w0.heap.size (.slice pk mk ck) mk (dJ y.1.kids) #[kid] gn (nn*9+8) W0 2 (a.tmps.getD 148 undef) w':=ab;obtain⟨gz,cz,hz⟩:=cA.form;rw[hz] at cA;have c148:a.tmps[148]?.getD undef= .slice (some ⟨gz,0,none⟩) (mk+1) cz:=by rw[<-aI];exact hz
    go_simp;exact G undef _ (F.ef 2 ad ha hi (.inr ⟨15,rfl,ae⟩) (λ_ _ _=>trivial) (λh=>absurd rfl h) ⟨_,_,cA,rfl⟩)
   iterate 11 (go_simp;exact G _ _ (F.pu ad ha))
  all_goals
   have L:=F.ea hi;rw[<-ah] at L;first|have _:=yd;obtain⟨p3,q3,f8,f3⟩:=L|obtain⟨p3,q3,f8⟩:=L
   exact ag
 first
 |have _:=yd;intro v wz au eI;obtain⟨c3,w3,bG,mR⟩:=(show ∃c3 w3,bM 3 w0.heap.size (.slice pk mk ck) mk (dJ y.1.kids) #[kid] gn (n*9+8) W0 3 c3 w3/\wz=w3.setCell ⟨gn,n*9+3,none⟩ (.int .i64 (til:Int)) from eI);obtain⟨kv,cI⟩:=jq.out.kidA HY.out.1 (jo.out 3 c3 w3 bG);have gI:(z.set n ({ y.1 with kids:=y.1.kids++ [kid] },kv))[n]?=some ({ y.1 with kids:=y.1.kids++ [kid] },kv):=by rw[List.getElem?_set_self (aR.1 HY.out.1).1]
  have cp:=cI.til gI til;rw[<-mR] at cp;obtain⟨z4,im⟩:=exQ<|(z.set n ({ y.1 with kids:=y.1.kids++ [kid] },kv)).set n ({ ({ y.1 with kids:=y.1.kids++ [kid] }:bA) with til:=til },kv);rw[im] at cp;have iR:z4.map (·.1)=iU n kid s2.nodes:=by
   rw[<-im,List.set_set,List.map_set,HM.out.1];unfold iU;rw[xW _ n _ x fa.out.1,HY.out.2.1];rw[wE fa.out.2.1,fa.out.2.2.1]
  have gp:z4.length=m:=by rw[<-im,List.length_set,List.length_set];exact HM.out.2
  have pN:z4[n]?=some ({ ({ y.1 with kids:=y.1.kids++ [kid] }:bA) with til:=til },kv):=by
   rw[<-im,List.getElem?_set_self (by rw[List.length_set];exact(aR.1 HY.out.1).1)]
  rw[gp] at cp;have rO:=hid (aK iR (aK gp pN));have oZ:=hid cp;have nO: ∀(w':World) (ls:List aP),gU YP Pr' w0 P txt sp ls z4 (.slice (some ⟨gn,0,none⟩) m cn) s2.total 0 0 w'->w'.cell? ⟨gn,n*9+3,none⟩=some (.int .i64 (til:Int))/\w'.cell? ⟨gn,n*9+1,none⟩=some (.int .i64 ind):=λw' ls hj=>by
   obtain⟨u0,ot,A2⟩:=hj;have gV:=A2.nod;rw[<-gp] at gV;have h1:=(gV.at_ pN 3 a_ rfl).1;have h2:=(gV.at_ pN 1 a_ rfl).1;refine⟨h1,?_⟩;rw[show ({ ({ y.1 with kids:=y.1.kids++ [kid] }:bA) with til:=til }:bA).ind=ind from by show y.1.ind=ind;rw[HY.out.2.1];exact fa.out.2.2.2] at h2;exact h2
  have uA:=hid nO;have rx:gU YP Pr' w0 P txt sp s2.lines z4 (.slice (some ⟨gn,0,none⟩) m cn) s2.total 0 0 wz:=⟨_,_,cp⟩;have bu:=hid rx;obtain⟨k3,k1⟩:=nO wz _ rx;have ql:=cp.lt;have CN:Hid (∀w',gU YP Pr' w0 P txt sp s2.lines z4 (.slice (some ⟨gn,0,none⟩) m cn) s2.total 0 0 w'->Calls Tryz.prog 42 #[some P,til] w' (Ff YP Pr' w0 P txt sp ⟨s2.lines,iU n kid s2.nodes,s2.total⟩ z4 (.slice (some ⟨gn,0,none⟩) m cn) N)):=hid (λw' hj=>by have:=Mk (st:=⟨s2.lines,iU n kid s2.nodes,s2.total⟩) til w' hj iR HG.out.1.2 HG.out.2.1 hs hns hV;simp only[HN.out] at this;exact this);clear au eI bG cI gI cp im iR gp pN nO rx mR ak ah
 |intro v wy au cd;obtain⟨kv,cI⟩:=jq.out.kidA HY.out.1 (jo.out 3 _ wy cd);have gI:(z.set nn ({ y.1 with kids:=y.1.kids++ [kid] },kv))[nn]?=some ({ y.1 with kids:=y.1.kids++ [kid] },kv):=by rw[List.getElem?_set_self (aR.1 HY.out.1).1]
  have j2:(z.set nn ({ y.1 with kids:=y.1.kids++ [kid] },kv))[kid]?=some yk:=by rw[List.getElem?_set_ne dH];exact HY.out.2.2.1
  have nS:=cI.keep (aB _ wy).drew;clear au cd ai ak jo ah;simp only[cS,dF,cP,dG];go_upto_region 22 with fail;obtain⟨W4,du⟩:=exQ<|wy.drew;rw[du] at nS;have mT:=hid nS;obtain⟨SB,cF⟩: ∃S:World->Prop,(λw'=>w'.cell? ⟨P,3,none⟩=some (.slice (some ⟨gn,0,none⟩) m cn)/\w'.cell? ⟨gn,kid*9+3,none⟩=some (.int .i64 (til:Int))/\w'.cell? ⟨gn,nn*9+3,none⟩=some (.int .i64 (y.1.til:Int))/\w'.frozen? ⟨gn,nn*9+3,none⟩=false)=S:=⟨_,rfl⟩;have cj:Hid (∀w',Below W4.heap.size W4 w'->SB w'):=hid (λw' hb=>by rw[<-cF];have hk:=mT.out.keep hb;have h1:=hk.cells.1.2.2.2.1;rw[List.length_set,oO.out.2] at h1;have h2:=(hk.nod.at_ j2 3 a_ rfl).1;rw[HY.out.2.2.2,fa.out.2.2.1] at h2;exact⟨h1,h2,(hk.nod.at_ gI 3 a_ rfl).1,(hk.nod.at_ gI 3 a_ rfl).2⟩);have rP:=hid (aK gI j2);clear cI nS gI j2 cf dI;refine iW [151,152,153,154,155,156,157,158,159,160,161,162,163,164,165] [15] [15] 1000000 (λ_ _=>True) 207 [some P,some P, .pointer (some ⟨P,3,none⟩), .slice (some ⟨gn,0,none⟩) m cn,nn,some P,some P, .pointer (some ⟨P,3,none⟩), .slice (some ⟨gn,0,none⟩) m cn,kid, .pointer (some ⟨gn,kid*9,none⟩), .pointer (some ⟨gn,kid*9+3,none⟩),til, .pointer (some ⟨gn,nn*9,none⟩), .pointer (some ⟨gn,nn*9+3,none⟩)] SB (PhS W4 ⟨gn,nn*9+3,none⟩ (.int .i64 (til:Int))) [15,0,1,2,4,5,6,7,9,11,14,3,8,10,12,13] (by rw[du];exact cj.out _ (aB _ _)) (by rw[du];exact aB _ _) ?_ ?_
  ·intro d a w' iq o' hO ho hi E aa F R' G;have Z:=eA aa [(0,some P),(13,nn),(18,kid)] rfl rfl;have hc:=F.all [(0,151),(1,152),(2,153),(3,154),(4,155),(5,156),(6,157),(7,158),(8,159),(9,160),(10,161),(11,162),(12,163),(13,164),(14,165)] b_;dsimp only[dX,dT,lk] at Z hc;clear aa;have ha:=E;have ad:=ho
   repeat' rcases hO with _ | ⟨_,hO⟩
   all_goals (simp only[dA,cR,bZ,cG] at ho;subst ho;try simp[Region.binds] at E)
   ·have c163:=F.gg 12 163 c_;have c165:=F.gg 14 165 c_;have ab:=F.at2 (j:=0) rfl hi (.inl rfl);have hA:Below W4.heap.size W4 w':=ab;have L:=cj.out _ hA;rw[<-cF] at L;obtain⟨p3,q3,k0,f3⟩:=L;go_simp;exact G undef _ (F.ef 0 ad ha hi (.inl rfl) (λ_ _ _=>trivial) (λh=>absurd rfl h) ⟨_,hA,rfl⟩)
   iterate 10 (go_simp;exact G _ _ (F.pu ad ha))
   all_goals
    have L:=F.ea hi;rw[<-cF] at L;obtain⟨p3,q3,k0,f3⟩:=L;exact ag
  intro v4 wz au eI;obtain⟨w3,bI,mR⟩:=(show ∃w3,Below W4.heap.size W4 w3/\wz=w3.setCell ⟨gn,nn*9+3,none⟩ (.int .i64 (til:Int)) from eI);have cp:=(mT.out.keep bI).til rP.out.1 til;rw[<-mR] at cp;obtain⟨z4,im⟩:=exQ<|(z.set nn ({ y.1 with kids:=y.1.kids++ [kid] },kv)).set nn ({ ({ y.1 with kids:=y.1.kids++ [kid] }:bA) with til:=til },kv);rw[im] at cp;have iR:z4.map (·.1)=iU nn kid s2.nodes:=by
   rw[<-im,List.set_set,List.map_set,oO.out.1];unfold iU;rw[xW _ nn _ x fa.out.1,HY.out.2.1];rw[wE fa.out.2.1,fa.out.2.2.1]
  have gp:z4.length=m:=by rw[<-im,List.length_set,List.length_set];exact oO.out.2
  have qM:z4[kid]?=some yk:=by rw[<-im,List.getElem?_set_ne dH];exact rP.out.2
  rw[gp] at cp;have c3:=cp.cells.1.2.2.2.1;have gV:=cp.nod;rw[<-gp] at gV;have k3:=(gV.at_ qM 3 a_ rfl).1;rw[HY.out.2.2.2,fa.out.2.2.1] at k3;have vM:=cp.lt;have bu:=hid (show YJ YQ Pr' w0 P txt sp ⟨s2.lines,iU nn kid s2.nodes,s2.total⟩ 0 0 wz from ⟨z4,_,_,_,iR,cp⟩);have CN:Hid (∀w',YJ YQ Pr' w0 P txt sp ⟨s2.lines,iU nn kid s2.nodes,s2.total⟩ 0 0 w'->Calls Tryz.prog 20 #[some P,til] w' (rD YQ Pr' w0 P txt sp ⟨s2.lines,iU nn kid s2.nodes,s2.total⟩ N)):=hid (λw' hj=>by have:=Be (st:=⟨s2.lines,iU nn kid s2.nodes,s2.total⟩) til w' hj HG.out.1.2 HG.out.2.1 hs hn;simp only[HN.out.1] at this;exact this);clear au eI bI mR cp im iR gp qM gV rP cj cF mT du jq HK ii ql vD
 simp only[cS,dF,cP,dG];first|have _:=ye;have rN:=HN.out.1;rw[<-HN.out.2] at rN;have pQ:=hid rN;clear rN|skip
 cases N with
 | bad a er=>
  first|have _:=yd;have bx:Hid (OR.bad a er=R):=hid HR.out|have h:=dw.out;rw[aBp d9.out pQ.out] at h;have bx:Hid (YR.bad a er=R):=hid h;clear h
  go_wp2_with fail;refine(CN.out _ g_).mono ?_;rintro e w5 ⟨⟨mm,rfl⟩,an⟩;have HF:=hid (an.less lj.out)
  first
  |have _:=yd;clear an k3 k1;go_upto_region 7 with fail;obtain⟨W3,a6⟩:=exQ<|w5.drew;refine lX [61,62,63,64,65,66,67,68,69,70,71,72,73,74,75,76,77,78,79,80,81] 89 [false,false,undef,undef,undef,false,false,undef,undef,undef,undef,undef,undef,undef,undef,undef,undef,undef,undef,undef,false] (λw'=>Below W3.heap.size W3 w') [0,1,5,6,20,2,3,4,7,8,9,10,11,12,13,14,15,16,17,18,19] u_ ?_ ?_
   ·intro d a w' iq o' hO ho hi E aa F R' G;have Z:=eA aa [(0,some P),(13,false),(14, .pointer (some ⟨gn,n*9,none⟩)),(15,mm)] rfl rfl;have hc:=F.all [(0,61),(1,62),(4,65),(5,66),(6,67),(19,80)] b_;dsimp only[dX,dT,lk] at Z hc;clear aa
    repeat' rcases hO with _ | ⟨_,hO⟩
    all_goals (simp only[dA,cR,bZ,cG] at ho;subst ho;try simp[Region.binds] at E)
    iterate 5 (refine jF ?_;go_simp;exact G _ _ F.sp)
    iterate 16 exact F.sk G (hd:=by simp[E])
   intro wz hS;simp only[jE,dF,cP,dG];have Al:=hid ((HF.out.keep (show Below w5.heap.size w5 W3 from by rw[<-a6];exact(aB _ _).drew)).keep hS);clear hS
  |clear an k3 c3
  go_wp2_with fail;go_ret2;rw[<-bx.out];first|have _:=yd;exact⟨⟨_,rfl⟩,Al.out⟩|exact ao
 | ok nx ls=>
  first
  |have _:=yd;have bd:=(show rB txt sp til s2.lines nx ls from fH.out);have G:=HR.out;simp only[] at G;have kl:=hid G;have qQ:(0:Int)<=(nx:Int):=a_;clear G bd
  |go_upto_region 23 with fail
  go_wp2_with fail;refine(CN.out _ g_).mono ?_;rintro e w5 ⟨rfl,fu⟩
  first
  |have _:=yd;have cw:=hid fu;clear fu k3 k1;go_upto_region 7 with fail;obtain⟨W3,a6⟩:=exQ<|w5.drew;have bH:=cw.out.keep (aB _ w5).drew;rw[a6] at bH;have bn:=hid bH;have fk:Hid (∀w',Below W3.heap.size W3 w'->Calls Tryz.prog 43 #[some P,nx] w' λe w2=>e= .returned (.bool (decide (nx<sp.length)))/\Below w'.heap.size w' w2):=hid (λw' hb=>wF nx w' ((bn.out.keep hb).toJ rO.out.1));clear bH;by_cases aw:nx<sp.length;rotate_left
   ·have G:=kl.out;rw[if_neg (λe=>aw e.1)] at G;have bx:=hid G;have CT:Hid (∀w',Below W3.heap.size W3 w'->Calls Tryz.prog 43 #[some P,nx] w' λe w2=>e= .returned (.bool false)/\Below w'.heap.size w' w2):=hid (λw' hb=>by have:=fk.out w' hb;rw[aG aw] at this;exact this);clear G aw fk;refine lX [61,62,63,64,65,66,67,68,69,70,71,72,73,74,75,76,77,78,79,80,81] 89 [true,true,some P,nx,false,false,false,undef,undef,undef,undef,undef,undef,undef,undef,undef,undef,undef,undef,undef,false] (λw'=>Below W3.heap.size W3 w') [4,0,1,5,6,20,2,3,7,8,9,10,11,12,13,14,15,16,17,18,19] u_ ?_ ?_
    ·intro d a w' iq o' hO ho hi E aa F R' G;have Z:=eA aa [(0,some P),(13,true),(14, .pointer (some ⟨gn,n*9,none⟩)),(15,nx)] rfl rfl;have hc:=F.all [(0,61),(1,62),(2,63),(3,64),(4,65),(5,66),(6,67),(19,80)] b_;dsimp only[dX,dT,lk] at Z hc;clear aa
     repeat' rcases hO with _ | ⟨_,hO⟩
     all_goals (simp only[dA,cR,bZ,cG] at ho;subst ho;try simp[Region.binds] at E)
     ·exact oy
     iterate 5 (refine jF ?_;go_simp;exact G _ _ F.sp)
     iterate 2 (refine F.on ?_ (hd:=by simp[E]);go_simp;exact G _ _ F.sp)
     iterate 13 exact F.sk G (hd:=by simp[E])
    intro wz hS;simp only[jE,dF,cP,dG];have ft:=hid ((bn.out.keep hS).toJ rO.out.1);clear hS;exact lx
  |have cw:Hid (YJ YQ Pr' w0 P txt sp ⟨ls,iU nn kid s2.nodes,s2.total⟩ 0 0 w5):=hid fu;have um:Hid (iM txt sp V mp nn r.ind had kk sr= .ok nx ⟨ls,iU nn kid s2.nodes,s2.total⟩ eW->nx<=sp.length/\kk<nx/\Hid (Gc w0 P txt sp V mp Pr nn r.ind r.kind R nx (.slice p2 n2 c9) w5)):=hid (λhe=>by have h:=dw.out;rw[he] at h;obtain⟨⟨x2,t1,t2,t3⟩,t4,t5,t6,t7,t8,t9⟩:=Mq hsp0 vr.out ji.out bi.out.2.1 HX.out.1 he;exact⟨t7,t8,hid ⟨f1,eW,dK,_,h,cw.out.less lj.out,sN.out _ _ _ _ cw.out,qk.out,r7.out,by have:=mr.out;omega,t6,t9,by have:=uk.out;omega,x2,t1,t2.trans HX.out.2.1,by rw[t3];have:=HX.out.2.2;omega⟩⟩);obtain⟨z7,sv7,lv7,nv7,xC,j8⟩:=fu;obtain⟨ps7,cs7,rfl⟩:=j8.spSlice;have c1:=j8.cells.1.2.1;have hPl7:=j8.lt;have qQ:(0:Int)<=(nx:Int):=a_;clear k3 c3 vM;by_cases hltn:nx<sp.length;rotate_left
   ·have d7:decide ((nx:Int)<(sp.length:Int))=false:=aG a_;have Ah:decide (nx<sp.length)=false:=aG hltn;obtain⟨h7,h8,pF⟩:=um.out (Oe d9.out pQ.out (λe=>hltn e.1));clear j8 xC hltn d1 iF;exact lu
  ·first|have _:=yd;obtain⟨cJ,fJ⟩:=fH.out.hit aw;have CT:Hid (∀w',Below W3.heap.size W3 w'->Calls Tryz.prog 43 #[some P,nx] w' λe w2=>e= .returned (.bool true)/\Below w'.heap.size w' w2):=hid (λw' hb=>by have:=fk.out w' hb;rw[aO aw] at this;exact this)|have d7:decide ((nx:Int)<(sp.length:Int))=true:=aO a_;have Ah:decide (nx<sp.length)=true:=aO hltn;obtain⟨my,rL⟩:=fH.out.hit hltn;have qG:=jY (show nx<ls.length by omega);obtain⟨g7,cz7,e9,_,kI⟩:=j8.lineAt qG;subst e9;have sI:=j8.cells.1.2.2.1
   obtain⟨i2,fh⟩:=exQ<|(aS ls nx).ind
   first
   |have _:=yd;obtain⟨bb,eb⟩:=exQ<|decide (ind<i2)
    obtain⟨m2,dK⟩:=exQ<|ls.length;obtain⟨uz,vu,fi⟩:=bn.out;have ce:=jY (show nx<ls.length by omega);obtain⟨g2,cO,e9,_,I⟩:=fi.lineAt ce;subst e9;have gi:Hid (∀w',Below W3.heap.size W3 w'->w'.cell? ⟨P,2,none⟩=some (.slice (some ⟨g2,0,none⟩) m2 cO)/\w'.cell? ⟨g2,nx*10+3,none⟩=some (.int .i64 i2)/\w'.cell? ⟨gn,n*9+1,none⟩=some (.int .i64 ind)):=hid (λw' hb=>by have av:=fi.keep hb;obtain⟨⟨_,_,c2,_⟩,_⟩:=av.cells;obtain⟨g3,pJ,e3,_,dq⟩:=av.lineAt ce;have e4:=(Value.slice.inj e3).1;injection e4 with e4;injection e4 with e4;subst e4;have h3:=dq 3 _ a_ rfl;rw[fh] at h3;simp only[dK] at c2;exact⟨c2,h3,(uA.out w' ls ⟨_,_,av⟩).2⟩);have qe:(nx:Int)<(m2:Int):=a_
   |obtain⟨bb,eb⟩:=exQ<|decide (r.ind<i2)
    obtain⟨m7,ly⟩:=exQ<|ls.length;have h3:=kI 3 _ a_ rfl;rw[fh] at h3;simp only[ly] at sI;have qe:(nx:Int)<(m7:Int):=a_
   have gW:=hid (aK fh eb)
   first
   |have _:=yd;have j3:=hid aw;have eX:=hid (aK cJ (fH.out.ok.2 nx a_));clear fi I ce dK fh cJ fJ fk aw;refine lX [61,62,63,64,65,66,67,68,69,70,71,72,73,74,75,76,77,78,79,80,81] 89 [true,true,some P,nx,true,true,true,some P,some P, .pointer (some ⟨P,2,none⟩), .slice (some ⟨g2,0,none⟩) m2 cO,nx, .pointer (some ⟨g2,nx*10,none⟩), .pointer (some ⟨g2,nx*10+3,none⟩),i2, .pointer (some ⟨gn,n*9,none⟩), .pointer (some ⟨gn,n*9,none⟩), .pointer (some ⟨gn,n*9+1,none⟩),ind,bb,bb] (λw'=>Below W3.heap.size W3 w') [4,0,1,5,6,20,2,3,7,8,9,10,11,12,13,14,15,16,17,18,19] u_ ?_ ?_
    ·intro d a w' iq o' hO ho hi E aa F R' G;have Z:=eA aa [(0,some P),(13,true),(14, .pointer (some ⟨gn,n*9,none⟩)),(15,nx)] rfl rfl;have hc:=F.all [(0,61),(1,62),(2,63),(3,64),(4,65),(5,66),(6,67),(7,68),(8,69),(9,70),(10,71),(11,72),(12,73),(13,74),(14,75),(15,76),(16,77),(17,78),(18,79),(19,80)] b_;dsimp only[dX,dT,lk] at Z hc;clear aa;obtain⟨p2,l3,x3⟩:=gi.out _ F.st
     repeat' rcases hO with _ | ⟨_,hO⟩
     all_goals (simp only[dA,cR,bZ,cG] at ho;subst ho;try simp[Region.binds] at E)
     ·exact oy
     iterate 5 (refine jF ?_;go_simp;exact G _ _ F.sp)
     iterate 15 (refine F.on ?_ (hd:=by simp[E]);go_simp;exact G _ _ F.sp)
    intro wz hS;simp only[jE,dF,cP,dG];have ft:=hid ((bn.out.keep hS).toJ rO.out.1);clear hS;have eb:=gW.out.2;have G:=kl.out;rw[gW.out.1] at G
   |have eX:=hid (aK my (aK hltn (fH.out.ok.2 nx a_)));clear j8 xC kI qG ly fh my rL hltn d1 iF;go_upto_if 199 with fail
   cases bb with
   | false=>
    first|have _:=yd;rw[if_neg (λe=>of_decide_eq_false eb e.2)] at G;have bx:=hid G;clear G eb;exact lx|obtain⟨h7,h8,pF⟩:=um.out (Oe d9.out pQ.out (λe=>of_decide_eq_false gW.out.2 (by have:=e.2;rw[gW.out.1] at this;exact this)));exact lu
   | true=>
    first
    |have _:=yd;rw[if_pos ⟨j3.out,of_decide_eq_true eb⟩] at G;have bx:=hid G;have CB:=hid (λw' hj=>Fy (Pr:=Pr') (w0:=w0) (P:=P) (txt:=txt) (sp:=sp) (st:=⟨ls,iU n kid s2.nodes,s2.total⟩) (a0:=0) (e0:=0) nx w' hj j3.out (by have:=eX.out.1;simp only[];omega) eX.out.2 hs)
    |have h:=dw.out;rw[aBq d9.out pQ.out ⟨eX.out.2.1,by rw[gW.out.1];exact of_decide_eq_true gW.out.2⟩,gW.out.1] at h;have bx:=hid h;have CB:=hid (λw' hj=>Fi (Pr:=Pr') (w0:=w0) (P:=P) (txt:=txt) (sp:=sp) (st:=⟨ls,iU nn kid s2.nodes,s2.total⟩) (a0:=0) (e0:=0) nx w' hj eX.out.2.1 (by have:=eX.out.1;simp only[];omega) eX.out.2.2 hs)
    simp only[gW.out.1] at CB;first|have _:=yd;have CF:=hid (λa w' hj=>pX (Pr:=Pr') (w0:=w0) (P:=P) (txt:=txt) (sp:=sp) (st:=⟨ls,iU n kid s2.nodes,s2.total⟩) (a0:=0) (e0:=0) a 2 w' hj);clear G eb;go_wp2_with fail;refine(CB.out _ DW).mono ?_|have CF:=hid (λa w' hj=>tC (Pr:=Pr') (w0:=w0) (P:=P) (txt:=txt) (sp:=sp) (st:=⟨ls,iU nn kid s2.nodes,s2.total⟩) (a0:=0) (e0:=0) a 2 w' hj);clear h sI h3 eb;go_wp2_with fail;refine(CB.out _ D5).mono ?_
    rintro e w7 ⟨rfl,dO⟩;first|have _:=yd;have ep:=hid (ft.out.keep x_)|have ep:=hid (cw.out.keep x_)
    clear dO;go_wp2_with fail;refine(CF.out _ _ s').mono ?_;rintro e w8 ⟨rfl,cN⟩;have HF:=hid (cN.less lj.out).bad;clear cN;exact bj):P:=h
theorem qa(h:P:=by
 first
 |first|have _:=wv|have _:=ww|have _:=xa|have _:=xb|have _:=xc|have _:=xd
  have sl:=aM l;have bS:T.length=y-x:=by rw[<-hTd,bT,aU];omega
  have hex:(bs l).extract x y=bs T:=by rw[gL,aQ,hTd]
  have CG:=hid (λw=>wH T true w a_);have sT:=aM T;have bV:T.length<=1073741824:=a_
  have hxT:x+T.length<=1073741824:=a_
  have HTl:=hid bS;obtain⟨wr,aI⟩:=exQ<|cX true T;have hwb:wr<=T.length:=by have:=(sP true T.length T 0).2;unfold cX at aI;omega
 |skip
 first
 |first|have _:=ww|have _:=xa|have _:=xb|have _:=xc|have _:=xd
  rw[aI] at CG hR hC2
 |have _:=wv;rw[aI] at CG hR
 |skip
 first
 |first|have _:=wv|have _:=ww|have _:=xa|have _:=xb|have _:=xc|have _:=xd
  obtain⟨n,hn⟩:=exQ<|aX T;have aH:=jU T;have ao:=nV T;have aj:=nW T
 |skip
 first
 |first|have _:=xc|have _:=xd
  rw[hn] at aH ao aj hR hC3 hC4 hC5
 |have _:=xb;rw[hn] at aH ao aj hR hC3 hC4
 |have _:=xa;rw[hn] at aH ao aj hR hC3
 |first|have _:=wv|have _:=ww
  rw[hn] at aH ao aj hR
 |skip
 first
 |first|have _:=wv|have _:=ww|have _:=xa|have _:=xb|have _:=xc|have _:=xd
  have HR:=hid hR;have aF:=hid (aK ao (aK aj hn));have d1:decide ((x:Int)<0)=false:=aG a_;have d2:decide (y<x)=false:=aG a_;have d3:decide (l.length<y)=false:=aG a_;have hxyi:(x:Int)<=(y:Int):=a_
  have hyli:(y:Int)<=(l.length:Int):=a_
  clear bS hTd aI hn ao aj hR
 |skip
 go_enter Tryz.func36,Tryz.ntmps36;go_upto_region 1 with fail
 first
 |first|have _:=wv|have _:=ww|have _:=xa|have _:=xb|have _:=xc|have _:=xd
  have ab:=hid (bW.start w x y);obtain⟨W1,bo⟩:=exQ ((w.alloc (.cells #[x,y] 42)).alloc (.cells #[(0:Int),(0:Int),(0:Int),(0:Int),(0:Int),(0:Int),(0:Int),(0:Int),(0:Int),(0:Int)] 68))
 |have ab:=hid (bW.start w a b);obtain⟨W1,bo⟩:=exQ ((w.alloc (.cells #[a,b] 42)).alloc (.cells #[(0:Int),(0:Int),(0:Int),(0:Int),(0:Int),(0:Int),(0:Int),(0:Int),(0:Int),(0:Int)] 68))
 rw[bo] at ab ⊢;clear bo;obtain⟨s0,s1⟩:=ab.out.s.cells;obtain⟨b0,b1,b2,b3,b4,b5,b6,b7,b8,b9,N,G,B,O,I,C,D,Q,L,J⟩:=ab.out.l.cells;go_wp2_with fail
 first
 |first|have _:=wv|have _:=ww|have _:=xa|have _:=xb|have _:=xc|have _:=xd
  go_loop [8] (λs8=> ∃k:Nat,s8= .int .i64 k/\k<=T.length/\Hid (∀j,j<k->T[j]?≠some 10)) (λs8=>T.length-(RowKit.intOf s8).toNat)
  case atStart=>exact⟨0,rfl,a_,hid (λj hj=>by omega)⟩
  case round=>
   obtain⟨k,rfl,hk,HK⟩:=hrel;by_cases hlt:k<T.length
   ·have t:k<(bs T).size:=a_;have hb:=cK T k t;have T1:=fU ((bs T)[k]'t) 10 10 rfl;obtain⟨c,hc⟩:=exQ<|(bs T)[k]'t;rw[hc] at T1 hb;have bY:(((bs T)[k]'t).toNat:Int)=(c.toNat:Int):=(by rw[hc]);obtain⟨ci,aY⟩: ∃ci:Int,(c.toNat:Int)=ci:=⟨_,rfl⟩;rw[aY] at T1 bY;by_cases Z:c=10
    first
    |first|have _:=ww|have _:=xa|have _:=xb|have _:=xc|have _:=xd
     ·exact absurd (wI (by rw[hb,Z])) (by rw[hC1.out];simp)
    |·have o:Hid ((aW,(0:Int),(1:Int))=R):=hid (by rw[<-HR.out,if_pos (wI (by rw[hb,Z]))])
      rw[show (c==10)=true from beq_iff_eq.2 Z] at T1;clear Z hb hc aY HK;go_wp2_with fail;obtain⟨WF,d⟩:=exQ (cY W1 (w.heap.size+1) aW);have o:=(bW.put (r2:=aW) ab.out);rw[d] at o;have m:=hid o;clear o;dsimp only[cY,aW] at d;rw[d];clear d;clear s0 s1 b0 b1 b2 b3 b4 b5 b6 b7 b8 b9 N G B O I C D Q L J;obtain⟨c0,c1,c2,c3,c4,c5,c6,c7,c8,c9,_⟩:=m.out.l.cells;go_wp2_with fail;refine bodyPost_ret (v:= .tuple #[dW aW,(0:Int),(1:Int)]) ?_ rfl ⟨by rw[<-o.out];rfl,m.out.b⟩;exact bh
    ·have bN:Hid (∀j,j<k+1->T[j]?≠some 10):=hid (λj hj=>by
      by_cases h:j<k
      ·exact HK.out j h
      ·obtain rfl:j=k:=a_;rw[hb];simpa using Z)
     rw[show (c==10)=false from aE.2 Z] at T1;clear Z hb hc aY HK;exact kz
   first
   |first|have _:=ww|have _:=xa|have _:=xb|have _:=xc|have _:=xd
    ·have Z:T.contains 10=false:=wJ (λj hj=>HK.out j a_);have Y:Hid ((if wr<T.length then(aW,(x:Int)+wr,2) else kZ x y n (fQ (T.drop n)):aP×Int×Int)=R):=hid (by have:=HR.out;rw[if_neg (by rw[Z];simp)] at this;exact this);clear Z HK HR;by_cases hw:wr<T.length
     first
     |first|have _:=xa|have _:=xb|have _:=xc|have _:=xd
      ·exact absurd hw hC2.out
      ·rw [if_neg hw] at Y;have dw:decide (wr<T.length)=false:=aG hw;have az:(bs T).extract n T.length=bs (T.drop n):=iD T n _ rfl;obtain⟨U,hU⟩:=exQ<|T.drop n;have bP:U.length=T.length-n:=(by rw[<-hU,aU]);have ai:U.head?=T[n]?:=by rw[<-hU,Bc]
       first
       |first|have _:=xc|have _:=xd
        rw[hU] at az Y hC4 hC5
       |have _:=xb;rw[hU] at az Y hC4
       |rw[hU] at az Y
       have wxn:IntKind.i64.wrap ((x:Int)+(n:Int))=(x:Int)+(n:Int):=by rw[IntKind.wrap_i64];omega
       have hxn:(x:Int)+(n:Int)<=1073741824:=a_;have bx:Hid (T=List.replicate n 32++U):=hid (by have:=xR T;rw[aF.out.2.2,hU] at this;exact this);have ar:=hid bP;clear hw hU bP;by_cases hUe:n=T.length
       first
       |first|have _:=xb|have _:=xc|have _:=xd
        ·exact absurd hUe hC3.out
       |skip
       ·first
        |first|have _:=xb|have _:=xc|have _:=xd
         have hnT:n<T.length:=a_;clear hUe
        |have HC:Hid (fQ U=some ⟨1,0,0,0,none⟩):=hid (by have:U= []:=List.length_eq_zero_iff.1 (by have:=ar.out;omega);rw[this];rfl);clear ai az bx ar;subst hUe
        go_wp2_with (go_at_call 64;(with_reducible refine(CG.out _).mono ?_);rintro e w' ⟨rfl,rfl⟩)
        first
        |first|have _:=xb|have _:=xc|have _:=xd
         clear CG;go_loop [9] (λs9=> ∃k2:Nat,s9= .int .i64 k2/\k2<=n) (λs9=>T.length-(RowKit.intOf s9).toNat)
        |go_loop [9] (λs9=> ∃k2:Nat,s9= .int .i64 k2/\k2<=T.length) (λs9=>T.length-(RowKit.intOf s9).toNat)
        case atStart=>exact⟨0,rfl,a_⟩
        case round=>
         obtain⟨k2,rfl,hk2⟩:=hrel
         first
         |first|have _:=xb|have _:=xc|have _:=xd
          by_cases hlt2:k2<n
         |by_cases hlt2:k2<T.length
         ·have ay:k2<(bs T).size:=a_;have hb:=cK T k2 ay;rw[aF.out.1 k2 hlt2] at hb;have T2:((((bs T)[k2]'ay).toNat:Int)==32)=true:=by rw[fU _ 32 32 rfl,<-aV hb];rfl
          clear hb;go_wp2_with fail;go_round
          case rel=>exact⟨k2+1,q_,a_⟩
          case measure=>simp[RowKit.intOf];omega
         ·first
          |first|have _:=xb|have _:=xc|have _:=xd
           obtain rfl:n=k2:=a_;have ak:n<(bs T).size:=a_;have bj:=cK T n ak;have aB:=mO ((bs T)[n]'ak) 32 32 rfl;have an:=mO ((bs T)[n]'ak) 35 35 rfl;have ad:=mO ((bs T)[n]'ak) 34 34 rfl;have ag:=mO ((bs T)[n]'ak) 39 39 rfl;rw[<-bj] at aB;rw[<-bj,<-ai] at an ad ag;rw[show (T[n]?==some 32)=false from aE.2 aF.out.2.1] at aB;obtain⟨cc,cd⟩: ∃cc:Int,(((bs T)[n]'ak).toNat:Int)=cc:=⟨_,rfl⟩;rw[cd] at aB an ad ag;clear bj ai
          |obtain rfl:T.length=k2:=a_
          go_upto_region 14 with fail
          first
          |first|have _:=xb|have _:=xc|have _:=xd
           go_cut [10] (λbd wx=> ∃X,bd= .pointer (some ⟨X,0,none⟩)/\w.heap.size+2<=X/\Hid (bW w x y aW wx/\bF wx X ⟨1,x,y,n,0,0,0,0,0,0⟩))
          |go_cut [10] (λbd wx=> ∃X,bd= .pointer (some ⟨X,0,none⟩)/\w.heap.size+2<=X/\Hid (bW w x y aW wx/\bF wx X ⟨1,x,y,T.length,0,0,0,0,0,0⟩))
          first
          |first|have _:=xa|have _:=xb|have _:=xc
           case first=>exact lj
          |case first=>
            as_aux_lemma=>exact lj
          clear s0 s1 b0 b1 b2 b3 b4 b5 b6 b7 b8 b9 N G B O I C D Q L J;obtain⟨X,rfl,hX,K⟩:=hcut;obtain⟨s0,s1⟩:=K.out.1.s.cells;obtain⟨a0,a1,a2,a3,a4,a5,a6,a7,a8,a9,g0,g1,g2,g3,g4,g5,g6,g7,g8,g9⟩:=K.out.2.cells;obtain⟨b0,b1,b2,b3,b4,b5,b6,b7,b8,b9,N,G,B,O,I,C,D,Q,L,J⟩:=K.out.1.l.cells;go_upto_region 16 with fail
          first
          |first|have _:=xb|have _:=xc|have _:=xd
           go_cut [] (λwx=>Hid (bW w x y aW wx/\bF wx X ⟨1,x,y,n,0,0,x+n,x+n,0,0⟩))
          |go_cut [] (λwx=>Hid (bW w x y aW wx/\bF wx X ⟨1,x,y,T.length,0,0,x+T.length,x+T.length,0,0⟩))
          first
          |first|have _:=xa|have _:=xb|have _:=xc
           case first=>exact mf
          |case first=>
            as_aux_lemma=>exact mf
          clear s0 s1 a0 a1 a2 a3 a4 a5 a6 a7 a8 a9 g0 g1 g2 g3 g4 g5 g6 g7 g8 g9 b0 b1 b2 b3 b4 b5 b6 b7 b8 b9 N G B O I C D Q L J;have K:=hcut;obtain⟨s0,s1⟩:=K.out.1.s.cells;obtain⟨a0,a1,a2,a3,a4,a5,a6,a7,a8,a9,g0,g1,g2,g3,g4,g5,g6,g7,g8,g9⟩:=K.out.2.cells;obtain⟨b0,b1,b2,b3,b4,b5,b6,b7,b8,b9,N,G,B,O,I,C,D,Q,L,J⟩:=K.out.1.l.cells
          first
          |first|have _:=xb|have _:=xc|have _:=xd
           have aa:U≠ []:=by intro e;have:=ar.out;rw[e] at this;simp at this;omega
           have g:fQ U=if U.head?=some 35 then some ⟨2,0,0,0,some 0⟩ else if(U.head?=some 34\/U.head?=some 39)/\cU U=0 then none else some (sR U (eO U) (cE U (eI (eO U))) (dZ U (cE U (eI (eO U))+cU (U.drop (cE U (eI (eO U))))))):=by unfold fQ;rw[if_neg aa]
           have tnT:((n:Int)==(T.length:Int))=false:=aE.2 a_;by_cases h35:U.head?=some 35
          |skip
          first
          |first|have _:=xc|have _:=xd
           ·exact absurd h35 hC4.out
           ·rw [if_neg h35] at g;rw[show (U.head?==some 35)=false from aE.2 h35] at an;have bp:U.length<=1073741824:=by have:=ar.out;omega
            have CQ:=hid (λw=>Az U w bp);by_cases hbq:(U.head?=some 34\/U.head?=some 39)/\cU U=0
            first
            |have _:=xc
             ·rw[if_pos hbq] at g;have HC:=hid g;have aw:cc=34\/((cc==34)=false/\cc=39):=by
               by_cases hc34:cc=34
               ·exact .inl hc34
               ·right;have ax:(cc==34)=false:=aE.2 hc34;refine⟨ax,?_⟩;rcases hbq.1 with h | h
                ·rw[ax,h] at ad;cases ad
                ·rw[h] at ag;exact beq_iff_eq.1 (by rw[ag];rfl)
              rw[hbq.2] at CQ;clear g h35 aa hbq ad ag an aB;rcases aw with rfl | ⟨ax,rfl⟩
              all_goals
               go_wp2_with fail;(with_reducible refine(CQ.out _).mono ?_);rintro e w3 ⟨rfl,p⟩;have S:=hid (aK (K.out.1.keep p) (K.out.2.keep p));clear p;clear s0 s1 a0 a1 a2 a3 a4 a5 a6 a7 a8 a9 g0 g1 g2 g3 g4 g5 g6 g7 g8 g9 b0 b1 b2 b3 b4 b5 b6 b7 b8 b9 N G B O I C D Q L J;obtain⟨s0,s1⟩:=S.out.1.s.cells;obtain⟨a0,a1,a2,a3,a4,a5,a6,a7,a8,a9,g0,g1,g2,g3,g4,g5,g6,g7,g8,g9⟩:=S.out.2.cells;obtain⟨b0,b1,b2,b3,b4,b5,b6,b7,b8,b9,N,G,B,O,I,C,D,Q,L,J⟩:=S.out.1.l.cells;go_wp2_with fail;obtain⟨WF,d⟩:=exQ (cY w3 (w.heap.size+1) aW);have o:=(bW.put (r2:=aW) S.out.1);rw[d] at o;have m:=hid o;clear o;dsimp only[cY,aW] at d;rw[d];clear d;clear s0 s1 a0 a1 a2 a3 a4 a5 a6 a7 a8 a9 g0 g1 g2 g3 g4 g5 g6 g7 g8 g9 b0 b1 b2 b3 b4 b5 b6 b7 b8 b9 N G B O I C D Q L J;obtain⟨c0,c1,c2,c3,c4,c5,c6,c7,c8,c9,_⟩:=m.out.l.cells;go_wp2_with fail;refine bodyPost_ret (v:= .tuple #[dW aW, .int .i64 ((x:Int)+(n:Int)),(2:Int)]) ?_ rfl ⟨by rw[<-Y.out,HC.out];rfl,m.out.b⟩;exact bh
             ·exact absurd hC5.out hbq
            |·exact absurd hbq hC5.out
             ·rw [if_neg hbq] at g;have HC:=hid g;have bn:=Dw U hbq;have CH:=hid (λw=>Yp U w aa bp);have bA:=hid h35;obtain⟨H,hH⟩:=exQ<|eO U;rw[hH] at HC bn CH;obtain⟨f,u⟩:=H;unfold Mp at CH;simp only[] at CH;have hF:eI (f,u)<=U.length/\(f=3\/f=4\/f=5)/\u<U.length+1:=by
               have hU0:0<U.length:=qV.2 aa;unfold eI;rcases bn with⟨h,_⟩ | h | ⟨k,h,_,B,_⟩
               all_goals (obtain⟨rfl,rfl⟩:=Prod.mk.inj h)
               ·exact⟨by simp;omega,a_,a_⟩
               ·exact⟨e_,a_,a_⟩
               ·exact⟨by simp;omega,a_,a_⟩
              obtain⟨ce,bu,hF3⟩:=hF;have bc:eI (f,u)=if f=3 then 1 else if f=4 then u+1 else 0:=rfl;obtain⟨F,bG⟩:=exQ<|eI (f,u);have ba:=λr hr=>An U T n x y (f,u) bA.out bx.out r hr;rw[bG] at HC ce bc ba;have bC: ∀q:Nat,cU U=q->(cc=34/\((q:Int)==0)=false)\/((cc==34)=false/\cc=39/\((q:Int)==0)=false)\/((cc==34)=false/\(cc==39)=false):=by
               rintro q rfl;by_cases hc34:cc=34
               ·left;exact⟨hc34,aE.2 (λe=>hbq ⟨.inl (by rw[hc34] at ad;exact beq_iff_eq.1 ad.symm),a_⟩)⟩
               ·right;by_cases hc39:cc=39
                ·left;exact⟨aE.2 hc34,hc39,aE.2 (λe=>hbq ⟨.inr (by rw[hc39] at ag;exact beq_iff_eq.1 ag.symm),a_⟩)⟩
                ·right;exact⟨aE.2 hc34,aE.2 hc39⟩
              obtain⟨q,aS⟩:=exQ<|cU U;have bq:=bC q aS;rw[aS] at CQ;have cg:=hid ba;have bK:=hid bc;have hUTn:n+U.length=T.length:=by have:=ar.out;omega
              have bX:n+F<=T.length:=a_;clear g h35 hbq ad ag bn hH bG ba bC aS bc aa;go_upto_region 23 with fail;go_cut [121] (λbt wx=>bt= .bool false/\Hid (bW w x y aW wx/\bF wx X ⟨1,x,y,n,0,0,x+n,x+n,0,0⟩))
              case first=>
               as_aux_lemma=>
                rcases bq with⟨rfl,tq⟩ | ⟨ax,rfl,tq⟩ | ⟨ax,t39⟩
                ·exact jw
                ·exact jw
                ·go_wp2_with fail;go_meet;exact⟨rfl,K.out⟩
              clear s0 s1 a0 a1 a2 a3 a4 a5 a6 a7 a8 a9 g0 g1 g2 g3 g4 g5 g6 g7 g8 g9 b0 b1 b2 b3 b4 b5 b6 b7 b8 b9 N G B O I C D Q L J;obtain⟨rfl,K⟩:=hcut;clear bq CQ;go_wp2_with fail;(with_reducible refine(CH.out _).mono ?_);rintro e w3 ⟨rfl,p⟩;have S:=hid (aK (K.out.1.keep p) (K.out.2.keep p));clear p K CH;obtain⟨s0,s1⟩:=S.out.1.s.cells;obtain⟨a0,a1,a2,a3,a4,a5,a6,a7,a8,a9,g0,g1,g2,g3,g4,g5,g6,g7,g8,g9⟩:=S.out.2.cells;obtain⟨b0,b1,b2,b3,b4,b5,b6,b7,b8,b9,N,G,B,O,I,C,D,Q,L,J⟩:=S.out.1.l.cells;go_upto_region 27 with fail;have ae:Hid (bW w x y aW (w3.setCell ⟨X,0,none⟩ (.int .i64 (f:Int)))/\bF (w3.setCell ⟨X,0,none⟩ (.int .i64 (f:Int))) X ⟨f,x,y,n,0,0,x+n,x+n,0,0⟩):=hid ⟨S.out.1.set hX 0 _,eP S.out.2 0 _⟩;obtain⟨W4,bJ⟩:=exQ<|w3.setCell ⟨X,0,none⟩ (.int .i64 (f:Int));rw[bJ] at ae ⊢;clear bJ S;clear s0 s1 a0 a1 a2 a3 a4 a5 a6 a7 a8 a9 g0 g1 g2 g3 g4 g5 g6 g7 g8 g9 b0 b1 b2 b3 b4 b5 b6 b7 b8 b9 N G B O I C D Q L J;obtain⟨s0,s1⟩:=ae.out.1.s.cells;obtain⟨a0,a1,a2,a3,a4,a5,a6,a7,a8,a9,g0,g1,g2,g3,g4,g5,g6,g7,g8,g9⟩:=ae.out.2.cells;obtain⟨b0,b1,b2,b3,b4,b5,b6,b7,b8,b9,N,G,B,O,I,C,D,Q,L,J⟩:=ae.out.1.l.cells;have hkbd:n+u<=T.length:=a_;have hxk:(x:Int)+(n:Int)+(u:Int)<=1073741824:=a_;have hnk:(n:Int)+(u:Int)<=1073741824:=a_;obtain⟨f0,bw⟩:=exQ (if f=3 then n+1 else n);obtain⟨kf,bE⟩: ∃kf:Int,(if f=4 then(x:Int)+(n:Int) else 0)=kf:=⟨_,rfl⟩;obtain⟨kt,bI⟩: ∃kt:Int,(if f=4 then(x:Int)+(n:Int)+(u:Int) else 0)=kt:=⟨_,rfl⟩;have bm:=hid bw;have aC:=hid (aK bE bI);clear bw bE bI;go_upto_if 135 with fail;go_cut [14] (λaf wx=>af= .int .i64 (f0:Int)/\W4=wx)
              case first=>
               as_aux_lemma=>
                rcases bu with rfl|rfl|rfl
                all_goals
                 go_wp2_with fail;go_meet;exact⟨Bb (by have h:=bm.out;simp at h;omega),rfl⟩
              obtain⟨rfl,rfl⟩:=hcut;go_upto_if 139 with fail;go_cut [14] (λaf wx=>af= .int .i64 ((n+F:Nat):Int)/\Hid (bW w x y aW wx/\bF wx X ⟨f,x,y,n,kf,kt,x+n,x+n,0,0⟩))
              case first=>
               as_aux_lemma=>
                rcases bu with rfl|rfl|rfl
                ·exact jl
                ·go_wp2_with fail;go_meet;refine⟨Bb D',(ae.out.1.set hX 4 _).set hX 5 _,?_⟩;have h:=aC.out;simp only[if_true] at h;rw[<-h.1,<-h.2];exact eP (eP ae.out.2 4 _) 5 _
                ·exact jl
              clear s0 s1 a0 a1 a2 a3 a4 a5 a6 a7 a8 a9 g0 g1 g2 g3 g4 g5 g6 g7 g8 g9 b0 b1 b2 b3 b4 b5 b6 b7 b8 b9 N G B O I C D Q L J;obtain⟨rfl,K⟩:=hcut;clear ae;obtain⟨B1,B2,B3,B4⟩:=Dx T (n+F) bX;obtain⟨f2,bf⟩:=exQ<|cE T (n+F);rw[bf] at B1 B2 B3 B4;have HB:=hid (aK B3 B4);have bk:=hid (λw=>Az (T.drop f2) w y_);have bU:=Ai (T.drop f2);rw[aU] at bU;obtain⟨q2,aw⟩:=exQ<|cU (T.drop f2);rw[aw] at bk bU;have hT2:(bs T).extract f2 T.length=bs (T.drop f2):=iD T f2 _ rfl;have CC:=hid (λw=>Mo T (f2+q2) w bV a_);have br:=uF T (f2+q2);obtain⟨tw,V⟩:=exQ<|dZ T (f2+q2);rw[V] at CC br;rw[show ((f2+q2:Nat):Int)=(f2:Int)+(q2:Int) by omega] at CC;obtain⟨n1,n2,_⟩:=br;have hft:f2<=tw:=by
               by_cases hl:tw<T.length
               ·have:=(n2 hl).1;omega
               ·omega
              obtain⟨M,hM⟩:=exQ<|(T.take tw).drop f2;have cf:M.length=tw-f2:=by rw[<-hM,aU,bT];omega
              have bi: ∀i,i<tw-f2->M[i]?=T[f2+i]?:=λi hi=>by rw[<-hM,kR,List.getElem?_take,if_pos a_]
              obtain⟨z,hz⟩:=exQ<|jK M;have bR:=zZ M;have aT:=Km M;have bl:=Kn M;rw[hz] at bR aT bl;obtain⟨e4,cl⟩:=exQ<|f2+z;have HE:Hid ((∀j,e4<=j->j<tw->T[j]?=some 32)/\(e4=f2\/(f2<e4/\T[e4-1]?≠some 32))):=hid ⟨λj G B=>by
                have:=aT (j-f2) a_ a_;rw[bi _ a_,show f2+(j-f2)=j by omega] at this;exact this,by
                by_cases h:z=0
                ·left;omega
                ·right;refine⟨a_,?_⟩;have:=bl a_;rw[bi _ a_,show f2+(z-1)=e4-1 by omega] at this;exact this⟩
              have cj:f2<=e4:=a_;have bO:e4<=tw:=a_;obtain⟨nf,aZ⟩: ∃nf:Int,(if tw<T.length then(x:Int)+(tw:Int) else 0)=nf:=⟨_,rfl⟩;obtain⟨nt,bb⟩: ∃nt:Int,(if tw<T.length then(y:Int) else 0)=nt:=⟨_,rfl⟩;have bZ:Hid (pB T (n+F) ⟨f,x,y,n,kf,kt,x+n,x+n,0,0⟩=⟨f,x,y,n,kf,kt,x+f2,x+e4,nf,nt⟩):=hid (by unfold pB;rw[bf,aw,V];unfold Am;rw[hM,hz,<-aZ,<-bb];simp only[aP.mk.injEq,true_and,and_true];omega);have bQ:=hid (aK aZ bb);have hxf:(x:Int)+(f2:Int)<=1073741824:=a_;have hxe:(x:Int)+(e4:Int)<=1073741824:=a_;have hxt:(x:Int)+(tw:Int)<=1073741824:=a_;have hfq:(f2:Int)+(q2:Int)<=1073741824:=a_;have hf2i:(f2:Int)<=(T.length:Int):=a_;have aN:max (e4:Int) (f2:Int)=(e4:Int):=a_;have ck:=hid aN;clear B3 B4 bf aw V n2 hM cf bi hz bR aT bl cl aZ bb aN;go_upto_block 4 with fail;go_cut [14] (λaf wx=>af= .int .i64 (f2:Int)/\wc=wx)
              case first=>
               as_aux_lemma=>
                go_wp2_with fail;go_loop [14] (λaf=> ∃k3:Nat,af= .int .i64 k3/\n+F<=k3/\k3<=f2) (λaf=>T.length-(RowKit.intOf af).toNat)
                case atStart=>exact⟨n+F,rfl,a_,B1⟩
                case round=>
                 obtain⟨k3,rfl,cb,h32⟩:=hrel;by_cases hlt3:k3<f2
                 ·have W:k3<(bs T).size:=a_;have p:=cK T k3 W;rw[HB.out.1 k3 cb hlt3] at p;have T3:((((bs T)[k3]'W).toNat:Int)==32)=true:=by rw[fU _ 32 32 rfl,<-aV p];rfl
                  clear p;go_wp2_with fail;go_round
                  case rel=>exact⟨k3+1,q_,a_,a_⟩
                  case measure=>simp[RowKit.intOf];omega
                 ·obtain rfl:f2=k3:=a_;by_cases hend:f2<T.length
                  ·have W:f2<(bs T).size:=a_;have p:=cK T f2 W;have T3:((((bs T)[f2]'W).toNat:Int)==32)=false:=by
                    rw[mO _ 32 32 rfl,<-p];exact aE.2 HB.out.2
                   clear p;exact ah
                  ·have dend:decide (f2<T.length)=false:=aG hend;exact ah
              obtain⟨rfl,rfl⟩:=hcut;go_wp2_with fail;(with_reducible refine(bk.out _).mono ?_);rintro e w5 ⟨rfl,bg⟩;have E:=hid (aK (K.out.1.keep bg) (K.out.2.keep bg));clear bg K bk;obtain⟨s0,s1⟩:=E.out.1.s.cells;obtain⟨a0,a1,a2,a3,a4,a5,a6,a7,a8,a9,g0,g1,g2,g3,g4,g5,g6,g7,g8,g9⟩:=E.out.2.cells;obtain⟨b0,b1,b2,b3,b4,b5,b6,b7,b8,b9,N,G,B,O,I,C,D,Q,L,J⟩:=E.out.1.l.cells;obtain⟨BT,bz⟩:=exQ<|decide (tw<T.length);go_upto_if 173 with(go_at_call 67;(with_reducible refine(CC.out _).mono ?_);rintro e w' ⟨rfl,rfl⟩);have bM:=hid bz;clear bz;go_cut [] (λwx=>Hid (bW w x y aW wx/\bF wx X ⟨f,x,y,n,kf,kt,x+n,x+n,nf,nt⟩))
              case first=>
               as_aux_lemma=>
                cases BT with
                | true=>
                 have V:tw<T.length:=of_decide_eq_true bM.out;have h:=bQ.out;rw[if_pos V,if_pos V] at h;have av:=hid h;clear h V;go_wp2_with fail;go_meet;rw[<-av.out.1,<-av.out.2];exact⟨(E.out.1.set hX 8 _).set hX 9 _,eP (eP E.out.2 8 _) 9 _⟩
                | false=>
                 have V: ¬tw<T.length:=of_decide_eq_false bM.out;have h:=bQ.out;rw[if_neg V,if_neg V] at h;have av:=hid h;clear h V;go_wp2_with fail;go_meet;rw[<-av.out.1,<-av.out.2];exact E.out
              clear s0 s1 a0 a1 a2 a3 a4 a5 a6 a7 a8 a9 g0 g1 g2 g3 g4 g5 g6 g7 g8 g9 b0 b1 b2 b3 b4 b5 b6 b7 b8 b9 N G B O I C D Q L J;have al:=hcut;clear E CC;obtain⟨s0,s1⟩:=al.out.1.s.cells;obtain⟨a0,a1,a2,a3,a4,a5,a6,a7,a8,a9,g0,g1,g2,g3,g4,g5,g6,g7,g8,g9⟩:=al.out.2.cells;obtain⟨b0,b1,b2,b3,b4,b5,b6,b7,b8,b9,N,G,B,O,I,C,D,Q,L,J⟩:=al.out.1.l.cells;go_upto_block 6 with fail;go_cut [15] (λap wx=>ap= .int .i64 (e4:Int)/\wc=wx)
              case first=>
               as_aux_lemma=>
                go_wp2_with fail;go_loop [15] (λap=> ∃k4:Nat,ap= .int .i64 k4/\e4<=k4/\k4<=tw) (λap=>(RowKit.intOf ap).toNat)
                case atStart=>exact⟨tw,rfl,bO,aD _⟩
                case round=>
                 obtain⟨k4,rfl,ca,ch⟩:=hrel;by_cases hlt4:e4<k4
                 ·obtain⟨j,rfl⟩: ∃j,k4=j+1:=⟨k4-1,a_⟩;have aq:j<(bs T).size:=a_;have am:=cK T j aq;rw[HE.out.1 j a_ a_] at am;have T4:((((bs T)[j]'aq).toNat:Int)==32)=true:=by rw[fU _ 32 32 rfl,<-aV am];rfl
                  have dj:decide (f2<j+1)=true:=aO a_;have dj2:decide ((f2:Int)<(j:Int)+1)=true:=aO a_;clear am;go_wp2_with fail;go_round
                  case rel=>exact⟨j,q_,a_,a_⟩
                  case measure=>simp[RowKit.intOf]
                 ·obtain rfl:e4=k4:=a_;rcases HE.out.2 with C | ⟨C,D⟩
                  ·subst C;have dj:decide (e4<e4)=false:=aG (Nat.lt_irrefl _);exact ah
                  ·obtain⟨j,bH⟩: ∃j,e4=j+1:=⟨e4-1,a_⟩;have aq:j<(bs T).size:=a_;have am:=cK T j aq;rw[bH,Nat.add_sub_cancel] at D;have T4:((((bs T)[j]'aq).toNat:Int)==32)=false:=by
                    rw[mO _ 32 32 rfl,<-am];exact aE.2 D
                   have hidx:(e4:Int)-1=(j:Int):=a_;have dj:decide (f2<e4)=true:=aO C;clear am D bH ca ch hlt4 C cj bO;exact ah
              obtain⟨rfl,rfl⟩:=hcut;have aN:=ck.out;go_upto_region 41 with fail;have au:Hid (bW w x y aW ((wc.setCell ⟨X,6,none⟩ (.int .i64 ((x:Int)+(f2:Int)))).setCell ⟨X,7,none⟩ (.int .i64 ((x:Int)+(e4:Int))))/\bF ((wc.setCell ⟨X,6,none⟩ (.int .i64 ((x:Int)+(f2:Int)))).setCell ⟨X,7,none⟩ (.int .i64 ((x:Int)+(e4:Int)))) X ⟨f,x,y,n,kf,kt,x+f2,x+e4,nf,nt⟩):=
               hid ⟨(al.out.1.set hX 6 _).set hX 7 _,eP (eP al.out.2 6 _) 7 _⟩
              obtain⟨W7,bL⟩:=exQ ((wc.setCell ⟨X,6,none⟩ (.int .i64 ((x:Int)+(f2:Int)))).setCell ⟨X,7,none⟩ (.int .i64 ((x:Int)+(e4:Int))));rw[bL] at au ⊢;clear bL al;clear s0 s1 a0 a1 a2 a3 a4 a5 a6 a7 a8 a9 g0 g1 g2 g3 g4 g5 g6 g7 g8 g9 b0 b1 b2 b3 b4 b5 b6 b7 b8 b9 N G B O I C D Q L J;obtain⟨s0,s1⟩:=au.out.1.s.cells;obtain⟨a0,a1,a2,a3,a4,a5,a6,a7,a8,a9,g0,g1,g2,g3,g4,g5,g6,g7,g8,g9⟩:=au.out.2.cells;obtain⟨b0,b1,b2,b3,b4,b5,b6,b7,b8,b9,N,G,B,O,I,C,D,Q,L,J⟩:=au.out.1.l.cells;go_wp2_with fail;go_region;obtain⟨WF,d⟩:=exQ<|(cY W7 (w.heap.size+1) ⟨f,x,y,n,kf,kt,x+f2,x+e4,nf,nt⟩).drew;have o:=(bW.put (r2:=⟨f,x,y,n,kf,kt,x+f2,x+e4,nf,nt⟩) au.out.1).drew;rw[d] at o;have m:=hid o;clear o;dsimp only[cY,aW] at d;rw[d];clear d;clear s0 s1 a0 a1 a2 a3 a4 a5 a6 a7 a8 a9 g0 g1 g2 g3 g4 g5 g6 g7 g8 g9 b0 b1 b2 b3 b4 b5 b6 b7 b8 b9 N G B O I C D Q L J;obtain⟨c0,c1,c2,c3,c4,c5,c6,c7,c8,c9,_⟩:=m.out.l.cells;go_wp2_with fail;refine bodyPost_ret (v:= .tuple #[dW ⟨f,x,y,n,kf,kt,x+f2,x+e4,nf,nt⟩,y,(0:Int)]) ?_ rfl ⟨by rw[<-Y.out,HC.out];exact sX ((cg.out _ (by rw[<-aC.out.1,<-aC.out.2])).trans bZ.out),m.out.b⟩;exact bh
          |have _:=xb
           ·rw[if_pos h35] at g;have HC:=hid g;have t35:(cc==35)=true:=by rw[an,h35];rfl
            clear g an ad ag h35 aa;go_upto_region 22 with fail;have E:Hid (bW w x y aW (((wc.setCell ⟨X,0,none⟩ (.int .i64 2)).setCell ⟨X,8,none⟩ (.int .i64 ((x:Int)+(n:Int)))).setCell ⟨X,9,none⟩ (.int .i64 (y:Int)))/\bF (((wc.setCell ⟨X,0,none⟩ (.int .i64 2)).setCell ⟨X,8,none⟩ (.int .i64 ((x:Int)+(n:Int)))).setCell ⟨X,9,none⟩ (.int .i64 (y:Int))) X ⟨2,x,y,n,0,0,x+n,x+n,x+n,y⟩):=
             hid ⟨((K.out.1.set hX 0 _).set hX 8 _).set hX 9 _,eP (eP (eP K.out.2 0 _) 8 _) 9 _⟩
            obtain⟨W5,bB⟩:=exQ (((wc.setCell ⟨X,0,none⟩ (.int .i64 2)).setCell ⟨X,8,none⟩ (.int .i64 ((x:Int)+(n:Int)))).setCell ⟨X,9,none⟩ (.int .i64 (y:Int)));rw[bB] at E ⊢;clear bB;clear s0 s1 a0 a1 a2 a3 a4 a5 a6 a7 a8 a9 g0 g1 g2 g3 g4 g5 g6 g7 g8 g9 b0 b1 b2 b3 b4 b5 b6 b7 b8 b9 N G B O I C D Q L J;obtain⟨s0,s1⟩:=E.out.1.s.cells;obtain⟨a0,a1,a2,a3,a4,a5,a6,a7,a8,a9,g0,g1,g2,g3,g4,g5,g6,g7,g8,g9⟩:=E.out.2.cells;obtain⟨b0,b1,b2,b3,b4,b5,b6,b7,b8,b9,N,G,B,O,I,C,D,Q,L,J⟩:=E.out.1.l.cells;go_wp2_with fail;go_region;obtain⟨WF,d⟩:=exQ<|(cY W5 (w.heap.size+1) ⟨2,x,y,n,0,0,x+n,x+n,x+n,y⟩).drew;have o:=(bW.put (r2:=⟨2,x,y,n,0,0,x+n,x+n,x+n,y⟩) E.out.1).drew;rw[d] at o;have m:=hid o;clear o;dsimp only[cY,aW] at d;rw[d];clear d;clear s0 s1 a0 a1 a2 a3 a4 a5 a6 a7 a8 a9 g0 g1 g2 g3 g4 g5 g6 g7 g8 g9 b0 b1 b2 b3 b4 b5 b6 b7 b8 b9 N G B O I C D Q L J;obtain⟨c0,c1,c2,c3,c4,c5,c6,c7,c8,c9,_⟩:=m.out.l.cells;go_wp2_with fail;refine bodyPost_ret (v:= .tuple #[dW ⟨2,x,y,n,0,0,x+n,x+n,x+n,y⟩,y,(0:Int)]) ?_ rfl ⟨by rw[<-Y.out,HC.out];exact sX (by unfold oV;simp),m.out.b⟩;exact bh
           ·exact absurd hC4.out h35
          |go_wp2_with fail;go_region;obtain⟨WF,d⟩:=exQ<|(cY wc (w.heap.size+1) ⟨1,x,y,T.length,0,0,x+T.length,x+T.length,0,0⟩).drew;have o:=(bW.put (r2:=⟨1,x,y,T.length,0,0,x+T.length,x+T.length,0,0⟩) K.out.1).drew;rw[d] at o;have m:=hid o;clear o;dsimp only[cY,aW] at d;rw[d];clear d;clear s0 s1 a0 a1 a2 a3 a4 a5 a6 a7 a8 a9 g0 g1 g2 g3 g4 g5 g6 g7 g8 g9 b0 b1 b2 b3 b4 b5 b6 b7 b8 b9 N G B O I C D Q L J;obtain⟨c0,c1,c2,c3,c4,c5,c6,c7,c8,c9,_⟩:=m.out.l.cells;go_wp2_with fail;refine bodyPost_ret (v:= .tuple #[dW ⟨1,x,y,T.length,0,0,x+T.length,x+T.length,0,0⟩,y,(0:Int)]) ?_ rfl ⟨by rw[<-Y.out,HC.out];exact sX (by unfold oV;simp),m.out.b⟩;exact bh
       first
       |have _:=xa
        ·exact absurd hC3.out hUe
       |skip
     |·have o:Hid ((aW,(x:Int)+(wr:Int),(2:Int))=R):=hid (by rw[<-Y.out,if_pos hw])
       have dw:decide (wr<T.length)=true:=aO hw;have wxw:IntKind.i64.wrap ((x:Int)+(wr:Int))=(x:Int)+(wr:Int):=by rw[IntKind.wrap_i64];omega
       clear hw Y aF;go_upto_region 10 with(go_at_call 64;(with_reducible refine(CG.out _).mono ?_);rintro e w' ⟨rfl,rfl⟩);go_region_with (go_at_call 64;(with_reducible refine(CG.out _).mono ?_);rintro e w' ⟨rfl,rfl⟩)
       all_goals
        obtain⟨WF,d⟩:=exQ<|(cY W1 (w.heap.size+1) aW).drew;have o:=(bW.put (r2:=aW) ab.out).drew;rw[d] at o;have m:=hid o;clear o;dsimp only[cY,aW] at d;rw[d];clear d;clear s0 s1 b0 b1 b2 b3 b4 b5 b6 b7 b8 b9 N G B O I C D Q L J;obtain⟨c0,c1,c2,c3,c4,c5,c6,c7,c8,c9,_⟩:=m.out.l.cells;go_wp2_with fail;refine bodyPost_ret (v:= .tuple #[dW aW, .int .i64 ((x:Int)+(wr:Int)),(2:Int)]) ?_ rfl ⟨by rw[<-o.out];rfl,m.out.b⟩;exact bh
      ·exact absurd hC2.out hw
   |·exact absurd (wJ (λj hj=>HK.out j a_)) (by rw[hC1.out];simp)
 |obtain⟨WF,d⟩:=exQ (cY W1 (w.heap.size+1) aW);have o:=(bW.put (r2:=aW) ab.out);rw[d] at o;have m:=hid o;clear o;dsimp only[cY,aW] at d;rw[d];clear d;clear s0 s1 b0 b1 b2 b3 b4 b5 b6 b7 b8 b9 N G B O I C D Q L J;obtain⟨c0,c1,c2,c3,c4,c5,c6,c7,c8,c9,_⟩:=m.out.l.cells;go_wp2_with fail;refine bodyPost_ret (v:= .tuple #[dW aW,(0:Int),(1:Int)]) ?_ rfl ⟨rfl,m.out.b⟩;exact bh):P:=h
theorem pw(h:P:=by
 have sl:=aM t;obtain⟨R,K⟩:=exQ<|w.heap.size;obtain⟨W1,p⟩:=exQ<|w.alloc (.cells #[(0:Int), .string ⟨#[]⟩,(),()] 36);have z:Hid (Below w.heap.size w W1):=hid (by rw[<-p];exact aL _ _);have o:Hid (W1.heap[R]?=some (.cells #[(0:Int),bs [],(),()] 36)):=hid (by rw[<-p,<-K];exact heap_alloc_new w _);have n:=hid (aF o.out);have C:Hid (w.heap.size<=R):=hid (by rw[K];exact aD _);have HV:=hid (hV.keep z.out)
 first
 |have:=v7;have x:Hid (∀(s:aA) w',s.length<=1073741824->Below W1.heap.size W1 w'->Calls Tryz.prog 79 #[bs s] w' λe w2=>e=sV s/\Below w'.heap.size w' w2):=hid (λs w' h H=>Wm s w' h (HV.out.keep H).1);have L:Hid (∀(s:aA) w',Calls Tryz.prog 18 #[bs s] w' λe w2=>e= .returned (.agg #[(4:Int),bs s,(),()])/\Below w'.heap.size w' w2):=hid (λs w'=>xP s w')
 |have x:Hid (∀(s:aA) w',s.length<=1073741824->Below W1.heap.size W1 w'->Calls Tryz.prog 56 #[bs s] w' λe w2=>e=sV s/\Below w'.heap.size w' w2):=hid (λs w' h H=>aAz s w' h (HV.out.keep H).1);have L:Hid (∀(s:aA) w',Calls Tryz.prog 32 #[bs s] w' λe w2=>e= .returned (.agg #[(4:Int),bs s,(),()])/\Below w'.heap.size w' w2):=hid (λs w'=>Nt s w')
 unfold sV at x;cases t with
 | nil=>
   have e0:((bs ([]:aA)).toList== [])=true:=pR [];have ah:(bs ([]:aA)).toList.isEmpty=true:=nZ [];show Calls _ _ _ _ (pS (mL []) 0 w);have CR:=hid (λw' H=>x.out [] w' b_ H);obtain⟨⟨rk,rs⟩,E⟩:=exQ<|oZ [];have M:mL []= .mk rk rs [] []:=by unfold mL;rw[E]
   rw[E] at CR;rw[M];clear E M x;first|have:=v7;clear hV;go_enter Tryz.func47,Tryz.ntmps47|clear hV hCJ;go_enter Tryz.func31,Tryz.ntmps31
   go_upto_region 1 with fail;clear p K;go_wp2_with fail;refine(CR.out _ (aB _ _)).mono ?_;rintro e w2 ⟨rfl,l⟩;have m:=hid l;clear l;have j:=hid (iJ (t:=VT.mk rk rs [] []) z.out C.out n.out (kY _ _ _ _) m.out o.out);obtain⟨r0,r1,r2,r3,f0,f1,f2,f3⟩:=bJ ((m.out.block R n.out).trans o.out);go_wp2_with fail;obtain⟨WF,d⟩:=exQ<|bB w2 R rk rs (.slice none 0 0) (.slice none 0 0);have g:fX w.heap.size (bB w2 R rk rs (.slice none 0 0) (.slice none 0 0)) (VT.mk rk rs [] []).depth (VT.mk rk rs [] []) (.slice none 0 0) (.slice none 0 0)/\Below w.heap.size w (bB w2 R rk rs (.slice none 0 0) (.slice none 0 0))/\(bB w2 R rk rs (.slice none 0 0) (.slice none 0 0)).heap[R]?=some (.cells #[rk,bs rs,(.slice none 0 0),(.slice none 0 0)] 36):=j.out;rw[d] at g;have b:=hid g;have f:(((w2.setCell ⟨R,0,none⟩ (.int .i64 rk)).setCell ⟨R,1,none⟩ (.string (bs rs))).setCell ⟨R,2,none⟩ (.slice none 0 0)).setCell ⟨R,3,none⟩ (.slice none 0 0)=WF:=d
   first
     | rw[f]
     | (have i:(((w2.setCell ⟨R,0,none⟩ (.int .i64 rk)).setCell ⟨R,1,none⟩ (.string ⟨#[]⟩)).setCell ⟨R,2,none⟩ (.slice none 0 0)).setCell ⟨R,3,none⟩ (.slice none 0 0)=WF:=d
        rw[i])
   exact jd
 | cons c r=>
   first|have:=v7;have CT:=hid (λw' (H:Below W1.heap.size W1 w')=>Lh (c::r) c r rfl w' hs (HV.out.keep H));have CB:=hid (λw' (H:Below W1.heap.size W1 w')=>Lb (c::r) w' hs (HV.out.keep H).1);have CJ:=hid (λw' (H:Below W1.heap.size W1 w')=>Wu (c::r) w' hs (HV.out.keep H))|have CU:=hid (λw'=>Ae (c::r) w' hs);have CS:=hid (λw'=>Mn (c::r) 0 w' hs);unfold gP at CU CS;have CB:=hid (λw' (H:Below W1.heap.size W1 w')=>Fm (c::r) w' a_);have CJ:=hid (λw' (_:Below W1.heap.size W1 w')=>hCJ w')
   unfold iB;simp only[];obtain⟨t,U⟩:=exQ<|c::r;have aa:0<t.length:=by rw[<-U];simp
   have hc0:(bs t)[0]'(by rw[aM];exact aa)=c:=by
     subst U;rfl
   have N:t≠ []:=by rw[<-U];simp
   have e0:((bs t).toList== [])=false:=by rw[pR];cases t<;>simp at N ⊢
   have ah:(bs t).toList.isEmpty=false:=by rw[nZ];cases t<;>simp at N ⊢
   first
   |have:=v7;rw[U] at hs sl CT CB CJ ⊢
   |have ad:t.head?=some c:=by rw[<-U];rfl
    rw[U] at hs sl CU CS CB CJ ⊢
   have G:=oA c 34;have I:=oA c 39;have J:=oA c 91;have A:=oA c 123;first|have:=v7;clear U N hV;by_cases u:c=34\/c=39|clear U N hV hCJ;by_cases u:c=34
   · first
     |have:=v7;rw[if_pos u];obtain⟨⟨S,er⟩,Q⟩:=exQ<|iT t;unfold mG at CT;rw[Q] at CT;rw[Q];simp only[];clear Q CB CJ J A;have O:((c.toNat:Int)==34)=true\/(((c.toNat:Int)==34)=false/\((c.toNat:Int)==39)=true):=oe;clear u G I
     |rw[if_pos (.inl u)];have Q:iT t=((dR t).1,(dR t).2.2):=by unfold iT;rw[ad,u,if_neg b_]
      rw[Q];obtain⟨⟨S,a,er⟩,X⟩:=exQ<|dR t;rw[X] at CU;rw[X];simp only[];have F:((c.toNat:Int)==34)=true:=by rw[u];rfl
      clear Q X CB CJ CS J A u G I
     by_cases he:er=0
     · subst he;rw[if_neg e_];have CO:=hid (L.out S)
       first
       |have:=v7;rcases O with F | ⟨F,W⟩
        all_goals
          go_enter Tryz.func47,Tryz.ntmps47;go_upto_region 1 with fail;clear p K;go_wp2_with fail;refine(CT.out _ (aB _ _)).mono ?_;rintro e w2 ⟨rfl,l⟩;have m:=hid l;clear l;go_wp2_with fail;refine(CO.out _).mono ?_;rintro e w3 ⟨rfl,D⟩;have y:=hid (aC m.out D);clear D;have j:=hid (iJ (t:=jC S) z.out C.out n.out (kY _ _ _ _) y.out o.out);obtain⟨r0,r1,r2,r3,f0,f1,f2,f3⟩:=bJ ((y.out.block R n.out).trans o.out);go_wp2_with fail;obtain⟨WF,d⟩:=exQ<|bB w3 R 4 S (.slice none 0 0) (.slice none 0 0);have g:fX w.heap.size (bB w3 R 4 S (.slice none 0 0) (.slice none 0 0)) (jC S).depth (jC S) (.slice none 0 0) (.slice none 0 0)/\Below w.heap.size w (bB w3 R 4 S (.slice none 0 0) (.slice none 0 0))/\(bB w3 R 4 S (.slice none 0 0) (.slice none 0 0)).heap[R]?=some (.cells #[(4:Int),bs S,(.slice none 0 0),(.slice none 0 0)] 36):=j.out;rw[d] at g;have b:=hid g;have f:(((w3.setCell ⟨R,0,none⟩ (.int .i64 4)).setCell ⟨R,1,none⟩ (.string (bs S))).setCell ⟨R,2,none⟩ (.slice none 0 0)).setCell ⟨R,3,none⟩ (.slice none 0 0)=WF:=d
          first
            | rw[f]
            | (have i:(((w3.setCell ⟨R,0,none⟩ (.int .i64 4)).setCell ⟨R,1,none⟩ (.string ⟨#[]⟩)).setCell ⟨R,2,none⟩ (.slice none 0 0)).setCell ⟨R,3,none⟩ (.slice none 0 0)=WF:=d
               rw[i])
          clear d f g r0 r1 r2 r3 f0 f1 f2 f3 j;obtain⟨d0,d1,d2,d3,_⟩:=bJ b.out.2.2;refine bodyPost_ret (v:= .tuple #[.agg #[(4:Int),bs S,(.slice none 0 0),(.slice none 0 0)],(0:Int)]) ?_ rfl ⟨⟨_,_,rfl,b.out.1⟩,b.out.2.1⟩;exact it
       |· skip
          go_enter Tryz.func31,Tryz.ntmps31;go_upto_region 1 with fail;clear p K;go_wp2_with fail;refine(CU.out _).mono ?_;rintro e w2 ⟨rfl,l⟩;have m:=hid l;clear l;exact iw
     · have de:(er !=0)=true:=(by simp[he]);rw[if_pos he]
       first
       |have:=v7;rcases O with F | ⟨F,W⟩
        all_goals
          go_enter Tryz.func47,Tryz.ntmps47;go_upto_region 1 with fail;clear p K;go_wp2_with fail;refine(CT.out _ (aB _ _)).mono ?_;rintro e w2 ⟨rfl,l⟩;have m:=hid l;clear l;have j:=hid (iJ (t:=fD) z.out C.out n.out (kY _ _ _ _) m.out o.out);obtain⟨r0,r1,r2,r3,f0,f1,f2,f3⟩:=bJ ((m.out.block R n.out).trans o.out);go_wp2_with fail;obtain⟨WF,d⟩:=exQ<|bB w2 R 0 ([]:aA) (.slice none 0 0) (.slice none 0 0);have g:fX w.heap.size (bB w2 R 0 ([]:aA) (.slice none 0 0) (.slice none 0 0)) (fD).depth (fD) (.slice none 0 0) (.slice none 0 0)/\Below w.heap.size w (bB w2 R 0 ([]:aA) (.slice none 0 0) (.slice none 0 0))/\(bB w2 R 0 ([]:aA) (.slice none 0 0) (.slice none 0 0)).heap[R]?=some (.cells #[(0:Int),bs ([]:aA),(.slice none 0 0),(.slice none 0 0)] 36):=j.out;rw[d] at g;have b:=hid g;have f:(((w2.setCell ⟨R,0,none⟩ (.int .i64 0)).setCell ⟨R,1,none⟩ (.string (bs ([]:aA)))).setCell ⟨R,2,none⟩ (.slice none 0 0)).setCell ⟨R,3,none⟩ (.slice none 0 0)=WF:=d
          first
            | rw[f]
            | (have i:(((w2.setCell ⟨R,0,none⟩ (.int .i64 0)).setCell ⟨R,1,none⟩ (.string ⟨#[]⟩)).setCell ⟨R,2,none⟩ (.slice none 0 0)).setCell ⟨R,3,none⟩ (.slice none 0 0)=WF:=d
               rw[i])
          clear d f g r0 r1 r2 r3 f0 f1 f2 f3 j;obtain⟨d0,d1,d2,d3,_⟩:=bJ b.out.2.2;refine bodyPost_ret (v:= .tuple #[.agg #[(0:Int),bs ([]:aA),(.slice none 0 0),(.slice none 0 0)],er]) ?_ rfl ⟨⟨_,_,rfl,b.out.1⟩,b.out.2.1⟩;exact it
       |· skip
          go_enter Tryz.func31,Tryz.ntmps31;go_upto_region 1 with fail;clear p K;go_wp2_with fail;refine(CU.out _).mono ?_;rintro e w2 ⟨rfl,l⟩;have m:=hid l;clear l;have j:=hid (iJ (t:=fD) z.out C.out n.out (kY _ _ _ _) m.out o.out);obtain⟨r0,r1,r2,r3,f0,f1,f2,f3⟩:=bJ ((m.out.block R n.out).trans o.out);go_wp2_with fail;obtain⟨WF,d⟩:=exQ<|bB w2 R 0 ([]:aA) (.slice none 0 0) (.slice none 0 0);have g:fX w.heap.size (bB w2 R 0 ([]:aA) (.slice none 0 0) (.slice none 0 0)) (fD).depth (fD) (.slice none 0 0) (.slice none 0 0)/\Below w.heap.size w (bB w2 R 0 ([]:aA) (.slice none 0 0) (.slice none 0 0))/\(bB w2 R 0 ([]:aA) (.slice none 0 0) (.slice none 0 0)).heap[R]?=some (.cells #[(0:Int),bs ([]:aA),(.slice none 0 0),(.slice none 0 0)] 36):=j.out;rw[d] at g;have b:=hid g;have f:(((w2.setCell ⟨R,0,none⟩ (.int .i64 0)).setCell ⟨R,1,none⟩ (.string (bs ([]:aA)))).setCell ⟨R,2,none⟩ (.slice none 0 0)).setCell ⟨R,3,none⟩ (.slice none 0 0)=WF:=d
          first
            | rw[f]
            | (have i:(((w2.setCell ⟨R,0,none⟩ (.int .i64 0)).setCell ⟨R,1,none⟩ (.string ⟨#[]⟩)).setCell ⟨R,2,none⟩ (.slice none 0 0)).setCell ⟨R,3,none⟩ (.slice none 0 0)=WF:=d
               rw[i])
          clear d f g r0 r1 r2 r3 f0 f1 f2 f3 j;obtain⟨d0,d1,d2,d3,_⟩:=bJ b.out.2.2;refine bodyPost_ret (v:= .tuple #[.agg #[(0:Int),bs ([]:aA),(.slice none 0 0),(.slice none 0 0)],er]) ?_ rfl ⟨⟨_,_,rfl,b.out.1⟩,b.out.2.1⟩;exact eu
   first
   |have:=wb;have F:((c.toNat:Int)==34)=false:=by rw[show (34:Int)=((34:UInt8).toNat:Int) from rfl,G];exact aE.2 u
    by_cases hq2:c=39
    · rw[if_pos (.inr hq2)];have Q:iT t=sW t:=by unfold iT;rw[ad,hq2,if_pos rfl]
      rw[Q];have af:=aAE t;have Z:=aAF t 0;unfold sW;obtain⟨⟨S,k,er⟩,X⟩:=exQ<|gT t 0;rw[X] at CS af Z;rw[X];simp only[] at af Z ⊢;have W:((c.toNat:Int)==39)=true:=by rw[hq2];rfl
      clear Q X CB CJ CU J A u hq2 G I;rcases Z with rfl|rfl
      · by_cases hk:k=(t.length:Int)
        · have V:(if(0:Int)≠0\/k≠(t.length:Int) then(([]:aA),(2:Int)) else(S,0))=(S,0):=if_neg (by rintro(h | h);exact h rfl;exact h hk);rw[V];simp only[];rw[if_neg e_];clear V;have CO:=hid (L.out S);have dk:decide (k<(t.length:Int))=false:=aG a_;go_enter Tryz.func31,Tryz.ntmps31;go_upto_region 1 with fail;clear p K;go_wp2_with fail;refine(CS.out _).mono ?_;rintro e w2 ⟨rfl,rfl⟩;have m:=hid (aB W1.heap.size W1);exact iw
        · have V:(if(0:Int)≠0\/k≠(t.length:Int) then(([]:aA),(2:Int)) else(S,0))=([],2):=if_pos (.inr hk);rw[V];simp only[];rw[if_pos b_];clear V;have dk:decide (k<(t.length:Int))=true:=aO a_;exact iu
      · have V:(if(2:Int)≠0\/k≠(t.length:Int) then(([]:aA),(2:Int)) else(S,0))=([],2):=if_pos (.inl b_);rw[V];simp only[];rw[if_pos b_];clear V
        · skip
          exact iu
    have u: ¬(c=34\/c=39):=by rintro(h | h);exact u h;exact hq2 h
    clear hq2 F
   |skip
   rw[if_neg u];have F:((c.toNat:Int)==34)=false:=by rw[show (34:Int)=((34:UInt8).toNat:Int) from rfl,G];exact aE.2 (λe=>u (.inl e))
   have W:((c.toNat:Int)==39)=false:=by rw[show (39:Int)=((39:UInt8).toNat:Int) from rfl,I];exact aE.2 (λe=>u (.inr e))
   first|have:=v7;clear u G I CT L|clear u G I CU CS L
   by_cases u:c=91\/c=123
   · rw[if_pos u];have O:((c.toNat:Int)==91)=true\/(((c.toNat:Int)==91)=false/\((c.toNat:Int)==123)=true):=oe;clear u J A CB x;obtain⟨⟨T,at_,er⟩,hT⟩:=exQ<|jL t;rw[hT] at CJ;rw[hT];simp only[] at CJ ⊢;clear hT;rcases O with ae | ⟨ae,ag⟩
     all_goals
       first|have:=v7;go_enter Tryz.func47,Tryz.ntmps47|go_enter Tryz.func31,Tryz.ntmps31
       go_upto_region 1 with fail;clear p K;go_wp2_with fail;refine(CJ.out _ (aB _ _)).mono ?_;rintro e w2 ⟨⟨kv,iv,rfl,Y⟩,l⟩;obtain⟨pk,ck,px,cx,rfl,rfl⟩:=Y.form;have P:=aL w2 (.cells #[T.kind,bs T.text, .slice pk T.keys.length ck, .slice px T.items.length cx] 36);obtain⟨w3,ab⟩:=exQ<|w2.alloc (.cells #[T.kind,bs T.text, .slice pk T.keys.length ck, .slice px T.items.length cx] 36);have hz:w3.heap[w2.heap.size]?=some (.cells #[T.kind,bs T.text, .slice pk T.keys.length ck, .slice px T.items.length cx] 36):=by rw[<-ab];exact heap_alloc_new w2 _
       rw[ab] at P;have y:=hid (aC l P);have ai:=hid (Y.keep P);obtain⟨z0,z1,z2,z3,_⟩:=bJ hz;have hRZ:R<w2.heap.size:=iX n.out l.size;have hRZ2:R≠w2.heap.size:=a_;unfold vv;clear Y l P hz;have j:=hid (iJ (t:=T) z.out C.out n.out ai.out y.out o.out);obtain⟨r0,r1,r2,r3,f0,f1,f2,f3⟩:=bJ ((y.out.block R n.out).trans o.out);go_wp2_with fail;obtain⟨WF,d⟩:=exQ<|bB w3 R T.kind T.text (.slice pk T.keys.length ck) (.slice px T.items.length cx);have g:fX w.heap.size (bB w3 R T.kind T.text (.slice pk T.keys.length ck) (.slice px T.items.length cx)) (T).depth (T) (.slice pk T.keys.length ck) (.slice px T.items.length cx)/\Below w.heap.size w (bB w3 R T.kind T.text (.slice pk T.keys.length ck) (.slice px T.items.length cx))/\(bB w3 R T.kind T.text (.slice pk T.keys.length ck) (.slice px T.items.length cx)).heap[R]?=some (.cells #[T.kind,bs T.text,(.slice pk T.keys.length ck),(.slice px T.items.length cx)] 36):=j.out;rw[d] at g;have b:=hid g;have f:(((w3.setCell ⟨R,0,none⟩ (.int .i64 T.kind)).setCell ⟨R,1,none⟩ (.string (bs T.text))).setCell ⟨R,2,none⟩ (.slice pk T.keys.length ck)).setCell ⟨R,3,none⟩ (.slice px T.items.length cx)=WF:=d
       first
         | rw[f]
         | (have i:(((w3.setCell ⟨R,0,none⟩ (.int .i64 T.kind)).setCell ⟨R,1,none⟩ (.string ⟨#[]⟩)).setCell ⟨R,2,none⟩ (.slice pk T.keys.length ck)).setCell ⟨R,3,none⟩ (.slice px T.items.length cx)=WF:=d
            rw[i])
       clear d f g r0 r1 r2 r3 f0 f1 f2 f3 j;obtain⟨d0,d1,d2,d3,_⟩:=bJ b.out.2.2;refine bodyPost_ret (v:= .tuple #[.agg #[T.kind,bs T.text,(.slice pk T.keys.length ck),(.slice px T.items.length cx)],er]) ?_ rfl ⟨⟨_,_,rfl,b.out.1⟩,b.out.2.1⟩;exact gy
   rw[if_neg u];have ae:((c.toNat:Int)==91)=false:=by rw[show (91:Int)=((91:UInt8).toNat:Int) from rfl,J];exact aE.2 (λe=>u (.inl e))
   have ag:((c.toNat:Int)==123)=false:=by rw[show (123:Int)=((123:UInt8).toNat:Int) from rfl,A];exact aE.2 (λe=>u (.inr e))
   clear u J A CJ;obtain⟨B,hB⟩:=exQ<|nD t;rw[hB] at CB;rw[hB];clear hB;cases B with
   | false=>
     rw[if_neg e_];first|have:=v7;go_enter Tryz.func47,Tryz.ntmps47|go_enter Tryz.func31,Tryz.ntmps31
     go_upto_region 1 with fail;clear p K;go_wp2_with fail;refine(CB.out _ (aB _ _)).mono ?_;rintro e w2 ⟨rfl,l⟩;have m:=hid l;clear l;have j:=hid (iJ (t:=fD) z.out C.out n.out (kY _ _ _ _) m.out o.out);obtain⟨r0,r1,r2,r3,f0,f1,f2,f3⟩:=bJ ((m.out.block R n.out).trans o.out);go_wp2_with fail;obtain⟨WF,d⟩:=exQ<|bB w2 R 0 ([]:aA) (.slice none 0 0) (.slice none 0 0);have g:fX w.heap.size (bB w2 R 0 ([]:aA) (.slice none 0 0) (.slice none 0 0)) (fD).depth (fD) (.slice none 0 0) (.slice none 0 0)/\Below w.heap.size w (bB w2 R 0 ([]:aA) (.slice none 0 0) (.slice none 0 0))/\(bB w2 R 0 ([]:aA) (.slice none 0 0) (.slice none 0 0)).heap[R]?=some (.cells #[(0:Int),bs ([]:aA),(.slice none 0 0),(.slice none 0 0)] 36):=j.out;rw[d] at g;have b:=hid g;have f:(((w2.setCell ⟨R,0,none⟩ (.int .i64 0)).setCell ⟨R,1,none⟩ (.string (bs ([]:aA)))).setCell ⟨R,2,none⟩ (.slice none 0 0)).setCell ⟨R,3,none⟩ (.slice none 0 0)=WF:=d
     first
       | rw[f]
       | (have i:(((w2.setCell ⟨R,0,none⟩ (.int .i64 0)).setCell ⟨R,1,none⟩ (.string ⟨#[]⟩)).setCell ⟨R,2,none⟩ (.slice none 0 0)).setCell ⟨R,3,none⟩ (.slice none 0 0)=WF:=d
          rw[i])
     clear d f g r0 r1 r2 r3 f0 f1 f2 f3 j;obtain⟨d0,d1,d2,d3,_⟩:=bJ b.out.2.2;refine bodyPost_ret (v:= .tuple #[.agg #[(0:Int),bs ([]:aA),(.slice none 0 0),(.slice none 0 0)],(2:Int)]) ?_ rfl ⟨⟨_,_,rfl,b.out.1⟩,b.out.2.1⟩;exact gy
   | true =>
     rw[if_pos rfl];have CR:=hid (λw' H=>x.out t w' a_ H);obtain⟨⟨rk,rs⟩,E⟩:=exQ<|oZ t;have M:mL t= .mk rk rs [] []:=by unfold mL;rw[E]
     rw[E] at CR;rw[M];clear E M x;first|have:=v7;go_enter Tryz.func47,Tryz.ntmps47|go_enter Tryz.func31,Tryz.ntmps31
     go_upto_region 1 with fail;clear p K;go_wp2_with fail;refine(CB.out _ (aB _ _)).mono ?_;rintro e w2 ⟨rfl,l⟩;have m:=hid l;clear l;go_wp2_with fail;refine(CR.out _ m.out).mono ?_;rintro e w3 ⟨rfl,D⟩;have y:=hid (aC m.out D);clear D;have j:=hid (iJ (t:=VT.mk rk rs [] []) z.out C.out n.out (kY _ _ _ _) y.out o.out);obtain⟨r0,r1,r2,r3,f0,f1,f2,f3⟩:=bJ ((y.out.block R n.out).trans o.out);go_wp2_with fail;obtain⟨WF,d⟩:=exQ<|bB w3 R rk rs (.slice none 0 0) (.slice none 0 0);have g:fX w.heap.size (bB w3 R rk rs (.slice none 0 0) (.slice none 0 0)) (VT.mk rk rs [] []).depth (VT.mk rk rs [] []) (.slice none 0 0) (.slice none 0 0)/\Below w.heap.size w (bB w3 R rk rs (.slice none 0 0) (.slice none 0 0))/\(bB w3 R rk rs (.slice none 0 0) (.slice none 0 0)).heap[R]?=some (.cells #[rk,bs rs,(.slice none 0 0),(.slice none 0 0)] 36):=j.out;rw[d] at g;have b:=hid g;have f:(((w3.setCell ⟨R,0,none⟩ (.int .i64 rk)).setCell ⟨R,1,none⟩ (.string (bs rs))).setCell ⟨R,2,none⟩ (.slice none 0 0)).setCell ⟨R,3,none⟩ (.slice none 0 0)=WF:=d
     first
       | rw[f]
       | (have i:(((w3.setCell ⟨R,0,none⟩ (.int .i64 rk)).setCell ⟨R,1,none⟩ (.string ⟨#[]⟩)).setCell ⟨R,2,none⟩ (.slice none 0 0)).setCell ⟨R,3,none⟩ (.slice none 0 0)=WF:=d
          rw[i])
     exact jd):P:=h
theorem p8(h:P:=by
 first
 |have _:=wk;obtain⟨R,C⟩:=exQ<|gG txt (bI txt lv) 5 false pre.length rest l nodes
 |obtain⟨R,C⟩:=exQ<|gG txt (bI txt lv) 3 true pre.length rest l nodes
 rw[C];have br:=ht.1;have bB:=h.nodesN;have G:w0.heap.size<=w.heap.size:=hb.size;obtain⟨eK,af,_,_⟩:=h.box;obtain⟨fw,eH⟩:=hlev;first|have _:=wl;have fB:=h.apart hX b_;have eX:=h.apart hY b_;have fH:X≠b:=hm.apart hX;have eS:Y≠b:=hm.apart hY;obtain⟨_,_,da⟩:=hm.obj;have cd:b≠P:=h.box.2.2.2 b _ _ da;have eh:=hid (aK hX hY);have d0:=hid hm;have HS:=hid (aK hSV hT)|skip
 have HB:=hid hb;have HT:=hid ht;first|have _:=wk;by_cases h5:dI rest=5|by_cases h5:dI rest=3
 ·cases rest with
  | nil=>cases h5
  | cons t r=>
   first|have _:=wk;have I:t.kind=5:=h5|have I:t.kind=3:=h5
   have bE:JR.ok r (t.sf,t.st) nodes=R:=by
    unfold gG at C;simp only[I,if_true] at C;exact C
   first|have _:=wk;have CT:=hid (tY _ P txt t r l nodes w h (by simp only[bH] at br;omega) 5 I);subst bE;clear C h hb ht bB|have CT:=hid (tY _ P txt t r l nodes w h (by simp only[bH] at br;omega) 3 I);subst bE;clear C h hb ht bB hX hY hm hSV hT da
   go_enter Tryz.func189,Tryz.ntmps189;go_wp2_with fail;refine CT.out.mono ?_;rintro e w1 ⟨rfl,hj,hg⟩;go_wp2_with fail;go_ret;first|have _:=wk;exact⟨rfl,hj,Fr.ofP hg af G⟩|exact⟨rfl,hj,(Fr.ofP hg af G).toX⟩
 ·first
  |have _:=wk;have ay: ∃f,rest.length<f/\iP txt (bI txt lv) 5 false pre.length f [] rest l nodes=R:=by
    unfold gG at C;cases rest with
    | nil=>exact⟨1,e_,C⟩
    | cons t r=>
     have I: ¬t.kind=5:=h5;simp only[I,if_false] at C;exact⟨_,e_,C⟩
  |have ay: ∃f,rest.length<f/\iP txt (bI txt lv) 3 true pre.length f [] rest l nodes=R:=by
    unfold gG at C;cases rest with
    | nil=>exact⟨1,e_,C⟩
    | cons t r=>
     have I: ¬t.kind=3:=h5;simp only[I,if_false] at C;exact⟨_,e_,C⟩
  obtain⟨f0,bg,bj⟩:=ay;first|have _:=wk;have CT:=hid (sC _ P txt rest l nodes w h a_ 5 h5)|have CT:=hid (sC _ P txt rest l nodes w h a_ 3 h5)
  have HJ:=hid h;have HL:=hid bj;first|have _:=wk;have HM:=hid hmid|have a0:=hid hmid
  have eG:=hid bB;first|have _:=wk;clear C h5 bj h hb ht hmid bB|clear C h5 bj h hb ht hmid bB hX hY hm hSV hT da
  go_enter Tryz.func189,Tryz.ntmps189;go_wp2_with fail;refine CT.out.mono ?_;rintro e w1 ⟨rfl,rfl⟩;go_wp2_with fail
  first
  |have _:=wk;go_loopw [11] (λ_ wr=> ∃(rs:List aN) (ls:Sp) (ns:List aH) (x:aH) (post:List aH) (f:Nat),Hid (J w0.heap.size P txt rs ls ns wr)/\Hid (fW pre x post ns)/\Hid (iP txt (bI txt lv) 5 false pre.length f [] rs ls ns=R)/\rs.length<f/\nodes.length<=ns.length/\Hid (TB txt rs)/\ns.length+rs.length<=131074/\Hid (Fr w0.heap.size P w wr)) (λ_ wr=>restN P wr)
   case atStart=>exact⟨rest,l,nodes,x,post,f0,HJ,HM,HL,bg,aD _,HT,hN,hid (Fr.refl _ _ _)⟩
  |go_loopw [11] (λ_ wr=> ∃(bl:List (List UInt8)) (rs:List aN) (ls:Sp) (ns:List aH) (x:aH) (post:List aH) (f:Nat),Hid (HM b bl wr)/\bl.length+rs.length<=65537/\Hid (J w0.heap.size P txt rs ls ns wr)/\Hid (fW pre x post ns)/\Hid (iP txt (bI txt lv) 3 true pre.length f bl rs ls ns=R)/\rs.length<f/\nodes.length<=ns.length/\Hid (TB txt rs)/\ns.length+rs.length<=131074/\Hid (jT w0.heap.size P b w wr)) (λ_ wr=>restN P wr)
   case atStart=>exact⟨[],rest,l,nodes,x,post,f0,d0,by simpa using br,HJ,a0,HL,bg,aD _,HT,hN,hid (Fr.refl _ _ _).toX⟩
  case round=>
   first|have _:=wk;clear hN bg HM HL HJ CT HT br;obtain⟨rs,ls,ns,x,post,f,HJ,HM,HL,hf,db,HT,hN,W⟩:=hrel|clear hN bg a0 HL HJ CT HT br d0;obtain⟨bl,rs,ls,ns,x,post,f,eT,hhad,HJ,a0,HL,hf,db,HT,hN,W⟩:=hrel
   obtain⟨f,rfl⟩: ∃f',f=f'+1:=⟨f-1,a_⟩;have fF:=HJ.out.restN;have fm:=hid HJ.out.nodesN;have hL:=HL.out;first|have _:=wk;unfold iP gF at hL;rw[if_pos rfl] at hL|unfold iP at hL
   have al:w0.heap.size<=wr.heap.size:=aZ G W.out.sz
   first
   |have _:=wk;have CI:=Sq w0 P txt lv IH;obtain⟨Q,hQ⟩:=exQ<|bI txt lv rs ls ns (0,0);have c8:Hid (∀w',Below wr.heap.size wr w'->Calls Tryz.prog 190 #[some P, .int .i64 (33-(lv:Int))] w' (VE w0.heap.size P txt Q w')):=hid (λw' N=>by have:=CI w' rs ls ns (33-(lv:Int)) (HJ.out.keep N) ((HB.out.trans W.out.bel).trans (N.mono al)) HT.out hN rfl;rw[hQ] at this;exact this)
   |obtain⟨Q,hQ⟩:=exQ<|gF txt (bI txt lv) true bl rs ls ns
    have dM:=lQ (W.out.blk X _ eh.out.1 fB fH DU);have dp:=lQ (W.out.blk Y _ eh.out.2 eX eS DU);have c8:Hid (∀w',Below wr.heap.size wr w'->Calls Tryz.prog 191 #[.int .i64 (33-(lv:Int)),some X,some Y] w' (ME w0.heap.size P b txt Q w')):=hid (λw' N=>by have:=Su w0 P txt lv IH b bl w' rs ls ns (33-(lv:Int)) X Y (by rw[N.cell (p:=⟨X,0,none⟩) dM.2];exact dM.1) (by rw[N.cell (p:=⟨Y,0,none⟩) dp.2];exact dp.1) (HJ.out.keep N) ((HB.out.trans W.out.bel).trans (N.mono al)) HT.out hN rfl (eT.out.fr (Fr.of_below (B:=w0.heap.size) (P:=P) N al) cd) hBb a_ hs HS.out.1 HS.out.2;rw[hQ] at this;exact this);clear dM dp
   rw[hQ] at hL;have HQ:=hid hQ;obtain⟨rv,z0,nv0,b1,b2,b3,b4,b5⟩:=HJ.out;obtain⟨p0,cap0,rfl⟩:=b4.slice;obtain⟨q0,q1,q2,q3,q4,_⟩:=b1.cells;have dh:z0.length=ns.length:=(by rw[<-b3,bR]);rw[dh] at q4;first|have _:=wk;clear b1 b2 b3 b4 CI hQ HL dh|clear b1 b2 b3 b4 hQ HL dh;obtain⟨Q,an⟩:=Q
   cases Q with
   | bad a er=>
    have dn:Hid (nodesN P w<=nodesN P wr.drew):=hid (by have e1:=eG.out;have e2:=fm.out;show nodesN P w<=nodesN P wr;omega);have HF:Hid (JR.bad a er=R):=hid hL;clear hL;go_wp2_with fail;go_region;go_wp2_with fail;refine(c8.out _ (aB _ _).drew).mono ?_;rintro e w4 ⟨rfl,bk,az⟩;first|have _:=wk;have ah:=hid (W.out.trans ((Fr.of_below (aB _ _).drew al).trans az))|have ah:=hid (W.out.trans ((Fr.of_below (aB _ _).drew al).toX.trans az))
    clear az;go_wp2_with fail;go_ret;rw[<-HF.out];exact⟨rfl,bk.mono dn.out,ah.out⟩
   | ok r1 l1 ns1=>
    first|have _:=wk;obtain⟨D,rfl,aG,aa,⟨kd,bm⟩,ba⟩:=mV txt lv _ _ _ _ _ _ _ HQ.out;have U:=hid (HM.out.add ba aG ns.length (ls.2,cA txt.length r1))|obtain⟨D,rfl,aG,aa,⟨kd,bm⟩,ba⟩:=yW (mV txt lv) HQ.out;have hh2:=Sw HQ.out;have U:=hid (a0.out.add ba aG ns.length (ls.2,cA txt.length r1))
    have bT:TB txt r1:=by rw[bm];exact HT.out.drop kd
    have bL:=bT.1;have fv:cA txt.length r1<=65536:=by
     cases r1 with
     | nil=>exact hs
     | cons t r'=>have:=bT.2 t lN;show t.sf<=65536;omega
    have e5:=hid bT;have cE: ∃x0,(ns++D)[pre.length]?=some x0/\x0.kids.length<=131074/\x0.pcs.length<=131074:=by
     first|have _:=wk;obtain⟨e1,e2,e3,e4⟩:=HM.out|obtain⟨e1,e2,e3,e4⟩:=a0.out
     exact kl
    have fc:pre.length<ns.length:=by
     first|have _:=wk;have:=congrArg List.length HM.out.1|have:=congrArg List.length a0.out.1
     simp only[aT,bH] at this;omega
    have dk:=hid hL;first|have _:=wk;clear hL bT bm ba HM HQ HJ HT|clear hL bT bm ba a0 HQ HJ HT
    go_wp2_with fail;go_region;go_wp2_with fail;refine(c8.out _ (aB _ _).drew).mono ?_;first|have _:=wk;rintro e w4 ⟨rfl,bk,az⟩;have ah:=hid (W.out.trans ((Fr.of_below (aB _ _).drew al).trans az))|rintro e w4 ⟨rfl,bk,d9,az⟩;have ah:=hid (W.out.trans ((Fr.of_below (aB _ _).drew al).toX.trans az));have eJ:=hid d9
    have ew:w0.heap.size<=w4.heap.size:=aZ G ah.out.sz;obtain⟨z,nv,hz,aS⟩:=bk.toZ;obtain⟨x0,aP,eP,fj⟩:=cE;obtain⟨y,hy,rfl⟩: ∃y:ND,z[pre.length]?=some y/\y.1=x0:=by
     rw[<-hz,dE] at aP;obtain⟨y,h1,h2⟩:=tS.1 aP;exact⟨y,h1,h2⟩
    have bb:z.length=ns.length+D.length:=(by rw[<-bR (f:=(·.1)),hz,aT]);obtain⟨g,cap,rfl,eA⟩:=aS.form (λe=>by rw[e] at hy;simp at hy);obtain⟨a5,_⟩:=aS.at_.at_ hy 5 a_ rfl;have aq:=aS.at_.kids y (bD hy);have c4:=aS.cells.2.1;rw[bb] at c4;have hzi:(pre.length:Int)<((ns.length+D.length:Nat):Int):=a_;have cv:=hid aS;have HY:=hid hy;have HZ:=hid hz;have fD:=hid bb;first|have _:=wk;clear az bk aP hz bb aS hy q0 q1 q2 q3 q4|clear az bk d9 aP hz bb aS hy q0 q1 q2 q3 q4
    go_wp2_with (at_builtin;go_must (refine Ja DU (.tmp 42) (.tmp 44) rfl w0.heap.size w4 y.2.1 y.1.kids ns.length rfl aq rfl a_ ew ?_);intro kv w5 bh ar co;obtain⟨ck,fk⟩:=cv.out.at_.cellK HY.out ar;obtain⟨gk,pk,rfl⟩:=qP bh);obtain⟨a9,av⟩:=cv.out.kid (k:=ns.length) HY.out (H:=w4.heap.size+1) a_ ew bh ar co;obtain⟨W6,dD⟩:=exQ<|w5.setCell ⟨g,pre.length*7+5,none⟩ (.slice (some ⟨gk,0,none⟩) (y.1.kids.length+1) pk);rw[dD] at a9 av;rw[dD];obtain⟨kv,d8⟩:=exQ (.slice (some ⟨gk,0,none⟩) (y.1.kids.length+1) pk:Value);rw[d8] at a9;have dQ:pre.length<z.length:=(aR.1 HY.out).1;have a1:(z.set pre.length ({ y.1 with kids:=y.1.kids++ [ns.length] },kv,y.2.2))[pre.length]?=some ({ y.1 with kids:=y.1.kids++ [ns.length] },kv,y.2.2):=by rw[List.getElem?_set,if_pos rfl,if_pos dQ]
    first|have _:=wk;have ao:=hid (ah.out.trans av)|have ao:=hid (ah.out.trans av.toX);have fd:Hid (HM b an W6):=hid (eJ.out.fr av cd)
    have bs:w0.heap.size<=W6.heap.size:=aZ G ao.out.sz;have cw:=hid a9;have am:=hid a1;have p6:W6.cell? ⟨g,pre.length*7+6,none⟩=some y.2.2:=(a9.at_.at_ a1 6 a_ rfl).1;have eN:g<W6.heap.size:=World.block_lt_of_cell? W6 _ p6;have dR:=(a9.keep (aB _ _).drew).at_.pcs _ (bD a1);have CH:=hid (Db _ P txt r1 _ _ W6.drew (a9.keep (aB _ _).drew).toJ a_ a_);clear ck fk bh ar co a5 c4 aq a9 av a1 dD d8;go_region_law ((first
     | (go_simp;go_at_call 193;(with_reducible refine CH.out.mono ?_);rintro e w' ⟨rfl,rfl⟩)
     | (refine De DU (.tmp 52) (.tmp 57) DU w0.heap.size W6.drew y.2.2 y.1.pcs (ls.2,cA txt.length r1) DU dR DU a_ bs ?_;intro eZ w7 aw aA ad;obtain⟨fh,fJ⟩:=(cw.out.keep (aB _ _).drew).at_.cellP am.out aA;obtain⟨fg,eV,rfl⟩:=qP aw)))
    all_goals
     obtain⟨ed,ax⟩:=(cw.out.keep (aB _ _).drew).pc (k:=(ls.2,cA txt.length r1)) am.out (H:=W6.drew.heap.size+1) a_ bs aw aA ad;have aY:=ed.toJ.cast ((Df (z:=z) (n:=pre.length) (k:=ns.length) (pc:=(ls.2,cA txt.length r1)) HY.out).trans (congrArg (eM pre.length ns.length (ls.2,cA txt.length r1)) HZ.out));obtain⟨W8,dH⟩:=exQ<|w7.setCell ⟨g,pre.length*7+6,none⟩ (.slice (some ⟨fg,0,none⟩) (y.1.pcs.length+1) eV);rw[dH] at ax aY;rw[dH]
     first|have _:=wk;have T:=hid (ao.out.trans ((Fr.of_below (aB _ _).drew bs).trans ax))|have T:=hid (ao.out.trans ((Fr.of_below (aB _ _).drew bs).trans ax).toX)
     have Z:=hid aY;first|have _:=wl;have fx:Hid (HM b an W8):=hid (fd.out.fr ((Fr.of_below (aB _ _).drew bs).trans ax) cd)|skip
     clear fh fJ aw aA ad ed ax aY dH am cw HY cv p6 dR eN;first|have _:=wk;by_cases h5:dI r1=5|by_cases h5:dI r1=3
     ·cases r1 with
      | nil=>cases h5
      | cons t r'=>
       first|have _:=wk;have I:t.kind=5:=h5|have I:t.kind=3:=h5
       have C:JR.ok r' (t.sf,t.st) (eM pre.length ns.length (ls.2,t.sf) (ns++D))=R:=by
        have:=dk.out;simp only[I,if_true] at this;exact this
       first|have _:=wk;have CT:=hid (tY _ P txt t r' _ _ W8 Z.out EN 5 I)|have CT:=hid (tY _ P txt t r' _ _ W8 Z.out EN 3 I)
       clear aG aa hN h5 I U;go_wp2_with fail;refine CT.out.mono ?_;rintro e w9 ⟨rfl,ag,aJ⟩;first|have _:=wk;have ab:=hid (T.out.trans (Fr.ofP aJ af (aZ G T.out.sz)))|have ab:=hid (T.out.trans (Fr.ofP (B:=w0.heap.size) aJ af (aZ G T.out.sz)).toX)
       have aj:=hid ag;clear aJ ag;go_wp2_with fail;go_ret;rw[<-C];exact⟨rfl,aj.out,ab.out⟩
     ·first|have _:=wk;have cX:=hid (sC _ P txt r1 _ _ W8 Z.out a_ 5 h5)|have cX:=hid (sC _ P txt r1 _ _ W8 Z.out a_ 3 h5)
      by_cases h6:dI r1=6
      ·cases r1 with
       | nil=>cases h6
       | cons t r'=>
        have bK:t.kind=6:=h6;first|have _:=wk;have I: ¬t.kind=5:=h5;have C:iP txt (bI txt lv) 5 false pre.length f [] r' (t.sf,t.st) (eM pre.length ns.length (ls.2,t.sf) (ns++D))=R:=oi|have I: ¬t.kind=3:=h5;have C:iP txt (bI txt lv) 3 true pre.length f an r' (t.sf,t.st) (eM pre.length ns.length (ls.2,t.sf) (ns++D))=R:=oi
        have HR:=hid C;have CT:=hid (tY _ P txt t r' _ _ W8 Z.out EN 6 bK);have bU:(eM pre.length ns.length (ls.2,t.sf) (ns++D)).length+r'.length<=131074:=by
         unfold eM;rw[lM,aT];simp only[bH] at aa;omega
        first|have _:=wl;have fl:an.length+r'.length<=65537:=by simp only[bH] at aa;omega|skip
        have bd:nodes.length<=(eM pre.length ns.length (ls.2,t.sf) (ns++D)).length:=by
         unfold eM;rw[lM,aT];omega
        have du:r'.length<rs.length/\r'.length<f:=by simp only[bH] at aa;omega
        have es:Hid (TB txt r'):=hid (e5.out.drop 1);clear aG aa hN h5 h6 I bK C;go_wp2_with fail;refine cX.out.mono ?_;rintro e w9 ⟨rfl,rfl⟩;go_wp2_with fail;refine CT.out.mono ?_;rintro e w9 ⟨rfl,ag,aJ⟩;first|have _:=wk;have ab:=hid (T.out.trans (Fr.ofP aJ af (aZ G T.out.sz)))|have ab:=hid (T.out.trans (Fr.ofP (B:=w0.heap.size) aJ af (aZ G T.out.sz)).toX)
        have aj:=hid ag;have fC:=ag.restN;first|have _:=wl;have fG:Hid (HM b an w9):=hid (fx.out.fr (Fr.ofP (B:=w0.heap.size) aJ af (aZ G T.out.sz)) cd)|skip
        clear aJ ag;go_wp2_with fail;go_roundw
        first
        |have _:=wk
         ·exact⟨r',_,_,_,_,f,aj,U,HR,du.2,bd,es,bU,ab⟩
        |·exact⟨an,r',_,_,_,_,f,fG,fl,aj,U,HR,du.2,bd,es,bU,ab⟩
        ·rw[fF,fC];exact du.1
      ·have fE:=hid (sC _ P txt r1 _ _ W8 Z.out a_ 6 h6);have C:JR.bad (cA txt.length r1) 2=R:=by
        have:=dk.out;cases r1 with
        | nil=>exact this
        | cons t r'=>
         first|have _:=wk;have I: ¬t.kind=5:=h5|have I: ¬t.kind=3:=h5
         have bK: ¬t.kind=6:=h6;simp only[I,bK,if_false] at this;exact this
       have dn:Hid (nodesN P w<=nodesN P W8):=hid (by have e1:=eG.out;have e2:=Z.out.nodesN;unfold eM at e2;rw[lM,aT] at e2;omega);have CF:=hid (pO _ P txt r1 _ _ 2 W8 Z.out a_ a_);clear aG aa hN h5 h6 U;go_wp2_with fail;refine cX.out.mono ?_;rintro e w9 ⟨rfl,rfl⟩;go_wp2_with fail;refine fE.out.mono ?_;rintro e w9 ⟨rfl,rfl⟩;go_wp2_with fail;refine CF.out.mono ?_;rintro e w9 ⟨rfl,ag,bq⟩;first|have _:=wk;have ab:=hid (T.out.trans bq)|have ab:=hid (T.out.trans bq.toX)
       have aj:=hid ag;clear bq ag;go_wp2_with fail;go_ret;rw[<-C];exact⟨rfl,aj.out.mono dn.out,ab.out⟩):P:=h
theorem qe(h:P:=by
 have sl:=aM s;have ba:=aL w (.cells #[(0:Int),bs [],(),()] 36);have o:=iS.new w 0 [];obtain⟨W1,x⟩:=exQ<|w.alloc (.cells #[(0:Int),bs [],(),()] 36);rw[x] at ba o;have l:=hid ba;have m:=hid o;have M:=hid (hV.keep ba);obtain⟨y0,y1,y2,y3,f0,f1,f2,f3⟩:=o.cells;have hW1':w.alloc (.cells #[(0:Int), .string ⟨#[]⟩,(),()] 36)=W1:=x
 first|have:=vr;have CP:=hid (λw=>zS s w a_)|have CP:=hid (λw=>Fs s w a_)
 have g:=Ea s;have m0:=nC s [];have m1:=nC s oW;have m2:=nC s [126];have m3:=nC s qW;have m4:=nC s qX;have e0:=nZ s;unfold oW at m1;unfold qW at m3;unfold qX at m4;unfold sV oZ;obtain⟨q0,I⟩:=exQ<|decide (s= []);obtain⟨q1,D⟩:=exQ<|decide (s=oW);obtain⟨q2,K⟩:=exQ<|decide (s= [126]);obtain⟨q3,C⟩:=exQ<|decide (s=qW);obtain⟨q4,B⟩:=exQ<|decide (s=qX);have m0:=m0.trans I;have m1:=m1.trans D;have m2:=m2.trans K;have m3:=m3.trans C;have m4:=m4.trans B;have n1:decide (s= [110,117,108,108])=q1:=D;have n3:decide (s= [116,114,117,101])=q3:=C;have n4:decide (s= [102,97,108,115,101])=q4:=B;have F:s.isEmpty=q0:=by rw[<-I];cases s<;>simp
 rw[F] at e0;have z0:s= []↔q0=true:=by rw[<-I];simp
 have z1:s=oW↔q1=true:=by rw[<-D];simp
 have z2:s= [126]↔q2=true:=by rw[<-K];simp
 have z3:s=qW↔q3=true:=by rw[<-C];simp
 have z4:s=qX↔q4=true:=by rw[<-B];simp
 have z:=hid (aK z0 (aK z1 (aK z2 (aK z3 z4))));clear z0 z1 z2 z3 z4 D C B hV ba o x;obtain⟨P,hP⟩:=exQ<|dP s;rw[hP] at CP g ⊢;obtain⟨n,er⟩:=P;simp only[] at g ⊢;by_cases c1:(q0||q1||q2)=true
 ·have L:Hid ((s= []\/s=oW\/s= [126])):=hid (by
   obtain⟨a0,a1,a2,_⟩:=z.out;simp only[Bool.or_eq_true] at c1;rcases c1 with(h | h) | h
   ·exact .inl (a0.2 h)
   ·exact .inr (.inl (a1.2 h))
   ·exact .inr (.inr (a2.2 h)))
  rw[if_pos L.out];cases q0<;>cases q1<;>cases q2
  ·cases c1
  all_goals
   first|have:=vr;go_enter Tryz.func79,Tryz.ntmps79|go_enter Tryz.func56,Tryz.ntmps56
   go_wp2_with fail;clear y0 y1 y2 y3 f0 f1 f2 f3;have hP:=(m.out).put (k2:=1) (t2:=([]:aA));have c:=pA (k:=1) (t:=([]:aA)) (l.out) (aD w.heap.size);obtain⟨WF,b⟩:=exQ<|lU W1 w.heap.size 1 ([]:aA);rw[b] at hP c;have a:(((W1.setCell ⟨w.heap.size,0,none⟩ (.int .i64 1)).setCell ⟨w.heap.size,1,none⟩ (.string ⟨#[]⟩)).setCell ⟨w.heap.size,2,none⟩ (.slice none 0 0)).setCell ⟨w.heap.size,3,none⟩ (.slice none 0 0)=WF:=b;rw[a];obtain⟨d0,d1,d2,d3,_⟩:=hP.cells;clear b a;refine bodyPost_ret (v:= .agg #[(1:Int),bs ([]:aA),(),()]) ?_ rfl ⟨rfl,c⟩;exact df
 ·obtain⟨rfl,rfl,rfl⟩:q0=false/\q1=false/\q2=false:=by cases q0<;>cases q1<;>cases q2<;>simp at c1 ⊢
  rw[if_neg (by
   obtain⟨a0,a1,a2,_⟩:=z.out;rintro(h | h | h)
   ·exact absurd (a0.1 h) b_
   ·exact absurd (a1.1 h) b_
   ·exact absurd (a2.1 h) b_)]
  by_cases c2:(q3||q4)=true
  ·rw[if_pos (by
    obtain⟨_,_,_,a3,a4⟩:=z.out;simp only[Bool.or_eq_true] at c2;rcases c2 with h | h
    ·exact .inl (a3.2 h)
    ·exact .inr (a4.2 h))]
   cases q3<;>cases q4
   ·cases c2
   all_goals
    first|have:=vr;go_enter Tryz.func79,Tryz.ntmps79|go_enter Tryz.func56,Tryz.ntmps56
    go_wp2_with fail;clear y0 y1 y2 y3 f0 f1 f2 f3;have hP:=(m.out).put (k2:=2) (t2:=s);have c:=pA (k:=2) (t:=s) (l.out) (aD w.heap.size);obtain⟨WF,b⟩:=exQ<|lU W1 w.heap.size 2 s;rw[b] at hP c;have a:(((W1.setCell ⟨w.heap.size,0,none⟩ (.int .i64 2)).setCell ⟨w.heap.size,1,none⟩ (.string (bs s))).setCell ⟨w.heap.size,2,none⟩ (.slice none 0 0)).setCell ⟨w.heap.size,3,none⟩ (.slice none 0 0)=WF:=b;rw[a];obtain⟨d0,d1,d2,d3,_⟩:=hP.cells;clear b a;refine bodyPost_ret (v:= .agg #[(2:Int),bs s,(),()]) ?_ rfl ⟨rfl,c⟩;exact df
  ·obtain⟨rfl,rfl⟩:q3=false/\q4=false:=(by cases q3<;>cases q4<;>simp at c2 ⊢);rw[if_neg (by
    obtain⟨_,_,_,a3,a4⟩:=z.out;rintro(h | h)
    ·exact absurd (a3.1 h) b_
    ·exact absurd (a4.1 h) b_)]
   clear c1 c2 z;by_cases he:er=0
   ·subst he;rw[if_pos rfl];first|have:=vr;have CT:Hid (∀w',lT w'->Calls Tryz.prog 34 #[.agg #[n.neg,bs n.dig,n.exp]] w' λe w2=>e= .returned (.string (bs (kB n)))/\Below w'.heap.size w' w2):=hid (λw' J=>Dk n w' (by have:=g rfl;omega) J.1.2)|have CT:Hid (∀w',lT w'->Calls Tryz.prog 89 #[.agg #[n.neg,bs n.dig,n.exp]] w' λe w2=>e= .returned (.string (bs (kB n)))/\Below w'.heap.size w' w2):=hid (λw' J=>Ns n w' (by have:=g rfl;omega))
    clear g;obtain⟨Z,N⟩:=exQ<|kB n;rw[N] at CT ⊢
    first|have:=vr;go_enter Tryz.func79,Tryz.ntmps79|go_enter Tryz.func56,Tryz.ntmps56
    go_wp2_with fail;refine(CP.out _).mono ?_;unfold oU dV;rintro e w2 ⟨rfl,f⟩;have r:=hid (m.out.keep f);have y:=hid (aC l.out f);have E:=hid (M.out.keep f);clear f y0 y1 y2 y3 f0 f1 f2 f3;have d:=aL w2 (.cells #[n.neg,bs n.dig,n.exp] 80);have H:=uH.new w2 n;obtain⟨W3,A⟩:=exQ<|w2.alloc (.cells #[n.neg,bs n.dig,n.exp] 80);rw[A] at d H;obtain⟨x0,x1,x2,_⟩:=H.cells;have q:=hid (r.out.keep d);have p:=hid (aC y.out d);have G:=hid (E.out.keep d);clear d H;go_wp2_with fail;refine(CT.out _ G.out).mono ?_;rintro e w4 ⟨rfl,i⟩;have j:=hid (q.out.keep i);have u:=hid (aC p.out i);clear i x0 x1 x2 A;obtain⟨y0,y1,y2,y3,f0,f1,f2,f3⟩:=j.out.cells;go_wp2_with fail;clear y0 y1 y2 y3 f0 f1 f2 f3;have hP:=(j.out).put (k2:=3) (t2:=Z);have c:=pA (k:=3) (t:=Z) (u.out) (aD w.heap.size);obtain⟨WF,b⟩:=exQ<|lU w4 w.heap.size 3 Z;rw[b] at hP c;have a:(((w4.setCell ⟨w.heap.size,0,none⟩ (.int .i64 3)).setCell ⟨w.heap.size,1,none⟩ (.string (bs Z))).setCell ⟨w.heap.size,2,none⟩ (.slice none 0 0)).setCell ⟨w.heap.size,3,none⟩ (.slice none 0 0)=WF:=b;rw[a];obtain⟨d0,d1,d2,d3,_⟩:=hP.cells;clear b a;refine bodyPost_ret (v:= .agg #[(3:Int),bs Z,(),()]) ?_ rfl ⟨rfl,c⟩;exact df
   ·rw[if_neg he];have de:(er==0)=false:=aE.2 he;first|have:=vr;have CO:=hid (λw=>xP s w);clear g;go_enter Tryz.func79,Tryz.ntmps79|have CO:=hid (λw=>Nt s w);clear g;go_enter Tryz.func56,Tryz.ntmps56
    go_wp2_with fail;refine(CP.out _).mono ?_;unfold oU dV;rintro e w2 ⟨rfl,f⟩;have r:=hid (m.out.keep f);have y:=hid (aC l.out f);clear f y0 y1 y2 y3 f0 f1 f2 f3;have d:=aL w2 (.cells #[n.neg,bs n.dig,n.exp] 80);have q:=hid (r.out.keep d);have p:=hid (aC y.out d);clear d;go_wp2_with fail;refine(CO.out _).mono ?_;rintro e w4 ⟨rfl,i⟩;have j:=hid (q.out.keep i);have u:=hid (aC p.out i);clear i;obtain⟨y0,y1,y2,y3,f0,f1,f2,f3⟩:=j.out.cells;go_wp2_with fail;clear y0 y1 y2 y3 f0 f1 f2 f3;have hP:=(j.out).put (k2:=4) (t2:=s);have c:=pA (k:=4) (t:=s) (u.out) (aD w.heap.size);obtain⟨WF,b⟩:=exQ<|lU w4 w.heap.size 4 s;rw[b] at hP c;have a:(((w4.setCell ⟨w.heap.size,0,none⟩ (.int .i64 4)).setCell ⟨w.heap.size,1,none⟩ (.string (bs s))).setCell ⟨w.heap.size,2,none⟩ (.slice none 0 0)).setCell ⟨w.heap.size,3,none⟩ (.slice none 0 0)=WF:=b;rw[a];obtain⟨d0,d1,d2,d3,_⟩:=hP.cells;clear b a;refine bodyPost_ret (v:= .agg #[(4:Int),bs s,(),()]) ?_ rfl ⟨rfl,c⟩;exact df):P:=h
theorem ss(h:P:=by
 first
 |have _:=AL;rw [if_pos s] at i;have L:n=45\/((n==45)=false/\decide (48<=n)=true/\decide (n<=57)=true):=by
   by_cases h:n=45
   ·exact .inl h
   ·right;rcases s with s | s
    ·exact absurd (y.out.2.2.2.2.2.1 s) h
    ·rw[y.out.2.2.2.1,jS] at s;exact⟨aE.2 h,aO s.1,aO s.2⟩
  have I:=O.out.2;obtain⟨P1,P2⟩:=PR;clear y O t s h34
 |rw[if_neg s] at i;have L:(n==45)=false/\(decide (48<=n)=false\/(decide (48<=n)=true/\decide (n<=57)=false)):=by
   refine⟨aE.2 (λe=>s (.inl (y.out.2.2.2.2.2.2 e))),?_⟩;by_cases h:48<=n
   ·right;exact⟨aO h,aG (λh2=>s (.inr (by rw[y.out.2.2.2.1];exact aO ⟨h,h2⟩)))⟩
   ·left;exact aG h
  obtain⟨d1,d2⟩:=L;have hw12:wd<=12:=by have:=y.out.2.2.1;omega
  have wns:IntKind.i64.wrap ((a:Int)+(ns:Int))=(a:Int)+(ns:Int):=by rw[IntKind.wrap_i64];omega
  clear y O t s h34 CP RN
 go_upto_region 15 with fail;first|have _:=AL;go_cut [72] (λM wx=>M= .bool true/\Hid (mZ w a wx))|go_cut [72] (λM wx=>M= .bool false/\Hid (mZ w a wx))
 case first=>
  first|have _:=AL;(rcases L with rfl | ⟨d1,d2,d3⟩)|(rcases d2 with d2 | ⟨d2,d3⟩)
  all_goals
   go_wp2_with fail;go_meet;exact⟨rfl,m⟩
 clear p0 q0 t0 t1 t2 f0 f1 f2 m;obtain⟨rfl,m⟩:=hcut
 first
 |have _:=AL;have hS:dL w a wc:=dL.start m.out;go_upto_region 16 with fail;go_region_held3 (λw'=>dL w a w') ((first | exact dL.drew l_ | exact dL.step l_ l_ | assumption))
   (first
    | (go_at_call 224;(with_reducible refine(Jt _ _).mono ?_);rintro e w1 ⟨X,rfl,hx,Q⟩)
    | (go_at_call 223;(with_reducible refine(RN.out _ _ (by exact hx)).mono ?_);rintro e w2 ⟨rfl,rfl⟩))
  have T:dL w a w1:=l_
  clear hx Q hS;have K:=hid T;have C:=T.1;clear T;have HBn:Hid (Below w.heap.size w w1):=hid (by obtain⟨_,_,_,_,_,h3⟩:=K.out.2.out;exact h3);unfold oU dV at CP;obtain⟨g,d,e⟩:=P1;simp only[] at CP i;go_wp2_with fail;(with_reducible refine(CP.out _).mono ?_);rintro e w2 ⟨rfl,ai⟩;have aa:=hid (dL.step K.out ai);clear K ai C;go_upto_region 18 with fail;have G:=hid (dL.step aa.out (aL w2 (.cells #[g,bs d,e] 80)));obtain⟨W2,ag⟩:=exQ<|w2.alloc (.cells #[g,bs d,e] 80);rw[ag] at G ⊢;clear ag aa;have C:=G.out.1;by_cases hp:P2=0
 |obtain⟨p0,q0,t0,t1,t2,f0,f1,f2⟩:=m.out.cells;by_cases hw0:wd=0
 ·first|have _:=AL;have q:Hid (((9:Int),(a:Int),(a:Int)+(nn:Int),(0:Int))=R):=hid (by have:=i.out;rw[if_pos hp] at this;rw[<-this];unfold nU;simp);subst hp;clear i;go_wp2_with fail;with_reducible refine(TK.out _ _ _ C).mono ?_|have q:Hid (((0:Int),(a:Int),(a:Int),(2:Int))=R):=hid (by have:=i.out;rw[if_pos hw0] at this;rw[<-this];unfold nU;simp);subst hw0;clear i;go_wp2_with (go_at_call 223;(with_reducible refine(RS.out _).mono ?_);rintro e w' ⟨rfl,rfl⟩);(with_reducible refine(CW.out _).mono ?_);rintro e w' ⟨rfl,rfl⟩;go_wp2_with fail;with_reducible refine(TF.out _ _ _).mono ?_
  rintro e w3 ⟨rfl,p⟩;first|have _:=AL;have z:=dL.step G.out p;clear p C|have z:=dL.step (dL.start m.out) p;clear p p0 q0 t0 t1 t2 f0 f1 f2
  obtain⟨k3,x3,y3,t0,t1,t2,f0,f1,f2⟩:=z.cellsE;go_wp2_with fail
  first
  |have _:=AL;have j:=hid (z.putG (9) ((a:Int)) ((a:Int)+(nn:Int)));obtain⟨WF,f⟩:=exQ<|gS w3 (w.heap.size+1) (9) ((a:Int)) ((a:Int)+(nn:Int))
  |have j:=hid (z.putG (0) ((a:Int)) ((a:Int)));obtain⟨WF,f⟩:=exQ<|gS w3 (w.heap.size+1) (0) ((a:Int)) ((a:Int))
  rw[f] at j;dsimp only[gS] at f;rw[f];clear f t0 t1 t2 f0 f1 f2;obtain⟨c0,c1,c2,_⟩:=j.out.2.1.cells;first|have _:=AL;refine bodyPost_ret (v:= .tuple #[.agg #[(9:Int), .int .i64 ((a:Int)), .int .i64 ((a:Int)+(nn:Int))],(0:Int)]) ?_ rfl ⟨by rw[<-q.out];rfl,j.out.2.2⟩|refine bodyPost_ret (v:= .tuple #[.agg #[(0:Int), .int .i64 ((a:Int)), .int .i64 ((a:Int))],(2:Int)]) ?_ rfl ⟨by rw[<-q.out];rfl,j.out.2.2⟩
  exact dv
 ·first
  |have _:=AL;have q:Hid (((0:Int),(a:Int),(a:Int),P2)=R):=hid (by have:=i.out;rw[if_neg hp] at this;rw[<-this];unfold nU;simp only[];rw[if_neg hp];simp);have te:(P2 !=0)=true:=eF.2 hp;clear i hp;go_wp2_with fail;with_reducible refine(TF.out _ _ _).mono ?_
  |have q:Hid (((wd:Int),(a:Int),(a:Int)+(ns:Int),(0:Int))=R):=hid (by have:=i.out;rw[if_neg hw0] at this;rw[<-this];unfold nU;simp);have tw:((wd:Int) !=0)=true:=eF.2 a_;clear i hw0;go_wp2_with (go_at_call 223;(with_reducible refine(RS.out _).mono ?_);rintro e w' ⟨rfl,rfl⟩);(with_reducible refine(CW.out _).mono ?_);rintro e w' ⟨rfl,rfl⟩;go_wp2_with fail;with_reducible refine(TK.out _ _ _ p0).mono ?_
  rintro e w3 ⟨rfl,p⟩;first|have _:=AL;have z:=dL.step G.out p;clear p C|have z:=dL.step (dL.start m.out) p;clear p p0 q0 t0 t1 t2 f0 f1 f2
  obtain⟨k3,x3,y3,t0,t1,t2,f0,f1,f2⟩:=z.cellsE;go_wp2_with fail
  first
  |have _:=AL;have j:=hid (z.putG (0) ((a:Int)) ((a:Int)));obtain⟨WF,f⟩:=exQ<|gS w3 (w.heap.size+1) (0) ((a:Int)) ((a:Int))
  |have j:=hid (z.putG ((wd:Int)) ((a:Int)) ((a:Int)+(ns:Int)));obtain⟨WF,f⟩:=exQ<|gS w3 (w.heap.size+1) ((wd:Int)) ((a:Int)) ((a:Int)+(ns:Int))
  rw[f] at j;dsimp only[gS] at f;rw[f];clear f t0 t1 t2 f0 f1 f2;obtain⟨c0,c1,c2,_⟩:=j.out.2.1.cells;first|have _:=AL;refine bodyPost_ret (v:= .tuple #[.agg #[(0:Int), .int .i64 ((a:Int)), .int .i64 ((a:Int))],P2]) ?_ rfl ⟨by rw[<-q.out];rfl,j.out.2.2⟩|refine bodyPost_ret (v:= .tuple #[.agg #[.int .i64 ((wd:Int)), .int .i64 ((a:Int)), .int .i64 ((a:Int)+(ns:Int))],(0:Int)]) ?_ rfl ⟨by rw[<-q.out];rfl,j.out.2.2⟩
  exact dv):P:=h
theorem uz(h:P:=by
 obtain⟨x1,x2⟩:=hsp x (bD hx);have O:=(aR.1 hx).1;first|have _:=B7;have f:=xV x1 x2;have D:(bs txt).extract x.1 x.2=bs (eJ txt x):=by rw[gL,aQ];rfl|skip
 obtain⟨t,v⟩:=exQ<|eJ txt x
 first
 |have _:=B8;have f:=xV x1 x2;have I:=jU t;rw[v] at f ⊢;have CB:Hid (∀w',Below w.heap.size w w'->Calls Tryz.prog 107 #[some P, .agg #[x.1,x.2]] w' λe w2=>e= .returned (.string (bs t))/\Below w'.heap.size w' w2):=hid (λw' q=>by have:=As (x.1:Int) (x.2:Int) w' (h.keep q) a_ a_ a_ a_;rw[Ze,v] at this;exact this)
 |rw[v] at f D ⊢;have p:=jU t;have L:=nV t;have G:=nW t;obtain⟨nb,d⟩:=exQ<|aX t;rw[d] at p L G ⊢
 obtain⟨z,sv,lv,nv,_,o⟩:=h;obtain⟨gs,cs,rfl,y,s0,s1⟩:=o.spanAt hx;first|have _:=B8;obtain⟨⟨_,c1,_⟩,_⟩:=o.cells;have J:=o.lt;have st:=aM t|obtain⟨⟨c0,c1,_⟩,_⟩:=o.cells;have J:=o.lt;have sl:=aM txt;have stt:=aM t
 have hk0:(0:Int)<=(k:Int):=a_
 have hk1:(k:Int)<(sp.length:Int):=a_
 have htl2:t.length<=65536:=a_
 first
 |have _:=B8;obtain⟨nb,d⟩:=exQ<|aX t
  rw[d] at I ⊢;have CT:Hid (∀w,∃r:aA,r.length=t.length-nb/\Calls Tryz.prog 29 #[bs t, .string ⟨#[32]⟩] w λe w'=>e= .returned (.string (bs r))/\w=w'):=hid (λw=>by rw[<-d];exact Zf t w);clear o hx hsp v f d x1 x2 hs y;go_enter Tryz.func205,Tryz.ntmps205;go_wp2_with fail;refine(CB.out _ f_).mono ?_;rintro e w2 ⟨rfl,a⟩;have K:=hid (show Below w.heap.size w w2 from by first | exact a | exact aC (aB _ _).drew a);clear a;obtain⟨r,F,s⟩:=CT.out w2;have sr:=aM r;have CR:=hid s;clear s;go_wp2_with fail;refine CR.out.mono ?_;rintro e w3 ⟨rfl,rfl⟩;have e1:(t.length:Int)-(r.length:Int)=(nb:Int):=a_
  have hwr:IntKind.i64.wrap ((t.length:Int)-(r.length:Int))=(nb:Int):=by rw[e1,IntKind.wrap_i64];omega
  clear F;go_wp2_with fail;go_ret2;refine⟨?_,K.out⟩;simp[e1];rw[Bool.eq_iff_iff,beq_iff_eq,jS];omega
 |have hx12:(x.1:Int)<=(x.2:Int):=a_
  have hx2l:(x.2:Int)<=(txt.length:Int):=a_
  have Q:=hid L;have M:=hid G;have C:=hid p;have N:Hid (Below w.heap.size w w):=hid (aB _ _);clear o hx hsp v f d x1 x2 hs y L G p O;go_enter Tryz.func102,Tryz.ntmps102;go_wp2_with fail;go_region;go_wp2_with fail;go_loopw [7] (λs7 wr=> ∃j:Nat,s7= .int .i64 (j:Int)/\j<=t.length/\Hid (j<=nb)/\Hid (Below w.heap.size w wr)) (λs7 _=>t.length-(RowKit.intOf s7).toNat)
  case atStart=>exact⟨0,rfl,dY _,hid (dY _),hid N.out.drew⟩
  case round=>
   obtain⟨j,rfl,hj,H,m⟩:=hrel;have A: ∀(n:Nat),n=nb->Hid (Ending.returned (.tuple #[n, .bool ((n:Int)==(t.length:Int))])= .returned (.tuple #[nb,(decide (nb=t.length))])):=λn e=>hid (by subst e;rw[show ((n:Int)==(t.length:Int))=decide (n=t.length) by rw[Bool.eq_iff_iff,beq_iff_eq,jS];omega]);by_cases hlt:j<t.length
   ·have i:j<(bs t).size:=a_;have l:=cK t j i;obtain⟨b,q⟩:=exQ<|(bs t)[j]'i;rw[q] at l;obtain⟨c,B⟩: ∃c:Int,(b.toNat:Int)=c:=⟨_,rfl⟩;have hge:(((bs t)[j]'i).toNat:Int)=c:=(by rw[q,B]);have dk:decide ((j:Int)<(t.length:Int))=true:=aO a_;have hjz:(j:Int)<(t.length:Int):=a_;by_cases h32:c=32
    ·have a:b=32:=by rw[<-UInt8.toNat_inj];show b.toNat=32;omega
     have E:Hid (j+1<=nb):=hid (by
      have:=H.out;by_cases e:j=nb
      ·exact absurd (by rw[<-e,l,a]) M.out
      ·omega)
     subst h32;clear a l q B A;go_wp2_with fail;go_roundw
     case rel=>exact⟨j+1,q_,a_,E,by first | exact m | exact hid m.out.drew⟩
     case measure=>simp[RowKit.intOf];omega
    ·have g:j=nb:=by
      have:=H.out;by_cases e:j<nb
      ·have e2:=Q.out j e;rw[l] at e2;injection e2 with e2;exact absurd (by rw[<-B,e2];rfl) h32
      ·omega
     have d32:(c==32)=false:=aE.2 h32;have u:=A j g;clear l q B h32 A g;exact mi
   ·have g:j=nb:=by have:=H.out;have:=C.out;omega
    have dk:decide ((j:Int)<(t.length:Int))=false:=aG a_;have u:=A j g;clear A g;exact mi):P:=h
theorem r6(h:P:=by
 have sl:=aM l
 first
 |have _:=AE;obtain⟨R,B⟩:=exQ<|cO p l
 |have _:=AF;obtain⟨R,B⟩:=exQ<|cO gE l
 |obtain⟨R,B⟩:=exQ<|a+cO p (l.drop a)
 rw[B];have S:=hid B;clear B;first|have _:=AE;have CA:Hid (∀b:UInt8,Calls Tryz.prog 229 #[.int .u8 (b.toNat:Int),some X] w λe w'=>e= .returned (.bool (p b))/\w=w'):=hid (λb=>by rw[<-hp b];exact Tu X A b w hc);clear hp hc|have _:=AF;have CA:=hid (λb:UInt8=>Tt b w)|skip
 first
 |first|have _:=AE|have _:=AF
  go_enter Tryz.func223,Tryz.ntmps223;go_wp2_with fail
 |skip
 first|have _:=AE;go_loop [8] (λs8=> ∃k:Nat,s8= .int .i64 k/\k<=l.length/\Hid (R=k+cO p (l.drop k))) (λs8=>l.length-(RowKit.intOf s8).toNat)|have _:=AF;go_loop [8] (λs8=> ∃k:Nat,s8= .int .i64 k/\k<=l.length/\Hid (R=k+cO gE (l.drop k))) (λs8=>l.length-(RowKit.intOf s8).toNat)|skip
 first
 |first|have _:=AE|have _:=AF
  case atStart=>exact⟨0,rfl,a_,hid (by rw[List.drop_zero,S.out];omega)⟩
 |have CA:Hid (∀b:UInt8,Calls Tryz.prog 196 #[.int .u8 (b.toNat:Int),bs A] w λe w'=>e= .returned (.bool (p b))/\w=w'):=hid (λb=>by rw[<-hp b];exact Gq b A w hA);clear hp;go_enter Tryz.func197,Tryz.ntmps197;go_wp2_with fail;go_loop [1] (λs1=> ∃k:Nat,s1= .int .i64 k/\k<=l.length/\Hid (R=k+cO p (l.drop k))) (λs1=>l.length-(RowKit.intOf s1).toNat)
  case atStart=>exact⟨a,rfl,ha,hid S.out.symm⟩
 case round=>
  obtain⟨k,rfl,hk,t⟩:=hrel;by_cases hlt:k<l.length
  ·have d:k<(bs l).size:=a_
   first
   |first|have _:=AE|have _:=AF
    have r:=Jr l k hlt d
   |have r:(bs l)[k]'d=l[k]'hlt:=by
     have:=cK l k d;rw[bC hlt] at this;exact(aV this).symm
   have q:=t.out;rw[fL hlt,wY,<-r] at q
   first
   |first|have _:=AE|have _:=AF
    have C:=congrArg (λc:UInt8=>(c.toNat:Int)) r
   |skip
   have CC:=hid (CA.out ((bs l)[k]'d))
   first
   |have _:=AE;cases hp:p ((bs l)[k]'d) with
    | true=>
     rw[hp] at CC;rw[hp,if_pos rfl] at q;have z:Hid (R=(k+1)+cO p (l.drop (k+1))):=hid a_;clear hp q r C t;go_wp2_with (go_at_call 229;(with_reducible refine CC.out.mono ?_);rintro e w' ⟨rfl,rfl⟩);exact fm
    | false=>
     rw[hp] at CC;rw[hp,if_neg e_] at q;have u:Hid (R=k):=hid a_;clear hp q r C t;go_wp2_with (go_at_call 229;(with_reducible refine CC.out.mono ?_);rintro e w' ⟨rfl,rfl⟩);exact aw
   |have _:=AF;cases hp:gE ((bs l)[k]'d) with
    | true=>
     rw[hp] at CC;rw[hp,if_pos rfl] at q;have z:Hid (R=(k+1)+cO gE (l.drop (k+1))):=hid a_;clear hp q r C t;go_wp2_with (go_at_call 225;(with_reducible refine CC.out.mono ?_);rintro e w' ⟨rfl,rfl⟩);exact fm
    | false=>
     rw[hp] at CC;rw[hp,if_neg e_] at q;have u:Hid (R=k):=hid a_;clear hp q r C t;go_wp2_with (go_at_call 225;(with_reducible refine CC.out.mono ?_);rintro e w' ⟨rfl,rfl⟩);exact aw
   |cases hpk:p ((bs l)[k]'d) with
    | true=>
     rw[hpk] at CC;rw[hpk,if_pos rfl] at q;have z:Hid (R=(k+1)+cO p (l.drop (k+1))):=hid a_;clear hpk q r t;go_wp2_with (go_at_call 196;(with_reducible refine CC.out.mono ?_);rintro e w' ⟨rfl,rfl⟩);exact fm
    | false=>
     rw[hpk] at CC;rw[hpk,if_neg e_] at q;have u:Hid (R=k):=hid a_;clear hpk q r t;go_wp2_with (go_at_call 196;(with_reducible refine CC.out.mono ?_);rintro e w' ⟨rfl,rfl⟩);exact aw
  ·have u:Hid (R=l.length):=by
    have q:=t.out;rw[List.drop_of_length_le a_] at q;exact hid (by rw[q];show k+0=_;omega)
   clear t;go_wp2_with fail;go_ret
   first
   |first|have _:=AE|have _:=AF
    exact⟨mA (by rw[u.out]),rfl⟩
   |exact⟨mA (by rw[u.out];omega),rfl⟩):P:=h
theorem rh(h:P:=by
 have ba:=aL w (.cells #[(0:Int),bs [],(),()] 36);have c:=iS.new w 0 [];obtain⟨W1,h⟩:=exQ<|w.alloc (.cells #[(0:Int),bs [],(),()] 36);rw[h] at ba c
 first|have _:=zf;have j:=hid ba;have o:=hid c;have r:=hid (hV.keep ba)|skip
 obtain⟨y0,y1,y2,y3,f0,f1,f2,f3⟩:=c.cells;have hW1':w.alloc (.cells #[(0:Int), .string ⟨#[]⟩,(),()] 36)=W1:=h
 first
 |have _:=zg;go_enter Tryz.func18,Tryz.ntmps18
 |have _:=zh;go_enter Tryz.func32,Tryz.ntmps32
 |have C1:=hid (Ts 1 W1 a_ r.out.1.2);have C2:Hid (∀w',lT w'->Calls Tryz.prog 34 #[.agg #[.bool (qL 1).neg,bs (qL 1).dig, .int .i64 (qL 1).exp]] w' λe w2=>e= .returned (.string (bs [49]))/\Below w'.heap.size w' w2):=hid (λw' u=>by have:=Dk (qL 1) w' DQ u.1.2;rw[aBY] at this;exact this);unfold dV at C1;obtain⟨N,q⟩:=exQ<|qL 1;rw[q] at C1 C2;clear hV ba c h q;go_enter Tryz.func16,Tryz.ntmps16;go_wp2_with fail;refine C1.out.mono ?_;rintro e w2 ⟨rfl,f⟩;have m:=hid (o.out.keep f);have p:=hid (aC j.out f);have l:=hid (r.out.keep f);clear f y0 y1 y2 y3 f0 f1 f2 f3;go_wp2_with fail;refine(C2.out _ l.out).mono ?_;rintro e w4 ⟨rfl,g⟩;have i:=hid (m.out.keep g);have n:=hid (aC p.out g);clear g;obtain⟨y0,y1,y2,y3,f0,f1,f2,f3⟩:=i.out.cells
 go_wp2_with fail;clear y0 y1 y2 y3 f0 f1 f2 f3
 first
 |first|have _:=zg|have _:=zh
  have hP:=(c).put (k2:=4) (t2:=s);have d:=pA (k:=4) (t:=s) (ba) (aD w.heap.size);obtain⟨WF,b⟩:=exQ<|lU W1 w.heap.size 4 s
 |have hP:=(i.out).put (k2:=3) (t2:= [49]);have d:=pA (k:=3) (t:= [49]) (n.out) (aD w.heap.size);obtain⟨WF,b⟩:=exQ<|lU w4 w.heap.size 3 [49]
 rw[b] at hP d
 first
 |first|have _:=zg|have _:=zh
  have a:(((W1.setCell ⟨w.heap.size,0,none⟩ (.int .i64 4)).setCell ⟨w.heap.size,1,none⟩ (.string (bs s))).setCell ⟨w.heap.size,2,none⟩ (.slice none 0 0)).setCell ⟨w.heap.size,3,none⟩ (.slice none 0 0)=WF:=b
 |have a:(((w4.setCell ⟨w.heap.size,0,none⟩ (.int .i64 3)).setCell ⟨w.heap.size,1,none⟩ (.string (bs [49]))).setCell ⟨w.heap.size,2,none⟩ (.slice none 0 0)).setCell ⟨w.heap.size,3,none⟩ (.slice none 0 0)=WF:=b
 rw[a];obtain⟨d0,d1,d2,d3,_⟩:=hP.cells;clear b a
 first
 |first|have _:=zg|have _:=zh
  refine bodyPost_ret (v:= .agg #[(4:Int),bs s,(),()]) ?_ rfl ⟨rfl,d⟩
 |skip
 first|have _:=zg;simp[results,Tryz.results18,go_sem,d0,d1,d2,d3]|have _:=zh;simp[results,Tryz.results32,go_sem,d0,d1,d2,d3]|refine bodyPost_ret (v:= .agg #[(3:Int),bs [49],(),()]) ?_ rfl ⟨rfl,d⟩;simp[results,Tryz.results16,go_sem,d0,d1,d2,d3]):P:=h
theorem th(h:P:=by
 first|have:=AT;have F:Hid (R=(.bad txt.length 2,d::had)):=N|have:=AU;have F:Hid (R=(.bad c.sf 2,d::had)):=hid (N.out.trans (if_pos h7))|have F:Hid (R=(bI txt lv r2 (c.sf,c.st) nodes (t.sf,t.st),d::had)):=hid (N.out.trans (if_neg (λh=>h h7)))
 go_wp2_with fail;refine aI.out.mono ?_;rintro e w7 ⟨rfl,f,j⟩;have ag:=hid (aw.out.trans (Fr.ofP (B:=w0.heap.size) j ad a_).toX);first|have:=AT;have CT:=hid (sC _ P txt [] _ nodes w7 f e_ 7 b_)|have:=AU;have CT:=hid (sC _ P txt (c::r2) _ nodes w7 f D7 7 h7)|skip
 first
 |first|have:=AT|have:=AU
  have ax:=hid f.nodesN
 |skip
 first
 |have:=AT;have CF:=hid (pO _ P txt [] _ nodes 2 w7 f e_ a_);clear f j y0 y1
 |have:=AU;have CF:=hid (pO _ P txt (c::r2) _ nodes 2 w7 f D7 a_)
 |have D:Hid (HM b (d::had) w7):=hid (aj.out.same (j.block b aj.out.lt (by simpa using M)));have CT:=hid (tY _ P txt c r2 _ nodes w7 f a_ 7 h7);have v0:w7.cell? ⟨w.heap.size,0,none⟩=some (.int .i64 (t.sf:Int)):=by rw[vQ j af h_];exact y0
  have v1:w7.cell? ⟨w.heap.size,1,none⟩=some (.int .i64 (t.st:Int)):=by rw[vQ j af h_];exact y1
  have G:w.heap.size<w7.heap.size:=by have:=j.size;omega
 first
 |first|have:=AW|have:=AU
  clear f j y0 y1 h7
 |skip
 go_wp2_with fail;refine CT.out.mono ?_
 first
 |first|have:=AT|have:=AU
  rintro e w8 ⟨rfl,rfl⟩;go_wp2_with fail;refine CF.out.mono ?_;rintro e w9 ⟨rfl,A,n⟩;go_wp2_with fail;go_ret;rw[F.out];exact⟨rfl,A.mono (mW (Z.out.trans ax.out.symm)),ag.out.trans n.toX⟩
 |rintro e w8 ⟨rfl,T,v⟩;have X:=hid (ag.out.trans (Fr.ofP (B:=w0.heap.size) v ad a_).toX);have al:Hid (HM b (d::had) w8):=hid (D.out.same (v.block b D.out.lt (by simpa using M)));have u0:w8.cell? ⟨w.heap.size,0,none⟩=some (.int .i64 (t.sf:Int)):=by rw[vQ v G h_];exact v0
  have u1:w8.cell? ⟨w.heap.size,1,none⟩=some (.int .i64 (t.st:Int)):=by rw[vQ v G h_];exact v1
  have ar:=hid T.nodesN;have CV:=hid (IH w8 r2 (c.sf,c.st) nodes (t.sf,t.st) (33-(lv:Int)) T (HW.out.trans X.out.bel) (aD.out.drop 2) (by simp only[bH] at hN;omega) rfl);obtain⟨Q,hQ⟩:=exQ<|bI txt lv r2 (c.sf,c.st) nodes (t.sf,t.st);rw[hQ] at CV F;clear T v v0 v1 hQ;cases Q with
  | ok rr l2 ns=>
   go_wp2_with fail;refine CV.out.mono ?_;rintro e w9 ⟨rfl,A,n⟩;have av:=hid (al.out.fr n M);go_wp2_with fail;go_ret;rw[F.out];exact⟨rfl,A,av.out,X.out.trans n.toX⟩
  | bad a er=>
   go_wp2_with fail;refine CV.out.mono ?_;rintro e w9 ⟨rfl,A,n⟩;go_wp2_with fail;go_ret;rw[F.out];exact⟨rfl,A.mono (mW (Z.out.trans ar.out.symm)),X.out.trans n.toX⟩):P:=h
theorem ud(h:P:=by
 first|have _:=BD;rw[fK] at hr;have hdl:=h.lastNot hr.1 hi|have _:=BE;subst hfr|skip
 have g: ∀e∈eff,fI sl (cB v (some k) x) e=fI sl v e:=λe m=>pI hnd hk x (λe2=>hne (e2 ▸ m));have C: ∀e∈eff,aY d i e=d e:=λe m=>iH (λe2=>hne (e2 ▸ m))
 first
 |first|have _:=BF|have _:=BE
  have l:aY d i (eff.getLastD 0)=d (eff.getLastD 0):=C _ (Mg hel)
 |skip
 first|have _:=BF;refine⟨λj u p f b=>?_,h.clo.step ho hall,λs=>h.st E2,λs t=>?_,?_⟩|have _:=BD;refine⟨λj u p f b=>?_,h.clo.step ho hall,λs=>hS (h.st hdl),λs t=>?_,?_⟩|skip
 first
 |first|have _:=BF|have _:=BD
  ·by_cases hji:j=i
   ·subst hji;rw[Au hk];exact hx
   ·rw[pI hnd hk x hji];rw[iH hji] at b
    first
    |have _:=BF;exact h.cl j u p f b
    |rw[h.cl j u p f b];have H:D.contains (0+j)=false:=by
      cases hc:D.contains (0+j) with
      | false=>rfl
      | true=>
       rw[Nat.zero_add] at hc;have:=h.clo.reach _ _ _ (gW.1 hr.2 j EC) b;rw[hi] at this;cases this
     rw[<-Fd D v0 0 j H,<-Fd D vl 0 j H,hag]
  ·rw[pI hnd hk x (Ne.symm hfr)];rw[iH (Ne.symm hfr)] at t;first|have _:=BF;exact h.fb E2 t|exact hF _ (h.fb hdl t)
 |refine⟨λj u p f b=>?_,h.clo.step ho hall,λs=>hS (h.st hdl),λs t=>by rw[Au hk];exact hx,?_⟩
  ·rw[pI hnd hk x f];rw[iH f] at b;exact h.cl j u p f b
 ·obtain⟨q,E,A,y⟩:=h.ph
  first
  |have _:=BD;have F:q<eff.length:=by
    refine Nat.lt_of_le_of_ne E (λe=>?_);have hpos:0<eff.length:=qV.2 hel;have I:eff[eff.length-1]?=some (eff.getLastD 0):=by
     rw[List.getLastD_eq_getLast?,List.getLast?_eq_getElem?,bC a_];rfl
    have:=(A (eff.length-1) _ I).2 a_;rw[hdl] at this;cases this
  |skip
  refine⟨q,E,λj e m=>?_,?_⟩
  ·rw[C e (bD m)];exact A j e m
  first
  |have _:=BF
   ·rw[Mh g (pI hnd hk x (Ne.symm hfr))];exact y
  |have _:=BD
   ·rw[Mh g (pI hnd hk x (Ne.symm hfr))];exact hP _ _ F y
  |·have G:oI eff sl i (cB v (some k) x) q=oI eff sl i v q:=by
     cases q with
     | zero=>rfl
     | succ q=>
      rw[xY,xY];cases m:eff[q]? with
      | none=>rfl
      | some e=>
       simp only[];cases hs:fT sl e with
       | some z=>exact g e (bD m)
       | none=>
        have r:=gW.1 hsl e (bD m);rw[Bool.or_eq_true] at r;rcases r with r | r
        ·exact lm
        ·rw[hs] at r;cases r
    rw[G];exact hP _ _ y):P:=h
theorem r9(h:P:=by
 have ba:=aL w (.cells #[(0:Int),bs [],(),()] 36);have f:=iS.new w 0 [];obtain⟨W1,i⟩:=exQ<|w.alloc (.cells #[(0:Int),bs [],(),()] 36);rw[i] at ba f;obtain⟨y0,y1,y2,y3,f0,f1,f2,f3⟩:=f.cells;have hW1':w.alloc (.cells #[(0:Int), .string ⟨#[]⟩,(),()] 36)=W1:=i
 first|have:=AH;go_enter Tryz.func17,Tryz.ntmps17|go_enter Tryz.func15,Tryz.ntmps15
 go_wp2_with fail;clear y0 y1 y2 y3 f0 f1 f2 f3
 first
 |have:=AH;have hP:=f.putv (k2:=5) (t2:= []) (kv:= .slice none 0 0) (iv:= .slice p n c);have g:=Ov (k:=5) (t:= []) (kv:= .slice none 0 0) (iv:= .slice p n c) ba (aD w.heap.size);obtain⟨WF,a⟩:=exQ<|wP W1 w.heap.size 5 [] (.slice none 0 0) (.slice p n c)
 |have hP:=f.putv (k2:=6) (t2:= []) (kv:= .slice q m d) (iv:= .slice p n c);have g:=Ov (k:=6) (t:= []) (kv:= .slice q m d) (iv:= .slice p n c) ba (aD w.heap.size);obtain⟨WF,a⟩:=exQ<|wP W1 w.heap.size 6 [] (.slice q m d) (.slice p n c)
 rw[a] at hP g;first|have:=AH;have b:(((W1.setCell ⟨w.heap.size,0,none⟩ (.int .i64 5)).setCell ⟨w.heap.size,1,none⟩ (.string ⟨#[]⟩)).setCell ⟨w.heap.size,2,none⟩ (.slice none 0 0)).setCell ⟨w.heap.size,3,none⟩ (.slice p n c)=WF:=a|have b:(((W1.setCell ⟨w.heap.size,0,none⟩ (.int .i64 6)).setCell ⟨w.heap.size,1,none⟩ (.string ⟨#[]⟩)).setCell ⟨w.heap.size,2,none⟩ (.slice q m d)).setCell ⟨w.heap.size,3,none⟩ (.slice p n c)=WF:=a
 rw[b];obtain⟨d0,d1,d2,d3⟩:=hP.cells;clear a b;first|have:=AH;refine bodyPost_ret (v:= .agg #[(5:Int), .string ⟨#[]⟩,(), .slice p n c]) ?_ rfl ⟨rfl,g⟩|refine bodyPost_ret (v:= .agg #[(6:Int), .string ⟨#[]⟩, .slice q m d, .slice p n c]) ?_ rfl ⟨rfl,g⟩
 have h:WF.cell? ⟨w.heap.size,1,none⟩=some (.string ⟨#[]⟩):=d1;first|have:=AH;simp[results,Tryz.results17,go_sem,d0,h,d2,d3]|simp[results,Tryz.results15,go_sem,d0,h,d2,d3]):P:=h
theorem vb(h:P:=by
 obtain⟨t1,t2,t3,t4⟩:=h.ty
 first
 |have:=DE;have f:=h.nod.kids y (bD hy);have J:=h.box_grown f (Ne.symm t4) hg;obtain⟨g',D,A,e,_,E,c⟩:=h.nod.form (λe=>by rw[e] at hy;simp at hy);have C:g=g':=by injection e with e;injection e with e;injection e
  subst C;have b:w1.heap[g]?=some (.cells A 45 (0,0)):=pW hg c (λe=>by
   rcases cQ f c b_ with r | r
   ·rw[r] at e;cases e
   ·exact r e)
  have i:=cT w1 g (n*9+8) kv
 |obtain⟨g',D,A,e',_,E,b⟩:=h.nod.form (λe=>by rw[e] at hy;simp at hy);have C:g=g':=by injection e' with e;injection e with e;injection e
  subst C;have i:=cT w g (n*9+3) (.int .i64 (e:Int))
 have G:P≠g:=λe=>by
  first|have:=DF;have J:=h.box|skip
  subst e;rw[J] at b;injection b with b;injection b with _ b;exact t3 b
 first
 |have:=DE;refine⟨?_,?_,?_,h.nod.kid hy hH hr hg hat,h.hB,h.ty,?_,λk o I=>?_⟩
  ·rw[eC w1 ⟨g,n*9+8,none⟩ kv P G,List.length_set];exact J
  ·have r:=h.spr.kept hg (gI h.spr f b_);exact cb
  ·have r:=h.lnr.kept hg (gI h.lnr f b_);exact cb
  ·exact(h.bel.grown hg h.bel.size (λk I=>(World.ownsRow.lt f k I).1)).setCell (p:=⟨g,n*9+8,none⟩) E kv
 |refine⟨?_,h.spr.kept i (cQ h.spr b b_),h.lnr.kept i (cQ h.lnr b b_),h.nod.field hy 3 a_ _ rfl rfl rfl,h.hB,h.ty,h.bel.setCell (p:=⟨g,n*9+3,none⟩) E _,λk o I=>?_⟩
  ·rw[eC w ⟨g,n*9+3,none⟩ _ P G,List.length_set];exact h.box
 ·obtain⟨f1,f2,f3,f4,f5⟩:=h.fr k o I;first|have:=DE;have fy:=f5 y (bD hy)|skip
  refine⟨?_,f2,f3,f4,λx s=>?_⟩
  first
  |have:=DE
   ·rw[eC w1 ⟨g,n*9+8,none⟩ kv k (λe=>f4 (by rw[e];rfl))];exact pW hg f1 fy
  |·rw[eC w ⟨g,n*9+3,none⟩ _ k (λe=>f4 (by rw[e];rfl))]
    exact f1
  ·rcases List.mem_or_eq_of_mem_set s with s | rfl
   ·exact f5 x s
   first
   |have:=DE
    ·exact Eo hat hH (aF f1) fy
   |·exact f5 y (bD hy)):P:=h
theorem vh(h:P:=by
 first|have:=DK;have aY: ∀ty,(Instr.next (.pointer (some ⟨w1.heap.size+1,0,none⟩)) true ty).run Tryz.prog wr= .ok (.tuple #[true,p, .int .i32 (bL S p)]) (wr.iterAt (w1.heap.size+1) S (p+bG S p)):=λty=>Lib.run_next_any_at wr _ S p ty HI.out hlt|skip
 have al:=an.out p hlt;first|have:=DK;obtain⟨e1,e2⟩:=Jg S p hlt al|skip
 have hb:=of_decide_eq_true al;first|have:=DK;rw[e1,e2] at aY|skip
 have G:eL (S.data.toList.take (p+1))=10*eL (S.data.toList.take p)+(((S[p]'hlt).toNat:Int)-48):=by rw[zP S p hlt,Cd]
 have b1:=M.out p;have b2:=M.out (p+1)
 first
 |have:=DK;have aS:=hid (Lib.iterAt_heap wr (w1.heap.size+1) S p (p+1) HI.out);have a9:=hid (Lib.below_iterAt HW.out (show w.heap.size<=w1.heap.size+1 by omega) S (p+1));have HM:=hid (iterPos_of HI.out);have bd:Hid ((wr.iterAt (w1.heap.size+1) S (p+1)).heap[w1.heap.size]?=some (.cells #[n,lo,bs a,bs b,bs c] 139 (0,0))):=by
   exact(Lib.iterAt_other wr _ _ S _ a_).trans HX.out
  have bf:Hid ((wr.iterAt (w1.heap.size+1) S (p+1)).heap[w.heap.size]?=some (.cells #[false, .string ⟨#[]⟩,(0:Int)] 80 (0,0))):=by
   exact(Lib.iterAt_other wr _ _ S _ a_).trans HO.out
  generalize eL (S.data.toList.take p)=V at *
 |generalize eL (S.data.toList.take p)=U at *
 have HS:=hid G;rw[G] at b2;first|have:=DK;clear e1 e2 al G|clear al G
 go_wp2_with fail;go_roundw
 first
 |have:=DK;case rel=>exact⟨p+1,a_,by rw[HS.out],aS.out,bd.out,bf.out,a9.out⟩
  case measure=>rw[iterPos_of aS.out,HM.out];omega
 |case rel=>exact⟨p+1,a_,q_,by rw[HS.out],trivial⟩
  case measure=>simp[RowKit.intOf];omega):P:=h
theorem uh(h:P:=by
 first|have _:=BI;subst hfr|skip
 have g: ∀e∈eff,gZ sl (cB v (some k) x) e=gZ sl v e:=λe m=>tU hnd hk x (λe2=>hne (e2 ▸ m));have C: ∀e∈eff,aY d i e=d e:=λe m=>iH (λe2=>hne (e2 ▸ m));have l:aY d i (eff.getLastD 0)=d (eff.getLastD 0):=C _ (It hel)
 first
 |have _:=BJ;refine⟨λj u p f b=>?_,h.clo.step ho hall,λs=>h.st E2,λs t=>?_,?_⟩
  ·by_cases hji:j=i
   ·subst hji;rw[Cz hk];exact hx
   ·rw[tU hnd hk x hji];rw[iH hji] at b;exact h.cl j u p f b
  ·rw[tU hnd hk x (Ne.symm hfr)];rw[iH (Ne.symm hfr)] at t;exact h.fb E2 t
 |refine⟨λj u p f b=>?_,h.clo.step ho hall,λs=>hS (h.st hdl),λs t=>by rw[Cz hk];exact hx,?_⟩
  ·rw[tU hnd hk x f];rw[iH f] at b;exact h.cl j u p f b
 ·obtain⟨q,E,A,y⟩:=h.ph;refine⟨q,E,λj e m=>?_,?_⟩
  ·rw[C e (bD m)];exact A j e m
  first
  |have _:=BJ
   ·rw[Sn g (tU hnd hk x (Ne.symm hfr))];exact y
  |·have G:pN eff sl i (cB v (some k) x) q=pN eff sl i v q:=by
     cases q with
     | zero=>rfl
     | succ q=>
      rw[xF,xF];cases m:eff[q]? with
      | none=>rfl
      | some e=>
       simp only[];cases hs:sl[e]? with
       | some z=>exact g e (bD m)
       | none=>
        have r:=gW.1 hsl e (bD m);rw[Bool.or_eq_true] at r;rcases r with r | r
        ·exact lm
        ·have r:=of_decide_eq_true r;rw[Iu] at hs;omega
    rw[G];exact hP _ _ y):P:=h
theorem rx(h:P:=by
 have hle:=h.le;first|have:=zu;have sl:=aM txt|skip
 obtain⟨z,nv,_,lv,E,u,_⟩:=h;obtain⟨c0,c1,c2,c3,c4,c5,_⟩:=E.cells;have C:(0:Int)<=(k:Int):=a_
 have l:=hid (aB w.heap.size w);by_cases hk:k<L.length
 ·obtain⟨t,i⟩: ∃t,L[k]?=some t:=⟨_,bC hk⟩;obtain⟨g,o,c,rfl,hc,k0,k1,k2,_⟩:=u.tok i;first|have:=zw;have e:dI (L.drop k)=t.kind:=by rw[wQ i];rfl|have e:cA txt.length (L.drop k)=t.sf:=by rw[wQ i];rfl
  rw[e];have d0:decide ((L.length:Int)<=(k:Int))=false:=aG a_;have d1:decide (L.length<=k)=false:=aG a_;have D:(k:Int)<(L.length:Int):=a_
  clear E u i e;first|have:=zw;go_enter Tryz.func168,Tryz.ntmps168|go_enter Tryz.func170,Tryz.ntmps170
  go_wp2_with fail;go_region;go_wp2_with fail;go_region;go_wp2_with fail;go_ret;exact⟨rfl,l.out.drew.drew⟩
 ·first|have:=zw;have e:dI (L.drop k)=0:=by rw[List.drop_of_length_le a_];rfl|have e:cA txt.length (L.drop k)=txt.length:=by rw[List.drop_of_length_le a_];rfl
  rw[e];obtain⟨p,c,rfl⟩:=u.slice;have d0:decide ((L.length:Int)<=(k:Int))=true:=aO a_;have d1:decide (L.length<=k)=true:=aO a_;clear E u e;first|have:=zw;go_enter Tryz.func168,Tryz.ntmps168|go_enter Tryz.func170,Tryz.ntmps170
  exact ft):P:=h
theorem uv(h:P:=by
 have G:=kl.out
 first
 |have:=BY;rw[if_neg aw] at G;have bx:=hid G;rw[aG aw] at CT;clear G aw
 |rw[if_pos aw] at G;have bx:=hid G;rw[aO aw] at CT;obtain⟨cJ,fJ⟩:=xt.out.hit aw;have uM:=hid (λw' hj=>Fy (Pr:=Pr) (w0:=w0) (P:=P) (txt:=txt) (sp:=sp) (st:=⟨fp,s4.nodes,s4.total⟩) (a0:=0) (e0:=0) k2 w' hj aw EV (xt.out.ok.2 k2 a_) hs);obtain⟨bg,ip⟩:=exQ<|((lA sp k2).1:Int)+(aS fp k2).ind;simp only[ip] at uM bx;have CF:=hid (λa w' hj=>pX (Pr:=Pr) (w0:=w0) (P:=P) (txt:=txt) (sp:=sp) (st:=⟨fp,s4.nodes,s4.total⟩) (a0:=0) (e0:=0) a 2 w' hj);clear G aw cJ fJ ip
 go_wp2_with fail;refine(CT.out _ D5).mono ?_;rintro e w6 ⟨rfl,a8⟩;have cB:=hid (cw.out.keep DR);clear a8;first|have:=BZ;go_wp2_with fail;refine(uM.out _ p_).mono ?_;rintro e w7 ⟨rfl,dO⟩;have ep:=hid (cB.out.keep x_);clear dO;go_wp2_with fail;refine(CF.out _ _ s').mono ?_;rintro e w8 ⟨rfl,cN⟩;have HF:=hid cN.bad;clear cN|skip
 go_wp2_with fail;go_ret;rw[<-bx.out];first|have:=BY;exact .inl ⟨rfl,rfl,_,cB.out⟩|exact .inr ⟨show (2:Int)≠0 by decide,rfl,HF.out⟩):P:=h
theorem sn(h:P:=by
 rw[hD] at C5;first|have:=AK;have HD:=hid hD;clear hD|have C:=hid (X.out (eW x) rfl rfl hD);clear hD
 go_wp2_with (go_at_call 136;go_must (refine(C3.out _).mono ?_);rintro e w' ⟨rfl,rfl⟩);refine(C5.out _).mono ?_;rintro e w2 ⟨rfl,a⟩;have d:Hid (w2.heap[w.heap.size]?=some (.cells #[ng,true, .string ⟨#[]⟩, .string ⟨#[]⟩, .string ⟨#[]⟩] 139 (0,0))):=(a.block w.heap.size (by simp[World.setCell];exact E)).trans (bN i.out 1 _);have k:=hid ((Q.out.setCell (p:=⟨w.heap.size,1,none⟩) (aD _) (.bool true)).trans (a.mono DO))
 first
 |have:=AK;clear a;go_wp2_with fail;go_meet;exact⟨true,eW x,rfl,⟨λ_=>HD.out,rfl,by rw[f.out];rfl⟩,d.out,k.out⟩
 |clear a a0 a1 a2 a3 a4 f0 f1 f2 f3 f4;obtain⟨a0,a1,a2,a3,a4,f0,f1,f2,f3,f4⟩:=sH d.out;go_wp2_with fail;refine bodyPost_ret (v:= .tuple #[.agg #[ng,true, .string ⟨#[]⟩, .string ⟨#[]⟩, .string ⟨#[]⟩],false]) ?_ rfl ⟨⟨ng,true,[],[],[],false,rfl,?_⟩,?_⟩
  ·exact bz
  ·exact C.out
  ·exact fu):P:=h
theorem ur(h:P:=by
 first|have:=BR;have t7: ¬((s[a+7]'bt).toNat:Int)=117:=by omega|have:=BS;have t6: ¬((s[a+6]' a_).toNat:Int)=92:=by omega|skip
 have bx:Lib.hasPrefix ((s.data.toList.drop a).drop 6) [92,117]=false:=by
  first
  |have:=BU;cases V:Lib.hasPrefix ((s.data.toList.drop a).drop 6) [92,117] with
   | false=>rfl
   | true=>obtain⟨h7,_⟩:=HP.1 V;omega
  |have:=BR;cases V:Lib.hasPrefix ((s.data.toList.drop a).drop 6) [92,117] with
   | false=>rfl
   | true=>obtain⟨_,_,h8⟩:=HP.1 V;exact absurd h8 q5
  |cases V:Lib.hasPrefix ((s.data.toList.drop a).drop 6) [92,117] with
   | false=>rfl
   | true=>obtain⟨_,h8,_⟩:=HP.1 V;exact absurd h8 q6
 rw[if_pos bx] at hR;have HX:Hid (R=(0,0)):=hid hR.symm;first|have:=BU;clear hR C2 HP bx|have:=BR;clear hR C2 HP bx q6 q5|clear hR C2 HP bx q6
 exact fc):P:=h
theorem va(h:P:=by
 first
 |have:=DD;rw[g2] at hR D2;have HX:Hid (R=(0,0)):=hid hR.symm;unfold vY at D2;clear hR C2 g2
 |rw[if_neg q8] at hR;have gc:56320<=L:=a_
  have gd:L<57344:=a_
  clear q8 hL aZ;have HX:Hid (R=(65536+1024*(H-55296)+L-56320,12)):=hid (by rw[<-hR];congr 1;omega);have CU:=hid (λw=>Kw (65536+1024*(H-55296)+L-56320) w ⟨a_,a_⟩);clear hR
 go_wp2_with fail;refine(D1.out _).mono ?_;rintro e w1 ⟨rfl,o⟩;have G:=hid (aC HW.out o);clear o;go_wp2_with fail;refine(D2.out _).mono ?_;rintro e w2 ⟨rfl,J⟩;have aq:=hid (aC G.out J);clear J;go_wp2_with fail;first|have:=DD;go_ret2;exact⟨by rw[HX.out];rfl,aq.out⟩|refine(CU.out _).mono ?_;rintro e w3 ⟨rfl,aH⟩;have bS:=hid (aC aq.out aH);clear aH;go_wp2_with fail;go_ret2;exact⟨by rw[HX.out];rfl,bS.out⟩):P:=h
theorem us(h:P:=by
 first|have _:=BV;have t1:(u==58)=true:=beq_iff_eq.2 h1;have t2:(u==32)=false:=aE.2 a_;by_cases h2:v=32|have t2:(u==32)=true:=beq_iff_eq.2 h2;by_cases h3:v=35
 ·first
  |have _:=BV;have t3:(v==32)=true:=beq_iff_eq.2 h2;obtain rfl:Q=false:=by have:=d.out;rw[t1,t3] at this;simpa using this.symm
   clear h1 h2 d
  |have t3:(v==35)=true:=beq_iff_eq.2 h3;obtain rfl:Q=false:=by have:=d.out;rw[t1,t2,t3] at this;simpa using this.symm
   clear h1 h2 h3 d
  go_wp2_with fail;go_ret;exact⟨rfl,D.out⟩
 ·first|have _:=BV;have t3:(v==32)=false:=aE.2 h2|have t3:(v==35)=false:=aE.2 h3
  have F:Hid (jN (l.drop (j+1))=Q):=hid (by have:=d.out;rw[t1,t2,t3] at this;simpa using this);first|have _:=BV;clear h1 h2 d|clear h1 h2 h3 d
  exact jr):P:=h
theorem ti(h:P:=by
 first|have:=AX;rw[if_pos (.inl h1)] at hg;have d1:decide ((nb:Int)<=ind)=true:=aO h1;have cE:=hid hg;clear h1 hg|rw[if_pos (.inr h2)] at hg;have d2:decide ((nb:Int)<(first:Int))=true:=aO a_;have zC:decide (nb<first)=true:=aO h2;have cE:=hid hg;clear h1 h2 hg
 go_wp2_with fail;refine(CT.out _ f_).mono ?_;rintro e w2 ⟨rfl,bp⟩;have a9:=hid bp;clear bp;go_wp2_with fail;refine(CB.out _ a9.out).mono ?_;rintro e w3 ⟨rfl,bI⟩;have ie:=aC a9.out bI;obtain⟨c2,b3⟩:=v9.out w3 ie;have bf:=hid (aC HB.out ie);clear bI ie;go_wp2_with fail;go_ret;rw[<-cE.out];exact⟨rfl,bf.out⟩):P:=h
theorem vk(h:P:=by
 simp[Region.binds] at E
 first
 |have:=DM;have c16:a.tmps[16]?.getD undef= .pointer (some ⟨X,0,none⟩):=by rw[<-aI];exact F.cl 0 b_ b_ b_ c_
  have L:=F.early (f:=12) (i:=1) d' hi
 |have:=DN;have c18:a.tmps[18]?.getD undef= .pointer (some ⟨X,0,none⟩):=by rw[<-aI];exact F.cl 2 b_ b_ b_ c_
  have L:=F.early (f:=12) (i:=3) d' hi
 |have xM:a.tmps[21]?.getD undef= .pointer (some ⟨X,1,none⟩):=by rw[<-aI];exact F.cl 5 b_ b_ b_ c_
  have L:=F.early (f:=12) (i:=6) d' hi
 rw[<-ah] at L;obtain⟨⟨s0,s1,s2,s3,s4⟩,_⟩:=L;exact af):P:=h
theorem ix(h:P:=by
 subst hR;clear o co
 first
 |have:=vm;by_cases hx34:x=34
  ·subst hx34;clear ae aa V TQ;exact oo
  ·have bk:(x==34)=false:=aE.2 hx34;have cp:(x==39)=true:=by rw[bk] at TQ;simpa using TQ
   clear ae aa V TQ hx34;exact oo
 |rcases HQ with rfl | ⟨bk,rfl⟩
  all_goals
   go_enter Tryz.func66,Tryz.ntmps66;go_wp2_with fail;(with_reducible refine(CQ.out _).mono ?_);rintro e w1 ⟨rfl,o⟩;have G:=hid o;clear o;go_wp2_with (go_at_call 101;refine(am.out _).mono ?_;rintro e w' ⟨rfl,rfl⟩);go_ret2;exact⟨rfl,G.out⟩):P:=h
theorem sg(h:P:=by
 intro i j yi yj b e c;rw[List.getElem?_set] at e c;by_cases h1:n=i
 ·subst h1;rw[if_pos rfl,if_pos (aR.1 hn).1] at e;obtain rfl:=aV e;rw[if_neg b] at c;rcases hb with hb | hb
  ·rw[hb];exact h n j y yj b hn c
  ·exact .inr (Ne.symm (hb j yj c))
 ·rw[if_neg h1] at e;by_cases h2:n=j
  ·subst h2;rw[if_pos rfl,if_pos (aR.1 hn).1] at c;obtain rfl:=aV c;rcases hb with hb | hb
   ·rw[hb];exact h i n yi y b e hn
   ·exact .inr (hb i yi e)
  ·rw[if_neg h2] at c;exact h i j yi yj b e c):P:=h
theorem iy(h:P:=by
 clear fo ih;have lP:W2.heap.size<=w5.heap.size:=aZ dQ.out.size (aZ jL.out.size dr.out.size);go_wp2_with (first | (go_at_call 29;refine(CT.out _).mono ?_;rintro e w6 ⟨rfl,rfl⟩) | (at_builtin;go_must (refine rM rfl _ _ 33 rfl W2.heap.size 9 i0 _ 1 16 Tryz.underlying33 cy cm dg dh rfl b_ w5 u8 i (iQ ((ts.take i).map (·.1))) rfl oF.out #[bs t] rfl rfl A_ a_ b_ lP ?_);intro v1 w7 nm wR nY pH uj));exact ol):P:=h
theorem uc(h:P:=by
 refine⟨?_,ht.same (λg cur c=>hg.block g (aF c) (λe=>?_))⟩
 ·refine(hg.block P hb.lt (λe=>?_)).trans hb;obtain⟨cs,t,f,d,_⟩:=hr P e.symm;have b:=hb;first|have:=BC;unfold cZ at b|unfold cH at b
  rw[f] at b;injection b with b;injection b with _ b;exact d b
 ·obtain⟨cs,t,f,_,d⟩:=hr g e.symm;rw[f] at c;injection c with c;injection c with _ c;exact d c):P:=h
theorem ol(h:P:=by
 have zO:Hid (bP W2.heap.size ((ts.take i1).map (·.1)) v1 w7):=hid (by rw[jv.out];exact bP.snoc (by rw[xx.out];exact nm));have pe:Hid (Below W2.heap.size W2 w7):=hid ((dQ.out.trans ((jL.out.trans (dr.out.mono jL.out.size)).mono dQ.out.size)).trans nY);go_roundw
 ·exact⟨i1,by rw[<-br],wM,by rw[cY],zO,pe⟩
 ·exact bw):P:=h
theorem oq(h:P:=by
 clear ae aa ao ad V hbr hr hN ci;rcases HQ with rfl | ⟨bi,rfl⟩
 all_goals
  go_enter Tryz.func66,Tryz.ntmps66;go_wp2_with (go_at_call 67;refine(CN.out _).mono ?_;rintro e w' ⟨rfl,rfl⟩);refine wp_loop_rounds 1 ?_;rw[rounds_succ];exact bo):P:=h
theorem jg(h:P:=by
 clear fP ga wC hrb2;go_wp2_with fail;refine(CR.out _).mono ?_;rintro e w7 ⟨rfl,dO⟩;have y9:Hid (Below w6.heap.size w6 w7):=hid x_;clear dO;go_wp2_with fail;go_ret2;rw[<-HF.out];exact⟨rfl,aC r6.out y9.out⟩):P:=h
theorem ey(h:P:=by
 first|have:=vo;go_enter Tryz.func112,Tryz.ntmps112|go_enter Tryz.func57,Tryz.ntmps57
 go_wp2_with fail;refine d.out.mono ?_;unfold gP;rintro e w1 ⟨rfl,c⟩;go_wp2_with fail;go_ret3;exact⟨rfl,c⟩):P:=h
theorem jq(h:P:=by
 go_wp2_with fail;(with_reducible refine(CD.out _ (HT.out.keep HW.out)).mono ?_);rintro e w1 ⟨rfl,o⟩;go_wp2_with fail;go_ret3;exact⟨by rw[<-HF.out];rfl,aC HW.out o⟩):P:=h
theorem fc(h:P:=by
 go_wp2_with fail;refine(D1.out _).mono ?_;rintro e w1 ⟨rfl,o⟩;have G:=hid (aC HW.out o);clear o;go_wp2_with fail;go_ret2;exact⟨by rw[HX.out];rfl,G.out⟩):P:=h
theorem jw(h:P:=by
 go_wp2_with fail;(with_reducible refine(CQ.out _).mono ?_);rintro e w3 ⟨rfl,p⟩;go_wp2_with fail;go_meet;exact⟨rfl,K.out.1.keep p,K.out.2.keep p⟩):P:=h
theorem jl(h:P:=by
 go_wp2_with fail;go_meet;refine⟨Bb D',ae.out.1,?_⟩;have h:=aC.out;simp only[Nat.reduceEqDiff,if_false] at h;rw[<-h.1,<-h.2];exact ae.out.2):P:=h
theorem j7(h:P:=by
 have hd:sL l (uE l.length (JR.ok [] l2 ns)).1=l:=by
  rw[qM] at ad;subst ad;cases ns with
  | nil=>simp at aC
  | cons y ys=>rfl
 rw[hd]):P:=h
theorem ow(h:P:=by
 first|have:=v8;go_enter Tryz.func48,Tryz.ntmps48|go_enter Tryz.func33,Tryz.ntmps33
 go_wp2_with fail;refine C2.out.mono ?_;exact bd):P:=h
theorem kb(h:P:=by
 rintro j' e' rfl e;rcases hp with h | ⟨e2,b,c⟩
 ·omega
 ·rw[Nat.add_sub_cancel,e] at b;injection b with b;rw[b];exact c):P:=h
theorem kj(h:P:=by
 cases hN:fR txt sp k st.lines with
 | ok m ls=>
  rw[hN] at b;exact⟨b.1,gU.toJ b.2 c⟩
 | bad a er=>
  rw[hN] at b;exact b):P:=h
theorem oz(h:P:=by
 rintro e w5 ⟨rfl,hO⟩;exact G _ _ (F.ef 0 ad ha hi (.inl rfl) (λ_ _ _=>trivial) (λh=>absurd rfl h) ⟨rfl,hO⟩)):P:=h
theorem j0(h:P:=by
 go_wp2_with fail;go_round
 case rel=>exact⟨j+1+1,g,q_,a_,a_,a_,z.out⟩
 case measure=>simp[RowKit.intOf];omega):P:=h
theorem ka(h:P:=by
 rw[hg.block g (aF c) (λe=>by
  rcases cQ f c b_ with r | r
  ·rw[r] at e;cases e
  ·exact r e.symm)]
 exact c):P:=h
theorem k6(h:P:=by
 have j:((⟨g,0,none⟩:Addr).add i)=⟨g,i,none⟩:=by unfold Addr.add;split<;>simp_all
 rw[<-j];exact d _ _ f):P:=h
theorem fj(h:P:=by
 go_wp2_with fail;refine C.out.mono ?_;rintro e w1 ⟨rfl,f,d⟩;go_wp2_with fail;go_ret;exact⟨rfl,f,d⟩):P:=h
theorem j9(h:P:=by
 clear hb32;go_wp2_with (go_at_call 91;refine(CG.out _).mono ?_;rintro e w' ⟨rfl,rfl⟩);go_ret3;exact em):P:=h
theorem fl(h:P:=by
 go_simp;exact G _ _ (F.fe ad ha hi (λ_=>ak.out _ (aC hA iA)) (λk c hp=>hp.keep iA) (nI.new hA.size))):P:=h
theorem lc(h:P:=by
 obtain⟨x',post',i1,i2,i3,i4,i5,i6,i7⟩:=Cn hV _ hm h;exact⟨x',post',i1,i2,i3,i4,a_,a_,i7⟩):P:=h
theorem ce(h:P:=by
 first|have:=vz;go_enter Tryz.func186,Tryz.ntmps186|go_enter Tryz.func167,Tryz.ntmps167
 exact aa):P:=h
theorem lp(h:P:=by
 exact⟨i1,fp,by rw[<-br],eo,hid ⟨by have:=AG.out;have:=tn.out;omega,HA.out.2⟩,HB,ed⟩):P:=h
theorem mf(h:P:=by
 go_wp2_with fail;go_meet;exact⟨(K.out.1.set hX 6 _).set hX 7 _,eP (eP K.out.2 6 _) 7 _⟩):P:=h
theorem ii(h:P:=by
 go_wp2_with (go_at_call 91;refine(CG.out _).mono ?_;rintro e w' ⟨rfl,rfl⟩);exact aw):P:=h
theorem fp(h:P:=by
 rcases r with r | r
 ·exact .inl r.symm
 ·exact .inr (by rw[r];simp[Value.ownBlock])):P:=h
theorem mq(h:P:=by
 go_enter Tryz.func73,Tryz.ntmps73;go_wp2_with fail;go_ret;exact⟨by simp[h3],b.out⟩):P:=h
theorem mh(h:P:=by
 go_wp2_with fail;go_meet;exact⟨true,rfl,hid (λ_=>o.out),hid (λh=>by cases h),m⟩):P:=h
theorem ec(h:P:=by
 go_enter Tryz.func184,Tryz.ntmps184;go_wp2_with fail;refine HC.out.mono ?_;exact an):P:=h
theorem lu(h:P:=by
 go_wp2_with fail;go_roundw
 ·exact⟨nx,p2,n2,c9,rfl,rfl,h7,pF⟩
 ·exact bw):P:=h
theorem nc(h:P:=by
 have h1:=HZ.out;rw[<-ab.out,gW] at h1;exact h1 _ (Array.getElem_mem_toList _)):P:=h
theorem ny(h:P:=by
 repeat (first | refine iI ?_ (aD _) | refine Below.drew ?_)
 exact a7.out):P:=h
theorem fw(h:P:=by
 simp[results,Tryz.results105,go_sem,dW,aW,c0,c1,c2,c3,c4,c5,c6,c7,c8,c9]):P:=h
theorem n9(h:P:=by
 refine⟨?_,?_,?_,?_,?_,?_,?_,?_⟩<;>simp[World.cell?,World.frozen?,hb]):P:=h
theorem ne(h:P:=by
 exact(Below.heap_alloc _ _ w.heap.size e_).trans (heap_alloc_new w _)):P:=h
theorem dn(h:P:=by
 go_ret3;exact⟨lZ g.out (λ_=>rfl) (λh=>absurd rfl h) a_,aB _ _⟩):P:=h
theorem oh(h:P:=by
 have b:=h.box;refine⟨?_,?_⟩<;>simp[World.cell?,World.frozen?,b]):P:=h
theorem bc(h:P:=by
 go_simp;go_at_call 43;refine(CT.out _ F.st).mono ?_;exact cg):P:=h
theorem gi(h:P:=by
 intro x e;simp only[fY,List.not_mem_nil,or_false] at e;omega):P:=h
theorem oc(h:P:=by
 injection b with b;injection b with _ b;exact absurd b b_):P:=h
theorem cg(h:P:=by
 rintro e w5 ⟨rfl,aj⟩;exact G _ _ (F.sc (aC F.st aj))):P:=h
theorem g_(h:P:=by first | exact bu.out | exact bu.out.keep (aB _ _).drew):P:=h
theorem n'(h:P:=by first | exact bN.out | exact bN.out.keep (aB _ _).drew):P:=h
theorem B_(h:P:=by first | exact cv.out | exact cv.out.keep (aB _ _).drew):P:=h
theorem DY(h:P:=by first | exact aU.out | exact aU.out.keep (aB _ _).drew):P:=h
theorem D5(h:P:=by first | exact cw.out | exact cw.out.keep (aB _ _).drew):P:=h
theorem bz(h:P:=by
 simp[results,Tryz.results98,go_sem,a0,a1,a2,a3,a4]):P:=h
theorem v_(h:P:=by have:=ct.out;have:=fH.out.len;simp only[];omega):P:=h
theorem oj(h:P:=by
 go_wp2_with fail;go_ret2;rw[<-bi.out];exact ao):P:=h
theorem EI(h:P:=by rw[List.all_append,fK];exact⟨(nR h1).2,h2⟩):P:=h
theorem av(h:P:=by
 exact h.mono λ_ _ ⟨a,b⟩=>⟨a,b.symm⟩):P:=h
theorem bu(h:P:=by
 go_enter Tryz.func207,Tryz.ntmps207;exact aa):P:=h
theorem s_(h:P:=by first | exact aj | exact aC (aB _ _).drew aj):P:=h
theorem DR(h:P:=by first | exact a8 | exact aC (aB _ _).drew a8):P:=h
theorem ai(h:P:=by
 simp[World.setCell,Array.getElem?_modify,h]):P:=h
theorem EK(h:P:=by exact j.cl 4 (by decide) (by decide) (e4)):P:=h
theorem ik(h:P:=by
 rcases r with r | r
 all_goals exact cy):P:=h
theorem cd(h:P:=by
 go_wp2_with fail;go_ret;exact HE.out):P:=h
theorem dz(h:P:=by
 go_wp2_with fail;go_meet;exact HF):P:=h
theorem ag(h:P:=by
 go_simp;exact G _ _ (F.pu ad ha)):P:=h
theorem j_(h:P:=by rw[ai];exact ak.out _ (aB _ _)):P:=h
theorem w_(h:P:=by first | rfl | (congr 1;omega)):P:=h
theorem EL(h:P:=by rw[aM];unfold maxLen;omega):P:=h
theorem EO(h:P:=by intro e;injection e;omega):P:=h
theorem aj(h:P:=by
 simp[go_sem,e0,e1,e2]):P:=h
theorem EH(h:P:=by have h:=bg.out;omega):P:=h
theorem u_(h:P:=by rw[a6];exact aB _ _):P:=h
theorem D9(h:P:=by have:=hb.txt;omega):P:=h
theorem EP(h:P:=by have:=ct.out;omega):P:=h
theorem mz(h:P:=by
 clear an;exact bj):P:=h
theorem E7(h:P:=by simpa using hk):P:=h
theorem E8(h:P:=by simpa using a):P:=h
theorem E3(h:P:=by rw[<-hz,bR]):P:=h
theorem h_(h:P:=by simp;omega):P:=h
theorem k_(h:P:=by simp[f]):P:=h
theorem q_(h:P:=by go_num):P:=h
end Go.Proofs.YtfhjncbdgjlcoaaGreatDoor
