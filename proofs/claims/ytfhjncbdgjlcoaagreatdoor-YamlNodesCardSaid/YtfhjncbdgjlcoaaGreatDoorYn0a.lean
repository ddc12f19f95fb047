import Derived.WalkMore
import Derived.BigQuiet
import Derived.Deep.DeepCutAuto
import Derived.Deep.CutBlock
import Derived.Deep.DeepMust
import Derived.Deep.RegionHeld3
import Derived.Deep.RegionLaw
import Derived.Maps.Own
set_option maxRecDepth 100000
namespace Go.Proofs.YtfhjncbdgjlcoaaGreatDoor
instance:Coe Int Value:=⟨.int .i64⟩
instance:Coe Nat Value:=⟨λn=>.int .i64 n⟩
instance:Coe ByteArray Value:=⟨.string⟩
instance:Coe Bool Value:=⟨.bool⟩
instance(n:Nat):CoeDep (Option Nat) (some n) Value:=⟨.pointer (some ⟨n,0,none⟩)⟩
instance:CoeDep Unit () Value:=⟨.slice none 0 0⟩
instance(a b:Nat):CoeDep (Nat×Nat) (a,b) Value:=⟨.pointer (some ⟨a,b,none⟩)⟩
instance(a b c:Nat):CoeDep (Nat×Nat×Nat) (a,b,c) Value:=⟨.slice (some ⟨a,0,none⟩) b c⟩
instance(a b:Nat):CoeDep (Nat×Nat) (a,b) Addr:=⟨⟨a,b,none⟩⟩
variable{P:Prop}
theorem PQ(h:P:=by
 first|have _:=RM;obtain⟨g1,⟨m1,mG,g2⟩,⟨Cl,g3⟩,g4,g5,g6⟩:=(show lA txt sp k st kid s2 from hg);simp only[] at I|obtain⟨g1,⟨m1,mG,ng⟩,⟨Cl,C6⟩,g4,g5,g6⟩:=(show lA txt sp kk sr kid s2 from en);obtain⟨hx,hxi,fZ⟩:=HX.out
 have gU:=(aW.1 hx).1;first|have _:=RM;have cv:s2.nodes[n]?=some x:=by rw[g2,oV gU];exact hx|have cv:s2.nodes[nn]?=some x:=by rw[ng,oV gU];exact hx
 have ko:kid<s2.nodes.length:=by
  first|have _:=RM;rw[g2,aZ,g1]|rw[ng,aZ,g1]
  have:=rS.2 mG;omega
 first|have _:=RM;obtain⟨xk,fZ⟩: ∃xk,s2.nodes[kid]?=some xk:=⟨_,bI ko⟩|obtain⟨xk,pX⟩: ∃xk,s2.nodes[kid]?=some xk:=⟨_,bI ko⟩
 obtain⟨til,dv⟩:=exQ<|fF s2.nodes kid
 first
 |have _:=RM;have kR:xk.til=til:=by rw[<-dv,wP fZ]
  rw[dv] at I g4 g5;have lh:x.kids.length<=131072:=qo s2 kid ge rfl x cv;have br:=kP (k:=til) hsp g4.2 g6.ls g5;have cM:n≠kid:=a_
  have zz:n<s2.nodes.length:=(aW.1 cv).1
 |have kR:xk.til=til:=by rw[<-dv,wP pX]
  rw[dv] at g4 g5;have lh:x.kids.length<=131072:=by have:=kC.out.tot;omega
  have br:=kP (k:=til) hsp0 g4.2 g6.ls g5;have cM:nn≠kid:=a_
  have zz:nn<s2.nodes.length:=(aW.1 cv).1
 have se:s2.nodes.length<=4096:=by have:=g6.tot;omega
 have HG:=hid (aK g4 (aK g6.ls.1 se));first|have _:=RM;have gi:=hid (aK cv (aK fZ (aK kR hxi)))|have gi:=hid (aK cv (aK pX (aK kR hxi)))
 obtain⟨N,hN⟩:=exQ<|eX txt sp til s2.lines
 first|have _:=RM;rw[hN] at I br;have HN:=hid hN;have HR:=hid I|rw[hN] at br;have HN:=hid (aK hN dv)
 have gW:=hid br;first|have _:=RM;clear I hg qo hw hx cv fZ kR hxi dv hN br g1 g2 mG g3 g4 g5 g6 ko;go_in;go_wp2_with fail;refine yy.out.mono ?_;rintro e w2 ⟨rfl,Pr',lV,gf,hH⟩;have nU:=hid lV;have HH:=hid hH;obtain⟨z,sv,lv,nv,hz,hK⟩:=gf|clear en hx fZ cv pX kR hxi dv hN br g1 ng mG C6 g4 g5 g6 ko gU;go_wp2_with fail;refine aH (zd.out _ GK) λw2 gf=>?_;obtain⟨z,sv,lvv,nv,hz,hK⟩:=gf
 have cA:z.length=s2.nodes.length:=IP
 obtain⟨gn,cn,ec,rfl,eD,_,_⟩:=hK.nod.form (λe=>by rw[e] at cA;simp at cA;omega);first|have _:=RM;obtain⟨y,hy⟩: ∃y,z[n]?=some y:=⟨_,bI a_⟩|obtain⟨y,hy⟩: ∃y,z[nn]?=some y:=⟨_,bI a_⟩
 have lc:y.1=x:=by
  have:=gi.out.1;rw[<-hz,cF,hy] at this;exact bA this
 obtain⟨yk,oz⟩: ∃yk,z[kid]?=some yk:=by
  have:=gi.out.2.1;rw[<-hz,cF] at this;cases hzk:z[kid]? with
  | none=>rw[hzk] at this;cases this
  | some q=>exact⟨q,rfl⟩
 have pe:yk.1=xk:=by
  have:=gi.out.2.1;rw[<-hz,cF,oz] at this;exact bA this
 have fh:=hK.nod.kids y (bH hy);obtain⟨pk,ck,bu⟩: ∃p c,y.2= .slice p y.1.kids.length c:=ft;obtain⟨mk,dt⟩:=exQ<|y.1.kids.length;have yP:mk<=131072:=by rw[<-dt,lc];exact lh
 obtain⟨m,hm⟩:=exQ<|z.length
 first
 |have _:=RM;have us:(n:Int)<(m:Int):=a_
  have Ah:(0:Int)<=(n:Int):=a_
 |have us:(nn:Int)<(m:Int):=a_
  have Ah:(0:Int)<=(nn:Int):=a_
 have lg:(0:Int)<=(kid:Int):=a_
 have hkd1:(kid:Int)<(m:Int):=by have:=(aW.1 oz).1;omega
 first|have _:=RM;have c3:=hK.cells.1.2.2.2.1;have lq:=hK.lt;rw[hm] at c3 eD|have tm:=hK.lt;rw[hm] at eD
 have HY:=hid (aK hy (aK lc (aK oz pe)));have js:=hid (aK bu dt)
 first
 |have _:=RM;have HM:=hid (aK hz hm);have HK:=hid hK;clear hK hz cA hy lc oz pe fh bu dt hm lV hH lh;go_upto_region 5 with fail;clear c3
 |have rj:=hid (aK hz hm);have HK:=hid hK;clear hK hz cA hy lc oz pe fh bu dt hm lh mj b4 b5 lq;go_upto_region 21 with fail
 obtain⟨i0,du,ds,ee,ei⟩:=info_parts infoInt;obtain⟨W0,al⟩:=exQ<|w2.drew;have jK:=HK.out.keep (aD _ w2).drew;rw[al] at jK;have lj:=hid jK;have bx:=jK.nod.kids y (bH HY.out.1);rw[js.out.1,js.out.2] at bx;have cT:=hid bx;have da:=hid jK.bel.size
 first
 |have _:=RM;obtain⟨SA,ak⟩: ∃S:World->Prop,(λw'=>w'.cell? (P,3)=some (.slice (some ⟨gn,0,none⟩) m cn)/\w'.cell? (gn,kid*9+3)=some (.int .i64 (til:Int))/\w'.frozen? ⟨gn,n*9+8,none⟩=false/\w'.frozen? ⟨gn,n*9+3,none⟩=false)=S:=⟨_,rfl⟩;have lI:Hid (∀q c w',bW 3 w0.heap.size (.slice pk mk ck) mk (dH y.1.kids) #[kid] gn (n*9+8) W0 q c w'->bW 3 w0.heap.size y.2 y.1.kids.length (dH y.1.kids) #[kid] gn (n*9+8) W0 q c w'):=hid (λq c w' hp=>by rw[js.out.1,js.out.2];exact hp);have tN:Hid (∀q c w',q<3->bW 3 w0.heap.size (.slice pk mk ck) mk (dH y.1.kids) #[kid] gn (n*9+8) W0 q c w'->w'.cell? (gn,n*9+8)=some (.slice pk mk ck)):=hid (λq c w' Z hp=>by obtain⟨_,h2⟩:=lj.out.seenK HY.out.1 (lI.out q c w' hp) Z;have:=(h2 n y 8 y.2 HY.out.1 a_ rfl).1;rw[js.out.1,js.out.2] at this;exact this);have ot:Hid (∀c w',bW 3 w0.heap.size (.slice pk mk ck) mk (dH y.1.kids) #[kid] gn (n*9+8) W0 3 c w'->w'.cell? (gn,n*9+3)=some (.int .i64 (y.1.til:Int))):=hid (λc w' hp=>by obtain⟨kv,dJ⟩:=lj.out.kidA HY.out.1 (lI.out 3 c w' hp);have iZ:(z.set n ({ y.1 with kids:=y.1.kids++ [kid] },kv))[n]?=some ({ y.1 with kids:=y.1.kids++ [kid] },kv):=(by rw[List.getElem?_set_self (aW.1 HY.out.1).1]);exact(dJ.nod.at_ iZ 3 a_ rfl).1);have am:Hid (∀q c w',q<4->bW 3 w0.heap.size (.slice pk mk ck) mk (dH y.1.kids) #[kid] gn (n*9+8) W0 q c w'->SA w'):=hid (λq c w' Z hp=>by
   rw[<-ak];have dh:=lI.out q c w' hp;by_cases hq3:q<3
   .obtain⟨h1,h2⟩:=lj.out.seenK HY.out.1 dh hq3;rw[HM.out.2] at h1;refine⟨h1,?_,(h2 n y 8 _ HY.out.1 a_ rfl).2,(h2 n y 3 _ HY.out.1 a_ rfl).2⟩;have:=(h2 kid yk 3 _ HY.out.2.2.1 a_ rfl).1;rw[HY.out.2.2.2,gi.out.2.2.1] at this;exact this
   .obtain rfl:q=3:=a_;obtain⟨kv,dJ⟩:=lj.out.kidA HY.out.1 dh;have iZ:(z.set n ({ y.1 with kids:=y.1.kids++ [kid] },kv))[n]?=some ({ y.1 with kids:=y.1.kids++ [kid] },kv):=(by rw[List.getElem?_set_self (aW.1 HY.out.1).1]);have lz:(z.set n ({ y.1 with kids:=y.1.kids++ [kid] },kv))[kid]?=some yk:=by rw[List.getElem?_set_ne cM];exact HY.out.2.2.1
    have h1:=dJ.cells.1.2.2.2.1;rw[List.length_set,HM.out.2] at h1;refine⟨h1,?_,(dJ.nod.at_ iZ 8 a_ rfl).2,(dJ.nod.at_ iZ 3 a_ rfl).2⟩;have:=(dJ.nod.at_ lz 3 a_ rfl).1;rw[HY.out.2.2.2,gi.out.2.2.1] at this;exact this)
  clear jK bx;refine iV [31,32,33,34,35,36,37,38,39,40,41,42,43,44,45,46,47,48,49,50,51] [19,22] [7,8,19,22] 1000000 (λ_ _=>True) 89 [(gn,n*9),(gn,n*9),(gn,n*9),(gn,n*9),(gn,n*9+8), .slice pk mk ck,kid,undef,undef,some P,some P,(P,3),(gn,m,cn),kid,(gn,kid*9),(gn,kid*9+3),til,(gn,n*9),(gn,n*9+8),undef,(gn,n*9),(gn,n*9+3)] SA (Cn w0.heap.size (.slice pk mk ck) mk (dH y.1.kids) #[kid] gn n til W0) [5,7,8,19,22,0,1,2,3,4,6,9,10,11,13,14,15,17,18,20,21,12,16] L_ i_ ?_ ?_
 |obtain⟨SA,ak⟩: ∃S:World->Prop,(λw'=>w'.cell? (P,3)=some (.slice (some ⟨gn,0,none⟩) m cn)/\w'.cell? (gn,nn*9+8)=some (.slice pk mk ck)/\w'.frozen? ⟨gn,nn*9+8,none⟩=false)=S:=⟨_,rfl⟩;have lI:Hid (∀q c w',bW 3 w0.heap.size (.slice pk mk ck) mk (dH y.1.kids) #[kid] gn (nn*9+8) W0 q c w'->bW 3 w0.heap.size y.2 y.1.kids.length (dH y.1.kids) #[kid] gn (nn*9+8) W0 q c w'):=hid (λq c w' hp=>by rw[js.out.1,js.out.2];exact hp);have am:Hid (∀q c w',q<3->bW 3 w0.heap.size (.slice pk mk ck) mk (dH y.1.kids) #[kid] gn (nn*9+8) W0 q c w'->SA w'):=hid (λq c w' Z hp=>by rw[<-ak];obtain⟨h1,h2⟩:=lj.out.seenK HY.out.1 (lI.out q c w' hp) Z;rw[rj.out.2] at h1;have h3:=h2 nn y 8 y.2 HY.out.1 a_ rfl;rw[js.out.1,js.out.2] at h3;exact⟨h1,h3.1,h3.2⟩);clear jK bx;refine iV [133,134,135,136,137,138,139,140,141,142,143,144,145,146,147,148,149,150] [18] [14,15,18] 1000000 (λ_ _=>True) 207 [some P,some P,(P,3),(gn,m,cn),nn,some P,some P,(P,3),(gn,m,cn),nn,(gn,nn*9),(gn,nn*9+8), .slice pk mk ck,kid,undef,undef,(gn,nn*9),(gn,nn*9+8)] SA (bW 3 w0.heap.size (.slice pk mk ck) mk (dH y.1.kids) #[kid] gn (nn*9+8) W0) [14,15,18,0,1,2,4,5,6,7,9,11,13,17,3,8,10,12,16] L_ i_ ?_ ?_
 .intro d a w' iq o' hO ho hi F aa G R' I;first|have _:=RM;have Z:=dW aa [(0,some P),(12,kid),(14,(gn,n*9))] rfl rfl;have hc:=G.all [(0,31),(1,32),(2,33),(3,34),(4,35),(5,36),(6,37),(9,40),(10,41),(11,42),(12,43),(13,44),(14,45),(15,46),(16,47),(17,48),(18,49),(20,50),(21,51)] b_|have Z:=dW aa [(0,some P),(13,nn),(18,kid)] rfl rfl;have hc:=G.all [(0,133),(1,134),(2,135),(3,136),(4,137),(5,138),(6,139),(7,140),(8,141),(9,142),(10,143),(11,144),(12,145),(13,146),(16,149),(17,150)] b_
  dsimp only[dS,dM,lk] at Z hc;clear aa;have ha:=F;have aj:=ho
  repeat' rcases hO with _ | ⟨_,hO⟩
  all_goals (simp only[cR,cP,bY,cC] at ho;subst ho;try simp[Region.binds] at F)
  first
  |have _:=RM
   .have AH:=G.gg 4 35 c_;obtain⟨kq,qo,wM,Bj⟩:=G.ph;have nP:kq<3:=by
     apply Classical.byContradiction;intro hge;have h1:=(wM 2 19 rfl).2 a_;have h2:=G.clo.reach 23 19 5 d' h1;rw[hi] at h2;cases h2
    have A9:=tN.out kq _ _ nP (Cn.lt3 nP Bj);exact ah
  |skip
  .first|have _:=RM;have u6:=G.gg 6 37 c_|have c146:=G.gg 13 146 c_
   have ae:=G.at2 (j:=0) rfl hi (.inl rfl);have hA:aA W0 w':=ae;go_simp;exact I _ _ (G.ef 0 aj ha hi (.inl rfl) (λ_ _ _=>trivial) (λ_=>am.out 1 _ _ b_ ⟨w',hA,rfl,rfl⟩) ⟨w',hA,rfl,rfl⟩)
  first
  |have _:=RM
   .have na:=G.gg 5 36 c_;have ad:d 7=true:=c_;have ae:=G.at2 (j:=1) rfl hi (.inr ⟨7,rfl,ad⟩);have gb:a.tmps.getD 36 undef= .slice pk mk ck:=by rw[aN];exact na
    exact bW.app rfl (.tmp 36) (.tmp 38) 43 rfl underlying43 du ds ee ei rfl b_ rfl (Oz kid) cT.out a_ b_ da.out ae gb rfl (λv' w2 hp=>I _ _ (G.ef 1 aj ha hi (.inr ⟨7,rfl,ad⟩) (λ_ _ _=>trivial) (λ_=>am.out 2 _ _ b_ hp) hp))
   .have BX:=G.gg 18 49 c_;have ad:d 8=true:=c_;have ae:=G.at2 (j:=2) rfl hi (.inr ⟨8,rfl,ad⟩);have ab:=G.st (G.lastNot (f:=23) (i:=19) d' hi);rw[<-ak] at ab;obtain⟨p3,q3,f8,f3⟩:=ab;have dC:bW 3 w0.heap.size (.slice pk mk ck) mk (dH y.1.kids) #[kid] gn (n*9+8) W0 2 (a.tmps.getD 39 undef) w':=ae;obtain⟨gz,cz,hz⟩:=dC.form;rw[hz] at dC;have uA:a.tmps[39]?.getD undef= .slice (some ⟨gz,0,none⟩) (mk+1) cz:=by rw[<-aN];exact hz
    have A9:=tN.out 2 _ _ b_ dC;go_simp;exact I undef _ (G.ef 2 aj ha hi (.inr ⟨8,rfl,ad⟩) (λ_ _ _=>trivial) (λ_=>am.out 3 undef _ b_ ⟨_,_,dC,rfl⟩) ⟨_,_,dC,rfl⟩)
   .have wq:=G.gg 16 47 c_;have BR:=G.gg 21 51 c_;have ad:d 19=true:=by first | simp[F];done | exact ha ⟨_,_⟩ e_ rfl | exact G.clo.reach 23 16 19 d' c_
    have ae:=G.at2 (j:=3) rfl hi (.inr ⟨19,rfl,ad⟩);have ab:=G.st hi;rw[<-ak] at ab;obtain⟨p3,q3,f8,f3⟩:=ab;have k3:=ot.out undef _ ae;go_simp;exact I undef _ (G.ef 3 aj ha hi (.inr ⟨19,rfl,ad⟩) (λ_ _ _=>trivial) (λh=>absurd rfl h) ⟨undef,_,ae,rfl⟩)
   iterate 16 (go_simp;exact I _ _ (G.pu aj ha))
  |.have yh:=G.gg 12 145 c_
    have ad:d 14=true:=c_;have ae:=G.at2 (j:=1) rfl hi (.inr ⟨14,rfl,ad⟩);have gb:a.tmps.getD 145 undef= .slice pk mk ck:=by rw[aN];exact yh
    exact bW.app rfl (.tmp 145) (.tmp 147) 43 rfl underlying43 du ds ee ei rfl b_ rfl (Oz kid) cT.out a_ b_ da.out ae gb rfl (λv' w2 hp=>I _ _ (G.ef 1 aj ha hi (.inr ⟨14,rfl,ad⟩) (λ_ _ _=>trivial) (λ_=>am.out 2 _ _ b_ hp) hp))
   .have c150:=G.gg 17 150 c_;have ad:d 15=true:=c_;have ae:=G.at2 (j:=2) rfl hi (.inr ⟨15,rfl,ad⟩);have ab:=G.st hi;rw[<-ak] at ab;obtain⟨p3,q3,f8⟩:=ab;have dC:bW 3 w0.heap.size (.slice pk mk ck) mk (dH y.1.kids) #[kid] gn (nn*9+8) W0 2 (a.tmps.getD 148 undef) w':=ae;obtain⟨gz,cz,hz⟩:=dC.form;rw[hz] at dC;have c148:a.tmps[148]?.getD undef= .slice (some ⟨gz,0,none⟩) (mk+1) cz:=by rw[<-aN];exact hz
    go_simp;exact I undef _ (G.ef 2 aj ha hi (.inr ⟨15,rfl,ad⟩) (λ_ _ _=>trivial) (λh=>absurd rfl h) ⟨_,_,dC,rfl⟩)
   iterate 11 (go_simp;exact I _ _ (G.pu aj ha))
  all_goals
   have ab:=G.ea hi;rw[<-ak] at ab;first|have _:=RM;obtain⟨p3,q3,f8,f3⟩:=ab|obtain⟨p3,q3,f8⟩:=ab
   exact ah
 first
 |have _:=RM;intro v wz bf fV;obtain⟨c3,w3,bE,qR⟩:=(show ∃c3 w3,bW 3 w0.heap.size (.slice pk mk ck) mk (dH y.1.kids) #[kid] gn (n*9+8) W0 3 c3 w3/\wz=w3.setCell ⟨gn,n*9+3,none⟩ (.int .i64 (til:Int)) from fV);obtain⟨kv,dJ⟩:=lj.out.kidA HY.out.1 (lI.out 3 c3 w3 bE);have iZ:(z.set n ({ y.1 with kids:=y.1.kids++ [kid] },kv))[n]?=some ({ y.1 with kids:=y.1.kids++ [kid] },kv):=by rw[List.getElem?_set_self (aW.1 HY.out.1).1]
  have dr:=dJ.til iZ til;rw[<-qR] at dr;obtain⟨z4,i7⟩:=exQ<|(z.set n ({ y.1 with kids:=y.1.kids++ [kid] },kv)).set n ({ ({ y.1 with kids:=y.1.kids++ [kid] }:aV) with til:=til },kv);rw[i7] at dr;have ki:z4.map (·.1)=iC n kid s2.nodes:=by
   rw[<-i7,List.set_set,List.map_set,HM.out.1];unfold iC;rw[vF _ n _ x gi.out.1,HY.out.2.1];rw[wP gi.out.2.1,gi.out.2.2.1]
  have iW:z4.length=m:=by rw[<-i7,List.length_set,List.length_set];exact HM.out.2
  have rE:z4[n]?=some ({ ({ y.1 with kids:=y.1.kids++ [kid] }:aV) with til:=til },kv):=by
   rw[<-i7,List.getElem?_set_self (by rw[List.length_set];exact(aW.1 HY.out.1).1)]
  rw[iW] at dr;have vk:=hid (aK ki (aK iW rE));have su:=hid dr;have p6: ∀(w':World) (ls:List aS),iL YP Pr' w0 P txt sp ls z4 (.slice (some ⟨gn,0,none⟩) m cn) s2.total 0 0 w'->w'.cell? (gn,n*9+3)=some (.int .i64 (til:Int))/\w'.cell? (gn,n*9+1)=some (.int .i64 ind):=λw' ls hj=>by
   obtain⟨xR,rJ,A5⟩:=hj;have jf:=A5.nod;rw[<-iW] at jf;have h1:=(jf.at_ rE 3 a_ rfl).1;have h2:=(jf.at_ rE 1 a_ rfl).1;refine⟨h1,?_⟩;rw[show ({ ({ y.1 with kids:=y.1.kids++ [kid] }:aV) with til:=til }:aV).ind=ind from by show y.1.ind=ind;rw[HY.out.2.1];exact gi.out.2.2.2] at h2;exact h2
  have zH:=hid p6;have uN:iL YP Pr' w0 P txt sp s2.lines z4 (.slice (some ⟨gn,0,none⟩) m cn) s2.total 0 0 wz:=⟨_,_,dr⟩;have cc:=hid uN;obtain⟨k3,k1⟩:=p6 wz _ uN;have tm:=dr.lt;have CN:Hid (∀w',iL YP Pr' w0 P txt sp s2.lines z4 (.slice (some ⟨gn,0,none⟩) m cn) s2.total 0 0 w'->Calls prog 42 #[some P,til] w' (Fz YP Pr' w0 P txt sp ⟨s2.lines,iC n kid s2.nodes,s2.total⟩ z4 (.slice (some ⟨gn,0,none⟩) m cn) N)):=hid (λw' hj=>by have:=Nl (st:=⟨s2.lines,iC n kid s2.nodes,s2.total⟩) til w' hj ki HG.out.1.2 HG.out.2.1 hs hns hV;simp only[HN.out] at this;exact this);clear bf fV bE dJ iZ dr i7 ki iW rE p6 uN qR am ak
 |intro v wy bf cw;obtain⟨kv,dJ⟩:=lj.out.kidA HY.out.1 (lI.out 3 _ wy cw);have iZ:(z.set nn ({ y.1 with kids:=y.1.kids++ [kid] },kv))[nn]?=some ({ y.1 with kids:=y.1.kids++ [kid] },kv):=by rw[List.getElem?_set_self (aW.1 HY.out.1).1]
  have lz:(z.set nn ({ y.1 with kids:=y.1.kids++ [kid] },kv))[kid]?=some yk:=by rw[List.getElem?_set_ne cM];exact HY.out.2.2.1
  have qF:=dJ.keep (aD _ wy).drew;clear bf cw al am lI ak;simp only[cU,cY,cQ,cZ];go_upto_region 22 with fail;obtain⟨W4,cH⟩:=exQ<|wy.drew;rw[cH] at qF;have ot:=hid qF;obtain⟨SB,dN⟩: ∃S:World->Prop,(λw'=>w'.cell? (P,3)=some (.slice (some ⟨gn,0,none⟩) m cn)/\w'.cell? (gn,kid*9+3)=some (.int .i64 (til:Int))/\w'.cell? (gn,nn*9+3)=some (.int .i64 (y.1.til:Int))/\w'.frozen? ⟨gn,nn*9+3,none⟩=false)=S:=⟨_,rfl⟩;have cW:Hid (∀w',aA W4 w'->SB w'):=hid (λw' hb=>by rw[<-dN];have hk:=ot.out.keep hb;have h1:=hk.cells.1.2.2.2.1;rw[List.length_set,rj.out.2] at h1;have h2:=(hk.nod.at_ lz 3 a_ rfl).1;rw[HY.out.2.2.2,gi.out.2.2.1] at h2;exact⟨h1,h2,(hk.nod.at_ iZ 3 a_ rfl).1,(hk.nod.at_ iZ 3 a_ rfl).2⟩);have vm:=hid (aK iZ lz);clear dJ qF iZ lz cT da;refine iV [151,152,153,154,155,156,157,158,159,160,161,162,163,164,165] [15] [15] 1000000 (λ_ _=>True) 207 [some P,some P,(P,3),(gn,m,cn),nn,some P,some P,(P,3),(gn,m,cn),kid,(gn,kid*9),(gn,kid*9+3),til,(gn,nn*9),(gn,nn*9+3)] SB (PhS W4 ⟨gn,nn*9+3,none⟩ (.int .i64 (til:Int))) [15,0,1,2,4,5,6,7,9,11,14,3,8,10,12,13] (by rw[cH];exact cW.out _ (aD _ _)) (by rw[cH];exact aD _ _) ?_ ?_
  .intro d a w' iq o' hO ho hi F aa G R' I;have Z:=dW aa [(0,some P),(13,nn),(18,kid)] rfl rfl;have hc:=G.all [(0,151),(1,152),(2,153),(3,154),(4,155),(5,156),(6,157),(7,158),(8,159),(9,160),(10,161),(11,162),(12,163),(13,164),(14,165)] b_;dsimp only[dS,dM,lk] at Z hc;clear aa;have ha:=F;have aj:=ho
   repeat' rcases hO with _ | ⟨_,hO⟩
   all_goals (simp only[cR,cP,bY,cC] at ho;subst ho;try simp[Region.binds] at F)
   .have c163:=G.gg 12 163 c_;have c165:=G.gg 14 165 c_;have ae:=G.at2 (j:=0) rfl hi (.inl rfl);have hA:aA W4 w':=ae;have ab:=cW.out _ hA;rw[<-dN] at ab;obtain⟨p3,q3,k0,f3⟩:=ab;go_simp;exact I undef _ (G.ef 0 aj ha hi (.inl rfl) (λ_ _ _=>trivial) (λh=>absurd rfl h) ⟨_,hA,rfl⟩)
   iterate 10 (go_simp;exact I _ _ (G.pu aj ha))
   all_goals
    have ab:=G.ea hi;rw[<-dN] at ab;obtain⟨p3,q3,k0,f3⟩:=ab;exact ah
  intro v4 wz bf fV;obtain⟨w3,cj,qR⟩:=(show ∃w3,aA W4 w3/\wz=w3.setCell ⟨gn,nn*9+3,none⟩ (.int .i64 (til:Int)) from fV);have dr:=(ot.out.keep cj).til vm.out.1 til;rw[<-qR] at dr;obtain⟨z4,i7⟩:=exQ<|(z.set nn ({ y.1 with kids:=y.1.kids++ [kid] },kv)).set nn ({ ({ y.1 with kids:=y.1.kids++ [kid] }:aV) with til:=til },kv);rw[i7] at dr;have ki:z4.map (·.1)=iC nn kid s2.nodes:=by
   rw[<-i7,List.set_set,List.map_set,rj.out.1];unfold iC;rw[vF _ nn _ x gi.out.1,HY.out.2.1];rw[wP gi.out.2.1,gi.out.2.2.1]
  have iW:z4.length=m:=by rw[<-i7,List.length_set,List.length_set];exact rj.out.2
  have tb:z4[kid]?=some yk:=by rw[<-i7,List.getElem?_set_ne cM];exact vm.out.2
  rw[iW] at dr;have c3:=dr.cells.1.2.2.2.1;have jf:=dr.nod;rw[<-iW] at jf;have k3:=(jf.at_ tb 3 a_ rfl).1;rw[HY.out.2.2.2,gi.out.2.2.1] at k3;have zp:=dr.lt;have cc:=hid (show YJ YQ Pr' w0 P txt sp ⟨s2.lines,iC nn kid s2.nodes,s2.total⟩ 0 0 wz from ⟨z4,_,_,_,ki,dr⟩);have CN:Hid (∀w',YJ YQ Pr' w0 P txt sp ⟨s2.lines,iC nn kid s2.nodes,s2.total⟩ 0 0 w'->Calls prog 20 #[some P,til] w' (sF YQ Pr' w0 P txt sp ⟨s2.lines,iC nn kid s2.nodes,s2.total⟩ N)):=hid (λw' hj=>by have:=Cc (st:=⟨s2.lines,iC nn kid s2.nodes,s2.total⟩) til w' hj HG.out.1.2 HG.out.2.1 hs hn;simp only[HN.out.1] at this;exact this);clear bf fV cj qR dr i7 ki iW tb jf vm cW dN ot cH lj HK js tm yP
 simp only[cU,cY,cQ,cZ];first|have _:=RO;have vN:=HN.out.1;rw[<-HN.out.2] at vN;have rz:=hid vN;clear vN|skip
 cases N with
 | bad a er=>
  first|have _:=RM;have cf:Hid (OR.bad a er=R):=hid HR.out|have h:=eG.out;rw[aCi fa.out rz.out] at h;have cf:Hid (YR.bad a er=R):=hid h;clear h
  go_wp2_with fail;refine(CN.out _ g_).mono ?_;rintro e w5 ⟨⟨mm,rfl⟩,ar⟩;have HF:=hid (ar.less nU.out)
  first
  |have _:=RM;clear ar k3 k1;go_upto_region 7 with fail;obtain⟨W3,a6⟩:=exQ<|w5.drew;refine mZ [61,62,63,64,65,66,67,68,69,70,71,72,73,74,75,76,77,78,79,80,81] 89 [false,false,undef,undef,undef,false,false,undef,undef,undef,undef,undef,undef,undef,undef,undef,undef,undef,undef,undef,false] (λw'=>aA W3 w') [0,1,5,6,20,2,3,4,7,8,9,10,11,12,13,14,15,16,17,18,19] u' ?_ ?_
   .intro d a w' iq o' hO ho hi F aa G R' I;have Z:=dW aa [(0,some P),(13,false),(14,(gn,n*9)),(15,mm)] rfl rfl;have hc:=G.all [(0,61),(1,62),(4,65),(5,66),(6,67),(19,80)] b_;dsimp only[dS,dM,lk] at Z hc;clear aa
    repeat' rcases hO with _ | ⟨_,hO⟩
    all_goals (simp only[cR,cP,bY,cC] at ho;subst ho;try simp[Region.binds] at F)
    iterate 5 (refine jD ?_;go_simp;exact I _ _ G.sp)
    iterate 16 exact G.sk I (hd:=by simp[F])
   intro wz hS;simp only[iU,cY,cQ,cZ];have Bq:=hid ((HF.out.keep (show aA w5 W3 from by rw[<-a6];exact(aD _ _).drew)).keep hS);clear hS
  |clear ar k3 c3
  go_wp2;go_ret2;rw[<-cf.out];first|have _:=RM;exact⟨⟨_,rfl⟩,Bq.out⟩|exact ai
 | ok nx ls=>
  first
  |have _:=RM;have br:=(show sB txt sp til s2.lines nx ls from gW.out);have I:=HR.out;simp only[] at I;have lU:=hid I;have tZ:(0:Int)<=(nx:Int):=a_;clear I br
  |go_upto_region 23 with fail
  go_wp2_with fail;refine aH (CN.out _ g_) λw5 ih=>?_
  first
  |have _:=RM;have dA:=hid ih;clear ih k3 k1;go_upto_region 7 with fail;obtain⟨W3,a6⟩:=exQ<|w5.drew;have cg:=dA.out.keep (aD _ w5).drew;rw[a6] at cg;have bT:=hid cg;have gI:Hid (∀w',aA W3 w'->Calls prog 43 #[some P,nx] w' (aT w' (.bool (decide (nx<sp.length))))):=hid (λw' hb=>wR nx w' ((bT.out.keep hb).toJ vk.out.1));clear cg;by_cases bc:nx<sp.length;rotate_left
   .have I:=lU.out;rw[if_neg (λe=>bc e.1)] at I;have cf:=hid I;have CT:Hid (∀w',aA W3 w'->Calls prog 43 #[some P,nx] w' (aT w' (.bool false))):=hid (λw' hb=>by have:=gI.out w' hb;rw[aJ bc] at this;exact this);clear I bc gI;refine mZ [61,62,63,64,65,66,67,68,69,70,71,72,73,74,75,76,77,78,79,80,81] 89 [true,true,some P,nx,false,false,false,undef,undef,undef,undef,undef,undef,undef,undef,undef,undef,undef,undef,undef,false] (λw'=>aA W3 w') [4,0,1,5,6,20,2,3,7,8,9,10,11,12,13,14,15,16,17,18,19] u' ?_ ?_
    .intro d a w' iq o' hO ho hi F aa G R' I;have Z:=dW aa [(0,some P),(13,true),(14,(gn,n*9)),(15,nx)] rfl rfl;have hc:=G.all [(0,61),(1,62),(2,63),(3,64),(4,65),(5,66),(6,67),(19,80)] b_;dsimp only[dS,dM,lk] at Z hc;clear aa
     repeat' rcases hO with _ | ⟨_,hO⟩
     all_goals (simp only[cR,cP,bY,cC] at ho;subst ho;try simp[Region.binds] at F)
     .exact GC
     iterate 5 (refine jD ?_;go_simp;exact I _ _ G.sp)
     iterate 2 (refine G.on ?_ (hd:=by simp[F]);go_simp;exact I _ _ G.sp)
     iterate 13 exact G.sk I (hd:=by simp[F])
    intro wz hS;simp only[iU,cY,cQ,cZ];have hI:=hid ((bT.out.keep hS).toJ vk.out.1);clear hS;exact ne
  |have dA:Hid (YJ YQ Pr' w0 P txt sp ⟨ls,iC nn kid s2.nodes,s2.total⟩ 0 0 w5):=hid ih;have xO:Hid (fW txt sp V mp nn r.ind had kk sr= .ok nx ⟨ls,iC nn kid s2.nodes,s2.total⟩ ge->nx<=sp.length/\kk<nx/\Hid (Gx w0 P txt sp V mp Pr nn r.ind r.kind R nx (.slice p2 n2 c9) w5)):=hid (λhe=>by have h:=eG.out;rw[he] at h;obtain⟨⟨x2,t1,t2,t3⟩,t4,t5,t6,t7,t8,t9⟩:=Cb hsp0 zr.out kC.out bw.out.2.1 HX.out.1 he;exact⟨t7,t8,hid ⟨f1,ge,eJ,_,h,dA.out.less nU.out,vM.out _ _ _ _ dA.out,tf.out,uP.out,by have:=qw.out;omega,t6,t9,by have:=zv.out;omega,x2,t1,t2.trans HX.out.2.1,by rw[t3];have:=HX.out.2.2;omega⟩⟩);obtain⟨z7,sv7,lv7,nv7,Ai,mg⟩:=ih;obtain⟨ps7,cs7,rfl⟩:=mg.spSlice;have c1:=mg.cells.1.2.1;have hPl7:=mg.lt;have tZ:(0:Int)<=(nx:Int):=a_;clear k3 c3 zp;by_cases hltn:nx<sp.length;rotate_left
   .have d7:decide ((nx:Int)<(sp.length:Int))=false:=aJ a_;have AE:decide (nx<sp.length)=false:=aJ hltn;obtain⟨h7,h8,rH⟩:=xO.out (Pe fa.out rz.out (λe=>hltn e.1));clear mg Ai hltn d1 j3;exact my
  .first|have _:=RM;obtain⟨cO,gK⟩:=gW.out.hit bc;have CT:Hid (∀w',aA W3 w'->Calls prog 43 #[some P,nx] w' (aT w' (.bool true))):=hid (λw' hb=>by have:=gI.out w' hb;rw[aQ bc] at this;exact this)|have d7:decide ((nx:Int)<(sp.length:Int))=true:=aQ a_;have AE:decide (nx<sp.length)=true:=aQ hltn;obtain⟨qH,uO⟩:=gW.out.hit hltn;have tq:=kO (show nx<ls.length by omega);obtain⟨g7,cz7,e9,_,mV⟩:=mg.lineAt tq;subst e9;have uu:=mg.cells.1.2.2.1
   obtain⟨i2,fs⟩:=exQ<|(aU ls nx).ind
   first
   |have _:=RM;obtain⟨bb,fn⟩:=exQ<|decide (ind<i2)
    obtain⟨m2,eJ⟩:=exQ<|ls.length;obtain⟨xP,vJ,gv⟩:=bT.out;have cL:=kO (show nx<ls.length by omega);obtain⟨g2,dD,e9,_,L⟩:=gv.lineAt cL;subst e9;have iH:Hid (∀w',aA W3 w'->w'.cell? (P,2)=some (.slice (some ⟨g2,0,none⟩) m2 dD)/\w'.cell? (g2,nx*10+3)=some (.int .i64 i2)/\w'.cell? (gn,n*9+1)=some (.int .i64 ind)):=hid (λw' hb=>by have bd:=gv.keep hb;obtain⟨⟨_,_,c2,_⟩,_⟩:=bd.cells;obtain⟨g3,sL,e3,_,ej⟩:=bd.lineAt cL;have e4:=(Value.slice.inj e3).1;injection e4 with e4;injection e4 with e4;subst e4;have h3:=ej 3 _ a_ rfl;rw[fs] at h3;simp only[eJ] at c2;exact⟨c2,h3,(zH.out w' ls ⟨_,_,bd⟩).2⟩);have uf:(nx:Int)<(m2:Int):=a_
   |obtain⟨bb,fn⟩:=exQ<|decide (r.ind<i2)
    obtain⟨m7,nY⟩:=exQ<|ls.length;have h3:=mV 3 _ a_ rfl;rw[fs] at h3;simp only[nY] at uu;have uf:(nx:Int)<(m7:Int):=a_
   have jt:=hid (aK fs fn)
   first
   |have _:=RM;have lE:=hid bc;have gc:=hid (aK cO (gW.out.ok.2 nx a_));clear gv L cL eJ fs cO gK gI bc;refine mZ [61,62,63,64,65,66,67,68,69,70,71,72,73,74,75,76,77,78,79,80,81] 89 [true,true,some P,nx,true,true,true,some P,some P,(P,2),(g2,m2,dD),nx,(g2,nx*10),(g2,nx*10+3),i2,(gn,n*9),(gn,n*9),(gn,n*9+1),ind,bb,bb] (λw'=>aA W3 w') [4,0,1,5,6,20,2,3,7,8,9,10,11,12,13,14,15,16,17,18,19] u' ?_ ?_
    .intro d a w' iq o' hO ho hi F aa G R' I;have Z:=dW aa [(0,some P),(13,true),(14,(gn,n*9)),(15,nx)] rfl rfl;have hc:=G.all [(0,61),(1,62),(2,63),(3,64),(4,65),(5,66),(6,67),(7,68),(8,69),(9,70),(10,71),(11,72),(12,73),(13,74),(14,75),(15,76),(16,77),(17,78),(18,79),(19,80)] b_;dsimp only[dS,dM,lk] at Z hc;clear aa;obtain⟨p2,l3,x3⟩:=iH.out _ G.st
     repeat' rcases hO with _ | ⟨_,hO⟩
     all_goals (simp only[cR,cP,bY,cC] at ho;subst ho;try simp[Region.binds] at F)
     .exact GC
     iterate 5 (refine jD ?_;go_simp;exact I _ _ G.sp)
     iterate 15 (refine G.on ?_ (hd:=by simp[F]);go_simp;exact I _ _ G.sp)
    intro wz hS;simp only[iU,cY,cQ,cZ];have hI:=hid ((bT.out.keep hS).toJ vk.out.1);clear hS;have fn:=jt.out.2;have I:=lU.out;rw[jt.out.1] at I
   |have gc:=hid (aK qH (aK hltn (gW.out.ok.2 nx a_)));clear mg Ai mV tq nY fs qH uO hltn d1 j3;go_upto_if 199 with fail
   cases bb with
   | false=>
    first|have _:=RM;rw[if_neg (λe=>of_decide_eq_false fn e.2)] at I;have cf:=hid I;clear I fn;exact ne|obtain⟨h7,h8,rH⟩:=xO.out (Pe fa.out rz.out (λe=>of_decide_eq_false jt.out.2 (by have:=e.2;rw[jt.out.1] at this;exact this)));exact my
   | true=>
    first
    |have _:=RM;rw[if_pos ⟨lE.out,of_decide_eq_true fn⟩] at I;have cf:=hid I;have CB:=hid (λw' hj=>Gt (Pr:=Pr') (w0:=w0) (P:=P) (txt:=txt) (sp:=sp) (st:=⟨ls,iC n kid s2.nodes,s2.total⟩) (a0:=0) (e0:=0) nx w' hj lE.out (by have:=gc.out.1;simp only[];omega) gc.out.2 hs)
    |have h:=eG.out;rw[aCj fa.out rz.out ⟨gc.out.2.1,by rw[jt.out.1];exact of_decide_eq_true jt.out.2⟩,jt.out.1] at h;have cf:=hid h;have CB:=hid (λw' hj=>Gc (Pr:=Pr') (w0:=w0) (P:=P) (txt:=txt) (sp:=sp) (st:=⟨ls,iC nn kid s2.nodes,s2.total⟩) (a0:=0) (e0:=0) nx w' hj gc.out.2.1 (by have:=gc.out.1;simp only[];omega) gc.out.2.2 hs)
    simp only[jt.out.1] at CB
    first
    |have _:=RM;have CF:=hid (λa w' hj=>qV (Pr:=Pr') (w0:=w0) (P:=P) (txt:=txt) (sp:=sp) (st:=⟨ls,iC n kid s2.nodes,s2.total⟩) (a0:=0) (e0:=0) a 2 w' hj);clear I fn;go_wp2_with fail;refine aH (CB.out _ GH) λw7 dm=>?_;have fq:=hid (hI.out.keep EV)
    |have CF:=hid (λa w' hj=>tV (Pr:=Pr') (w0:=w0) (P:=P) (txt:=txt) (sp:=sp) (st:=⟨ls,iC nn kid s2.nodes,s2.total⟩) (a0:=0) (e0:=0) a 2 w' hj);clear h uu h3 fn;go_wp2_with fail;refine aH (CB.out _ GM) λw7 dm=>?_;have fq:=hid (dA.out.keep EV)
    clear dm;go_wp2_with fail;refine aH (CF.out _ _ EA) λw8 dZ=>?_;have HF:=hid (dZ.less nU.out).bad;clear dZ;exact ay):P:=h
theorem GN(h:P:=by
 have sl:=aP l;have df:T.length=y-x:=by rw[<-hTd,bR,bC];omega
 have hex:(bs l).extract x y=bs T:=by rw[gO,aY,hTd]
 have CG:=hid (λw=>wU T true w a_);have sT:=aP T;have iV:T.length<=1073741824:=a_
 have hxT:x+T.length<=1073741824:=a_
 have HTl:=hid df;obtain⟨wr,eG⟩:=exQ<|dI true T;have hwb:wr<=T.length:=by have:=(tM true T.length T 0).2;unfold dI at eG;omega
 first
 |first|have _:=KU|have _:=KV|have _:=KW|have _:=KX|have _:=KY
  rw[eG] at CG hR hC2
 |rw[eG] at CG hR
 obtain⟨n,hn⟩:=exQ<|bB T;have ec:=jU T;have cX:=pA T;have N:=pB T
 first
 |first|have _:=KX|have _:=KY
  rw[hn] at ec cX N hR hC3 hC4 hC5
 |have _:=KW;rw[hn] at ec cX N hR hC3 hC4
 |have _:=KV;rw[hn] at ec cX N hR hC3
 |rw[hn] at ec cX N hR
 have HR:=hid hR;have ex:=hid (aK cX (aK N hn));have d1:decide ((x:Int)<0)=false:=aJ a_;have d2:decide (y<x)=false:=aJ a_;have d3:decide (l.length<y)=false:=aJ a_;have hxyi:(x:Int)<=(y:Int):=a_
 have hyli:(y:Int)<=(l.length:Int):=a_
 clear df hTd eG hn cX N hR;go_in;go_upto_region 1 with fail;have co:=hid (cG.start w x y);obtain⟨W1,dS⟩:=exQ ((w.alloc (.cells #[x,y] 42)).alloc (.cells #[(0:Int),(0:Int),(0:Int),(0:Int),(0:Int),(0:Int),(0:Int),(0:Int),(0:Int),(0:Int)] 68));rw[dS] at co ⊢;clear dS;obtain⟨s0,s1⟩:=co.out.s.cells;obtain⟨b0,b1,b2,b3,b4,b5,b6,b7,b8,b9,O,W,G,h3,Q,h5,h6,h7,h8,h9⟩:=co.out.l.cells;go_wp2;go_loop [8] (λs8=> ∃k:Nat,s8= .int .i64 k/\k<=T.length/\Hid (∀j,j<k->T[j]?≠some 10)) (λs8=>T.length-(RowKit.intOf s8).toNat)
 case atStart=>exact⟨0,rfl,a_,hid (λj hj=>by omega)⟩
 case round=>
  obtain⟨k,rfl,hk,HK⟩:=hrel;by_cases ab:k<T.length
  .have au:k<(bs T).size:=a_;have hb:=cT T k au;have T1:=gJ ((bs T)[k]'au) 10 10 rfl;obtain⟨c,hc⟩:=exQ<|(bs T)[k]'au;rw[hc] at T1 hb;have ei:(((bs T)[k]'au).toNat:Int)=(c.toNat:Int):=(by rw[hc]);obtain⟨ci,fP⟩: ∃ci:Int,(c.toNat:Int)=ci:=⟨_,rfl⟩;rw[fP] at T1 ei;by_cases bu:c=10
   first
   |first|have _:=KU|have _:=KV|have _:=KW|have _:=KX|have _:=KY
    .exact absurd (wV (by rw[hb,bu])) (by rw[hC1.out];simp)
   |.have HF:Hid ((bG,(0:Int),(1:Int))=R):=hid (by rw[<-HR.out,if_pos (wV (by rw[hb,bu]))])
     rw[show (c==10)=true from beq_iff_eq.2 bu] at T1;clear bu hb hc fP HK;go_wp2_with fail;obtain⟨WF,aa⟩:=exQ (dJ W1 (w.heap.size+1) bG);have HF:=(cG.put (r2:=bG) co.out);rw[aa] at HF;have an:=hid HF;clear HF;dsimp only[dJ,bG] at aa;rw[aa];clear aa;clear s0 s1 b0 b1 b2 b3 b4 b5 b6 b7 b8 b9 O W G h3 Q h5 h6 h7 h8 h9;obtain⟨c0,c1,c2,c3,c4,c5,c6,c7,c8,c9,_⟩:=an.out.l.cells;go_wp2_with fail;refine bodyPost_ret (v:= .tuple #[eL bG,(0:Int),(1:Int)]) ?_ rfl ⟨by rw[<-HF.out];rfl,an.out.b⟩;exact DV
   .have ip:Hid (∀j,j<k+1->T[j]?≠some 10):=hid (λj hj=>by
     by_cases h:j<k
     .exact HK.out j h
     .obtain rfl:j=k:=a_;rw[hb];simpa using bu)
    rw[show (c==10)=false from aI.2 bu] at T1;clear bu hb hc fP HK;exact mf
  first
  |first|have _:=KU|have _:=KV|have _:=KW|have _:=KX|have _:=KY
   .have bu:T.contains 10=false:=wW (λj hj=>HK.out j a_);have I:Hid ((if wr<T.length then(bG,(x:Int)+wr,2) else lX x y n (gG (T.drop n)):aS×Int×Int)=R):=hid (by have:=HR.out;rw[if_neg (by rw[bu];simp)] at this;exact this);clear bu HK HR;by_cases hw:wr<T.length
    first
    |first|have _:=KV|have _:=KW|have _:=KX|have _:=KY
     .exact absurd hw hC2.out
     .rw [if_neg hw] at I;have dw:decide (wr<T.length)=false:=aJ hw;have ez:(bs T).extract n T.length=bs (T.drop n):=iW T n _ rfl;obtain⟨U,hU⟩:=exQ<|T.drop n;have gu:U.length=T.length-n:=(by rw[<-hU,bC]);have cv:U.head?=T[n]?:=by rw[<-hU,Ca]
      first
      |first|have _:=KX|have _:=KY
       rw[hU] at ez I hC4 hC5
      |have _:=KW;rw[hU] at ez I hC4
      |rw[hU] at ez I
      have wxn:IntKind.i64.wrap ((x:Int)+(n:Int))=(x:Int)+(n:Int):=by rw[IntKind.wrap_i64];omega
      have hxn:(x:Int)+(n:Int)<=1073741824:=a_;have gS:Hid (T=List.replicate n 32++U):=hid (by have:=yG T;rw[ex.out.2.2,hU] at this;exact this);have dD:=hid gu;clear hw hU gu;by_cases hUe:n=T.length
      first
      |first|have _:=KW|have _:=KX|have _:=KY
       .exact absurd hUe hC3.out
      |skip
      .first
       |first|have _:=KW|have _:=KX|have _:=KY
        have hnT:n<T.length:=a_;clear hUe
       |have HC:Hid (gG U=some ⟨1,0,0,0,none⟩):=hid (by have:U= []:=List.length_eq_zero_iff.1 (by have:=dD.out;omega);rw[this];rfl);clear cv ez gS dD;subst hUe
       go_wp2_with (go_at_call 64;(with_reducible refine(CG.out _).mono ?_);rintro e w' ⟨rfl,rfl⟩)
       first
       |first|have _:=KW|have _:=KX|have _:=KY
        clear CG;go_loop [9] (λs9=> ∃k2:Nat,s9= .int .i64 k2/\k2<=n) (λs9=>T.length-(RowKit.intOf s9).toNat)
       |go_loop [9] (λs9=> ∃k2:Nat,s9= .int .i64 k2/\k2<=T.length) (λs9=>T.length-(RowKit.intOf s9).toNat)
       case atStart=>exact⟨0,rfl,a_⟩
       case round=>
        obtain⟨k2,rfl,cq⟩:=hrel
        first
        |first|have _:=KW|have _:=KX|have _:=KY
         by_cases hlt2:k2<n
        |by_cases hlt2:k2<T.length
        .have dv:k2<(bs T).size:=a_;have hb:=cT T k2 dv;rw[ex.out.1 k2 hlt2] at hb;have T2:((((bs T)[k2]'dv).toNat:Int)==32)=true:=by rw[gJ _ 32 32 rfl,<-bA hb];rfl
         clear hb;go_wp2;go_round
         case rel=>exact⟨k2+1,t_,a_⟩
         case measure=>simp[RowKit.intOf];omega
        .first
         |first|have _:=KW|have _:=KX|have _:=KY
          obtain rfl:n=k2:=a_;have ds:n<(bs T).size:=a_;have f7:=cT T n ds;have eH:=nP ((bs T)[n]'ds) 32 32 rfl;have dg:=nP ((bs T)[n]'ds) 35 35 rfl;have bO:=nP ((bs T)[n]'ds) 34 34 rfl;have bW:=nP ((bs T)[n]'ds) 39 39 rfl;rw[<-f7] at eH;rw[<-f7,<-cv] at dg bO bW;rw[show (T[n]?==some 32)=false from aI.2 ex.out.2.1] at eH;obtain⟨cc,gF⟩: ∃cc:Int,(((bs T)[n]'ds).toNat:Int)=cc:=⟨_,rfl⟩;rw[gF] at eH dg bO bW;clear f7 cv
         |obtain rfl:T.length=k2:=a_
         go_upto_region 14 with fail
         first
         |first|have _:=KW|have _:=KX|have _:=KY
          go_cut [10] (λak wx=> ∃X,ak= .pointer (some ⟨X,0,none⟩)/\w.heap.size+2<=X/\Hid (cG w x y bG wx/\bL wx X ⟨1,x,y,n,0,0,0,0,0,0⟩))
         |go_cut [10] (λak wx=> ∃X,ak= .pointer (some ⟨X,0,none⟩)/\w.heap.size+2<=X/\Hid (cG w x y bG wx/\bL wx X ⟨1,x,y,T.length,0,0,0,0,0,0⟩))
         first
         |first|have _:=KV|have _:=KW|have _:=KX
          case first=>exact FW
         |case first=>
           as_aux_lemma=>exact FW
         clear s0 s1 b0 b1 b2 b3 b4 b5 b6 b7 b8 b9 O W G h3 Q h5 h6 h7 h8 h9;obtain⟨X,rfl,hX,HS⟩:=hcut;obtain⟨s0,s1⟩:=HS.out.1.s.cells;obtain⟨a0,a1,a2,a3,a4,a5,a6,a7,a8,a9,g0,g1,g2,g3,g4,g5,g6,g7,g8,g9⟩:=HS.out.2.cells;obtain⟨b0,b1,b2,b3,b4,b5,b6,b7,b8,b9,O,W,G,h3,Q,h5,h6,h7,h8,h9⟩:=HS.out.1.l.cells;go_upto_region 16 with fail
         first
         |first|have _:=KW|have _:=KX|have _:=KY
          go_cut [] (λwx=>Hid (cG w x y bG wx/\bL wx X ⟨1,x,y,n,0,0,x+n,x+n,0,0⟩))
         |go_cut [] (λwx=>Hid (cG w x y bG wx/\bL wx X ⟨1,x,y,T.length,0,0,x+T.length,x+T.length,0,0⟩))
         first
         |first|have _:=KV|have _:=KW|have _:=KX
          case first=>exact FY
         |case first=>
           as_aux_lemma=>exact FY
         clear s0 s1 a0 a1 a2 a3 a4 a5 a6 a7 a8 a9 g0 g1 g2 g3 g4 g5 g6 g7 g8 g9 b0 b1 b2 b3 b4 b5 b6 b7 b8 b9 O W G h3 Q h5 h6 h7 h8 h9;have HS:=hcut;obtain⟨s0,s1⟩:=HS.out.1.s.cells;obtain⟨a0,a1,a2,a3,a4,a5,a6,a7,a8,a9,g0,g1,g2,g3,g4,g5,g6,g7,g8,g9⟩:=HS.out.2.cells;obtain⟨b0,b1,b2,b3,b4,b5,b6,b7,b8,b9,O,W,G,h3,Q,h5,h6,h7,h8,h9⟩:=HS.out.1.l.cells
         first
         |first|have _:=KW|have _:=KX|have _:=KY
          have bJ:U≠ []:=by intro e;have:=dD.out;rw[e] at this;simp at this;omega
          have ai:gG U=if U.head?=some 35 then some ⟨2,0,0,0,some 0⟩ else if(U.head?=some 34\/U.head?=some 39)/\dA U=0 then none else some (tO U (fD U) (cL U (eU (fD U))) (eO U (cL U (eU (fD U))+dA (U.drop (cL U (eU (fD U))))))):=by unfold gG;rw[if_neg bJ]
          have tnT:((n:Int)==(T.length:Int))=false:=aI.2 a_;by_cases h35:U.head?=some 35
         |skip
         first
         |first|have _:=KX|have _:=KY
          .exact absurd h35 hC4.out
          .rw [if_neg h35] at ai;rw[show (U.head?==some 35)=false from aI.2 h35] at dg;have ib:U.length<=1073741824:=by have:=dD.out;omega
           have CQ:=hid (λw=>Bw U w ib);by_cases hbq:(U.head?=some 34\/U.head?=some 39)/\dA U=0
           first
           |have _:=KX
            .rw[if_pos hbq] at ai;have HC:=hid ai;have ej:cc=34\/((cc==34)=false/\cc=39):=by
              by_cases hc34:cc=34
              .exact .inl hc34
              .right;have dM:(cc==34)=false:=aI.2 hc34;refine⟨dM,?_⟩;rcases hbq.1 with h | h
               .rw[dM,h] at bO;cases bO
               .rw[h] at bW;exact beq_iff_eq.1 (by rw[bW];rfl)
             rw[hbq.2] at CQ;clear ai h35 bJ hbq bO bW dg eH;rcases ej with rfl | ⟨dM,rfl⟩
             all_goals
              go_wp2_with fail;(with_reducible refine(CQ.out _).mono ?_);rintro e w3 ⟨rfl,ah⟩;have bi:=hid (aK (HS.out.1.keep ah) (HS.out.2.keep ah));clear ah;clear s0 s1 a0 a1 a2 a3 a4 a5 a6 a7 a8 a9 g0 g1 g2 g3 g4 g5 g6 g7 g8 g9 b0 b1 b2 b3 b4 b5 b6 b7 b8 b9 O W G h3 Q h5 h6 h7 h8 h9;obtain⟨s0,s1⟩:=bi.out.1.s.cells;obtain⟨a0,a1,a2,a3,a4,a5,a6,a7,a8,a9,g0,g1,g2,g3,g4,g5,g6,g7,g8,g9⟩:=bi.out.2.cells;obtain⟨b0,b1,b2,b3,b4,b5,b6,b7,b8,b9,O,W,G,h3,Q,h5,h6,h7,h8,h9⟩:=bi.out.1.l.cells;go_wp2_with fail;obtain⟨WF,aa⟩:=exQ (dJ w3 (w.heap.size+1) bG);have HF:=(cG.put (r2:=bG) bi.out.1);rw[aa] at HF;have an:=hid HF;clear HF;dsimp only[dJ,bG] at aa;rw[aa];clear aa;clear s0 s1 a0 a1 a2 a3 a4 a5 a6 a7 a8 a9 g0 g1 g2 g3 g4 g5 g6 g7 g8 g9 b0 b1 b2 b3 b4 b5 b6 b7 b8 b9 O W G h3 Q h5 h6 h7 h8 h9;obtain⟨c0,c1,c2,c3,c4,c5,c6,c7,c8,c9,_⟩:=an.out.l.cells;go_wp2_with fail;refine bodyPost_ret (v:= .tuple #[eL bG, .int .i64 ((x:Int)+(n:Int)),(2:Int)]) ?_ rfl ⟨by rw[<-I.out,HC.out];rfl,an.out.b⟩;exact DV
            .exact absurd hC5.out hbq
           |.exact absurd hbq hC5.out
            .rw [if_neg hbq] at ai;have HC:=hid ai;have gh:=Eu U hbq;have CH:=hid (λw=>aAi U w bJ ib);have gv:=hid h35;obtain⟨H,hH⟩:=exQ<|fD U;rw[hH] at HC gh CH;obtain⟨ae,aq⟩:=H;unfold Nq at CH;simp only[] at CH;have C:eU (ae,aq)<=U.length/\(ae=3\/ae=4\/ae=5)/\aq<U.length+1:=by
              have hU0:0<U.length:=rS.2 bJ;unfold eU;rcases gh with⟨h,_⟩ | h | ⟨k,h,_,G,_⟩
              all_goals (obtain⟨rfl,rfl⟩:=Prod.mk.inj h)
              .exact⟨by simp;omega,a_,a_⟩
              .exact⟨e_,a_,a_⟩
              .exact⟨by simp;omega,a_,a_⟩
             obtain⟨jW,gM,hF3⟩:=C;have ad:eU (ae,aq)=if ae=3 then 1 else if ae=4 then aq+1 else 0:=rfl;obtain⟨F,gp⟩:=exQ<|eU (ae,aq);have fN:=λr hr=>Bl U T n x y (ae,aq) gv.out gS.out r hr;rw[gp] at HC jW ad fN;have eh: ∀q:Nat,dA U=q->(cc=34/\((q:Int)==0)=false)\/((cc==34)=false/\cc=39/\((q:Int)==0)=false)\/((cc==34)=false/\(cc==39)=false):=by
              rintro q rfl;by_cases hc34:cc=34
              .left;exact⟨hc34,aI.2 (λe=>hbq ⟨.inl (by rw[hc34] at bO;exact beq_iff_eq.1 bO.symm),a_⟩)⟩
              .right;by_cases hc39:cc=39
               .left;exact⟨aI.2 hc34,hc39,aI.2 (λe=>hbq ⟨.inr (by rw[hc39] at bW;exact beq_iff_eq.1 bW.symm),a_⟩)⟩
               .right;exact⟨aI.2 hc34,aI.2 hc39⟩
             obtain⟨q,fR⟩:=exQ<|dA U;have iq:=eh q fR;rw[fR] at CQ;have jm:=hid fN;have iB:=hid ad;have hUTn:n+U.length=T.length:=by have:=dD.out;omega
             have ji:n+F<=T.length:=a_;clear ai h35 hbq bO bW gh hH gp fN eh fR ad bJ;go_upto_region 23 with fail;go_cut [121] (λgX wx=>gX= .bool false/\Hid (cG w x y bG wx/\bL wx X ⟨1,x,y,n,0,0,x+n,x+n,0,0⟩))
             case first=>
              as_aux_lemma=>
               rcases iq with⟨rfl,tq⟩ | ⟨dM,rfl,tq⟩ | ⟨dM,t39⟩
               .exact kl
               .exact kl
               .go_wp2;go_meet;exact⟨rfl,HS.out⟩
             clear s0 s1 a0 a1 a2 a3 a4 a5 a6 a7 a8 a9 g0 g1 g2 g3 g4 g5 g6 g7 g8 g9 b0 b1 b2 b3 b4 b5 b6 b7 b8 b9 O W G h3 Q h5 h6 h7 h8 h9;obtain⟨rfl,HS⟩:=hcut;clear iq CQ;go_wp2_with fail;(with_reducible refine(CH.out _).mono ?_);rintro e w3 ⟨rfl,ah⟩;have bi:=hid (aK (HS.out.1.keep ah) (HS.out.2.keep ah));clear ah HS CH;obtain⟨s0,s1⟩:=bi.out.1.s.cells;obtain⟨a0,a1,a2,a3,a4,a5,a6,a7,a8,a9,g0,g1,g2,g3,g4,g5,g6,g7,g8,g9⟩:=bi.out.2.cells;obtain⟨b0,b1,b2,b3,b4,b5,b6,b7,b8,b9,O,W,G,h3,Q,h5,h6,h7,h8,h9⟩:=bi.out.1.l.cells;go_upto_region 27 with fail;have bX:Hid (cG w x y bG (w3.setCell ⟨X,0,none⟩ (.int .i64 (ae:Int)))/\bL (w3.setCell ⟨X,0,none⟩ (.int .i64 (ae:Int))) X ⟨ae,x,y,n,0,0,x+n,x+n,0,0⟩):=hid ⟨bi.out.1.set hX 0 _,fE bi.out.2 0 _⟩;obtain⟨W4,hQ⟩:=exQ<|w3.setCell ⟨X,0,none⟩ (.int .i64 (ae:Int));rw[hQ] at bX ⊢;clear hQ bi;clear s0 s1 a0 a1 a2 a3 a4 a5 a6 a7 a8 a9 g0 g1 g2 g3 g4 g5 g6 g7 g8 g9 b0 b1 b2 b3 b4 b5 b6 b7 b8 b9 O W G h3 Q h5 h6 h7 h8 h9;obtain⟨s0,s1⟩:=bX.out.1.s.cells;obtain⟨a0,a1,a2,a3,a4,a5,a6,a7,a8,a9,g0,g1,g2,g3,g4,g5,g6,g7,g8,g9⟩:=bX.out.2.cells;obtain⟨b0,b1,b2,b3,b4,b5,b6,b7,b8,b9,O,W,G,h3,Q,h5,h6,h7,h8,h9⟩:=bX.out.1.l.cells;have hkbd:n+aq<=T.length:=a_;have hxk:(x:Int)+(n:Int)+(aq:Int)<=1073741824:=a_;have hnk:(n:Int)+(aq:Int)<=1073741824:=a_;obtain⟨f0,gH⟩:=exQ (if ae=3 then n+1 else n);obtain⟨kf,gA⟩: ∃kf:Int,(if ae=4 then(x:Int)+(n:Int) else 0)=kf:=⟨_,rfl⟩;obtain⟨kt,dp⟩: ∃kt:Int,(if ae=4 then(x:Int)+(n:Int)+(aq:Int) else 0)=kt:=⟨_,rfl⟩;have fl:=hid gH;have eB:=hid (aK gA dp);clear gH gA dp;go_upto_if 135 with fail;go_cut [14] (λbc wx=>bc= .int .i64 (f0:Int)/\W4=wx)
             case first=>
              as_aux_lemma=>
               rcases gM with rfl|rfl|rfl
               all_goals
                go_wp2;go_meet;exact⟨Bz (by have h:=fl.out;simp at h;omega),rfl⟩
             obtain⟨rfl,rfl⟩:=hcut;go_upto_if 139 with fail;go_cut [14] (λbc wx=>bc= .int .i64 ((n+F:Nat):Int)/\Hid (cG w x y bG wx/\bL wx X ⟨ae,x,y,n,kf,kt,x+n,x+n,0,0⟩))
             case first=>
              as_aux_lemma=>
               rcases gM with rfl|rfl|rfl
               .exact FA
               .go_wp2;go_meet;refine⟨Bz M_,(bX.out.1.set hX 4 _).set hX 5 _,?_⟩;have h:=eB.out;simp only[if_true] at h;rw[<-h.1,<-h.2];exact fE (fE bX.out.2 4 _) 5 _
               .exact FA
             clear s0 s1 a0 a1 a2 a3 a4 a5 a6 a7 a8 a9 g0 g1 g2 g3 g4 g5 g6 g7 g8 g9 b0 b1 b2 b3 b4 b5 b6 b7 b8 b9 O W G h3 Q h5 h6 h7 h8 h9;obtain⟨rfl,HS⟩:=hcut;clear bX;obtain⟨B1,B2,B3,B4⟩:=Ew T (n+F) ji;obtain⟨f2,fQ⟩:=exQ<|cL T (n+F);rw[fQ] at B1 B2 B3 B4;have HB:=hid (aK B3 B4);have gj:=hid (λw=>Bw (T.drop f2) w DJ);have gx:=Bg (T.drop f2);rw[bC] at gx;obtain⟨q2,ej⟩:=exQ<|dA (T.drop f2);rw[ej] at gj gx;have fs:(bs T).extract f2 T.length=bs (T.drop f2):=iW T f2 _ rfl;have CC:=hid (λw=>Np T (f2+q2) w iV a_);have hd:=uZ T (f2+q2);obtain⟨tw,bl⟩:=exQ<|eO T (f2+q2);rw[bl] at CC hd;rw[show ((f2+q2:Nat):Int)=(f2:Int)+(q2:Int) by omega] at CC;obtain⟨n1,n2,_⟩:=hd;have hft:f2<=tw:=by
              by_cases hl:tw<T.length
              .have:=(n2 hl).1;omega
              .omega
             obtain⟨M,hM⟩:=exQ<|(T.take tw).drop f2;have jF:M.length=tw-f2:=by rw[<-hM,bC,bR];omega
             have fy: ∀i,i<tw-f2->M[i]?=T[f2+i]?:=λi hi=>by rw[<-hM,kG,List.getElem?_take,if_pos a_]
             obtain⟨z,hz⟩:=exQ<|kC M;have cg:=Aw M;have fz:=Lp M;have fk:=Lq M;rw[hz] at cg fz fk;obtain⟨e4,jc⟩:=exQ<|f2+z;have HE:Hid ((∀j,e4<=j->j<tw->T[j]?=some 32)/\(e4=f2\/(f2<e4/\T[e4-1]?≠some 32))):=hid ⟨λj W G=>by
               have:=fz (j-f2) a_ a_;rw[fy _ a_,show f2+(j-f2)=j by omega] at this;exact this,by
               by_cases h:z=0
               .left;omega
               .right;refine⟨a_,?_⟩;have:=fk a_;rw[fy _ a_,show f2+(z-1)=e4-1 by omega] at this;exact this⟩
             have jw:f2<=e4:=a_;have hB:e4<=tw:=a_;obtain⟨nf,fu⟩: ∃nf:Int,(if tw<T.length then(x:Int)+(tw:Int) else 0)=nf:=⟨_,rfl⟩;obtain⟨nt,fw⟩: ∃nt:Int,(if tw<T.length then(y:Int) else 0)=nt:=⟨_,rfl⟩;have i4:Hid (pX T (n+F) ⟨ae,x,y,n,kf,kt,x+n,x+n,0,0⟩=⟨ae,x,y,n,kf,kt,x+f2,x+e4,nf,nt⟩):=hid (by unfold pX;rw[fQ,ej,bl];unfold Bk;rw[hM,hz,<-fu,<-fw];simp only[aS.mk.injEq,true_and,and_true];omega);have gT:=hid (aK fu fw);have hxf:(x:Int)+(f2:Int)<=1073741824:=a_;have hxe:(x:Int)+(e4:Int)<=1073741824:=a_;have hxt:(x:Int)+(tw:Int)<=1073741824:=a_;have hfq:(f2:Int)+(q2:Int)<=1073741824:=a_;have hf2i:(f2:Int)<=(T.length:Int):=a_;have fT:max (e4:Int) (f2:Int)=(e4:Int):=a_;have j0:=hid fT;clear B3 B4 fQ ej bl n2 hM jF fy hz cg fz fk jc fu fw fT;go_upto_block 4 with fail;go_cut [14] (λbc wx=>bc= .int .i64 (f2:Int)/\wc=wx)
             case first=>
              as_aux_lemma=>
               go_wp2;go_loop [14] (λbc=> ∃k3:Nat,bc= .int .i64 k3/\n+F<=k3/\k3<=f2) (λbc=>T.length-(RowKit.intOf bc).toNat)
               case atStart=>exact⟨n+F,rfl,a_,B1⟩
               case round=>
                obtain⟨k3,rfl,jJ,h32⟩:=hrel;by_cases hlt3:k3<f2
                .have bf:k3<(bs T).size:=a_;have ah:=cT T k3 bf;rw[HB.out.1 k3 jJ hlt3] at ah;have T3:((((bs T)[k3]'bf).toNat:Int)==32)=true:=by rw[gJ _ 32 32 rfl,<-bA ah];rfl
                 clear ah;go_wp2;go_round
                 case rel=>exact⟨k3+1,t_,a_,a_⟩
                 case measure=>simp[RowKit.intOf];omega
                .obtain rfl:f2=k3:=a_;by_cases hend:f2<T.length
                 .have bf:f2<(bs T).size:=a_;have ah:=cT T f2 bf;have T3:((((bs T)[f2]'bf).toNat:Int)==32)=false:=by
                   rw[nP _ 32 32 rfl,<-ah];exact aI.2 HB.out.2
                  clear ah;exact ag
                 .have dend:decide (f2<T.length)=false:=aJ hend;exact ag
             obtain⟨rfl,rfl⟩:=hcut;go_wp2_with fail;(with_reducible refine(gj.out _).mono ?_);rintro e w5 ⟨rfl,dd⟩;have ax:=hid (aK (HS.out.1.keep dd) (HS.out.2.keep dd));clear dd HS gj;obtain⟨s0,s1⟩:=ax.out.1.s.cells;obtain⟨a0,a1,a2,a3,a4,a5,a6,a7,a8,a9,g0,g1,g2,g3,g4,g5,g6,g7,g8,g9⟩:=ax.out.2.cells;obtain⟨b0,b1,b2,b3,b4,b5,b6,b7,b8,b9,O,W,G,h3,Q,h5,h6,h7,h8,h9⟩:=ax.out.1.l.cells;obtain⟨BT,gW⟩:=exQ<|decide (tw<T.length);go_upto_if 173 with(go_at_call 67;(with_reducible refine(CC.out _).mono ?_);rintro e w' ⟨rfl,rfl⟩);have gC:=hid gW;clear gW;go_cut [] (λwx=>Hid (cG w x y bG wx/\bL wx X ⟨ae,x,y,n,kf,kt,x+n,x+n,nf,nt⟩))
             case first=>
              as_aux_lemma=>
               cases BT with
               | true=>
                have bl:tw<T.length:=of_decide_eq_true gC.out;have h:=gT.out;rw[if_pos bl,if_pos bl] at h;have dy:=hid h;clear h bl;go_wp2;go_meet;rw[<-dy.out.1,<-dy.out.2];exact⟨(ax.out.1.set hX 8 _).set hX 9 _,fE (fE ax.out.2 8 _) 9 _⟩
               | false=>
                have bl: ¬tw<T.length:=of_decide_eq_false gC.out;have h:=gT.out;rw[if_neg bl,if_neg bl] at h;have dy:=hid h;clear h bl;go_wp2;go_meet;rw[<-dy.out.1,<-dy.out.2];exact ax.out
             clear s0 s1 a0 a1 a2 a3 a4 a5 a6 a7 a8 a9 g0 g1 g2 g3 g4 g5 g6 g7 g8 g9 b0 b1 b2 b3 b4 b5 b6 b7 b8 b9 O W G h3 Q h5 h6 h7 h8 h9;have dq:=hcut;clear ax CC;obtain⟨s0,s1⟩:=dq.out.1.s.cells;obtain⟨a0,a1,a2,a3,a4,a5,a6,a7,a8,a9,g0,g1,g2,g3,g4,g5,g6,g7,g8,g9⟩:=dq.out.2.cells;obtain⟨b0,b1,b2,b3,b4,b5,b6,b7,b8,b9,O,W,G,h3,Q,h5,h6,h7,h8,h9⟩:=dq.out.1.l.cells;go_upto_block 6 with fail;go_cut [15] (λd9 wx=>d9= .int .i64 (e4:Int)/\wc=wx)
             case first=>
              as_aux_lemma=>
               go_wp2;go_loop [15] (λd9=> ∃k4:Nat,d9= .int .i64 k4/\e4<=k4/\k4<=tw) (λd9=>(RowKit.intOf d9).toNat)
               case atStart=>exact⟨tw,rfl,hB,aF _⟩
               case round=>
                obtain⟨k4,rfl,jG,j4⟩:=hrel;by_cases hlt4:e4<k4
                .obtain⟨j,rfl⟩: ∃j,k4=j+1:=⟨k4-1,a_⟩;have eb:j<(bs T).size:=a_;have ap:=cT T j eb;rw[HE.out.1 j a_ a_] at ap;have T4:((((bs T)[j]'eb).toNat:Int)==32)=true:=by rw[gJ _ 32 32 rfl,<-bA ap];rfl
                 have dj:decide (f2<j+1)=true:=aQ a_;have dj2:decide ((f2:Int)<(j:Int)+1)=true:=aQ a_;clear ap;go_wp2;go_round
                 case rel=>exact⟨j,t_,a_,a_⟩
                 case measure=>simp[RowKit.intOf]
                .obtain rfl:e4=k4:=a_;rcases HE.out.2 with h5 | ⟨h5,h6⟩
                 .subst h5;have dj:decide (e4<e4)=false:=aJ (Nat.lt_irrefl _);exact ag
                 .obtain⟨j,iJ⟩: ∃j,e4=j+1:=⟨e4-1,a_⟩;have eb:j<(bs T).size:=a_;have ap:=cT T j eb;rw[iJ,Nat.add_sub_cancel] at h6;have T4:((((bs T)[j]'eb).toNat:Int)==32)=false:=by
                   rw[nP _ 32 32 rfl,<-ap];exact aI.2 h6
                  have gZ:(e4:Int)-1=(j:Int):=a_;have dj:decide (f2<e4)=true:=aQ h5;clear ap h6 iJ jG j4 hlt4 h5 jw hB;exact ag
             obtain⟨rfl,rfl⟩:=hcut;have fT:=j0.out;go_upto_region 41 with fail;have ee:Hid (cG w x y bG ((wc.setCell ⟨X,6,none⟩ (.int .i64 ((x:Int)+(f2:Int)))).setCell ⟨X,7,none⟩ (.int .i64 ((x:Int)+(e4:Int))))/\bL ((wc.setCell ⟨X,6,none⟩ (.int .i64 ((x:Int)+(f2:Int)))).setCell ⟨X,7,none⟩ (.int .i64 ((x:Int)+(e4:Int)))) X ⟨ae,x,y,n,kf,kt,x+f2,x+e4,nf,nt⟩):=
              hid ⟨(dq.out.1.set hX 6 _).set hX 7 _,fE (fE dq.out.2 6 _) 7 _⟩
             obtain⟨W7,iD⟩:=exQ ((wc.setCell ⟨X,6,none⟩ (.int .i64 ((x:Int)+(f2:Int)))).setCell ⟨X,7,none⟩ (.int .i64 ((x:Int)+(e4:Int))));rw[iD] at ee ⊢;clear iD dq;clear s0 s1 a0 a1 a2 a3 a4 a5 a6 a7 a8 a9 g0 g1 g2 g3 g4 g5 g6 g7 g8 g9 b0 b1 b2 b3 b4 b5 b6 b7 b8 b9 O W G h3 Q h5 h6 h7 h8 h9;obtain⟨s0,s1⟩:=ee.out.1.s.cells;obtain⟨a0,a1,a2,a3,a4,a5,a6,a7,a8,a9,g0,g1,g2,g3,g4,g5,g6,g7,g8,g9⟩:=ee.out.2.cells;obtain⟨b0,b1,b2,b3,b4,b5,b6,b7,b8,b9,O,W,G,h3,Q,h5,h6,h7,h8,h9⟩:=ee.out.1.l.cells;go_wp2;go_region;obtain⟨WF,aa⟩:=exQ<|(dJ W7 (w.heap.size+1) ⟨ae,x,y,n,kf,kt,x+f2,x+e4,nf,nt⟩).drew;have HF:=(cG.put (r2:=⟨ae,x,y,n,kf,kt,x+f2,x+e4,nf,nt⟩) ee.out.1).drew;rw[aa] at HF;have an:=hid HF;clear HF;dsimp only[dJ,bG] at aa;rw[aa];clear aa;clear s0 s1 a0 a1 a2 a3 a4 a5 a6 a7 a8 a9 g0 g1 g2 g3 g4 g5 g6 g7 g8 g9 b0 b1 b2 b3 b4 b5 b6 b7 b8 b9 O W G h3 Q h5 h6 h7 h8 h9;obtain⟨c0,c1,c2,c3,c4,c5,c6,c7,c8,c9,_⟩:=an.out.l.cells;go_wp2_with fail;refine bodyPost_ret (v:= .tuple #[eL ⟨ae,x,y,n,kf,kt,x+f2,x+e4,nf,nt⟩,y,(0:Int)]) ?_ rfl ⟨by rw[<-I.out,HC.out];exact tS ((jm.out _ (by rw[<-eB.out.1,<-eB.out.2])).trans i4.out),an.out.b⟩;exact DV
         |have _:=KW
          .rw[if_pos h35] at ai;have HC:=hid ai;have t35:(cc==35)=true:=by rw[dg,h35];rfl
           clear ai dg bO bW h35 bJ;go_upto_region 22 with fail;have ax:Hid (cG w x y bG (((wc.setCell ⟨X,0,none⟩ (.int .i64 2)).setCell ⟨X,8,none⟩ (.int .i64 ((x:Int)+(n:Int)))).setCell ⟨X,9,none⟩ (.int .i64 (y:Int)))/\bL (((wc.setCell ⟨X,0,none⟩ (.int .i64 2)).setCell ⟨X,8,none⟩ (.int .i64 ((x:Int)+(n:Int)))).setCell ⟨X,9,none⟩ (.int .i64 (y:Int))) X ⟨2,x,y,n,0,0,x+n,x+n,x+n,y⟩):=
            hid ⟨((HS.out.1.set hX 0 _).set hX 8 _).set hX 9 _,fE (fE (fE HS.out.2 0 _) 8 _) 9 _⟩
           obtain⟨W5,im⟩:=exQ (((wc.setCell ⟨X,0,none⟩ (.int .i64 2)).setCell ⟨X,8,none⟩ (.int .i64 ((x:Int)+(n:Int)))).setCell ⟨X,9,none⟩ (.int .i64 (y:Int)));rw[im] at ax ⊢;clear im;clear s0 s1 a0 a1 a2 a3 a4 a5 a6 a7 a8 a9 g0 g1 g2 g3 g4 g5 g6 g7 g8 g9 b0 b1 b2 b3 b4 b5 b6 b7 b8 b9 O W G h3 Q h5 h6 h7 h8 h9;obtain⟨s0,s1⟩:=ax.out.1.s.cells;obtain⟨a0,a1,a2,a3,a4,a5,a6,a7,a8,a9,g0,g1,g2,g3,g4,g5,g6,g7,g8,g9⟩:=ax.out.2.cells;obtain⟨b0,b1,b2,b3,b4,b5,b6,b7,b8,b9,O,W,G,h3,Q,h5,h6,h7,h8,h9⟩:=ax.out.1.l.cells;go_wp2;go_region;obtain⟨WF,aa⟩:=exQ<|(dJ W5 (w.heap.size+1) ⟨2,x,y,n,0,0,x+n,x+n,x+n,y⟩).drew;have HF:=(cG.put (r2:=⟨2,x,y,n,0,0,x+n,x+n,x+n,y⟩) ax.out.1).drew;rw[aa] at HF;have an:=hid HF;clear HF;dsimp only[dJ,bG] at aa;rw[aa];clear aa;clear s0 s1 a0 a1 a2 a3 a4 a5 a6 a7 a8 a9 g0 g1 g2 g3 g4 g5 g6 g7 g8 g9 b0 b1 b2 b3 b4 b5 b6 b7 b8 b9 O W G h3 Q h5 h6 h7 h8 h9;obtain⟨c0,c1,c2,c3,c4,c5,c6,c7,c8,c9,_⟩:=an.out.l.cells;go_wp2_with fail;refine bodyPost_ret (v:= .tuple #[eL ⟨2,x,y,n,0,0,x+n,x+n,x+n,y⟩,y,(0:Int)]) ?_ rfl ⟨by rw[<-I.out,HC.out];exact tS (by unfold pS;simp),an.out.b⟩;exact DV
          .exact absurd hC4.out h35
         |go_wp2;go_region;obtain⟨WF,aa⟩:=exQ<|(dJ wc (w.heap.size+1) ⟨1,x,y,T.length,0,0,x+T.length,x+T.length,0,0⟩).drew;have HF:=(cG.put (r2:=⟨1,x,y,T.length,0,0,x+T.length,x+T.length,0,0⟩) HS.out.1).drew;rw[aa] at HF;have an:=hid HF;clear HF;dsimp only[dJ,bG] at aa;rw[aa];clear aa;clear s0 s1 a0 a1 a2 a3 a4 a5 a6 a7 a8 a9 g0 g1 g2 g3 g4 g5 g6 g7 g8 g9 b0 b1 b2 b3 b4 b5 b6 b7 b8 b9 O W G h3 Q h5 h6 h7 h8 h9;obtain⟨c0,c1,c2,c3,c4,c5,c6,c7,c8,c9,_⟩:=an.out.l.cells;go_wp2_with fail;refine bodyPost_ret (v:= .tuple #[eL ⟨1,x,y,T.length,0,0,x+T.length,x+T.length,0,0⟩,y,(0:Int)]) ?_ rfl ⟨by rw[<-I.out,HC.out];exact tS (by unfold pS;simp),an.out.b⟩;exact DV
      first
      |have _:=KV
       .exact absurd hC3.out hUe
      |skip
    |.have HF:Hid ((bG,(x:Int)+(wr:Int),(2:Int))=R):=hid (by rw[<-I.out,if_pos hw])
      have dw:decide (wr<T.length)=true:=aQ hw;have wxw:IntKind.i64.wrap ((x:Int)+(wr:Int))=(x:Int)+(wr:Int):=by rw[IntKind.wrap_i64];omega
      clear hw I ex;go_upto_region 10 with(go_at_call 64;(with_reducible refine(CG.out _).mono ?_);rintro e w' ⟨rfl,rfl⟩);go_region_with (go_at_call 64;(with_reducible refine(CG.out _).mono ?_);rintro e w' ⟨rfl,rfl⟩)
      all_goals
       obtain⟨WF,aa⟩:=exQ<|(dJ W1 (w.heap.size+1) bG).drew;have HF:=(cG.put (r2:=bG) co.out).drew;rw[aa] at HF;have an:=hid HF;clear HF;dsimp only[dJ,bG] at aa;rw[aa];clear aa;clear s0 s1 b0 b1 b2 b3 b4 b5 b6 b7 b8 b9 O W G h3 Q h5 h6 h7 h8 h9;obtain⟨c0,c1,c2,c3,c4,c5,c6,c7,c8,c9,_⟩:=an.out.l.cells;go_wp2_with fail;refine bodyPost_ret (v:= .tuple #[eL bG, .int .i64 ((x:Int)+(wr:Int)),(2:Int)]) ?_ rfl ⟨by rw[<-HF.out];rfl,an.out.b⟩;exact DV
     .exact absurd hC2.out hw
  |.exact absurd (wW (λj hj=>HK.out j a_)) (by rw[hC1.out];simp)):P:=h
theorem PL(h:P:=by
 have sl:=aP l;obtain⟨R,f⟩:=exQ<|mA l;rw[f];unfold mA at f;have b1:=aL w (.cells #[.string ⟨#[]⟩,(),()] 26);have an:=heap_alloc_new w (.cells #[.string ⟨#[]⟩,(),()] 26);have a5:(w.alloc (.cells #[.string ⟨#[]⟩,(),()] 26)).heap.size=w.heap.size+1:=e_
 obtain⟨D,bA⟩:=exQ<|w.heap.size;obtain⟨w1,b6⟩:=exQ<|w.alloc (.cells #[.string ⟨#[]⟩,(),()] 26);rw[b6] at b1 an a5;rw[bA] at an a5;have W:=hid b1;have ad:=hid an;have O:=hid bA;obtain⟨d0,d1,d2,f0,f1,f2⟩:=eA an;by_cases hlong:65536<l.length
 .rw[if_pos hlong] at f;have dl:decide ((65536:Int)<(l.length:Int))=true:=aQ a_;have b5:decide (65536<l.length)=true:=aQ hlong;clear b1 an;go_in;go_wp2_with fail
  try simp only[Exit.inBlock,Exit.then]
  refine bodyPost_ret (rA rfl _ _ rfl (u:= .string ⟨#[]⟩) (v:= .slice none 0 0) (x:= .slice none 0 0) ?_ ?_ ?_) rfl ?_
  .simp[go_sem,d0,d1,d2]
  .simp[go_sem,d0,d1,d2]
  .simp[go_sem,d0,d1,d2]
  .rw[<-f];exact⟨_,_,_,rfl,rfl,eP.nil _ _,((W.out.setCell v_ _).setCell v_ _).setCell v_ _⟩
 rw[if_neg hlong] at f;have dl:decide ((65536:Int)<(l.length:Int))=false:=aJ a_;have b5:decide (65536<l.length)=false:=aJ hlong;have aa:l.length<=65536:=a_
 first|have _:=RD;have CL:=hid (Zj (bs l) w1 a_)|have CL:=hid (Zh (bs l) w1 a_)
 obtain⟨L,hL⟩:=exQ<|gR l 0 0;have bF:pY (bs l)=L:=by unfold pY;rw[aY];exact hL
 rw[bF] at CL;have bc:=tT l 0 0;rw[hL] at bc;have HL:=hid hL;have HR:=hid f;have a8:=hid (hV.keep (show aA w w1 from W.out));clear b1 an bF f hL hV;go_in;go_wp2_with fail;refine CL.out.mono ?_;rintro e w2 ⟨sv,rfl,J,aC⟩;obtain⟨g,c,ax,rfl,cm,b2,hcap,_⟩: ∃g c ax,sv= .slice (some ⟨g,0,none⟩) L.length c/\w1.heap.size<=g/\w2.heap[g]?=some (.cells ax 42 (0,0))/\L.length<=c/\True:=by
  rcases J.2 with⟨_,h1⟩ | ⟨g,c,ax,h1,h2,h3,h4,_⟩
  .omega
  .exact⟨g,c,ax,h1,h2,h3,h4,trivial⟩
 have ck:g<w2.heap.size:=aG b2;obtain⟨P,bq⟩:=exQ<|w2.heap.size
 first
 |have _:=RD;have b3:=aL w2 (.cells #[bs l, .slice (some ⟨g,0,none⟩) L.length c,(),(),(0:Int),(0:Int),(0:Int)] 66);have ah:=heap_alloc_new w2 (.cells #[bs l, .slice (some ⟨g,0,none⟩) L.length c,(),(),(0:Int),(0:Int),(0:Int)] 66);obtain⟨w3,bd⟩:=exQ<|w2.alloc (.cells #[bs l, .slice (some ⟨g,0,none⟩) L.length c,(),(),(0:Int),(0:Int),(0:Int)] 66)
 |have b3:=aL w2 (.cells #[bs l, .slice (some ⟨g,0,none⟩) L.length c,(),(),(0:Int),(0:Int),(0:Int)] YQ);have ah:=heap_alloc_new w2 (.cells #[bs l, .slice (some ⟨g,0,none⟩) L.length c,(),(),(0:Int),(0:Int),(0:Int)] YQ);obtain⟨w3,bd⟩:=exQ<|w2.alloc (.cells #[bs l, .slice (some ⟨g,0,none⟩) L.length c,(),(),(0:Int),(0:Int),(0:Int)] YQ)
 rw[bd] at b3 ah;rw[bq] at ah ck;have M:Hid (jB w1.heap.size w3 (.slice (some ⟨g,0,none⟩) L.length c) (eZ 0 L)):=hid (iP J b3);have I:Hid (aA w1 w3):=hid (aC.trans (b3.mono aC.size));have U:=hid ah;obtain⟨N1,bJ⟩:=exQ<|L.length-1;have bC:(L.length:Int)-1=(N1:Int):=a_
 have hN1w:IntKind.i64.wrap ((L.length:Int)-1)=(N1:Int):=by rw[bC,IntKind.wrap_i64];omega
 have hN1x:IntKind.i64.wrap (N1:Int)=(N1:Int):=by rw[IntKind.wrap_i64];omega
 have b7:w1.heap.size<=P:=by rw[<-bq];exact aC.size
 obtain⟨p1,pl⟩:w3.cell? (P,1)=some (.slice (some ⟨g,0,none⟩) L.length c)/\P<w3.heap.size:=⟨by simp[World.cell?,ah],aG ah⟩;have af:=hid bJ;clear J aC b2 b3 ah bJ;go_upto_region 4 with fail;clear bd bq;go_wp2_with fail;clear p1
 first
 |have _:=RD;go_loopw [22] (λbt wr=> ∃i:Nat,bt= .int .i64 (i:Int)/\i<=N1/\Hid (wr.heap[P]?=some (.cells #[bs l, .slice (some ⟨g,0,none⟩) L.length c,(),(),(0:Int),(0:Int),(0:Int)] 66))/\Hid (jB w1.heap.size wr (.slice (some ⟨g,0,none⟩) L.length c) (eZ i L))/\Hid (aA w1 wr)) (λbt _=>N1-(RowKit.intOf bt).toNat)
 |go_loopw [6] (λs6 wr=> ∃i:Nat,s6= .int .i64 (i:Int)/\i<=N1/\Hid (wr.heap[P]?=some (.cells #[bs l, .slice (some ⟨g,0,none⟩) L.length c,(),(),(0:Int),(0:Int),(0:Int)] YQ))/\Hid (jB w1.heap.size wr (.slice (some ⟨g,0,none⟩) L.length c) (eZ i L))/\Hid (aA w1 wr)) (λs6 _=>N1-(RowKit.intOf s6).toNat)
 case atStart=>exact⟨0,rfl,cI _,U,M,I⟩
 case round=>
  clear U M I pl;obtain⟨i,rfl,hi,U,M,I⟩:=hrel;have p1:wr.cell? (P,1)=some (.slice (some ⟨g,0,none⟩) L.length c):=by have:=U.out;simp[World.cell?,this]
  have pl:P<wr.heap.size:=aG U.out;by_cases hin:i<N1
  .first|have _:=RD;have dk:decide ((i:Int)<(N1:Int))=true:=aQ a_|have dk:decide ((i:Int)+1<(L.length:Int))=true:=aQ JV
   obtain⟨x,hx⟩: ∃x,L[i]?=some x:=⟨_,bI JV⟩;have bi:=hx;rw[<-HL.out] at bi;obtain⟨q1,q2⟩:=Pg bi;have q3:=q2 (by rw[HL.out];have:=af.out;omega);have hi0:(0:Int)<=(i:Int):=a_;have hi1:(i:Int)<(L.length:Int):=by have:=af.out;omega
   obtain⟨y2,bR⟩:=exQ<|x.2-1;have bU:(x.2:Int)-1=(y2:Int):=a_;have hy2w:IntKind.i64.wrap ((x.2:Int)-1)=(y2:Int):=by rw[bU,IntKind.wrap_i64];omega
   have hy2x:IntKind.i64.wrap (y2:Int)=(y2:Int):=by rw[IntKind.wrap_i64];omega
   have bk:(eZ i L)[i]?=some x:=by rw[Gz];exact hx
   have J:=M.out;have b0:=qT (λp:Nat×Nat=>([p.1,p.2]:List Value)) 2 wM (eZ i L) i x bk 1 a_;have r:(eZ i L).length=L.length:=Gy i L;have S:wr.ownsRow w1.heap.size 42 2 (.slice (some ⟨g,0,none⟩) (eZ i L).length c) (eZ i L).length (kX (eZ i L)):=by
    have h:=J;unfold jB at h;rw[r] at h ⊢;exact h
   have c1:wr.cell? ⟨g,i*2+1,none⟩=some (.int .i64 (x.2:Int)):=by
    rw[World.ownsRow.cellAt S _ (by rw[r];have:=af.out;omega)];exact b0
   have cf:wr.frozen? ⟨g,i*2+1,none⟩=false:=World.ownsRow.frozenAt S _;obtain⟨bu,_⟩:=World.ownsRow.stored S (i*2+1) (.int .i64 (y2:Int));have bw:=yI (λp:Nat×Nat=>([p.1,p.2]:List Value)) 2 wM (eZ i L) i x (x.1,y2) bk 1 (.int .i64 (y2:Int)) a_ rfl;obtain⟨i1,a3⟩:=exQ<|i+1;have bQ:(i:Int)+1=(i1:Int):=a_;have ca:Hid (jB w1.heap.size (wr.setCell ⟨g,i*2+1,none⟩ (.int .i64 (y2:Int))) (.slice (some ⟨g,0,none⟩) L.length c) (eZ i1 L)):=hid (by unfold jB;rw[<-a3,Ha i L x hx,bR];rw[List.length_set];have h:=bu;rw[show (kX (eZ i L)).set (i*2+1) (.int .i64 (y2:Int))=kX ((eZ i L).set i (x.1,y2)) from bw] at h;rw[r] at h ⊢;exact h)
   first|have _:=RD;have bN:Hid ((wr.setCell ⟨g,i*2+1,none⟩ (.int .i64 (y2:Int))).heap[P]?=some (.cells #[bs l, .slice (some ⟨g,0,none⟩) L.length c,(),(),(0:Int),(0:Int),(0:Int)] 66)):=hid F'|have bN:Hid ((wr.setCell ⟨g,i*2+1,none⟩ (.int .i64 (y2:Int))).heap[P]?=some (.cells #[bs l, .slice (some ⟨g,0,none⟩) L.length c,(),(),(0:Int),(0:Int),(0:Int)] YQ)):=hid F'
   have cc:Hid (aA w1 (wr.setCell ⟨g,i*2+1,none⟩ (.int .i64 (y2:Int)))):=hid (I.out.setCell (p:=⟨g,i*2+1,none⟩) cm _);have bS:i1<=N1:=a_;clear hx bi q1 q2 q3 bR bk J b0 r S bu bw a3;go_wp2;go_roundw
   .exact⟨i1,by rw[<-bQ],bS,bN,ca,cc⟩
   .exact aq
  .obtain rfl:i=N1:=a_
   first|have _:=RD;have dk:decide ((i:Int)<(i:Int))=false:=aJ a_|have dk:decide ((i:Int)+1<(L.length:Int))=false:=aJ JV
   have ai:=Bp l;have N:(eY l).length=L.length:=by unfold eY;rw[Bm,HL.out]
   first
   |have _:=RD;have hj:YJ YP (λ_=>none) w1 P l (eY l) ⟨[],[],0⟩ 0 0 wr:=E4;have CW:=aCq w1 P l (eY l) ai aa (by rw[N];omega) a8.out wr hj;have ag:=aCr ai;rw[HR.out] at CW ag;have cd:=hid CW;have bK:=hid ag;clear CW ag hj ai N p1;go_wp2_with fail;refine cd.out.mono ?_;rintro e w4 hE;rcases hE with⟨h0,rfl,tot,aW⟩ | ⟨h0,rfl,q⟩
    .obtain⟨z,am,ak,aj,K,b⟩:=aW;obtain⟨⟨c0,c1,c2,c3,c4,c5,c6⟩,C,B,t,A,s⟩:=b.cells;obtain⟨ql,cl,rfl⟩:=b.lnSlice;obtain⟨qn,cn,rfl⟩:=b.ndSlice;have cg:=b.lt;have d:w4.heap[D]?=some (.cells #[.string ⟨#[]⟩,(),()] 26):=(b.bel.block D a_).trans ad.out;obtain⟨e0,e1,e2,aO,aR,aT⟩:=eA d;have aM:D≠P:=a_;have HK:=hid b;have HZ:=hid K;have X:=hid d;have bM:R.2.1=(l.length:Int):=by
      rcases bK.out with h | h
      .exact h.2
      .exact absurd h0 h.1
     have H0:=hid (aK h0 bM);obtain⟨nl,E⟩:=exQ<|R.1.lines.length;obtain⟨nz,F⟩:=exQ<|z.length;simp only[] at c2 c3;simp only[E] at c2;rw[F] at c3;have ap:=hid (aK E F);clear b K d d0 d1 d2 f0 f1 f2 h0 bM E F c4 c5 c6 C B t A s;go_upto_region 11 with fail;go_region
     all_goals
      go_wp2_with fail
      try simp only[Exit.inBlock,Exit.then]
      refine bodyPost_ret (rA rfl _ _ rfl (u:= .string (bs l)) (v:= .slice ql nl cl) (x:= .slice qn nz cn) ?_ ?_ ?_) rfl ?_
      .exact al
      .exact al
      .exact al
      .obtain⟨n1,n2⟩:=ap.out;subst n1 n2;have hg:=gX (gX (dP w4 D 0 (.string (bs l))) (dP _ D 1 (.slice ql R.1.lines.length cl))) (dP _ D 2 (.slice qn z.length cn));have ae:=World.ownsRow.kept HK.out.lnr hg (dG HK.out.lnr X.out b_);have Z:=HK.out.nod.other X.out b_ b_ hg;have j:w.heap.size<=w1.heap.size:=W.out.size;refine⟨bs l,_,_,by rw[H0.out.2,H0.out.1];rfl,by rw[if_pos H0.out.1],(show eP w.heap.size R.1 _ _ _ from eP.keep (w:=((w4.setCell ⟨D,0,none⟩ (.string (bs l))).setCell ⟨D,1,none⟩ (.slice ql R.1.lines.length cl)).setCell ⟨D,2,none⟩ (.slice qn z.length cn)) ⟨z,HZ.out,yX ae j,Z.base j⟩ (aD _ _).drew),?_⟩;exact fg
    .obtain⟨st,z,am,ak,aj,K,b⟩:=q;obtain⟨⟨c0,c1,c2,c3,c4,c5,c6⟩,C,B,t,A,s⟩:=b.cells;have cg:=b.lt;have d:w4.heap[D]?=some (.cells #[.string ⟨#[]⟩,(),()] 26):=(b.bel.block D a_).trans ad.out;obtain⟨e0,e1,e2,aO,aR,aT⟩:=eA d;have aM:D≠P:=a_;have bG:=hid b.bel;have H1:R.1=⟨[],[]⟩:=by
      rcases bK.out with h | h
      .exact absurd h.1 h0
      .exact h.2
     have H0:=hid (aK h0 H1);clear b K d d0 d1 d2 f0 f1 f2 h0 H1 c0 c1 c2 c3 c4 C B t A s;go_upto_region 10 with fail;go_region
     all_goals
      go_wp2_with fail
      try simp only[Exit.inBlock,Exit.then]
      refine bodyPost_ret (rA rfl _ _ rfl (u:= .string ⟨#[]⟩) (v:= .slice none 0 0) (x:= .slice none 0 0) ?_ ?_ ?_) rfl ?_
      .exact al
      .exact al
      .exact al
      .have j:w.heap.size<=w1.heap.size:=W.out.size;refine⟨⟨#[]⟩,_,_,rfl,by rw[if_neg H0.out.1],by rw[H0.out.2];exact eP.nil _ _,?_⟩;exact p8
   |have hj:YJ YQ (λ_=>none) w1 P l (eY l) ⟨[],[],0⟩ 0 0 wr:=E4;obtain⟨sp,a9⟩:=exQ<|eY l;have f:=HR.out;rw[a9] at hj ai N f;have br:sp.length<=131072:=by rw[N];omega
    unfold lL at f;have bX:mB l sp []:=⟨cI _,λi hi=>absurd hi (oW _)⟩;have H:=kP ai (k:=0) (lines:= []) (aF _) bX (λi _ hi=>absurd hi (oW _));obtain⟨NN,hN⟩:=exQ<|eX l sp 0 [];rw[hN] at f H;have CN:Hid (Calls prog 20 #[some P,(0:Int)] wr (sF YQ (λ_=>none) w1 P l sp ⟨[],[],0⟩ NN)):=hid (by have:=Cc (st:=⟨[],[],0⟩) 0 wr hj (aF _) (cI _) aa br;rw[hN] at this;exact this);have ba:=hid ai;have HSPL:=hid N;clear hN hj bX ai a9 N U M I HR HL;cases NN with
    | bad a er=>
     have T:=hid (aK (show ((⟨[],[]⟩:dU),a,er)=R from f) (show er≠0 from H.2.2));clear f H;go_wp2_with fail;refine CN.out.mono ?_;rintro e w5 ⟨⟨m,rfl⟩,q⟩;have HF:=hid q;clear q CN p1;obtain⟨bb,z,am,ak,aj,K,b⟩:=HF.out;obtain⟨⟨c0,c1,c2,c3,c4,c5,c6⟩,C,B,t,A,s⟩:=b.cells;have Y:=b.lt;have d:w5.heap[D]?=some (.cells #[.string ⟨#[]⟩,(),()] 26):=(b.bel.block D a_).trans ad.out;exact D0
    | ok k ls=>
     simp only[] at f H;have bo:=hid H;have HR:=hid f;have hk0:(0:Int)<=(k:Int):=a_;clear f H;go_wp2_with fail;refine aH CN.out λw5 bL=>?_;have aS:=hid bL;clear CN p1;obtain⟨z2,sv2,lv2,nv2,au,ab⟩:=bL;obtain⟨ps2,cs2,rfl⟩:=ab.spSlice;have c1:=ab.cells.1.2.1;have a1:=ab.lt;by_cases hlt:k<sp.length;rotate_left
     .have f:=HR.out;rw[if_pos hlt] at f;have T:=hid f;have b8:k=sp.length:=by have:=bo.out.le.2;omega
      subst b8;have dq:((sp.length:Int)==(sp.length:Int))=true:=beq_self_eq_true _;have ch:z2= []:=(by simpa using au);have f3:=ab.cells.2.2.1;have ce:=ab.cells.1.2.2.2.1;have b:=ab.one ch;have K:List.map (λx:YN=>x.1) [(((⟨1,0,0,0,0,0,(l.length:Int),(l.length:Int),[]⟩:aV), .slice none 0 0):YN)]= [(⟨1,0,0,0,0,0,(l.length:Int),(l.length:Int),[]⟩:aV)]:=rfl;obtain⟨z,bD⟩:=exQ<|[(((⟨1,0,0,0,0,0,(l.length:Int),(l.length:Int),[]⟩:aV), .slice none 0 0):YN)];rw[bD] at b K;obtain⟨W9,bT⟩:=exQ<|(w5.alloc (.cells #[(1:Int),(0:Int),(0:Int),(0:Int),(0:Int),(0:Int),l.length,l.length,()] 45)).setCell ⟨P,3,none⟩ (.slice (some ⟨w5.heap.size,0,none⟩) 1 1);rw[bT] at b;obtain⟨nv9,a6⟩:=exQ<|Value.slice (some ⟨w5.heap.size,0,none⟩) 1 1;rw[a6] at b;clear a6;have cj:=hid b;have b9:=hid (aK K bD);clear ab au f hlt HR b K;go_upto_region 11 with fail;clear c1 ce f3 bT;have b:=cj.out;have K:=b9.out.1;obtain⟨⟨c0,c1,c2,c3,c4,c5,c6⟩,C,B,t,A,s⟩:=b.cells;obtain⟨ql,cl,rfl⟩:=b.lnSlice;obtain⟨qn,cn,rfl⟩:=b.ndSlice;have Y:=b.lt;have d:W9.heap[D]?=some (.cells #[.string ⟨#[]⟩,(),()] 26):=(b.bel.block D a_).trans ad.out;obtain⟨e0,e1,e2,aO,aR,aT⟩:=eA d;have aM:D≠P:=a_;have HK:=hid b;have HZ:=hid K;have X:=hid d;obtain⟨nl,E⟩:=exQ<|ls.length;obtain⟨nz,F⟩:=exQ<|z.length
      try simp only[] at c2 c3
      rw[E] at c2;rw[F] at c3;have ap:=hid (aK E F);clear b K d d0 d1 d2 f0 f1 f2 E F c4 c5 c6 C B t A s;go_upto_region 11 with fail;go_region
      all_goals
       go_wp2_with fail
       try simp only[Exit.inBlock,Exit.then]
       refine bodyPost_ret (rA rfl _ _ rfl (u:= .string (bs l)) (v:= .slice ql nl cl) (x:= .slice qn nz cn) ?_ ?_ ?_) rfl ?_
       .exact al
       .exact al
       .exact al
       .obtain⟨n1,n2⟩:=ap.out;subst n1 n2;have hg:=gX (gX (dP W9 D 0 (.string (bs l))) (dP _ D 1 (.slice ql ls.length cl))) (dP _ D 2 (.slice qn z.length cn));have ae:=World.ownsRow.kept HK.out.lnr hg (dG HK.out.lnr X.out b_);have Z:=HK.out.nod.other X.out b_ b_ hg;have j:w.heap.size<=w1.heap.size:=W.out.size;rw[<-T.out];refine⟨bs l,_,_,rfl,rfl,(show eP w.heap.size ⟨ls,_⟩ _ _ _ from eP.keep (w:=((W9.setCell ⟨D,0,none⟩ (.string (bs l))).setCell ⟨D,1,none⟩ (.slice ql ls.length cl)).setCell ⟨D,2,none⟩ (.slice qn z.length cn)) ⟨z,HZ.out,yX ae j,Z.base j⟩ (aD _ _).drew),?_⟩;exact fg
     .obtain⟨r,bB⟩:=bo.out.hit hlt;have f:=HR.out;rw[if_neg (λe=>e hlt)] at f;have bj:dR l sp ⟨ls,[],0⟩:=⟨bo.out.ok,e_⟩;obtain⟨Q,hQ⟩:=exQ<|oI l sp 32 k 0 0 ⟨ls,[],0⟩;have G:=pG ba.out 32 k 0 0 ⟨ls,[],0⟩ bj r.symm;rw[hQ] at f G;have CB:Hid (∀w',YJ YQ (λ_=>none) w1 P l sp ⟨ls,[],0⟩ 0 0 w'->Calls prog 21 #[some P,k,(1:Int), .agg #[(0:Int),(0:Int)]] w' (fG YQ (λ_=>none) w1 P l sp Q)):=hid (λw' hj=>by have:=Pk w1 P l sp ba.out aa br a8.out HRd HKy 32 (aF _) (λ_=>none) k 0 0 ⟨ls,[],0⟩ 1 w' hj r.symm bj (hid b_);rw[hQ] at this;exact this);have dq:((k:Int)==(sp.length:Int))=false:=aI.2 a_;have dqn:(k==sp.length)=false:=aI.2 a_;have bf:=hid f;clear f hlt hQ bj HR r bB ab au;cases Q with
      | bad a er=>
       have T:=hid (aK (show ((⟨[],[]⟩:dU),a,er)=R from bf.out) (show er≠0 from (show 0<=a/\a<=(l.length:Int)/\er≠0 from G).2.2));clear G;go_wp2_with fail;refine(CB.out _ H').mono ?_;rintro e w6 ⟨⟨m,rfl⟩,q⟩;have HF:=hid q;clear q CB c1 a1;obtain⟨bb,z,am,ak,aj,K,b⟩:=HF.out;obtain⟨⟨c0,c1,c2,c3,c4,c5,c6⟩,C,B,t,A,s⟩:=b.cells;have Y:=b.lt;have d:w6.heap[D]?=some (.cells #[.string ⟨#[]⟩,(),()] 26):=(b.bel.block D a_).trans ad.out;exact D0
      | ok n st=>
       obtain⟨g1,⟨m1,bY,bz⟩,_,g4,g5,g6⟩:=(show lA l sp k ⟨ls,[],0⟩ n st from G);have ci:n=0:=g1;subst ci;have V:=kP ba.out (k:=fF st.nodes 0) g4.2 g6.ls g5;have f:=bf.out;simp only[] at f;have a2:0<st.nodes.length:=by
        rw[bz];have:=rS.2 bY;simp only[aZ,lQ];omega
       obtain⟨az,aw⟩:=exQ<|fF st.nodes 0;rw[aw] at f V g4 g5;obtain⟨N2,bn⟩:=exQ<|eX l sp az st.lines;rw[bn] at f V;have aN:Hid (∀w',YJ YQ (λ_=>none) w1 P l sp st 0 0 w'->Calls prog 20 #[some P,az] w' (sF YQ (λ_=>none) w1 P l sp st N2)):=hid (λw' hj=>by have:=Cc (st:=st) az w' hj g4.2 g6.ls.1 aa br;rw[bn] at this;exact this);have ay:=hid (aK aw a2);have bx:=hid f;have ar:=hid V;clear G g1 bY bz g4 g5 g6 f bn V aw a2 bf;go_wp2_with fail;refine aH (CB.out _ H') λw6 b4=>?_;have aX:=hid b4;clear CB c1 a1;obtain⟨z3,sv3,lv3,nv3,bl,ao⟩:=b4;have av:z3.length=st.nodes.length:=(by rw[<-bl,bP]);obtain⟨gn,cn3,cur3,rfl,_,_,_⟩:=ao.nod.form (λe=>by rw[e] at av;have:=ay.out.2;simp at av;omega);obtain⟨y,hy⟩: ∃y,z3[0]?=some y:=⟨_,bI (by have:=ay.out.2;omega)⟩;have bO:y.1.til=az:=by
        have h1:st.nodes[0]?=some y.1:=by rw[<-bl,cF,hy];rfl
        rw[<-wP h1];exact ay.out.1
       have k3:=(ao.nod.at_ hy 3 a_ rfl).1;rw[bO] at k3;simp only[Nat.zero_mul,Nat.zero_add] at k3;have c3:=ao.cells.1.2.2.2.1;obtain⟨m3,bZ⟩:=exQ<|z3.length;have hm30:(0:Int)<(m3:Int):=by have:=ay.out.2;omega
       rw[bZ] at c3;have a4:=ao.lt;clear ao bl av hy bO bZ;cases N2 with
       | bad a er=>
        have T:=hid (aK (show ((⟨[],[]⟩:dU),a,er)=R from bx.out) (show er≠0 from ar.out.2.2));go_wp2_with fail;refine(aN.out _ I_).mono ?_;rintro e w7 ⟨⟨m,rfl⟩,q⟩;have HF:=hid q;clear q aN c3 k3 a4;obtain⟨bb,z,am,ak,aj,K,b⟩:=HF.out;obtain⟨⟨c0,c1,c2,c3,c4,c5,c6⟩,C,B,t,A,s⟩:=b.cells;have Y:=b.lt;have d:w7.heap[D]?=some (.cells #[.string ⟨#[]⟩,(),()] 26):=(b.bel.block D a_).trans ad.out;exact D0
       | ok k2 ls2=>
        go_wp2_with fail;refine aH (aN.out _ I_) λw7 aW=>?_;have bh:=hid aW;clear aN c3 k3 a4;obtain⟨z,am,ak,aj,K,b⟩:=aW;obtain⟨ps4,cs4,rfl⟩:=b.spSlice;have f:=bx.out;by_cases hlt2:k2<sp.length
        .rw[if_pos hlt2] at f;have d7:decide ((k2:Int)<(sp.length:Int))=true:=aQ a_;have cb:decide (k2<sp.length)=true:=aQ hlt2;have hh:=(ar.out.hit hlt2).1;have a7:=ar.out.ok.2 k2 a_;have c1:=b.cells.1.2.1;have bW:=b.lt;obtain⟨bg,bp⟩:=exQ<|((lY sp k2).1:Int)+(aU ls2 k2).ind;rw[bp] at f;have T:=hid (aK (show ((⟨[],[]⟩:dU),bg,(2:Int))=R from f) (show (2:Int)≠0 by decide));have CT:=hid (λw' hj=>Gc (Pr:=λ_=>none) (w0:=w1) (P:=P) (txt:=l) (sp:=sp) (st:=⟨ls2,st.nodes,st.total⟩) (a0:=0) (e0:=0) k2 w' hj hlt2 IX a7 aa);simp only[bp] at CT;have CF:=hid (λa w' hj=>tV (Pr:=λ_=>none) (w0:=w1) (P:=P) (txt:=l) (sp:=sp) (st:=⟨ls2,st.nodes,st.total⟩) (a0:=0) (e0:=0) a 2 w' hj);clear f hlt2 hh a7 bp b K;go_wp2_with fail;refine aH (CT.out _ (by first | exact bh.out | exact bh.out.keep (aD _ _).drew)) λw8 bm=>?_;have bE:=hid (bh.out.keep (by first | exact bm | exact aE (aD _ _).drew bm));clear bm c1;go_wp2_with fail;refine aH (CF.out _ _ (by first | exact bE.out | exact bE.out.keep (aD _ _).drew)) λw9 bH=>?_;have HF:=hid bH.bad;clear bH bW;obtain⟨bb,z,am,ak,aj,K,b⟩:=HF.out;obtain⟨⟨c0,c1,c2,c3,c4,c5,c6⟩,C,B,t,A,s⟩:=b.cells;have Y:=b.lt;have d:w9.heap[D]?=some (.cells #[.string ⟨#[]⟩,(),()] 26):=(b.bel.block D a_).trans ad.out;exact D0
        .rw[if_neg hlt2] at f;have T:=hid f;have d7:decide ((k2:Int)<(sp.length:Int))=false:=aJ a_;have cb:decide (k2<sp.length)=false:=aJ hlt2;clear f hlt2;obtain⟨⟨c0,c1,c2,c3,c4,c5,c6⟩,C,B,t,A,s⟩:=b.cells;obtain⟨ql,cl,rfl⟩:=b.lnSlice;obtain⟨qn,cn,rfl⟩:=b.ndSlice;have Y:=b.lt;have d:w7.heap[D]?=some (.cells #[.string ⟨#[]⟩,(),()] 26):=(b.bel.block D a_).trans ad.out;obtain⟨e0,e1,e2,aO,aR,aT⟩:=eA d;have aM:D≠P:=a_;have HK:=hid b;have HZ:=hid K;have X:=hid d;obtain⟨nl,E⟩:=exQ<|ls2.length;obtain⟨nz,F⟩:=exQ<|z.length
         try simp only[] at c2 c3
         rw[E] at c2;rw[F] at c3;have ap:=hid (aK E F);clear b K d d0 d1 d2 f0 f1 f2 E F c4 c5 c6 C B t A s;go_upto_region 20 with fail;go_region
         all_goals
          go_wp2_with fail
          try simp only[Exit.inBlock,Exit.then]
          refine bodyPost_ret (rA rfl _ _ rfl (u:= .string (bs l)) (v:= .slice ql nl cl) (x:= .slice qn nz cn) ?_ ?_ ?_) rfl ?_
          .exact al
          .exact al
          .exact al
          .obtain⟨n1,n2⟩:=ap.out;subst n1 n2;have hg:=gX (gX (dP w7 D 0 (.string (bs l))) (dP _ D 1 (.slice ql ls2.length cl))) (dP _ D 2 (.slice qn z.length cn));have ae:=World.ownsRow.kept HK.out.lnr hg (dG HK.out.lnr X.out b_);have Z:=HK.out.nod.other X.out b_ b_ hg;have j:w.heap.size<=w1.heap.size:=W.out.size;rw[<-T.out];refine⟨bs l,_,_,rfl,rfl,(show eP w.heap.size ⟨ls2,_⟩ _ _ _ from eP.keep (w:=((w7.setCell ⟨D,0,none⟩ (.string (bs l))).setCell ⟨D,1,none⟩ (.slice ql ls2.length cl)).setCell ⟨D,2,none⟩ (.slice qn z.length cn)) ⟨z,HZ.out,yX ae j,Z.base j⟩ (aD _ _).drew),?_⟩;exact fg):P:=h
theorem PT(h:P:=by
 first
 |first|have _:=RR|have _:=RT
  intro t kv iv w h K
 |intro t t2 kv iv kv2 iv2 w h h' K A
 obtain⟨m',hm,⟨pk,ck,rfl,aB,m⟩,p,c,rfl,aM,R⟩:=h.parts;obtain rfl:n=m':=a_
 first|have _:=RV;obtain⟨m2,aF,⟨G,E,rfl,au,u⟩,p2,c2,rfl,aj,aa⟩:=h'.parts;obtain rfl:n=m2:=by omega|skip
 obtain⟨X,hX⟩:=exQ<|w.heap.size;obtain⟨W1,r⟩:=exQ<|w.alloc (.cells #[t.kind,bs t.text, .slice pk t.keys.length ck, .slice p t.items.length c] 36)
 first
 |first|have _:=RR|have _:=RT
  have ag:Hid (aA w W1):=hid (by rw[<-r];exact aL _ _);have B:Hid (kK W1 X t (.slice pk t.keys.length ck) (.slice p t.items.length c)):=hid (by rw[<-r,<-hX];exact kK.new w t _ _);have ad:=hid (R.keep ag.out);have av:=hid (m.keep ag.out);have hb0:t.bulk=t.text.length+(oU t.keys+t.keys.length)+iZ t.items+1:=by cases t;rw[VT.bulk];rfl
  have hlen:=zV t.items
 |skip
 first
 |have _:=RR;have ab:t.size=fU t.items+1:=by cases t;rw[VT.size];rfl
  have aP:=Ji t.items
 |have _:=RT;have ab:t.depth=fL t.items+1:=by cases t;rw[VT.depth];rfl
  have aP:=zU t.items
 |skip
 first
 |first|have _:=RR|have _:=RT
  rw[ab];unfold vv;clear R m h hm ab
 |obtain⟨X2,am⟩:=exQ<|W1.heap.size
  obtain⟨W2,U⟩:=exQ<|W1.alloc (.cells #[t2.kind,bs t2.text, .slice G t2.keys.length E, .slice p2 t2.items.length c2] 36);have ak:aA w W1:=by rw[<-r];exact aL _ _
  have M:aA W1 W2:=by rw[<-U];exact aL _ _
  have f:=hid (aE ak M);have B:Hid (kK W2 X t (.slice pk t.keys.length ck) (.slice p t.items.length c)):=hid (kK.keep (by rw[<-r,<-hX];exact kK.new w t _ _) M);have z:Hid (kK W2 X2 t2 (.slice G t2.keys.length E) (.slice p2 t2.items.length c2)):=hid (by rw[<-U,<-am];exact kK.new W1 t2 _ _);have ad:=hid (R.keep f.out);have aq:=hid (aa.keep f.out);have av:=hid (m.keep f.out);have ax:=hid (u.keep f.out);obtain⟨k1,V⟩:=exQ<|t.kind;obtain⟨k2,Q⟩:=exQ<|t2.kind;obtain⟨x1,W⟩:=exQ<|t.text;obtain⟨x2,O⟩:=exQ<|t2.text;obtain⟨n1,C⟩:=exQ<|t.keys.length;obtain⟨n2,L⟩:=exQ<|t2.keys.length;obtain⟨i1,l⟩:=exQ<|t.items.length;obtain⟨i2,D⟩:=exQ<|t2.items.length;unfold kK at B z;unfold vv;rw[V,W,C,l] at r B;rw[Q,O,L,D] at U z;rw[V,Q,W,O,C,L,l,D];have I:=hid (aK C (aK L (aK l D)));have aR:Hid (n1<=1073741824/\i1<=1073741824/\n2<=1073741824/\i2<=1073741824):=hid (by rw[<-C,<-L,<-l,<-D];exact⟨K.1,K.2.1,A.1,A.2.1⟩);have ao:Hid ((∀x∈t.items,nC n x)/\ ∀x∈t2.items,nC n x):=hid ⟨K.2.2,A.2.2⟩;have T:=hid (aK V (aK Q (aK W O)));clear R m h hm ak M aa u h' aF V Q W O C L l D K A aB au aM aj;have hq:=aR.out;have af:Hid (∀w',aA W2 w'->(w'.cell? (X,0)=some (.int .i64 k1)/\w'.cell? (X,1)=some (.string (bs x1))/\w'.cell? (X,2)=some (.slice pk n1 ck)/\w'.cell? (X,3)=some (.slice p i1 c))/\w'.cell? (X2,0)=some (.int .i64 k2)/\w'.cell? (X2,1)=some (.string (bs x2))/\w'.cell? (X2,2)=some (.slice G n2 E)/\w'.cell? (X2,3)=some (.slice p2 i2 c2)):=hid (λw' h=>by obtain⟨e0,e1,e2,e3,_⟩:=bK ((h.block X (aG B.out)).trans B.out);obtain⟨f0,f1,f2,f3,_⟩:=bK ((h.block X2 (aG z.out)).trans z.out);exact⟨⟨e0,e1,e2,e3⟩,f0,f1,f2,f3⟩);have k:Hid (∀(b:Bool) w',(t=t2->b=true)->aA W2 w'->Pw t t2 (.returned (.bool b))/\aA w w'):=hid (λb w' hb h=>⟨⟨b,rfl,hb⟩,aE f.out h⟩)
 go_in;go_upto_region 1 with fail
 first
 |first|have _:=RR|have _:=RT
  clear r;go_wp2
 |skip
 first|have _:=RR;go_loopw [3,4] (λs3 s4 wr=> ∃i:Nat,s3= .int .i64 (((fU (t.items.take i)+1:Nat)):Int)/\s4= .int .i64 (i:Int)/\i<=t.items.length/\Hid (aA W1 wr)) (λ_ s4 _=>t.items.length-(RowKit.intOf s4).toNat)|have _:=RT;go_loopw [3,4] (λs3 s4 wr=> ∃i:Nat,s3= .int .i64 (fL (t.items.take i):Int)/\s4= .int .i64 (i:Int)/\i<=t.items.length/\Hid (aA W1 wr)) (λ_ s4 _=>t.items.length-(RowKit.intOf s4).toNat)|skip
 first
 |first|have _:=RR|have _:=RT
  case atStart=>exact⟨0,by rw[List.take_zero];rfl,rfl,cI _,hid f_⟩
  case round=>
   obtain⟨i,rfl,rfl,hi,a⟩:=hrel;obtain⟨b0,b1,b2,b3⟩:=(B.out.keep a.out).cells;by_cases hil:i<t.items.length
   .obtain⟨x,v⟩: ∃x,t.items[i]?=some x:=⟨_,bI hil⟩;have l:(i:Int)<(t.items.length:Int):=a_;have dk:decide ((i:Int)<(t.items.length:Int))=true:=aQ l;have hxb:=zW (bH v);obtain⟨g,o,aS,aU,rfl,N,n0,n1,n2,n3,s⟩:=ad.out i x v;obtain⟨G,E,px,cx,rfl,rfl⟩:=s.form;have m0:wr.cell? (g,o+i*4)=some (.int .i64 x.kind):=by rw[a.out.cell (p:=⟨g,_,none⟩) N];exact n0
    have m1:wr.cell? (g,o+i*4+1)=some (.string (bs x.text)):=by rw[a.out.cell (p:=⟨g,_,none⟩) N];exact n1
    have m2:wr.cell? (g,o+i*4+2)=some (.slice G x.keys.length E):=by rw[a.out.cell (p:=⟨g,_,none⟩) N];exact n2
    have m3:wr.cell? (g,o+i*4+3)=some (.slice px x.items.length cx):=by rw[a.out.cell (p:=⟨g,_,none⟩) N];exact n3
    have HC:=hid (IH x _ _ wr (s.keep a.out) a_);unfold vv at HC
    first
    |have _:=RR;obtain⟨S,hS⟩:=exQ<|fU (t.items.take i)
     have Y:fU (t.items.take (i+1))=S+x.size:=by rw[Ou v,zS,hS];simp[fU]
     have hle:S+x.size<=fU t.items:=by
      have:fU t.items=fU (t.items.take (i+1))+fU (t.items.drop (i+1)):=(by rw[<-zS,sS]);omega
    |obtain⟨S,hS⟩:=exQ<|fL (t.items.take i)
     have Y:fL (t.items.take (i+1))=max S x.depth:=by rw[Ou v,Dq,hS];simp[fL]
    have I:=hid Y;rw[hS];clear v s n0 n1 n2 n3 Y hS;go_wp2_with fail;refine aH HC.out λw2 an=>?_;have f:=hid (aE a.out an);clear an b0 b1 b2 b3 m0 m1 m2 m3 HC;go_wp2;go_roundw
    first
    |have _:=RR;case rel=>exact⟨i+1,by rw[I.out];go_num,t_,a_,by first | exact f | exact hid (below_drewN f.out _)⟩
    |case rel=>exact⟨i+1,by rw[I.out];first | rfl | (congr 1;omega) | (simp;omega),t_,a_,by first | exact f | exact hid (below_drewN f.out _)⟩
    case measure=>simp[RowKit.intOf];omega
   .have dk:decide ((i:Int)<(t.items.length:Int))=false:=aJ a_;obtain rfl:i=t.items.length:=a_;rw[List.take_length];have f:=hid (aE ag.out a.out);go_wp2;go_ret;exact⟨by first | rfl | simp,by first | exact f.out | (rw[<-hX];exact f.out)⟩
 |clear r U am;obtain⟨⟨b0,b1,b2,b3⟩,d0,d1,d2,d3⟩:=af.out W2 (aD _ _);by_cases hk:k1=k2;rotate_left
  .have H:=hid hk;have ek:(k1 !=k2)=true:=JY;have aO:(k1==k2)=false:=JY;go_wp2;go_ret;exact k.out _ _ (λe=>absurd (by rw[<-T.out.1,<-T.out.2.1,e]) H.out) f_
  have ek:(k1 !=k2)=false:=JY
  have aO:(k1==k2)=true:=JY
  obtain⟨q1,et⟩:=exQ ((bs x1).toList==(bs x2).toList);have et2:((bs x1).toList !=(bs x2).toList)=!q1:=by rw[<-et];rfl
  have ai:=hid et;cases q1 with
  | false=>
   clear hk;go_wp2;go_ret;exact k.out _ _ (λe=>by have:=ai.out;rw[<-T.out.2.2.1,<-T.out.2.2.2,e] at this;simp at this) f_
  | true=>
  by_cases Y:n1=n2;rotate_left
  .have H:=hid Y;have el:((n1:Int) !=(n2:Int))=true:=by simp;omega
   have el2:(n1 !=n2)=true:=(by simpa using Y);have el3:((n1:Int)==(n2:Int))=false:=by simp;omega
   have el4:(n1==n2)=false:=(by simpa using Y);clear hk;go_wp2;go_ret;exact k.out _ _ (λe=>absurd (by rw[<-I.out.1,<-I.out.2.1,e]) H.out) f_
  by_cases hi:i1=i2;rotate_left
  .have H:=hid hi;have ei:((i1:Int) !=(i2:Int))=true:=by simp;omega
   have ei2:(i1 !=i2)=true:=(by simpa using hi);have ei3:((i1:Int)==(i2:Int))=false:=by simp;omega
   have ei4:(i1==i2)=false:=(by simpa using hi);clear hk;subst Y;go_wp2;go_ret;exact k.out _ _ (λe=>absurd (by rw[<-I.out.2.2.1,<-I.out.2.2.2,e]) H.out) f_
  subst Y hi;clear hk;go_wp2_with fail;clear b0 b1 b2 b3 d0 d1 d2 d3;go_loopw [5] (λs5 wr=> ∃i:Nat,s5= .int .i64 (i:Int)/\i<=n1/\Hid (aA W2 wr)) (λs5 _=>n1-(RowKit.intOf s5).toNat)
  case atStart=>exact⟨0,rfl,cI _,hid f_⟩
  case round=>
   obtain⟨i,rfl,hi,a⟩:=hrel;obtain⟨⟨b0,b1,b2,b3⟩,d0,d1,d2,d3⟩:=af.out wr a.out;by_cases hil:i<n1
   .obtain⟨x,v⟩: ∃x,t.keys[i]?=some x:=⟨_,bI (by rw[I.out.1];exact hil)⟩;obtain⟨y,Z⟩: ∃x,t2.keys[i]?=some x:=⟨_,bI (by rw[I.out.2.1];exact hil)⟩;have l:(i:Int)<(n1:Int):=a_;have dk:decide ((i:Int)<(n1:Int))=true:=aQ l;obtain⟨g,o,rfl,cx⟩:=(av.out.keep a.out).at_ v;obtain⟨g2,o2,rfl,ar⟩:=(ax.out.keep a.out).at_ Z;obtain⟨q,ex⟩:=exQ ((bs x).toList==(bs y).toList);have ex2:((bs x).toList !=(bs y).toList)=!q:=by rw[<-ex];rfl
    have ai:=hid ex;have ah:=hid (aK v Z);have hi0:(0:Int)<=(i:Int):=a_;clear v Z;go_upto_region 6 with fail;go_region
    all_goals
     cases q with
     | false=>
      go_wp2;go_ret;exact k.out _ _ (λe=>by have h1:=ai.out;have h2:=ah.out;rw[e,h2.2] at h2;rw[bA h2.1] at h1;simp at h1) (by first | exact a.out | exact a.out.drew)
     | true=>
      go_wp2;go_roundw
      case rel=>exact⟨i+1,t_,a_,by first | exact a | exact hid (below_drewN a.out _)⟩
      case measure=>simp[RowKit.intOf];omega
   .have dk:decide ((i:Int)<(n1:Int))=false:=aJ a_;go_wp2_with fail;clear b0 b1 b2 b3 d0 d1 d2 d3;go_loopw [6,7] (λs6 s7 wq=> ∃i:Nat,s6= .int .i64 (i:Int)/\i<=i1/\Hid (aA W2 wq)) (λs6 _ _=>i1-(RowKit.intOf s6).toNat)
    case atStart=>exact⟨0,rfl,cI _,a⟩
    case round=>
     obtain⟨j,rfl,hj,d⟩:=hrel;obtain⟨⟨b0,b1,b2,b3⟩,d0,d1,d2,d3⟩:=af.out wr d.out;by_cases hjl:j<i1
     .obtain⟨x,v⟩: ∃x,t.items[j]?=some x:=⟨_,bI (by rw[I.out.2.2.1];exact hjl)⟩;obtain⟨y,Z⟩: ∃x,t2.items[j]?=some x:=⟨_,bI (by rw[I.out.2.2.2];exact hjl)⟩;have aC:(j:Int)<(i1:Int):=a_;have aV:decide ((j:Int)<(i1:Int))=true:=aQ aC;have ah:=hid (aK v Z);obtain⟨g,o,aS,aU,rfl,N,n0,al,n2,n3,s⟩:=ad.out j x v;obtain⟨aT,ay,px,cx,rfl,rfl⟩:=s.form;obtain⟨g2,o2,kv'',iv'',rfl,J,z0,z1,z2,z3,F⟩:=aq.out j y Z;obtain⟨aN,aI,az,ar,rfl,rfl⟩:=F.form;have m0:wr.cell? (g,o+j*4)=some (.int .i64 x.kind):=by rw[d.out.cell (p:=⟨g,_,none⟩) N];exact n0
      have m1:wr.cell? (g,o+j*4+1)=some (.string (bs x.text)):=by rw[d.out.cell (p:=⟨g,_,none⟩) N];exact al
      have m2:wr.cell? (g,o+j*4+2)=some (.slice aT x.keys.length ay):=by rw[d.out.cell (p:=⟨g,_,none⟩) N];exact n2
      have m3:wr.cell? (g,o+j*4+3)=some (.slice px x.items.length cx):=by rw[d.out.cell (p:=⟨g,_,none⟩) N];exact n3
      have q0:wr.cell? (g2,o2+j*4)=some (.int .i64 y.kind):=by rw[d.out.cell (p:=⟨g2,_,none⟩) J];exact z0
      have q1:wr.cell? (g2,o2+j*4+1)=some (.string (bs y.text)):=by rw[d.out.cell (p:=⟨g2,_,none⟩) J];exact z1
      have q2:wr.cell? (g2,o2+j*4+2)=some (.slice aN y.keys.length aI):=by rw[d.out.cell (p:=⟨g2,_,none⟩) J];exact z2
      have q3:wr.cell? (g2,o2+j*4+3)=some (.slice az y.items.length ar):=by rw[d.out.cell (p:=⟨g2,_,none⟩) J];exact z3
      have HC:=hid (IH x y _ _ _ _ wr.drew ((s.keep d.out).keep (aD _ _).drew) ((F.keep d.out).keep (aD _ _).drew) (ao.out.1 x (bH v)) (ao.out.2 y (bH Z)));unfold vv at HC;have hj0:(0:Int)<=(j:Int):=a_;clear v Z n0 al n2 n3 z0 z1 z2 z3 s F N J;go_upto_region 11 with fail;go_region_with (go_at_call 12;(refine HC.out.mono ?_);rintro e w6 ⟨⟨bq,rfl,aw⟩,ap⟩)
      all_goals
       have P:=hid (aE d.out (aE (aD _ _).drew ap));have ae:=hid aw;clear aw ap b0 b1 b2 b3 d0 d1 d2 d3 m0 m1 m2 m3 q0 q1 q2 q3;cases bq with
       | false=>
        have ae:Hid (x=y->False):=hid (λe=>by cases ae.out e);go_wp2;go_ret;exact k.out _ _ (λe=>by have h2:=ah.out;rw[e,h2.2] at h2;exact(ae.out (bA h2.1).symm).elim) (by first | exact P.out | exact P.out.drew)
       | true=>
        go_wp2;go_roundw
        case rel=>exact⟨j+1,t_,a_,by first | exact P | exact hid (below_drewN P.out _)⟩
        case measure=>simp[RowKit.intOf];omega
     .have aV:decide ((j:Int)<(i1:Int))=false:=aJ a_;go_wp2;go_ret;exact k.out _ _ (λ_=>rfl) (by first | exact d.out | exact d.out.drew)):P:=h
theorem ES(h:P:=by
 obtain⟨cX,ji⟩:=hcut;clear HC lT mO x0 x6 x7 x8 e0 e1 e2 kc hr;obtain⟨W0,al⟩:=exQ<|wc.drew;have fK:aA wc W0:=by rw[<-al];exact(aD _ _).drew
 have au:=hid (ji.out.keep fK);have cy:((x.kids.take i).map (aX s d lv)++ [aX s d lv q]).length=i+1:=by rw[aZ,bP,bR,dF];have:=kK.out.1;omega
 have i5:((x.kids.take i).map (aX s d lv)).length<=4294967295:=by rw[bP,bR];omega
 have fu:=hid (aK cy i5);clear cy i5 fK
 first
 |have _:=QN;go_upto_region 20 with fail;obtain⟨SA,ak⟩: ∃S:World->Prop,(λw'=>(w'.cell? (Y,3)=some (.slice po i co)/\w'.frozen? ⟨Y,3,none⟩=false)/\w'.cell? (D,0)=some (.string (bs s))/\w'.cell? (D,1)=some (.slice pl nl cl)/\w'.cell? (D,2)=some (.slice (some ⟨gn,0,none⟩) nz cn))=S:=⟨_,rfl⟩;have am:Hid (∀w',aA W0 w'->SA w'):=hid (λw' hb=>by rw[<-ak];obtain⟨⟨a3,a4,a5⟩,_,_⟩:=bN.out w' (aE au.out.bel hb);have q:=(au.out.keep hb).cells;exact⟨⟨q.2.2.2.1,q.2.2.2.2.2.2.2⟩,a3,a4,a5⟩);have ia:Hid (∀w' c',fC W0 Y cX.ownBlock (aX s d lv q) ((x.kids.take i).map (aX s d lv)) (.slice po i co) 3 c' w'->SA w'):=hid (λw' c' hp=>by rw[<-ak];obtain⟨q1,q2,q3,q4⟩:=hp;have ez:=au.out.box;have hn:=au.out.new_;have ip:Below (Y+1) W0 w':=q2;have e2:w'.heap[Y]?=_:=(ip.block Y (rL _)).trans ez;have e3: ∀o',w'.cell? ⟨D,o',none⟩=W0.cell? ⟨D,o',none⟩:=λo'=>ip.cell (p:=⟨D,o',none⟩) (by show D<Y+1;omega);obtain⟨⟨a3,a4,a5⟩,_,_⟩:=bN.out W0 au.out.bel;obtain⟨y0,y1,y2,y3,y4,y5,y6,y7⟩:=bK e2;exact⟨⟨y3,y7⟩,by rw[e3];exact a3,by rw[e3];exact a4,by rw[e3];exact a5⟩);refine iV [89,90,91,92,93,94,95,96,97,98] [10] [6,7,8,10] 1000000 (λ_ _=>True) 101 [(Y,3), .slice po i co, .agg #[bs s, .slice pl nl cl,(gn,nz,cn)],q,lev,(lev+1:Int),undef,undef,undef,(Y,3)] SA (fC W0 Y cX.ownBlock (aX s d lv q) ((x.kids.take i).map (aX s d lv)) (.slice po i co)) [6,7,8,10,0,3,4,5,9,1,2] j_ i_ ?_ ?_
 |go_upto_region 18 with fail;obtain⟨SA,ak⟩: ∃S:World->Prop,(λw'=>(w'.cell? (Y,3)=some (.slice po i co)/\w'.frozen? ⟨Y,3,none⟩=false)/\w'.cell? (D,0)=some (.string (bs s))/\w'.cell? (D,1)=some (.slice pl nl cl)/\w'.cell? (D,2)=some (.slice (some ⟨gn,0,none⟩) nz cn)/\w'.cell? (X,8)=some (.slice (some ⟨gk,0,none⟩) mk ck)/\w'.cell? (gk,i)=some (.int .i64 (q:Int)))=S:=⟨_,rfl⟩;have am:Hid (∀w',aA W0 w'->SA w'):=hid (λw' hb=>by rw[<-ak];obtain⟨⟨a3,a4,a5⟩,⟨_,_,_,a8⟩,_⟩:=bN.out w' (aE au.out.bel hb);have qc:=(au.out.keep hb).cells;exact⟨⟨qc.2.2.2.1,qc.2.2.2.2.2.2.2⟩,a3,a4,a5,a8,mF.out.1 w' (aE au.out.bel hb)⟩);have ia:Hid (∀w' c',fC W0 Y cX.ownBlock (aX s d lv q) ((x.kids.take i).map (aX s d lv)) (.slice po i co) 3 c' w'->SA w'):=hid (λw' c' hp=>by rw[<-ak];obtain⟨q1,q2,q3,q4⟩:=hp;have ez:=au.out.box;have hn:=au.out.new_;have ip:Below (Y+1) W0 w':=q2;have e2:w'.heap[Y]?=_:=(ip.block Y (rL _)).trans ez;have e3: ∀o',w'.cell? ⟨D,o',none⟩=W0.cell? ⟨D,o',none⟩:=λo'=>ip.cell (p:=⟨D,o',none⟩) (by show D<Y+1;omega);obtain⟨⟨a3,a4,a5⟩,⟨_,_,_,a8⟩,_⟩:=bN.out W0 au.out.bel;have a9:=mF.out.1 W0 au.out.bel;have km:=mF.out.2;obtain⟨y0,y1,y2,y3,y4,y5,y6,y7⟩:=bK e2;exact⟨⟨y3,y7⟩,by rw[e3];exact a3,by rw[e3];exact a4,by rw[e3];exact a5,(ip.cell (p:=⟨X,8,none⟩) (by show X<Y+1;omega)).trans a8,(ip.cell (p:=⟨gk,i,none⟩) (by show gk<Y+1;omega)).trans a9⟩);refine iV [85,86,87,88,89,90,91,92,93,94,95,96] [12] [8,9,10,12] 1000000 (λ_ _=>True) 98 [(Y,3), .slice po i co, .agg #[bs s, .slice pl nl cl,(gn,nz,cn)],(X,8),(gk,mk,ck),i,(gk,i),q,undef,undef,undef,(Y,3)] SA (fC W0 Y cX.ownBlock (aX s d lv q) ((x.kids.take i).map (aX s d lv)) (.slice po i co)) [8,9,10,12,0,3,5,6,11,1,2,4,7] j_ i_ ?_ ?_
 · intro dd a w' iq o' hO ho hi F aa G R' I;first|have _:=QN;have Z:=dW aa [(2,lev),(3,some D),(8,some Y),(12,q)] rfl rfl;have hc:=G.all [(0,89),(1,90),(2,91),(3,92),(4,93),(5,94),(9,98)] b_|have Z:=dW aa [(2,some D),(5,some X),(8,some Y),(9,i)] rfl rfl;have hc:=G.all [(0,85),(1,86),(2,87),(3,88),(4,89),(5,90),(6,91),(7,92),(11,96)] b_
   dsimp only[dS,dM,lk] at Z hc;clear aa;have ha:=F;have aj:=ho
   repeat' rcases hO with _ | ⟨_,hO⟩
   all_goals (simp only[cR,cP,bY,cC] at ho;subst ho;try simp[Region.binds] at F)
   · first
     |have _:=QN;have xe:=G.gg 2 91 c_;have vy:=G.gg 3 92 c_;have Dm:=G.gg 5 94 c_
     |have AN:=G.gg 2 87 c_;have vy:=G.gg 7 92 c_
     have ae:=G.at2 (j:=0) rfl hi (.inl rfl);have hA:aA W0 w':=ae;go_simp;first|have _:=QN;go_at_call 26|go_at_call 13
     refine(og.out _ (aE au.out.bel hA) q qj.out).mono ?_;rintro e w5 ⟨⟨ed,eh,rfl,d9⟩,ag⟩;have bj:=aE hA ag;exact I _ _ (G.ef 0 aj ha hi (.inl rfl) (λ_ _ _=>trivial) (λ_=>am.out _ bj) ⟨ed,eh,rfl,d9.mono (λq Z _=>bF hA.size Z),bj⟩)
   · first
     |have _:=QN;have ad:dd 6=true:=c_
      have ae:=G.at2 (j:=1) rfl hi (.inr ⟨6,rfl,ad⟩)
     |have ad:dd 8=true:=c_
      have ae:=G.at2 (j:=1) rfl hi (.inr ⟨8,rfl,ad⟩)
     obtain⟨ed,eh,iE,d9,ag⟩:=ae;first|have _:=QN;have iE:a.tmps.getD 95 undef=vv (aX s d lv q) ed eh:=iE;have wS:a.tmps[95]?.getD undef= .agg #[.int .i64 (aX s d lv q).kind,bs (aX s d lv q).text,ed,eh]:=by rw[<-aN];exact iE|have iE:a.tmps.getD 93 undef=vv (aX s d lv q) ed eh:=iE;have c93:a.tmps[93]?.getD undef= .agg #[.int .i64 (aX s d lv q).kind,bs (aX s d lv q).text,ed,eh]:=by rw[<-aN];exact iE
     have bj:=λob=>aE ag (aL w' ob);go_simp;first|have _:=QN;exact I _ _ (G.ef 1 aj ha hi (.inr ⟨6,rfl,ad⟩) (λ_ _ _=>trivial) (λ_=>am.out _ (bj _)) ⟨w',ed,eh,d9,ag,rfl,rfl⟩)|exact I _ _ (G.ef 1 aj ha hi (.inr ⟨8,rfl,ad⟩) (λ_ _ _=>trivial) (λ_=>am.out _ (bj _)) ⟨w',ed,eh,d9,ag,rfl,rfl⟩)
   first
   |have _:=QN
    · have xp:=G.gg 1 90 c_;have ad:dd 7=true:=c_;have ae:=G.at2 (j:=2) rfl hi (.inr ⟨7,rfl,ad⟩);have zS:a.tmps.getD 90 undef= .slice po i co:=by rw[aN];exact xp
      exact fC.app (.tmp 90) (.tmp 96) rfl au.out ae zS rfl fu.out.2 (λv' w2 bE=>I _ _ (G.ef 2 aj ha hi (.inr ⟨7,rfl,ad⟩) (λ_ _ _=>trivial) (λ_=>ia.out _ _ bE) bE))
   |· have vZ:=G.gg 1 86 c_
      have ad:dd 9=true:=c_;have ae:=G.at2 (j:=2) rfl hi (.inr ⟨9,rfl,ad⟩);have wA:a.tmps.getD 86 undef= .slice po i co:=by rw[aN];exact vZ
      exact fC.app (.tmp 86) (.tmp 94) rfl au.out ae wA rfl fu.out.2 (λv' w2 bE=>I _ _ (G.ef 2 aj ha hi (.inr ⟨9,rfl,ad⟩) (λ_ _ _=>trivial) (λ_=>ia.out _ _ bE) bE))
   · first
     |have _:=QN;have zn:=G.gg 9 98 c_;have ad:dd 8=true:=c_;have ae:=G.at2 (j:=3) rfl hi (.inr ⟨8,rfl,ad⟩);have cw:fC W0 Y cX.ownBlock (aX s d lv q) ((x.kids.take i).map (aX s d lv)) (.slice po i co) 3 (a.tmps.getD 97 undef) w':=ae
     |have nA:=G.gg 11 96 c_;have ad:dd 10=true:=c_;have ae:=G.at2 (j:=3) rfl hi (.inr ⟨10,rfl,ad⟩);have cw:fC W0 Y cX.ownBlock (aX s d lv q) ((x.kids.take i).map (aX s d lv)) (.slice po i co) 3 (a.tmps.getD 95 undef) w':=ae
     have ab:=G.st hi;rw[<-ak] at ab;obtain⟨⟨x3,ik⟩,_⟩:=ab;obtain⟨i3,dD,hz⟩:=cw.1.slice;rw[fu.out.1] at hz;rw[hz] at cw
     first
     |have _:=QN;have zL:a.tmps[97]?.getD undef= .slice i3 (i+1) dD:=by rw[<-aN];exact hz
      go_simp;exact I undef _ (G.ef 3 aj ha hi (.inr ⟨8,rfl,ad⟩) (λ_ _ _=>trivial) (λh=>absurd rfl h) ⟨_,_,cw,rfl⟩)
     |have wS:a.tmps[95]?.getD undef= .slice i3 (i+1) dD:=by rw[<-aN];exact hz
      go_simp;exact I undef _ (G.ef 3 aj ha hi (.inr ⟨10,rfl,ad⟩) (λ_ _ _=>trivial) (λh=>absurd rfl h) ⟨_,_,cw,rfl⟩)
   iterate 5 (go_simp;exact I _ _ (G.pu aj ha))
   all_goals
     have ab:=G.ea hi;rw[<-ak] at ab;first|have _:=QN;obtain⟨⟨x3,ik⟩,s0,s1,s2⟩:=ab|obtain⟨⟨x3,ik⟩,s0,s1,s2,s8,sk⟩:=ab
     exact ah
 intro v wz bf fV;obtain⟨rk,fH⟩:=fC.fin au.out fV;have fH:Hid (CS W3 Y kd [] (eB s d.nodes x.kind (x.kids.take (i+1))) ((x.kids.take (i+1)).map (aX s d lv)) cX rk wz):=hid (by
   have e:(x.kids.take (i+1)).map (aX s d lv)=(x.kids.take i).map (aX s d lv)++ [aX s d lv q]:=by rw[kJ.out,lJ];rfl
   rw[e];exact fH)
 clear bf fV ia am ak au al ji;simp only[cU,cY,cQ,cZ];exact p7):P:=h
theorem H5(h:P:=by
 have sl:=aP l;obtain⟨R,hR⟩:=exQ<|fD l;rw[hR];unfold fD at hR;have h0:0<(bs l).size:=by rw[aP];exact rS.2 hne
 have hl0:0<l.length:=a_
 have ae:=iX l 34 34 rfl h0;have aa:=iX l 39 39 rfl h0;have al:=iX l 91 91 rfl h0;have ad:=iX l 123 123 rfl h0;obtain⟨x,hx⟩: ∃x:Int,(((bs l)[0]'h0).toNat:Int)=x:=⟨_,rfl⟩;first|have:=L2;obtain⟨F1,F2⟩:=aAh l h0 x hx|skip
 rw[hx] at ae aa al ad;first|have:=J6;have HV:=hid hV;have HT:=hid hT;have HM:=hid hM;clear hV hT hM hne|skip
 cases ap:gZ l 0 45 with
 | true=>
  first|have:=J6;have CS:=hid (λw=>wK l 0 45 0 45 true rfl rfl ap hs a_ w)|skip
  rw[if_pos ap] at hR;subst hR
  first
  |have:=J6;clear ap ae aa al ad;exact iu
  |obtain⟨bG,hr⟩:=F1 ap;clear ap ae aa al ad F1 F2;rcases hr with t1 | ⟨t1,h1,ty⟩
   all_goals exact OY
 | false=>
  first|have:=J6;have CS:=hid (λw=>wK l 0 45 0 45 false rfl rfl ap hs a_ w)|skip
  rw[if_neg (by rw[ap];simp)] at hR;first|have:=J6;clear ap|have hr:=F2 ap;clear ap F1 F2
  by_cases V:l.head?=some 34\/l.head?=some 39
  .rw[if_pos V] at hR;first|have:=J6;have CQ:=hid (λw hV hT=>Fh l w hs hV hT)|have CQ:=hid (λw=>Bw l w hs)
   obtain⟨q,cc⟩:=exQ<|dA l;have cI:=Bg l;rw[cc] at CQ hR cI;clear al ad;have TQ:((x==34)||(x==39))=true:=by
    rw[ae,aa];rcases V with h | h<;>rw[h]<;>rfl
   first
   |have:=L2;have HQ:x=34\/((x==34)=false/\x=39):=by
     by_cases h:x=34
     .exact .inl h
     .right;have bk:(x==34)=false:=aI.2 h;rw[bk] at TQ;exact⟨bk,by simpa using TQ⟩
    have bG:(x==45)=false:=G6;clear ae aa V TQ hr
   |skip
   cases o:gZ l q 58 with
   | true=>
    first|have:=J6;have ak:=hid (λw=>wK l q 58 q 58 true rfl rfl o hs a_ w)|have ak:=hid (λw=>By l q q true rfl o hs a_ w)
    rw[if_pos o] at hR;exact EW
   | false=>
    first|have:=J6;have ak:=hid (λw=>wK l q 58 q 58 false rfl rfl o hs a_ w)|have ak:=hid (λw=>By l q q false rfl o hs a_ w)
    rw[if_neg (by rw[o];simp)] at hR;exact EW
  .rw [if_neg V] at hR;rw[show (l.head?==some 34)=false from aI.2 (λh=>V (.inl h))] at ae;rw[show (l.head?==some 39)=false from aI.2 (λh=>V (.inr h))] at aa
   first
   |have:=L2;have CN:=hid (λw=>Np l 0 w hs a_);obtain⟨N,hN⟩:=exQ<|eO l 0;have b8:=(uZ l 0).1;rw[hN] at CN hR b8
   |skip
   by_cases hbr:l.head?=some 91\/l.head?=some 123
   .rw[if_pos hbr] at hR;subst hR
    first
    |have:=J6;by_cases hx91:x=91
     .subst hx91;clear ae aa al ad V hbr;exact iu
     .have bg:(x==91)=false:=aI.2 hx91;have t123:(x==123)=true:=by
       rw[ad];rcases hbr with h | h
       .rw[bg,h] at al;cases al
       .rw[h];rfl
      clear al ad V hbr hx91;exact iu
    |have HQ:x=91\/((x==91)=false/\x=123):=by
      by_cases h:x=91
      .exact .inl h
      .right;have bg:(x==91)=false:=aI.2 h;refine⟨bg,?_⟩;rcases hbr with h | h
       .rw[bg,h] at al;cases al
       .rw[h] at ad;exact beq_iff_eq.1 (by rw[ad];rfl)
     have bG:(x==45)=false:=G6;have ch:x=123->(x !=91)=true:=by rintro rfl;rfl
     by_cases h1N:1<N
     .have dN:decide (1<N)=true:=aQ h1N;exact py
     .have dN:decide (1<N)=false:=aJ h1N;exact py
   .rw [if_neg hbr] at hR;rw[show (l.head?==some 91)=false from aI.2 (λh=>hbr (.inl h))] at al;rw[show (l.head?==some 123)=false from aI.2 (λh=>hbr (.inr h))] at ad
    first
    |have:=J6;have CN:=hid (λw hM=>Ml l 0 w hs a_ hM);obtain⟨N,hN⟩:=exQ<|eO l 0;have b8:=(uZ l 0).1;rw[hN] at CN hR b8
    |have n91:(x !=91)=true:=by rw[bne,al];rfl
     have n123:(x !=123)=true:=by rw[bne,ad];rfl
    have HR:=hid hR;clear V hbr hR hN
    first
    |have:=J6;go_in;go_wp2_with (go_at_call 179;refine(CS.out _).mono ?_;rintro e w' ⟨rfl,rfl⟩);go_loop [6] (λs6=> ∃k f:Nat,s6= .int .i64 k/\1<=k/\k<=l.length+1/\l.length<k+f/\Hid (rR l N f k=R)) (λs6=>l.length+1-(RowKit.intOf s6).toNat)
     case atStart=>exact⟨1,l.length,rfl,a_,a_,a_,HR.out⟩
     case round=>
      obtain⟨k,f,rfl,cd,cm,hf,HG⟩:=hrel;by_cases hkN:N<=k
      .have HF:Hid (R=(5,0)):=FR;have dk:decide (k<N)=false:=aJ a_;go_wp2_with (go_at_call 180;refine(CN.out _ HM.out).mono ?_;rintro e w' ⟨rfl,rfl⟩);go_ret2;exact⟨by rw[HF.out];rfl,aD _ _⟩
      .have dk:decide (k<N)=true:=aQ a_;obtain⟨g,rfl⟩: ∃g,f=g+1:=⟨f-1,a_⟩;have h1:=HG.out;rw[Bj,if_neg hkN] at h1;cases o:gZ l k 58 with
       | true=>
        have ak:=hid (λw=>wK l k 58 k 58 true rfl rfl o hs a_ w);rw[if_pos o] at h1;have HF:=hid h1;clear h1 o HG;go_wp2_with (first | (go_at_call 180;refine(CN.out _ HM.out).mono ?_;rintro e w' ⟨rfl,rfl⟩) | (go_at_call 179;(with_reducible refine(ak.out _).mono ?_);rintro e w' ⟨rfl,rfl⟩));go_ret2;exact⟨by rw[<-HF.out];rfl,aD _ _⟩
       | false=>
        have ak:=hid (λw=>wK l k 58 k 58 false rfl rfl o hs a_ w);rw[if_neg (by rw[o];simp)] at h1;have ag:=hid h1;clear h1 o HG;go_wp2_with (first | (go_at_call 180;refine(CN.out _ HM.out).mono ?_;rintro e w' ⟨rfl,rfl⟩) | (go_at_call 179;(with_reducible refine(ak.out _).mono ?_);rintro e w' ⟨rfl,rfl⟩));exact lm
    |rcases hr with bG | ⟨bG,t1,h1,ty⟩
     all_goals
      go_in;go_wp2_with (go_at_call 67;refine(CN.out _).mono ?_;rintro e w' ⟨rfl,rfl⟩);go_loop [6] (λs6=> ∃k f:Nat,s6= .int .i64 k/\1<=k/\k<=l.length+1/\l.length<k+f/\Hid (rR l N f k=R)) (λs6=>l.length+1-(RowKit.intOf s6).toNat)
      case atStart=>exact⟨1,l.length,rfl,a_,a_,a_,HR.out⟩
      case round=>
       obtain⟨k,f,rfl,cd,cm,hf,HG⟩:=hrel;by_cases hkN:N<=k
       .have HF:Hid (R=(5,0)):=FR;have dk:decide (k<N)=false:=aJ a_;go_wp2;go_ret2;exact⟨by rw[HF.out];rfl,aD _ _⟩
       .have dk:decide (k<N)=true:=aQ a_;obtain⟨g,rfl⟩: ∃g,f=g+1:=⟨f-1,a_⟩;have h1:=HG.out;rw[Bj,if_neg hkN] at h1;cases o:gZ l k 58 with
        | true=>
         have ak:=hid (λw=>By l k k true rfl o hs a_ w);rw[if_pos o] at h1;have HF:=hid h1;clear h1 o HG;go_wp2_with (go_at_call 101;(with_reducible refine(ak.out _).mono ?_);rintro e w' ⟨rfl,rfl⟩);go_ret2;exact⟨by rw[<-HF.out];rfl,aD _ _⟩
        | false=>
         have ak:=hid (λw=>By l k k false rfl o hs a_ w);rw[if_neg (by rw[o];simp)] at h1;have ag:=hid h1;clear h1 o HG;go_wp2_with (go_at_call 101;(with_reducible refine(ak.out _).mono ?_);rintro e w' ⟨rfl,rfl⟩);exact lm):P:=h
theorem PW(h:P:=by
 first
 |have:=R4;refine Ri 8 [92,93,94,95,96,97,98,99,100,101,102,103,104,105,106,107,108,109,110,111,112,113,114,115,116,117,118,4] 119 (λp=> [true,true,true,true,true, .agg #[T.kind,bs T.text, .slice pk nk ck, .slice pi ni ci], .agg #[bs s, .slice ql nl ky,(gq,nn,kB)],q,p,true,true,true,true,true,true,true,true,true,false,false,bs tt, .agg #[bs s, .slice ql nl ky,(gq,nn,kB)],q,bs tt,true,true,true,true]) (λp w'=>aA w9 w'/\ ∀v,p=some v-> ∃kv iv,v=vv T kv iv/\VD w' T.depth T kv iv) [9,23,0,1,3,4,10,11,15,16,26,27,2,5,6,7,12,13,14,17,18,19,20,21,22,24,25] ⟨by first | exact aD _ _ | exact(aD _ _).drew,λv e=>by cases e⟩ ?_ ?_ ?_
 |refine Ri 8 [92,93,94,95,96,97,98,99,100,101,102,103,104,105,106,107,108,109,110,111,112,113,114,115,116,117,118,4] 119 (λp=> [true,true,true,true,true, .agg #[T.kind,bs T.text, .slice pk nk ck, .slice pi ni ci], .agg #[bs s, .slice ql nl ky,(gq,nn,kB)],q,p,true,true,true,false,false,true,true,true,false,true,true,undef,undef,undef,undef,undef,true,true,true]) (λp w'=>aA w9 w'/\ ∀v,p=some v-> ∃kv iv,v=vv T kv iv/\VD w' T.depth T kv iv) [9,0,1,3,4,10,11,15,16,26,27,2,5,6,7,12,13,14,17,18,19,25,20,21,22,23,24] ⟨by first | exact aD _ _ | exact(aD _ _).drew,λv e=>by cases e⟩ ?_ ?_ ?_
 .intro d a w' o' ho hi F aa G R' I;first|have:=R4;have Z:=dW aa [(5,true),(13,true),(12,some V),(9,some E),(1,q),(14,bs tt),(15,true),(16,true)] rfl rfl|have Z:=dW aa [(5,true),(13,true),(12,some V),(9,some E),(1,q),(14,bs tt),(15,false),(16,false)] rfl rfl
  have hc:=G.all [(6,98),(7,99)] b_;dsimp only[dS,dM,lk] at Z hc;clear aa;simp only[cR,cP,bY,cC] at ho;subst ho
  try simp[Region.binds] at F
  obtain⟨hb,ad⟩:=G.st;obtain⟨⟨v0,v1,v2,v3⟩,a0,a1,a2⟩:=nK.out w' hb;have nA:=G.g 4 96 c_;have zn:=G.g 6 98 c_;have BE:=G.g 7 99 c_;dsimp only[lk] at nA zn BE;refine nO nA ?_;go_simp;go_at_call 13;refine(CR.out _ (aE iX.out hb)).mono ?_;rintro e w5 ⟨⟨ed,eh,rfl,d9⟩,ag⟩;exact I (vv T ed eh) _ _ (G.nc ⟨aE hb ag,λv hv=>⟨ed,eh,(bA hv).symm,d9.toVD⟩⟩ rfl)
 .intro p d a w' iq o' hO ho hi A6 F aa G R' I
  first
  |have:=R4;have Z:=dW aa [(5,true),(13,true),(12,some V),(9,some E),(1,q),(14,bs tt),(15,true),(16,true)] rfl rfl;have hc:=G.all [(0,92),(1,93),(2,94),(3,95),(4,96),(5,97),(9,101),(10,102),(11,103),(12,104),(13,105),(14,106),(15,107),(16,108),(17,109),(18,110),(19,111),(20,112),(21,113),(22,114),(23,115),(24,116),(25,117),(26,118)] b_
  |have Z:=dW aa [(5,true),(13,true),(12,some V),(9,some E),(1,q),(14,bs tt),(15,false),(16,false)] rfl rfl;have hc:=G.all [(0,92),(1,93),(2,94),(3,95),(4,96),(5,97),(9,101),(10,102),(11,103),(12,104),(13,105),(14,106),(15,107),(16,108),(17,109),(18,110),(19,111),(24,116),(25,117),(26,118)] b_
  dsimp only[dS,dM,lk] at Z hc;clear aa;obtain⟨hb,ad⟩:=G.st;obtain⟨⟨v0,v1,v2,v3⟩,a0,a1,a2⟩:=nK.out w' hb
  repeat' rcases hO with _ | ⟨_,hO⟩
  all_goals (simp only[cR,cP,bY,cC] at ho;subst ho;try simp[Region.binds] at F)
  .have nA:=G.g 4 96 c_;have zL:=G.g 5 97 c_;have oG:=G.g 8 100 c_;dsimp only[lk] at nA zL oG;refine nO nA ?_;have dd:d 8=true:=c_;rw[A6] at dd;cases p with
   | none=>cases dd
   | some pv=>
    obtain⟨ed,eh,rfl,d9⟩:=ad pv rfl;have oG:a.tmps[100]?.getD undef= .agg #[T.kind,bs T.text,ed,eh]:=oG;go_simp;go_at_call 12;refine aH (CE.out _ hb _ _ d9) λw5 ag=>?_;exact lw
  first
  |have:=R4
   .have tu:=G.g 19 111 c_;have Aq:=G.g 21 113 c_;have wN:=G.g 22 114 c_;dsimp only[lk] at tu Aq wN;refine nO tu ?_;go_simp;go_at_call 14;refine aH (B4.out rfl _ (aE iX.out hb)) λw5 ag=>?_;exact lw
  |skip
  iterate 10 (refine jD ?_;go_simp;exact I _ _ G.sp)
  first
  |have:=R4;iterate 15 (refine G.on ?_ (hd:=by simp[F]);go_simp;exact I _ _ G.sp)
  |iterate 11 (refine G.on ?_ (hd:=by simp[F]);go_simp;exact I _ _ G.sp)
   iterate 5 exact G.sk I (hd:=by simp[F])
 intro p wz hS;simp only[iU,cY,cQ,cZ];obtain⟨dB,_⟩:=hS;go_wp2;go_ret;have dB:=aE o6.out dB;exact⟨rfl,by first | exact dB | exact dB.drew⟩):P:=h
theorem QK(h:P:=by
 first|have:=S3;obtain⟨pl,nl,cl,rfl⟩:=hlv|obtain⟨R,h⟩: ∃R:Value,(if min x.til n<=x.fr+1 then .slice none 0 0 else .slice (pl.map λa=>a.add ((x.fr+1)*10)) (min x.til n-(x.fr+1)) (cl-(x.fr+1)))=R:=⟨_,rfl⟩;rw[h];have E:=hid h;clear h
 obtain⟨pn,nn,cn,rfl⟩:=hnv
 first
 |have:=S3;have sl:=aP s;obtain⟨R,h⟩:=exQ<|iD s a b;rw[h];unfold iD at h;obtain⟨W1,g⟩:=exQ<|w.alloc (.cells #[bs s, .slice pl nl cl, .slice pn nn cn] 26)
 |obtain⟨pk,nk,ck,rfl⟩:=hkv;obtain⟨W1,g⟩:=exQ<|w.alloc (.cells #[bs s, .slice pl n cl, .slice pn nn cn] 26)
 obtain⟨D,y⟩:=exQ<|w.heap.size;have b1:aA w W1:=by rw[<-g];exact aL _ _
 first
 |have:=S3;have o:W1.heap[D]?=some (.cells #[bs s, .slice pl nl cl, .slice pn nn cn] 26):=by rw[<-g,<-y];exact heap_alloc_new w _
  obtain⟨W2,f⟩:=exQ<|W1.alloc (.cells #[.int .i64 a,b] 42)
 |have o:W1.heap[D]?=some (.cells #[bs s, .slice pl n cl, .slice pn nn cn] 26):=by rw[<-g,<-y];exact heap_alloc_new w _
  obtain⟨W2,f⟩:=exQ<|W1.alloc (.cells #[x.kind,x.ind,x.fr,x.til,x.kf,x.kt,x.rf,x.rt, .slice pk nk ck] 45)
 obtain⟨S,z⟩:=exQ<|W1.heap.size;have b2:aA W1 W2:=by rw[<-f];exact aL _ _
 first
 |have:=S3;have q:W2.heap[S]?=some (.cells #[.int .i64 a,b] 42):=by rw[<-f,<-z];exact heap_alloc_new W1 _
  obtain⟨d0,_⟩:=eA ((b2.block D (aG o)).trans o);obtain⟨y0,y1⟩:=jY q
 |have q:W2.heap[S]?=some (.cells #[x.kind,x.ind,x.fr,x.til,x.kf,x.kt,x.rf,x.rt, .slice pk nk ck] 45):=by rw[<-f,<-z];exact heap_alloc_new W1 _
  obtain⟨d0,d1,d2,_⟩:=eA ((b2.block D (aG o)).trans o);obtain⟨y0,y1,y2,y3,y4,y5,y6,y7,y8⟩:=kD q
 have l:=hid (aE b1 b2);clear b1 b2 o q
 first
 |have:=S3;by_cases ha:a<0
  .rw[if_pos (.inl ha)] at h;have da:decide (a<0)=true:=aQ ha;clear ha;exact fj
  have da:decide (a<0)=false:=aJ ha;by_cases hb:b<a
  .rw[if_pos (.inr (.inl hb))] at h;have db:decide (b<a)=true:=aQ hb;clear ha hb;exact fj
  have db:decide (b<a)=false:=aJ hb;by_cases hc:(s.length:Int)<b
  .rw[if_pos (.inr (.inr hc))] at h;have dc:decide ((s.length:Int)<b)=true:=aQ hc;clear ha hb hc;exact fj
  have dc:decide ((s.length:Int)<b)=false:=aJ hc;rw[if_neg a_] at h;obtain⟨a,rfl⟩: ∃k:Nat,a=k:=⟨a.toNat,a_⟩;obtain⟨b,rfl⟩: ∃k:Nat,b=k:=⟨b.toNat,a_⟩;have hab:(a:Int)<=(b:Int):=a_
  have hbl:(b:Int)<=(s.length:Int):=a_
  have ha0:(0:Int)<=(a:Int):=a_
  have hb0:(0:Int)<=(b:Int):=a_
  have C:=aCu s a b;rw[h] at C;clear ha hb hc
 |skip
 go_in;go_upto_region 1 with fail;clear g f y z
 first
 |have:=S3;go_wp2;go_ret;exact⟨by first | rw[C] | simp[C],by first | exact l.out | exact l.out.drew⟩
 |obtain⟨f1,v⟩:=exQ<|x.fr+1
  have r:(x.fr:Int)+1=(f1:Int):=a_
  obtain⟨fr,i⟩:=exQ<|x.fr;obtain⟨til,d⟩:=exQ<|x.til;rw[d] at htil y3;rw[i] at r hfr y2;have A:=hid (aK v (aK i d));clear v i d;go_region
  all_goals
   obtain⟨tm,m⟩: ∃tm:Nat,min til n=tm:=⟨_,rfl⟩;have htmz:min (til:Int) (n:Int)=(tm:Int):=a_;have t:=hid m;by_cases hle:tm<=f1
   .have B:decide ((tm:Int)<=(f1:Int))=true:=aQ a_;have u:decide (tm<=f1)=true:=aQ hle;have j:=hid hle;clear m hle;go_wp2;go_ret;refine⟨by first | exact l.out | exact l.out.drew,?_⟩;rw[<-E.out,A.out.1,A.out.2.2,t.out,if_pos j.out];rfl
   .have B:decide ((tm:Int)<=(f1:Int))=false:=aJ a_;have u:decide (tm<=f1)=false:=aJ hle;have o:(f1:Int)<=(tm:Int):=a_;have q:(tm:Int)<=(cl:Int):=a_;have h3:(0:Int)<=(f1:Int):=a_;have h4:(0:Int)<=(tm:Int):=a_;have h1n:f1<=tm:=a_;have h2n:tm<=cl:=a_;obtain⟨pa,rfl⟩: ∃a,pl=some a:=by
     cases pl with
     | none=>have:=hpl rfl;omega
     | some a=>exact⟨a,rfl⟩
    have j:=hid hle;clear m hle;go_wp2_with fail
    all_goals
     go_ret;refine⟨by first | exact l.out | exact l.out.drew,?_⟩;rw[<-E.out,A.out.1,A.out.2.2,t.out,if_neg j.out]
     first | rfl | (exfalso;have:=j.out;omega)):P:=h
theorem IS(h:P:=by
 have sl:=aP l
 first
 |have _:=MZ;obtain⟨R,B⟩:=exQ<|cX p l
 |have _:=M0;obtain⟨R,B⟩:=exQ<|cX gT l
 |obtain⟨R,B⟩:=exQ<|a+cX p (l.drop a)
 rw[B];have S:=hid B;clear B;first|have _:=MZ;have CA:Hid (∀b:UInt8,Calls prog 229 #[.int .u8 (b.toNat:Int),some X] w λe w'=>e= .returned (.bool (p b))/\w=w'):=hid (λb=>by rw[<-hp b];exact Vo X A b w hc);clear hp hc;go_in;go_wp2;go_loop [8] (λs8=> ∃k:Nat,s8= .int .i64 k/\k<=l.length/\Hid (R=k+cX p (l.drop k))) (λs8=>l.length-(RowKit.intOf s8).toNat)|have _:=M0;have CA:=hid (λb:UInt8=>Vn b w);go_in;go_wp2;go_loop [8] (λs8=> ∃k:Nat,s8= .int .i64 k/\k<=l.length/\Hid (R=k+cX gT (l.drop k))) (λs8=>l.length-(RowKit.intOf s8).toNat)|skip
 first
 |first|have _:=MZ|have _:=M0
  case atStart=>exact⟨0,rfl,a_,hid (by rw[List.drop_zero,S.out];omega)⟩
 |have CA:Hid (∀b:UInt8,Calls prog 196 #[.int .u8 (b.toNat:Int),bs A] w λe w'=>e= .returned (.bool (p b))/\w=w'):=hid (λb=>by rw[<-hp b];exact Hj b A w hA);clear hp;go_in;go_wp2;go_loop [1] (λs1=> ∃k:Nat,s1= .int .i64 k/\k<=l.length/\Hid (R=k+cX p (l.drop k))) (λs1=>l.length-(RowKit.intOf s1).toNat)
  case atStart=>exact⟨a,rfl,ha,hid S.out.symm⟩
 case round=>
  obtain⟨k,rfl,hk,t⟩:=hrel;by_cases hlt:k<l.length
  .have d:k<(bs l).size:=a_
   first
   |first|have _:=MZ|have _:=M0
    have r:=Ku l k hlt d
   |have r:(bs l)[k]'d=l[k]'hlt:=by
     have:=cT l k d;rw[bI hlt] at this;exact(bA this).symm
   have q:=t.out;rw[gB hlt,xN,<-r] at q
   first
   |first|have _:=MZ|have _:=M0
    have D:=congrArg (λc:UInt8=>(c.toNat:Int)) r
   |skip
   have CC:=hid (CA.out ((bs l)[k]'d))
   first
   |have _:=MZ;cases hp:p ((bs l)[k]'d) with
    | true=>
     rw[hp] at CC;rw[hp,if_pos rfl] at q;have v:Hid (R=(k+1)+cX p (l.drop (k+1))):=hid a_;clear hp q r D t;go_wp2_with (go_at_call 229;(with_reducible refine CC.out.mono ?_);rintro e w' ⟨rfl,rfl⟩);exact fu
    | false=>
     rw[hp] at CC;rw[hp,if_neg e_] at q;have u:Hid (R=k):=hid a_;clear hp q r D t;go_wp2_with (go_at_call 229;(with_reducible refine CC.out.mono ?_);rintro e w' ⟨rfl,rfl⟩);exact aa
   |have _:=M0;cases hp:gT ((bs l)[k]'d) with
    | true=>
     rw[hp] at CC;rw[hp,if_pos rfl] at q;have v:Hid (R=(k+1)+cX gT (l.drop (k+1))):=hid a_;clear hp q r D t;go_wp2_with (go_at_call 225;(with_reducible refine CC.out.mono ?_);rintro e w' ⟨rfl,rfl⟩);exact fu
    | false=>
     rw[hp] at CC;rw[hp,if_neg e_] at q;have u:Hid (R=k):=hid a_;clear hp q r D t;go_wp2_with (go_at_call 225;(with_reducible refine CC.out.mono ?_);rintro e w' ⟨rfl,rfl⟩);exact aa
   |cases hpk:p ((bs l)[k]'d) with
    | true=>
     rw[hpk] at CC;rw[hpk,if_pos rfl] at q;have v:Hid (R=(k+1)+cX p (l.drop (k+1))):=hid a_;clear hpk q r t;go_wp2_with (go_at_call 196;(with_reducible refine CC.out.mono ?_);rintro e w' ⟨rfl,rfl⟩);exact fu
    | false=>
     rw[hpk] at CC;rw[hpk,if_neg e_] at q;have u:Hid (R=k):=hid a_;clear hpk q r t;go_wp2_with (go_at_call 196;(with_reducible refine CC.out.mono ?_);rintro e w' ⟨rfl,rfl⟩);exact aa
  .have u:Hid (R=l.length):=by
    have q:=t.out;rw[List.drop_of_length_le a_] at q;exact hid (by rw[q];show k+0=_;omega)
   clear t;go_wp2;go_ret
   first
   |first|have _:=MZ|have _:=M0
    exact⟨nE (by rw[u.out]),rfl⟩
   |exact⟨nE (by rw[u.out];omega),rfl⟩):P:=h
theorem IG(h:P:=by
 first
 |first|have:=MH|have:=MI
  have f:=h.kids y (bH hy)
 |have f:=h.pcs y (bH hy)
 have r:=h.row.kept hg (gW h.row f b_);first|have:=MH;obtain⟨m,i⟩:=World.ownsRow.stored r (n*7+5) kv|have:=MI;obtain⟨m,i⟩:=World.ownsRow.stored r (n*9+8) kv|obtain⟨m,i⟩:=World.ownsRow.stored r (n*7+6) kv
 obtain⟨g',D,u,e,_,_,c⟩:=h.form (λe=>by rw[e] at hy;simp at hy);have A:g=g':=by injection e with e;injection e with e;injection e
 subst A
 first
 |first|have:=MH|have:=MJ
  have b:w1.heap[g]?=some (.cells u 167 (0,0)):=O9
 |skip
 first|have:=MH;rw[Aa z n y ({ y.1 with kids:=y.1.kids++ [k] },kv,y.2.2) hy 5 kv a_ rfl] at m|have:=MJ;rw[Aa z n y ({ y.1 with pcs:=y.1.pcs++ [k] },y.2.1,kv) hy 6 kv a_ rfl] at m|skip
 first
 |first|have:=MH|have:=MJ
  refine⟨by rw[List.length_set];exact m,λx s=>?_,λx s=>?_,?_,?_⟩
 |have b:w1.heap[g]?=some (.cells u 45 (0,0)):=O9;rw[iT,yI _ 9 Bn z n y ({ y.1 with kids:=y.1.kids++ [k] },kv) hy 8 kv a_ rfl] at m;refine⟨by rw[List.length_set];exact m,λx s=>?_,?_⟩
 first
 |have:=MJ
  .have E: ∀x∈z,(w1.setCell ⟨g,n*7+6,none⟩ kv).ownsRow B 3 1 x.2.1 x.1.kids.length (dH x.1.kids):=λx s=>by
    have t:=h.kids x s;have q:=t.kept hg (gW t f b_);exact DZ
   exact FX
 |skip
 .obtain⟨j,C⟩:=List.getElem?_of_mem s;rw[List.getElem?_set] at C;by_cases hnj:n=j
  .subst hnj;rw[if_pos rfl,if_pos (aW.1 hy).1] at C;obtain rfl:=bA C
   first
   |first|have:=MH|have:=MI
    have e:dH (y.1.kids++ [k])=dH y.1.kids++ [.int .i64 (k:Int)]:=by unfold dH;simp
   |have e:lS (y.1.pcs++ [k])=lS y.1.pcs++ [.int .i64 (k.1:Int), .int .i64 (k.2:Int)]:=by unfold lS;simp
   simp only[e,aZ,dF];exact hr.kept i (dG hr b b_)
  .rw[if_neg hnj] at C
   first
   |first|have:=MH|have:=MI
    have t:=h.kids x (bH C);have q:=t.kept hg (h.ak j n x y (Ne.symm hnj) C hy)
   |have t:=h.pcs x (bH C);have q:=t.kept hg (h.ap j n x y (Ne.symm hnj) C hy)
   exact DZ
 first
 |have:=MH
  .have E: ∀x∈z,(w1.setCell ⟨g,n*7+5,none⟩ kv).ownsRow B 42 2 x.2.2 x.1.pcs.length (lS x.1.pcs):=λx s=>by
    have t:=h.pcs x s;have q:=t.kept hg (gW t f b_);exact DZ
   exact FX
 |have:=MJ
  .exact h.ak.set hy (.inl rfl)
 |skip
 .first
  |first|have:=MH|have:=MI
   refine h.ak.set hy ?_
  |refine h.ap.set hy ?_
  rcases hat with hat | hat
  .exact .inl hat
  .refine .inr (λj yj C e=>?_)
   first
   |first|have:=MH|have:=MI
    have t:=h.kids yj (bH C)
   |have t:=h.pcs yj (bH C)
   simp only[] at e;rw[hat] at e;have:=(World.ownsRow.lt t H e).2;omega
 first
 |have:=MH
  .exact h.ap.set hy (.inl rfl)
 |skip):P:=h
theorem I6(h:P:=by
 first|have:=NI;have E:Hid (R=(.bad txt.length 2,d::had)):=O|have:=NJ;have E:Hid (R=(.bad c.sf 2,d::had)):=hid (O.out.trans (if_pos h7))|have E:Hid (R=(bS txt lv r2 (c.sf,c.st) nodes (t.sf,t.st),d::had)):=hid (O.out.trans (if_neg (λh=>h h7)))
 go_wp2_with fail;refine aw.out.mono ?_;rintro e w7 ⟨rfl,i,j⟩;have af:=hid (aE.out.trans (Fr.ofP (B:=w0.heap.size) j aa a_).toX);first|have:=NI;have CT:=hid (tC _ P txt [] _ nodes w7 i e_ 7 b_)|have:=NJ;have CT:=hid (tC _ P txt (c::r2) _ nodes w7 i K' 7 h7)|skip
 first
 |first|have:=NI|have:=NJ
  have au:=hid i.nodesN
 |skip
 first
 |have:=NI;have CF:=hid (qM _ P txt [] _ nodes 2 w7 i e_ a_);clear i j y0 y1
 |have:=NJ;have CF:=hid (qM _ P txt (c::r2) _ nodes 2 w7 i K' a_)
 |have D:Hid (HM b (d::had) w7):=hid (ah.out.same (j.block b ah.out.lt (by simpa using V)));have CT:=hid (uR _ P txt c r2 _ nodes w7 i a_ 7 h7);have v0:w7.cell? (w.heap.size,0)=some (.int .i64 (t.sf:Int)):=by rw[wA j ab h_];exact y0
  have v1:w7.cell? (w.heap.size,1)=some (.int .i64 (t.st:Int)):=by rw[wA j ab h_];exact y1
  have H:w.heap.size<w7.heap.size:=by have:=j.size;omega
 first
 |first|have:=NK|have:=NJ
  clear i j y0 y1 h7
 |skip
 go_wp2_with fail;refine CT.out.mono ?_
 first
 |first|have:=NI|have:=NJ
  rintro e w8 ⟨rfl,rfl⟩;go_wp2_with fail;refine CF.out.mono ?_;rintro e w9 ⟨rfl,y,m⟩;go_wp2;go_ret;rw[E.out];exact⟨rfl,y.mono (mP (L.out.trans au.out.symm)),af.out.trans m.toX⟩
 |rintro e w8 ⟨rfl,K,A⟩;have T:=hid (af.out.trans (Fr.ofP (B:=w0.heap.size) A aa a_).toX);have aF:Hid (HM b (d::had) w8):=hid (D.out.same (A.block b D.out.lt (by simpa using V)));have u0:w8.cell? (w.heap.size,0)=some (.int .i64 (t.sf:Int)):=by rw[wA A H h_];exact v0
  have u1:w8.cell? (w.heap.size,1)=some (.int .i64 (t.st:Int)):=by rw[wA A H h_];exact v1
  have aq:=hid K.nodesN;have CV:=hid (IH w8 r2 (c.sf,c.st) nodes (t.sf,t.st) (33-(lv:Int)) K (HW.out.trans T.out.bel) (ap.out.drop 2) (by simp only[bM] at hN;omega) rfl);obtain⟨Q,hQ⟩:=exQ<|bS txt lv r2 (c.sf,c.st) nodes (t.sf,t.st);rw[hQ] at CV E;clear K A v0 v1 hQ;cases Q with
  | ok rr l2 ns=>
   go_wp2_with fail;refine CV.out.mono ?_;rintro e w9 ⟨rfl,y,m⟩;have aI:=hid (aF.out.fr m V);go_wp2;go_ret;rw[E.out];exact⟨rfl,y,aI.out,T.out.trans m.toX⟩
  | bad a er=>
   go_wp2_with fail;refine CV.out.mono ?_;rintro e w9 ⟨rfl,y,m⟩;go_wp2;go_ret;rw[E.out];exact⟨rfl,y.mono (mP (L.out.trans aq.out.symm)),T.out.trans m.toX⟩):P:=h
theorem QC(h:P:=by
 first
 |have:=SO;have hr:pK txt hm (L.drop k)= .bad (cH txt.length (L.drop k)) 2:=by
   cases hd:L.drop k with
   | nil=>rfl
   | cons t r=>
    rw[hd] at h8;exact if_pos (show t.kind≠8 from h8)
  rw[hr];obtain⟨q,hq⟩:=exQ<|dY (L.drop k);rw[hq] at CK h8;have d0:((q:Int) !=8)=true:=eN.2 a_;clear J O b0 h hq h8 hr hH au;go_in;go_upto_region 1 with fail;go_wp2_with fail;refine aH CK.out λw1 f=>?_;have CW:=hid (xE B P txt L k z nv 2 w1 (aV.out.keep f) a_ a_);have Q:=hid (gX a7.out (dT.of_below (P:=P) f));have y:=hid ((f.block _ (aG Z.out)).trans Z.out);clear f CK
 |subst he;have ab:u∈hm:=bH hu;have hr:pK txt hm (L.drop k)= .bad (cH txt.length (L.drop k)) 7:=by
   rw[a8.out,if_pos ab,bq.out];rfl
  have de:((bs u).toList==(bs u).toList)=true:=e_
  rw[hr];have CW:=hid (xE B P txt L k z nv 7 wr aw.out a_ a_);clear hu ab hr x af ae
 go_wp2_with fail;refine CW.out.mono ?_
 first
 |have:=SO;rintro e w2 ⟨rfl,⟨bo,N⟩,ho⟩;have ak:=(ho.block X (aG y.out) I3).trans y.out;obtain⟨x0,x1,aq,ap⟩:=mF ak;have H:=hid N;have S:=hid (gX Q.out ho);have M:=hid ak;clear N ho ak;go_wp2_with fail;have C:=hid (cA (cA M.out 0 (.int .i64 0)) 1 (.int .i64 0));have p:=hid (dT.new (i:=1) (u:= .int .i64 0) (dT.new (i:=0) (u:= .int .i64 0) S.out n.out) n.out);have s:=hid ((H.out.off (i:=0) (u:= .int .i64 0) d).off (i:=1) (u:= .int .i64 0) d);obtain⟨W3,E⟩:=exQ<|(w2.setCell ⟨X,0,none⟩ (.int .i64 0)).setCell ⟨X,1,none⟩ (.int .i64 0)
 |rintro e w6 ⟨rfl,⟨lv6,N⟩,ho⟩;have aB:=(ho.block X (aG aN.out) I3).trans aN.out;obtain⟨x0,x1,aq,ap⟩:=mF aB;have bl:=hid N;have bn:=hid (gX aS.out ho);have bm:=hid aB;clear N ho aB;go_wp2_with fail;have C:=hid (cA (cA bm.out 0 (.int .i64 0)) 1 (.int .i64 0));have p:=hid (dT.new (i:=1) (u:= .int .i64 0) (dT.new (i:=0) (u:= .int .i64 0) bn.out n.out) n.out);have s:=hid ((bl.out.off (i:=0) (u:= .int .i64 0) d).off (i:=1) (u:= .int .i64 0) d);obtain⟨W3,E⟩:=exQ<|(w6.setCell ⟨X,0,none⟩ (.int .i64 0)).setCell ⟨X,1,none⟩ (.int .i64 0)
 rw[E] at C p s;rw[E];obtain⟨d0,d1,_,_⟩:=mF C.out;refine bodyPost_ret (v:= .tuple #[.string ⟨#[]⟩, .agg #[(0:Int),(0:Int)],false]) ?_ rfl ⟨⟨_,_,_,rfl⟩,mE.of aa.out p.out s.out,p.out⟩;simp[results,results198,go_sem,d0,d1]):P:=h
theorem P4(h:P:=by
 intro d a w' iq o' hO ho hi F aa G R' I;first|have:=SE;have Z:=dW aa [(0,some P),(1,k),(2,lev),(7,some X1)] rfl rfl;have hc:=G.all [(0,40),(1,41),(2,42),(3,43),(4,44),(5,45),(6,46),(8,48),(9,49)] b_|have Z:=dW aa [(0,some P),(1,k),(2,lev),(12,some X3)] rfl rfl;have hc:=G.all [(7,57),(0,58),(1,59),(2,60),(3,61),(4,62),(5,63),(8,65),(9,66)] b_
 dsimp only[dS,dM,lk] at Z hc;clear aa;have ha:=F;have aj:=ho
 repeat' rcases hO with _ | ⟨_,hO⟩
 all_goals (simp only[cR,cP,bY,cC] at ho;subst ho;try simp[Region.binds] at F)
 .first|have:=SE;have c44:=G.gg 4 44 c_;have AM:=G.gg 5 45 c_|have BK:=G.gg 3 61 c_;have nm:=G.gg 4 62 c_
  have hA:aA W0 w':=G.at2 (j:=0) rfl (G.ln hi) (.inl rfl);go_simp;go_at_call 23;refine aH (CB.out _ (bT.out.keep hA)) λw5 ag=>?_;exact I _ _ (G.qu aj ha hi (λ_=>am.out _ (aE hA ag)) (λk c hk hp=>by obtain rfl:k=0:=JA;exact aE (show aA W0 w' from hp) ag) (λx hx=>hx))
 .first|have:=SE;have Ay:=G.gg 0 40 c_;have xj:=G.gg 1 41 c_;have c42:=G.gg 2 42 c_;have c43:=G.gg 3 43 c_;have C4:=G.gg 6 46 c_|have rA:=G.gg 0 58 c_;have AW:=G.gg 1 59 c_;have yf:=G.gg 2 60 c_;have u9:=G.gg 5 63 c_
  have ae:=G.at2 (j:=0) rfl hi (.inl rfl);have hA:aA W0 w':=ae;go_simp;first|have:=SE;go_at_call 37|go_at_call 38
  refine aH (CA.out _ (bT.out.keep hA)) λw5 hO=>?_;exact qg
 .have j4:=G.fin (λe he=>by simp at he;subst he;simp[F]);first|have:=SE;have wq:a.tmps[47]?.getD undef= .tuple #[nq,bq]:=by rw[<-aN];exact j4.1|have yo:a.tmps[64]?.getD undef= .tuple #[nq,bq]:=by rw[<-aN];exact j4.1
  exact ah
 first
 |have:=SE
  .have j4:=G.fin (λe he=>by simp at he;subst he;simp[F]);have wq:a.tmps[47]?.getD undef= .tuple #[nq,bq]:=by rw[<-aN];exact j4.1
   exact ah
  iterate 7 (go_simp;exact I _ _ (G.pu aj ha))
 |iterate 8 (go_simp;exact I _ _ (G.pu aj ha))
 all_goals
  have ab:=G.ea hi;rw[<-ak] at ab;first|have:=SE;obtain⟨s0,s1⟩:=ab|obtain⟨b0,b1,b2,b3,b4,b5,b6,b7,b8⟩:=ab
  exact ah):P:=h
theorem G8(h:P:=by
 have b:=Bp s;have q:mB s (eY s) []:=⟨cI _,λi o=>absurd o (oW _)⟩;have c:=kP b (k:=0) (lines:= []) (aF _) q (λi _ o=>absurd o (oW _));unfold lL at h;cases hN:eX s (eY s) 0 [] with
 | bad a' e'=>
  rw[hN] at c h;simp only[Prod.mk.injEq] at h;exact absurd h.2.2 c.2.2
 | ok k ls=>
  rw[hN] at c h;simp only[] at c h;by_cases hk:k<(eY s).length
  .rw [if_neg (λe=>e hk)] at h;have m:dR s (eY s) ⟨ls,[],0⟩:=⟨c.ok,e_⟩;have l:=pG b 32 k 0 0 ⟨ls,[],0⟩ m (c.hit hk).1.symm;first|have:=LZ;have f:=Qn b 32 k 0 0 ⟨ls,[],0⟩ (mG.nil s) m (c.hit hk).1.symm|have f:=Ra b 32 k 0 0 ⟨ls,[],0⟩ m (c.hit hk).1.symm
   cases hB:oI s (eY s) 32 k 0 0 ⟨ls,[],0⟩ with
   | bad a' e'=>
    rw[hB] at l h;simp only[Prod.mk.injEq] at h;exact absurd h.2.2 (show 0<=a'/\a'<=(s.length:Int)/\e'≠0 from l).2.2
   | ok n st=>
    rw[hB] at l f h;obtain⟨g1,_,_,g4,g5,g6⟩:=(show lA s (eY s) k ⟨ls,[],0⟩ n st from l);have p:n=0:=g1;subst p;first|have:=LZ;have f:nT s st:=f (λx j=>absurd j List.not_mem_nil)|have f:kF s st.nodes 32 0 st.nodes.length:=f
    have g:=kP b (k:=fF st.nodes 0) g4.2 g6.ls g5;simp only[] at h;cases hN2:eX s (eY s) (fF st.nodes 0) st.lines with
    | bad a' e'=>
     rw[hN2] at g h;simp only[Prod.mk.injEq] at h;exact absurd h.2.2 g.2.2
    | ok k2 ls2=>
     rw[hN2] at g h;simp only[] at h g;split at h
     .simp only[Prod.mk.injEq] at h;exact absurd h.2.2 b_
     .injection h with e1 e2;subst e1;first|have:=LZ;obtain⟨more,r⟩:=g.pre;intro x j;show mH s ls2 x;rw[r];exact(f x j).app|exact⟨f,by have:=g6.tot;simp only[];omega,g.ok.1,g.ok⟩
  .rw[if_pos hk] at h;injection h with e1 e2;subst e1;first|have:=LZ;intro x j;obtain rfl:=kT.1 j;exact⟨⟨mG.nil s,Int.natCast_nonneg _,Int.le_refl _,Int.le_refl _⟩,λe=>by cases e⟩|exact⟨⟨_,rfl,λ_=>by unfold dQ;rw[Nat.sub_self,List.take_zero];decide,rfl⟩,e_,c.ok.1,c.ok⟩):P:=h
theorem EU(h:P:=by
 go_in;go_upto_region 1 with fail;clear p K;go_wp2_with fail;refine(CS.out _).mono ?_;rintro e w2 ⟨rfl,rfl⟩;have m:=hid (aD W1.heap.size W1);have j:=hid (iA (t:=eE) z.out C.out n.out (kW _ _ _ _) m.out o.out);obtain⟨r0,r1,r2,r3,f0,f1,f2,f3⟩:=bK ((m.out.block R n.out).trans o.out);go_wp2_with fail;obtain⟨WF,d⟩:=exQ<|bD W1 R 0 ([]:aB) (.slice none 0 0) (.slice none 0 0);have g:gF w.heap.size (bD W1 R 0 ([]:aB) (.slice none 0 0) (.slice none 0 0)) (eE).depth (eE) (.slice none 0 0) (.slice none 0 0)/\aA w (bD W1 R 0 ([]:aB) (.slice none 0 0) (.slice none 0 0))/\(bD W1 R 0 ([]:aB) (.slice none 0 0) (.slice none 0 0)).heap[R]?=some (.cells #[(0:Int),bs ([]:aB),(.slice none 0 0),(.slice none 0 0)] 36):=j.out;rw[d] at g;have b:=hid g;have f:(((W1.setCell ⟨R,0,none⟩ (.int .i64 0)).setCell ⟨R,1,none⟩ (.string (bs ([]:aB)))).setCell ⟨R,2,none⟩ (.slice none 0 0)).setCell ⟨R,3,none⟩ (.slice none 0 0)=WF:=d
 first
   | rw[f]
   | (have i:(((W1.setCell ⟨R,0,none⟩ (.int .i64 0)).setCell ⟨R,1,none⟩ (.string ⟨#[]⟩)).setCell ⟨R,2,none⟩ (.slice none 0 0)).setCell ⟨R,3,none⟩ (.slice none 0 0)=WF:=d
      rw[i])
 clear d f g r0 r1 r2 r3 f0 f1 f2 f3 j;obtain⟨d0,d1,d2,d3,_⟩:=bK b.out.2.2;refine bodyPost_ret (v:= .tuple #[.agg #[(0:Int),bs ([]:aB),(.slice none 0 0),(.slice none 0 0)],(2:Int)]) ?_ rfl ⟨⟨_,_,rfl,b.out.1⟩,b.out.2.1⟩;exact ez):P:=h
theorem IB(h:P:=by
 obtain⟨q,B,n,A⟩:=h.ph;have y:=(aW.1 he).1;obtain rfl:j=q:=by
  have C: ¬j<q:=λg=>by rw[(n j i he).2 g] at hi;cases hi
  cases j with
  | zero=>omega
  | succ j'=>exact GG
 first
 |have:=MB;have c: ∀m,m≠i->iR sl (cE v dst x) m=iR sl v m:=λm b=>by
   cases dst with
   | none=>rfl
   | some k=>exact uO hnd hk x b
 |have c: ∀m,m≠i->fY sl (cE v dst x) m=fY sl v m:=λm b=>by
   cases dst with
   | none=>rfl
   | some k=>exact qA hnd hk x b
 have l: ∀(f:bE d i (eff.getLastD 0)=false),i≠eff.getLastD 0/\d (eff.getLastD 0)=false:=λf=>by
  have hne:i≠eff.getLastD 0:=λe=>by rw[<-e,vZ] at f;cases f
  exact⟨hne,by rw[iQ (Ne.symm hne)] at f;exact f⟩
 refine⟨λm b s u p=>?_,h.clo.step ho hall,λf=>?_,λf z=>?_,j+1,y,λm e b=>?_,?_⟩
 .have r:m≠i:=λe=>s (e ▸ bH he);rw[c m r];rw[iQ r] at p;exact h.cl m b s u p
 .exact hS (l f).1
 .rw[c fr (Ne.symm hfr)];rw[iQ (Ne.symm hfr)] at z;exact hF (l f).1 _ (h.fb (l f).2 z)
 .by_cases hmj:m=j
  .subst hmj;rw[he] at b;injection b with b;subst b;rw[vZ];exact⟨λ_=>rL _,λ_=>rfl⟩
  .first|have:=MB;have t:e≠i:=λe2=>hmj (Jt hne (by rw[<-e2];exact b) he)|have t:e≠i:=λe2=>hmj (Zw hne (by rw[<-e2];exact b) he)
   rw[iQ t,n m e b];omega
 .first|have:=MB;rw[xT,he]|rw[yM,he]
  simp only[hk];cases dst with
  | none=>exact hP
  | some k=>
   simp only[];first|have:=MB;rw[Dw hk]|rw[Bt hk]
   exact hP):P:=h
theorem QH(h:P:=by
 have d6:((q1:Int) !=6)=true:=eN.2 a_
 first
 |have:=SY;have dc:((q1:Int) !=(closing:Int))=true:=eN.2 a_;have C:JR.bad (cH txt.length (L.drop (k3+1))) 2=R:=by
   rw[<-d2.out];have hq:=bX.out;cases hd:L.drop (k3+1) with
   | nil=>rfl
   | cons t r'=>
    rw[hd] at hq;have ey:t.kind=q1:=hq;simp only[];rw[if_neg a_,if_neg a_];rfl
  have HR:=hid C;clear C hgo
 |have cv:q1=closing:=hgo.resolve_left h6;have dc:((q1:Int) !=(closing:Int))=false:=by rw[cv];simp
  clear h6 hgo cv
 go_wp2_with fail;refine aH (ch.out _ (aD _ _)) λw4 aS=>?_;have aX:=hid aS;clear aS;go_wp2_with fail;refine aH (ch.out _ aX.out) λw5 ak=>?_;have a8:=hid (aE aX.out ak)
 first
 |have:=SY;obtain⟨z5,fN,eu,dq⟩:=bq.out.keep a8.out;have CW:=hid (xE _ P txt L (k3+1) z5 fN 2 w5 dq a_ a_);have dC:=hid dq;have fO:=hid eu;clear ak eu dq;go_wp2_with fail;refine CW.out.mono ?_;rintro e w6 ⟨rfl,⟨lv6,eh⟩,cD⟩;have ae:=mE.of dC.out cD eh;have bB:=hid ae;have dw:Hid (qN P w<=z5.length):=hid (by have h1:=dQ.out;have h2:=congrArg List.length fO.out;rw[bP,aZ] at h2;omega);have ao:=hid (O.out.trans ((Fr.of_below (P:=P) a8.out (bF F O.out.sz)).trans (dT.fr cD af (by have:=O.out.sz;have:=a8.out.size;omega))));clear ae cD eh;go_wp2;go_ret;rw[<-HR.out];exact⟨rfl,bB.out.mono dw.out,ao.out⟩
 |clear ak;go_wp2;go_meet;exact⟨rfl,a8⟩):P:=h
theorem II(h:P:=by
 first|have:=MK;rw[if_pos t1] at br|have:=ML;rw[if_pos t2] at br|skip
 first
 |first|have:=MK|have:=ML
  subst br;clear p1 p2 p3
 |obtain rfl:R=(cM,2):=by have W:lE l=none:=HL.out;have G:=HR.out;unfold eF at G;rw[W] at G;exact G.symm
 go_wp2_with (go_at_call 29;go_must (refine(C1.out _).mono ?_);rintro e w' ⟨rfl,rfl⟩);have hf:=iS ((Below.heap_alloc (((w1.setCell ⟨w.heap.size,0,none⟩ (.bool false)).setCell ⟨w.heap.size,1,none⟩ (.string ⟨#[]⟩)).setCell ⟨w.heap.size,2,none⟩ (.int .i64 0)) (.cells #[n,lo,bs a,bs b,bs c] 139) w.heap.size (by simp[World.setCell];exact fH)).trans (cA (cA (cA av.out 0 (.bool false)) 1 (.string ⟨#[]⟩)) 2 (.int .i64 0)));clear r0 r1 r2 g0 g1 g2;obtain⟨r0,r1,r2,g0,g1,g2⟩:=hf;first|have:=MK;refine bodyPost_ret (v:= .tuple #[eK cM,(3:Int)]) ?_ rfl ⟨rfl,?_⟩|have:=ML;refine bodyPost_ret (v:= .tuple #[eK cM,(4:Int)]) ?_ rfl ⟨rfl,?_⟩|refine bodyPost_ret (v:= .tuple #[eK cM,(2:Int)]) ?_ rfl ⟨rfl,?_⟩
 .simp[results,results63,go_sem,r0,r1,r2,eK,cM];rfl
 .refine Below.alloc ?_ D' _;exact D4):P:=h
theorem P6(h:P:=by
 rw[hD] at C5;first|have:=SG;have HD:=hid hD;clear hD|have C:=hid (U.out (fJ x) rfl rfl hD);clear hD
 go_wp2_with (go_at_call 136;go_must (refine(C3.out _).mono ?_);rintro e w' ⟨rfl,rfl⟩);refine(C5.out _).mono ?_;rintro e w2 ⟨rfl,a⟩;have d:Hid (w2.heap[w.heap.size]?=some (.cells #[ng,true, .string ⟨#[]⟩, .string ⟨#[]⟩, .string ⟨#[]⟩] 139 (0,0))):=(a.block w.heap.size (by simp[World.setCell];exact E)).trans (cA i.out 1 _);have k:=hid ((M.out.setCell (p:=⟨w.heap.size,1,none⟩) (aF _) (.bool true)).trans (a.mono D'))
 first
 |have:=SG;clear a;go_wp2;go_meet;exact⟨true,fJ x,rfl,⟨λ_=>HD.out,rfl,by rw[f.out];rfl⟩,d.out,k.out⟩
 |clear a a0 a1 a2 a3 a4 f0 f1 f2 f3 f4;obtain⟨a0,a1,a2,a3,a4,f0,f1,f2,f3,f4⟩:=tF d.out;go_wp2_with fail;refine bodyPost_ret (v:= .tuple #[.agg #[ng,true, .string ⟨#[]⟩, .string ⟨#[]⟩, .string ⟨#[]⟩],false]) ?_ rfl ⟨⟨ng,true,[],[],[],false,rfl,?_⟩,?_⟩
  .exact cj
  .exact C.out
  .exact EJ):P:=h
theorem vk(h:P:=by
 first|have:=C9;have t7: ¬((s[a+7]'bL).toNat:Int)=117:=by omega|have:=DA;have t6: ¬((s[a+6]' a_).toNat:Int)=92:=by omega|skip
 have bz:Lib.hasPrefix ((s.data.toList.drop a).drop 6) [92,117]=false:=by
  first
  |have:=DB;cases V:Lib.hasPrefix ((s.data.toList.drop a).drop 6) [92,117] with
   | false=>rfl
   | true=>obtain⟨h7,_⟩:=HP.1 V;omega
  |have:=C9;cases V:Lib.hasPrefix ((s.data.toList.drop a).drop 6) [92,117] with
   | false=>rfl
   | true=>obtain⟨_,_,h8⟩:=HP.1 V;exact absurd h8 q5
  |cases V:Lib.hasPrefix ((s.data.toList.drop a).drop 6) [92,117] with
   | false=>rfl
   | true=>obtain⟨_,h8,_⟩:=HP.1 V;exact absurd h8 q6
 rw[if_pos bz] at hR;have HX:Hid (R=(0,0)):=hid hR.symm;first|have:=DB;clear hR C2 HP bz|have:=C9;clear hR C2 HP bz q6 q5|clear hR C2 HP bz q6
 exact O3):P:=h
theorem JK(h:P:=by
 obtain⟨lv,q,p,i,j,o⟩:=h;first|have:=N9;have c:=j.kids y (bH hy)|have c:=j.pcs y (bH hy)
 obtain⟨a1,a2⟩:=sL q p hg (λk i=>by obtain⟨f,r⟩:=lI c k i;exact⟨f,_,r,b_,b_⟩);have d:=j.row.kept hg (gW j.row c b_);obtain⟨f,b⟩:=lI d g rfl;first|have:=N9;obtain⟨b1,b2⟩:=sL a1 a2 (dP w1 g (n*7+5) kv) (λk i=>by have e:g=k:=bA i;subst e;exact⟨f,_,b,b_,b_⟩)|obtain⟨b1,b2⟩:=sL a1 a2 (dP w1 g (n*7+6) kv) (λk i=>by have e:g=k:=bA i;subst e;exact⟨f,_,b,b_,b_⟩)
 have l:B<=g:=(World.ownsRow.lt d g rfl).1;first|have:=N9;refine⟨⟨lv,?_,b2,i,j.kid hy hH hr hg hat,o⟩,(Fr.grown c b_ hg hB).trans (Fr.setM b b_ l)⟩|refine⟨⟨lv,?_,b2,i,j.pc hy hH hr hg hat,o⟩,(Fr.grown c b_ hg hB).trans (Fr.setM b b_ l)⟩
 rw[List.length_set];exact b1):P:=h
theorem JO(h:P:=by
 first|have _:=OE;have t1:(u==58)=true:=beq_iff_eq.2 h1;have t2:(u==32)=false:=aI.2 a_;by_cases h2:v=32|have t2:(u==32)=true:=beq_iff_eq.2 h2;by_cases h3:v=35
 .first
  |have _:=OE;have t3:(v==32)=true:=beq_iff_eq.2 h2;obtain rfl:Q=false:=by have:=d.out;rw[t1,t3] at this;simpa using this.symm
   clear h1 h2 d
  |have t3:(v==35)=true:=beq_iff_eq.2 h3;obtain rfl:Q=false:=by have:=d.out;rw[t1,t2,t3] at this;simpa using this.symm
   clear h1 h2 h3 d
  go_wp2;go_ret;exact⟨rfl,D.out⟩
 .first|have _:=OE;have t3:(v==32)=false:=aI.2 h2|have t3:(v==35)=false:=aI.2 h3
  have E:Hid (kE (l.drop (j+1))=Q):=hid (by have:=d.out;rw[t1,t2,t3] at this;simpa using this);first|have _:=OE;clear h1 h2 d|clear h1 h2 h3 d
  exact kh):P:=h
theorem J4(h:P:=by
 simp[Region.binds] at F
 first
 |have:=OW;have c16:a.tmps[16]?.getD undef= .pointer (some ⟨X,0,none⟩):=by rw[<-aN];exact G.cl 0 b_ b_ b_ c_
  have ab:=G.early (f:=12) (i:=1) d' hi
 |have:=OX;have c18:a.tmps[18]?.getD undef= .pointer (some ⟨X,0,none⟩):=by rw[<-aN];exact G.cl 2 b_ b_ b_ c_
  have ab:=G.early (f:=12) (i:=3) d' hi
 |have vI:a.tmps[21]?.getD undef= .pointer (some ⟨X,1,none⟩):=by rw[<-aN];exact G.cl 5 b_ b_ b_ c_
  have ab:=G.early (f:=12) (i:=6) d' hi
 rw[<-ak] at ab;obtain⟨⟨s0,s1,s2,s3,s4⟩,_⟩:=ab;exact af):P:=h
theorem QL(h:P:=by
 first
 |have:=S4;rw[if_pos q2] at hR;have HX:Hid (R=(H,6)):=hid hR.symm;have cV:H<55296\/57344<=H:=a_
  have CU:=hid (λw=>Ly H w ⟨a_,a_⟩);clear hR C2 HP q1 q2 hH bn
  (rcases cV with q2 | q2)
 |rw[if_pos q8] at hR;have HX:Hid (R=(0,0)):=hid hR.symm;have cz:L<56320\/57344<=L:=a_
  clear hR q8 hL a1
  (rcases cz with q8 | q8)
 all_goals
  go_wp2_with fail;refine aH (D1.out _) λw1 o=>?_;have G:=hid (aE HW.out o);clear o;go_wp2_with fail;first|have:=S4;refine aH (CU.out _) λw2 J=>?_|refine aH (D2.out _) λw2 J=>?_
  exact mv):P:=h
theorem EZ(h:P:=by
 intro d a w' iq o' hO ho hi F aa G R' I;have Z:=dW aa [(0,some P),(10,some X2),(14,false)] rfl rfl;have hc:=G.all [(0,56),(1,57),(4,60),(5,61),(6,62),(17,73),(18,74),(19,75),(30,86)] b_;dsimp only[dS,dM,lk] at Z hc;clear aa
 repeat' rcases hO with _ | ⟨_,hO⟩
 all_goals (simp only[cR,cP,bY,cC] at ho;subst ho;try simp[Region.binds] at F)
 iterate 7 (refine jD ?_;go_simp;exact I _ _ G.sp)
 iterate 25 exact G.sk I (hd:=by simp[F])):P:=h
theorem JM(h:P:=by
 first|have:=OC;have I:=hid (H0.out rfl)|rw[if_pos t1] at hR;have I:=hid hR;clear hR q1 q2 q3 p1 p2 p3
 go_wp2_with fail;have hf:=iS (cA (cA (cA av.out 0 (.bool false)) 1 (.string ⟨#[]⟩)) 2 (.int .i64 0));clear r0 r1 r2 g0 g1 g2;obtain⟨r0,r1,r2,g0,g1,g2⟩:=hf;first|have:=OC;refine bodyPost_ret (v:= .tuple #[eK cM,(2:Int)]) ?_ rfl ⟨by rw[I.out];rfl,?_⟩|refine bodyPost_ret (v:= .tuple #[eK cM,(3:Int)]) ?_ rfl ⟨by rw[I.out];rfl,?_⟩
 .exact EO
 .exact D4):P:=h
theorem I2(h:P:=by
 have W:(S.data.toList.take p).all eC=true:=by
  have G:=HZ.out;rw[<-dN.out] at G;rw[iN] at G ⊢;exact λx hx=>G x (List.take_subset _ _ hx)
 have h3:=Ib _ W;have Q:(S.data.toList.take p).length<=9:=by rw[bR];have:S.data.toList.length=S.size:=rfl;omega
 have h5:(10:Int) ^ (S.data.toList.take p).length<=10 ^ 9:=by exact_mod_cast Nat.pow_le_pow_right (n:=10) b_ Q
 omega):P:=h
theorem I5(h:P:=by
 obtain⟨rv,z,nv,j,E,_⟩:=h;obtain⟨c0,c1,c2,c3,c4,c5,c6,_⟩:=j.cells;first|have:=NH;have sl:=aP txt|skip
 cases rest with
 | nil=>
  obtain⟨p,c,rfl⟩:=E.empty;clear j E;exact bj
 | cons t r=>
  obtain⟨g,o,c,rfl,hc,k0,k1,k2,_⟩:=E.head;have d0:(((r.length:Int)+1)==0)=false:=aI.2 a_;have d1:(((r.length+1:Nat):Int)==0)=false:=aI.2 a_;clear j E;exact bj):P:=h
theorem E2(h:P:=by
 clear d f g r0 r1 r2 r3 f0 f1 f2 f3 j;obtain⟨d0,d1,d2,d3,_⟩:=bK b.out.2.2;refine bodyPost_ret (v:= .tuple #[.agg #[rk,bs rs,(.slice none 0 0),(.slice none 0 0)],(0:Int)]) ?_ rfl ⟨⟨_,_,rfl,b.out.1⟩,b.out.2.1⟩;exact io):P:=h
theorem py(h:P:=by
 clear ae aa al ad V hbr hr hN ch;rcases HQ with rfl | ⟨bg,rfl⟩
 all_goals
  go_in;go_wp2_with (go_at_call 67;refine(CN.out _).mono ?_;rintro e w' ⟨rfl,rfl⟩);refine wp_loop_rounds 1 ?_;rw[rounds_succ];go_wp2;go_ret2;exact ab):P:=h
theorem fd(h:P:=by
 have ae:=G.at2 (j:=0) rfl hi (.inl rfl);have hA:aA W2 w':=ae;go_simp;exact I _ _ (G.ef 0 aj ha hi (.inl rfl) (λ_ _ _=>trivial) (λ_=>cW.out 1 _ _ b_ ⟨w',hA,rfl,rfl⟩) ⟨w',hA,rfl,rfl⟩)):P:=h
theorem E6(h:P:=by
 subst jh;have hr:=HR.out;rw[List.drop_length] at hr;unfold mX at hr;have bw:=hid hr;have d1:decide ((sp.length:Int)<(sp.length:Int))=false:=aJ a_;have HF:=HJ;clear hr hil;exact jd):P:=h
theorem j8(h:P:=by
 have HF:=hid (h.fail a er);obtain⟨z,sv,lv,nv,_,hk⟩:=h;obtain⟨⟨c0,c1,c2,c3,c4,c5,c6⟩,f2,f3,f4,f5,f6⟩:=hk.cells;clear hk;go_in;go_wp2;go_ret;exact an):P:=h
theorem FD(h:P:=by
 rcases pO.1 b with b | b
 .exact(h.kids y b).kept hg (gW (h.kids y b) h.row b_)
 .rw[kT.1 b];simp only[];rw[hk];exact⟨rfl, .inl ⟨rfl,rfl⟩⟩):P:=h
theorem fi(h:P:=by
 exact(((h.setCell (p:=⟨X,0,none⟩) hX _).setCell (p:=⟨X,1,none⟩) hX _).setCell (p:=⟨X,2,none⟩) hX _).setCell (p:=⟨X,3,none⟩) hX _):P:=h
theorem FF(h:P:=by
 intro wz hS;simp only[iU,cY,cQ,cZ];have cc:=hid ((ex.out.keep hS).less bX.out);clear hS;go_wp2;go_ret2;rw[<-eG.out];exact⟨rfl,cc.out⟩):P:=h
theorem ko(h:P:=by
 go_wp2_with (go_at_call 163;(with_reducible refine(C3.out _).mono ?_);rintro e w3 ⟨rfl,ah⟩);go_meet;exact⟨e_,aE ce.out ah⟩):P:=h
theorem fm(h:P:=by
 have eG:=hid cD;clear cD;go_wp2;go_ret2;rw[<-eG.out];exact⟨rfl,by first | exact dI.out | exact dI.out.keep (aD _ _).drew⟩):P:=h
theorem fo(h:P:=by
 go_wp2_with (go_at_call 91;refine(CG.out _).mono ?_;rintro e w' ⟨rfl,rfl⟩);go_ret3;exact⟨by rw[<-HF.out];rfl,rfl⟩):P:=h
theorem FH(h:P:=by
 obtain⟨v,f,⟨z,nv,g,k,j⟩,i⟩:=h;subst g;obtain⟨p,c,a,b⟩:=At.of j;rw[k] at a b;subst a;exact⟨p,c,f,b,i⟩):P:=h
theorem lh(h:P:=by
 clear hp;go_wp2;go_roundw
 case rel=>exact⟨k+1,a_,t_,HN.out,trivial⟩
 case measure=>simp[RowKit.intOf];omega):P:=h
theorem EF(h:P:=by
 go_in;go_wp2_with fail;refine d.out.mono ?_;unfold iF;rintro e w1 ⟨rfl,c⟩;go_wp2;go_ret3;exact⟨rfl,c⟩):P:=h
theorem FR(h:P:=by
 have h1:=HG.out;cases f with
 | zero=>exact hid h1.symm
 | succ f=>rw[Bj,if_pos hkN] at h1;exact hid h1.symm):P:=h
theorem k8(h:P:=by
 go_wp2;go_round
 case rel=>exact⟨j+1+1,g,t_,a_,a_,a_,v.out⟩
 case measure=>simp[RowKit.intOf];omega):P:=h
theorem iu(h:P:=by
 go_in;go_wp2_with (go_at_call 179;refine(CS.out _).mono ?_;rintro e w' ⟨rfl,rfl⟩);go_ret2;exact ab):P:=h
theorem dy(h:P:=by
 cases hc:d (eff.getLastD 0) with
 | false=>rfl
 | true=>rw[h.clo.reach f _ _ hr hc] at hi;cases hi):P:=h
theorem fv(h:P:=by
 rcases bO.2 with⟨h0,_⟩ | ⟨g,cap,ec,h1,_⟩
 .exact⟨none,0,0,h0⟩
 .exact⟨_,_,_,h1⟩):P:=h
theorem EH(h:P:=by
 rw[<-hz,cF] at hx;cases Z:z[k]? with
 | none=>rw[Z] at hx;cases hx
 | some q=>exact⟨q,rfl⟩):P:=h
theorem mq(h:P:=by
 exact⟨i1,ig,by rw[<-bt],fy,hid ⟨by have:=Bl.out;have:=vj.out;omega,HA.out.2⟩,HB,fo⟩):P:=h
theorem mx(h:P:=by
 go_wp2;go_meet;exact⟨_,by first | exact fH | exact hid (fH.out.keep (aD _ _).drew)⟩):P:=h
theorem GC(h:P:=by
 have nm:=G.g 1 62 c_;have u9:=G.g 2 63 c_;have yo:=G.g 3 64 c_;refine nO nm ?_;exact DW):P:=h
theorem qh(h:P:=by
 all_goals go_ret
 all_goals exact⟨rfl,((aD _ _).alloc (aF _) _).trans (b.mono e_)⟩):P:=h
theorem FX(h:P:=by
 rcases List.mem_or_eq_of_mem_set s with s | rfl
 .exact E x s
 .exact E y (bH hy)):P:=h
theorem ne(h:P:=by
 go_wp2;go_ret2;rw[<-cf.out];exact⟨rfl,hI.out.less nU.out,HH.out _ _ _ _ hI.out⟩):P:=h
theorem EI(h:P:=by
 rw[bC] at this;have g:=(aW.1 h1.2).1;simp only[Int.toNat_zero] at this g ⊢;omega):P:=h
theorem F4(h:P:=by
 have h1:=ih x kR;have h2:=ihl (λy c=>ih y (List.mem_cons_of_mem _ c));omega):P:=h
theorem D4(h:P:=by
 repeat (first | refine jA ?_ (aF _) | refine Below.drew ?_)
 exact fB.out):P:=h
theorem F8(h:P:=by
 repeat (first | refine jA ?_ (aF _) | refine Below.drew ?_)
 exact dH.out):P:=h
theorem EK(h:P:=by
 simp[results,results105,go_sem,eL,bG,c0,c1,c2,c3,c4,c5,c6,c7,c8,c9]):P:=h
theorem PB(h:P:=by
 go_in;go_wp2_with fail;refine aH (C1.out _ HV.out) λw1 o=>?_;exact bu):P:=h
theorem o9(h:P:=by
 rw[f,Bool.not_true,Bool.false_or] at this;exact of_decide_eq_true this):P:=h
theorem GE(h:P:=by
 have h:=strings_TrimLeft_one (bs t) 32 b_ w;rw[aY] at h;exact au):P:=h
theorem ER(h:P:=by
 go_ret3;exact⟨nD i.out (λ_=>rfl) (λh=>absurd rfl h) a_,aD _ _⟩):P:=h
theorem F'(h:P:=by rw[eW wr ⟨g,i*2+1,none⟩ _ P (show P≠g by omega)];exact U.out):P:=h
theorem cb(h:P:=by
 rw[rounds_succ];go_wp2_with fail;rw[rounds_succ];go_wp2;exact ER):P:=h
theorem gu(h:P:=by
 go_wp2;go_ret;rw[<-cf.out];exact .inr ⟨vp.out,rfl,HF.out⟩):P:=h
theorem EN(h:P:=by
 simp[results,results63,go_sem,r0,r1,r2,eK,cM];try rfl):P:=h
theorem pb(h:P:=by
 injection b with b;injection b with _ b;exact absurd b b_):P:=h
theorem GG(h:P:=by
 have h5:=(n j' _ (bI a_)).1 (hp j' _ rfl (bI a_));omega):P:=h
theorem D7(h:P:=by first | exact dx.out | exact dx.out.keep (aD _ _).drew):P:=h
theorem F6(h:P:=by first | exact ex.out | exact ex.out.keep (aD _ _).drew):P:=h
theorem I_(h:P:=by first | exact aX.out | exact aX.out.keep (aD _ _).drew):P:=h
theorem K_(h:P:=by first | exact HJ.out | exact HJ.out.keep (aD _ _).drew):P:=h
theorem DY(h:P:=by rw[aw];exact cW.out 0 undef _ (by decide) (aD _ _)):P:=h
theorem bh(h:P:=by
 go_wp2;go_ret;exact⟨by rw[<-n.out];rfl,g.out⟩):P:=h
theorem i8(h:P:=by
 simp[results,results26,go_sem,d0,d1,d2,d3]):P:=h
theorem EC(h:P:=by have:=dw.out;have:=gW.out.len;simp only[];omega):P:=h
theorem GT(h:P:=by rw[List.all_append,fQ];exact⟨(oT h1).2,h2⟩):P:=h
theorem ij(h:P:=by
 go_wp2;go_meet;exact⟨by rw[<-HF.out],rfl⟩):P:=h
theorem FI(h:P:=by first | exact cj | exact aE (aD _ _).drew cj):P:=h
theorem GQ(h:P:=by have:S.data.toList.length=S.size:=rfl;omega):P:=h
theorem E_(h:P:=by exact C.cl 4 (by decide) (by decide) (e4)):P:=h
theorem GY(h:P:=by first | exact gR.out | exact gR.out.drew):P:=h
theorem D5(h:P:=by
 rw[gB hil];rw[bI hil] at hx;rw[bA hx]):P:=h
theorem ay(h:P:=by
 go_wp2;go_ret2;rw[<-cf.out];exact ai):P:=h
theorem ah(h:P:=by
 go_simp;exact I _ _ (G.pu aj ha)):P:=h
theorem bu(h:P:=by
 go_wp2;go_ret2;exact⟨rfl,o⟩):P:=h
theorem ax(h:P:=by
 have G:=hid o;clear o;exact ep):P:=h
theorem aq(h:P:=by
 simp only[RowKit.intOf];omega):P:=h
theorem D8(h:P:=by
 unfold dO at h ⊢;exact aj):P:=h
theorem D9(h:P:=by
 unfold cN at h ⊢;exact aj):P:=h
theorem G2(h:P:=by simp only[bM] at bW;omega):P:=h
theorem ag(h:P:=by
 go_wp2;go_meet;exact bo):P:=h
theorem ab(h:P:=by
 exact⟨rfl,aD _ _⟩):P:=h
theorem an(h:P:=by
 exact⟨rfl,HF.out⟩):P:=h
theorem i_(h:P:=by rw[al];exact aD _ _):P:=h
theorem u'(h:P:=by rw[a6];exact aD _ _):P:=h
theorem bo(h:P:=by
 exact⟨rfl,rfl⟩):P:=h
theorem pj(h:P:=by
 clear ar;exact ay):P:=h
theorem JN(h:P:=by rw[<-l];exact s):P:=h
theorem F_(h:P:=by simpa using hc):P:=h
theorem s'(h:P:=by simpa using h):P:=h
theorem J1(h:P:=by simpa using a):P:=h
theorem h_(h:P:=by simp;omega):P:=h
theorem ft(h:P:=by
 exact qm):P:=h
theorem b_(h:P:=by decide):P:=h
theorem DS(h:P:=by rfl):P:=h
end Go.Proofs.YtfhjncbdgjlcoaaGreatDoor
