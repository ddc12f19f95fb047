import Derived.Test.YtaifnmjjpddikaaGreatDoorRl22
import Derived.Test.YtaifnmjjpddikaaGreatDoorRl17
import Derived.Test.YtaifnmjjpddikaaGreatDoorRl4
import Derived.Test.YtaifnmjjpddikaaGreatDoorRl12
set_option maxRecDepth 100000
set_option maxHeartbeats 8000000
namespace Go.Proofs.YtaifnmjjpddikaaGreatDoor
set_option linter.unusedVariables false
set_option linter.unusedSimpArgs false
section
open Go.RowKit
open Go.Lib hiding intOf
theorem Zz {w:World}{X:Nat}{a0 a1:Value}{t:TypeId} (hb:w.heap[X]?=some (.cells #[a0,a1] t (0,0))):w.cell? ⟨X,0,none⟩=some a0/\w.cell? ⟨X,1,none⟩=some a1/\w.frozen? ⟨X,0,none⟩=false/\w.frozen? ⟨X,1,none⟩=false:=by
 refine⟨?_,?_,?_,?_⟩<;>simp[World.cell?,World.frozen?,hb]
theorem aAa {w:World}{X:Nat}{o0 o1 a0 a1:Value}{t:TypeId} (h:w.heap[X]?=some (.cells #[o0,o1] t (0,0))):((w.setCell ⟨X,0,none⟩ a0).setCell ⟨X,1,none⟩ a1).heap[X]?=some (.cells #[a0,a1] t (0,0)):=by
 simp[World.setCell,Array.getElem?_modify,h]
theorem aAb {W0 w':World}{Y:Nat}{a0 a1:Value} (h:Below W0.heap.size W0 w') (hY:W0.heap.size<=Y):Below W0.heap.size W0 ((w'.setCell ⟨Y,0,none⟩ a0).setCell ⟨Y,1,none⟩ a1):=
 (h.setCell (by exact hY) _).setCell (by exact hY) _
def WhE (T:TypeId) (Pr:aL) (w0:World) (P:Nat) (txt:aA) (sp:List (Nat×Nat)) (R:cF×Int×Int) (e:Ending) (w':World):Prop:=
 (R.2.2=0/\e= .returned (.bool true)/\ ∃tot,YJ T Pr w0 P txt sp ⟨R.1.lines,R.1.nodes,tot⟩ 0 0 w')\/(R.2.2≠0/\e= .returned (.bool false)/\gB T Pr w0 P txt sp R.2.1 R.2.2 w')
theorem aAd (w0:World) (P:Nat) (txt:aA) (sp:List (Nat×Nat)) (hsp0:dH txt sp) (hs:txt.length<=65536) (hns:sp.length<=131072) (hV:bU w0) {Pr:aL} (w:World) (h:YJ YP Pr w0 P txt sp ⟨[],[],0⟩ 0 0 w):
  Calls Tryz.prog 18 #[.pointer (some ⟨P,0,none⟩)] w (WhE YP Pr w0 P txt sp (kL txt sp)):=by
 obtain⟨R,b⟩:=exQ<|kL txt sp;rw[b];unfold kL at b;have a8:lB txt sp []:=⟨bM _,λi B=>absurd B (pA _)⟩;have l:=lC hsp0 (k:=0) (lines:= []) (aE _) a8 (λi _ B=>absurd B (pA _));obtain⟨NN,hN⟩:=exQ<|gH txt sp 0 [];rw[hN] at b l;have CN:Hid (Calls Tryz.prog 33 #[.pointer (some ⟨P,0,none⟩), .int .i64 0] w (zI YP Pr w0 P txt sp ⟨[],[],0⟩ NN)):=hid (by have:=Dq (st:=⟨[],[],0⟩) 0 w h (aE _) (bM _) hs hns hV;rw[hN] at this;exact this);have HSP:=hid hsp0;clear hN h a8;go_enter Tryz.func18,Tryz.ntmps18;cases NN with
 | bad a er=>
  have t:Hid ((⟨[],[]⟩,a,er)=R):=hid b;have O:Hid (er≠0):=hid l.2.2;clear b l;go_wp2_with fail;refine CN.out.mono ?_;rintro e w2 ⟨⟨m,rfl⟩,s⟩;have HF:=hid s;clear s;go_wp2_with fail;go_ret;rw[<-t.out];exact .inr ⟨O.out,rfl,HF.out⟩
 | ok k ls=>
  simp only[] at b l;have aY:=hid l;have HR:=hid b;have hk0:(0:Int)<=(k:Int):=by omega
  clear b l;go_wp2_with fail;refine CN.out.mono ?_;rintro e w2 ⟨rfl,T⟩;have K:=hid T;have CT:Hid (∀w',YJ YP Pr w0 P txt sp ⟨ls,[],0⟩ 0 0 w'->Calls Tryz.prog 34 #[.pointer (some ⟨P,0,none⟩), .int .i64 (k:Int)] w' λe w2=>e= .returned (.bool (decide (k<sp.length)))/\Below w'.heap.size w' w2):=hid (λw' N=>vA k w' N);clear T CN;by_cases hlt:k<sp.length;rotate_left
  ·have b:=HR.out;rw[if_pos hlt] at b;have t:=hid b;rw[aH hlt] at CT;clear b hlt HR;go_wp2_with fail;refine(CT.out _ (by first | exact K.out | exact K.out.keep (aB _ _).drew)).mono ?_;rintro e w3 ⟨rfl,F⟩;have af:=hid (K.out.keep (by first | exact F | exact aC (aB _ _).drew F));clear F;go_upto_region 5 with fail;obtain⟨W0,ap⟩:=exQ<|w3.drew;have au:=af.out.keep (aB _ w3).drew;rw[ap] at au;have ax:=hid au;obtain⟨SA,ar⟩: ∃S:World->Prop,(λw'=>w'.cell? ⟨P,0,none⟩=some (.string (bs txt)))=S:=⟨_,rfl⟩;have ay:Hid (∀w',Below W0.heap.size W0 w'->SA w'):=hid (λw' hb=>by rw[<-ar];obtain⟨z,sv,lv,nv,H,hK⟩:=ax.out.keep hb;exact hK.cells.1.1);have hbsz:=aT txt;clear au;have Z:Tryz.prog.follows .mixedOrders=true:=(by kernel_rfl);refine lD Z [some 17,some 18,some 19,some 20,some 21,some 22,some 23,some 24,some 25,some 26,some 27,some 5,none] [17,18,19,20,21,22,23,24,25,26,27,5] [12] 11 (oI W0 59 #[.int .i64 0, .int .i64 0]) 72 rfl (by kernel_rfl) (by kernel_rfl) (by kernel_rfl) (λiz=>match iz with | 0=> .pointer (some ⟨P,0,none⟩) | 1=> .pointer (some ⟨P,0,none⟩) | 2=> .pointer (some ⟨P,0,none⟩) | 3=> .string (bs txt) | 4=> .int .i64 (txt.length:Int) | 5=> .pointer (some ⟨P,0,none⟩) | 6=> .pointer (some ⟨P,0,none⟩) | 7=> .pointer (some ⟨P,0,none⟩) | 8=> .string (bs txt) | 9=> .int .i64 (txt.length:Int) | 10=> .agg #[.int .i64 (txt.length:Int), .int .i64 (txt.length:Int)] | _=>undef) SA (vB W0 59 #[.int .i64 (txt.length:Int), .int .i64 (txt.length:Int)]) (by rw[ap];exact ay.out _ (aB _ _)) (by rw[ap];exact aB _ _) ?_ ?_
   ·intro d a w' iq o' ho B p I r R' b;have aq:iq<13:=(cJ.1 ho).1;have q0:a.tmps[0]?.getD undef= .pointer (some ⟨P,0,none⟩):=bA I 0 (by decide);have hc:=r.all [(0,17),(1,18),(2,19),(3,20),(4,21),(5,22),(6,23),(7,24),(8,25),(9,26),(10,27)] (by decide);dsimp only[fC] at hc;clear I;have ha:=p;have A:=ho;have aS:iq=11\/iq=12\/iq=0\/iq=1\/iq=2\/iq=4\/iq=5\/iq=6\/iq=7\/iq=9\/iq=10\/iq=3\/iq=8:=(by omega);clear aq;rcases aS with rfl|rfl|rfl|rfl|rfl|rfl|rfl|rfl|rfl|rfl|rfl|rfl|rfl<;>simp only[eC,dV,cH,cN] at ho<;>subst ho<;>(try simp[Region.binds] at p)
    ·have hA:Below W0.heap.size W0 w':=r.at2 (j:=0) rfl (r.lastNot (f:=13) (i:=11) (by kernel_rfl) B) (.inl rfl);have a5:=aI w' (.cells #[.int .i64 0, .int .i64 0] 59);go_simp;exact b _ _ (r.free (by kernel_rfl) A ha rfl (by decide) rfl (by decide) (by kernel_rfl) (by decide) (r.lastNot (f:=13) (i:=11) (by kernel_rfl) B) (λ_=>ay.out _ (aC hA a5)) (λk c hp=>hp.keep a5) (oI.new hA.size))
    ·have c27:=r.g 10 27 rfl (by decide) (by decide) (by decide) (by simp[p]);have E:=r.at2 (j:=0) rfl B (.inl rfl);obtain⟨Y,hY,M,V⟩:=r.fb B (by simp[p]);have hY:a.tmps.getD 5 undef= .pointer (some ⟨Y,0,none⟩):=hY;have c5:a.tmps[5]?.getD undef= .pointer (some ⟨Y,0,none⟩):=by rw[<-aO];exact hY
     obtain⟨z0,z1,h0,h1⟩:=Zz V;have hA:Below W0.heap.size W0 w':=E;go_simp;exact b undef _ (r.eff2 (by kernel_rfl) (by decide) 0 A ha rfl B (.inl rfl) rfl (by decide) (λh=>absurd rfl h) (λh=>absurd rfl h) ⟨Y,hY,M,aAa V,aAb hA M⟩)
    iterate 9 (go_simp;exact b _ _ (r.pure (by kernel_rfl) A ha rfl (by decide) (by decide) (by decide) rfl))
    all_goals
     have D:=r.early (f:=13) (by kernel_rfl) B;rw[<-ar] at D;have c0:=D;go_simp;exact b _ _ (r.pure (by kernel_rfl) A ha rfl (by decide) (by decide) (by decide) rfl)
   intro v wz aF bh;obtain⟨X,hY,M,V,a7⟩:=bh;have a2:v 5= .pointer (some ⟨X,0,none⟩):=hY;have a6:=ax.out.put a7 M V;have az:=hid (λq o hq=>aL.put_less (Pr:=Pr) (X:=X) (o:= .cells #[.int .i64 (txt.length:Int), .int .i64 (txt.length:Int)] 59) (λq o' hq=>ax.out.frLt q o' hq) M q o hq);have bk:=hid a6;simp only[cC,eJ,dO,eK,a2];clear a6 hY M V a7 aF a2 ay ar;go_upto_region 6 with fail;obtain⟨W2,ag⟩:=exQ<|wz.drew;have T:=bk.out.keep (aB _ wz).drew;rw[ag] at T;obtain⟨z,sv,lv,nv,H,U⟩:=T;have aN:z= []:=(by simpa using H);obtain⟨pn,cn,a1⟩:=U.ndSlice;obtain⟨n,hn⟩:=exQ<|z.length;rw[hn] at a1;subst a1;have hn4:n<=4096:=by rw[<-hn,aN];simp
   have aK:=hid (aJ aN hn);have aV:=hid U;have ad:=U.nod.row;rw[aK.out.2] at ad;have ak:=hid ad;have bn:=hid U.bel.size;obtain⟨i0,bl,L,bj,bi⟩:=info_parts Tryz.infoYnode;obtain⟨SB,ai⟩: ∃S:World->Prop,(λw'=>(w'.cell? ⟨P,3,none⟩=some (.slice pn n cn)/\w'.frozen? ⟨P,3,none⟩=false)/\w'.cell? ⟨X,0,none⟩=some (.int .i64 (txt.length:Int))/\w'.cell? ⟨X,1,none⟩=some (.int .i64 (txt.length:Int)))=S:=⟨_,rfl⟩;have ah:Hid (∀q c w',q<3->cS 62 w0.heap.size (.slice pn n cn) n (iM z) (gV (⟨1,0,0,0,0,0,(txt.length:Int),(txt.length:Int),[]⟩:aG)) P 3 W2 q c w'->SB w'):=hid (λq c w' hq hp=>by rw[<-ai];have hs:=aV.out.seenA ak.out (by decide) (λj o N=>(aV.out.fr j o N).2.2.2.1) hq hp;obtain⟨c2,f2⟩:=hs.c3;have hl:=hs.fr X _ (aL.put_eq _ _ _);exact⟨⟨c2,f2⟩,mM hl⟩);clear U ad H aN hn;have Z:Tryz.prog.follows .mixedOrders=true:=(by kernel_rfl);refine lD Z [some 28,some 29,some 30,some 31,some 32,some 33,some 34,some 35,some 36,some 37,some 38,none] [28,29,30,31,32,33,34,35,36,37,38] [7,8,11] 1000000 (λ_ _=>True) 72 rfl (by kernel_rfl) (by kernel_rfl) (by kernel_rfl) (λiz=>match iz with | 0=> .pointer (some ⟨P,0,none⟩) | 1=> .pointer (some ⟨P,0,none⟩) | 2=> .pointer (some ⟨P,0,none⟩) | 3=> .pointer (some ⟨P,3,none⟩) | 4=> .slice pn n cn | 5=> .agg #[.int .i64 (txt.length:Int), .int .i64 (txt.length:Int)] | 6=> .agg #[.int .i64 1, .int .i64 0, .int .i64 0, .int .i64 0, .int .i64 0, .int .i64 0, .int .i64 (txt.length:Int), .int .i64 (txt.length:Int), .slice none 0 0] | 9=> .pointer (some ⟨P,0,none⟩) | 10=> .pointer (some ⟨P,3,none⟩) | _=>undef) SB (cS 62 w0.heap.size (.slice pn n cn) n (iM z) (gV (⟨1,0,0,0,0,0,(txt.length:Int),(txt.length:Int),[]⟩:aG)) P 3 W2) (by rw[ag];exact ah.out 0 undef _ (by decide) (aB _ _)) (by rw[ag];exact aB _ _) ?_ ?_
   ·intro d a w' iq o' ho B p I r R' b;have aq:iq<12:=(cJ.1 ho).1;have q0:a.tmps[0]?.getD undef= .pointer (some ⟨P,0,none⟩):=bA I 0 (by decide);have q5:a.tmps[5]?.getD undef= .pointer (some ⟨X,0,none⟩):=bA I 5 (by decide);have hc:=r.all [(0,28),(1,29),(2,30),(3,31),(4,32),(5,33),(6,34),(9,37),(10,38)] (by decide);dsimp only[fC] at hc;clear I;have ha:=p;have A:=ho;have aS:iq=7\/iq=8\/iq=11\/iq=0\/iq=1\/iq=2\/iq=3\/iq=6\/iq=9\/iq=10\/iq=4\/iq=5:=(by omega);clear aq;rcases aS with rfl|rfl|rfl|rfl|rfl|rfl|rfl|rfl|rfl|rfl|rfl|rfl<;>simp only[eC,dV,cH,cN] at ho<;>subst ho<;>(try simp[Region.binds] at p)
    ·have c34:=r.g 6 34 rfl (by decide) (by decide) (by decide) (by simp[p]);have E:=r.at2 (j:=0) rfl B (.inl rfl);have hA:Below W2.heap.size W2 w':=E;go_simp;exact b _ _ (r.eff2 (by kernel_rfl) (by decide) 0 A ha rfl B (.inl rfl) rfl (by decide) (λ_ _ _=>trivial) (λ_=>ah.out 1 _ _ (by decide) ⟨w',hA,rfl,rfl⟩) ⟨w',hA,rfl,rfl⟩)
    ·have c32:=r.g 4 32 rfl (by decide) (by decide) (by decide) (by simp[p]);have ab:d 7=true:=(by simp[p]);have E:=r.at2 (j:=1) rfl B (.inr ⟨7,rfl,ab⟩);have ca':a.tmps.getD 32 undef= .slice pn n cn:=by rw[aO];exact c32
     exact cS.app rfl (.tmp 32) (.tmp 35) 34 rfl Tryz.underlying34 bl L bj bi rfl (by decide) rfl (Lz (⟨1,0,0,0,0,0,(txt.length:Int),(txt.length:Int),[]⟩:aG)) ak.out (by omega) (by decide) bn.out E ca' rfl (λv' w2 hp=>b _ _ (r.eff2 (by kernel_rfl) (by decide) 1 A ha rfl B (.inr ⟨7,rfl,ab⟩) rfl (by decide) (λ_ _ _=>trivial) (λ_=>ah.out 2 _ _ (by decide) hp) hp))
    ·have c38:=r.g 10 38 rfl (by decide) (by decide) (by decide) (by simp[p]);have ab:d 8=true:=(by simp[p]);have E:=r.at2 (j:=2) rfl B (.inr ⟨8,rfl,ab⟩);have D:=r.st B;rw[<-ai] at D;obtain⟨⟨p3,p3f⟩,b0,b1⟩:=D;have ao:cS 62 w0.heap.size (.slice pn n cn) n (iM z) (gV (⟨1,0,0,0,0,0,(txt.length:Int),(txt.length:Int),[]⟩:aG)) P 3 W2 2 (a.tmps.getD 36 undef) w':=E;obtain⟨gz,cz,H⟩:=ao.form;rw[H] at ao;have c36:a.tmps[36]?.getD undef= .slice (some ⟨gz,0,none⟩) (n+1) cz:=by rw[<-aO];exact H
     go_simp;exact b undef _ (r.eff2 (by kernel_rfl) (by decide) 2 A ha rfl B (.inr ⟨8,rfl,ab⟩) rfl (by decide) (λ_ _ _=>trivial) (λh=>absurd rfl h) ⟨_,_,ao,rfl⟩)
    iterate 7 (go_simp;exact b _ _ (r.pure (by kernel_rfl) A ha rfl (by decide) (by decide) (by decide) rfl))
    all_goals
     have D:=r.early (f:=12) (by kernel_rfl) B;rw[<-ai] at D;obtain⟨⟨p3,p3f⟩,b0,b1⟩:=D;go_simp;exact b _ _ (r.pure (by kernel_rfl) A ha rfl (by decide) (by decide) (by decide) rfl)
   intro v wy aF ba;obtain⟨cz,bf⟩: ∃c,cS 62 w0.heap.size (.slice pn n cn) z.length (iM z) (gV (⟨1,0,0,0,0,0,(txt.length:Int),(txt.length:Int),[]⟩:aG)) P 3 W2 3 c wy:=⟨_,by rw[aK.out.2];exact ba⟩;obtain⟨g,cap,a9⟩:=aV.out.nodeA (x:=(⟨1,0,0,0,0,0,(txt.length:Int),(txt.length:Int),[]⟩:aG)) rfl bf;have bd:=a9.less az.out;have HF:Hid (YJ YP Pr w0 P txt sp ⟨ls,[(⟨1,0,0,0,0,0,(txt.length:Int),(txt.length:Int),[]⟩:aG)],0⟩ 0 0 wy):=hid ⟨_,_,_,_,by rw[mZ,aK.out.1];rfl,bd⟩;clear ba a9 bd bf aF ah ai ag;simp only[cC,eJ,dO,eK];go_wp2_with fail;go_ret;rw[<-t.out];exact .inl ⟨rfl,rfl,0,HF.out⟩
  ·have b:=HR.out;rw[if_neg (λe=>e hlt)] at b;rw[aM hlt] at CT;obtain⟨C,W⟩:=aY.out.hit hlt;have aw:dI txt sp ⟨ls,[],0⟩:=⟨aY.out.ok,by simp⟩;obtain⟨Q,hQ⟩:=exQ<|oD txt sp 32 k 0 0 ⟨ls,[],0⟩;have u:=qT hsp0 32 k 0 0 ⟨ls,[],0⟩ aw C.symm;rw[hQ] at b u;have CB:Hid (∀w',YJ YP Pr w0 P txt sp ⟨ls,[],0⟩ 0 0 w'->Calls Tryz.prog 35 #[.pointer (some ⟨P,0,none⟩), .int .i64 (k:Int), .int .i64 1, .agg #[.int .i64 0, .int .i64 0]] w' (iD YP Pr w0 P txt sp Q)):=hid (λw' N=>by have:=Mo w0 P txt sp hsp0 hs hns hV 32 (aE _) Pr k 0 0 ⟨ls,[],0⟩ 1 w' N C.symm aw (hid (by decide));rw[hQ] at this;exact this);have aQ:=hid b;clear b hlt hQ aw HR C W;go_wp2_with fail;refine(CT.out _ (by first | exact K.out | exact K.out.keep (aB _ _).drew)).mono ?_;rintro e w3 ⟨rfl,F⟩;have af:=hid (K.out.keep (by first | exact F | exact aC (aB _ _).drew F));clear F;go_wp2_with fail;refine(CB.out _ (by first | exact af.out | exact af.out.keep (aB _ _).drew)).mono ?_;rintro e w4 hE;have HE:=hid hE;clear hE;cases Q with
   | bad a er=>
    have t:Hid ((⟨[],[]⟩,a,er)=R):=hid aQ.out;have O:Hid (er≠0):=hid (show 0<=a/\a<=(txt.length:Int)/\er≠0 from u).2.2;obtain⟨⟨m,rfl⟩,s⟩:=HE.out;have HF:=hid s;clear s HE u;go_wp2_with fail;go_ret;rw[<-t.out];exact .inr ⟨O.out,rfl,HF.out⟩
   | ok nn s4=>
    obtain⟨rfl,aX⟩:=HE.out;obtain⟨g1,⟨more,g2n,g2⟩,g3,g4,g5,g6⟩:=(show kM txt sp k ⟨ls,[],0⟩ nn s4 from u);have g10:nn=0:=g1;subst g10;have b:=aQ.out;simp only[] at b;obtain⟨y,hy⟩: ∃y,s4.nodes[0]?=some y:=by
     cases more with
     | nil=>exact absurd rfl g2n
     | cons y _=>exact⟨y,by rw[g2];rfl⟩
    have am:=Dl hy;rw[am] at b g4 g5;obtain⟨til,av⟩:=exQ<|y.til;rw[av] at b g4 g5;obtain⟨N2,aP⟩:=exQ<|gH txt sp til s4.lines;have l:=lC hsp0 (k:=til) g4.2 g6.ls g5;rw[aP] at b l;have CN:Hid (∀w',YJ YP Pr w0 P txt sp s4 0 0 w'->Calls Tryz.prog 33 #[.pointer (some ⟨P,0,none⟩), .int .i64 (til:Int)] w' (zI YP Pr w0 P txt sp s4 N2)):=hid (λw' N=>by have:=Dq til w' N g4.2 g6.ls.1 hs hns hV;rw[aP] at this;exact this);have aj:=hid aX;obtain⟨z,sv,lv,nv,H,hK⟩:=aX;have bo:z.length=s4.nodes.length:=(by rw[<-H,bK]);obtain⟨gn,cn,cur,rfl,bm,_⟩:=hK.nod.form (λe=>by rw[e] at H;rw[<-H] at hy;cases hy);obtain⟨z0,L⟩: ∃z0,z[0]?=some z0:=by
     rw[<-H,cW] at hy;cases hq:z[0]? with
     | none=>rw[hq] at hy;cases hy
     | some q=>exact⟨q,rfl⟩
    have al:z0.1=y:=by
     rw[<-H,cW,L] at hy;exact bD hy
    have ae:=(hK.nod.at_ L 3 (by omega) rfl).1;rw[al,av] at ae;have c3:=hK.cells.1.2.2.2.1;have hPl:=hK.lt;obtain⟨m,hm⟩:=exQ<|z.length;have hm0:(0:Int)<(m:Int):=by have:=(aR.1 L).1;omega
    have hm1:0<m:=(by omega);rw[hm] at c3 bm;simp only[Nat.zero_mul,Nat.zero_add] at ae;have HR:=hid b;have an:=hid l;have HG:=hid g6;clear hK H L al bo hm hy am av g1 g2n g2 g3 g4 g5 g6 b l aP u aQ HE CB CT;cases N2 with
    | bad a er=>
     have t:Hid ((⟨[],[]⟩,a,er)=R):=hid HR.out;have O:Hid (er≠0):=hid (show 0<=a/\a<=(txt.length:Int)/\er≠0 from an.out).2.2;go_wp2_with fail;refine(CN.out _ (by first | exact aj.out | exact aj.out.keep (aB _ _).drew)).mono ?_;rintro e w5 ⟨⟨mm,rfl⟩,s⟩;have HF:=hid s;clear s ae c3;go_wp2_with fail;go_ret;rw[<-t.out];exact .inr ⟨O.out,rfl,HF.out⟩
    | ok k2 ls2=>
     have l:=(show qR txt sp til s4.lines k2 ls2 from an.out);have b:=HR.out;simp only[] at b;have bc:=hid b;have bb:=hid l;have hk20:(0:Int)<=(k2:Int):=(by omega);clear b l;go_wp2_with fail;refine(CN.out _ (by first | exact aj.out | exact aj.out.keep (aB _ _).drew)).mono ?_;rintro e w5 ⟨rfl,a4⟩;have J:=hid a4;clear a4 ae c3;have CT:Hid (∀w',YJ YP Pr w0 P txt sp ⟨ls2,s4.nodes,s4.total⟩ 0 0 w'->Calls Tryz.prog 34 #[.pointer (some ⟨P,0,none⟩), .int .i64 (k2:Int)] w' λe w2=>e= .returned (.bool (decide (k2<sp.length)))/\Below w'.heap.size w' w2):=hid (λw' N=>vA k2 w' N);by_cases hlt:k2<sp.length;rotate_left
     ·have b:=bc.out;rw[if_neg hlt] at b;have t:=hid b;rw[aH hlt] at CT;clear b hlt;go_wp2_with fail;refine(CT.out _ (by first | exact J.out | exact J.out.keep (aB _ _).drew)).mono ?_;rintro e w6 ⟨rfl,G⟩;have aa:=hid (J.out.keep (by first | exact G | exact aC (aB _ _).drew G));clear G;go_wp2_with fail;go_ret;rw[<-t.out];exact .inl ⟨rfl,rfl,_,aa.out⟩
     ·have b:=bc.out;rw[if_pos hlt] at b;have t:=hid b;rw[aM hlt] at CT;obtain⟨C,W⟩:=bb.out.hit hlt;have CBg:=hid (λw' N=>Dx (Pr:=Pr) (w0:=w0) (P:=P) (txt:=txt) (sp:=sp) (st:=⟨ls2,s4.nodes,s4.total⟩) (a0:=0) (e0:=0) k2 w' N hlt (by simp only[];omega) (bb.out.ok.2 k2 (by omega)) hs);obtain⟨bg,aW⟩:=exQ<|((pO sp k2).1:Int)+(aU ls2 k2).ind;simp only[aW] at CBg t;have CF:=hid (λa w' N=>pQ (Pr:=Pr) (w0:=w0) (P:=P) (txt:=txt) (sp:=sp) (st:=⟨ls2,s4.nodes,s4.total⟩) (a0:=0) (e0:=0) a 2 w' N);clear b hlt C W aW;go_wp2_with fail;refine(CT.out _ (by first | exact J.out | exact J.out.keep (aB _ _).drew)).mono ?_;rintro e w6 ⟨rfl,G⟩;have aa:=hid (J.out.keep (by first | exact G | exact aC (aB _ _).drew G));clear G;go_wp2_with fail;refine(CBg.out _ (by first | exact aa.out | exact aa.out.keep (aB _ _).drew)).mono ?_;rintro e w7 ⟨rfl,aD⟩;have a3:=hid (aa.out.keep (by first | exact aD | exact aC (aB _ _).drew aD));clear aD;go_wp2_with fail;refine(CF.out _ _ (by first | exact a3.out | exact a3.out.keep (aB _ _).drew)).mono ?_;rintro e w8 ⟨rfl,aZ⟩;have HF:=hid aZ.bad;clear aZ;go_wp2_with fail;go_ret;rw[<-t.out];exact .inr ⟨show (2:Int)≠0 by decide,rfl,HF.out⟩
def gO:Nat->List (Nat×Nat)->List (Nat×Nat)
 | 0,l=>l
 | _,[]=> []
 | n+1,x::l=>(x.1,x.2-1)::gO n l
theorem Mp: ∀(n:Nat) (l:List (Nat×Nat)),(gO n l).length=l.length
 | 0,l=>by cases l<;>rfl
 | n+1,[]=>rfl
 | n+1,x::l=>by rw[gO,aV,Mp n l];rfl
theorem Mq: ∀(n:Nat) (l:List (Nat×Nat)),(gO n l)[n]?=l[n]?
 | 0,l=>by cases l<;>rfl
 | n+1,[]=>rfl
 | n+1,x::l=>by rw[gO,cH,cH];exact Mq n l
theorem Mr: ∀(n:Nat) (l:List (Nat×Nat)) (x:Nat×Nat),l[n]?=some x->gO (n+1) l=(gO n l).set n (x.1,x.2-1)
 | 0,[],x,h=>by cases h
 | 0,y::l,x,h=>by
  obtain rfl:y=x:=bD h;cases l<;>rfl
 | n+1,[],x,h=>by cases h
 | n+1,y::l,x,h=>by
  rw[gO,gO,dO,<-Mr n l x h]
theorem Ms: ∀(l:List (Nat×Nat)),gO (l.length-1) l=lN l
 | []=>rfl
 | [x]=>rfl
 | x::y::l=>by
  have:=Ms (y::l);rw[lN,<-this];rfl
theorem aAe {l:aA}{i:Nat}{x:Nat×Nat} (h:(eF l 0 0)[i]?=some x):x.2<=l.length/\(i+1<(eF l 0 0).length->1<=x.2):=by
 obtain⟨a,b⟩:=zE l 0 0 (aE _);have h3:=a x (aX h);refine⟨by omega,λhi=>?_⟩;have h4:=b x (aX (show (eF l 0 0).dropLast[i]?=some x by rw[List.getElem?_dropLast,if_pos (by omega)];exact h));omega
theorem aAf {s:aA}{sp:List (Nat×Nat)} (hsp:dH s sp):((kL s sp).2.2=0/\(kL s sp).2.1=(s.length:Int))\/((kL s sp).2.2≠0/\(kL s sp).1=⟨[],[]⟩):=by
 have d:lB s sp []:=⟨bM _,λi f=>absurd f (pA _)⟩;have b:=lC hsp (k:=0) (lines:= []) (aE _) d (λi _ f=>absurd f (pA _));unfold kL;cases hN:gH s sp 0 [] with
 | bad a e=>rw[hN] at b;exact .inr ⟨b.2.2,rfl⟩
 | ok k ls=>
  rw[hN] at b;simp only[] at b ⊢;by_cases hk:k<sp.length
  ·rw[if_neg (λe=>e hk)];have c:=qT hsp 32 k 0 0 ⟨ls,[],0⟩ ⟨b.ok,by simp⟩ (b.hit hk).1.symm;cases hB:oD s sp 32 k 0 0 ⟨ls,[],0⟩ with
   | bad a e=>rw[hB] at c;exact .inr ⟨(show 0<=a/\a<=(s.length:Int)/\e≠0 from c).2.2,rfl⟩
   | ok n st=>
    rw[hB] at c;obtain⟨g1,_,_,g4,g5,g6⟩:=(show kM s sp k ⟨ls,[],0⟩ n st from c);have g10:n=0:=g1;subst g10;have g:=lC hsp (k:=fA st.nodes 0) g4.2 g6.ls g5;simp only[];cases hN2:gH s sp (fA st.nodes 0) st.lines with
    | bad a e=>rw[hN2] at g;exact .inr ⟨g.2.2,rfl⟩
    | ok k2 ls2=>
     simp only[];split
     ·exact .inr ⟨show (2:Int)≠0 by decide,rfl⟩
     ·exact .inl ⟨rfl,rfl⟩
  ·rw[if_pos hk];exact .inl ⟨rfl,rfl⟩
theorem Eb {w:World}{B B':Nat}{e:TypeId}{s:Nat}{v:Value}{n:Nat}{xs:List Value} (h:w.ownsRow B e s v n xs) (hB:B'<=B):w.ownsRow B' e s v n xs:=by
 refine⟨h.1,?_⟩;rcases h.2 with c | ⟨g,cap,cur,b,d,a⟩
 ·exact .inl c
 ·exact .inr ⟨g,cap,cur,b,aY hB d,a⟩
theorem eP.base {B B':Nat}{z:List YN}{nv:Value}{w:World} (h:eP B z nv w) (hB:B'<=B):eP B' z nv w:=⟨Eb h.row hB,λy a=>Eb (h.kids y a) hB,h.ak⟩
def fE (B:Nat) (d:cF) (lv nv:Value) (w:World):Prop:= ∃z:List YN,z.map (·.1)=d.nodes/\w.ownsRow B 121 10 lv d.lines.length (jB d.lines)/\eP B z nv w
theorem fE.nil (B:Nat) (w:World):fE B ⟨[],[]⟩ (.slice none 0 0) (.slice none 0 0) w:=⟨[],rfl,⟨rfl, .inl ⟨rfl,rfl⟩⟩,eP.nil _ _⟩
theorem fE.keep {B:Nat}{d:cF}{lv nv:Value}{w w':World} (h:fE B d lv nv w) (hb:Below w.heap.size w w'):fE B d lv nv w':=by
 obtain⟨z,a,c,b⟩:=h;exact⟨z,a,jZ c hb,b.keep hb⟩
def YPE (l:aA) (R:cF×Int×Int) (w:World) (e:Ending) (w':World):Prop:= ∃tx lv nv,e= .returned (.tuple #[.agg #[.string tx,lv,nv], .int .i64 R.2.1, .int .i64 R.2.2])/\tx=(if R.2.2=0 then bs l else⟨#[]⟩)/\fE w.heap.size R.1 lv nv w'/\Below w.heap.size w w'
theorem Ec {fn:Func} (h:fn.results= #[.cell 2 36, .tmp 3, .tmp 4]) (tmps:Array Value) (w:World) {D:Nat}{u v x:Value} (hD:tmps.getD 2 undef= .pointer (some ⟨D,0,none⟩)) (h0:w.cell? ⟨D,0,none⟩=some u) (h1:w.cell? ⟨D,1,none⟩=some v) (h2:w.cell? ⟨D,2,none⟩=some x):
  (results fn tmps).run Tryz.prog w= .ok (.tuple #[.agg #[u,v,x],tmps.getD 3 undef,tmps.getD 4 undef]) w:=by
 have a:tmps[2]?.getD undef= .pointer (some ⟨D,0,none⟩):=by rw[<-aO];exact hD
 simp[results,h,a,asAddr,go_sem,h0,h1,h2]
theorem gJ {w:World}{X:Nat}{a0 a1 a2:Value}{t:TypeId} (hb:w.heap[X]?=some (.cells #[a0,a1,a2] t (0,0))):w.cell? ⟨X,0,none⟩=some a0/\w.cell? ⟨X,1,none⟩=some a1/\w.cell? ⟨X,2,none⟩=some a2/\w.frozen? ⟨X,0,none⟩=false/\w.frozen? ⟨X,1,none⟩=false/\w.frozen? ⟨X,2,none⟩=false:=by
 refine⟨?_,?_,?_,?_,?_,?_⟩<;>simp[World.cell?,World.frozen?,hb]
theorem Ed (l:aA) (w:World) (hV:bU w):
  Calls Tryz.prog 10 #[.string (bs l)] w (YPE l (gI l) w):=by
 have sl:=aT l;obtain⟨R,S⟩:=exQ<|gI l;rw[S];unfold gI at S;have b1:=aI w (.cells #[.string ⟨#[]⟩, .slice none 0 0, .slice none 0 0] 36);have s:=heap_alloc_new w (.cells #[.string ⟨#[]⟩, .slice none 0 0, .slice none 0 0] 36);have E:(w.alloc (.cells #[.string ⟨#[]⟩, .slice none 0 0, .slice none 0 0] 36)).heap.size=w.heap.size+1:=by simp
 obtain⟨D,al⟩:=exQ<|w.heap.size;obtain⟨w1,aC⟩:=exQ<|w.alloc (.cells #[.string ⟨#[]⟩, .slice none 0 0, .slice none 0 0] 36);rw[aC] at b1 s E;rw[al] at s E;have t:=hid b1;have ak:=hid s;have c:=hid al;obtain⟨d0,d1,d2,f0,f1,f2⟩:=gJ s;by_cases hlong:65536<l.length
 ·rw[if_pos hlong] at S;have dl:decide ((65536:Int)<(l.length:Int))=true:=aM (by omega);have dl2:decide (65536<l.length)=true:=aM hlong;clear b1 s;go_enter Tryz.func10,Tryz.ntmps10;go_wp2_with fail
  try simp only[Exit.inBlock,Exit.then]
  refine bodyPost_ret (Ec rfl _ _ rfl (u:= .string ⟨#[]⟩) (v:= .slice none 0 0) (x:= .slice none 0 0) ?_ ?_ ?_) rfl ?_
  ·simp[go_sem,d0,d1,d2]
  ·simp[go_sem,d0,d1,d2]
  ·simp[go_sem,d0,d1,d2]
  ·rw[<-S];exact⟨_,_,_,rfl,rfl,fE.nil _ _,((t.out.setCell (by rw[c.out];exact aE _) _).setCell (by rw[c.out];exact aE _) _).setCell (by rw[c.out];exact aE _) _⟩
 rw[if_neg hlong] at S;have dl:decide ((65536:Int)<(l.length:Int))=false:=aH (by omega);have dl2:decide (65536<l.length)=false:=aH hlong;have am:l.length<=65536:=by omega
 have CL:=hid (Xv (bs l) w1 (by omega));obtain⟨L,hL⟩:=exQ<|eF l 0 0;have Y:tC (bs l)=L:=by unfold tC;rw[aZ];exact hL
 rw[Y] at CL;have O:=rS l 0 0;rw[hL] at O;have HL:=hid hL;have HR:=hid S;have ah:=hid (hV.keep (show Below w.heap.size w w1 from t.out));clear b1 s Y S hL hV;go_enter Tryz.func10,Tryz.ntmps10;go_wp2_with fail;refine CL.out.mono ?_;rintro e w2 ⟨sv,rfl,a,C⟩;obtain⟨g,cap,cur,rfl,az,aa,hcap,_⟩: ∃g cap cur,sv= .slice (some ⟨g,0,none⟩) L.length cap/\w1.heap.size<=g/\w2.heap[g]?=some (.cells cur 59 (0,0))/\L.length<=cap/\True:=by
  rcases a.2 with⟨_,h1⟩ | ⟨g,cap,cur,h1,h2,h3,h4,_⟩
  ·omega
  ·exact⟨g,cap,cur,h1,h2,h3,h4,trivial⟩
 have aw:g<w2.heap.size:=aF aa;obtain⟨P,K⟩:=exQ<|w2.heap.size;have b3:=aI w2 (.cells #[.string (bs l), .slice (some ⟨g,0,none⟩) L.length cap, .slice none 0 0, .slice none 0 0, .int .i64 0, .int .i64 0, .int .i64 0] 57);have y:=heap_alloc_new w2 (.cells #[.string (bs l), .slice (some ⟨g,0,none⟩) L.length cap, .slice none 0 0, .slice none 0 0, .int .i64 0, .int .i64 0, .int .i64 0] 57);obtain⟨w3,ai⟩:=exQ<|w2.alloc (.cells #[.string (bs l), .slice (some ⟨g,0,none⟩) L.length cap, .slice none 0 0, .slice none 0 0, .int .i64 0, .int .i64 0, .int .i64 0] 57);rw[ai] at b3 y;rw[K] at y aw;have j:Hid (mJ w1.heap.size w3 (.slice (some ⟨g,0,none⟩) L.length cap) (gO 0 L)):=hid (jZ a b3);have f:Hid (Below w1.heap.size w1 w3):=hid (C.trans (b3.mono C.size));have m:=hid y;obtain⟨N1,af⟩:=exQ<|L.length-1;have ao:(L.length:Int)-1=(N1:Int):=by omega
 have hN1w:IntKind.i64.wrap ((L.length:Int)-1)=(N1:Int):=by rw[ao,IntKind.wrap_i64];omega
 have hN1x:IntKind.i64.wrap (N1:Int)=(N1:Int):=by rw[IntKind.wrap_i64];omega
 have aO:w1.heap.size<=P:=by rw[<-K];exact C.size
 obtain⟨p1,pl⟩:w3.cell? ⟨P,1,none⟩=some (.slice (some ⟨g,0,none⟩) L.length cap)/\P<w3.heap.size:=⟨by simp[World.cell?,y],aF y⟩;have B:=hid af;clear a C aa b3 y af;go_upto_region 4 with fail;clear ai K;go_wp2_with fail;clear p1;go_loopw [22] (λs22 wr=> ∃i:Nat,s22= .int .i64 (i:Int)/\i<=N1/\Hid (wr.heap[P]?=some (.cells #[.string (bs l), .slice (some ⟨g,0,none⟩) L.length cap, .slice none 0 0, .slice none 0 0, .int .i64 0, .int .i64 0, .int .i64 0] 57))/\Hid (mJ w1.heap.size wr (.slice (some ⟨g,0,none⟩) L.length cap) (gO i L))/\Hid (Below w1.heap.size w1 wr)) (λs22 _=>N1-(RowKit.intOf s22).toNat)
 case atStart=>exact⟨0,rfl,bM _,m,j,f⟩
 case round=>
  clear m j f pl;obtain⟨i,rfl,hi,m,j,f⟩:=hrel;have p1:wr.cell? ⟨P,1,none⟩=some (.slice (some ⟨g,0,none⟩) L.length cap):=by have:=m.out;simp[World.cell?,this]
  have pl:P<wr.heap.size:=aF m.out;by_cases hin:i<N1
  ·have dk:decide ((i:Int)<(N1:Int))=true:=aM (by omega);obtain⟨x,hx⟩: ∃x,L[i]?=some x:=⟨_,bE (by have:=B.out;omega)⟩;have N:=hx;rw[<-HL.out] at N;obtain⟨q1,q2⟩:=aAe N;have q3:=q2 (by rw[HL.out];have:=B.out;omega);have hi0:(0:Int)<=(i:Int):=(by omega);have hi1:(i:Int)<(L.length:Int):=by have:=B.out;omega
   obtain⟨y2,W⟩:=exQ<|x.2-1;have ap:(x.2:Int)-1=(y2:Int):=(by omega);have hy2w:IntKind.i64.wrap ((x.2:Int)-1)=(y2:Int):=by rw[ap,IntKind.wrap_i64];omega
   have hy2x:IntKind.i64.wrap (y2:Int)=(y2:Int):=by rw[IntKind.wrap_i64];omega
   have J:(gO i L)[i]?=some x:=by rw[Mq];exact hx
   have a:=j.out;have key:=tD (λp:Nat×Nat=>([.int .i64 (p.1:Int), .int .i64 (p.2:Int)]:List Value)) 2 Dd (gO i L) i x J 1 (by omega);have q:(gO i L).length=L.length:=Mp i L;have b:wr.ownsRow w1.heap.size 59 2 (.slice (some ⟨g,0,none⟩) (gO i L).length cap) (gO i L).length (nZ (gO i L)):=by
    have h:=a;unfold mJ at h;rw[q] at h ⊢;exact h
   have c1:wr.cell? ⟨g,i*2+1,none⟩=some (.int .i64 (x.2:Int)):=by
    rw[World.ownsRow.cellAt b _ (by rw[q];have:=B.out;omega)];exact key
   have cf:wr.frozen? ⟨g,i*2+1,none⟩=false:=World.ownsRow.frozenAt b _;obtain⟨U,_⟩:=World.ownsRow.stored b (i*2+1) (.int .i64 (y2:Int));have aj:=zC (λp:Nat×Nat=>([.int .i64 (p.1:Int), .int .i64 (p.2:Int)]:List Value)) 2 Dd (gO i L) i x (x.1,y2) J 1 (.int .i64 (y2:Int)) (by omega) rfl;obtain⟨i1,F⟩:=exQ<|i+1;have X:(i:Int)+1=(i1:Int):=(by omega);have aq:Hid (mJ w1.heap.size (wr.setCell ⟨g,i*2+1,none⟩ (.int .i64 (y2:Int))) (.slice (some ⟨g,0,none⟩) L.length cap) (gO i1 L)):=hid (by unfold mJ;rw[<-F,Mr i L x hx,W];rw[List.length_set];have h:=U;rw[show (nZ (gO i L)).set (i*2+1) (.int .i64 (y2:Int))=nZ ((gO i L).set i (x.1,y2)) from aj] at h;rw[q] at h ⊢;exact h);have ay:Hid ((wr.setCell ⟨g,i*2+1,none⟩ (.int .i64 (y2:Int))).heap[P]?=some (.cells #[.string (bs l), .slice (some ⟨g,0,none⟩) L.length cap, .slice none 0 0, .slice none 0 0, .int .i64 0, .int .i64 0, .int .i64 0] 57)):=hid (by rw[cP wr ⟨g,i*2+1,none⟩ _ P (show P≠g by omega)];exact m.out);have aD:Hid (Below w1.heap.size w1 (wr.setCell ⟨g,i*2+1,none⟩ (.int .i64 (y2:Int)))):=hid (f.out.setCell (p:=⟨g,i*2+1,none⟩) az _);have Z:i1<=N1:=(by omega);clear hx N q1 q2 q3 W J a key q b U aj F;go_wp2_with fail;go_roundw
   ·exact⟨i1,by rw[<-X],Z,ay,aq,aD⟩
   ·simp only[RowKit.intOf];omega
  ·obtain rfl:i=N1:=(by omega);have dk:decide ((i:Int)<(i:Int))=false:=aH (by omega);have H:=De l;have G:(dX l).length=L.length:=by unfold dX;rw[yZ,HL.out]
   have hj:YJ YP (λ_=>none) w1 P l (dX l) ⟨[],[],0⟩ 0 0 wr:=by
    refine⟨[], .slice (some ⟨g,0,none⟩) L.length cap, .slice none 0 0, .slice none 0 0,rfl,⟨m.out,?_,⟨rfl, .inl ⟨rfl,rfl⟩⟩,eP.nil _ _,aO,by decide,f.out,λk o hk=>by cases hk⟩⟩;have h:=j.out;unfold mJ at h;rw[show gO i L=dX l by rw[<-B.out,Ms,<-HL.out];rfl] at h;exact h
   have CW:=aAd w1 P l (dX l) H am (by rw[G];omega) ah.out wr hj;have n:=aAf H;rw[HR.out] at CW n;have ar:=hid CW;have ab:=hid n;clear CW n hj H G p1;go_wp2_with fail;refine ar.out.mono ?_;rintro e w4 hE;rcases hE with⟨Q,rfl,tot,au⟩ | ⟨Q,rfl,V⟩
   ·obtain⟨z,sv4,lv4,nv4,hz,r⟩:=au;obtain⟨⟨c0,c1,c2,c3,c4,c5,c6⟩,f2',f3',f4',f5',f6'⟩:=r.cells;obtain⟨ql,cl,rfl⟩:=r.lnSlice;obtain⟨qn,cn,rfl⟩:=r.ndSlice;have aG:=r.lt;have A:w4.heap[D]?=some (.cells #[.string ⟨#[]⟩, .slice none 0 0, .slice none 0 0] 36):=(r.bel.block D (by omega)).trans ak.out;obtain⟨e0,e1,e2,aP,aK,av⟩:=gJ A;have aN:D≠P:=(by omega);have HK:=hid r;have HZ:=hid hz;have ad:=hid A;have ag:R.2.1=(l.length:Int):=by
     rcases ab.out with h | h
     ·exact h.2
     ·exact absurd Q h.1
    have T:=hid (aJ Q ag);obtain⟨nl,I⟩:=exQ<|R.1.lines.length;obtain⟨nz,M⟩:=exQ<|z.length;simp only[] at c2 c3;simp only[I] at c2;rw[M] at c3;have ax:=hid (aJ I M);clear r hz A d0 d1 d2 f0 f1 f2 Q ag I M c4 c5 c6 f2' f3' f4' f5' f6';go_upto_region 11 with fail;go_region
    all_goals
     go_wp2_with fail
     try simp only[Exit.inBlock,Exit.then]
     refine bodyPost_ret (Ec rfl _ _ rfl (u:= .string (bs l)) (v:= .slice ql nl cl) (x:= .slice qn nz cn) ?_ ?_ ?_) rfl ?_
     ·simp[go_sem,e0,e1,e2]
     ·simp[go_sem,e0,e1,e2]
     ·simp[go_sem,e0,e1,e2]
     ·obtain⟨n1,n2⟩:=ax.out;subst n1 n2;have hg:=sO (sO (gT w4 D 0 (.string (bs l))) (gT _ D 1 (.slice ql R.1.lines.length cl))) (gT _ D 2 (.slice qn z.length cn));have an:=World.ownsRow.kept HK.out.lnr hg (dK HK.out.lnr ad.out (by decide));have ae:=HK.out.nod.other ad.out (by decide) (by decide) hg;have d:w.heap.size<=w1.heap.size:=t.out.size;refine⟨bs l,_,_,by rw[T.out.2,T.out.1];rfl,by rw[if_pos T.out.1],(show fE w.heap.size R.1 _ _ _ from fE.keep (w:=((w4.setCell ⟨D,0,none⟩ (.string (bs l))).setCell ⟨D,1,none⟩ (.slice ql R.1.lines.length cl)).setCell ⟨D,2,none⟩ (.slice qn z.length cn)) ⟨z,HZ.out,Eb an d,ae.base d⟩ (aB _ _).drew),?_⟩;exact(((((t.out.trans (HK.out.bel.mono d)).setCell (by rw[c.out];exact aE _) _).setCell (by rw[c.out];exact aE _) _).setCell (by rw[c.out];exact aE _) _)).drew
   ·obtain⟨st,z,sv4,lv4,nv4,hz,r⟩:=V;obtain⟨⟨c0,c1,c2,c3,c4,c5,c6⟩,f2',f3',f4',f5',f6'⟩:=r.cells;have aG:=r.lt;have A:w4.heap[D]?=some (.cells #[.string ⟨#[]⟩, .slice none 0 0, .slice none 0 0] 36):=(r.bel.block D (by omega)).trans ak.out;obtain⟨e0,e1,e2,aP,aK,av⟩:=gJ A;have aN:D≠P:=(by omega);have aL:=hid r.bel;have H1:R.1=⟨[],[]⟩:=by
     rcases ab.out with h | h
     ·exact absurd h.1 Q
     ·exact h.2
    have T:=hid (aJ Q H1);clear r hz A d0 d1 d2 f0 f1 f2 Q H1 c0 c1 c2 c3 c4 f2' f3' f4' f5' f6';go_upto_region 10 with fail;go_region
    all_goals
     go_wp2_with fail
     try simp only[Exit.inBlock,Exit.then]
     refine bodyPost_ret (Ec rfl _ _ rfl (u:= .string ⟨#[]⟩) (v:= .slice none 0 0) (x:= .slice none 0 0) ?_ ?_ ?_) rfl ?_
     ·simp[go_sem,e0,e1,e2]
     ·simp[go_sem,e0,e1,e2]
     ·simp[go_sem,e0,e1,e2]
     ·have d:w.heap.size<=w1.heap.size:=t.out.size;refine⟨⟨#[]⟩,_,_,rfl,by rw[if_neg T.out.1],by rw[T.out.2];exact fE.nil _ _,?_⟩;exact(((((t.out.trans (aL.out.mono d)).setCell (by rw[c.out];exact aE _) _).setCell (by rw[c.out];exact aE _) _).setCell (by rw[c.out];exact aE _) _)).drew
end
section
open Go.Lib
def dY (s:aA) (a b:Int):aA:=if a<0\/b<a\/(s.length:Int)<b then [] else dG s a b
def jE:List aA->aA
 | []=> []
 | [x]=>x
 | x::y::r=>x++10::jE (y::r)
def iV:List (aA×Int)->Int
 | []=> -1
 | (t,i)::r=>if bI t≠t.length then i else iV r
def nE (ls:List aP) (x:aG):List aP:=(ls.take x.til).drop (x.fr+1)
def oJ (s:aA) (ls:List aP) (x:aG):List (aA×Int):=(nE ls x).map λl=>(dY s l.sf l.st,l.ind)
def pU (s:aA) (ls:List aP) (x:aG):aA:=
 jE ((oJ s ls x).map λt=>t.1.drop (iV (oJ s ls x)).toNat)++(if oJ s ls x≠ []/\dY s x.rf x.rt= [124] then [10] else [])
def cX (s:aA) (ns:List aG) (q:Nat):aA:=match ns[q]? with
 | some y=>(jO (dY s y.kf y.kt)).1
 | none=> []
def aN (s:aA) (d:cF):Nat->Nat->VT
 | 0,_=>dP
 | f+1,k=>match d.nodes[k]? with
  | none=>dP
  | some x=>if x.kind=1 then(fP (dY s x.rf x.rt)).1 else if x.kind=4 then kH (pU s d.lines x) else
   .mk (if x.kind=3 then 6 else 5) [] (if x.kind=3 then x.kids.map (cX s d.nodes) else []) (x.kids.map (aN s d f))
def eB (ns:List aG):Nat->Nat->Nat->Prop
 | 0,_,_=>False
 | lv+1,k,hi=> ∃x,ns[k]?=some x/\cO (eB ns lv) x.kids (k+1) hi
theorem eB.lt {ns:List aG}: ∀ {lv k hi:Nat},eB ns lv k hi->k<hi
 | lv+1,k,hi,h=>by
  obtain⟨x,hx,h2⟩:=h;have: ∀(l:List Nat) (a:Nat),cO (eB ns lv) l a hi->a<=hi:=by
   intro l
   induction l with
   | nil=>intro a h;exact nQ h
   | cons y l ih=>
    intro a h;obtain⟨rfl,m,h2,b⟩:=h;have:=ih m b;have:=eB.lt h2;omega
  have:=this _ _ h2;omega
theorem cO.leY {P:Nat->Nat->Prop} (hlt: ∀k m,P k m->k<m) {hi:Nat}: ∀ {l:List Nat}{a:Nat},cO P l a hi->a<=hi
 | [],a,h=>nQ h
 | y::l,a,h=>by
  obtain⟨rfl,m,h2,h3⟩:=h;have:=cO.leY hlt h3;have:=hlt _ _ h2;omega
end
section
open Go.RowKit
open Go.Lib hiding intOf
theorem aAh (s:aA) (a b:Nat):(bs s).extract a b=bs (dG s (a:Int) (b:Int)):=by
 unfold dG;rw[fT,fT,lG,aZ]
theorem zU (s:aA) (lv nv:Value) (hlv: ∃p n c,lv= .slice p n c) (hnv: ∃p n c,nv= .slice p n c) (a b:Int) (w:World) (hs:s.length<=1073741824):
  Calls Tryz.prog 49 #[.agg #[.string (bs s),lv,nv], .agg #[.int .i64 a, .int .i64 b]] w λe w'=>e= .returned (.string (bs (dY s a b)))/\Below w.heap.size w w':=by
 obtain⟨pl,nl,cl,rfl⟩:=hlv;obtain⟨pn,nn,cn,rfl⟩:=hnv;have sl:=aT s;obtain⟨R,g⟩:=exQ<|dY s a b;rw[g];unfold dY at g;obtain⟨W1,f⟩:=exQ<|w.alloc (.cells #[.string (bs s), .slice pl nl cl, .slice pn nn cn] 36);obtain⟨D,j⟩:=exQ<|w.heap.size;have b1:Below w.heap.size w W1:=by rw[<-f];exact aI _ _
 have m:W1.heap[D]?=some (.cells #[.string (bs s), .slice pl nl cl, .slice pn nn cn] 36):=by rw[<-f,<-j];exact heap_alloc_new w _
 obtain⟨W2,d⟩:=exQ<|W1.alloc (.cells #[.int .i64 a, .int .i64 b] 59);obtain⟨S,i⟩:=exQ<|W1.heap.size;have b2:Below W1.heap.size W1 W2:=by rw[<-d];exact aI _ _
 have o:W2.heap[S]?=some (.cells #[.int .i64 a, .int .i64 b] 59):=by rw[<-d,<-i];exact heap_alloc_new W1 _
 obtain⟨d0,_⟩:=gJ ((b2.block D (aF m)).trans m);obtain⟨y0,y1⟩:=mM o;have h:=hid (aC b1 b2);clear b1 b2 m o;by_cases ha:a<0
 ·rw[if_pos (.inl ha)] at g;have da:decide (a<0)=true:=aM ha;clear ha;go_enter Tryz.func49,Tryz.ntmps49;go_upto_region 1 with fail;clear f d j i;go_wp2_with fail;go_ret;rw[<-g];exact⟨rfl,by first | exact h.out | exact h.out.drew⟩
 have da:decide (a<0)=false:=aH ha;by_cases hb:b<a
 ·rw[if_pos (.inr (.inl hb))] at g;have db:decide (b<a)=true:=aM hb;clear ha hb;go_enter Tryz.func49,Tryz.ntmps49;go_upto_region 1 with fail;clear f d j i;go_wp2_with fail;go_ret;rw[<-g];exact⟨rfl,by first | exact h.out | exact h.out.drew⟩
 have db:decide (b<a)=false:=aH hb;by_cases hc:(s.length:Int)<b
 ·rw[if_pos (.inr (.inr hc))] at g;have dc:decide ((s.length:Int)<b)=true:=aM hc;clear ha hb hc;go_enter Tryz.func49,Tryz.ntmps49;go_upto_region 1 with fail;clear f d j i;go_wp2_with fail;go_ret;rw[<-g];exact⟨rfl,by first | exact h.out | exact h.out.drew⟩
 have dc:decide ((s.length:Int)<b)=false:=aH hc;rw[if_neg (by omega)] at g;obtain⟨a,rfl⟩: ∃k:Nat,a=k:=⟨a.toNat,by omega⟩;obtain⟨b,rfl⟩: ∃k:Nat,b=k:=⟨b.toNat,by omega⟩;have hab:(a:Int)<=(b:Int):=by omega
 have hbl:(b:Int)<=(s.length:Int):=by omega
 have ha0:(0:Int)<=(a:Int):=by omega
 have hb0:(0:Int)<=(b:Int):=by omega
 have l:=aAh s a b;rw[g] at l;clear ha hb hc;go_enter Tryz.func49,Tryz.ntmps49;go_upto_region 1 with fail;clear f d j i;go_wp2_with fail;go_ret;exact⟨by first | rw[l] | simp[l],by first | exact h.out | exact h.out.drew⟩
abbrev Mt (x:aG) (kv:Value):Value:= .agg #[.int .i64 (x.kind:Int), .int .i64 x.ind, .int .i64 (x.fr:Int), .int .i64 (x.til:Int), .int .i64 x.kf, .int .i64 x.kt, .int .i64 x.rf, .int .i64 x.rt,kv]
theorem aAi (s:aA) (pl:Option Addr) (n cl:Nat) (nv:Value) (hnv: ∃p n c,nv= .slice p n c) (x:aG) (kv:Value) (hkv: ∃p n c,kv= .slice p n c) (w:World) (hn:n<=1073741824) (hncl:n<=cl) (hpl:pl=none->n=0) (hfr:x.fr<=1073741824) (htil:x.til<=1073741824):
  Calls Tryz.prog 93 #[.agg #[.string (bs s), .slice pl n cl,nv],Mt x kv] w λe w'=>Below w.heap.size w w'/\e= .returned (if min x.til n<=x.fr+1 then .slice none 0 0 else .slice (pl.map λa=>a.add ((x.fr+1)*10)) (min x.til n-(x.fr+1)) (cl-(x.fr+1))):=by
 obtain⟨R,t⟩: ∃R:Value,(if min x.til n<=x.fr+1 then .slice none 0 0 else .slice (pl.map λa=>a.add ((x.fr+1)*10)) (min x.til n-(x.fr+1)) (cl-(x.fr+1)))=R:=⟨_,rfl⟩;rw[t];have v:=hid t;clear t;obtain⟨pn,nn,cn,rfl⟩:=hnv;obtain⟨pk,nk,ck,rfl⟩:=hkv;obtain⟨W1,h⟩:=exQ<|w.alloc (.cells #[.string (bs s), .slice pl n cl, .slice pn nn cn] 36);obtain⟨D,y⟩:=exQ<|w.heap.size;have b1:Below w.heap.size w W1:=by rw[<-h];exact aI _ _
 have q:W1.heap[D]?=some (.cells #[.string (bs s), .slice pl n cl, .slice pn nn cn] 36):=by rw[<-h,<-y];exact heap_alloc_new w _
 obtain⟨W2,g⟩:=exQ<|W1.alloc (.cells #[.int .i64 (x.kind:Int), .int .i64 x.ind, .int .i64 (x.fr:Int), .int .i64 (x.til:Int), .int .i64 x.kf, .int .i64 x.kt, .int .i64 x.rf, .int .i64 x.rt, .slice pk nk ck] 62);obtain⟨S,u⟩:=exQ<|W1.heap.size;have b2:Below W1.heap.size W1 W2:=by rw[<-g];exact aI _ _
 have r:W2.heap[S]?=some (.cells #[.int .i64 (x.kind:Int), .int .i64 x.ind, .int .i64 (x.fr:Int), .int .i64 (x.til:Int), .int .i64 x.kf, .int .i64 x.kt, .int .i64 x.rf, .int .i64 x.rt, .slice pk nk ck] 62):=by rw[<-g,<-u];exact heap_alloc_new W1 _
 obtain⟨d0,d1,d2,_⟩:=gJ ((b2.block D (aF q)).trans q);obtain⟨y0,y1,y2,y3,y4,y5,y6,y7,y8⟩:=pS r;have m:=hid (aC b1 b2);clear b1 b2 q r;go_enter Tryz.func93,Tryz.ntmps93;go_upto_region 1 with fail;clear h g y u;obtain⟨f1,j⟩:=exQ<|x.fr+1;have k:(x.fr:Int)+1=(f1:Int):=by omega
 obtain⟨fr,d⟩:=exQ<|x.fr;obtain⟨til,b⟩:=exQ<|x.til;rw[b] at htil y3;rw[d] at k hfr y2;have o:=hid (aJ j (aJ d b));clear j d b;go_region
 all_goals
  obtain⟨tm,i⟩: ∃tm:Nat,min til n=tm:=⟨_,rfl⟩;have htmz:min (til:Int) (n:Int)=(tm:Int):=by omega
  have l:=hid i;by_cases hle:tm<=f1
  ·have dle:decide ((tm:Int)<=(f1:Int))=true:=aM (by omega);have dle2:decide (tm<=f1)=true:=aM hle;have f:=hid hle;clear i hle;go_wp2_with fail;go_ret;refine⟨by first | exact m.out | exact m.out.drew,?_⟩;rw[<-v.out,o.out.1,o.out.2.2,l.out,if_pos f.out];rfl
  ·have dle:decide ((tm:Int)<=(f1:Int))=false:=aH (by omega);have dle2:decide (tm<=f1)=false:=aH hle;have q:(f1:Int)<=(tm:Int):=(by omega);have r:(tm:Int)<=(cl:Int):=(by omega);have h3:(0:Int)<=(f1:Int):=(by omega);have h4:(0:Int)<=(tm:Int):=(by omega);have h1n:f1<=tm:=(by omega);have h2n:tm<=cl:=(by omega);obtain⟨pa,rfl⟩: ∃a,pl=some a:=by
    cases pl with
    | none=>have:=hpl rfl;omega
    | some a=>exact⟨a,rfl⟩
   have f:=hid hle;clear i hle;go_wp2_with fail
   all_goals
    go_ret;refine⟨by first | exact m.out | exact m.out.drew,?_⟩;rw[<-v.out,o.out.1,o.out.2.2,l.out,if_neg f.out]
    first | rfl | (exfalso;have:=f.out;omega)
end
end Go.Proofs.YtaifnmjjpddikaaGreatDoor
