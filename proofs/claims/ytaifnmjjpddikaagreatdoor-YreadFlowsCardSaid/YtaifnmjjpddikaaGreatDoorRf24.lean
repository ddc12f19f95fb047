import Derived.Test.YtaifnmjjpddikaaGreatDoorRf23
import Derived.Test.YtaifnmjjpddikaaGreatDoorRf18
import Derived.Test.YtaifnmjjpddikaaGreatDoorRf4
import Derived.Test.YtaifnmjjpddikaaGreatDoorRf13
set_option maxRecDepth 100000
set_option maxHeartbeats 8000000
namespace Go.Proofs.YtaifnmjjpddikaaGreatDoor
set_option linter.unusedVariables false
set_option linter.unusedSimpArgs false
section
open Go.RowKit
open Go.Lib hiding intOf
theorem Yy {w:World}{X:Nat}{a0 a1:Value}{t:TypeId} (hb:w.heap[X]?=some (.cells #[a0,a1] t (0,0))):w.cell? ⟨X,0,none⟩=some a0/\w.cell? ⟨X,1,none⟩=some a1/\w.frozen? ⟨X,0,none⟩=false/\w.frozen? ⟨X,1,none⟩=false:=by
 refine⟨?_,?_,?_,?_⟩<;>simp[World.cell?,World.frozen?,hb]
theorem Yz {w:World}{X:Nat}{o0 o1 a0 a1:Value}{t:TypeId} (h:w.heap[X]?=some (.cells #[o0,o1] t (0,0))):((w.setCell ⟨X,0,none⟩ a0).setCell ⟨X,1,none⟩ a1).heap[X]?=some (.cells #[a0,a1] t (0,0)):=by
 simp[World.setCell,Array.getElem?_modify,h]
theorem Za {W0 w':World}{Y:Nat}{a0 a1:Value} (h:Below W0.heap.size W0 w') (hY:W0.heap.size<=Y):Below W0.heap.size W0 ((w'.setCell ⟨Y,0,none⟩ a0).setCell ⟨Y,1,none⟩ a1):=
 (h.setCell (by exact hY) _).setCell (by exact hY) _
def Zb (T:TypeId) (Pr:aK) (w0:World) (P:Nat) (txt:aA) (sp:List (Nat×Nat)) (R:dG×Int×Int) (e:Ending) (w':World):Prop:=
 (R.2.2=0/\e= .returned (.bool true)/\ ∃tot,YJ T Pr w0 P txt sp ⟨R.1.lines,R.1.nodes,tot⟩ 0 0 w')\/(R.2.2≠0/\e= .returned (.bool false)/\fU T Pr w0 P txt sp R.2.1 R.2.2 w')
theorem Zc (w0:World) (P:Nat) (txt:aA) (sp:List (Nat×Nat)) (hsp0:eJ txt sp) (hs:txt.length<=65536) (hns:sp.length<=131072) (hV:cA w0) {Pr:aK} (w:World) (h:YJ YP Pr w0 P txt sp ⟨[],[],0⟩ 0 0 w):
  Calls Tryz.prog 18 #[.pointer (some ⟨P,0,none⟩)] w (Zb YP Pr w0 P txt sp (kQ txt sp)):=by
 obtain⟨R,hR⟩:=exQ<|kQ txt sp;rw[hR];unfold kQ at hR;have hls:lF txt sp []:=⟨cN _,λi hi=>absurd hi (pU _)⟩;have hnok:=nD hsp0 (k:=0) (lines:= []) (aE _) hls (λi _ hi=>absurd hi (pU _));obtain⟨NN,hN⟩:=exQ<|gA txt sp 0 [];rw[hN] at hR hnok;have CN:Hid (Calls Tryz.prog 33 #[.pointer (some ⟨P,0,none⟩), .int .i64 0] w (yO YP Pr w0 P txt sp ⟨[],[],0⟩ NN)):=hid (by have:=Db (st:=⟨[],[],0⟩) 0 w h (aE _) (cN _) hs hns hV;rw[hN] at this;exact this);have HSP:=hid hsp0;clear hN h hls;go_enter Tryz.func18,Tryz.ntmps18;cases NN with
 | bad a er=>
  have HRQ:Hid ((⟨[],[]⟩,a,er)=R):=hid hR;have HNE:Hid (er≠0):=hid hnok.2.2;clear hR hnok;go_wp2_with fail;refine CN.out.mono ?_;rintro e w2 ⟨⟨m,rfl⟩,hbad⟩;have HF:=hid hbad;clear hbad;go_wp2_with fail;go_ret;rw[<-HRQ.out];exact .inr ⟨HNE.out,rfl,HF.out⟩
 | ok k ls=>
  simp only[] at hR hnok;have HNO:=hid hnok;have HR:=hid hR;have hk0:(0:Int)<=(k:Int):=by omega
  clear hR hnok;go_wp2_with fail;refine CN.out.mono ?_;rintro e w2 ⟨rfl,hj2⟩;have HJ2:=hid hj2;have CT:Hid (∀w',YJ YP Pr w0 P txt sp ⟨ls,[],0⟩ 0 0 w'->Calls Tryz.prog 34 #[.pointer (some ⟨P,0,none⟩), .int .i64 (k:Int)] w' λe w2=>e= .returned (.bool (decide (k<sp.length)))/\Below w'.heap.size w' w2):=hid (λw' hj=>uJ k w' hj);clear hj2 CN;by_cases hlt:k<sp.length;rotate_left
  ·have hR:=HR.out;rw[if_pos hlt] at hR;have HRQ:=hid hR;rw[aJ hlt] at CT;clear hR hlt HR;go_wp2_with fail;refine(CT.out _ (by first | exact HJ2.out | exact HJ2.out.keep (aB _ _).drew)).mono ?_;rintro e w3 ⟨rfl,hb3⟩;have HJ3:=hid (HJ2.out.keep (by first | exact hb3 | exact aC (aB _ _).drew hb3));clear hb3;go_upto_region 5 with fail;obtain⟨W0,hW0⟩:=exQ<|w3.drew;have hj0:=HJ3.out.keep (aB _ w3).drew;rw[hW0] at hj0;have HJ0:=hid hj0;obtain⟨SA,hSA⟩: ∃S:World->Prop,(λw'=>w'.cell? ⟨P,0,none⟩=some (.string (bs txt)))=S:=⟨_,rfl⟩;have HSA:Hid (∀w',Below W0.heap.size W0 w'->SA w'):=hid (λw' hb=>by rw[<-hSA];obtain⟨z,sv,lv,nv,hz,hK⟩:=HJ0.out.keep hb;exact hK.cells.1.1);have hbsz:=aR txt;clear hj0;have hfol:Tryz.prog.follows .mixedOrders=true:=(by kernel_rfl);refine kR hfol [some 17,some 18,some 19,some 20,some 21,some 22,some 23,some 24,some 25,some 26,some 27,some 5,none] [17,18,19,20,21,22,23,24,25,26,27,5] [12] 11 (nH W0 59 #[.int .i64 0, .int .i64 0]) 72 rfl (by kernel_rfl) (by kernel_rfl) (by kernel_rfl) (λiz=>match iz with | 0=> .pointer (some ⟨P,0,none⟩) | 1=> .pointer (some ⟨P,0,none⟩) | 2=> .pointer (some ⟨P,0,none⟩) | 3=> .string (bs txt) | 4=> .int .i64 (txt.length:Int) | 5=> .pointer (some ⟨P,0,none⟩) | 6=> .pointer (some ⟨P,0,none⟩) | 7=> .pointer (some ⟨P,0,none⟩) | 8=> .string (bs txt) | 9=> .int .i64 (txt.length:Int) | 10=> .agg #[.int .i64 (txt.length:Int), .int .i64 (txt.length:Int)] | _=>undef) SA (uK W0 59 #[.int .i64 (txt.length:Int), .int .i64 (txt.length:Int)]) (by rw[hW0];exact HSA.out _ (aB _ _)) (by rw[hW0];exact aB _ _) ?_ ?_
   ·intro d a w' iq o' ho hi hall hfr hF R' hR;have hiN:iq<13:=(cM.1 ho).1;have q0:a.tmps[0]?.getD undef= .pointer (some ⟨P,0,none⟩):=aY hfr 0 (by decide);have hc:=hF.all [(0,17),(1,18),(2,19),(3,20),(4,21),(5,22),(6,23),(7,24),(8,25),(9,26),(10,27)] (by decide);dsimp only[eW] at hc;clear hfr;have ha:=hall;have hoo:=ho;have hcs:iq=11\/iq=12\/iq=0\/iq=1\/iq=2\/iq=4\/iq=5\/iq=6\/iq=7\/iq=9\/iq=10\/iq=3\/iq=8:=(by omega);clear hiN;rcases hcs with rfl|rfl|rfl|rfl|rfl|rfl|rfl|rfl|rfl|rfl|rfl|rfl|rfl<;>simp only[dW,dA,cD,cS] at ho<;>subst ho<;>(try simp[Region.binds] at hall)
    ·have hA:Below W0.heap.size W0 w':=hF.at2 (j:=0) rfl (hF.lastNot (f:=13) (i:=11) (by kernel_rfl) hi) (.inl rfl);have hA2:=aH w' (.cells #[.int .i64 0, .int .i64 0] 59);go_simp;exact hR _ _ (hF.free (by kernel_rfl) hoo ha rfl (by decide) rfl (by decide) (by kernel_rfl) (by decide) (hF.lastNot (f:=13) (i:=11) (by kernel_rfl) hi) (λ_=>HSA.out _ (aC hA hA2)) (λk c hp=>hp.keep hA2) (nH.new hA.size))
    ·have c27:=hF.g 10 27 rfl (by decide) (by decide) (by decide) (by simp[hall]);have hP0:=hF.at2 (j:=0) rfl hi (.inl rfl);obtain⟨Y,hY,hYW,hYb⟩:=hF.fb hi (by simp[hall]);have hY:a.tmps.getD 5 undef= .pointer (some ⟨Y,0,none⟩):=hY;have c5:a.tmps[5]?.getD undef= .pointer (some ⟨Y,0,none⟩):=by rw[<-aO];exact hY
     obtain⟨z0,z1,h0,h1⟩:=Yy hYb;have hA:Below W0.heap.size W0 w':=hP0;go_simp;exact hR undef _ (hF.eff2 (by kernel_rfl) (by decide) 0 hoo ha rfl hi (.inl rfl) rfl (by decide) (λh=>absurd rfl h) (λh=>absurd rfl h) ⟨Y,hY,hYW,Yz hYb,Za hA hYW⟩)
    iterate 9 (go_simp;exact hR _ _ (hF.pure (by kernel_rfl) hoo ha rfl (by decide) (by decide) (by decide) rfl))
    all_goals
     have hS0:=hF.early (f:=13) (by kernel_rfl) hi;rw[<-hSA] at hS0;have c0:=hS0;go_simp;exact hR _ _ (hF.pure (by kernel_rfl) hoo ha rfl (by decide) (by decide) (by decide) rfl)
   intro v wz hcl hP1;obtain⟨X,hY,hYW,hYb,hbz⟩:=hP1;have hv5:v 5= .pointer (some ⟨X,0,none⟩):=hY;have hp1:=HJ0.out.put hbz hYW hYb;have HLess:=hid (λq o hq=>aK.put_less (Pr:=Pr) (X:=X) (o:= .cells #[.int .i64 (txt.length:Int), .int .i64 (txt.length:Int)] 59) (λq o' hq=>HJ0.out.frLt q o' hq) hYW q o hq);have HP1:=hid hp1;simp only[cE,eE,dF,eF,hv5];clear hp1 hY hYW hYb hbz hcl hv5 HSA hSA;go_upto_region 6 with fail;obtain⟨W2,hW2⟩:=exQ<|wz.drew;have hj2:=HP1.out.keep (aB _ wz).drew;rw[hW2] at hj2;obtain⟨z,sv,lv,nv,hz,hK2⟩:=hj2;have hzn:z= []:=(by simpa using hz);obtain⟨pn,cn,hnv⟩:=hK2.ndSlice;obtain⟨n,hn⟩:=exQ<|z.length;rw[hn] at hnv;subst hnv;have hn4:n<=4096:=by rw[<-hn,hzn];simp
   have HZN:=hid (aI hzn hn);have HK2:=hid hK2;have hrow:=hK2.nod.row;rw[HZN.out.2] at hrow;have HROW:=hid hrow;have HB0:=hid hK2.bel.size;obtain⟨i0,hi0,hz0,hz1,hz2⟩:=info_parts Tryz.infoYnode;obtain⟨SB,hSB⟩: ∃S:World->Prop,(λw'=>(w'.cell? ⟨P,3,none⟩=some (.slice pn n cn)/\w'.frozen? ⟨P,3,none⟩=false)/\w'.cell? ⟨X,0,none⟩=some (.int .i64 (txt.length:Int))/\w'.cell? ⟨X,1,none⟩=some (.int .i64 (txt.length:Int)))=S:=⟨_,rfl⟩;have HSB:Hid (∀q c w',q<3->cQ 62 w0.heap.size (.slice pn n cn) n (iG z) (gP (⟨1,0,0,0,0,0,(txt.length:Int),(txt.length:Int),[]⟩:aM)) P 3 W2 q c w'->SB w'):=hid (λq c w' hq hp=>by rw[<-hSB];have hs:=HK2.out.seenA HROW.out (by decide) (λj o hj=>(HK2.out.fr j o hj).2.2.2.1) hq hp;obtain⟨c2,f2⟩:=hs.c3;have hl:=hs.fr X _ (aK.put_eq _ _ _);exact⟨⟨c2,f2⟩,lU hl⟩);clear hK2 hrow hz hzn hn;have hfol:Tryz.prog.follows .mixedOrders=true:=(by kernel_rfl);refine kR hfol [some 28,some 29,some 30,some 31,some 32,some 33,some 34,some 35,some 36,some 37,some 38,none] [28,29,30,31,32,33,34,35,36,37,38] [7,8,11] 1000000 (λ_ _=>True) 72 rfl (by kernel_rfl) (by kernel_rfl) (by kernel_rfl) (λiz=>match iz with | 0=> .pointer (some ⟨P,0,none⟩) | 1=> .pointer (some ⟨P,0,none⟩) | 2=> .pointer (some ⟨P,0,none⟩) | 3=> .pointer (some ⟨P,3,none⟩) | 4=> .slice pn n cn | 5=> .agg #[.int .i64 (txt.length:Int), .int .i64 (txt.length:Int)] | 6=> .agg #[.int .i64 1, .int .i64 0, .int .i64 0, .int .i64 0, .int .i64 0, .int .i64 0, .int .i64 (txt.length:Int), .int .i64 (txt.length:Int), .slice none 0 0] | 9=> .pointer (some ⟨P,0,none⟩) | 10=> .pointer (some ⟨P,3,none⟩) | _=>undef) SB (cQ 62 w0.heap.size (.slice pn n cn) n (iG z) (gP (⟨1,0,0,0,0,0,(txt.length:Int),(txt.length:Int),[]⟩:aM)) P 3 W2) (by rw[hW2];exact HSB.out 0 undef _ (by decide) (aB _ _)) (by rw[hW2];exact aB _ _) ?_ ?_
   ·intro d a w' iq o' ho hi hall hfr hF R' hR;have hiN:iq<12:=(cM.1 ho).1;have q0:a.tmps[0]?.getD undef= .pointer (some ⟨P,0,none⟩):=aY hfr 0 (by decide);have q5:a.tmps[5]?.getD undef= .pointer (some ⟨X,0,none⟩):=aY hfr 5 (by decide);have hc:=hF.all [(0,28),(1,29),(2,30),(3,31),(4,32),(5,33),(6,34),(9,37),(10,38)] (by decide);dsimp only[eW] at hc;clear hfr;have ha:=hall;have hoo:=ho;have hcs:iq=7\/iq=8\/iq=11\/iq=0\/iq=1\/iq=2\/iq=3\/iq=6\/iq=9\/iq=10\/iq=4\/iq=5:=(by omega);clear hiN;rcases hcs with rfl|rfl|rfl|rfl|rfl|rfl|rfl|rfl|rfl|rfl|rfl|rfl<;>simp only[dW,dA,cD,cS] at ho<;>subst ho<;>(try simp[Region.binds] at hall)
    ·have c34:=hF.g 6 34 rfl (by decide) (by decide) (by decide) (by simp[hall]);have hP0:=hF.at2 (j:=0) rfl hi (.inl rfl);have hA:Below W2.heap.size W2 w':=hP0;go_simp;exact hR _ _ (hF.eff2 (by kernel_rfl) (by decide) 0 hoo ha rfl hi (.inl rfl) rfl (by decide) (λ_ _ _=>trivial) (λ_=>HSB.out 1 _ _ (by decide) ⟨w',hA,rfl,rfl⟩) ⟨w',hA,rfl,rfl⟩)
    ·have c32:=hF.g 4 32 rfl (by decide) (by decide) (by decide) (by simp[hall]);have hpv:d 7=true:=(by simp[hall]);have hP0:=hF.at2 (j:=1) rfl hi (.inr ⟨7,rfl,hpv⟩);have ca':a.tmps.getD 32 undef= .slice pn n cn:=by rw[aO];exact c32
     exact cQ.app rfl (.tmp 32) (.tmp 35) 34 rfl Tryz.underlying34 hi0 hz0 hz1 hz2 rfl (by decide) rfl (Lb (⟨1,0,0,0,0,0,(txt.length:Int),(txt.length:Int),[]⟩:aM)) HROW.out (by omega) (by decide) HB0.out hP0 ca' rfl (λv' w2 hp=>hR _ _ (hF.eff2 (by kernel_rfl) (by decide) 1 hoo ha rfl hi (.inr ⟨7,rfl,hpv⟩) rfl (by decide) (λ_ _ _=>trivial) (λ_=>HSB.out 2 _ _ (by decide) hp) hp))
    ·have c38:=hF.g 10 38 rfl (by decide) (by decide) (by decide) (by simp[hall]);have hpv:d 8=true:=(by simp[hall]);have hP0:=hF.at2 (j:=2) rfl hi (.inr ⟨8,rfl,hpv⟩);have hS0:=hF.st hi;rw[<-hSB] at hS0;obtain⟨⟨p3,p3f⟩,b0,b1⟩:=hS0;have hP2:cQ 62 w0.heap.size (.slice pn n cn) n (iG z) (gP (⟨1,0,0,0,0,0,(txt.length:Int),(txt.length:Int),[]⟩:aM)) P 3 W2 2 (a.tmps.getD 36 undef) w':=hP0;obtain⟨gz,cz,hz⟩:=hP2.form;rw[hz] at hP2;have c36:a.tmps[36]?.getD undef= .slice (some ⟨gz,0,none⟩) (n+1) cz:=by rw[<-aO];exact hz
     go_simp;exact hR undef _ (hF.eff2 (by kernel_rfl) (by decide) 2 hoo ha rfl hi (.inr ⟨8,rfl,hpv⟩) rfl (by decide) (λ_ _ _=>trivial) (λh=>absurd rfl h) ⟨_,_,hP2,rfl⟩)
    iterate 7 (go_simp;exact hR _ _ (hF.pure (by kernel_rfl) hoo ha rfl (by decide) (by decide) (by decide) rfl))
    all_goals
     have hS0:=hF.early (f:=12) (by kernel_rfl) hi;rw[<-hSB] at hS0;obtain⟨⟨p3,p3f⟩,b0,b1⟩:=hS0;go_simp;exact hR _ _ (hF.pure (by kernel_rfl) hoo ha rfl (by decide) (by decide) (by decide) rfl)
   intro v wy hcl hP3;obtain⟨cz,hcz⟩: ∃c,cQ 62 w0.heap.size (.slice pn n cn) z.length (iG z) (gP (⟨1,0,0,0,0,0,(txt.length:Int),(txt.length:Int),[]⟩:aM)) P 3 W2 3 c wy:=⟨_,by rw[HZN.out.2];exact hP3⟩;obtain⟨g,cap,hK3⟩:=HK2.out.nodeA (x:=(⟨1,0,0,0,0,0,(txt.length:Int),(txt.length:Int),[]⟩:aM)) rfl hcz;have hK4:=hK3.less HLess.out;have HF:Hid (YJ YP Pr w0 P txt sp ⟨ls,[(⟨1,0,0,0,0,0,(txt.length:Int),(txt.length:Int),[]⟩:aM)],0⟩ 0 0 wy):=hid ⟨_,_,_,_,by rw[oM,HZN.out.1];rfl,hK4⟩;clear hP3 hK3 hK4 hcz hcl HSB hSB hW2;simp only[cE,eE,dF,eF];go_wp2_with fail;go_ret;rw[<-HRQ.out];exact .inl ⟨rfl,rfl,0,HF.out⟩
  ·have hR:=HR.out;rw[if_neg (λe=>e hlt)] at hR;rw[aN hlt] at CT;obtain⟨hlen,hcon⟩:=HNO.out.hit hlt;have hw2:dZ txt sp ⟨ls,[],0⟩:=⟨HNO.out.ok,by simp⟩;obtain⟨Q,hQ⟩:=exQ<|nC txt sp 32 k 0 0 ⟨ls,[],0⟩;have hgood:=sS hsp0 32 k 0 0 ⟨ls,[],0⟩ hw2 hlen.symm;rw[hQ] at hR hgood;have CB:Hid (∀w',YJ YP Pr w0 P txt sp ⟨ls,[],0⟩ 0 0 w'->Calls Tryz.prog 35 #[.pointer (some ⟨P,0,none⟩), .int .i64 (k:Int), .int .i64 1, .agg #[.int .i64 0, .int .i64 0]] w' (gX YP Pr w0 P txt sp Q)):=hid (λw' hj=>by have:=Lw w0 P txt sp hsp0 hs hns hV 32 (aE _) Pr k 0 0 ⟨ls,[],0⟩ 1 w' hj hlen.symm hw2 (hid (by decide));rw[hQ] at this;exact this);have HRb:=hid hR;clear hR hlt hQ hw2 HR hlen hcon;go_wp2_with fail;refine(CT.out _ (by first | exact HJ2.out | exact HJ2.out.keep (aB _ _).drew)).mono ?_;rintro e w3 ⟨rfl,hb3⟩;have HJ3:=hid (HJ2.out.keep (by first | exact hb3 | exact aC (aB _ _).drew hb3));clear hb3;go_wp2_with fail;refine(CB.out _ (by first | exact HJ3.out | exact HJ3.out.keep (aB _ _).drew)).mono ?_;rintro e w4 hE;have HE:=hid hE;clear hE;cases Q with
   | bad a er=>
    have HRQ:Hid ((⟨[],[]⟩,a,er)=R):=hid HRb.out;have HNE:Hid (er≠0):=hid (show 0<=a/\a<=(txt.length:Int)/\er≠0 from hgood).2.2;obtain⟨⟨m,rfl⟩,hbad⟩:=HE.out;have HF:=hid hbad;clear hbad HE hgood;go_wp2_with fail;go_ret;rw[<-HRQ.out];exact .inr ⟨HNE.out,rfl,HF.out⟩
   | ok nn s4=>
    obtain⟨rfl,hj4⟩:=HE.out;obtain⟨g1,⟨more,g2n,g2⟩,g3,g4,g5,g6⟩:=(show lG txt sp k ⟨ls,[],0⟩ nn s4 from hgood);have g10:nn=0:=g1;subst g10;have hR:=HRb.out;simp only[] at hR;obtain⟨y,hy⟩: ∃y,s4.nodes[0]?=some y:=by
     cases more with
     | nil=>exact absurd rfl g2n
     | cons y _=>exact⟨y,by rw[g2];rfl⟩
    have htil:=Cw hy;rw[htil] at hR g4 g5;obtain⟨til,htl⟩:=exQ<|y.til;rw[htl] at hR g4 g5;obtain⟨N2,hN2⟩:=exQ<|gA txt sp til s4.lines;have hnok:=nD hsp0 (k:=til) g4.2 g6.ls g5;rw[hN2] at hR hnok;have CN:Hid (∀w',YJ YP Pr w0 P txt sp s4 0 0 w'->Calls Tryz.prog 33 #[.pointer (some ⟨P,0,none⟩), .int .i64 (til:Int)] w' (yO YP Pr w0 P txt sp s4 N2)):=hid (λw' hj=>by have:=Db til w' hj g4.2 g6.ls.1 hs hns hV;rw[hN2] at this;exact this);have HJ4:=hid hj4;obtain⟨z,sv,lv,nv,hz,hK⟩:=hj4;have hzl:z.length=s4.nodes.length:=(by rw[<-hz,bU]);obtain⟨gn,cn,cur,rfl,hcn,_⟩:=hK.nod.form (λe=>by rw[e] at hz;rw[<-hz] at hy;cases hy);obtain⟨z0,hz0⟩: ∃z0,z[0]?=some z0:=by
     rw[<-hz,cU] at hy;cases hq:z[0]? with
     | none=>rw[hq] at hy;cases hy
     | some q=>exact⟨q,rfl⟩
    have hz0y:z0.1=y:=by
     rw[<-hz,cU,hz0] at hy;exact bD hy
    have hct:=(hK.nod.at_ hz0 3 (by omega) rfl).1;rw[hz0y,htl] at hct;have c3:=hK.cells.1.2.2.2.1;have hPl:=hK.lt;obtain⟨m,hm⟩:=exQ<|z.length;have hm0:(0:Int)<(m:Int):=by have:=(aQ.1 hz0).1;omega
    have hm1:0<m:=(by omega);rw[hm] at c3 hcn;simp only[Nat.zero_mul,Nat.zero_add] at hct;have HR:=hid hR;have HNO2:=hid hnok;have HG:=hid g6;clear hK hz hz0 hz0y hzl hm hy htil htl g1 g2n g2 g3 g4 g5 g6 hR hnok hN2 hgood HRb HE CB CT;cases N2 with
    | bad a er=>
     have HRQ:Hid ((⟨[],[]⟩,a,er)=R):=hid HR.out;have HNE:Hid (er≠0):=hid (show 0<=a/\a<=(txt.length:Int)/\er≠0 from HNO2.out).2.2;go_wp2_with fail;refine(CN.out _ (by first | exact HJ4.out | exact HJ4.out.keep (aB _ _).drew)).mono ?_;rintro e w5 ⟨⟨mm,rfl⟩,hbad⟩;have HF:=hid hbad;clear hbad hct c3;go_wp2_with fail;go_ret;rw[<-HRQ.out];exact .inr ⟨HNE.out,rfl,HF.out⟩
    | ok k2 ls2=>
     have hnok:=(show qG txt sp til s4.lines k2 ls2 from HNO2.out);have hR:=HR.out;simp only[] at hR;have HRn:=hid hR;have HNk:=hid hnok;have hk20:(0:Int)<=(k2:Int):=(by omega);clear hR hnok;go_wp2_with fail;refine(CN.out _ (by first | exact HJ4.out | exact HJ4.out.keep (aB _ _).drew)).mono ?_;rintro e w5 ⟨rfl,hj5⟩;have HJ5:=hid hj5;clear hj5 hct c3;have CT:Hid (∀w',YJ YP Pr w0 P txt sp ⟨ls2,s4.nodes,s4.total⟩ 0 0 w'->Calls Tryz.prog 34 #[.pointer (some ⟨P,0,none⟩), .int .i64 (k2:Int)] w' λe w2=>e= .returned (.bool (decide (k2<sp.length)))/\Below w'.heap.size w' w2):=hid (λw' hj=>uJ k2 w' hj);by_cases hlt:k2<sp.length;rotate_left
     ·have hR:=HRn.out;rw[if_neg hlt] at hR;have HRQ:=hid hR;rw[aJ hlt] at CT;clear hR hlt;go_wp2_with fail;refine(CT.out _ (by first | exact HJ5.out | exact HJ5.out.keep (aB _ _).drew)).mono ?_;rintro e w6 ⟨rfl,hb6⟩;have HJ6:=hid (HJ5.out.keep (by first | exact hb6 | exact aC (aB _ _).drew hb6));clear hb6;go_wp2_with fail;go_ret;rw[<-HRQ.out];exact .inl ⟨rfl,rfl,_,HJ6.out⟩
     ·have hR:=HRn.out;rw[if_pos hlt] at hR;have HRQ:=hid hR;rw[aN hlt] at CT;obtain⟨hlen,hcon⟩:=HNk.out.hit hlt;have CBg:=hid (λw' hj=>Dg (Pr:=Pr) (w0:=w0) (P:=P) (txt:=txt) (sp:=sp) (st:=⟨ls2,s4.nodes,s4.total⟩) (a0:=0) (e0:=0) k2 w' hj hlt (by simp only[];omega) (HNk.out.ok.2 k2 (by omega)) hs);obtain⟨bg,hbg⟩:=exQ<|((oT sp k2).1:Int)+(aZ ls2 k2).ind;simp only[hbg] at CBg HRQ;have CF:=hid (λa w' hj=>pC (Pr:=Pr) (w0:=w0) (P:=P) (txt:=txt) (sp:=sp) (st:=⟨ls2,s4.nodes,s4.total⟩) (a0:=0) (e0:=0) a 2 w' hj);clear hR hlt hlen hcon hbg;go_wp2_with fail;refine(CT.out _ (by first | exact HJ5.out | exact HJ5.out.keep (aB _ _).drew)).mono ?_;rintro e w6 ⟨rfl,hb6⟩;have HJ6:=hid (HJ5.out.keep (by first | exact hb6 | exact aC (aB _ _).drew hb6));clear hb6;go_wp2_with fail;refine(CBg.out _ (by first | exact HJ6.out | exact HJ6.out.keep (aB _ _).drew)).mono ?_;rintro e w7 ⟨rfl,hb7⟩;have HJ7:=hid (HJ6.out.keep (by first | exact hb7 | exact aC (aB _ _).drew hb7));clear hb7;go_wp2_with fail;refine(CF.out _ _ (by first | exact HJ7.out | exact HJ7.out.keep (aB _ _).drew)).mono ?_;rintro e w8 ⟨rfl,hj8⟩;have HF:=hid hj8.bad;clear hj8;go_wp2_with fail;go_ret;rw[<-HRQ.out];exact .inr ⟨show (2:Int)≠0 by decide,rfl,HF.out⟩
def gH:Nat->List (Nat×Nat)->List (Nat×Nat)
 | 0,l=>l
 | _,[]=> []
 | n+1,x::l=>(x.1,x.2-1)::gH n l
theorem Lx: ∀(n:Nat) (l:List (Nat×Nat)),(gH n l).length=l.length
 | 0,l=>by cases l<;>rfl
 | n+1,[]=>rfl
 | n+1,x::l=>by rw[gH,aT,Lx n l];rfl
theorem Ly: ∀(n:Nat) (l:List (Nat×Nat)),(gH n l)[n]?=l[n]?
 | 0,l=>by cases l<;>rfl
 | n+1,[]=>rfl
 | n+1,x::l=>by rw[gH,cD,cD];exact Ly n l
theorem Lz: ∀(n:Nat) (l:List (Nat×Nat)) (x:Nat×Nat),l[n]?=some x->gH (n+1) l=(gH n l).set n (x.1,x.2-1)
 | 0,[],x,h=>by cases h
 | 0,y::l,x,h=>by
  obtain rfl:y=x:=bD h;cases l<;>rfl
 | n+1,[],x,h=>by cases h
 | n+1,y::l,x,h=>by
  rw[gH,gH,dF,<-Lz n l x h]
theorem Ma: ∀(l:List (Nat×Nat)),gH (l.length-1) l=rE l
 | []=>rfl
 | [x]=>rfl
 | x::y::l=>by
  have:=Ma (y::l);rw[rE,<-this];rfl
theorem Zd {l:aA}{i:Nat}{x:Nat×Nat} (h:(fK l 0 0)[i]?=some x):x.2<=l.length/\(i+1<(fK l 0 0).length->1<=x.2):=by
 obtain⟨h1,h2⟩:=yN l 0 0 (aE _);have h3:=h1 x (aX h);refine⟨by omega,λhi=>?_⟩;have h4:=h2 x (aX (show (fK l 0 0).dropLast[i]?=some x by rw[List.getElem?_dropLast,if_pos (by omega)];exact h));omega
theorem Ze {s:aA}{sp:List (Nat×Nat)} (hsp:eJ s sp):((kQ s sp).2.2=0/\(kQ s sp).2.1=(s.length:Int))\/((kQ s sp).2.2≠0/\(kQ s sp).1=⟨[],[]⟩):=by
 have hls:lF s sp []:=⟨cN _,λi hi=>absurd hi (pU _)⟩;have h1:=nD hsp (k:=0) (lines:= []) (aE _) hls (λi _ hi=>absurd hi (pU _));unfold kQ;cases hN:gA s sp 0 [] with
 | bad a e=>rw[hN] at h1;exact .inr ⟨h1.2.2,rfl⟩
 | ok k ls=>
  rw[hN] at h1;simp only[] at h1 ⊢;by_cases hk:k<sp.length
  ·rw[if_neg (λe=>e hk)];have hg:=sS hsp 32 k 0 0 ⟨ls,[],0⟩ ⟨h1.ok,by simp⟩ (h1.hit hk).1.symm;cases hB:nC s sp 32 k 0 0 ⟨ls,[],0⟩ with
   | bad a e=>rw[hB] at hg;exact .inr ⟨(show 0<=a/\a<=(s.length:Int)/\e≠0 from hg).2.2,rfl⟩
   | ok n st=>
    rw[hB] at hg;obtain⟨g1,_,_,g4,g5,g6⟩:=(show lG s sp k ⟨ls,[],0⟩ n st from hg);have g10:n=0:=g1;subst g10;have h2:=nD hsp (k:=fS st.nodes 0) g4.2 g6.ls g5;simp only[];cases hN2:gA s sp (fS st.nodes 0) st.lines with
    | bad a e=>rw[hN2] at h2;exact .inr ⟨h2.2.2,rfl⟩
    | ok k2 ls2=>
     simp only[];split
     ·exact .inr ⟨show (2:Int)≠0 by decide,rfl⟩
     ·exact .inl ⟨rfl,rfl⟩
  ·rw[if_pos hk];exact .inl ⟨rfl,rfl⟩
theorem Dj {w:World}{B B':Nat}{e:TypeId}{s:Nat}{v:Value}{n:Nat}{xs:List Value} (h:w.ownsRow B e s v n xs) (hB:B'<=B):w.ownsRow B' e s v n xs:=by
 refine⟨h.1,?_⟩;rcases h.2 with h0 | ⟨g,cap,cur,h1,h2,h3⟩
 ·exact .inl h0
 ·exact .inr ⟨g,cap,cur,h1,aW hB h2,h3⟩
theorem eI.base {B B':Nat}{z:List YN}{nv:Value}{w:World} (h:eI B z nv w) (hB:B'<=B):eI B' z nv w:=⟨Dj h.row hB,λy hy=>Dj (h.kids y hy) hB,h.ak⟩
def eY (B:Nat) (d:dG) (lv nv:Value) (w:World):Prop:= ∃z:List YN,z.map (·.1)=d.nodes/\w.ownsRow B 121 10 lv d.lines.length (jA d.lines)/\eI B z nv w
theorem eY.nil (B:Nat) (w:World):eY B ⟨[],[]⟩ (.slice none 0 0) (.slice none 0 0) w:=⟨[],rfl,⟨rfl, .inl ⟨rfl,rfl⟩⟩,eI.nil _ _⟩
theorem eY.keep {B:Nat}{d:dG}{lv nv:Value}{w w':World} (h:eY B d lv nv w) (hb:Below w.heap.size w w'):eY B d lv nv w':=by
 obtain⟨z,h1,h2,h3⟩:=h;exact⟨z,h1,jQ h2 hb,h3.keep hb⟩
def Zf (l:aA) (R:dG×Int×Int) (w:World) (e:Ending) (w':World):Prop:= ∃tx lv nv,e= .returned (.tuple #[.agg #[.string tx,lv,nv], .int .i64 R.2.1, .int .i64 R.2.2])/\tx=(if R.2.2=0 then bs l else⟨#[]⟩)/\eY w.heap.size R.1 lv nv w'/\Below w.heap.size w w'
theorem Dk {fn:Func} (h:fn.results= #[.cell 2 36, .tmp 3, .tmp 4]) (tmps:Array Value) (w:World) {D:Nat}{u v x:Value} (hD:tmps.getD 2 undef= .pointer (some ⟨D,0,none⟩)) (h0:w.cell? ⟨D,0,none⟩=some u) (h1:w.cell? ⟨D,1,none⟩=some v) (h2:w.cell? ⟨D,2,none⟩=some x):
  (results fn tmps).run Tryz.prog w= .ok (.tuple #[.agg #[u,v,x],tmps.getD 3 undef,tmps.getD 4 undef]) w:=by
 have hD':tmps[2]?.getD undef= .pointer (some ⟨D,0,none⟩):=by rw[<-aO];exact hD
 simp[results,h,hD',asAddr,go_sem,h0,h1,h2]
theorem gQ {w:World}{X:Nat}{a0 a1 a2:Value}{t:TypeId} (hb:w.heap[X]?=some (.cells #[a0,a1,a2] t (0,0))):w.cell? ⟨X,0,none⟩=some a0/\w.cell? ⟨X,1,none⟩=some a1/\w.cell? ⟨X,2,none⟩=some a2/\w.frozen? ⟨X,0,none⟩=false/\w.frozen? ⟨X,1,none⟩=false/\w.frozen? ⟨X,2,none⟩=false:=by
 refine⟨?_,?_,?_,?_,?_,?_⟩<;>simp[World.cell?,World.frozen?,hb]
theorem Mb (l:aA) (w:World) (hV:cA w):
  Calls Tryz.prog 10 #[.string (bs l)] w (Zf l (gN l) w):=by
 have sl:=aR l;obtain⟨R,hR⟩:=exQ<|gN l;rw[hR];unfold gN at hR;have b1:=aH w (.cells #[.string ⟨#[]⟩, .slice none 0 0, .slice none 0 0] 36);have hD1:=heap_alloc_new w (.cells #[.string ⟨#[]⟩, .slice none 0 0, .slice none 0 0] 36);have hsz1:(w.alloc (.cells #[.string ⟨#[]⟩, .slice none 0 0, .slice none 0 0] 36)).heap.size=w.heap.size+1:=by simp
 obtain⟨D,hDe⟩:=exQ<|w.heap.size;obtain⟨w1,hw1⟩:=exQ<|w.alloc (.cells #[.string ⟨#[]⟩, .slice none 0 0, .slice none 0 0] 36);rw[hw1] at b1 hD1 hsz1;rw[hDe] at hD1 hsz1;have HB1:=hid b1;have HD1:=hid hD1;have HDe:=hid hDe;obtain⟨d0,d1,d2,f0,f1,f2⟩:=gQ hD1;by_cases hlong:65536<l.length
 ·rw[if_pos hlong] at hR;have dl:decide ((65536:Int)<(l.length:Int))=true:=aN (by omega);have dl2:decide (65536<l.length)=true:=aN hlong;clear b1 hD1;go_enter Tryz.func10,Tryz.ntmps10;go_wp2_with fail
  try simp only[Exit.inBlock,Exit.then]
  refine bodyPost_ret (Dk rfl _ _ rfl (u:= .string ⟨#[]⟩) (v:= .slice none 0 0) (x:= .slice none 0 0) ?_ ?_ ?_) rfl ?_
  ·simp[go_sem,d0,d1,d2]
  ·simp[go_sem,d0,d1,d2]
  ·simp[go_sem,d0,d1,d2]
  ·rw[<-hR];exact⟨_,_,_,rfl,rfl,eY.nil _ _,((HB1.out.setCell (by rw[HDe.out];exact aE _) _).setCell (by rw[HDe.out];exact aE _) _).setCell (by rw[HDe.out];exact aE _) _⟩
 rw[if_neg hlong] at hR;have dl:decide ((65536:Int)<(l.length:Int))=false:=aJ (by omega);have dl2:decide (65536<l.length)=false:=aJ hlong;have hl64:l.length<=65536:=by omega
 have CL:=hid (Wt (bs l) w1 (by omega));obtain⟨L,hL⟩:=exQ<|fK l 0 0;have hLL:sJ (bs l)=L:=by unfold sJ;rw[aU];exact hL
 rw[hLL] at CL;have hLlen:=sM l 0 0;rw[hL] at hLlen;have HL:=hid hL;have HR:=hid hR;have HVar:=hid (hV.keep (show Below w.heap.size w w1 from HB1.out));clear b1 hD1 hLL hR hL hV;go_enter Tryz.func10,Tryz.ntmps10;go_wp2_with fail;refine CL.out.mono ?_;rintro e w2 ⟨sv,rfl,hown,hb2⟩;obtain⟨g,cap,cur,rfl,hgB,hgo,hcap,_⟩: ∃g cap cur,sv= .slice (some ⟨g,0,none⟩) L.length cap/\w1.heap.size<=g/\w2.heap[g]?=some (.cells cur 59 (0,0))/\L.length<=cap/\True:=by
  rcases hown.2 with⟨_,h1⟩ | ⟨g,cap,cur,h1,h2,h3,h4,_⟩
  ·omega
  ·exact⟨g,cap,cur,h1,h2,h3,h4,trivial⟩
 have hg2:g<w2.heap.size:=aF hgo;obtain⟨P,hPe⟩:=exQ<|w2.heap.size;have b3:=aH w2 (.cells #[.string (bs l), .slice (some ⟨g,0,none⟩) L.length cap, .slice none 0 0, .slice none 0 0, .int .i64 0, .int .i64 0, .int .i64 0] 57);have hP3:=heap_alloc_new w2 (.cells #[.string (bs l), .slice (some ⟨g,0,none⟩) L.length cap, .slice none 0 0, .slice none 0 0, .int .i64 0, .int .i64 0, .int .i64 0] 57);obtain⟨w3,hw3⟩:=exQ<|w2.alloc (.cells #[.string (bs l), .slice (some ⟨g,0,none⟩) L.length cap, .slice none 0 0, .slice none 0 0, .int .i64 0, .int .i64 0, .int .i64 0] 57);rw[hw3] at b3 hP3;rw[hPe] at hP3 hg2;have HOwn:Hid (lR w1.heap.size w3 (.slice (some ⟨g,0,none⟩) L.length cap) (gH 0 L)):=hid (jQ hown b3);have HBel:Hid (Below w1.heap.size w1 w3):=hid (hb2.trans (b3.mono hb2.size));have HPb:=hid hP3;obtain⟨N1,hN1⟩:=exQ<|L.length-1;have hN1z:(L.length:Int)-1=(N1:Int):=by omega
 have hN1w:IntKind.i64.wrap ((L.length:Int)-1)=(N1:Int):=by rw[hN1z,IntKind.wrap_i64];omega
 have hN1x:IntKind.i64.wrap (N1:Int)=(N1:Int):=by rw[IntKind.wrap_i64];omega
 have hPw:w1.heap.size<=P:=by rw[<-hPe];exact hb2.size
 obtain⟨p1,pl⟩:w3.cell? ⟨P,1,none⟩=some (.slice (some ⟨g,0,none⟩) L.length cap)/\P<w3.heap.size:=⟨by simp[World.cell?,hP3],aF hP3⟩;have HN1:=hid hN1;clear hown hb2 hgo b3 hP3 hN1;go_upto_region 4 with fail;clear hw3 hPe;go_wp2_with fail;clear p1;go_loopw [22] (λs22 wr=> ∃i:Nat,s22= .int .i64 (i:Int)/\i<=N1/\Hid (wr.heap[P]?=some (.cells #[.string (bs l), .slice (some ⟨g,0,none⟩) L.length cap, .slice none 0 0, .slice none 0 0, .int .i64 0, .int .i64 0, .int .i64 0] 57))/\Hid (lR w1.heap.size wr (.slice (some ⟨g,0,none⟩) L.length cap) (gH i L))/\Hid (Below w1.heap.size w1 wr)) (λs22 _=>N1-(RowKit.intOf s22).toNat)
 case atStart=>exact⟨0,rfl,cN _,HPb,HOwn,HBel⟩
 case round=>
  clear HPb HOwn HBel pl;obtain⟨i,rfl,hi,HPb,HOwn,HBel⟩:=hrel;have p1:wr.cell? ⟨P,1,none⟩=some (.slice (some ⟨g,0,none⟩) L.length cap):=by have:=HPb.out;simp[World.cell?,this]
  have pl:P<wr.heap.size:=aF HPb.out;by_cases hin:i<N1
  ·have dk:decide ((i:Int)<(N1:Int))=true:=aN (by omega);obtain⟨x,hx⟩: ∃x,L[i]?=some x:=⟨_,bJ (by have:=HN1.out;omega)⟩;have hxL:=hx;rw[<-HL.out] at hxL;obtain⟨q1,q2⟩:=Zd hxL;have q3:=q2 (by rw[HL.out];have:=HN1.out;omega);have hi0:(0:Int)<=(i:Int):=(by omega);have hi1:(i:Int)<(L.length:Int):=by have:=HN1.out;omega
   obtain⟨y2,hy2⟩:=exQ<|x.2-1;have hy2z:(x.2:Int)-1=(y2:Int):=(by omega);have hy2w:IntKind.i64.wrap ((x.2:Int)-1)=(y2:Int):=by rw[hy2z,IntKind.wrap_i64];omega
   have hy2x:IntKind.i64.wrap (y2:Int)=(y2:Int):=by rw[IntKind.wrap_i64];omega
   have hco:(gH i L)[i]?=some x:=by rw[Ly];exact hx
   have hown:=HOwn.out;have key:=sO (λp:Nat×Nat=>([.int .i64 (p.1:Int), .int .i64 (p.2:Int)]:List Value)) 2 Co (gH i L) i x hco 1 (by omega);have hlen:(gH i L).length=L.length:=Lx i L;have hown1:wr.ownsRow w1.heap.size 59 2 (.slice (some ⟨g,0,none⟩) (gH i L).length cap) (gH i L).length (mY (gH i L)):=by
    have h:=hown;unfold lR at h;rw[hlen] at h ⊢;exact h
   have c1:wr.cell? ⟨g,i*2+1,none⟩=some (.int .i64 (x.2:Int)):=by
    rw[World.ownsRow.cellAt hown1 _ (by rw[hlen];have:=HN1.out;omega)];exact key
   have cf:wr.frozen? ⟨g,i*2+1,none⟩=false:=World.ownsRow.frozenAt hown1 _;obtain⟨hst,_⟩:=World.ownsRow.stored hown1 (i*2+1) (.int .i64 (y2:Int));have hfs:=yL (λp:Nat×Nat=>([.int .i64 (p.1:Int), .int .i64 (p.2:Int)]:List Value)) 2 Co (gH i L) i x (x.1,y2) hco 1 (.int .i64 (y2:Int)) (by omega) rfl;obtain⟨i1,hi1e⟩:=exQ<|i+1;have hi1z:(i:Int)+1=(i1:Int):=(by omega);have HOn:Hid (lR w1.heap.size (wr.setCell ⟨g,i*2+1,none⟩ (.int .i64 (y2:Int))) (.slice (some ⟨g,0,none⟩) L.length cap) (gH i1 L)):=hid (by unfold lR;rw[<-hi1e,Lz i L x hx,hy2];rw[List.length_set];have h:=hst;rw[show (mY (gH i L)).set (i*2+1) (.int .i64 (y2:Int))=mY ((gH i L).set i (x.1,y2)) from hfs] at h;rw[hlen] at h ⊢;exact h);have HPn:Hid ((wr.setCell ⟨g,i*2+1,none⟩ (.int .i64 (y2:Int))).heap[P]?=some (.cells #[.string (bs l), .slice (some ⟨g,0,none⟩) L.length cap, .slice none 0 0, .slice none 0 0, .int .i64 0, .int .i64 0, .int .i64 0] 57)):=hid (by rw[dC wr ⟨g,i*2+1,none⟩ _ P (show P≠g by omega)];exact HPb.out);have HBn:Hid (Below w1.heap.size w1 (wr.setCell ⟨g,i*2+1,none⟩ (.int .i64 (y2:Int)))):=hid (HBel.out.setCell (p:=⟨g,i*2+1,none⟩) hgB _);have hi1n:i1<=N1:=(by omega);clear hx hxL q1 q2 q3 hy2 hco hown key hlen hown1 hst hfs hi1e;go_wp2_with fail;go_roundw
   ·exact⟨i1,by rw[<-hi1z],hi1n,HPn,HOn,HBn⟩
   ·simp only[RowKit.intOf];omega
  ·obtain rfl:i=N1:=(by omega);have dk:decide ((i:Int)<(i:Int))=false:=aJ (by omega);have hsp:=Ki l;have hspl:(fT l).length=L.length:=by unfold fT;rw[Ck,HL.out]
   have hj:YJ YP (λ_=>none) w1 P l (fT l) ⟨[],[],0⟩ 0 0 wr:=by
    refine⟨[], .slice (some ⟨g,0,none⟩) L.length cap, .slice none 0 0, .slice none 0 0,rfl,⟨HPb.out,?_,⟨rfl, .inl ⟨rfl,rfl⟩⟩,eI.nil _ _,hPw,by decide,HBel.out,λk o hk=>by cases hk⟩⟩;have h:=HOwn.out;unfold lR at h;rw[show gH i L=fT l by rw[<-HN1.out,Ma,<-HL.out];rfl] at h;exact h
   have CW:=Zc w1 P l (fT l) hsp hl64 (by rw[hspl];omega) HVar.out wr hj;have hform:=Ze hsp;rw[HR.out] at CW hform;have HCW:=hid CW;have HFm:=hid hform;clear CW hform hj hsp hspl p1;go_wp2_with fail;refine HCW.out.mono ?_;rintro e w4 hE;rcases hE with⟨h0,rfl,tot,hj4⟩ | ⟨h0,rfl,hbad⟩
   ·obtain⟨z,sv4,lv4,nv4,hz,hK⟩:=hj4;obtain⟨⟨c0,c1,c2,c3,c4,c5,c6⟩,f2',f3',f4',f5',f6'⟩:=hK.cells;obtain⟨ql,cl,rfl⟩:=hK.lnSlice;obtain⟨qn,cn,rfl⟩:=hK.ndSlice;have hPl:=hK.lt;have hD4:w4.heap[D]?=some (.cells #[.string ⟨#[]⟩, .slice none 0 0, .slice none 0 0] 36):=(hK.bel.block D (by omega)).trans HD1.out;obtain⟨e0,e1,e2,h0',h1',h2'⟩:=gQ hD4;have hDP:D≠P:=(by omega);have HK:=hid hK;have HZ:=hid hz;have HD4:=hid hD4;have H21:R.2.1=(l.length:Int):=by
     rcases HFm.out with h | h
     ·exact h.2
     ·exact absurd h0 h.1
    have H0:=hid (aI h0 H21);obtain⟨nl,hnl⟩:=exQ<|R.1.lines.length;obtain⟨nz,hnz⟩:=exQ<|z.length;simp only[] at c2 c3;simp only[hnl] at c2;rw[hnz] at c3;have HNL:=hid (aI hnl hnz);clear hK hz hD4 d0 d1 d2 f0 f1 f2 h0 H21 hnl hnz c4 c5 c6 f2' f3' f4' f5' f6';go_upto_region 11 with fail;go_region
    all_goals
     go_wp2_with fail
     try simp only[Exit.inBlock,Exit.then]
     refine bodyPost_ret (Dk rfl _ _ rfl (u:= .string (bs l)) (v:= .slice ql nl cl) (x:= .slice qn nz cn) ?_ ?_ ?_) rfl ?_
     ·simp[go_sem,e0,e1,e2]
     ·simp[go_sem,e0,e1,e2]
     ·simp[go_sem,e0,e1,e2]
     ·obtain⟨n1,n2⟩:=HNL.out;subst n1 n2;have hg:=rW (rW (gM w4 D 0 (.string (bs l))) (gM _ D 1 (.slice ql R.1.lines.length cl))) (gM _ D 2 (.slice qn z.length cn));have hrow:=World.ownsRow.kept HK.out.lnr hg (cY HK.out.lnr HD4.out (by decide));have hnod:=HK.out.nod.other HD4.out (by decide) (by decide) hg;have hw1D:w.heap.size<=w1.heap.size:=HB1.out.size;refine⟨bs l,_,_,by rw[H0.out.2,H0.out.1];rfl,by rw[if_pos H0.out.1],(show eY w.heap.size R.1 _ _ _ from eY.keep (w:=((w4.setCell ⟨D,0,none⟩ (.string (bs l))).setCell ⟨D,1,none⟩ (.slice ql R.1.lines.length cl)).setCell ⟨D,2,none⟩ (.slice qn z.length cn)) ⟨z,HZ.out,Dj hrow hw1D,hnod.base hw1D⟩ (aB _ _).drew),?_⟩;exact(((((HB1.out.trans (HK.out.bel.mono hw1D)).setCell (by rw[HDe.out];exact aE _) _).setCell (by rw[HDe.out];exact aE _) _).setCell (by rw[HDe.out];exact aE _) _)).drew
   ·obtain⟨st,z,sv4,lv4,nv4,hz,hK⟩:=hbad;obtain⟨⟨c0,c1,c2,c3,c4,c5,c6⟩,f2',f3',f4',f5',f6'⟩:=hK.cells;have hPl:=hK.lt;have hD4:w4.heap[D]?=some (.cells #[.string ⟨#[]⟩, .slice none 0 0, .slice none 0 0] 36):=(hK.bel.block D (by omega)).trans HD1.out;obtain⟨e0,e1,e2,h0',h1',h2'⟩:=gQ hD4;have hDP:D≠P:=(by omega);have HBl:=hid hK.bel;have H1:R.1=⟨[],[]⟩:=by
     rcases HFm.out with h | h
     ·exact absurd h.1 h0
     ·exact h.2
    have H0:=hid (aI h0 H1);clear hK hz hD4 d0 d1 d2 f0 f1 f2 h0 H1 c0 c1 c2 c3 c4 f2' f3' f4' f5' f6';go_upto_region 10 with fail;go_region
    all_goals
     go_wp2_with fail
     try simp only[Exit.inBlock,Exit.then]
     refine bodyPost_ret (Dk rfl _ _ rfl (u:= .string ⟨#[]⟩) (v:= .slice none 0 0) (x:= .slice none 0 0) ?_ ?_ ?_) rfl ?_
     ·simp[go_sem,e0,e1,e2]
     ·simp[go_sem,e0,e1,e2]
     ·simp[go_sem,e0,e1,e2]
     ·have hw1D:w.heap.size<=w1.heap.size:=HB1.out.size;refine⟨⟨#[]⟩,_,_,rfl,by rw[if_neg H0.out.1],by rw[H0.out.2];exact eY.nil _ _,?_⟩;exact(((((HB1.out.trans (HBl.out.mono hw1D)).setCell (by rw[HDe.out];exact aE _) _).setCell (by rw[HDe.out];exact aE _) _).setCell (by rw[HDe.out];exact aE _) _)).drew
end
section
open Go.Lib
def eZ (s:aA) (a b:Int):aA:=if a<0\/b<a\/(s.length:Int)<b then [] else eH s a b
def pG:List aA->aA
 | []=> []
 | [x]=>x
 | x::y::r=>x++10::pG (y::r)
def jX:List (aA×Int)->Int
 | []=> -1
 | (t,i)::r=>if bQ t≠t.length then i else jX r
def pH (ls:List aP) (x:aM):List aP:=(ls.take x.til).drop (x.fr+1)
def qJ (s:aA) (ls:List aP) (x:aM):List (aA×Int):=(pH ls x).map λl=>(eZ s l.sf l.st,l.ind)
def wU (s:aA) (ls:List aP) (x:aM):aA:=
 pG ((qJ s ls x).map λt=>t.1.drop (jX (qJ s ls x)).toNat)++(if qJ s ls x≠ []/\eZ s x.rf x.rt= [124] then [10] else [])
def pI (s:aA) (ns:List aM) (q:Nat):aA:=match ns[q]? with
 | some y=>(oO (eZ s y.kf y.kt)).1
 | none=> []
def bH (s:aA) (d:dG):Nat->Nat->VT
 | 0,_=>dL
 | f+1,k=>match d.nodes[k]? with
  | none=>dL
  | some x=>if x.kind=1 then(jJ (eZ s x.rf x.rt)).1 else if x.kind=4 then kN (wU s d.lines x) else
   .mk (if x.kind=3 then 6 else 5) [] (if x.kind=3 then x.kids.map (pI s d.nodes) else []) (x.kids.map (bH s d f))
def dM (ns:List aM):Nat->Nat->Nat->Prop
 | 0,_,_=>False
 | lv+1,k,hi=> ∃x,ns[k]?=some x/\cX (dM ns lv) x.kids (k+1) hi
theorem dM.lt {ns:List aM}: ∀ {lv k hi:Nat},dM ns lv k hi->k<hi
 | lv+1,k,hi,h=>by
  obtain⟨x,hx,h2⟩:=h;have: ∀(l:List Nat) (a:Nat),cX (dM ns lv) l a hi->a<=hi:=by
   intro l
   induction l with
   | nil=>intro a h;exact nU h
   | cons y l ih=>
    intro a h;obtain⟨rfl,m,h2,h3⟩:=h;have:=ih m h3;have:=dM.lt h2;omega
  have:=this _ _ h2;omega
end
section
open Go.RowKit
open Go.Lib hiding intOf
theorem Zg (s:aA) (a b:Nat):(bs s).extract a b=bs (eH s (a:Int) (b:Int)):=by
 unfold eH;rw[fC,fC,kV,aU]
theorem yZ (s:aA) (lv nv:Value) (hlv: ∃p n c,lv= .slice p n c) (hnv: ∃p n c,nv= .slice p n c) (a b:Int) (w:World) (hs:s.length<=1073741824):
  Calls Tryz.prog 49 #[.agg #[.string (bs s),lv,nv], .agg #[.int .i64 a, .int .i64 b]] w λe w'=>e= .returned (.string (bs (eZ s a b)))/\Below w.heap.size w w':=by
 obtain⟨pl,nl,cl,rfl⟩:=hlv;obtain⟨pn,nn,cn,rfl⟩:=hnv;have sl:=aR s;obtain⟨R,hR⟩:=exQ<|eZ s a b;rw[hR];unfold eZ at hR;obtain⟨W1,hW1⟩:=exQ<|w.alloc (.cells #[.string (bs s), .slice pl nl cl, .slice pn nn cn] 36);obtain⟨D,hD⟩:=exQ<|w.heap.size;have b1:Below w.heap.size w W1:=by rw[<-hW1];exact aH _ _
 have h1:W1.heap[D]?=some (.cells #[.string (bs s), .slice pl nl cl, .slice pn nn cn] 36):=by rw[<-hW1,<-hD];exact heap_alloc_new w _
 obtain⟨W2,hW2⟩:=exQ<|W1.alloc (.cells #[.int .i64 a, .int .i64 b] 59);obtain⟨S,hS⟩:=exQ<|W1.heap.size;have b2:Below W1.heap.size W1 W2:=by rw[<-hW2];exact aH _ _
 have h2:W2.heap[S]?=some (.cells #[.int .i64 a, .int .i64 b] 59):=by rw[<-hW2,<-hS];exact heap_alloc_new W1 _
 obtain⟨d0,_⟩:=gQ ((b2.block D (aF h1)).trans h1);obtain⟨y0,y1⟩:=lU h2;have HB:=hid (aC b1 b2);clear b1 b2 h1 h2;by_cases ha:a<0
 ·rw[if_pos (.inl ha)] at hR;have da:decide (a<0)=true:=aN ha;clear ha;go_enter Tryz.func49,Tryz.ntmps49;go_upto_region 1 with fail;clear hW1 hW2 hD hS;go_wp2_with fail;go_ret;rw[<-hR];exact⟨rfl,by first | exact HB.out | exact HB.out.drew⟩
 have da:decide (a<0)=false:=aJ ha;by_cases hb:b<a
 ·rw[if_pos (.inr (.inl hb))] at hR;have db:decide (b<a)=true:=aN hb;clear ha hb;go_enter Tryz.func49,Tryz.ntmps49;go_upto_region 1 with fail;clear hW1 hW2 hD hS;go_wp2_with fail;go_ret;rw[<-hR];exact⟨rfl,by first | exact HB.out | exact HB.out.drew⟩
 have db:decide (b<a)=false:=aJ hb;by_cases hc:(s.length:Int)<b
 ·rw[if_pos (.inr (.inr hc))] at hR;have dc:decide ((s.length:Int)<b)=true:=aN hc;clear ha hb hc;go_enter Tryz.func49,Tryz.ntmps49;go_upto_region 1 with fail;clear hW1 hW2 hD hS;go_wp2_with fail;go_ret;rw[<-hR];exact⟨rfl,by first | exact HB.out | exact HB.out.drew⟩
 have dc:decide ((s.length:Int)<b)=false:=aJ hc;rw[if_neg (by omega)] at hR;obtain⟨a,rfl⟩: ∃k:Nat,a=k:=⟨a.toNat,by omega⟩;obtain⟨b,rfl⟩: ∃k:Nat,b=k:=⟨b.toNat,by omega⟩;have hab:(a:Int)<=(b:Int):=by omega
 have hbl:(b:Int)<=(s.length:Int):=by omega
 have ha0:(0:Int)<=(a:Int):=by omega
 have hb0:(0:Int)<=(b:Int):=by omega
 have hx:=Zg s a b;rw[hR] at hx;clear ha hb hc;go_enter Tryz.func49,Tryz.ntmps49;go_upto_region 1 with fail;clear hW1 hW2 hD hS;go_wp2_with fail;go_ret;exact⟨by first | rw[hx] | simp[hx],by first | exact HB.out | exact HB.out.drew⟩
abbrev Mc (x:aM) (kv:Value):Value:= .agg #[.int .i64 (x.kind:Int), .int .i64 x.ind, .int .i64 (x.fr:Int), .int .i64 (x.til:Int), .int .i64 x.kf, .int .i64 x.kt, .int .i64 x.rf, .int .i64 x.rt,kv]
theorem Zh (s:aA) (pl:Option Addr) (n cl:Nat) (nv:Value) (hnv: ∃p n c,nv= .slice p n c) (x:aM) (kv:Value) (hkv: ∃p n c,kv= .slice p n c) (w:World) (hn:n<=1073741824) (hncl:n<=cl) (hpl:pl=none->n=0) (hfr:x.fr<=1073741824) (htil:x.til<=1073741824):
  Calls Tryz.prog 93 #[.agg #[.string (bs s), .slice pl n cl,nv],Mc x kv] w λe w'=>Below w.heap.size w w'/\e= .returned (if min x.til n<=x.fr+1 then .slice none 0 0 else .slice (pl.map λa=>a.add ((x.fr+1)*10)) (min x.til n-(x.fr+1)) (cl-(x.fr+1))):=by
 obtain⟨R,hR⟩: ∃R:Value,(if min x.til n<=x.fr+1 then .slice none 0 0 else .slice (pl.map λa=>a.add ((x.fr+1)*10)) (min x.til n-(x.fr+1)) (cl-(x.fr+1)))=R:=⟨_,rfl⟩;rw[hR];have HR:=hid hR;clear hR;obtain⟨pn,nn,cn,rfl⟩:=hnv;obtain⟨pk,nk,ck,rfl⟩:=hkv;obtain⟨W1,hW1⟩:=exQ<|w.alloc (.cells #[.string (bs s), .slice pl n cl, .slice pn nn cn] 36);obtain⟨D,hD⟩:=exQ<|w.heap.size;have b1:Below w.heap.size w W1:=by rw[<-hW1];exact aH _ _
 have h1:W1.heap[D]?=some (.cells #[.string (bs s), .slice pl n cl, .slice pn nn cn] 36):=by rw[<-hW1,<-hD];exact heap_alloc_new w _
 obtain⟨W2,hW2⟩:=exQ<|W1.alloc (.cells #[.int .i64 (x.kind:Int), .int .i64 x.ind, .int .i64 (x.fr:Int), .int .i64 (x.til:Int), .int .i64 x.kf, .int .i64 x.kt, .int .i64 x.rf, .int .i64 x.rt, .slice pk nk ck] 62);obtain⟨S,hS⟩:=exQ<|W1.heap.size;have b2:Below W1.heap.size W1 W2:=by rw[<-hW2];exact aH _ _
 have h2:W2.heap[S]?=some (.cells #[.int .i64 (x.kind:Int), .int .i64 x.ind, .int .i64 (x.fr:Int), .int .i64 (x.til:Int), .int .i64 x.kf, .int .i64 x.kt, .int .i64 x.rf, .int .i64 x.rt, .slice pk nk ck] 62):=by rw[<-hW2,<-hS];exact heap_alloc_new W1 _
 obtain⟨d0,d1,d2,_⟩:=gQ ((b2.block D (aF h1)).trans h1);obtain⟨y0,y1,y2,y3,y4,y5,y6,y7,y8⟩:=pE h2;have HB:=hid (aC b1 b2);clear b1 b2 h1 h2;go_enter Tryz.func93,Tryz.ntmps93;go_upto_region 1 with fail;clear hW1 hW2 hD hS;obtain⟨f1,hf1⟩:=exQ<|x.fr+1;have hf1z:(x.fr:Int)+1=(f1:Int):=by omega
 obtain⟨fr,hfr2⟩:=exQ<|x.fr;obtain⟨til,htil2⟩:=exQ<|x.til;rw[htil2] at htil y3;rw[hfr2] at hf1z hfr y2;have HX:=hid (aI hf1 (aI hfr2 htil2));clear hf1 hfr2 htil2;go_region
 all_goals
  obtain⟨tm,htm⟩: ∃tm:Nat,min til n=tm:=⟨_,rfl⟩;have htmz:min (til:Int) (n:Int)=(tm:Int):=by omega
  have HTM:=hid htm;by_cases hle:tm<=f1
  ·have dle:decide ((tm:Int)<=(f1:Int))=true:=aN (by omega);have dle2:decide (tm<=f1)=true:=aN hle;have HLE:=hid hle;clear htm hle;go_wp2_with fail;go_ret;refine⟨by first | exact HB.out | exact HB.out.drew,?_⟩;rw[<-HR.out,HX.out.1,HX.out.2.2,HTM.out,if_pos HLE.out];rfl
  ·have dle:decide ((tm:Int)<=(f1:Int))=false:=aJ (by omega);have dle2:decide (tm<=f1)=false:=aJ hle;have h1:(f1:Int)<=(tm:Int):=(by omega);have h2:(tm:Int)<=(cl:Int):=(by omega);have h3:(0:Int)<=(f1:Int):=(by omega);have h4:(0:Int)<=(tm:Int):=(by omega);have h1n:f1<=tm:=(by omega);have h2n:tm<=cl:=(by omega);obtain⟨pa,rfl⟩: ∃a,pl=some a:=by
    cases pl with
    | none=>have:=hpl rfl;omega
    | some a=>exact⟨a,rfl⟩
   have HLE:=hid hle;clear htm hle;go_wp2_with fail
   all_goals
    go_ret;refine⟨by first | exact HB.out | exact HB.out.drew,?_⟩;rw[<-HR.out,HX.out.1,HX.out.2.2,HTM.out,if_neg HLE.out]
    first | rfl | (exfalso;have:=HLE.out;omega)
end
end Go.Proofs.YtaifnmjjpddikaaGreatDoor
