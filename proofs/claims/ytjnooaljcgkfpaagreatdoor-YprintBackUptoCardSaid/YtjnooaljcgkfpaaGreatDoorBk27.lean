import Derived.Test.YtjnooaljcgkfpaaGreatDoorBk26
import Derived.Test.YtjnooaljcgkfpaaGreatDoorBk17
set_option maxRecDepth 100000
set_option maxHeartbeats 8000000
namespace Go.Proofs.YtjnooaljcgkfpaaGreatDoor
set_option linter.unusedSimpArgs false
set_option linter.unusedVariables false
open Go.RowKit
open Go.Lib hiding intOf
theorem aDE {w:World}{X:Nat}{a0 a1:Value}{t:TypeId} (hb:w.heap[X]?=some (.cells #[a0,a1] t (0,0))):w.cell? ⟨X,0,none⟩=some a0/\w.cell? ⟨X,1,none⟩=some a1/\w.frozen? ⟨X,0,none⟩=false/\w.frozen? ⟨X,1,none⟩=false:=by
 refine⟨?_,?_,?_,?_⟩<;>simp[World.cell?,World.frozen?,hb]
theorem aDF {w:World}{X:Nat}{o0 o1 a0 a1:Value}{t:TypeId} (h:w.heap[X]?=some (.cells #[o0,o1] t (0,0))):((w.setCell ⟨X,0,none⟩ a0).setCell ⟨X,1,none⟩ a1).heap[X]?=some (.cells #[a0,a1] t (0,0)):=by
 simp[World.setCell,Array.getElem?_modify,h]
theorem aDG {W0 w':World}{Y:Nat}{a0 a1:Value} (h:Below W0.heap.size W0 w') (hY:W0.heap.size<=Y):Below W0.heap.size W0 ((w'.setCell ⟨Y,0,none⟩ a0).setCell ⟨Y,1,none⟩ a1):=
 (h.setCell (by exact hY) _).setCell (by exact hY) _
def WhE (T:TypeId) (Pr:aK) (w0:World) (P:Nat) (txt:aA) (sp:List (Nat×Nat)) (R:fS×Int×Int) (e:Ending) (w':World):Prop:=
 (R.2.2=0/\e= .returned (.bool true)/\ ∃tot,YJ T Pr w0 P txt sp ⟨R.1.lines,R.1.nodes,tot⟩ 0 0 w')\/(R.2.2≠0/\e= .returned (.bool false)/\gI T Pr w0 P txt sp R.2.1 R.2.2 w')
theorem aDI (w0:World) (P:Nat) (txt:aA) (sp:List (Nat×Nat)) (hsp0:eS txt sp) (hs:txt.length<=65536) (hns:sp.length<=131072) (hV:cG w0) {Pr:aK} (w:World) (h:YJ YP Pr w0 P txt sp ⟨[],[],0⟩ 0 0 w):
  Calls Tryz.prog 44 #[.pointer (some ⟨P,0,none⟩)] w (WhE YP Pr w0 P txt sp (mA txt sp)):=by
 obtain⟨R,b⟩:=exQ<|mA txt sp;rw[b];unfold mA at b;have a4:mN txt sp []:=⟨cH _,λi B=>absurd B (tN _)⟩;have l:=oV hsp0 (k:=0) (lines:= []) (aD _) a4 (λi _ B=>absurd B (tN _));obtain⟨NN,hN⟩:=exQ<|gA txt sp 0 [];rw[hN] at b l;have CN:Hid (Calls Tryz.prog 64 #[.pointer (some ⟨P,0,none⟩), .int .i64 0] w (Bw YP Pr w0 P txt sp ⟨[],[],0⟩ NN)):=hid (by have:=Gx (st:=⟨[],[],0⟩) 0 w h (aD _) (cH _) hs hns hV;rw[hN] at this;exact this);have HSP:=hid hsp0;clear hN h a4;go_enter Tryz.func44,Tryz.ntmps44;cases NN with
 | bad a er=>
  have t:Hid ((⟨[],[]⟩,a,er)=R):=hid b;have U:Hid (er≠0):=hid l.2.2;clear b l;go_wp2_with fail;refine CN.out.mono ?_;rintro e w2 ⟨⟨m,rfl⟩,s⟩;have HF:=hid s;clear s;go_wp2_with fail;go_ret;rw[<-t.out];exact .inr ⟨U.out,rfl,HF.out⟩
 | ok k ls=>
  simp only[] at b l;have a2:=hid l;have HR:=hid b;have hk0:(0:Int)<=(k:Int):=by omega
  clear b l;go_wp2_with fail;refine CN.out.mono ?_;rintro e w2 ⟨rfl,Z⟩;have N:=hid Z;have CT:Hid (∀w',YJ YP Pr w0 P txt sp ⟨ls,[],0⟩ 0 0 w'->Calls Tryz.prog 65 #[.pointer (some ⟨P,0,none⟩), .int .i64 (k:Int)] w' λe w2=>e= .returned (.bool (decide (k<sp.length)))/\Below w'.heap.size w' w2):=hid (λw' J=>wI k w' J);clear Z CN;by_cases hlt:k<sp.length;rotate_left
  ·have b:=HR.out;rw[if_pos hlt] at b;have t:=hid b;rw[aJ hlt] at CT;clear b hlt HR;go_wp2_with fail;refine(CT.out _ (by first | exact N.out | exact N.out.keep (aB _ _).drew)).mono ?_;rintro e w3 ⟨rfl,G⟩;have ai:=hid (N.out.keep (by first | exact G | exact aC (aB _ _).drew G));clear G;go_upto_region 5 with fail;obtain⟨W0,aI⟩:=exQ<|w3.drew;have ax:=ai.out.keep (aB _ w3).drew;rw[aI] at ax;have ay:=hid ax;obtain⟨SA,ap⟩: ∃S:World->Prop,(λw'=>w'.cell? ⟨P,0,none⟩=some (.string (bs txt)))=S:=⟨_,rfl⟩;have aG:Hid (∀w',Below W0.heap.size W0 w'->SA w'):=hid (λw' hb=>by rw[<-ap];obtain⟨z,sv,lv,nv,H,hK⟩:=ay.out.keep hb;exact hK.cells.1.1);have hbsz:=aQ txt;clear ax;have ad:Tryz.prog.follows .mixedOrders=true:=(by kernel_rfl);refine nL ad [some 17,some 18,some 19,some 20,some 21,some 22,some 23,some 24,some 25,some 26,some 27,some 5,none] [17,18,19,20,21,22,23,24,25,26,27,5] [12] 11 (pC W0 76 #[.int .i64 0, .int .i64 0]) 72 rfl (by kernel_rfl) (by kernel_rfl) (by kernel_rfl) (λiz=>match iz with | 0=> .pointer (some ⟨P,0,none⟩) | 1=> .pointer (some ⟨P,0,none⟩) | 2=> .pointer (some ⟨P,0,none⟩) | 3=> .string (bs txt) | 4=> .int .i64 (txt.length:Int) | 5=> .pointer (some ⟨P,0,none⟩) | 6=> .pointer (some ⟨P,0,none⟩) | 7=> .pointer (some ⟨P,0,none⟩) | 8=> .string (bs txt) | 9=> .int .i64 (txt.length:Int) | 10=> .agg #[.int .i64 (txt.length:Int), .int .i64 (txt.length:Int)] | _=>undef) SA (wJ W0 76 #[.int .i64 (txt.length:Int), .int .i64 (txt.length:Int)]) (by rw[aI];exact aG.out _ (aB _ _)) (by rw[aI];exact aB _ _) ?_ ?_
   ·intro d a w' iq o' ho B p M r R' b;have az:iq<13:=(dW.1 ho).1;have q0:a.tmps[0]?.getD undef= .pointer (some ⟨P,0,none⟩):=bD M 0 (by decide);have hc:=r.all [(0,17),(1,18),(2,19),(3,20),(4,21),(5,22),(6,23),(7,24),(8,25),(9,26),(10,27)] (by decide);dsimp only[fU] at hc;clear M;have ha:=p;have A:=ho;have aE:iq=11\/iq=12\/iq=0\/iq=1\/iq=2\/iq=4\/iq=5\/iq=6\/iq=7\/iq=9\/iq=10\/iq=3\/iq=8:=(by omega);clear az;rcases aE with rfl|rfl|rfl|rfl|rfl|rfl|rfl|rfl|rfl|rfl|rfl|rfl|rfl<;>simp only[fN,dG,bM,cP] at ho<;>subst ho<;>(try simp[Region.binds] at p)
    ·have hA:Below W0.heap.size W0 w':=r.at2 (j:=0) rfl (r.lastNot (f:=13) (i:=11) (by kernel_rfl) B) (.inl rfl);have a6:=aH w' (.cells #[.int .i64 0, .int .i64 0] 76);go_simp;exact b _ _ (r.free (by kernel_rfl) A ha rfl (by decide) rfl (by decide) (by kernel_rfl) (by decide) (r.lastNot (f:=13) (i:=11) (by kernel_rfl) B) (λ_=>aG.out _ (aC hA a6)) (λk c hp=>hp.keep a6) (pC.new hA.size))
    ·have c27:=r.g 10 27 rfl (by decide) (by decide) (by decide) (by simp[p]);have E:=r.at2 (j:=0) rfl B (.inl rfl);obtain⟨Y,hY,L,O⟩:=r.fb B (by simp[p]);have hY:a.tmps.getD 5 undef= .pointer (some ⟨Y,0,none⟩):=hY;have c5:a.tmps[5]?.getD undef= .pointer (some ⟨Y,0,none⟩):=by rw[<-aU];exact hY
     obtain⟨z0,z1,h0,h1⟩:=aDE O;have hA:Below W0.heap.size W0 w':=E;go_simp;exact b undef _ (r.eff2 (by kernel_rfl) (by decide) 0 A ha rfl B (.inl rfl) rfl (by decide) (λh=>absurd rfl h) (λh=>absurd rfl h) ⟨Y,hY,L,aDF O,aDG hA L⟩)
    iterate 9 (go_simp;exact b _ _ (r.pure (by kernel_rfl) A ha rfl (by decide) (by decide) (by decide) rfl))
    all_goals
     have D:=r.early (f:=13) (by kernel_rfl) B;rw[<-ap] at D;have c0:=D;go_simp;exact b _ _ (r.pure (by kernel_rfl) A ha rfl (by decide) (by decide) (by decide) rfl)
   intro v wz ao bh;obtain⟨X,hY,L,O,a5⟩:=bh;have a8:v 5= .pointer (some ⟨X,0,none⟩):=hY;have bb:=ay.out.put a5 L O;have av:=hid (λq o hq=>aK.put_less (Pr:=Pr) (X:=X) (o:= .cells #[.int .i64 (txt.length:Int), .int .i64 (txt.length:Int)] 76) (λq o' hq=>ay.out.frLt q o' hq) L q o hq);have bk:=hid bb;simp only[cV,fO,eP,fP,a8];clear bb hY L O a5 ao a8 aG ap;go_upto_region 6 with fail;obtain⟨W2,aj⟩:=exQ<|wz.drew;have Z:=bk.out.keep (aB _ wz).drew;rw[aj] at Z;obtain⟨z,sv,lv,nv,H,aa⟩:=Z;have aw:z= []:=(by simpa using H);obtain⟨pn,cn,aX⟩:=aa.ndSlice;obtain⟨n,hn⟩:=exQ<|z.length;rw[hn] at aX;subst aX;have hn4:n<=4096:=by rw[<-hn,aw];simp
   have au:=hid (aT aw hn);have aV:=hid aa;have W:=aa.nod.row;rw[au.out.2] at W;have an:=hid W;have bm:=hid aa.bel.size;obtain⟨i0,bi,K,bo,bl⟩:=info_parts Tryz.infoYnode;obtain⟨SB,af⟩: ∃S:World->Prop,(λw'=>(w'.cell? ⟨P,3,none⟩=some (.slice pn n cn)/\w'.frozen? ⟨P,3,none⟩=false)/\w'.cell? ⟨X,0,none⟩=some (.int .i64 (txt.length:Int))/\w'.cell? ⟨X,1,none⟩=some (.int .i64 (txt.length:Int)))=S:=⟨_,rfl⟩;have ag:Hid (∀q c w',q<3->cS 100 w0.heap.size (.slice pn n cn) n (jH z) (iF (⟨1,0,0,0,0,0,(txt.length:Int),(txt.length:Int),[]⟩:aM)) P 3 W2 q c w'->SB w'):=hid (λq c w' hq hp=>by rw[<-af];have hs:=aV.out.seenA an.out (by decide) (λj o J=>(aV.out.fr j o J).2.2.2.1) hq hp;obtain⟨c2,f2⟩:=hs.c3;have hl:=hs.fr X _ (aK.put_eq _ _ _);exact⟨⟨c2,f2⟩,nM hl⟩);clear aa W H aw hn;have ad:Tryz.prog.follows .mixedOrders=true:=(by kernel_rfl);refine nL ad [some 28,some 29,some 30,some 31,some 32,some 33,some 34,some 35,some 36,some 37,some 38,none] [28,29,30,31,32,33,34,35,36,37,38] [7,8,11] 1000000 (λ_ _=>True) 72 rfl (by kernel_rfl) (by kernel_rfl) (by kernel_rfl) (λiz=>match iz with | 0=> .pointer (some ⟨P,0,none⟩) | 1=> .pointer (some ⟨P,0,none⟩) | 2=> .pointer (some ⟨P,0,none⟩) | 3=> .pointer (some ⟨P,3,none⟩) | 4=> .slice pn n cn | 5=> .agg #[.int .i64 (txt.length:Int), .int .i64 (txt.length:Int)] | 6=> .agg #[.int .i64 1, .int .i64 0, .int .i64 0, .int .i64 0, .int .i64 0, .int .i64 0, .int .i64 (txt.length:Int), .int .i64 (txt.length:Int), .slice none 0 0] | 9=> .pointer (some ⟨P,0,none⟩) | 10=> .pointer (some ⟨P,3,none⟩) | _=>undef) SB (cS 100 w0.heap.size (.slice pn n cn) n (jH z) (iF (⟨1,0,0,0,0,0,(txt.length:Int),(txt.length:Int),[]⟩:aM)) P 3 W2) (by rw[aj];exact ag.out 0 undef _ (by decide) (aB _ _)) (by rw[aj];exact aB _ _) ?_ ?_
   ·intro d a w' iq o' ho B p M r R' b;have az:iq<12:=(dW.1 ho).1;have q0:a.tmps[0]?.getD undef= .pointer (some ⟨P,0,none⟩):=bD M 0 (by decide);have q5:a.tmps[5]?.getD undef= .pointer (some ⟨X,0,none⟩):=bD M 5 (by decide);have hc:=r.all [(0,28),(1,29),(2,30),(3,31),(4,32),(5,33),(6,34),(9,37),(10,38)] (by decide);dsimp only[fU] at hc;clear M;have ha:=p;have A:=ho;have aE:iq=7\/iq=8\/iq=11\/iq=0\/iq=1\/iq=2\/iq=3\/iq=6\/iq=9\/iq=10\/iq=4\/iq=5:=(by omega);clear az;rcases aE with rfl|rfl|rfl|rfl|rfl|rfl|rfl|rfl|rfl|rfl|rfl|rfl<;>simp only[fN,dG,bM,cP] at ho<;>subst ho<;>(try simp[Region.binds] at p)
    ·have c34:=r.g 6 34 rfl (by decide) (by decide) (by decide) (by simp[p]);have E:=r.at2 (j:=0) rfl B (.inl rfl);have hA:Below W2.heap.size W2 w':=E;go_simp;exact b _ _ (r.eff2 (by kernel_rfl) (by decide) 0 A ha rfl B (.inl rfl) rfl (by decide) (λ_ _ _=>trivial) (λ_=>ag.out 1 _ _ (by decide) ⟨w',hA,rfl,rfl⟩) ⟨w',hA,rfl,rfl⟩)
    ·have c32:=r.g 4 32 rfl (by decide) (by decide) (by decide) (by simp[p]);have ab:d 7=true:=(by simp[p]);have E:=r.at2 (j:=1) rfl B (.inr ⟨7,rfl,ab⟩);have ca':a.tmps.getD 32 undef= .slice pn n cn:=by rw[aU];exact c32
     exact cS.app rfl (.tmp 32) (.tmp 35) 43 rfl Tryz.underlying43 bi K bo bl rfl (by decide) rfl (Rf (⟨1,0,0,0,0,0,(txt.length:Int),(txt.length:Int),[]⟩:aM)) an.out (by omega) (by decide) bm.out E ca' rfl (λv' w2 hp=>b _ _ (r.eff2 (by kernel_rfl) (by decide) 1 A ha rfl B (.inr ⟨7,rfl,ab⟩) rfl (by decide) (λ_ _ _=>trivial) (λ_=>ag.out 2 _ _ (by decide) hp) hp))
    ·have c38:=r.g 10 38 rfl (by decide) (by decide) (by decide) (by simp[p]);have ab:d 8=true:=(by simp[p]);have E:=r.at2 (j:=2) rfl B (.inr ⟨8,rfl,ab⟩);have D:=r.st B;rw[<-af] at D;obtain⟨⟨p3,p3f⟩,b0,b1⟩:=D;have aq:cS 100 w0.heap.size (.slice pn n cn) n (jH z) (iF (⟨1,0,0,0,0,0,(txt.length:Int),(txt.length:Int),[]⟩:aM)) P 3 W2 2 (a.tmps.getD 36 undef) w':=E;obtain⟨gz,cz,H⟩:=aq.form;rw[H] at aq;have c36:a.tmps[36]?.getD undef= .slice (some ⟨gz,0,none⟩) (n+1) cz:=by rw[<-aU];exact H
     go_simp;exact b undef _ (r.eff2 (by kernel_rfl) (by decide) 2 A ha rfl B (.inr ⟨8,rfl,ab⟩) rfl (by decide) (λ_ _ _=>trivial) (λh=>absurd rfl h) ⟨_,_,aq,rfl⟩)
    iterate 7 (go_simp;exact b _ _ (r.pure (by kernel_rfl) A ha rfl (by decide) (by decide) (by decide) rfl))
    all_goals
     have D:=r.early (f:=12) (by kernel_rfl) B;rw[<-af] at D;obtain⟨⟨p3,p3f⟩,b0,b1⟩:=D;go_simp;exact b _ _ (r.pure (by kernel_rfl) A ha rfl (by decide) (by decide) (by decide) rfl)
   intro v wy ao bc;obtain⟨cz,ba⟩: ∃c,cS 100 w0.heap.size (.slice pn n cn) z.length (jH z) (iF (⟨1,0,0,0,0,0,(txt.length:Int),(txt.length:Int),[]⟩:aM)) P 3 W2 3 c wy:=⟨_,by rw[au.out.2];exact bc⟩;obtain⟨g,cap,bf⟩:=aV.out.nodeA (x:=(⟨1,0,0,0,0,0,(txt.length:Int),(txt.length:Int),[]⟩:aM)) rfl ba;have a9:=bf.less av.out;have HF:Hid (YJ YP Pr w0 P txt sp ⟨ls,[(⟨1,0,0,0,0,0,(txt.length:Int),(txt.length:Int),[]⟩:aM)],0⟩ 0 0 wy):=hid ⟨_,_,_,_,by rw[qE,au.out.1];rfl,a9⟩;clear bc bf a9 ba ao ag af aj;simp only[cV,fO,eP,fP];go_wp2_with fail;go_ret;rw[<-t.out];exact .inl ⟨rfl,rfl,0,HF.out⟩
  ·have b:=HR.out;rw[if_neg (λe=>e hlt)] at b;rw[aN hlt] at CT;obtain⟨C,V⟩:=a2.out.hit hlt;have ar:eL txt sp ⟨ls,[],0⟩:=⟨a2.out.ok,by simp⟩;obtain⟨Q,hQ⟩:=exQ<|kC txt sp 32 k 0 0 ⟨ls,[],0⟩;have u:=uE hsp0 32 k 0 0 ⟨ls,[],0⟩ ar C.symm;rw[hQ] at b u;have CB:Hid (∀w',YJ YP Pr w0 P txt sp ⟨ls,[],0⟩ 0 0 w'->Calls Tryz.prog 66 #[.pointer (some ⟨P,0,none⟩), .int .i64 (k:Int), .int .i64 1, .agg #[.int .i64 0, .int .i64 0]] w' (iW YP Pr w0 P txt sp Q)):=hid (λw' J=>by have:=Rx w0 P txt sp hsp0 hs hns hV 32 (aD _) Pr k 0 0 ⟨ls,[],0⟩ 1 w' J C.symm ar (hid (by decide));rw[hQ] at this;exact this);have aO:=hid b;clear b hlt hQ ar HR C V;go_wp2_with fail;refine(CT.out _ (by first | exact N.out | exact N.out.keep (aB _ _).drew)).mono ?_;rintro e w3 ⟨rfl,G⟩;have ai:=hid (N.out.keep (by first | exact G | exact aC (aB _ _).drew G));clear G;go_wp2_with fail;refine(CB.out _ (by first | exact ai.out | exact ai.out.keep (aB _ _).drew)).mono ?_;rintro e w4 hE;have HE:=hid hE;clear hE;cases Q with
   | bad a er=>
    have t:Hid ((⟨[],[]⟩,a,er)=R):=hid aO.out;have U:Hid (er≠0):=hid (show 0<=a/\a<=(txt.length:Int)/\er≠0 from u).2.2;obtain⟨⟨m,rfl⟩,s⟩:=HE.out;have HF:=hid s;clear s HE u;go_wp2_with fail;go_ret;rw[<-t.out];exact .inr ⟨U.out,rfl,HF.out⟩
   | ok nn s4=>
    obtain⟨rfl,aW⟩:=HE.out;obtain⟨g1,⟨more,g2n,g2⟩,g3,g4,g5,g6⟩:=(show mO txt sp k ⟨ls,[],0⟩ nn s4 from u);have g10:nn=0:=g1;subst g10;have b:=aO.out;simp only[] at b;obtain⟨y,hy⟩: ∃y,s4.nodes[0]?=some y:=by
     cases more with
     | nil=>exact absurd rfl g2n
     | cons y _=>exact⟨y,by rw[g2];rfl⟩
    have ak:=Fx hy;rw[ak] at b g4 g5;obtain⟨til,aF⟩:=exQ<|y.til;rw[aF] at b g4 g5;obtain⟨N2,aL⟩:=exQ<|gA txt sp til s4.lines;have l:=oV hsp0 (k:=til) g4.2 g6.ls g5;rw[aL] at b l;have CN:Hid (∀w',YJ YP Pr w0 P txt sp s4 0 0 w'->Calls Tryz.prog 64 #[.pointer (some ⟨P,0,none⟩), .int .i64 (til:Int)] w' (Bw YP Pr w0 P txt sp s4 N2)):=hid (λw' J=>by have:=Gx til w' J g4.2 g6.ls.1 hs hns hV;rw[aL] at this;exact this);have ah:=hid aW;obtain⟨z,sv,lv,nv,H,hK⟩:=aW;have bj:z.length=s4.nodes.length:=(by rw[<-H,cA]);obtain⟨gn,cn,cur,rfl,bn,_⟩:=hK.nod.form (λe=>by rw[e] at H;rw[<-H] at hy;cases hy);obtain⟨z0,K⟩: ∃z0,z[0]?=some z0:=by
     rw[<-H,cW] at hy;cases hq:z[0]? with
     | none=>rw[hq] at hy;cases hy
     | some q=>exact⟨q,rfl⟩
    have al:z0.1=y:=by
     rw[<-H,cW,K] at hy;exact bC hy
    have ae:=(hK.nod.at_ K 3 (by omega) rfl).1;rw[al,aF] at ae;have c3:=hK.cells.1.2.2.2.1;have hPl:=hK.lt;obtain⟨m,hm⟩:=exQ<|z.length;have hm0:(0:Int)<(m:Int):=by have:=(aP.1 K).1;omega
    have hm1:0<m:=(by omega);rw[hm] at c3 bn;simp only[Nat.zero_mul,Nat.zero_add] at ae;have HR:=hid b;have am:=hid l;have HG:=hid g6;clear hK H K al bj hm hy ak aF g1 g2n g2 g3 g4 g5 g6 b l aL u aO HE CB CT;cases N2 with
    | bad a er=>
     have t:Hid ((⟨[],[]⟩,a,er)=R):=hid HR.out;have U:Hid (er≠0):=hid (show 0<=a/\a<=(txt.length:Int)/\er≠0 from am.out).2.2;go_wp2_with fail;refine(CN.out _ (by first | exact ah.out | exact ah.out.keep (aB _ _).drew)).mono ?_;rintro e w5 ⟨⟨mm,rfl⟩,s⟩;have HF:=hid s;clear s ae c3;go_wp2_with fail;go_ret;rw[<-t.out];exact .inr ⟨U.out,rfl,HF.out⟩
    | ok k2 ls2=>
     have l:=(show rL txt sp til s4.lines k2 ls2 from am.out);have b:=HR.out;simp only[] at b;have a1:=hid b;have a7:=hid l;have hk20:(0:Int)<=(k2:Int):=(by omega);clear b l;go_wp2_with fail;refine(CN.out _ (by first | exact ah.out | exact ah.out.keep (aB _ _).drew)).mono ?_;rintro e w5 ⟨rfl,aZ⟩;have I:=hid aZ;clear aZ ae c3;have CT:Hid (∀w',YJ YP Pr w0 P txt sp ⟨ls2,s4.nodes,s4.total⟩ 0 0 w'->Calls Tryz.prog 65 #[.pointer (some ⟨P,0,none⟩), .int .i64 (k2:Int)] w' λe w2=>e= .returned (.bool (decide (k2<sp.length)))/\Below w'.heap.size w' w2):=hid (λw' J=>wI k2 w' J);by_cases hlt:k2<sp.length;rotate_left
     ·have b:=a1.out;rw[if_neg hlt] at b;have t:=hid b;rw[aJ hlt] at CT;clear b hlt;go_wp2_with fail;refine(CT.out _ (by first | exact I.out | exact I.out.keep (aB _ _).drew)).mono ?_;rintro e w6 ⟨rfl,F⟩;have T:=hid (I.out.keep (by first | exact F | exact aC (aB _ _).drew F));clear F;go_wp2_with fail;go_ret;rw[<-t.out];exact .inl ⟨rfl,rfl,_,T.out⟩
     ·have b:=a1.out;rw[if_pos hlt] at b;have t:=hid b;rw[aN hlt] at CT;obtain⟨C,V⟩:=a7.out.hit hlt;have CBg:=hid (λw' J=>Hc (Pr:=Pr) (w0:=w0) (P:=P) (txt:=txt) (sp:=sp) (st:=⟨ls2,s4.nodes,s4.total⟩) (a0:=0) (e0:=0) k2 w' J hlt (by simp only[];omega) (a7.out.ok.2 k2 (by omega)) hs);obtain⟨bg,aY⟩:=exQ<|((fI sp k2).1:Int)+(aR ls2 k2).ind;simp only[aY] at CBg t;have CF:=hid (λa w' J=>qR (Pr:=Pr) (w0:=w0) (P:=P) (txt:=txt) (sp:=sp) (st:=⟨ls2,s4.nodes,s4.total⟩) (a0:=0) (e0:=0) a 2 w' J);clear b hlt C V aY;go_wp2_with fail;refine(CT.out _ (by first | exact I.out | exact I.out.keep (aB _ _).drew)).mono ?_;rintro e w6 ⟨rfl,F⟩;have T:=hid (I.out.keep (by first | exact F | exact aC (aB _ _).drew F));clear F;go_wp2_with fail;refine(CBg.out _ (by first | exact T.out | exact T.out.keep (aB _ _).drew)).mono ?_;rintro e w7 ⟨rfl,aS⟩;have bd:=hid (T.out.keep (by first | exact aS | exact aC (aB _ _).drew aS));clear aS;go_wp2_with fail;refine(CF.out _ _ (by first | exact bd.out | exact bd.out.keep (aB _ _).drew)).mono ?_;rintro e w8 ⟨rfl,a3⟩;have HF:=hid a3.bad;clear a3;go_wp2_with fail;go_ret;rw[<-t.out];exact .inr ⟨show (2:Int)≠0 by decide,rfl,HF.out⟩
def gV:Nat->List (Nat×Nat)->List (Nat×Nat)
 | 0,l=>l
 | _,[]=> []
 | n+1,x::l=>(x.1,x.2-1)::gV n l
theorem Ry: ∀(n:Nat) (l:List (Nat×Nat)),(gV n l).length=l.length
 | 0,l=>by cases l<;>rfl
 | n+1,[]=>rfl
 | n+1,x::l=>by rw[gV,aL,Ry n l];rfl
theorem Rz: ∀(n:Nat) (l:List (Nat×Nat)),(gV n l)[n]?=l[n]?
 | 0,l=>by cases l<;>rfl
 | n+1,[]=>rfl
 | n+1,x::l=>by rw[gV,bM,bM];exact Rz n l
theorem Sa: ∀(n:Nat) (l:List (Nat×Nat)) (x:Nat×Nat),l[n]?=some x->gV (n+1) l=(gV n l).set n (x.1,x.2-1)
 | 0,[],x,h=>by cases h
 | 0,y::l,x,h=>by
  obtain rfl:y=x:=bC h;cases l<;>rfl
 | n+1,[],x,h=>by cases h
 | n+1,y::l,x,h=>by
  rw[gV,gV,eP,<-Sa n l x h]
theorem Sb: ∀(l:List (Nat×Nat)),gV (l.length-1) l=qH l
 | []=>rfl
 | [x]=>rfl
 | x::y::l=>by
  have:=Sb (y::l);rw[qH,<-this];rfl
theorem aDJ {l:aA}{i:Nat}{x:Nat×Nat} (h:(fA l 0 0)[i]?=some x):x.2<=l.length/\(i+1<(fA l 0 0).length->1<=x.2):=by
 obtain⟨a,b⟩:=Bb l 0 0 (aD _);have h3:=a x (bA h);refine⟨by omega,λhi=>?_⟩;have h4:=b x (bA (show (fA l 0 0).dropLast[i]?=some x by rw[List.getElem?_dropLast,if_pos (by omega)];exact h));omega
theorem aDK {s:aA}{sp:List (Nat×Nat)} (hsp:eS s sp):((mA s sp).2.2=0/\(mA s sp).2.1=(s.length:Int))\/((mA s sp).2.2≠0/\(mA s sp).1=⟨[],[]⟩):=by
 have d:mN s sp []:=⟨cH _,λi f=>absurd f (tN _)⟩;have b:=oV hsp (k:=0) (lines:= []) (aD _) d (λi _ f=>absurd f (tN _));unfold mA;cases hN:gA s sp 0 [] with
 | bad a e=>rw[hN] at b;exact .inr ⟨b.2.2,rfl⟩
 | ok k ls=>
  rw[hN] at b;simp only[] at b ⊢;by_cases hk:k<sp.length
  ·rw[if_neg (λe=>e hk)];have c:=uE hsp 32 k 0 0 ⟨ls,[],0⟩ ⟨b.ok,by simp⟩ (b.hit hk).1.symm;cases hB:kC s sp 32 k 0 0 ⟨ls,[],0⟩ with
   | bad a e=>rw[hB] at c;exact .inr ⟨(show 0<=a/\a<=(s.length:Int)/\e≠0 from c).2.2,rfl⟩
   | ok n st=>
    rw[hB] at c;obtain⟨g1,_,_,g4,g5,g6⟩:=(show mO s sp k ⟨ls,[],0⟩ n st from c);have g10:n=0:=g1;subst g10;have g:=oV hsp (k:=gB st.nodes 0) g4.2 g6.ls g5;simp only[];cases hN2:gA s sp (gB st.nodes 0) st.lines with
    | bad a e=>rw[hN2] at g;exact .inr ⟨g.2.2,rfl⟩
    | ok k2 ls2=>
     simp only[];split
     ·exact .inr ⟨show (2:Int)≠0 by decide,rfl⟩
     ·exact .inl ⟨rfl,rfl⟩
  ·rw[if_pos hk];exact .inl ⟨rfl,rfl⟩
theorem He {w:World}{B B':Nat}{e:TypeId}{s:Nat}{v:Value}{n:Nat}{xs:List Value} (h:w.ownsRow B e s v n xs) (hB:B'<=B):w.ownsRow B' e s v n xs:=by
 refine⟨h.1,?_⟩;rcases h.2 with c | ⟨g,cap,cur,a,b,d⟩
 ·exact .inl c
 ·exact .inr ⟨g,cap,cur,a,aV hB b,d⟩
theorem eT.base {B B':Nat}{z:List YN}{nv:Value}{w:World} (h:eT B z nv w) (hB:B'<=B):eT B' z nv w:=⟨He h.row hB,λy a=>He (h.kids y a) hB,h.ak⟩
def iX (B:Nat) (d:fS) (lv nv:Value) (w:World):Prop:= ∃z:List YN,z.map (·.1)=d.nodes/\w.ownsRow B 143 10 lv d.lines.length (kE d.lines)/\eT B z nv w
theorem iX.nil (B:Nat) (w:World):iX B ⟨[],[]⟩ (.slice none 0 0) (.slice none 0 0) w:=⟨[],rfl,⟨rfl, .inl ⟨rfl,rfl⟩⟩,eT.nil _ _⟩
theorem iX.keep {B:Nat}{d:fS}{lv nv:Value}{w w':World} (h:iX B d lv nv w) (hb:Below w.heap.size w w'):iX B d lv nv w':=by
 obtain⟨z,b,c,a⟩:=h;exact⟨z,b,kX c hb,a.keep hb⟩
def YPE (l:aA) (R:fS×Int×Int) (w:World) (e:Ending) (w':World):Prop:= ∃tx lv nv,e= .returned (.tuple #[.agg #[.string tx,lv,nv], .int .i64 R.2.1, .int .i64 R.2.2])/\tx=(if R.2.2=0 then bs l else⟨#[]⟩)/\iX w.heap.size R.1 lv nv w'/\Below w.heap.size w w'
theorem Hf {fn:Func} (h:fn.results= #[.cell 2 45, .tmp 3, .tmp 4]) (tmps:Array Value) (w:World) {D:Nat}{u v x:Value} (hD:tmps.getD 2 undef= .pointer (some ⟨D,0,none⟩)) (h0:w.cell? ⟨D,0,none⟩=some u) (h1:w.cell? ⟨D,1,none⟩=some v) (h2:w.cell? ⟨D,2,none⟩=some x):
  (results fn tmps).run Tryz.prog w= .ok (.tuple #[.agg #[u,v,x],tmps.getD 3 undef,tmps.getD 4 undef]) w:=by
 have a:tmps[2]?.getD undef= .pointer (some ⟨D,0,none⟩):=by rw[<-aU];exact hD
 simp[results,h,a,asAddr,go_sem,h0,h1,h2]
theorem kS {w:World}{X:Nat}{a0 a1 a2:Value}{t:TypeId} (hb:w.heap[X]?=some (.cells #[a0,a1,a2] t (0,0))):w.cell? ⟨X,0,none⟩=some a0/\w.cell? ⟨X,1,none⟩=some a1/\w.cell? ⟨X,2,none⟩=some a2/\w.frozen? ⟨X,0,none⟩=false/\w.frozen? ⟨X,1,none⟩=false/\w.frozen? ⟨X,2,none⟩=false:=by
 refine⟨?_,?_,?_,?_,?_,?_⟩<;>simp[World.cell?,World.frozen?,hb]
theorem aDM (l:aA) (w:World) (hV:cG w):
  Calls Tryz.prog 23 #[.string (bs l)] w (YPE l (jF l) w):=by
 have sl:=aQ l;obtain⟨R,Q⟩:=exQ<|jF l;rw[Q];unfold jF at Q;have b1:=aH w (.cells #[.string ⟨#[]⟩, .slice none 0 0, .slice none 0 0] 45);have y:=heap_alloc_new w (.cells #[.string ⟨#[]⟩, .slice none 0 0, .slice none 0 0] 45);have G:(w.alloc (.cells #[.string ⟨#[]⟩, .slice none 0 0, .slice none 0 0] 45)).heap.size=w.heap.size+1:=by simp
 obtain⟨D,Z⟩:=exQ<|w.heap.size;obtain⟨w1,aK⟩:=exQ<|w.alloc (.cells #[.string ⟨#[]⟩, .slice none 0 0, .slice none 0 0] 45);rw[aK] at b1 y G;rw[Z] at y G;have t:=hid b1;have V:=hid y;have b:=hid Z;obtain⟨d0,d1,d2,f0,f1,f2⟩:=kS y;by_cases hlong:65536<l.length
 ·rw[if_pos hlong] at Q;have dl:decide ((65536:Int)<(l.length:Int))=true:=aN (by omega);have dl2:decide (65536<l.length)=true:=aN hlong;clear b1 y;go_enter Tryz.func23,Tryz.ntmps23;go_wp2_with fail
  try simp only[Exit.inBlock,Exit.then]
  refine bodyPost_ret (Hf rfl _ _ rfl (u:= .string ⟨#[]⟩) (v:= .slice none 0 0) (x:= .slice none 0 0) ?_ ?_ ?_) rfl ?_
  ·simp[go_sem,d0,d1,d2]
  ·simp[go_sem,d0,d1,d2]
  ·simp[go_sem,d0,d1,d2]
  ·rw[<-Q];exact⟨_,_,_,rfl,rfl,iX.nil _ _,((t.out.setCell (by rw[b.out];exact aD _) _).setCell (by rw[b.out];exact aD _) _).setCell (by rw[b.out];exact aD _) _⟩
 rw[if_neg hlong] at Q;have dl:decide ((65536:Int)<(l.length:Int))=false:=aJ (by omega);have dl2:decide (65536<l.length)=false:=aJ hlong;have Y:l.length<=65536:=by omega
 have CL:=hid (aBq (bs l) w1 (by omega));obtain⟨L,hL⟩:=exQ<|fA l 0 0;have ap:uB (bs l)=L:=by unfold uB;rw[aW];exact hL
 rw[ap] at CL;have N:=sX l 0 0;rw[hL] at N;have HL:=hid hL;have HR:=hid Q;have aj:=hid (hV.keep (show Below w.heap.size w w1 from t.out));clear b1 y ap Q hL hV;go_enter Tryz.func23,Tryz.ntmps23;go_wp2_with fail;refine CL.out.mono ?_;rintro e w2 ⟨sv,rfl,a,C⟩;obtain⟨g,cap,cur,rfl,az,ai,hcap,_⟩: ∃g cap cur,sv= .slice (some ⟨g,0,none⟩) L.length cap/\w1.heap.size<=g/\w2.heap[g]?=some (.cells cur 76 (0,0))/\L.length<=cap/\True:=by
  rcases a.2 with⟨_,h1⟩ | ⟨g,cap,cur,h1,h2,h3,h4,_⟩
  ·omega
  ·exact⟨g,cap,cur,h1,h2,h3,h4,trivial⟩
 have aM:g<w2.heap.size:=aE ai;obtain⟨P,I⟩:=exQ<|w2.heap.size;have b3:=aH w2 (.cells #[.string (bs l), .slice (some ⟨g,0,none⟩) L.length cap, .slice none 0 0, .slice none 0 0, .int .i64 0, .int .i64 0, .int .i64 0] 74);have A:=heap_alloc_new w2 (.cells #[.string (bs l), .slice (some ⟨g,0,none⟩) L.length cap, .slice none 0 0, .slice none 0 0, .int .i64 0, .int .i64 0, .int .i64 0] 74);obtain⟨w3,ab⟩:=exQ<|w2.alloc (.cells #[.string (bs l), .slice (some ⟨g,0,none⟩) L.length cap, .slice none 0 0, .slice none 0 0, .int .i64 0, .int .i64 0, .int .i64 0] 74);rw[ab] at b3 A;rw[I] at A aM;have f:Hid (nI w1.heap.size w3 (.slice (some ⟨g,0,none⟩) L.length cap) (gV 0 L)):=hid (kX a b3);have j:Hid (Below w1.heap.size w1 w3):=hid (C.trans (b3.mono C.size));have n:=hid A;obtain⟨N1,af⟩:=exQ<|L.length-1;have ak:(L.length:Int)-1=(N1:Int):=by omega
 have hN1w:IntKind.i64.wrap ((L.length:Int)-1)=(N1:Int):=by rw[ak,IntKind.wrap_i64];omega
 have hN1x:IntKind.i64.wrap (N1:Int)=(N1:Int):=by rw[IntKind.wrap_i64];omega
 have aI:w1.heap.size<=P:=by rw[<-I];exact C.size
 obtain⟨p1,pl⟩:w3.cell? ⟨P,1,none⟩=some (.slice (some ⟨g,0,none⟩) L.length cap)/\P<w3.heap.size:=⟨by simp[World.cell?,A],aE A⟩;have B:=hid af;clear a C ai b3 A af;go_upto_region 4 with fail;clear ab I;go_wp2_with fail;clear p1;go_loopw [22] (λs22 wr=> ∃i:Nat,s22= .int .i64 (i:Int)/\i<=N1/\Hid (wr.heap[P]?=some (.cells #[.string (bs l), .slice (some ⟨g,0,none⟩) L.length cap, .slice none 0 0, .slice none 0 0, .int .i64 0, .int .i64 0, .int .i64 0] 74))/\Hid (nI w1.heap.size wr (.slice (some ⟨g,0,none⟩) L.length cap) (gV i L))/\Hid (Below w1.heap.size w1 wr)) (λs22 _=>N1-(RowKit.intOf s22).toNat)
 case atStart=>exact⟨0,rfl,cH _,n,f,j⟩
 case round=>
  clear n f j pl;obtain⟨i,rfl,hi,n,f,j⟩:=hrel;have p1:wr.cell? ⟨P,1,none⟩=some (.slice (some ⟨g,0,none⟩) L.length cap):=by have:=n.out;simp[World.cell?,this]
  have pl:P<wr.heap.size:=aE n.out;by_cases hin:i<N1
  ·have dk:decide ((i:Int)<(N1:Int))=true:=aN (by omega);obtain⟨x,hx⟩: ∃x,L[i]?=some x:=⟨_,bH (by have:=B.out;omega)⟩;have M:=hx;rw[<-HL.out] at M;obtain⟨q1,q2⟩:=aDJ M;have q3:=q2 (by rw[HL.out];have:=B.out;omega);have hi0:(0:Int)<=(i:Int):=(by omega);have hi1:(i:Int)<(L.length:Int):=by have:=B.out;omega
   obtain⟨y2,aa⟩:=exQ<|x.2-1;have U:(x.2:Int)-1=(y2:Int):=(by omega);have hy2w:IntKind.i64.wrap ((x.2:Int)-1)=(y2:Int):=by rw[U,IntKind.wrap_i64];omega
   have hy2x:IntKind.i64.wrap (y2:Int)=(y2:Int):=by rw[IntKind.wrap_i64];omega
   have H:(gV i L)[i]?=some x:=by rw[Rz];exact hx
   have a:=f.out;have key:=uL (λp:Nat×Nat=>([.int .i64 (p.1:Int), .int .i64 (p.2:Int)]:List Value)) 2 Gt (gV i L) i x H 1 (by omega);have q:(gV i L).length=L.length:=Ry i L;have c:wr.ownsRow w1.heap.size 76 2 (.slice (some ⟨g,0,none⟩) (gV i L).length cap) (gV i L).length (oR (gV i L)):=by
    have h:=a;unfold nI at h;rw[q] at h ⊢;exact h
   have c1:wr.cell? ⟨g,i*2+1,none⟩=some (.int .i64 (x.2:Int)):=by
    rw[World.ownsRow.cellAt c _ (by rw[q];have:=B.out;omega)];exact key
   have cf:wr.frozen? ⟨g,i*2+1,none⟩=false:=World.ownsRow.frozenAt c _;obtain⟨ag,_⟩:=World.ownsRow.stored c (i*2+1) (.int .i64 (y2:Int));have ad:=Bu (λp:Nat×Nat=>([.int .i64 (p.1:Int), .int .i64 (p.2:Int)]:List Value)) 2 Gt (gV i L) i x (x.1,y2) H 1 (.int .i64 (y2:Int)) (by omega) rfl;obtain⟨i1,F⟩:=exQ<|i+1;have al:(i:Int)+1=(i1:Int):=(by omega);have aG:Hid (nI w1.heap.size (wr.setCell ⟨g,i*2+1,none⟩ (.int .i64 (y2:Int))) (.slice (some ⟨g,0,none⟩) L.length cap) (gV i1 L)):=hid (by unfold nI;rw[<-F,Sa i L x hx,aa];rw[List.length_set];have h:=ag;rw[show (oR (gV i L)).set (i*2+1) (.int .i64 (y2:Int))=oR ((gV i L).set i (x.1,y2)) from ad] at h;rw[q] at h ⊢;exact h);have ay:Hid ((wr.setCell ⟨g,i*2+1,none⟩ (.int .i64 (y2:Int))).heap[P]?=some (.cells #[.string (bs l), .slice (some ⟨g,0,none⟩) L.length cap, .slice none 0 0, .slice none 0 0, .int .i64 0, .int .i64 0, .int .i64 0] 74)):=hid (by rw[eQ wr ⟨g,i*2+1,none⟩ _ P (show P≠g by omega)];exact n.out);have ax:Hid (Below w1.heap.size w1 (wr.setCell ⟨g,i*2+1,none⟩ (.int .i64 (y2:Int)))):=hid (j.out.setCell (p:=⟨g,i*2+1,none⟩) az _);have X:i1<=N1:=(by omega);clear hx M q1 q2 q3 aa H a key q c ag ad F;go_wp2_with fail;go_roundw
   ·exact⟨i1,by rw[<-al],X,ay,aG,ax⟩
   ·simp only[RowKit.intOf];omega
  ·obtain rfl:i=N1:=(by omega);have dk:decide ((i:Int)<(i:Int))=false:=aJ (by omega);have S:=Nw l;have E:(gM l).length=L.length:=by unfold gM;rw[Fo,HL.out]
   have hj:YJ YP (λ_=>none) w1 P l (gM l) ⟨[],[],0⟩ 0 0 wr:=by
    refine⟨[], .slice (some ⟨g,0,none⟩) L.length cap, .slice none 0 0, .slice none 0 0,rfl,⟨n.out,?_,⟨rfl, .inl ⟨rfl,rfl⟩⟩,eT.nil _ _,aI,by decide,j.out,λk o hk=>by cases hk⟩⟩;have h:=f.out;unfold nI at h;rw[show gV i L=gM l by rw[<-B.out,Sb,<-HL.out];rfl] at h;exact h
   have CW:=aDI w1 P l (gM l) S Y (by rw[E];omega) aj.out wr hj;have m:=aDK S;rw[HR.out] at CW m;have aw:=hid CW;have an:=hid m;clear CW m hj S E p1;go_wp2_with fail;refine aw.out.mono ?_;rintro e w4 hE;rcases hE with⟨J,rfl,tot,ar⟩ | ⟨J,rfl,ah⟩
   ·obtain⟨z,sv4,lv4,nv4,hz,s⟩:=ar;obtain⟨⟨c0,c1,c2,c3,c4,c5,c6⟩,f2',f3',f4',f5',f6'⟩:=s.cells;obtain⟨ql,cl,rfl⟩:=s.lnSlice;obtain⟨qn,cn,rfl⟩:=s.ndSlice;have aF:=s.lt;have r:w4.heap[D]?=some (.cells #[.string ⟨#[]⟩, .slice none 0 0, .slice none 0 0] 45):=(s.bel.block D (by omega)).trans V.out;obtain⟨e0,e1,e2,aO,aL,av⟩:=kS r;have aC:D≠P:=(by omega);have HK:=hid s;have HZ:=hid hz;have ao:=hid r;have W:R.2.1=(l.length:Int):=by
     rcases an.out with h | h
     ·exact h.2
     ·exact absurd J h.1
    have T:=hid (aT J W);obtain⟨nl,O⟩:=exQ<|R.1.lines.length;obtain⟨nz,K⟩:=exQ<|z.length;simp only[] at c2 c3;simp only[O] at c2;rw[K] at c3;have aq:=hid (aT O K);clear s hz r d0 d1 d2 f0 f1 f2 J W O K c4 c5 c6 f2' f3' f4' f5' f6';go_upto_region 11 with fail;go_region
    all_goals
     go_wp2_with fail
     try simp only[Exit.inBlock,Exit.then]
     refine bodyPost_ret (Hf rfl _ _ rfl (u:= .string (bs l)) (v:= .slice ql nl cl) (x:= .slice qn nz cn) ?_ ?_ ?_) rfl ?_
     ·simp[go_sem,e0,e1,e2]
     ·simp[go_sem,e0,e1,e2]
     ·simp[go_sem,e0,e1,e2]
     ·obtain⟨n1,n2⟩:=aq.out;subst n1 n2;have hg:=tQ (tQ (iB w4 D 0 (.string (bs l))) (iB _ D 1 (.slice ql R.1.lines.length cl))) (iB _ D 2 (.slice qn z.length cn));have ae:=World.ownsRow.kept HK.out.lnr hg (dM HK.out.lnr ao.out (by decide));have am:=HK.out.nod.other ao.out (by decide) (by decide) hg;have d:w.heap.size<=w1.heap.size:=t.out.size;refine⟨bs l,_,_,by rw[T.out.2,T.out.1];rfl,by rw[if_pos T.out.1],(show iX w.heap.size R.1 _ _ _ from iX.keep (w:=((w4.setCell ⟨D,0,none⟩ (.string (bs l))).setCell ⟨D,1,none⟩ (.slice ql R.1.lines.length cl)).setCell ⟨D,2,none⟩ (.slice qn z.length cn)) ⟨z,HZ.out,He ae d,am.base d⟩ (aB _ _).drew),?_⟩;exact(((((t.out.trans (HK.out.bel.mono d)).setCell (by rw[b.out];exact aD _) _).setCell (by rw[b.out];exact aD _) _).setCell (by rw[b.out];exact aD _) _)).drew
   ·obtain⟨st,z,sv4,lv4,nv4,hz,s⟩:=ah;obtain⟨⟨c0,c1,c2,c3,c4,c5,c6⟩,f2',f3',f4',f5',f6'⟩:=s.cells;have aF:=s.lt;have r:w4.heap[D]?=some (.cells #[.string ⟨#[]⟩, .slice none 0 0, .slice none 0 0] 45):=(s.bel.block D (by omega)).trans V.out;obtain⟨e0,e1,e2,aO,aL,av⟩:=kS r;have aC:D≠P:=(by omega);have au:=hid s.bel;have H1:R.1=⟨[],[]⟩:=by
     rcases an.out with h | h
     ·exact absurd h.1 J
     ·exact h.2
    have T:=hid (aT J H1);clear s hz r d0 d1 d2 f0 f1 f2 J H1 c0 c1 c2 c3 c4 f2' f3' f4' f5' f6';go_upto_region 10 with fail;go_region
    all_goals
     go_wp2_with fail
     try simp only[Exit.inBlock,Exit.then]
     refine bodyPost_ret (Hf rfl _ _ rfl (u:= .string ⟨#[]⟩) (v:= .slice none 0 0) (x:= .slice none 0 0) ?_ ?_ ?_) rfl ?_
     ·simp[go_sem,e0,e1,e2]
     ·simp[go_sem,e0,e1,e2]
     ·simp[go_sem,e0,e1,e2]
     ·have d:w.heap.size<=w1.heap.size:=t.out.size;refine⟨⟨#[]⟩,_,_,rfl,by rw[if_neg T.out.1],by rw[T.out.2];exact iX.nil _ _,?_⟩;exact(((((t.out.trans (au.out.mono d)).setCell (by rw[b.out];exact aD _) _).setCell (by rw[b.out];exact aD _) _).setCell (by rw[b.out];exact aD _) _)).drew
theorem aDN (s:aA) (a b:Nat):(bs s).extract a b=bs (fD s (a:Int) (b:Int)):=by
 unfold fD;rw[eU,eU,mT,aW]
theorem Ci (s:aA) (lv nv:Value) (hlv: ∃p n c,lv= .slice p n c) (hnv: ∃p n c,nv= .slice p n c) (a b:Int) (w:World) (hs:s.length<=1073741824):
  Calls Tryz.prog 70 #[.agg #[.string (bs s),lv,nv], .agg #[.int .i64 a, .int .i64 b]] w λe w'=>e= .returned (.string (bs (jG s a b)))/\Below w.heap.size w w':=by
 obtain⟨pl,nl,cl,rfl⟩:=hlv;obtain⟨pn,nn,cn,rfl⟩:=hnv;have sl:=aQ s;obtain⟨R,g⟩:=exQ<|jG s a b;rw[g];unfold jG at g;obtain⟨W1,f⟩:=exQ<|w.alloc (.cells #[.string (bs s), .slice pl nl cl, .slice pn nn cn] 45);obtain⟨D,j⟩:=exQ<|w.heap.size;have b1:Below w.heap.size w W1:=by rw[<-f];exact aH _ _
 have m:W1.heap[D]?=some (.cells #[.string (bs s), .slice pl nl cl, .slice pn nn cn] 45):=by rw[<-f,<-j];exact heap_alloc_new w _
 obtain⟨W2,d⟩:=exQ<|W1.alloc (.cells #[.int .i64 a, .int .i64 b] 76);obtain⟨S,i⟩:=exQ<|W1.heap.size;have b2:Below W1.heap.size W1 W2:=by rw[<-d];exact aH _ _
 have o:W2.heap[S]?=some (.cells #[.int .i64 a, .int .i64 b] 76):=by rw[<-d,<-i];exact heap_alloc_new W1 _
 obtain⟨d0,_⟩:=kS ((b2.block D (aE m)).trans m);obtain⟨y0,y1⟩:=nM o;have h:=hid (aC b1 b2);clear b1 b2 m o;by_cases ha:a<0
 ·rw[if_pos (.inl ha)] at g;have da:decide (a<0)=true:=aN ha;clear ha;go_enter Tryz.func70,Tryz.ntmps70;go_upto_region 1 with fail;clear f d j i;go_wp2_with fail;go_ret;rw[<-g];exact⟨rfl,by first | exact h.out | exact h.out.drew⟩
 have da:decide (a<0)=false:=aJ ha;by_cases hb:b<a
 ·rw[if_pos (.inr (.inl hb))] at g;have db:decide (b<a)=true:=aN hb;clear ha hb;go_enter Tryz.func70,Tryz.ntmps70;go_upto_region 1 with fail;clear f d j i;go_wp2_with fail;go_ret;rw[<-g];exact⟨rfl,by first | exact h.out | exact h.out.drew⟩
 have db:decide (b<a)=false:=aJ hb;by_cases hc:(s.length:Int)<b
 ·rw[if_pos (.inr (.inr hc))] at g;have dc:decide ((s.length:Int)<b)=true:=aN hc;clear ha hb hc;go_enter Tryz.func70,Tryz.ntmps70;go_upto_region 1 with fail;clear f d j i;go_wp2_with fail;go_ret;rw[<-g];exact⟨rfl,by first | exact h.out | exact h.out.drew⟩
 have dc:decide ((s.length:Int)<b)=false:=aJ hc;rw[if_neg (by omega)] at g;obtain⟨a,rfl⟩: ∃k:Nat,a=k:=⟨a.toNat,by omega⟩;obtain⟨b,rfl⟩: ∃k:Nat,b=k:=⟨b.toNat,by omega⟩;have hab:(a:Int)<=(b:Int):=by omega
 have hbl:(b:Int)<=(s.length:Int):=by omega
 have ha0:(0:Int)<=(a:Int):=by omega
 have hb0:(0:Int)<=(b:Int):=by omega
 have l:=aDN s a b;rw[g] at l;clear ha hb hc;go_enter Tryz.func70,Tryz.ntmps70;go_upto_region 1 with fail;clear f d j i;go_wp2_with fail;go_ret;exact⟨by first | rw[l] | simp[l],by first | exact h.out | exact h.out.drew⟩
abbrev Sc (x:aM) (kv:Value):Value:= .agg #[.int .i64 (x.kind:Int), .int .i64 x.ind, .int .i64 (x.fr:Int), .int .i64 (x.til:Int), .int .i64 x.kf, .int .i64 x.kt, .int .i64 x.rf, .int .i64 x.rt,kv]
theorem aDO (s:aA) (pl:Option Addr) (n cl:Nat) (nv:Value) (hnv: ∃p n c,nv= .slice p n c) (x:aM) (kv:Value) (hkv: ∃p n c,kv= .slice p n c) (w:World) (hn:n<=1073741824) (hncl:n<=cl) (hpl:pl=none->n=0) (hfr:x.fr<=1073741824) (htil:x.til<=1073741824):
  Calls Tryz.prog 116 #[.agg #[.string (bs s), .slice pl n cl,nv],Sc x kv] w λe w'=>Below w.heap.size w w'/\e= .returned (if min x.til n<=x.fr+1 then .slice none 0 0 else .slice (pl.map λa=>a.add ((x.fr+1)*10)) (min x.til n-(x.fr+1)) (cl-(x.fr+1))):=by
 obtain⟨R,t⟩: ∃R:Value,(if min x.til n<=x.fr+1 then .slice none 0 0 else .slice (pl.map λa=>a.add ((x.fr+1)*10)) (min x.til n-(x.fr+1)) (cl-(x.fr+1)))=R:=⟨_,rfl⟩;rw[t];have u:=hid t;clear t;obtain⟨pn,nn,cn,rfl⟩:=hnv;obtain⟨pk,nk,ck,rfl⟩:=hkv;obtain⟨W1,i⟩:=exQ<|w.alloc (.cells #[.string (bs s), .slice pl n cl, .slice pn nn cn] 45);obtain⟨D,y⟩:=exQ<|w.heap.size;have b1:Below w.heap.size w W1:=by rw[<-i];exact aH _ _
 have m:W1.heap[D]?=some (.cells #[.string (bs s), .slice pl n cl, .slice pn nn cn] 45):=by rw[<-i,<-y];exact heap_alloc_new w _
 obtain⟨W2,g⟩:=exQ<|W1.alloc (.cells #[.int .i64 (x.kind:Int), .int .i64 x.ind, .int .i64 (x.fr:Int), .int .i64 (x.til:Int), .int .i64 x.kf, .int .i64 x.kt, .int .i64 x.rf, .int .i64 x.rt, .slice pk nk ck] 100);obtain⟨S,v⟩:=exQ<|W1.heap.size;have b2:Below W1.heap.size W1 W2:=by rw[<-g];exact aH _ _
 have r:W2.heap[S]?=some (.cells #[.int .i64 (x.kind:Int), .int .i64 x.ind, .int .i64 (x.fr:Int), .int .i64 (x.til:Int), .int .i64 x.kf, .int .i64 x.kt, .int .i64 x.rf, .int .i64 x.rt, .slice pk nk ck] 100):=by rw[<-g,<-v];exact heap_alloc_new W1 _
 obtain⟨d0,d1,d2,_⟩:=kS ((b2.block D (aE m)).trans m);obtain⟨y0,y1,y2,y3,y4,y5,y6,y7,y8⟩:=qU r;have o:=hid (aC b1 b2);clear b1 b2 m r;go_enter Tryz.func116,Tryz.ntmps116;go_upto_region 1 with fail;clear i g y v;obtain⟨f1,k⟩:=exQ<|x.fr+1;have l:(x.fr:Int)+1=(f1:Int):=by omega
 obtain⟨fr,d⟩:=exQ<|x.fr;obtain⟨til,b⟩:=exQ<|x.til;rw[b] at htil y3;rw[d] at l hfr y2;have q:=hid (aT k (aT d b));clear k d b;go_region
 all_goals
  obtain⟨tm,h⟩: ∃tm:Nat,min til n=tm:=⟨_,rfl⟩;have htmz:min (til:Int) (n:Int)=(tm:Int):=by omega
  have j:=hid h;by_cases hle:tm<=f1
  ·have dle:decide ((tm:Int)<=(f1:Int))=true:=aN (by omega);have dle2:decide (tm<=f1)=true:=aN hle;have f:=hid hle;clear h hle;go_wp2_with fail;go_ret;refine⟨by first | exact o.out | exact o.out.drew,?_⟩;rw[<-u.out,q.out.1,q.out.2.2,j.out,if_pos f.out];rfl
  ·have dle:decide ((tm:Int)<=(f1:Int))=false:=aJ (by omega);have dle2:decide (tm<=f1)=false:=aJ hle;have m:(f1:Int)<=(tm:Int):=(by omega);have r:(tm:Int)<=(cl:Int):=(by omega);have h3:(0:Int)<=(f1:Int):=(by omega);have h4:(0:Int)<=(tm:Int):=(by omega);have h1n:f1<=tm:=(by omega);have h2n:tm<=cl:=(by omega);obtain⟨pa,rfl⟩: ∃a,pl=some a:=by
    cases pl with
    | none=>have:=hpl rfl;omega
    | some a=>exact⟨a,rfl⟩
   have f:=hid hle;clear h hle;go_wp2_with fail
   all_goals
    go_ret;refine⟨by first | exact o.out | exact o.out.drew,?_⟩;rw[<-u.out,q.out.1,q.out.2.2,j.out,if_neg f.out]
    first | rfl | (exfalso;have:=f.out;omega)
end Go.Proofs.YtjnooaljcgkfpaaGreatDoor
