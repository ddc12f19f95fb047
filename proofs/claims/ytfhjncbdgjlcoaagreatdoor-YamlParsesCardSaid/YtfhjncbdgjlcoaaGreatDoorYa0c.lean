import Derived.Test.YtfhjncbdgjlcoaaGreatDoorYa0a
set_option maxRecDepth 100000
namespace Go.Proofs.YtfhjncbdgjlcoaaGreatDoor
variable{P:Prop}
theorem p7(h:P:=by
 first
 |first|have _:=wg|have _:=wi
  intro Pr k kf kt st lev w h hk1l hw hl
 |skip
 have hsp:=hsp0;have hkl:k<st.lines.length:=a_
 first
 |first|have _:=wg|have _:=wi
  obtain⟨R,G⟩:=exQ<|qZ txt sp B lv k kf kt st;rw[G];unfold qZ at G
 |obtain⟨R,G⟩:=exQ<|oE txt sp V lv k kf kt st
  rw[G];unfold oE at G
 have bz:=jY hkl;obtain⟨r,hr⟩:=exQ<|aS st.lines k;rw[hr] at bz G;have hll:=hw.ls.1;have AB:=hw.tot;have eL:=hw.ls.2 k hkl;rw[hr] at eL;obtain⟨n,dv⟩:=exQ<|st.lines.length;have b1:=aL w (.cells #[kf,kt] 42);have d8:=heap_alloc_new w (.cells #[kf,kt] 42);have dx:=h.put b1 (aD _) d8;have ek: ∀q o,Pr q=some o->(Pr.put w.heap.size (.cells #[kf,kt] 42)) q=some o:=aJ.put_less (λq o Z=>h.frLt q o Z) (aD _);obtain⟨X1,fE⟩:=exQ<|w.heap.size;obtain⟨W1,bo⟩:=exQ<|w.alloc (.cells #[kf,kt] 42);rw[bo] at d8 dx;rw[fE] at d8 dx ek;have b2:=aL W1 (.cells (lineA r) 68);have em:=heap_alloc_new W1 (.cells (lineA r) 68);have ei:=dx.put b2 (aD _) em;have iG: ∀q o,(Pr.put X1 (.cells #[kf,kt] 42)) q=some o->((Pr.put X1 (.cells #[kf,kt] 42)).put W1.heap.size (.cells (lineA r) 68)) q=some o:=aJ.put_less (λq o Z=>dx.frLt q o Z) (aD _);have gm:(W1.alloc (.cells (lineA r) 68)).heap[X1]?=some (.cells #[kf,kt] 42):=(b2.block _ (aF d8)).trans d8;obtain⟨z,sv,lvv,nv,hz,hK⟩:=dx;obtain⟨gl,cl,e9,_,I⟩:=hK.lineAt bz;subst e9;obtain⟨⟨_,_,c2,_⟩,_⟩:=hK.cells;have hPl:=hK.lt;have g0:=I 0 _ a_ rfl;have g1:=I 1 _ a_ rfl;have g2:=I 2 _ a_ rfl;have g3:=I 3 _ a_ rfl;have g4:=I 4 _ a_ rfl;have g5:=I 5 _ a_ rfl;have g6:=I 6 _ a_ rfl;have g7:=I 7 _ a_ rfl;have g8:=I 8 _ a_ rfl;have g9:=I 9 _ a_ rfl;simp only[Nat.add_zero] at g0;rw[dv] at c2;have gC:(0:Int)<=(k:Int):=a_
 have ge:(k:Int)<(n:Int):=a_
 obtain⟨X2,gq⟩:=exQ<|W1.heap.size;obtain⟨W2,aY⟩:=exQ<|W1.alloc (.cells (lineA r) 68);rw[aY] at ei em gm;rw[gq] at ei em iG;unfold lineA at aY
 first|have _:=wj;simp only[] at G|skip
 have bN:=hid ei;have dn:=hid (aK gm em);have ap:=hid (λq o Z=>iG q o (ek q o Z));have HR:=hid G;have HW:=hid hw;have cC:=hid hsp;have HK:=hid (aK hr bz);have tn:=hid dv;clear hK hz I ei d8 gm em b1 b2 ek iG G hw hsp bz hr h;obtain⟨al,dC⟩: ∃al:aJ,((Pr.put X1 (.cells #[kf,kt] 42)).put X2 (.cells (lineA r) 68))=al:=⟨_,rfl⟩;have bK:=hid (aJ.put_eq (Pr.put X1 (.cells #[kf,kt] 42)) X2 (.cells (lineA r) 68))
 first
 |first|have _:=wg|have _:=wi
  have nX:al X1=some (.cells #[kf,kt] 42):=by
   rw[<-dC,aJ.put_ne _ _ (show X1≠X2 by have:=aF dn.out.1;have h2:=aF dn.out.2;intro e;have e1:=dn.out.1;rw[e,dn.out.2] at e1;injection e1 with e1;injection e1 with _ e1;exact absurd e1 b_)];exact aJ.put_eq _ _ _
  have fT:=hid nX
 |skip
 rw[dC] at bK bN ap
 first
 |first|have _:=wg|have _:=wi
  obtain⟨t,ht⟩:=exQ<|eQ txt r.rf r.rt;have G:=HR.out;rw[ht] at G;have r8:=hid G;obtain⟨q1,q2,q3⟩:=eL.rst
 |skip
 first
 |have _:=wg;have gx:Hid (∀w',YJ YP al w0 P txt sp st 0 0 w'->Calls Tryz.prog 107 #[some P, .agg #[r.rf,r.rt]] w' λe w2=>e= .returned (.string (bs t))/\Below w'.heap.size w' w2):=hid (λw' hj=>by have:=As r.rf r.rt w' hj q1 q2 q3 a_;rw[ht] at this;exact this)
 |have _:=wi;obtain⟨rf,jT⟩: ∃n:Nat,r.rf=n:=⟨r.rf.toNat,a_⟩;obtain⟨rt,kb⟩: ∃n:Nat,r.rt=n:=⟨r.rt.toNat,a_⟩;have mQ:(bs txt).extract rf rt=bs t:=by rw[<-ht,jT,kb,gL,aQ];rfl
  have qb:(rf:Int)<=(rt:Int):=a_
  have df:(rt:Int)<=(txt.length:Int):=a_
  have tM:=aM txt
 |skip
 first
 |first|have _:=wg|have _:=wi
  have ct:=hid hk1l
 |skip
 first|have _:=wg;have wL:Hid (∀w',YJ YP al w0 P txt sp st 0 0 w'->True):=hid (λ_ _=>trivial)|have _:=wi;have wL:Hid (∀w',YJ YQ al w0 P txt sp st 0 0 w'->True):=hid (λ_ _=>trivial)|skip
 obtain⟨y0,y1⟩:=jG dn.out.1;have gr:bF W2 X2 r:=dn.out.2;obtain⟨l0,l1,l2,l3,l4,l5,l6,l7,l8,l9,_⟩:=gr.cells
 first
 |have _:=wg;clear G ht q1 q2 q3 dC gr nX;go_enter Tryz.func106,Tryz.ntmps106
 |have _:=wi;obtain⟨z',u0,ot,zJ,_,kX⟩:=bN.out;have p0:=kX.cells.1.1;rw[jT] at l6;rw[kb] at l7;have tL:=hid jT;clear G ht q1 q2 q3 dC gr nX jT kb kX;go_enter Tryz.func40,Tryz.ntmps40
 |have rp:k<sp.length:=by have:=HW.out.ls.1;omega
  have dU:=hid hkl;have ct:=hid hk1l;have fT:Hid (al X1=some (.cells #[kf,kt] 42)):=hid (by rw[<-dC,aJ.put_ne _ _ (show X1≠X2 by have:=aF dn.out.1;have h2:=aF dn.out.2;intro e;have e1:=dn.out.1;rw[e,dn.out.2] at e1;injection e1 with e1;injection e1 with _ e1;exact absurd e1 b_)];exact aJ.put_eq _ _ _);clear dC gr;obtain⟨X3,eB⟩:=exQ<|W2.heap.size;have b3:=aL W2 (.cells #[(2:Int),r.ind,k,(0:Int),kf,kt,(0:Int),(0:Int),()] 45);have eM:=heap_alloc_new W2 (.cells #[(2:Int),r.ind,k,(0:Int),kf,kt,(0:Int),(0:Int),()] 45);obtain⟨W3,a6⟩:=exQ<|W2.alloc (.cells #[(2:Int),r.ind,k,(0:Int),kf,kt,(0:Int),(0:Int),()] 45);rw[a6] at b3 eM;rw[eB] at eM;have p5:=hid (bN.out.keep b3);have rl:bF W3 X2 r:=p5.out.at_ bK.out;obtain⟨m0,m1,m2,m3,m4,m5,m6,m7,m8,m9,_⟩:=rl.cells;obtain⟨z0,z1⟩:=jG (p5.out.at_ fT.out);have bf:=hid b3;have ec:=hid eM;have jR:=hid eB;clear b3 eM rl;go_enter Tryz.func44,Tryz.ntmps44
 go_upto_region 2 with fail;clear bo fE aY gq c2 g0 g1 g2 g3 g4 g5 g6 g7 g8 g9 hPl
 first
 |have _:=wg;go_wp2_with fail;refine(gx.out _ n').mono ?_;rintro e w4 ⟨rfl,ie⟩;have bu:=hid (bN.out.keep (by first | exact ie | exact aC (aB _ _).drew ie));clear ie y0 y1 l0 l1 l2 l3 l4 l5 l6 l7 l8 l9
 |have _:=wi;go_region;have bu:=hid (bN.out.keep (aB _ W2).drew);obtain⟨W4,du⟩:=exQ<|W2.drew;rw[du] at bu ⊢;clear y0 y1 l0 l1 l2 l3 l4 l5 l6 l7 l8 l9 p0 du mQ qb df
 |skip
 first
 |first|have _:=wg|have _:=wi
  obtain⟨y0,y1⟩:=jG (bu.out.at_ fT.out)
 |skip
 first|have _:=wi;have ri:bF W4 X2 r:=bu.out.at_ bK.out;obtain⟨_,_,_,_,_,_,l6,_⟩:=ri.cells;clear ri|skip
 first
 |first|have _:=wg|have _:=wi
  by_cases h1:t= [124]\/t= [124,45]
  ·have G:=r8.out;rw[if_pos h1] at G;obtain⟨Q,hQ⟩:=exQ<|pE txt sp lv k kf kt st;rw[hQ] at G;have bx:Hid (Q=R):=hid G
   first
   |have _:=wg;have CL:Hid (∀w',YJ YP al w0 P txt sp st 0 0 w'->Calls Tryz.prog 147 #[some P,k,lev, .agg #[kf,kt]] w' (eT YP al w0 P txt sp Q)):=hid (λw' hj=>by have:=Zy k kf kt lv lev w' hj ct.out HW.out hl hlv cC.out hs hn hV;rw[hQ] at this;exact this)
   |have CL:Hid (∀w',YJ YQ al w0 P txt sp st 0 0 w'->Calls Tryz.prog 70 #[some P,k,lev, .agg #[kf,kt]] w' (eT YQ al w0 P txt sp Q)):=hid (λw' hj=>by have:=aAQ k kf kt lv lev w' hj ct.out HW.out hl hlv cC.out hs hn;rw[hQ] at this;exact this)
   clear G hQ;by_cases h2:t= [124]
   ·have d1:=tF h2;clear h1 h2;exact ib
   ·have d1:=rI h2;have d2:=tF (h1.resolve_left h2);clear h1 h2;exact ib
  have d1:=rI (λe=>h1 (.inl e):t≠ [124]);have d2:=rI (λe=>h1 (.inr e):t≠ [124,45]);by_cases h3:t= [];rotate_left
  ·have G:=r8.out;rw[if_neg h1,if_neg h3] at G;have d3:=rI h3;have Am:(bs t).toList.isEmpty=false:=by rw[Lib.toList_data,aQ];cases t with | nil=>exact absurd rfl h3 | cons _ _=>rfl
   obtain⟨Q,hQ⟩:=exQ<|jW txt lv k kf kt st;rw[hQ] at G;have bx:Hid (Q=R):=hid G
   first
   |have _:=wg;have CL:Hid (∀w',YJ YP al w0 P txt sp st 0 0 w'->Calls Tryz.prog 75 #[some P,k,lev, .agg #[kf,kt]] w' (eT YP al w0 P txt sp Q)):=hid (λw' hj=>by have:=Bk k kf kt lv lev w' hj EP HW.out hl hlv cC.out hs hn hV;rw[hQ] at this;exact this)
   |have CL:Hid (∀w',YJ YQ al w0 P txt sp st 0 0 w'->Calls Tryz.prog 37 #[some P,k,lev, .agg #[kf,kt],r.rf] w' (eT YQ al w0 P txt sp Q)):=hid (λw' hj=>by have:=(Bm k kf kt lv lev w' hj EP HW.out hl hlv cC.out hs hn hV HRd.out).mono (λe w2 hE=>hE.any);rw[hQ,HK.out.1] at this;exact this)
   clear G hQ h1 h3;exact ib
  have G:=r8.out;rw[if_neg h1,if_pos h3] at G;have d3:=tF h3;have Am:(bs t).toList.isEmpty=true:=by rw[Lib.toList_data,aQ,h3];rfl
  clear h1;obtain⟨k1,eu⟩:=exQ<|k+1;have fK:(k:Int)+1=(k1:Int):=a_
  have HK1e:=hid eu;rw[eu] at G;obtain⟨N,hN⟩:=exQ<|fR txt sp k1 st.lines;have bd:=oH (k:=k1) hsp0 a_ HW.out.ls (λi a b=>by omega);rw[hN] at G bd
 |skip
 first|have _:=wg;have CN:Hid (∀w',YJ YP al w0 P txt sp st 0 0 w'->Calls Tryz.prog 42 #[some P,k1] w' (rD YP al w0 P txt sp st N)):=hid (λw' hj=>by have:=Fg k1 w' hj a_ HW.out.ls.1 hs hn hV;rw[hN] at this;exact this)|have _:=wi;have CN:Hid (∀w',YJ YQ al w0 P txt sp st 0 0 w'->Calls Tryz.prog 20 #[some P,k1] w' (rD YQ al w0 P txt sp st N)):=hid (λw' hj=>by have:=Be k1 w' hj a_ HW.out.ls.1 hs hn;rw[hN] at this;exact this)|skip
 first
 |first|have _:=wg|have _:=wi
  clear hN eu h3;cases N with
  | bad a er=>
   have bx:Hid (YR.bad a er=R):=hid G;clear G bd;go_wp2_with fail;refine(CN.out _ g_).mono ?_;rintro e w5 ⟨⟨m,rfl⟩,an⟩;have HF:=hid (an.less ap.out);exact mz
  | ok nx ls=>
   simp only[] at G bd;have uL:eS txt sp ⟨ls,st.nodes,st.total⟩:=⟨bd.ok,HW.out.tot⟩;have lh:=hid uL;have fH:=hid bd;first|have _:=wi;have vH:Hid (aS ls k=r):=hid (by obtain⟨m,e⟩:=bd.pre;rw[e,Ep EP];exact HK.out.1)|skip
   have qQ:(0:Int)<=(nx:Int):=a_;have kl:=hid G;clear G bd uL;go_wp2_with fail;refine(CN.out _ g_).mono ?_;rintro e w5 ⟨rfl,fu⟩;have cw:=hid fu;first|have _:=wg;clear fu y0 y1|clear fu y0 y1 l6
   go_upto_region 10 with fail;obtain⟨W0,ai⟩:=exQ<|w5.drew;have bH:=cw.out.keep (aB _ w5).drew;rw[ai] at bH;have bn:=hid bH
   first|have _:=wg;have fk:Hid (∀w',Below W0.heap.size W0 w'->Calls Tryz.prog 43 #[some P,nx] w' λe w2=>e= .returned (.bool (decide (nx<sp.length)))/\Below w'.heap.size w' w2):=hid (λw' hb=>wF nx w' (bn.out.keep hb));clear bH|obtain⟨z',u0,ot,zJ,_,kX⟩:=bH;obtain⟨ps,cs,rfl⟩:=kX.spSlice;have xp:Hid (∀w',Below W0.heap.size W0 w'->w'.cell? ⟨P,1,none⟩=some (.slice ps sp.length cs)):=hid (λw' hb=>(kX.keep hb).cells.1.2.1);clear kX
   by_cases aw:nx<sp.length;rotate_left
   ·have G:=kl.out;rw[if_neg (λe=>aw e.1)] at G;first|have _:=wi;have yC:decide ((nx:Int)<(sp.length:Int))=false:=aG a_;have vc:decide (nx<sp.length)=false:=aG aw;have gi:=xp|skip
    obtain⟨Q,hQ⟩:=exQ<|jW txt lv k kf kt ⟨ls,st.nodes,st.total⟩;rw[hQ] at G;have bx:Hid (Q=R):=hid G
    first
    |have _:=wg;have CL:Hid (∀w',YJ YP al w0 P txt sp ⟨ls,st.nodes,st.total⟩ 0 0 w'->Calls Tryz.prog 75 #[some P,k,lev, .agg #[kf,kt]] w' (eT YP al w0 P txt sp Q)):=hid (λw' hj=>by have:=Bk (st:=⟨ls,st.nodes,st.total⟩) k kf kt lv lev w' hj v_ lh.out hl hlv cC.out hs hn hV;rw[hQ] at this;exact this);have CT:Hid (∀w',Below W0.heap.size W0 w'->Calls Tryz.prog 43 #[some P,nx] w' λe w2=>e= .returned (.bool false)/\Below w'.heap.size w' w2):=hid (λw' hb=>by have:=fk.out w' hb;rw[aG aw] at this;exact this);clear G hQ aw fk;refine lX [45,46,47,48,49,50,51,52,53,54,55,56,57,58,59,60] 75 [some P,nx,false,false,undef,undef,undef,undef,undef,undef,undef,undef,undef,undef,undef,false] (λw'=>Below W0.heap.size W0 w') [2,0,1,3,15,4,5,6,7,8,9,10,11,12,13,14] i_ ?_ ?_
    |have CL:Hid (∀w',YJ YQ al w0 P txt sp ⟨ls,st.nodes,st.total⟩ 0 0 w'->Calls Tryz.prog 37 #[some P,k,lev, .agg #[kf,kt],r.rf] w' (eT YQ al w0 P txt sp Q)):=hid (λw' hj=>by have:=(Bm (st:=⟨ls,st.nodes,st.total⟩) k kf kt lv lev w' hj v_ lh.out hl hlv cC.out hs hn hV HRd.out).mono (λe w2 hE=>hE.any);rw[hQ] at this;simp only[] at this;rw[vH.out] at this;exact this);clear G hQ aw;refine lX [66,67,68,69,70,71,72,73,74,75,76,77,78,79,80,81,82,83,84,85] 103 [nx,some P,some P, .pointer (some ⟨P,1,none⟩), .slice ps sp.length cs,sp.length,false,false,undef,undef,undef,undef,undef,undef,undef,undef,undef,undef,undef,false] (λw'=>Below W0.heap.size W0 w') [0,1,2,3,4,5,6,7,19,8,9,10,11,12,13,14,15,16,17,18] i_ ?_ ?_
    ·intro d a w' iq o' hO ho hi E aa F R' G;first|have _:=wg;have Z:=eA aa [(0,some P),(10,some X2),(11,nx)] rfl rfl;have hc:=F.all [(0,45),(1,46),(2,47),(3,48),(14,59)] b_|have Z:=eA aa [(0,some P),(10,some X2),(12,nx)] rfl rfl;have hc:=F.all [(0,66),(1,67),(2,68),(3,69),(4,70),(5,71),(6,72),(7,73),(18,84)] b_
     dsimp only[dX,dT,lk] at Z hc;clear aa;first|have _:=wi;have p1:=gi.out _ F.st|skip
     repeat' rcases hO with _ | ⟨_,hO⟩
     all_goals (simp only[dA,cR,bZ,cG] at ho;subst ho;try simp[Region.binds] at E)
     first
     |have _:=wg
      ·exact pf
      iterate 4 (refine jF ?_;go_simp;exact G _ _ F.sp)
     |iterate 9 (refine jF ?_;go_simp;exact G _ _ F.sp)
     iterate 11 exact F.sk G (hd:=by simp[E])
    intro wz hS;simp only[jE,dF,cP,dG];have ft:=hid (bn.out.keep hS);obtain⟨y0,y1⟩:=jG (ft.out.at_ fT.out);first|have _:=wi;have jB:bF wz X2 r:=ft.out.at_ bK.out;obtain⟨_,_,_,_,_,_,l6,_⟩:=jB.cells;clear jB|skip
    exact ig
   ·obtain⟨cJ,fJ⟩:=fH.out.hit aw;first|have _:=wg;have CT:Hid (∀w',Below W0.heap.size W0 w'->Calls Tryz.prog 43 #[some P,nx] w' λe w2=>e= .returned (.bool true)/\Below w'.heap.size w' w2):=hid (λw' hb=>by have:=fk.out w' hb;rw[aO aw] at this;exact this)|have yC:decide ((nx:Int)<(sp.length:Int))=true:=aO a_;have vc:decide (nx<sp.length)=true:=aO aw
    obtain⟨i2,fh⟩:=exQ<|(aS ls nx).ind;obtain⟨bb,eb⟩:=exQ<|decide (r.ind<i2);obtain⟨m2,dK⟩:=exQ<|ls.length;obtain⟨z,sv,lvv,nv,hz,hK⟩:=bn.out;have ce:=jY (show nx<ls.length by omega);obtain⟨g2,cO,e9,_,I⟩:=hK.lineAt ce;subst e9
    first
    |have _:=wg;have gi:Hid (∀w',Below W0.heap.size W0 w'->w'.cell? ⟨P,2,none⟩=some (.slice (some ⟨g2,0,none⟩) m2 cO)/\w'.cell? ⟨g2,nx*10+3,none⟩=some (.int .i64 i2)/\w'.cell? ⟨X2,3,none⟩=some (.int .i64 r.ind)):=hid (λw' hb=>by have av:=hK.keep hb;obtain⟨⟨_,_,c2,_⟩,_⟩:=av.cells;have kh:bF w' X2 r:=(bn.out.keep hb).at_ bK.out;obtain⟨_,_,_,b3,_⟩:=kh.cells;obtain⟨g3,pJ,e3,_,dq⟩:=av.lineAt ce;have e4:=(Value.slice.inj e3).1;injection e4 with e4;injection e4 with e4;subst e4;have h3:=dq 3 _ a_ rfl;rw[fh] at h3;simp only[dK] at c2;exact⟨c2,h3,b3⟩)
    |have gi:Hid (∀w',Below W0.heap.size W0 w'->w'.cell? ⟨P,1,none⟩=some (.slice ps sp.length cs)/\w'.cell? ⟨P,2,none⟩=some (.slice (some ⟨g2,0,none⟩) m2 cO)/\w'.cell? ⟨g2,nx*10+3,none⟩=some (.int .i64 i2)/\w'.cell? ⟨X2,3,none⟩=some (.int .i64 r.ind)):=hid (λw' hb=>by have av:=hK.keep hb;obtain⟨⟨_,_,c2,_⟩,_⟩:=av.cells;have kh:bF w' X2 r:=(bn.out.keep hb).at_ bK.out;obtain⟨_,_,_,b3,_⟩:=kh.cells;obtain⟨g3,pJ,e3,_,dq⟩:=av.lineAt ce;have e4:=(Value.slice.inj e3).1;injection e4 with e4;injection e4 with e4;subst e4;have h3:=dq 3 _ a_ rfl;rw[fh] at h3;simp only[dK] at c2;exact⟨xp.out w' hb,c2,h3,b3⟩)
    have qe:(nx:Int)<(m2:Int):=a_;have gW:=hid (aK fh eb);have eX:=hid (aK cJ fJ);have j3:=hid aw
    first
    |have _:=wg;clear hK hz I ce dK fh cJ fJ fk aw;refine lX [45,46,47,48,49,50,51,52,53,54,55,56,57,58,59,60] 75 [some P,nx,true,true,some P,some P, .pointer (some ⟨P,2,none⟩), .slice (some ⟨g2,0,none⟩) m2 cO,nx, .pointer (some ⟨g2,nx*10,none⟩), .pointer (some ⟨g2,nx*10+3,none⟩),i2, .pointer (some ⟨X2,3,none⟩),r.ind,bb,bb] (λw'=>Below W0.heap.size W0 w') [2,0,1,3,15,4,5,6,7,8,9,10,11,12,13,14] i_ ?_ ?_
    |clear hK hz I ce dK fh cJ fJ aw;refine lX [66,67,68,69,70,71,72,73,74,75,76,77,78,79,80,81,82,83,84,85] 103 [nx,some P,some P, .pointer (some ⟨P,1,none⟩), .slice ps sp.length cs,sp.length,true,true,some P,some P, .pointer (some ⟨P,2,none⟩), .slice (some ⟨g2,0,none⟩) m2 cO,nx, .pointer (some ⟨g2,nx*10,none⟩), .pointer (some ⟨g2,nx*10+3,none⟩),i2, .pointer (some ⟨X2,3,none⟩),r.ind,bb,bb] (λw'=>Below W0.heap.size W0 w') [0,1,2,3,4,5,6,7,19,8,9,10,11,12,13,14,15,16,17,18] i_ ?_ ?_
    ·intro d a w' iq o' hO ho hi E aa F R' G;first|have _:=wg;have Z:=eA aa [(0,some P),(10,some X2),(11,nx)] rfl rfl;have hc:=F.all [(0,45),(1,46),(2,47),(3,48),(4,49),(5,50),(6,51),(7,52),(8,53),(9,54),(10,55),(11,56),(12,57),(13,58),(14,59)] b_|have Z:=eA aa [(0,some P),(10,some X2),(12,nx)] rfl rfl;have hc:=F.all [(0,66),(1,67),(2,68),(3,69),(4,70),(5,71),(6,72),(7,73),(8,74),(9,75),(10,76),(11,77),(12,78),(13,79),(14,80),(15,81),(16,82),(17,83),(18,84)] b_
     dsimp only[dX,dT,lk] at Z hc;clear aa;first|have _:=wg;obtain⟨p2,l3,x3⟩:=gi.out _ F.st|obtain⟨p1,p2,l3,x3⟩:=gi.out _ F.st
     repeat' rcases hO with _ | ⟨_,hO⟩
     all_goals (simp only[dA,cR,bZ,cG] at ho;subst ho;try simp[Region.binds] at E)
     first
     |have _:=wg
      ·exact pf
      iterate 4 (refine jF ?_;go_simp;exact G _ _ F.sp)
     |iterate 9 (refine jF ?_;go_simp;exact G _ _ F.sp)
     iterate 11 (refine F.on ?_ (hd:=by simp[E]);go_simp;exact G _ _ F.sp)
    intro wz hS;simp only[jE,dF,cP,dG];have ft:=hid (bn.out.keep hS);obtain⟨y0,y1⟩:=jG (ft.out.at_ fT.out);first|have _:=wi;have jB:bF wz X2 r:=ft.out.at_ bK.out;obtain⟨_,_,_,_,_,_,l6,_⟩:=jB.cells;clear jB|skip
    have eb:=gW.out.2;have G:=kl.out;rw[gW.out.1] at G;cases bb with
    | true=>
     rw[if_pos ⟨j3.out,of_decide_eq_true eb⟩] at G;obtain⟨Q,hQ⟩:=exQ<|B nx kf kt ⟨ls,st.nodes,st.total⟩;rw[hQ] at G;have bx:Hid (Q=R):=hid G
     first
     |have _:=wg;have CL:Hid (∀w',YJ YP al w0 P txt sp ⟨ls,st.nodes,st.total⟩ 0 0 w'->Calls Tryz.prog 44 #[some P,nx,lev, .agg #[kf,kt]] w' (eT YP al w0 P txt sp Q)):=hid (λw' hj=>by have:=IH al nx kf kt ⟨ls,st.nodes,st.total⟩ lev w' hj eX.out.1.symm lh.out hl;rw[hQ] at this;exact this)
     |have CL:Hid (∀w',YJ YQ al w0 P txt sp ⟨ls,st.nodes,st.total⟩ 0 0 w'->Calls Tryz.prog 21 #[some P,nx,lev, .agg #[kf,kt]] w' (eT YQ al w0 P txt sp Q)):=hid (λw' hj=>by have:=IH al nx kf kt ⟨ls,st.nodes,st.total⟩ lev w' hj eX.out.1.symm lh.out hl;rw[hQ] at this;exact this)
     clear G hQ eb;exact ig
    | false=>
     rw[if_neg (λe=>of_decide_eq_false eb e.2)] at G;obtain⟨Q,hQ⟩:=exQ<|jW txt lv k kf kt ⟨ls,st.nodes,st.total⟩;rw[hQ] at G;have bx:Hid (Q=R):=hid G
     first
     |have _:=wg;have CL:Hid (∀w',YJ YP al w0 P txt sp ⟨ls,st.nodes,st.total⟩ 0 0 w'->Calls Tryz.prog 75 #[some P,k,lev, .agg #[kf,kt]] w' (eT YP al w0 P txt sp Q)):=hid (λw' hj=>by have:=Bk (st:=⟨ls,st.nodes,st.total⟩) k kf kt lv lev w' hj v_ lh.out hl hlv cC.out hs hn hV;rw[hQ] at this;exact this)
     |have CL:Hid (∀w',YJ YQ al w0 P txt sp ⟨ls,st.nodes,st.total⟩ 0 0 w'->Calls Tryz.prog 37 #[some P,k,lev, .agg #[kf,kt],r.rf] w' (eT YQ al w0 P txt sp Q)):=hid (λw' hj=>by have:=(Bm (st:=⟨ls,st.nodes,st.total⟩) k kf kt lv lev w' hj v_ lh.out hl hlv cC.out hs hn hV HRd.out).mono (λe w2 hE=>hE.any);rw[hQ] at this;simp only[] at this;rw[vH.out] at this;exact this)
     clear G hQ eb;exact ig
 |have oY:=hid a6;clear a6;go_upto_region 3 with fail;rw[oY.out];go_upto_region 4 with fail;clear eB l0 l1 l2 l3 l4 l5 l6 l7 l8 l9 y0 y1;go_upto_block 0 with fail;go_cut [31,32,40,41,42,43,44,45,12] (λuF vC u9 vo kQ vw vg tQ mC wx=> ∃(map:Bool) (H:List aA->World->Prop) (kd:Nat) (ar fn:aJ),Hid (YJ YP fn w0 P txt sp st 0 0 wx)/\Hid (∀q o,Pr q=some o->ar q=some o)/\Hid (∀q o,ar q=some o->fn q=some o)/\Hid (ar X2=some (.cells (lineA r) 68))/\Hid (ar X3=some (.cells #[kd,r.ind,k,(0:Int),kf,kt,(0:Int),(0:Int),()] 45))/\Hid (∀m,lv=m+1-> ∀n,yG w0 P txt sp V map ar H mC n r.ind (lev+1))/\Hid (∀(st2:YS) (a er:Int) (w2:World),YJ YP fn w0 P txt sp st2 a er w2->H [] w2)/\Hid (∀(had:List aA) (w w':World),H had w->Below w.heap.size w w'->H had w')/\Hid ((match fM ⟨kd,r.ind,k,0,kf,kt,0,0,[]⟩ lv (wB sp st k) st with | .bad a e=>YR.bad a e | .ok n s1=>nG txt sp V map n r.ind r.kind (sp.length-k) [] k s1)=R))
  case first=>
   have b3:=bf.out;have eM:=ec.out;have eB:=jR.out;by_cases h5:r.kind=5
   ·have d5:(r.kind==5)=true:=by rw[h5];rfl
    have G:=HR.out;rw[if_pos h5] at G;obtain⟨Q,hQ⟩:=exQ<|jW txt lv k kf kt st;rw[hQ] at G;have bx:Hid (Q=R):=hid G;have CL:Hid (∀w',YJ YP al w0 P txt sp st 0 0 w'->Calls Tryz.prog 75 #[some P,k,lev, .agg #[kf,kt]] w' (eT YP al w0 P txt sp Q)):=hid (λw' hj=>by have:=Bk k kf kt lv lev w' hj dU.out HW.out hl hlv cC.out hs hn hV;rw[hQ] at this;exact this);clear G hQ h5 b3 eM eB;go_wp2_with fail;refine(CL.out _ (by first | exact p5.out | exact p5.out.keep (aB _ _).drew)).mono ?_;exact az
   ·have d5:(r.kind==5)=false:=aE.2 h5;by_cases hkd:r.kind=4
    ·have d4:(r.kind==4)=true:=by rw[hkd];rfl
     obtain⟨B,ui⟩:=exQ<|W3.heap.size;have b4:=aL W3 (.map #[] 0);have sS:HM B [] (W3.alloc (.map #[] 0)):=by rw[<-ui];exact World.ownsMap_made W3 _ _ _
     obtain⟨W4,du⟩:=exQ<|W3.alloc (.map #[] 0);have yQ:B<W4.heap.size:=by rw[<-du,<-ui];simp
     rw[du] at b4 sS;obtain⟨CX,mj⟩:=exQ<|W4.heap.size;have b5:=aL W4 (.cells #[some P] 64);have oh:=heap_alloc_new W4 (.cells #[some P] 64);have tb:(W4.alloc (.cells #[some P] 64)).heap.size=W4.heap.size+1:=e_;obtain⟨W5,kj⟩:=exQ<|W4.alloc (.cells #[some P] 64);rw[kj] at b5 oh tb;have b6:=aL W5 (.cells #[.map (some B)] 124);have o6:=heap_alloc_new W5 (.cells #[.map (some B)] 124);obtain⟨W6,xN⟩:=exQ<|W5.alloc (.cells #[.map (some B)] 124);rw[xN] at b6 o6;rw[tb,mj] at o6;rw[mj] at oh;have CM:=hid (aBc P B W4);rw[kj,xN,mj] at CM;have pm:=aC b5 b6;have vB:=aC (aC b3 b4) pm;have kD:X3<W3.heap.size:=aF eM;have mU:W6.heap[X3]?=some (.cells #[(2:Int),r.ind,k,(0:Int),kf,kt,(0:Int),(0:Int),()] 45):=(pm.block _ (by have:=b4.size;omega)).trans ((b4.block _ kD).trans eM);have lS:HM B [] W6:=sS.same (pm.block B yQ);obtain⟨W7,kV⟩:=exQ<|W6.setCell ⟨X3,0,none⟩ (.int .i64 3);have uK:Below W2.heap.size W2 W7:=by rw[<-kV];exact vB.setCell (show W2.heap.size<=X3 by omega) _
     have kN: ∀q,q≠X3->W7.heap[q]?=W6.heap[q]?:=λq Z=>by rw[<-kV];exact eC W6 ⟨X3,0,none⟩ _ q Z
     have rj:W7.heap[X3]?=some (.cells #[(3:Int),r.ind,k,(0:Int),kf,kt,(0:Int),(0:Int),()] 45):=by rw[<-kV];exact aBf mU
     have sU:B≠X3:=a_;have mS:CX≠X3:=by have:=b4.size;omega
     have lY:CX+1≠X3:=by have:=b4.size;omega
     have qP:CX≠B:=a_;have rh:CX+1≠B:=a_;have qr:W7.heap[CX]?=some (.cells #[some P] 64):=(kN _ mS).trans ((b6.block _ (aF oh)).trans oh);have qU:W7.heap[CX+1]?=some (.cells #[.map (some B)] 124):=(kN _ lY).trans o6;have ly:HM B [] W7:=lS.same (kN B sU);obtain⟨oP,oL,ky⟩:=ly.obj;obtain⟨ar,cK⟩: ∃ar:aJ,((al.put X3 (.cells #[(3:Int),r.ind,k,(0:Int),kf,kt,(0:Int),(0:Int),()] 45)).put CX (.cells #[some P] 64)).put (CX+1) (.cells #[.map (some B)] 124)=ar:=⟨_,rfl⟩;have v7:=b3.size;have uh:=b4.size;have uy: ∀q o,ar q=some o->al q=some o\/(W2.heap.size<=q/\W7.heap[q]?=some o):=λq o Z=>by
      rw[<-cK] at Z;by_cases h1:q=CX+1
      ·subst h1;rw[aJ.put_eq] at Z;rw[<-aV Z];exact .inr ⟨a_,qU⟩
      ·rw[aJ.put_ne _ _ h1] at Z;by_cases h2:q=CX
       ·subst h2;rw[aJ.put_eq] at Z;rw[<-aV Z];exact .inr ⟨a_,qr⟩
       ·rw[aJ.put_ne _ _ h2] at Z;by_cases h3:q=X3
        ·subst h3;rw[aJ.put_eq] at Z;rw[<-aV Z];exact .inr ⟨a_,rj⟩
        ·rw[aJ.put_ne _ _ h3] at Z;exact .inl Z
     have bG:=bN.out.puts uK uy;have lV: ∀q o,al q=some o->ar q=some o:=λq o Z=>by
      have:=bN.out.frLt q o Z;rw[<-cK,aJ.put_ne _ _ (show q≠CX+1 by omega),aJ.put_ne _ _ (show q≠CX by omega),aJ.put_ne _ _ (show q≠X3 by omega)];exact Z
     have bt:=hid (λq o Z=>lV q o (ap.out q o Z));have jA:=hid (lV _ _ bK.out);have fU:Hid (ar X3=some (.cells #[(3:Int),r.ind,k,(0:Int),kf,kt,(0:Int),(0:Int),()] 45)):=hid (by rw[<-cK,aJ.put_ne _ _ (Ne.symm lY),aJ.put_ne _ _ (Ne.symm mS)];exact aJ.put_eq _ _ _);have tR:ar CX=some (.cells #[some P] 64):=by rw[<-cK,aJ.put_ne _ _ a_];exact aJ.put_eq _ _ _
     have qC:ar (CX+1)=some (.cells #[.map (some B)] 124):=by rw[<-cK];exact aJ.put_eq _ _ _
     have oN:ar B=none:=by
      rw[<-cK,aJ.put_ne _ _ (Ne.symm rh),aJ.put_ne _ _ (Ne.symm qP),aJ.put_ne _ _ sU];cases Z:al B with
      | none=>rfl
      | some o=>have:=bN.out.frLt _ _ Z;omega
     have AC:w0.heap.size<=B:=by have:=bN.out.bel.size;omega
     have gy:=hid bG;have lf:Hid (∀m,lv=m+1-> ∀n,yG w0 P txt sp V true ar (HM B) (.func (.func 110) #[] #[some CX,some (CX+1)]) n r.ind (lev+1)):=hid (λm hm n=>aBe cC.out hs hn hV (hVG a_) (IH m hm) ar n r.ind (lev+1) (hid EQ) AC oN tR qC);have A1:=hid ly;have HPB:=hid oN;have rz:=hid ky;have AF:W6.cell? ⟨X3,0,none⟩=some (.int .i64 2)/\W6.frozen? ⟨X3,0,none⟩=false:=by
      obtain⟨q0,_,_,_,_,_,_,_,_,f0,_⟩:=yB mU;exact⟨q0,f0⟩
     obtain⟨hx0c,hx0f⟩:=AF;have G:=HR.out;rw[if_neg h5,if_pos hkd,aO hkd] at G;have i7:=hid G;have hmm:= @run_makeMap Tryz.prog;have wQ:=hid (bG.putMap (b:=B) (es:=oP) (c:=oL) ky);have un:=hid (aJ.put_lessN (o:= .map oP oL) oN);have xe:Hid (∀(st2:YS) (a er:Int) (w2:World),YJ YP (ar.put B (.map oP oL)) w0 P txt sp st2 a er w2->HM B [] w2):=hid (λst2 a er w2 hj=>A1.out.same ((hj.at_ (aJ.put_eq _ _ _)).trans rz.out.symm));clear hkd h5 G eM b3 b4 b5 b6 pm vB uK bG cK sS lS ly ky oh o6 qr qU mU rj uy lV tR qC oN kN sU mS lY qP rh kD v7 uh tb eB;go_wp2_with fail;refine CM.out.mono ?_;rintro e w5 ⟨rfl,rfl⟩;go_wp2_with fail;go_meet;exact⟨true,HM B,3,ar,ar.put B (.map oP oL),wQ,bt,un,jA,fU,lf,xe,hid (λhad w w' h hb=>h.same (hb.block B h.lt)),i7⟩
    ·have d4:(r.kind==4)=false:=aE.2 hkd;have bG:=bN.out.put b3 (show W2.heap.size<=X3 by omega) eM;have bt:=hid (λq o Z=>aJ.put_less (Pr:=al) (X:=X3) (o:= .cells #[(2:Int),r.ind,k,(0:Int),kf,kt,(0:Int),(0:Int),()] 45) (λq o' Z=>bN.out.frLt q o' Z) (show W2.heap.size<=X3 by omega) q o (ap.out q o Z));have qt:=hid (λq o Z=>aJ.put_less (Pr:=al) (X:=X3) (o:= .cells #[(2:Int),r.ind,k,(0:Int),kf,kt,(0:Int),(0:Int),()] 45) (λq o' Z=>bN.out.frLt q o' Z) (show W2.heap.size<=X3 by omega) q o Z);obtain⟨ar,cK⟩: ∃ar:aJ,al.put X3 (.cells #[(2:Int),r.ind,k,(0:Int),kf,kt,(0:Int),(0:Int),()] 45)=ar:=⟨_,rfl⟩;have fU:=hid (aJ.put_eq al X3 (.cells #[(2:Int),r.ind,k,(0:Int),kf,kt,(0:Int),(0:Int),()] 45));rw[cK] at bG bt fU qt;have jA:=hid (qt.out _ _ bK.out);have gy:=hid bG;have lf:Hid (∀m,lv=m+1-> ∀n,yG w0 P txt sp V false ar HT (.func (.func 74) #[some P] #[]) n r.ind (lev+1)):=hid (λm hm n=>aBd cC.out hs hn hV (hVG a_) (IH m hm) ar n r.ind (lev+1) (hid EQ));have HH0:Hid (∀w':World,YJ YP ar w0 P txt sp st 0 0 w'-> ∀st2 a er w2,YJ YP ar w0 P txt sp st2 a er w2->HT [] w2):=hid (λ_ _ _ _ _ _ _=>trivial);have G:=HR.out;rw[if_neg h5,if_neg hkd,aG hkd] at G;have i7:=hid G;clear hkd h5 G eM b3 bG cK eB;go_wp2_with fail;go_meet;exact⟨false,HT,2,ar,ar,gy,bt,hid (λq o Z=>Z),jA,fU,lf,hid (λ_ _ _ _ _=>trivial),hid (λ_ _ _ _ _=>trivial),i7⟩
  case rest=>
   obtain⟨map,H,kd,ar,fn,ze,bt,th,jA,fU,lf,zh,rV,i7⟩:=hcut;go_upto_region 9 with fail;obtain⟨W9,lr⟩:=exQ<|wc.drew;have fm:=ze.out.keep (aB _ wc).drew;rw[lr] at fm;have ee:=hid fm;obtain⟨bg,ip⟩:=exQ<|wB sp st k;have CB:Hid (∀w',YJ YP fn w0 P txt sp st 0 0 w'->Calls Tryz.prog 46 #[some P,k] w' λe w2=>e= .returned (.int .i64 bg)/\Below w'.heap.size w' w2):=hid (λw' hj=>by have:=Fy (Pr:=fn) k w' hj rp dU.out (HW.out.ls.2 k dU.out) hs;rw[<-ip];exact this);have pO:=i7.out;rw[ip] at pO;obtain⟨A,hA⟩:=exQ<|fM ⟨kd,r.ind,k,0,kf,kt,0,0,[]⟩ lv bg st;rw[hA] at pO;have ow:Hid (∀w',YJ YP fn w0 P txt sp st 0 0 w'->Calls Tryz.prog 77 #[some P, .agg #[kd,r.ind,k,(0:Int),kf,kt,(0:Int),(0:Int),()],lev,bg] w' (rG YP fn w0 P txt sp A)):=hid (λw' hj=>by have:=Ml (Pr:=fn) ⟨kd,r.ind,k,0,kf,kt,0,0,[]⟩ lv lev bg w' hj rfl hl hlv (by have:=HW.out.tot;omega);rw[hA] at this;exact this);obtain⟨SA,ah⟩: ∃S:World->Prop,(λw'=>w'.cell? ⟨X3,0,none⟩=some (.int .i64 (kd:Int))/\w'.cell? ⟨X3,1,none⟩=some (.int .i64 r.ind)/\w'.cell? ⟨X3,2,none⟩=some (.int .i64 (k:Int))/\w'.cell? ⟨X3,3,none⟩=some (.int .i64 0)/\w'.cell? ⟨X3,4,none⟩=some (.int .i64 kf)/\w'.cell? ⟨X3,5,none⟩=some (.int .i64 kt)/\w'.cell? ⟨X3,6,none⟩=some (.int .i64 0)/\w'.cell? ⟨X3,7,none⟩=some (.int .i64 0)/\w'.cell? ⟨X3,8,none⟩=some (.slice none 0 0))=S:=⟨_,rfl⟩;have ak:Hid (∀w',Below W9.heap.size W9 w'->SA w'):=hid (λw' hb=>by rw[<-ah];exact oJ ((ee.out.keep hb).at_ (th.out _ _ fU.out)));have HA:=hid hA;have bi:=hid pO;clear pO hA ip fm;cases A with
   | bad a e=>
    have og:Hid (YR.bad a e=R):=hid bi.out;obtain⟨gb,dB⟩: ∃O:World->Prop,(λw'=>fS YP fn w0 P txt sp a e w')=O:=⟨_,rfl⟩;have CA:Hid (∀w',YJ YP fn w0 P txt sp st 0 0 w'->Calls Tryz.prog 77 #[some P, .agg #[kd,r.ind,k,(0:Int),kf,kt,(0:Int),(0:Int),()],lev,bg] w' λe w2=>e= .returned (.tuple #[(0:Int),false])/\gb w2):=hid (λw' hj=>by rw[<-dB];exact ow.out w' hj);clear ow;refine iW [47,48,49,50,51,52,53,46,54,55,13,14] [] [6] 1000000 (λ_ _=>True) 100 [some P, .agg #[kd,r.ind,k,(0:Int),kf,kt,(0:Int),(0:Int),()],lev,some P,k,bg,undef, .tuple #[(0:Int),false],(0:Int),false,(0:Int),false] SA (Bq W9 (.tuple #[(0:Int),false]) gb) [5,6,7,0,2,3,4,8,9,10,11,1] (by rw[lr];exact ak.out _ (aB _ _)) (by rw[lr];exact aB _ _) ?_ ?_
    ·intro d a w' iq o' hO ho hi E aa F R' G;have Z:=eA aa [(0,some P),(1,k),(2,lev),(11,some X3)] rfl rfl;have hc:=F.all [(7,46),(0,47),(1,48),(2,49),(3,50),(4,51),(5,52),(8,54),(9,55)] b_;dsimp only[dX,dT,lk] at Z hc;clear aa;have ha:=E;have ad:=ho
     repeat' rcases hO with _ | ⟨_,hO⟩
     all_goals (simp only[dA,cR,bZ,cG] at ho;subst ho;try simp[Region.binds] at E)
     ·exact ja
     ·exact jc
     ·have tq:Bq W9 (.tuple #[(0:Int),false]) gb 1 (a.tmps.getD 53 undef) w':=F.fin (λe he=>by simp at he;subst he;exact c_);have oB:a.tmps[53]?.getD undef= .tuple #[(0:Int),false]:=by rw[<-aI];exact tq.1
      exact ag
     iterate 8 (go_simp;exact G _ _ (F.pu ad ha))
     all_goals
      have L:=F.ea hi;rw[<-ah] at L;obtain⟨b0,b1,b2,b3,b4,b5,b6,b7,b8⟩:=L;exact ag
    intro v wz au dl;have jQ:v 53= .tuple #[(0:Int),false]:=dl.1;have jP:v 46= .tuple #[(0:Int),false]:=au 7 b_ b_ b_ b_;have jt:v 54= .int .i64 0:=au 8 b_ b_ b_ b_;have jr:v 55= .bool false:=au 9 b_ b_ b_ b_;have jl:v 13= .int .i64 0:=au 10 b_ b_ b_ b_;have jz:v 14= .bool false:=au 11 b_ b_ b_ b_;have hO:=dl.2;rw[<-dB] at hO;have HF:=hid (show fS YP fn w0 P txt sp a e wz from hO);clear dl hO au ah ak;simp only[cS,dF,cP,dG,jQ,jP,jt,jr,jl,jz];clear jQ jP jt jr jl jz;go_wp2_with fail;go_loopw [14] (λeP wr=>eP= .bool false/\wz=wr) (λ_ _=>0)
    case atStart=>exact⟨rfl,rfl⟩
    case round=>
     obtain⟨rfl,rfl⟩:=hrel;go_upto_region 10 with fail;obtain⟨W3,a6⟩:=exQ<|wz.drew;have pI:=hid ((HF.out.less (λq o Z=>th.out q o (bt.out q o Z))).keep (aB _ wz).drew);rw[a6] at pI;refine lX [56,57,58,59,60,61,62,63,64,65,66,67,68,69,70,71,72,73,74,75,76,77,78,79,80,81,82,83,84,85,86,87] 100 [false,false,undef,undef,undef,false,false,undef,undef,undef,undef,undef,undef,undef,undef,undef,undef,undef,false,false,undef,undef,undef,undef,undef,undef,undef,undef,undef,undef,undef,false] (λw'=>Below W3.heap.size W3 w') [0,1,5,6,18,19,31,2,3,4,7,8,9,10,11,12,13,14,15,16,17,20,21,22,23,24,25,26,27,28,29,30] u_ ?_ ?_
     ·exact i9
     intro wz hS;simp only[jE,dF,cP,dG];have sb:=hid (pI.out.keep hS);clear hS;go_wp2_with fail;go_ret2;rw[<-og.out];exact⟨⟨_,rfl⟩,sb.out⟩
   | ok nn s1=>
    obtain⟨e1,e2,iS,lN⟩:=uP HA.out;subst e2;obtain⟨m,hm⟩: ∃m,lv=m+1:=⟨lv-1,a_⟩;have G:=bi.out;simp only[] at G;have wW:=hid G;have wH:=hVG iS;have sE:=lf.out m hm nn;obtain⟨fQ,oo⟩:=exQ<|lev+1;have oI:IntKind.i64.wrap fQ=fQ:=by rw[IntKind.wrap_i64];have:=hl.out;omega
    rw[oo] at sE;have d9:=hid sE;obtain⟨gb,dB⟩: ∃O:World->Prop,(λw'=>YJ YP fn w0 P txt sp ⟨st.lines,st.nodes++ [⟨kd,r.ind,k,0,kf,kt,0,0,[]⟩],st.total+1⟩ 0 0 w')=O:=⟨_,rfl⟩;have CA:Hid (∀w',YJ YP fn w0 P txt sp st 0 0 w'->Calls Tryz.prog 77 #[some P, .agg #[kd,r.ind,k,(0:Int),kf,kt,(0:Int),(0:Int),()],lev,bg] w' λe w2=>e= .returned (.tuple #[nn,true])/\gb w2):=hid (λw' hj=>by rw[<-dB];exact ow.out w' hj);have vz:=hid e1;clear ow G sE e1 lf;refine iW [47,48,49,50,51,52,53,46,54,55,13,14] [] [6] 1000000 (λ_ _=>True) 100 [some P, .agg #[kd,r.ind,k,(0:Int),kf,kt,(0:Int),(0:Int),()],lev,some P,k,bg,undef, .tuple #[nn,true],nn,true,nn,true] SA (Bq W9 (.tuple #[nn,true]) gb) [5,6,7,0,2,3,4,8,9,10,11,1] (by rw[lr];exact ak.out _ (aB _ _)) (by rw[lr];exact aB _ _) ?_ ?_
    ·intro d a w' iq o' hO ho hi E aa F R' G;have Z:=eA aa [(0,some P),(1,k),(2,lev),(11,some X3)] rfl rfl;have hc:=F.all [(7,46),(0,47),(1,48),(2,49),(3,50),(4,51),(5,52),(8,54),(9,55)] b_;dsimp only[dX,dT,lk] at Z hc;clear aa;have ha:=E;have ad:=ho
     repeat' rcases hO with _ | ⟨_,hO⟩
     all_goals (simp only[dA,cR,bZ,cG] at ho;subst ho;try simp[Region.binds] at E)
     ·exact ja
     ·exact jc
     ·have tq:Bq W9 (.tuple #[nn,true]) gb 1 (a.tmps.getD 53 undef) w':=F.fin (λe he=>by simp at he;subst he;exact c_);have oB:a.tmps[53]?.getD undef= .tuple #[nn,true]:=by rw[<-aI];exact tq.1
      exact ag
     iterate 8 (go_simp;exact G _ _ (F.pu ad ha))
     all_goals
      have L:=F.ea hi;rw[<-ah] at L;obtain⟨b0,b1,b2,b3,b4,b5,b6,b7,b8⟩:=L;exact ag
    intro v wz au dl;have jQ:v 53= .tuple #[nn,true]:=dl.1;have jP:v 46= .tuple #[nn,true]:=au 7 b_ b_ b_ b_;have jt:v 54= .int .i64 (nn:Int):=au 8 b_ b_ b_ b_;have jr:v 55= .bool true:=au 9 b_ b_ b_ b_;have jl:v 13= .int .i64 (nn:Int):=au 10 b_ b_ b_ b_;have jz:v 14= .bool true:=au 11 b_ b_ b_ b_;have hO:=dl.2;rw[<-dB] at hO;have sn:YJ YP ar w0 P txt sp ⟨st.lines,st.nodes++ [⟨kd,r.ind,k,0,kf,kt,0,0,[]⟩],st.total+1⟩ 0 0 wz:=YJ.less hO th.out;have u4:(H) [] wz:=zh.out _ _ _ _ hO;have wl:eS txt sp ⟨st.lines,st.nodes++ [⟨kd,r.ind,k,0,kf,kt,0,0,[]⟩],st.total+1⟩:=⟨HW.out.ls,by have:=HW.out.tot;simp only[aT,dS];omega⟩;have oq:Hid (Br w0 P txt sp V map ar (H) nn r.ind r.kind R true k wz):=hid ⟨sp.length-k,[],_,wW.out,sn,u4,wl,λ_=>ct.out,a_,a_,⟨⟨kd,r.ind,k,0,kf,kt,0,0,[]⟩,by rw[vz.out];simp,rfl,by simp only[aT,dS,kS];have:=vz.out;omega⟩,dY _⟩;clear dl hO au ah ak sn u4 wl wW bi i7 HR CA dB CB ee lr;simp only[cS,dF,cP,dG,jQ,jP,jt,jr,jl,jz];clear jQ jP jt jr jl jz;go_wp2_with fail;go_loopw [1,14] (λs1 eP wr=>(∃k:Nat,eP= .bool true/\s1= .int .i64 (k:Int)/\k<=sp.length/\Hid (Br w0 P txt sp V map ar (H) nn r.ind r.kind R true k wr))\/(∃m:Int,eP= .bool false/\s1= .int .i64 m/\Hid (Br w0 P txt sp V map ar (H) nn r.ind r.kind R false 0 wr))) (λs1 eP _=>Fz sp.length s1 eP)
    case atStart=>exact .inl ⟨k,rfl,rfl,a_,oq⟩
    case round=>
     clear oq HK ct dU rp hkl gC ge hk1l;rcases hrel with⟨k,rfl,rfl,eH,kn⟩ | ⟨m,rfl,rfl,kn⟩;rotate_left
     ·obtain⟨a,e,gA,an⟩:=(show ∃a e,R= .bad a e/\fS YP ar w0 P txt sp a e wr from kn.out);have yU:=hid gA;go_upto_region 10 with fail;obtain⟨W3,a6⟩:=exQ<|wr.drew;have sX:=(an.less bt.out).keep (aB _ wr).drew;rw[a6] at sX;have pI:=hid sX;clear sX an gA;refine lX [56,57,58,59,60,61,62,63,64,65,66,67,68,69,70,71,72,73,74,75,76,77,78,79,80,81,82,83,84,85,86,87] 100 [false,false,undef,undef,undef,false,false,undef,undef,undef,undef,undef,undef,undef,undef,undef,undef,undef,false,false,undef,undef,undef,undef,undef,undef,undef,undef,undef,undef,undef,false] (λw'=>Below W3.heap.size W3 w') [0,1,5,6,18,19,31,2,3,4,7,8,9,10,11,12,13,14,15,16,17,20,21,22,23,24,25,26,27,28,29,30] u_ ?_ ?_
      ·exact i9
      intro wz hS;simp only[jE,dF,cP,dG];have sb:=hid (pI.out.keep hS);clear hS;go_wp2_with fail;go_ret2;rw[yU.out];exact⟨⟨_,rfl⟩,sb.out⟩
     ·obtain⟨f,had,sr,mv,ny,vU,mc,km,ju,qI,⟨x,hx,hxi,eY⟩,hhl⟩:=(show ∃f had st,nG txt sp V map nn r.ind r.kind f had k st=R/\YJ YP ar w0 P txt sp st 0 0 wr/\(H) had wr/\eS txt sp st/\(k<sp.length->k+1=st.lines.length)/\k<=sp.length/\sp.length<=k+f/\(∃x,st.nodes[nn]?=some x/\x.ind=r.ind/\x.kids.length+nn<st.nodes.length)/\had.length<=k from kn.out);have tr:(0:Int)<=(k:Int):=a_;go_upto_region 10 with fail;obtain⟨W3,a6⟩:=exQ<|wr.drew;have sH:=ny.keep (aB _ wr).drew;have sV:=rV.out had wr _ vU (aB _ wr).drew;rw[a6] at sH sV;have da:=hid sH;have yv:=hid sV;have fk:Hid (∀w',Below W3.heap.size W3 w'->Calls Tryz.prog 43 #[some P,k] w' λe w2=>e= .returned (.bool (decide (k<sp.length)))/\Below w'.heap.size w' w2):=hid (λw' hb=>wF k w' (da.out.keep hb));have iH:=hid mv;have HX:=hid (aK hx (aK hxi eY));have ji:=hid mc;clear ny vU sH sV mv hx hxi eY mc kn;by_cases aw:k<sp.length;rotate_left
      ·have bX:=iH.out;rw[wK (λh=>aw h.1)] at bX;have dw:=hid bX;have CT:Hid (∀w',Below W3.heap.size W3 w'->Calls Tryz.prog 43 #[some P,k] w' λe w2=>e= .returned (.bool false)/\Below w'.heap.size w' w2):=hid (λw' hb=>by have:=fk.out w' hb;rw[aG aw] at this;exact this);clear bX fk aw km;refine lX [56,57,58,59,60,61,62,63,64,65,66,67,68,69,70,71,72,73,74,75,76,77,78,79,80,81,82,83,84,85,86,87] 100 [true,true,some P,k,false,false,false,undef,undef,undef,undef,undef,undef,undef,undef,undef,undef,undef,false,false,undef,undef,undef,undef,undef,undef,undef,undef,undef,undef,undef,false] (λw'=>Below W3.heap.size W3 w') [4,0,1,5,6,18,19,31,2,3,7,8,9,10,11,12,13,14,15,16,17,20,21,22,23,24,25,26,27,28,29,30] u_ ?_ ?_
       ·intro d a w' iq o' hO ho hi E aa F R' G;have Z:=eA aa [(0,some P),(1,k),(10,some X2),(14,true)] rfl rfl;have hc:=F.all [(0,56),(1,57),(2,58),(3,59),(4,60),(5,61),(6,62),(17,73),(18,74),(19,75),(30,86)] b_;dsimp only[dX,dT,lk] at Z hc;clear aa
        repeat' rcases hO with _ | ⟨_,hO⟩
        all_goals (simp only[dA,cR,bZ,cG] at ho;subst ho;try simp[Region.binds] at E)
        ·exact gw
        iterate 7 (refine jF ?_;go_simp;exact G _ _ F.sp)
        iterate 2 (refine F.on ?_ (hd:=by simp[E]);go_simp;exact G _ _ F.sp)
        iterate 22 exact F.sk G (hd:=by simp[E])
       exact jy
      ·have hk1l:=km aw;have CT:Hid (∀w',Below W3.heap.size W3 w'->Calls Tryz.prog 43 #[some P,k] w' λe w2=>e= .returned (.bool true)/\Below w'.heap.size w' w2):=hid (λw' hb=>by have:=fk.out w' hb;rw[aO aw] at this;exact this);have ce:=jY (show k<sr.lines.length by omega);obtain⟨r2,jh⟩:=exQ<|aS sr.lines k;rw[jh] at ce;obtain⟨z5,uz,vu,AY,px,fi⟩:=da.out;obtain⟨g2,cO,e9,_,I⟩:=fi.lineAt ce;subst e9;obtain⟨i2,fh⟩:=exQ<|r2.ind;obtain⟨k2,lb⟩:=exQ<|r2.kind;obtain⟨m2,dK⟩:=exQ<|sr.lines.length;have gi:Hid (∀w',Below W3.heap.size W3 w'->w'.cell? ⟨P,2,none⟩=some (.slice (some ⟨g2,0,none⟩) m2 cO)/\w'.cell? ⟨g2,k*10+3,none⟩=some (.int .i64 i2)/\w'.cell? ⟨g2,k*10,none⟩=some (.int .i64 k2)/\w'.cell? ⟨X2,3,none⟩=some (.int .i64 r.ind)/\w'.cell? ⟨X2,0,none⟩=some (.int .i64 r.kind)):=hid (λw' hb=>by have av:=fi.keep hb;obtain⟨⟨_,_,c2,_⟩,_⟩:=av.cells;obtain⟨g3,pJ,e3,_,dq⟩:=av.lineAt ce;have e4:=(Value.slice.inj e3).1;injection e4 with e4;injection e4 with e4;subst e4;have h3:=dq 3 _ a_ rfl;have h0:=dq 0 _ a_ rfl;simp only[Nat.add_zero] at h0;rw[fh] at h3;rw[lb] at h0;simp only[dK] at c2;have bL:bF w' X2 r:=(da.out.keep hb).at_ jA.out;obtain⟨q0,_,_,q3,_⟩:=bL.cells;exact⟨c2,h3,h0,q3,q0⟩);have gE:(k:Int)<(m2:Int):=a_;have bY:=hid (aK fh (aK lb (aK jh hk1l)));have j3:=hid aw;have xL:=hid qI;clear fi px I ce dK fh lb jh fk km hk1l qI aw;by_cases hI:i2=r.ind;rotate_left
       ·have sh:(i2==r.ind)=false:=aE.2 hI;have bX:=iH.out;rw[wK (λh=>hI (by rw[<-bY.out.1,<-bY.out.2.2.1];exact h.2.1))] at bX;have dw:=hid bX;clear bX hI;refine lX [56,57,58,59,60,61,62,63,64,65,66,67,68,69,70,71,72,73,74,75,76,77,78,79,80,81,82,83,84,85,86,87] 100 [true,true,some P,k,true,true,true,some P,some P, .pointer (some ⟨P,2,none⟩), .slice (some ⟨g2,0,none⟩) m2 cO,k, .pointer (some ⟨g2,k*10,none⟩), .pointer (some ⟨g2,k*10+3,none⟩),i2, .pointer (some ⟨X2,3,none⟩),r.ind,false,false,false,undef,undef,undef,undef,undef,undef,undef,undef,undef,undef,undef,false] (λw'=>Below W3.heap.size W3 w') [4,17,0,1,5,6,18,19,31,2,3,7,8,9,10,11,12,13,14,15,16,20,21,22,23,24,25,26,27,28,29,30] u_ ?_ ?_
        ·intro d a w' iq o' hO ho hi E aa F R' G;have Z:=eA aa [(0,some P),(1,k),(10,some X2),(14,true)] rfl rfl;have hc:=F.all [(0,56),(1,57),(2,58),(3,59),(4,60),(5,61),(6,62),(7,63),(8,64),(9,65),(10,66),(11,67),(12,68),(13,69),(14,70),(15,71),(16,72),(17,73),(18,74),(19,75),(30,86)] b_;dsimp only[dX,dT,lk] at Z hc;clear aa;obtain⟨p2,l3,l0,x3,x0⟩:=gi.out _ F.st
         repeat' rcases hO with _ | ⟨_,hO⟩
         all_goals (simp only[dA,cR,bZ,cG] at ho;subst ho;try simp[Region.binds] at E)
         ·exact gw
         ·exact js
         iterate 7 (refine jF ?_;go_simp;exact G _ _ F.sp)
         iterate 12 (refine F.on ?_ (hd:=by simp[E]);go_simp;exact G _ _ F.sp)
         iterate 11 exact F.sk G (hd:=by simp[E])
        exact jy
       ·have sh:(i2==r.ind)=true:=(by simpa using hI);obtain⟨bb,tc⟩:=exQ (k2==r.kind);have zV:=hid hI;have uZ:=hid tc;clear hI;refine lX [56,57,58,59,60,61,62,63,64,65,66,67,68,69,70,71,72,73,74,75,76,77,78,79,80,81,82,83,84,85,86,87] 100 [true,true,some P,k,true,true,true,some P,some P, .pointer (some ⟨P,2,none⟩), .slice (some ⟨g2,0,none⟩) m2 cO,k, .pointer (some ⟨g2,k*10,none⟩), .pointer (some ⟨g2,k*10+3,none⟩),i2, .pointer (some ⟨X2,3,none⟩),r.ind,true,true,true,some P,some P, .pointer (some ⟨P,2,none⟩), .slice (some ⟨g2,0,none⟩) m2 cO,k, .pointer (some ⟨g2,k*10,none⟩), .pointer (some ⟨g2,k*10,none⟩),k2,some X2,r.kind,bb,bb] (λw'=>Below W3.heap.size W3 w') [4,17,30,0,1,5,6,18,19,31,2,3,7,8,9,10,11,12,13,14,15,16,20,21,22,23,24,25,26,27,28,29] u_ ?_ ?_
        ·intro d a w' iq o' hO ho hi E aa F R' G;have Z:=eA aa [(0,some P),(1,k),(10,some X2),(14,true)] rfl rfl;have hc:=F.all [(0,56),(1,57),(2,58),(3,59),(4,60),(5,61),(6,62),(7,63),(8,64),(9,65),(10,66),(11,67),(12,68),(13,69),(14,70),(15,71),(16,72),(17,73),(18,74),(19,75),(20,76),(21,77),(22,78),(23,79),(24,80),(25,81),(26,82),(27,83),(28,84),(29,85),(30,86)] b_;dsimp only[dX,dT,lk] at Z hc;clear aa;obtain⟨p2,l3,l0,x3,x0⟩:=gi.out _ F.st
         repeat' rcases hO with _ | ⟨_,hO⟩
         all_goals (simp only[dA,cR,bZ,cG] at ho;subst ho;try simp[Region.binds] at E)
         ·exact gw
         ·exact js
         ·have yl:=F.g 19 75 c_;have c83:=F.g 27 83 c_;have wD:=F.g 29 85 c_;refine rE yl ?_;have dd:=tc;go_simp;exact G _ _ F.sp
         iterate 7 (refine jF ?_;go_simp;exact G _ _ F.sp)
         iterate 22 (refine F.on ?_ (hd:=by simp[E]);go_simp;exact G _ _ F.sp)
        intro wz hS;simp only[jE,dF,cP,dG];have bu:=hid (da.out.keep hS);have tU:=hid (rV.out had _ _ yv.out hS);clear hS sh tc;cases bb with
        | false=>
         have bX:=iH.out;rw[wK (λh=>by have h1:=uZ.out;rw[aE] at h1;exact h1 (by rw[<-bY.out.2.1,<-bY.out.2.2.1];exact h.2.2))] at bX;have dw:=hid bX;have cw:=hid (bu.out.less bt.out);clear bX;go_wp2_with fail;go_ret2;rw[<-dw.out];exact⟨rfl,cw.out⟩
        | true=>
         obtain⟨f1,tG⟩: ∃f1,f=f1+1:=⟨f-1,by have:=xL.out;have:=j3.out;omega⟩;subst tG;have bX:=iH.out;unfold nG at bX;rw[if_pos ⟨j3.out,by rw[bY.out.2.2.1,bY.out.1];exact zV.out,by rw[bY.out.2.2.1,bY.out.2.1];exact eq_of_beq uZ.out⟩] at bX;obtain⟨Q,hQ⟩:=exQ<|iM txt sp V map nn r.ind had k sr;rw[hQ] at bX;have CO:Hid (∀w',YJ YP ar w0 P txt sp sr 0 0 w'->(H) had w'->Calls Tryz.prog 78 #[some P,nn,k,fQ,u12] w' (yF ar w0 P txt sp (H) Q)):=hid (λw' hj hh=>by have:=d9.out k sr had w' hj hh bY.out.2.2.2 ji.out ⟨x,HX.out⟩ a_;rw[hQ] at this;exact this);have dw:=hid bX;have HQ:=hid hQ;clear bX hQ;go_wp2_with fail;refine(CO.out _ g_ (by first | exact tU.out | exact rV.out _ _ _ tU.out (aB _ _).drew)).mono ?_;rintro e w7 hE;have HE:=hid hE;clear hE;cases Q with
         | bad a er=>
          obtain⟨⟨m,rfl⟩,an⟩:=HE.out;have HB:=hid an;clear an HE;go_wp2_with fail;go_roundw
          ·exact .inr ⟨m,rfl,rfl,hid ⟨a,er,dw.out.symm,HB.out⟩⟩
          ·simp only[Fz];omega
         | ok nx s2 eW=>
          obtain⟨rfl,fm,ul⟩:=(show e= .returned (.tuple #[nx,true])/\YJ YP ar w0 P txt sp s2 0 0 w7/\(H) eW w7 from HE.out);have HB:=hid (aK fm ul);clear fm ul HE;obtain⟨⟨x2,t1,t2,t3⟩,t4,t5,t6,t7,t8,t9⟩:=Mq hsp0 wH ji.out bY.out.2.2.2 HX.out.1 HQ.out;have pF:Hid (Br w0 P txt sp V map ar (H) nn r.ind r.kind R true nx w7):=hid ⟨f1,eW,s2,dw.out,HB.out.1,HB.out.2,t6,t9,t7,by have:=xL.out;omega,⟨x2,t1,t2.trans HX.out.2.1,by rw[t3];have:=HX.out.2.2;omega⟩,a_⟩;clear t1 t2 t3 t4 t5 t6 t9;go_wp2_with fail;go_roundw
          ·exact .inl ⟨nx,rfl,rfl,t7,pF⟩
          ·simp only[Fz,RowKit.intOf];omega):P:=h
theorem qf(h:P:=by
 obtain⟨i,kv,ov,rfl,hi,HC⟩:=hrel;obtain⟨⟨x0,x1,x2,x5⟩,z0,z1⟩:=bW.out wr HC.out.bel;by_cases hil:i<x.kids.length
 ·obtain⟨q,Z⟩: ∃q,x.kids[i]?=some q:=⟨_,bC hil⟩;have kw:=bD Z;obtain⟨gk,rfl,kc⟩:=HQ.out wr HC.out.bel i q Z
  first
  |have _:=xn;have yx:gk<W3.heap.size:=by
    obtain⟨yX,e1,e2⟩:=HQ.out W3 (aB _ _) i q Z;injection e1 with e1;injection e1 with e1;subst e1;exact vE e2
  |skip
  obtain⟨_,tj⟩:=gv.out q kw;have cL:(i:Int)<(x.kids.length:Int):=a_
  have dk:decide ((i:Int)<(x.kids.length:Int))=true:=aO cL;have cy:(0:Int)<=(i:Int):=a_
  first
  |have _:=xo;have vG:decide ((q:Int)<0)=false:=aG a_;have vJ:decide ((ns.length:Int)<=(q:Int))=false:=aG a_;have xE:decide (ns.length<=q)=false:=aG a_
  |have ih:(0:Int)<=(q:Int):=a_
   have le:(q:Int)<(ns.length:Int):=a_
  have jv:=hid (vN Z);obtain⟨pa,ca,cc⟩:=HC.out.keys.slice;obtain⟨po,co,io⟩:=HC.out.its.slice;have aw:((x.kids.take i).map (bE txt ns lv)).length=i:=by rw[bR,bT];omega
  rw[aw] at io;obtain⟨nk,dH⟩:=exQ<|(fA txt ns x.kind (x.kids.take i)).length;have lZ:nk<=65536:=by
   rw[<-dH];unfold fA;split
   ·rw[bR,bT];omega
   ·exact dY _
  rw[dH] at cc;subst cc io;have lJ:=hid dH;have oW:=hid kw;first|have _:=xn;have Ai:=hid Z|skip
  clear Z kw dH aw
  first
  |have _:=xo;go_upto_if 53 with fail;go_cut [54,55,56,57,58,59,60,61] (λr5 sA rS vj wk zo AL vq wx=> ∃dM,Hid (CS W3 Y kd tx (fA txt ns x.kind (x.kids.take (i+1))) ((x.kids.take i).map (bE txt ns lv)) dM (.slice po i co) wx))
  |go_upto_if 60 with fail;go_cut [11,12,13,61,62,63,64,65,66,67,68,69,70,71,72,73,74,75,76,77,78,79,80,81,82,83] (λmG mC ia vq yj AV Ap yi nL zY zz zG yL wS xa ug xA vK wb wa x4 ve wV tX ut vi wx=> ∃dM,Hid (CS W3 Y kd tx (fA txt ns x.kind (x.kids.take (i+1))) ((x.kids.take i).map (bE txt ns lv)) dM (.slice po i co) wx))
  case first=>
   by_cases h6:kd=6;rotate_left
   ·have d6:(kd==6)=false:=aE.2 h6;have eG: ¬x.kind=6:=λe=>h6 (H6.out.1 e);have hW:Hid (CS W3 Y kd tx (fA txt ns x.kind (x.kids.take (i+1))) ((x.kids.take i).map (bE txt ns lv)) (.slice pa nk ca) (.slice po i co) wr):=hid (by have:=HC.out;unfold fA at this ⊢;rw[if_neg eG] at this ⊢;exact this);clear h6 eG;go_wp2_with fail;go_meet;exact nr
   ·have d6:(kd==6)=true:=by rw[h6];rfl
    have eG:x.kind=6:=H6.out.2 h6
    first
    |have _:=xo;obtain⟨W0,ai⟩:=exQ<|wr.drew
     have ev:Below wr.heap.size wr W0:=by rw[<-ai];exact(aB _ _).drew
     have a7:Hid (CS W3 Y kd tx ((x.kids.take i).map (eN txt ns)) ((x.kids.take i).map (bE txt ns lv)) (.slice pa nk ca) (.slice po i co) W0):=hid (by have:=HC.out.keep ev;unfold fA at this;rw[if_pos eG] at this;exact this)
    |obtain⟨xq,sO⟩: ∃xq,ns[q]?=some xq:=⟨_,bC tj⟩;obtain⟨g',mn,_,_,_,_,_,m3,m4,_⟩:=nU.out wr HC.out.bel q xq sO;injection mn with mn;injection mn with mn;subst mn;have i4:(dR (fZ txt xq.key)).1=eN txt ns q:=by unfold eN;rw[sO]
     have ux:=hid (u7.out xq.key);have op:=hid (zU.out xq.key);unfold gP at op;obtain⟨⟨U,ua,ue⟩,hU⟩:=exQ<|dR (fZ txt xq.key);rw[hU] at op i4;simp only[] at i4;subst i4
    have bO:((x.kids.take i).map (eN txt ns)++ [eN txt ns q]).length=nk+1:=by
     have:=lJ.out;unfold fA at this;rw[if_pos eG] at this;rw[aT,this,dS]
    have gJ:((x.kids.take i).map (eN txt ns)).length<=4294967295:=by rw[bR,bT];omega
    have mH:=hid eG;have fG:=hid (aK bO gJ)
    first
    |have _:=xo;clear h6 eG bO gJ ev;go_upto_region 10 with fail;obtain⟨SA,ah⟩: ∃S:World->Prop,(λw'=>(w'.cell? ⟨Y,2,none⟩=some (.slice pa nk ca)/\w'.frozen? ⟨Y,2,none⟩=false)/\w'.cell? ⟨D,0,none⟩=some (.string (bs txt))/\w'.cell? ⟨D,1,none⟩=some (.slice (some ⟨g,0,none⟩) ns.length c))=S:=⟨_,rfl⟩;have ak:Hid (∀w',Below W0.heap.size W0 w'->SA w'):=hid (λw' hb=>by rw[<-ah];obtain⟨_,a3,a4⟩:=bW.out w' (aC a7.out.bel hb);have q:=(a7.out.keep hb).cells;exact⟨⟨q.2.2.1,q.2.2.2.2.2.2.1⟩,a3,a4⟩);have ir:Hid (∀w' c',lO W3 W0 Y (eN txt ns q) ((x.kids.take i).map (eN txt ns)) (.slice pa nk ca) 3 c' w'->SA w'):=hid (λw' c' hp=>by rw[<-ah];obtain⟨q1,q2,q3,q4,q5⟩:=hp;have eF:=a7.out.box;have kz:=aF eF;have e1:w'.heap[Y]?=W0.heap[Y]?:=q4 Y kz a7.out.off;have e2:=e1.trans eF;have e3: ∀o',w'.cell? ⟨D,o',none⟩=W0.cell? ⟨D,o',none⟩:=λo'=>q2.cell (p:=⟨D,o',none⟩) (aF jO.out);obtain⟨_,a3,a4⟩:=bW.out W0 a7.out.bel;obtain⟨y0,y1,y2,y3,y4,y5,y6,y7⟩:=bJ e2;exact⟨⟨y2,y6⟩,by rw[e3];exact a3,by rw[e3];exact a4⟩);clear x0 x1 x2 x5 z0 z1 kc;have i3:Tryz.prog.follows .mixedOrders=true:=d';refine zL i3 [54,55,56,57,58,59,60,61] [4,5,6,8] 1000000 (λ_ _=>True) 74 rfl d' d' d' (λiz=>match iz with | 0=> .pointer (some ⟨Y,2,none⟩) | 1=> .slice pa nk ca | 2=> .agg #[bs txt, .slice (some ⟨g,0,none⟩) ns.length c] | 3=> .int .i64 (q:Int) | 7=> .pointer (some ⟨Y,2,none⟩) | _=>undef) SA (lO W3 W0 Y (eN txt ns q) ((x.kids.take i).map (eN txt ns)) (.slice pa nk ca)) j_ i_ ?_ ?_
     ·intro d a w' iq o' ho hi E aa F R' G;have j7:iq<9:=(lI.1 ho).1;have q3:a.tmps[3]?.getD undef= .pointer (some ⟨D,0,none⟩):=by rw[<-aI];exact aa 3 b_
      have q8:a.tmps[8]?.getD undef= .pointer (some ⟨Y,0,none⟩):=by rw[<-aI];exact aa 8 b_
      have us:a.tmps[10]?.getD undef= .int .i64 (q:Int):=by rw[<-aI];exact aa 10 b_
      clear aa;have ha:=E;have ad:=ho;have cY:iq=0\/iq=1\/iq=2\/iq=3\/iq=4\/iq=5\/iq=6\/iq=7\/iq=8:=a_;clear j7;rcases cY with rfl|rfl|rfl|rfl|rfl|rfl|rfl|rfl|rfl<;>simp only[dA,cR,bZ,cG] at ho<;>subst ho
      ·exact af
      ·simp[Region.binds] at E;have AW:a.tmps[54]?.getD undef= .pointer (some ⟨Y,2,none⟩):=by rw[<-aI];exact F.cl 0 b_ b_ b_ c_
       have L:=F.early (f:=9) (i:=1) d' hi;rw[<-ah] at L;obtain⟨⟨x3,gF⟩,s3,s4⟩:=L;exact af
      ·have L:=F.early (f:=9) (i:=2) d' hi;rw[<-ah] at L;obtain⟨⟨x3,gF⟩,s3,s4⟩:=L;exact af
      ·exact af
      ·simp[Region.binds] at E;have xF:a.tmps[56]?.getD undef= .agg #[bs txt, .slice (some ⟨g,0,none⟩) ns.length c]:=by rw[<-aI];exact F.cl 2 b_ b_ b_ c_
       have uq:a.tmps[57]?.getD undef= .int .i64 (q:Int):=by rw[<-aI];exact F.cl 3 b_ b_ b_ c_
       have ab:=F.at2 (j:=0) rfl hi (.inl rfl);have hA:Below W0.heap.size W0 w':=ab;go_simp;go_at_call 155;refine(AO.out _ (aC a7.out.bel hA) q oW.out).mono ?_;rintro e w5 ⟨rfl,aj⟩;have a8:=aC hA aj;exact G _ _ (F.eff2 b_ b_ 0 ad ha rfl hi (.inl rfl) rfl b_ (λ_ _ _=>trivial) (λ_=>ak.out _ a8) ⟨rfl,a8⟩)
      ·simp[Region.binds] at E;have ae:d 4=true:=by first | first | exact E | exact E.1 | exact E.2 | exact E.2.1 | exact E.2.2 | exact E.2.2.1 | exact E.2.2.2 | (exact ha ⟨_,_⟩ e_ rfl)
       have ab:=F.at2 (j:=1) rfl hi (.inr ⟨4,rfl,ae⟩);obtain⟨hc,hA⟩:=ab;have hc:a.tmps.getD 58 undef= .string (bs (eN txt ns q)):=hc;have qa:a.tmps[58]?.getD undef= .string (bs (eN txt ns q)):=by rw[<-aI];exact hc
       have a8:=λob=>aC hA (aL w' ob);go_simp;exact G _ _ (F.eff2 b_ b_ 1 ad ha rfl hi (.inr ⟨4,rfl,ae⟩) rfl b_ (λ_ _ _=>trivial) (λ_=>ak.out _ (a8 _)) ⟨w',hA,rfl,rfl⟩)
      ·simp[Region.binds] at E;have tP:a.tmps[55]?.getD undef= .slice pa nk ca:=by rw[<-aI];exact F.cl 1 b_ b_ b_ c_
       have ae:d 5=true:=by first | first | exact E | exact E.1 | exact E.2 | exact E.2.1 | exact E.2.2 | exact E.2.2.1 | exact E.2.2.2 | (exact ha ⟨_,_⟩ e_ rfl)
       have ab:=F.at2 (j:=2) rfl hi (.inr ⟨5,rfl,ae⟩);have wh:a.tmps.getD 55 undef= .slice pa nk ca:=by rw[aI];exact tP
       exact lO.app (.tmp 55) (.tmp 59) rfl a7.out ab wh rfl fG.out.2 (λv' w2 bG=>G _ _ (F.eff2 b_ b_ 2 ad ha rfl hi (.inr ⟨5,rfl,ae⟩) rfl b_ (λ_ _ _=>trivial) (λ_=>ir.out _ _ bG) bG))
      ·exact af
      ·simp[Region.binds] at E;have yY:a.tmps[61]?.getD undef= .pointer (some ⟨Y,2,none⟩):=by rw[<-aI];exact F.cl 7 b_ b_ b_ c_
       have ae:d 6=true:=by first | first | exact E | exact E.1 | exact E.2 | exact E.2.1 | exact E.2.2 | exact E.2.2.1 | exact E.2.2.2 | (exact ha ⟨_,_⟩ e_ rfl)
       have ab:=F.at2 (j:=3) rfl hi (.inr ⟨6,rfl,ae⟩);have cd:lO W3 W0 Y (eN txt ns q) ((x.kids.take i).map (eN txt ns)) (.slice pa nk ca) 3 (a.tmps.getD 60 undef) w':=ab;have L:=F.st hi;rw[<-ah] at L;obtain⟨⟨x3,gF⟩,_⟩:=L;obtain⟨iI,cO,hz⟩:=cd.1.slice;rw[fG.out.1] at hz;rw[hz] at cd;have xJ:a.tmps[60]?.getD undef= .slice iI (nk+1) cO:=by rw[<-aI];exact hz
       go_simp;exact G undef _ (F.eff2 b_ b_ 3 ad ha rfl hi (.inr ⟨6,rfl,ae⟩) rfl b_ (λ_ _ _=>trivial) (λh=>absurd rfl h) ⟨_,_,cd,rfl⟩)
     intro v wz au eI;obtain⟨nD,ez⟩:=lO.fin a7.out eI;have ez:Hid (CS W3 Y kd tx (fA txt ns x.kind (x.kids.take (i+1))) ((x.kids.take i).map (bE txt ns lv)) nD (.slice po i co) wz):=hid EB;clear au eI ir ak ah a7 ai;simp only[cS,dF,cP,dG];go_wp2_with fail;go_meet;exact nu
    |have hW:Hid (CS W3 Y kd tx ((x.kids.take i).map (eN txt ns)) ((x.kids.take i).map (bE txt ns lv)) (.slice pa nk ca) (.slice po i co) wr):=hid (by have:=HC.out;unfold fA at this;rw[if_pos eG] at this;exact this);have HS0:mP wr D X g gk i q (bs txt) ns.length c x.kids.length cq (xq.key.1:Int) (xq.key.2:Int) wr:=⟨⟨z0,z1,x5,kc,m3,m4⟩,hid (aB _ _)⟩;clear h6 eG bO gJ hU sO;go_upto_region 16 with fail;clear x0 x1 x2 x5 z0 z1 kc m3 m4;go_region_held3 (λw'=>mP wr D X g gk i q (bs txt) ns.length c x.kids.length cq (xq.key.1:Int) (xq.key.2:Int) w') ((first | exact mP.drew l_ | exact mP.step l_ l_ | assumption))
      ((first
       | (go_at_call 133;(refine(ux.out _).mono ?_);rintro e w5 ⟨rfl,aj⟩)
       | (go_at_call 57;(refine(op.out _).mono ?_);rintro e w6 ⟨rfl,a8⟩)))
     all_goals
      have eh:Hid (Below wr.heap.size wr w6):=hid (mP.bel (by assumption:mP wr D X g gk i q (bs txt) ns.length c x.kids.length cq (xq.key.1:Int) (xq.key.2:Int) w6));have fV:=hid (hW.out.keep eh.out);have hlsz:(bs (eN txt ns q)).size=(eN txt ns q).length:=aM _;obtain⟨y0,y1,y2,y3,g0,g1,g2,g3⟩:=fV.out.cells;go_wp2_with (at_builtin;refine wpList_step λK hK=>?_;rw[if_pos DU];refine lO.app (.tmp 79) (.tmp 81) rfl (key:=eN txt ns q) fV.out ⟨w6,aB _ _,rfl,rfl⟩ rfl rfl fG.out.2 ?_;intro v' w7 bG;obtain⟨iI,cO,hz⟩:=bG.1.slice;rw[fG.out.1] at hz;subst hz;have gy:=hid bG;have hy:w7.cell? ⟨Y,2,none⟩=some (.slice pa nk ca)/\w7.frozen? ⟨Y,2,none⟩=false:=(by obtain⟨q1,q2,q3,q4,q5⟩:=bG;have eF:=fV.out.box;have kz:=aF eF;have e1:w7.heap[Y]?=w6.heap[Y]?:=q4 Y kz fV.out.off;have e2:=e1.trans eF;obtain⟨y0,y1,y2,y3,y4,y5,y6,y7⟩:=bJ e2;exact⟨y2,y6⟩);obtain⟨jJ,hy2⟩:=hy;clear bG;refine hK _ _ ?_);obtain⟨nD,ez⟩:=lO.fin fV.out (show lO W3 w6 Y (eN txt ns q) ((x.kids.take i).map (eN txt ns)) (.slice pa nk ca) 4 undef _ from ⟨_,_,gy.out,rfl⟩);have ez:Hid (CS W3 Y kd tx (fA txt ns x.kind (x.kids.take (i+1))) ((x.kids.take i).map (bE txt ns lv)) nD (.slice po i co) _):=hid EB;go_meet;exact⟨_,ez⟩
  case rest=>
   obtain⟨dM,hW⟩:=hcut;clear HC lJ lZ x0 x1 x2 x5 z0 z1 kc;obtain⟨W0,ai⟩:=exQ<|wc.drew;have ev:Below wc.heap.size wc W0:=by rw[<-ai];exact(aB _ _).drew
   have a7:=hid (hW.out.keep ev);have bO:((x.kids.take i).map (bE txt ns lv)++ [bE txt ns lv q]).length=i+1:=by rw[aT,bR,bT,dS];omega
   have gJ:((x.kids.take i).map (bE txt ns lv)).length<=4294967295:=by rw[bR,bT];omega
   have fG:=hid (aK bO gJ);first|have _:=xn;have pw:Hid (x.kids[i]?=some q):=Ai|skip
   clear bO gJ ev
   first
   |have _:=xo;go_upto_region 11 with fail;obtain⟨SA,ah⟩: ∃S:World->Prop,(λw'=>(w'.cell? ⟨Y,3,none⟩=some (.slice po i co)/\w'.frozen? ⟨Y,3,none⟩=false)/\w'.cell? ⟨D,0,none⟩=some (.string (bs txt))/\w'.cell? ⟨D,1,none⟩=some (.slice (some ⟨g,0,none⟩) ns.length c))=S:=⟨_,rfl⟩;have ak:Hid (∀w',Below W0.heap.size W0 w'->SA w'):=hid (λw' hb=>by rw[<-ah];obtain⟨_,a3,a4⟩:=bW.out w' (aC a7.out.bel hb);have q:=(a7.out.keep hb).cells;exact⟨⟨q.2.2.2.1,q.2.2.2.2.2.2.2⟩,a3,a4⟩);have ir:Hid (∀w' c',gR W0 Y dM.ownBlock (bE txt ns lv q) ((x.kids.take i).map (bE txt ns lv)) (.slice po i co) 3 c' w'->SA w'):=hid (λw' c' hp=>by rw[<-ah];obtain⟨q1,q2,q3,q4⟩:=hp;have eF:=a7.out.box;have hn:=a7.out.new_;have nM:=aF jO.out;have jm:Below (Y+1) W0 w':=q2;have e2:w'.heap[Y]?=_:=(jm.block Y (tV _)).trans eF;have e3: ∀o',w'.cell? ⟨D,o',none⟩=W0.cell? ⟨D,o',none⟩:=λo'=>jm.cell (p:=⟨D,o',none⟩) (by show D<Y+1;omega);obtain⟨_,a3,a4⟩:=bW.out W0 a7.out.bel;obtain⟨y0,y1,y2,y3,y4,y5,y6,y7⟩:=bJ e2;exact⟨⟨y3,y7⟩,by rw[e3];exact a3,by rw[e3];exact a4⟩)
   |go_upto_region 18 with fail;obtain⟨SA,ah⟩: ∃S:World->Prop,(λw'=>(w'.cell? ⟨Y,3,none⟩=some (.slice po i co)/\w'.frozen? ⟨Y,3,none⟩=false)/\w'.cell? ⟨D,0,none⟩=some (.string (bs txt))/\w'.cell? ⟨D,1,none⟩=some (.slice (some ⟨g,0,none⟩) ns.length c)/\w'.cell? ⟨X,5,none⟩=some (.slice (some ⟨gk,0,none⟩) x.kids.length cq)/\w'.cell? ⟨gk,i,none⟩=some (.int .i64 (q:Int)))=S:=⟨_,rfl⟩;have xr:Hid (∀w',Below W3.heap.size W3 w'->w'.cell? ⟨gk,i,none⟩=some (.int .i64 (q:Int))):=hid (λw' hb=>by obtain⟨yX,e1,e2⟩:=HQ.out w' hb i q pw.out;injection e1 with e1;injection e1 with e1;subst e1;exact e2);have ak:Hid (∀w',Below W0.heap.size W0 w'->SA w'):=hid (λw' hb=>by rw[<-ah];obtain⟨⟨_,_,_,a5⟩,a3,a4⟩:=bW.out w' (aC a7.out.bel hb);have q:=(a7.out.keep hb).cells;exact⟨⟨q.2.2.2.1,q.2.2.2.2.2.2.2⟩,a3,a4,a5,xr.out w' (aC a7.out.bel hb)⟩);have ir:Hid (∀w' c',gR W0 Y dM.ownBlock (bE txt ns lv q) ((x.kids.take i).map (bE txt ns lv)) (.slice po i co) 3 c' w'->SA w'):=hid (λw' c' hp=>by rw[<-ah];obtain⟨q1,q2,q3,q4⟩:=hp;have eF:=a7.out.box;have hn:=a7.out.new_;have nM:=aF jO.out;have kD:=aF ec.out;have jm:Below (Y+1) W0 w':=q2;have e2:w'.heap[Y]?=_:=(jm.block Y (tV _)).trans eF;have e3: ∀b o',b<W3.heap.size->w'.cell? ⟨b,o',none⟩=W0.cell? ⟨b,o',none⟩:=λb o' hb=>jm.cell (p:=⟨b,o',none⟩) (by show b<Y+1;omega);obtain⟨⟨_,_,_,a5⟩,a3,a4⟩:=bW.out W0 a7.out.bel;obtain⟨y0,y1,y2,y3,y4,y5,y6,y7⟩:=bJ e2;exact⟨⟨y3,y7⟩,by rw[e3 _ _ nM];exact a3,by rw[e3 _ _ nM];exact a4,by rw[e3 _ _ kD];exact a5,by rw[e3 _ _ yx];exact xr.out W0 a7.out.bel⟩)
   have i3:Tryz.prog.follows .mixedOrders=true:=d'
   first
   |have _:=xo;refine zL i3 [62,63,64,65,66,67,68,69,70,71] [6,7,8,10] 1000000 (λ_ _=>True) 74 rfl d' d' d' (λiz=>match iz with | 0=> .pointer (some ⟨Y,3,none⟩) | 1=> .slice po i co | 2=> .agg #[bs txt, .slice (some ⟨g,0,none⟩) ns.length c] | 3=> .int .i64 (q:Int) | 4=> .int .i64 lev | 5=> .int .i64 (lev+1) | 9=> .pointer (some ⟨Y,3,none⟩) | _=>undef) SA (gR W0 Y dM.ownBlock (bE txt ns lv q) ((x.kids.take i).map (bE txt ns lv)) (.slice po i co)) j_ i_ ?_ ?_
   |refine zL i3 [84,85,86,87,88,89,90,91,92,93,94,95] [8,9,10,12] 1000000 (λ_ _=>True) 97 rfl d' d' d' (λiz=>match iz with | 0=> .pointer (some ⟨Y,3,none⟩) | 1=> .slice po i co | 2=> .agg #[bs txt, .slice (some ⟨g,0,none⟩) ns.length c] | 3=> .pointer (some ⟨X,5,none⟩) | 4=> .slice (some ⟨gk,0,none⟩) x.kids.length cq | 5=> .int .i64 (i:Int) | 6=> .pointer (some ⟨gk,i,none⟩) | 7=> .int .i64 (q:Int) | 11=> .pointer (some ⟨Y,3,none⟩) | _=>undef) SA (gR W0 Y dM.ownBlock (bE txt ns lv q) ((x.kids.take i).map (bE txt ns lv)) (.slice po i co)) j_ i_ ?_ ?_
   ·intro d a w' iq o' ho hi E aa F R' G
    first
    |have _:=xo;have j7:iq<11:=(lI.1 ho).1;have q2:a.tmps[2]?.getD undef= .int .i64 lev:=by rw[<-aI];exact aa 2 b_
     have q3:a.tmps[3]?.getD undef= .pointer (some ⟨D,0,none⟩):=by rw[<-aI];exact aa 3 b_
     have q8:a.tmps[8]?.getD undef= .pointer (some ⟨Y,0,none⟩):=by rw[<-aI];exact aa 8 b_
     have us:a.tmps[10]?.getD undef= .int .i64 (q:Int):=by rw[<-aI];exact aa 10 b_
    |have j7:iq<13:=(lI.1 ho).1;have q2:a.tmps[2]?.getD undef= .pointer (some ⟨D,0,none⟩):=by rw[<-aI];exact aa 2 b_
     have q5:a.tmps[5]?.getD undef= .pointer (some ⟨X,0,none⟩):=by rw[<-aI];exact aa 5 b_
     have q7:a.tmps[7]?.getD undef= .pointer (some ⟨Y,0,none⟩):=by rw[<-aI];exact aa 7 b_
     have us:a.tmps[10]?.getD undef= .int .i64 (i:Int):=by rw[<-aI];exact aa 10 b_
    clear aa;have ha:=E;have ad:=ho
    first
    |have _:=xo;have cY:iq=0\/iq=1\/iq=2\/iq=3\/iq=4\/iq=5\/iq=6\/iq=7\/iq=8\/iq=9\/iq=10:=a_
     clear j7;rcases cY with rfl|rfl|rfl|rfl|rfl|rfl|rfl|rfl|rfl|rfl|rfl<;>simp only[dA,cR,bZ,cG] at ho<;>subst ho
    |have cY:iq=0\/iq=1\/iq=2\/iq=3\/iq=4\/iq=5\/iq=6\/iq=7\/iq=8\/iq=9\/iq=10\/iq=11\/iq=12:=a_
     clear j7;rcases cY with rfl|rfl|rfl|rfl|rfl|rfl|rfl|rfl|rfl|rfl|rfl|rfl|rfl<;>simp only[dA,cR,bZ,cG] at ho<;>subst ho
    ·exact af
    ·simp[Region.binds] at E
     first
     |have _:=xo;have lz:a.tmps[62]?.getD undef= .pointer (some ⟨Y,3,none⟩):=by rw[<-aI];exact F.cl 0 b_ b_ b_ c_
      have L:=F.early (f:=11) (i:=1) d' hi;rw[<-ah] at L;obtain⟨⟨x3,gF⟩,s3,s4⟩:=L
     |have yt:a.tmps[84]?.getD undef= .pointer (some ⟨Y,3,none⟩):=by rw[<-aI];exact F.cl 0 b_ b_ b_ c_
      have L:=F.early (f:=13) (i:=1) d' hi;rw[<-ah] at L;obtain⟨⟨x3,gF⟩,s3,s4,s5,s6⟩:=L
     exact af
    first
    |have _:=xn
     ·have L:=F.early (f:=13) (i:=2) d' hi;rw[<-ah] at L;obtain⟨⟨x3,gF⟩,s3,s4,s5,s6⟩:=L;exact af
     ·exact af
    |skip
    ·first
     |have _:=xo;have L:=F.early (f:=11) (i:=2) d' hi;rw[<-ah] at L;obtain⟨⟨x3,gF⟩,s3,s4⟩:=L
     |simp[Region.binds] at E;have c87:a.tmps[87]?.getD undef= .pointer (some ⟨X,5,none⟩):=by rw[<-aI];exact F.cl 3 b_ b_ b_ c_
      have L:=F.early (f:=13) (i:=4) d' hi;rw[<-ah] at L;obtain⟨⟨x3,gF⟩,s3,s4,s5,s6⟩:=L
     exact af
    ·exact af
    ·first
     |have _:=xn;simp[Region.binds] at E;have c88:a.tmps[88]?.getD undef= .slice (some ⟨gk,0,none⟩) x.kids.length cq:=by rw[<-aI];exact F.cl 4 b_ b_ b_ c_
      have c89:a.tmps[89]?.getD undef= .int .i64 (i:Int):=by rw[<-aI];exact F.cl 5 b_ b_ b_ c_
      have L:=F.early (f:=13) (i:=6) d' hi;rw[<-ah] at L;obtain⟨⟨x3,gF⟩,s3,s4,s5,s6⟩:=L
     |skip
     exact af
    ·simp[Region.binds] at E
     first
     |have _:=xo;have c66:a.tmps[66]?.getD undef= .int .i64 lev:=by rw[<-aI];exact F.cl 4 b_ b_ b_ c_
     |have t0:a.tmps[90]?.getD undef= .pointer (some ⟨gk,i,none⟩):=by rw[<-aI];exact F.cl 6 b_ b_ b_ c_
      have L:=F.early (f:=13) (i:=7) d' hi;rw[<-ah] at L;obtain⟨⟨x3,gF⟩,s3,s4,s5,s6⟩:=L
     exact af
    ·simp[Region.binds] at E
     first
     |have _:=xo;have xz:a.tmps[64]?.getD undef= .agg #[bs txt, .slice (some ⟨g,0,none⟩) ns.length c]:=by rw[<-aI];exact F.cl 2 b_ b_ b_ c_
      have z9:a.tmps[65]?.getD undef= .int .i64 (q:Int):=by rw[<-aI];exact F.cl 3 b_ b_ b_ c_
      have AT:a.tmps[67]?.getD undef= .int .i64 (lev+1):=by rw[<-aI];exact F.cl 5 b_ b_ b_ c_
     |have yy:a.tmps[86]?.getD undef= .agg #[bs txt, .slice (some ⟨g,0,none⟩) ns.length c]:=by rw[<-aI];exact F.cl 2 b_ b_ b_ c_
      have vT:a.tmps[91]?.getD undef= .int .i64 (q:Int):=by rw[<-aI];exact F.cl 7 b_ b_ b_ c_
     have ab:=F.at2 (j:=0) rfl hi (.inl rfl);have hA:Below W0.heap.size W0 w':=ab;go_simp;first|have _:=xo;go_at_call 114|go_at_call 94
     refine(oM.out _ (aC a7.out.bel hA) q oW.out).mono ?_;rintro e w5 ⟨⟨fF,fI,rfl,ej⟩,aj⟩;have a8:=aC hA aj;exact G _ _ (F.eff2 b_ b_ 0 ad ha rfl hi (.inl rfl) rfl b_ (λ_ _ _=>trivial) (λ_=>ak.out _ a8) ⟨fF,fI,rfl,ej.mono (λq Z _=>aZ hA.size Z),a8⟩)
    ·simp[Region.binds] at E
     first
     |have _:=xo;have ae:d 6=true:=by first | first | exact E | exact E.1 | exact E.2 | exact E.2.1 | exact E.2.2 | exact E.2.2.1 | exact E.2.2.2 | (exact ha ⟨_,_⟩ e_ rfl)
      have ab:=F.at2 (j:=1) rfl hi (.inr ⟨6,rfl,ae⟩)
     |have ae:d 8=true:=by first | first | exact E | exact E.1 | exact E.2 | exact E.2.1 | exact E.2.2 | exact E.2.2.1 | exact E.2.2.2 | (exact ha ⟨_,_⟩ e_ rfl)
      have ab:=F.at2 (j:=1) rfl hi (.inr ⟨8,rfl,ae⟩)
     obtain⟨fF,fI,it,ej,aj⟩:=ab;first|have _:=xo;have it:a.tmps.getD 68 undef=vv (bE txt ns lv q) fF fI:=it;have c68:a.tmps[68]?.getD undef= .agg #[.int .i64 (bE txt ns lv q).kind, .string (bs (bE txt ns lv q).text),fF,fI]:=by rw[<-aI];exact it|have it:a.tmps.getD 92 undef=vv (bE txt ns lv q) fF fI:=it;have vP:a.tmps[92]?.getD undef= .agg #[.int .i64 (bE txt ns lv q).kind, .string (bs (bE txt ns lv q).text),fF,fI]:=by rw[<-aI];exact it
     have a8:=λob=>aC aj (aL w' ob);go_simp;first|have _:=xo;exact G _ _ (F.eff2 b_ b_ 1 ad ha rfl hi (.inr ⟨6,rfl,ae⟩) rfl b_ (λ_ _ _=>trivial) (λ_=>ak.out _ (a8 _)) ⟨w',fF,fI,ej,aj,rfl,rfl⟩)|exact G _ _ (F.eff2 b_ b_ 1 ad ha rfl hi (.inr ⟨8,rfl,ae⟩) rfl b_ (λ_ _ _=>trivial) (λ_=>ak.out _ (a8 _)) ⟨w',fF,fI,ej,aj,rfl,rfl⟩)
    ·simp[Region.binds] at E
     first
     |have _:=xo;have sx:a.tmps[63]?.getD undef= .slice po i co:=by rw[<-aI];exact F.cl 1 b_ b_ b_ c_
      have ae:d 7=true:=by first | first | exact E | exact E.1 | exact E.2 | exact E.2.1 | exact E.2.2 | exact E.2.2.1 | exact E.2.2.2 | (exact ha ⟨_,_⟩ e_ rfl)
      have ab:=F.at2 (j:=2) rfl hi (.inr ⟨7,rfl,ae⟩);have uG:a.tmps.getD 63 undef= .slice po i co:=by rw[aI];exact sx
      exact gR.app (.tmp 63) (.tmp 69) rfl a7.out ab uG rfl fG.out.2 (λv' w2 bG=>G _ _ (F.eff2 b_ b_ 2 ad ha rfl hi (.inr ⟨7,rfl,ae⟩) rfl b_ (λ_ _ _=>trivial) (λ_=>ir.out _ _ bG) bG))
     |have wD:a.tmps[85]?.getD undef= .slice po i co:=by rw[<-aI];exact F.cl 1 b_ b_ b_ c_
      have ae:d 9=true:=by first | first | exact E | exact E.1 | exact E.2 | exact E.2.1 | exact E.2.2 | exact E.2.2.1 | exact E.2.2.2 | (exact ha ⟨_,_⟩ e_ rfl)
      have ab:=F.at2 (j:=2) rfl hi (.inr ⟨9,rfl,ae⟩);have uS:a.tmps.getD 85 undef= .slice po i co:=by rw[aI];exact wD
      exact gR.app (.tmp 85) (.tmp 93) rfl a7.out ab uS rfl fG.out.2 (λv' w2 bG=>G _ _ (F.eff2 b_ b_ 2 ad ha rfl hi (.inr ⟨9,rfl,ae⟩) rfl b_ (λ_ _ _=>trivial) (λ_=>ir.out _ _ bG) bG))
    ·exact af
    ·simp[Region.binds] at E
     first
     |have _:=xo;have c71:a.tmps[71]?.getD undef= .pointer (some ⟨Y,3,none⟩):=by rw[<-aI];exact F.cl 9 b_ b_ b_ c_
      have ae:d 8=true:=by first | first | exact E | exact E.1 | exact E.2 | exact E.2.1 | exact E.2.2 | exact E.2.2.1 | exact E.2.2.2 | (exact ha ⟨_,_⟩ e_ rfl)
      have ab:=F.at2 (j:=3) rfl hi (.inr ⟨8,rfl,ae⟩);have cd:gR W0 Y dM.ownBlock (bE txt ns lv q) ((x.kids.take i).map (bE txt ns lv)) (.slice po i co) 3 (a.tmps.getD 70 undef) w':=ab
     |have zQ:a.tmps[95]?.getD undef= .pointer (some ⟨Y,3,none⟩):=by rw[<-aI];exact F.cl 11 b_ b_ b_ c_
      have ae:d 10=true:=by first | first | exact E | exact E.1 | exact E.2 | exact E.2.1 | exact E.2.2 | exact E.2.2.1 | exact E.2.2.2 | (exact ha ⟨_,_⟩ e_ rfl)
      have ab:=F.at2 (j:=3) rfl hi (.inr ⟨10,rfl,ae⟩);have cd:gR W0 Y dM.ownBlock (bE txt ns lv q) ((x.kids.take i).map (bE txt ns lv)) (.slice po i co) 3 (a.tmps.getD 94 undef) w':=ab
     have L:=F.st hi;rw[<-ah] at L;obtain⟨⟨x3,gF⟩,_⟩:=L;obtain⟨iI,cO,hz⟩:=cd.1.slice;rw[fG.out.1] at hz;rw[hz] at cd
     first
     |have _:=xo;have yw:a.tmps[70]?.getD undef= .slice iI (i+1) cO:=by rw[<-aI];exact hz
      go_simp;exact G undef _ (F.eff2 b_ b_ 3 ad ha rfl hi (.inr ⟨8,rfl,ae⟩) rfl b_ (λ_ _ _=>trivial) (λh=>absurd rfl h) ⟨_,_,cd,rfl⟩)
     |have AE:a.tmps[94]?.getD undef= .slice iI (i+1) cO:=by rw[<-aI];exact hz
      go_simp;exact G undef _ (F.eff2 b_ b_ 3 ad ha rfl hi (.inr ⟨10,rfl,ae⟩) rfl b_ (λ_ _ _=>trivial) (λh=>absurd rfl h) ⟨_,_,cd,rfl⟩)
   intro v wz au eI;obtain⟨o5,ez⟩:=gR.fin a7.out eI;have ez:Hid (CS W3 Y kd tx (fA txt ns x.kind (x.kids.take (i+1))) ((x.kids.take (i+1)).map (bE txt ns lv)) dM o5 wz):=hid (by
    have e:(x.kids.take (i+1)).map (bE txt ns lv)=(x.kids.take i).map (bE txt ns lv)++ [bE txt ns lv q]:=by rw[jv.out,nE];rfl
    rw[e];exact ez)
   clear au eI ir ak ah a7 ai hW;simp only[cS,dF,cP,dG];first|have _:=xn;have hiw:IntKind.i64.wrap ((i:Int)+1)=(i:Int)+1:=IntWalk.i64_in _ a_|skip
   exact jn
 ·have dk:decide ((i:Int)<(x.kids.length:Int))=false:=aG a_;obtain rfl:i=x.kids.length:=a_
  have fo:=HC.out;rw[List.take_length] at fo;have dZ:=hid fo;clear fo HC;obtain⟨pa,ca,cc⟩:=dZ.out.keys.slice;obtain⟨po,co,io⟩:=dZ.out.its.slice;obtain⟨nk,dH⟩:=exQ<|(fA txt ns x.kind x.kids).length;obtain⟨ni,mq⟩:=exQ<|(x.kids.map (bE txt ns lv)).length;rw[dH] at cc;rw[mq] at io;subst cc io;have HP:Hid (mJ (VT.mk kd tx (fA txt ns x.kind x.kids) (x.kids.map (bE txt ns lv))) w (.returned (.agg #[kd,bs tx, .slice pa nk ca, .slice po ni co])) (bB wr R kd tx (.slice pa nk ca) (.slice po ni co))):=hid (by refine⟨⟨_,_,rfl,?_⟩,uI (aC bf.out dZ.out.bel) a_⟩;exact(dZ.out.put (R:=R) pM).mono (λq Z _=>aZ bf.out.size Z));have mi:Hid ((bB wr R kd tx (.slice pa nk ca) (.slice po ni co)).heap[R]?=some (.cells #[kd,bs tx, .slice pa nk ca, .slice po ni co] 36)):=hid (uJ ((dZ.out.bel.block R pM).trans gj.out));obtain⟨r0,r1,r2,r3,f0,f1,f2,f3⟩:=bJ ((dZ.out.bel.block R pM).trans gj.out);obtain⟨y0,y1,y2,y3,_⟩:=dZ.out.cells;clear dH mq;go_wp2_with fail;obtain⟨WF,gX⟩:=exQ<|bB wr R kd tx (.slice pa nk ca) (.slice po ni co);rw[gX] at HP mi;have gt:(((wr.setCell ⟨R,0,none⟩ (.int .i64 kd)).setCell ⟨R,1,none⟩ (.string (bs tx))).setCell ⟨R,2,none⟩ (.slice pa nk ca)).setCell ⟨R,3,none⟩ (.slice po ni co)=WF:=gX;rw[gt];clear gX gt r0 r1 r2 r3 f0 f1 f2 f3 y0 y1 y2 y3;obtain⟨d0,d1,d2,d3,_⟩:=bJ mi.out;refine bodyPost_ret (v:= .agg #[kd,bs tx, .slice pa nk ca, .slice po ni co]) ?_ rfl HP.out
  first|have _:=xo;simp[results,Tryz.results114,go_sem,d0,d1,d2,d3]|simp[results,Tryz.results94,go_sem,d0,d1,d2,d3]):P:=h
theorem qi(h:P:=by
 have sl:=aM l;obtain⟨K,i,h⟩:=Dp l;first|have:=xy;have an:=hid (aCF l)|skip
 have hp:fP l=if(dH l).2.2≠0 then([],(dH l).2.1,(dH l).2.2) else
  uE l.length (bI l 32 (eH (dH l).1) (0,0) [] (0,0)):=by
  unfold fP eH uE;rfl
 rw[hp];clear hp;have b1:=aL w (.cells #[.string ⟨#[]⟩,()] 134);first|have:=xz;have C:=Ux l (w.alloc (.cells #[.string ⟨#[]⟩,()] 134)) hs (hV.keep b1) (hT.keep b1)|have C:=aCj l (w.alloc (.cells #[.string ⟨#[]⟩,()] 134)) hs
 obtain⟨r,hr⟩:=exQ<|dH l
 first|have:=xz;rw[hr] at C K i h ⊢|rw[hr] at C an K i h ⊢
 obtain⟨T,at_,er⟩:=r;have CT:=hid C;have aX:=hid b1;first|have:=xz;simp only[] at K i h|simp only[] at K i h an
 by_cases he:er=0
 case neg=>
  have hen:(er !=0)=true:=eF.2 he;clear C b1 hr i h;first|have:=xz;go_enter Tryz.func113,Tryz.ntmps113|go_enter Tryz.func93,Tryz.ntmps93
  go_wp2_with fail;refine CT.out.mono ?_;rintro e w2 ⟨v,rfl,ho,hn,hb⟩;have hD:w2.heap[w.heap.size]?=some (.cells #[.string ⟨#[]⟩,()] 134):=(hb.block _ e_).trans (heap_alloc_new w _);obtain⟨c0,c1⟩:=pP hD;obtain⟨f0,f1⟩:=zV hD;have hB:Below w.heap.size w w2:=aX.out.trans (hb.mono e_);have V:=hid hB;clear hD ho hn hb hB;go_wp2_with fail
  try simp only[Exit.inBlock,Exit.then]
  refine bodyPost_ret (sM rfl _ _ rfl (u:= .string ⟨#[]⟩) (v:= .slice none 0 0) ?_ ?_) rfl ?_
  ·simp[go_sem,c0,c1]
  ·simp[go_sem,c0,c1]
  ·refine⟨_,rfl,⟨[], .slice none 0 0,rfl,rfl,cD.nil _ _⟩,(V.out.setCell e_ _).setCell e_ _⟩
 subst he;obtain⟨R,hR⟩:=exQ<|bI l 32 (eH T) (0,0) [] (0,0);rw[if_neg e_];simp only[];rw[hR];have hl:=h rfl;have HR:=hid hR;have aV:=hid i
 first|have:=xz;have az:=hid (aK hV hT);clear C b1 hr hR i h hV hT;go_enter Tryz.func113,Tryz.ntmps113|clear C b1 hr hR i h;go_enter Tryz.func93,Tryz.ntmps93
 go_wp2_with fail;refine CT.out.mono ?_;rintro e w2 ⟨v,rfl,ho,hn,hb⟩;have hD:w2.heap[w.heap.size]?=some (.cells #[.string ⟨#[]⟩,()] 134):=(hb.block _ e_).trans (heap_alloc_new w _);have hB:Below w.heap.size w w2:=aX.out.trans (hb.mono e_);have V:=hid hB;have D:=hid hD;have a6:w.heap.size<w2.heap.size:=aF hD;obtain⟨p0,c0,hv,hvc,aJ⟩:=fG.toTV ho;subst hv;have aQ:Hid (∀j t,T[j]?=some t-> ∃g o,p0=some ⟨g,o,none⟩/\g<w2.heap.size/\w2.cell? ⟨g,o+j*3,none⟩=some (.int .i64 t.kind)/\w2.cell? ⟨g,o+j*3+1,none⟩=some (.int .i64 t.sf)/\w2.cell? ⟨g,o+j*3+2,none⟩=some (.int .i64 t.st)):=hid (λj t hj=>by
  rcases aJ with h0 | ⟨g,o,cur,h0,O,h2⟩
  ·simp only[] at h0;rw[h0] at hj;simp at hj
  ·exact⟨g,o,h0,aF O,h2 j t hj⟩)
 clear hD ho hn hb hB aJ;obtain⟨P,hP⟩:=exQ<|w2.heap.size
 first
 |have:=xz;have aj:cZ (w2.alloc (.cells #[bs l,(),(0:Int),(0:Int),(),(0:Int),(0:Int)] 179)) P l (.slice none 0 0) (0,0) (.slice none 0 0) 0 0:=by
   rw[<-hP];exact heap_alloc_new w2 _
 |have aj:cH (w2.alloc (.cells #[bs l,(),(0:Int),(),(0:Int),(0:Int)] 161)) P l (.slice none 0 0) 0 (.slice none 0 0) 0 0:=by
   rw[<-hP];exact heap_alloc_new w2 _
 have aY:=hid aj
 first
 |have:=xz;have aw:Hid (Below P w2 (w2.alloc (.cells #[bs l,(),(0:Int),(0:Int),(),(0:Int),(0:Int)] 179))):=hid (by rw[<-hP];exact aL w2 _);have aq:Hid (fG (P+1) (w2.alloc (.cells #[bs l,(),(0:Int),(0:Int),(),(0:Int),(0:Int)] 179)) (.slice none 0 0) (eH (T.take 0))):=hid ⟨rfl, .inl ⟨rfl,rfl⟩⟩
 |have aw:Hid (Below P w2 (w2.alloc (.cells #[bs l,(),(0:Int),(),(0:Int),(0:Int)] 161))):=hid (by rw[<-hP];exact aL w2 _);have aq:Hid (fG (P+1) (w2.alloc (.cells #[bs l,(),(0:Int),(),(0:Int),(0:Int)] 161)) (.slice none 0 0) (eH (T.take 0))):=hid ⟨rfl, .inl ⟨rfl,rfl⟩⟩
 clear aj;rw[hP] at a6 aQ;go_wp2_with fail;first|have:=xz;go_loopw [28] (λaf wr=> ∃(k:Nat) (rv:Value),af= .int .i64 (k:Int)/\k<=T.length/\Hid (cZ wr P l rv (0,0) (.slice none 0 0) 0 0)/\Hid (fG (P+1) wr rv (eH (T.take k)))/\Hid (Below P w2 wr)) (λaf _=>T.length-(RowKit.intOf af).toNat)|go_loopw [9] (λs9 wr=> ∃(k:Nat) (rv:Value),s9= .int .i64 (k:Int)/\k<=T.length/\Hid (cH wr P l rv 0 (.slice none 0 0) 0 0)/\Hid (fG (P+1) wr rv (eH (T.take k)))/\Hid (Below P w2 wr)) (λs9 _=>T.length-(RowKit.intOf s9).toNat)
 case atStart=>exact⟨0,_,rfl,a_,aY,aq,aw⟩
 case round=>
  obtain⟨k,rv,rfl,hk,HJ,HO,x⟩:=hrel;by_cases hkl:k<T.length
  ·obtain⟨t,B⟩: ∃t,T[k]?=some t:=⟨_,bC hkl⟩;obtain⟨g,o,rfl,hg,e0,e1,e2⟩:=aQ.out k t B;have hgP:g<P:=hg;have a0:wr.cell? ⟨g,o+k*3,none⟩=some (.int .i64 (t.kind:Int)):=by rw[x.out.cell (p:=⟨g,o+k*3,none⟩) hg];exact e0
   have a1:wr.cell? ⟨g,o+k*3+1,none⟩=some (.int .i64 (t.sf:Int)):=by rw[x.out.cell (p:=⟨g,o+k*3+1,none⟩) hg];exact e1
   have a2:wr.cell? ⟨g,o+k*3+2,none⟩=some (.int .i64 (t.st:Int)):=by rw[x.out.cell (p:=⟨g,o+k*3+2,none⟩) hg];exact e2
   have hk0:(0:Int)<=(k:Int):=a_;have a5:(k:Int)<(T.length:Int):=a_;have dk:decide ((k:Int)<(T.length:Int))=true:=aO a5;obtain⟨k1,aU⟩:=exQ<|k+1;have E:(k:Int)+1=(k1:Int):=a_;have b:=Ki T k t B;rw[aU] at b;have I:k1<=T.length:=a_;have ax:=HJ.out.lt
   first|have:=xz;obtain⟨ak,L⟩: ∃o:Obj, .cells #[.int .i64 (t.kind:Int), .int .i64 (t.sf:Int), .int .i64 (t.st:Int)] 163=o:=⟨_,rfl⟩;have bt:=aL wr ak;have A:=hid (HJ.out.keep bt);have H:Hid (fG (P+1) (wr.alloc ak) rv (eH (T.take k))):=hid (World.ownsRow.alloc HO.out _);have N:Hid (Below P w2 (wr.alloc ak)):=hid (x.out.trans (bt.mono a_));rw[<-L] at A H N|skip
   by_cases O:t.kind=1
   ·have d1:((t.kind:Int) !=1)=false:=by rw[O];rfl
    rw[if_pos O,List.append_nil] at b;first|have:=xz;rw[<-b] at H;clear e0 e1 e2 b B bt L O|have aT:=HO;rw[<-b] at aT;clear e0 e1 e2 b B O
    go_wp2_with fail;go_roundw
    first
    |have:=xz
     ·exact⟨k1,rv,by rw[<-E],I,A,H,N⟩
    |·exact⟨k1,rv,by rw[<-E],I,HJ,aT,x⟩
    ·exact bw
   ·have d1:((t.kind:Int) !=1)=true:=eF.2 a_;rw[if_neg O] at b;first|have:=xz;clear e0 e1 e2 B bt L O|clear e0 e1 e2 B O
    go_upto_region 9 with fail
    first
    |have:=xz;obtain⟨X,hX⟩:=exQ<|wr.heap.size
     have x0:=xG wr #[.int .i64 (t.kind:Int), .int .i64 (t.sf:Int), .int .i64 (t.st:Int)] 163 0 _ rfl;have x1:=xG wr #[.int .i64 (t.kind:Int), .int .i64 (t.sf:Int), .int .i64 (t.st:Int)] 163 1 _ rfl;have x2:=xG wr #[.int .i64 (t.kind:Int), .int .i64 (t.sf:Int), .int .i64 (t.st:Int)] 163 2 _ rfl;rw[hX] at x0 x1 x2
     try rw[hX]
     obtain⟨W,hW⟩:=exQ<|wr.alloc (.cells #[.int .i64 (t.kind:Int), .int .i64 (t.sf:Int), .int .i64 (t.st:Int)] 163);rw[hW] at x0 x1 x2 A H N;rw[hW];have bc:P<W.heap.size:=A.out.lt;have hXW:X<W.heap.size:=by rw[<-hW,<-hX];simp
     have q1:=A.out.cells.2.1
    |have q1:=HJ.out.cells.2.1
    have Y:(eH (T.take k)).length<=4294967295:=by
     refine aZ (List.length_filter_le _ _) ?_;rw[bT];omega
    first
    |have:=xz;have q:fG (P+1) W.drew rv (eH (T.take k)):=H.out;clear hW hX a0 a1 a2;go_region_law (refine Kg DU (.tmp 39) (.tmp 41) DU (P+1) W.drew rv (eH (T.take k)) t DU q DU Y bc ?_;intro kv w5 n G;obtain⟨j5,o5,b5,c5,f5⟩:=Va (w:=W.drew) (w2:=w2) (A.out.keep (aB _ _).drew) q N.out.drew G n;obtain⟨gk,pk,rfl⟩:=Kh n)
    |have q:fG (P+1) wr.drew rv (eH (T.take k)):=HO.out;go_region_law (refine Kg DU (.tmp 41) (.tmp 46) DU (P+1) wr.drew rv (eH (T.take k)) t DU q DU Y ax ?_;intro kv w5 n G;obtain⟨j5,o5,b5,c5,f5⟩:=aCG (w:=wr.drew) (w2:=w2) (HJ.out.keep (aB _ _).drew) q x.out.drew G n;obtain⟨gk,pk,rfl⟩:=Kh n)
    all_goals
     rw[<-b] at o5;have am:=hid j5;have ba:=hid o5;have bb:=hid b5;first|have:=xz;clear j5 o5 b5 c5 f5 n G b q q1 x0 x1 x2|clear j5 o5 b5 c5 f5 n G b q q1
     go_wp2_with fail;go_roundw
     ·exact⟨k1,_,by rw[<-E],I,am,ba,bb⟩
     ·exact bw
  ·have a7:k=T.length:=a_;subst a7;rw[List.take_length] at HO;have dk:decide ((T.length:Int)<(T.length:Int))=false:=aG a_;have ax:=HJ.out.lt;first|have:=xz;have hj:J w2.heap.size P l (eH T) (0,0) [] wr:=⟨rv,[], .slice none 0 0,HJ.out,fG.toTV HO.out,rfl,cD.nil _ _,a_⟩|have hj:QJ w2.heap.size P l (eH T) 0 [] wr:=⟨[], .slice none 0 0,rfl,rv,HJ.out,fG.toTV HO.out,a_,cD.nil _ _,a_⟩
   have a4:(eH T).length<=65536:=aZ (List.length_filter_le _ _) K;have M:Below w2.heap.size w2 wr:=by rw[hP];exact x.out
   first|have:=xz;have CV:=Jf w2 P l hl (az.out.1.keep V.out) (az.out.2.keep V.out) 32 a_ wr (eH T) (0,0) [] (0,0) 1 hj M ⟨a_,λt B=>aV.out t (List.mem_filter.1 B).1⟩ h_ a_;rw[HR.out] at CV|have CV:=Pk w2 P l (eH T) a4 hl (λt B=>aV.out t (List.mem_filter.1 B).1) (λt B=>an.out t (List.mem_filter.1 B).1) 32 a_ wr 0 (0,0) [] (0,0) 1 hj M (by rw[List.drop_zero,kS];omega) e_ a_;rw[List.drop_zero,HR.out] at CV
   have Q:=hid CV;have c:=hid M;clear CV hj M;cases R with
   | bad a er=>
    go_wp2_with fail;refine Q.out.mono ?_;first|have:=xz;rintro e w4 ⟨rfl,⟨aa,aA,l4,z4,al,jb, -, -, -⟩,z⟩;obtain⟨_,_,_,_,_,c5,c6,_⟩:=jb.cells|rintro e w4 ⟨rfl,⟨aa,lv4,k4,z4,al,jb, -, -, -⟩,z⟩;obtain⟨_,_,_,_,c4,c5,_⟩:=jb.cells
    obtain⟨d0,d1,d2,d3,dD⟩:=vT D.out c.out z;have f:Hid (Below w.heap.size w w4):=hid (V.out.trans ((c.out.trans z.bel).mono a_));have U:w.heap.size≠P:=a_;clear z jb
    first
    |have:=xy;go_upto_region 11 with fail;go_region
    |skip
    go_upto_region 15 with fail;go_region
    all_goals
     go_wp2_with fail
     try simp only[Exit.inBlock,Exit.then]
     refine bodyPost_ret (sM rfl _ _ rfl (u:= .string ⟨#[]⟩) (v:= .slice none 0 0) ?_ ?_) rfl ?_
     ·exact ar
     ·exact ar
     first
     |have:=xz
      ·exact nw
     |·exact zW (((f.out.drew.setCell (aD _) _).setCell (aD _) _).drew) _ rfl
   | ok rr l2 ns=>
    first
    |have:=xz;cases rr with
     | cons t rr=>
      obtain⟨Z,_,_,ag,_⟩:=mV l 32 _ _ _ _ _ _ _ HR.out;simp only[bH] at ag;go_wp2_with fail;refine Q.out.mono ?_;rintro e w4 ⟨rfl,aE,z⟩;have CF:=hid (pO _ P l (t::rr) l2 ns 2 w4 aE D7 a_);obtain⟨aA,z4,al,j1,j2,_⟩:=aE;obtain⟨g4,o4,c4,rfl,_⟩:=j2.head;have r1:=j1.cells.2.1;have s:=hid z;have drr:decide ((0:Int)<(rr.length:Int)+1)=true:=aO a_;clear z j1 j2;go_wp2_with fail;refine CF.out.mono ?_;rintro e w5 ⟨rfl,⟨aa,rv5,l5,z5,aS,jb, -, -, -⟩,m⟩;obtain⟨_,_,_,_,_,c5,c6,_⟩:=jb.cells;obtain⟨d0,d1,d2,d3,dD⟩:=vT D.out c.out (s.out.trans m);have f:Hid (Below w.heap.size w w5):=hid (V.out.trans ((c.out.trans (s.out.trans m).bel).mono a_));have U:w.heap.size≠P:=a_;clear m jb;go_upto_region 15 with fail;go_region
      all_goals
       go_wp2_with fail
       try simp only[Exit.inBlock,Exit.then]
       refine bodyPost_ret (sM rfl _ _ rfl (u:= .string ⟨#[]⟩) (v:= .slice none 0 0) ?_ ?_) rfl ?_
       ·exact ar
       ·exact ar
       ·exact nw
     | nil=>
      obtain⟨Z,ad,aC,ag,_⟩:=mV l 32 _ _ _ _ _ _ _ HR.out;go_wp2_with fail;refine Q.out.mono ?_;rintro e w4 ⟨rfl,⟨aA,z4,al,j1,j2,j3,j4,j5⟩,z⟩;obtain⟨p4,c4,rfl⟩:=j2.empty;obtain⟨_,q1,_,_,q4,_⟩:=j1.cells;obtain⟨d0,d1,d2,d3,dD⟩:=vT D.out c.out z;obtain⟨p5,c5,rfl⟩:=j4.slice;have f:Hid (Below w.heap.size w w4):=hid (V.out.trans ((c.out.trans z.bel).mono a_));have U:w.heap.size≠P:=a_;have ao:=hid (aK j3 j4);clear z j1 j2 j4;have ah:=hid dD;clear dD;go_wp2_with fail
      try simp only[Exit.inBlock,Exit.then]
      refine bodyPost_ret (sM rfl _ _ rfl (u:= .string (bs l)) (v:= .slice p5 z4.length c5) ?_ ?_) rfl ?_
      ·exact ar
      ·exact ar
      ·refine⟨_,rfl,⟨z4, .slice p5 z4.length c5,?_,ao.out.1,?_⟩,(f.out.setCell e_ _).setCell e_ _⟩
       ·exact j7
       ·exact(ao.out.2.other ah.out b_ b_ b_ (gJ (cT w4 w.heap.size 0 (.string (bs l))) (cT _ w.heap.size 1 (.slice p5 z4.length c5)))).base a_
    |obtain⟨Z,ad,aC,ag,_⟩:=mV l 32 _ _ _ _ _ _ _ HR.out;go_wp2_with fail;refine Q.out.mono ?_;rintro e w4 ⟨rfl,⟨k5,t5,aN,aH,hl2,aP⟩,z⟩;have am:=hid aP;have hk5:=(aR.1 aH).1;obtain⟨z5,aS,av,au⟩:=aP;have F:=hid au;have s:=hid z;obtain⟨lv5,ap,aI,_,a3,_⟩:=au;obtain⟨p6,c6,rfl⟩:=aI.slice;obtain⟨_,e1,e2,_⟩:=ap.cells;obtain⟨kk,I⟩:=exQ<|k5+1;have a9:=hid av;have ai:=hid aN;rw[I] at e2 F ai am;clear ap aI a3 z aN av;have hkk2:kk<=(eH T).length:=a_;by_cases hkl:kk<(eH T).length
     ·have ay:decide ((kk:Int)<((eH T).length:Int))=true:=aO a_;have ab:decide (kk<(eH T).length)=true:=aO hkl;obtain⟨tn,aW⟩: ∃tn,(eH T)[kk]?=some tn:=⟨_,bC hkl⟩;have CW:=hid (wR _ P l (eH T) kk z5 aS 2 w4.drew (F.out.keep (aB _ w4).drew) a_ a_);have ae:(eH T).drop kk=tn::(eH T).drop (kk+1):=by
       rw[fL hkl];congr 1;exact(aR.1 aW).2
      have HE:Hid (uE l.length (.ok rr l2 ns)=([],(tn.sf:Int),2)):=hid (by rw[ai.out,ae];rfl);have HH:Hid (cA l.length ((eH T).drop kk)=tn.sf):=hid (by rw[ae];rfl);clear ae aW;go_upto_region 11 with fail;go_region;go_wp2_with fail;refine CW.out.mono ?_;rintro e w5 ⟨rfl,⟨lv6,jb⟩,ho⟩;have hsz:=s.out.sz;have m:Fr w2.heap.size P wr w5:=s.out.trans ((Fr.of_below (aB _ w4).drew a_).trans (dC.fr ho a_ (show w2.heap.size<=w4.heap.size by omega)));obtain⟨_,_,_,_,c4,c5,_⟩:=jb.cells;rw[HH.out] at c4;obtain⟨d0,d1,d2,d3,dD⟩:=vT D.out c.out m;have f:Hid (Below w.heap.size w w5):=hid (V.out.trans ((c.out.trans m.bel).mono a_));have U:w.heap.size≠P:=a_;clear m jb ho ay ab e1 e2;go_upto_region 15 with fail;go_region
      all_goals
       go_wp2_with fail
       try simp only[Exit.inBlock,Exit.then]
       refine bodyPost_ret (sM rfl _ _ rfl (u:= .string ⟨#[]⟩) (v:= .slice none 0 0) ?_ ?_) rfl ?_
       ·exact ar
       ·exact ar
       ·exact zW (((f.out.setCell (aD _) _).setCell (aD _) _).drew) _ HE.out
     ·have ay:decide ((kk:Int)<((eH T).length:Int))=false:=aG a_;have ab:decide (kk<(eH T).length)=false:=aG hkl;have a8:rr= []:=by rw[ai.out];exact List.drop_eq_nil_of_le a_
      subst a8;obtain⟨p5,c5,rfl⟩:=F.out.at_.slice;have q4:=F.out.c3;obtain⟨d0,d1,d2,d3,dD⟩:=vT D.out c.out s.out;have f:Hid (Below w.heap.size w w4):=hid (V.out.trans ((c.out.trans s.out.bel).mono a_));have U:w.heap.size≠P:=a_;have ah:=hid dD;clear dD;go_upto_region 11 with fail;go_region;go_wp2_with fail
      try simp only[Exit.inBlock,Exit.then]
      refine bodyPost_ret (sM rfl _ _ rfl (u:= .string (bs l)) (v:= .slice p5 z5.length c5) ?_ ?_) rfl ?_
      ·exact ar
      ·exact ar
      ·refine⟨_,rfl,⟨z5, .slice p5 z5.length c5,?_,a9.out,?_⟩,(f.out.drew.setCell (aD _) _).setCell (aD _) _⟩
       ·exact j7
       ·exact((F.out.keep (aB _ w4).drew).at_.other ah.out b_ b_ b_ (gJ (cT w4.drew w.heap.size 0 (.string (bs l))) (cT _ w.heap.size 1 (.slice p5 z5.length c5)))).base a_):P:=h
theorem qo(h:P:=by
 first
 |first|have _:=yf|have _:=yg
  intro t kv iv w h H
 |intro t t2 kv iv kv2 iv2 w h h' H z
 obtain⟨m',hm,⟨pk,ck,rfl,aT,m⟩,p,c,rfl,aS,V⟩:=h.parts;obtain rfl:n=m':=a_
 first|have _:=yh;obtain⟨m2,aH,⟨M,E,rfl,al,v⟩,p2,c2,rfl,am,aa⟩:=h'.parts;obtain rfl:n=m2:=by omega|skip
 obtain⟨X,hX⟩:=exQ<|w.heap.size;obtain⟨W1,s⟩:=exQ<|w.alloc (.cells #[t.kind,bs t.text, .slice pk t.keys.length ck, .slice p t.items.length c] 36)
 first
 |first|have _:=yf|have _:=yg
  have ai:Hid (Below w.heap.size w W1):=hid (by rw[<-s];exact aL _ _);have B:Hid (jR W1 X t (.slice pk t.keys.length ck) (.slice p t.items.length c)):=hid (by rw[<-s,<-hX];exact jR.new w t _ _);have ab:=hid (V.keep ai.out);have ao:=hid (m.keep ai.out);have hb0:t.bulk=t.text.length+(nS t.keys+t.keys.length)+iG t.items+1:=by cases t;rw[VT.bulk];rfl
  have hlen:=zC t.items
 |skip
 first
 |have _:=yf;have ah:t.size=fE t.items+1:=by cases t;rw[VT.size];rfl
  have aQ:=Ih t.items
 |have _:=yg;have ah:t.depth=eY t.items+1:=by cases t;rw[VT.depth];rfl
  have aQ:=zB t.items
 |skip
 first
 |first|have _:=yf|have _:=yg
  rw[ah];unfold vv;clear V m h hm ah
 |skip
 first
 |have _:=yf;go_enter Tryz.func69,Tryz.ntmps69
 |have _:=yg;go_enter Tryz.func68,Tryz.ntmps68
 |obtain⟨X2,av⟩:=exQ<|W1.heap.size
  obtain⟨W2,T⟩:=exQ<|W1.alloc (.cells #[t2.kind,bs t2.text, .slice M t2.keys.length E, .slice p2 t2.items.length c2] 36);have aj:Below w.heap.size w W1:=by rw[<-s];exact aL _ _
  have I:Below W1.heap.size W1 W2:=by rw[<-T];exact aL _ _
  have f:=hid (aC aj I);have B:Hid (jR W2 X t (.slice pk t.keys.length ck) (.slice p t.items.length c)):=hid (jR.keep (by rw[<-s,<-hX];exact jR.new w t _ _) I);have u:Hid (jR W2 X2 t2 (.slice M t2.keys.length E) (.slice p2 t2.items.length c2)):=hid (by rw[<-T,<-av];exact jR.new W1 t2 _ _);have ab:=hid (V.keep f.out);have aq:=hid (aa.keep f.out);have ao:=hid (m.keep f.out);have ap:=hid (v.keep f.out);obtain⟨k1,Q⟩:=exQ<|t.kind;obtain⟨k2,U⟩:=exQ<|t2.kind;obtain⟨x1,W⟩:=exQ<|t.text;obtain⟨x2,R⟩:=exQ<|t2.text;obtain⟨n1,K⟩:=exQ<|t.keys.length;obtain⟨n2,F⟩:=exQ<|t2.keys.length;obtain⟨i1,l⟩:=exQ<|t.items.length;obtain⟨i2,C⟩:=exQ<|t2.items.length;unfold jR at B u;unfold vv;rw[Q,W,K,l] at s B;rw[U,R,F,C] at T u;rw[Q,U,W,R,K,F,l,C];have D:=hid (aK K (aK F (aK l C)));have aD:Hid (n1<=1073741824/\i1<=1073741824/\n2<=1073741824/\i2<=1073741824):=hid (by rw[<-K,<-F,<-l,<-C];exact⟨H.1,H.2.1,z.1,z.2.1⟩);have ax:Hid ((∀x∈t.items,vB n x)/\ ∀x∈t2.items,vB n x):=hid ⟨H.2.2,z.2.2⟩;have O:=hid (aK Q (aK U (aK W R)));clear V m h hm aj I aa v h' aH Q U W R K F l C H z aT al aS am;have hq:=aD.out;have ae:Hid (∀w',Below W2.heap.size W2 w'->(w'.cell? ⟨X,0,none⟩=some (.int .i64 k1)/\w'.cell? ⟨X,1,none⟩=some (.string (bs x1))/\w'.cell? ⟨X,2,none⟩=some (.slice pk n1 ck)/\w'.cell? ⟨X,3,none⟩=some (.slice p i1 c))/\w'.cell? ⟨X2,0,none⟩=some (.int .i64 k2)/\w'.cell? ⟨X2,1,none⟩=some (.string (bs x2))/\w'.cell? ⟨X2,2,none⟩=some (.slice M n2 E)/\w'.cell? ⟨X2,3,none⟩=some (.slice p2 i2 c2)):=hid (λw' h=>by obtain⟨e0,e1,e2,e3,_⟩:=bJ ((h.block X (aF B.out)).trans B.out);obtain⟨f0,f1,f2,f3,_⟩:=bJ ((h.block X2 (aF u.out)).trans u.out);exact⟨⟨e0,e1,e2,e3⟩,f0,f1,f2,f3⟩);have k:Hid (∀(b:Bool) w',(t=t2->b=true)->Below W2.heap.size W2 w'->Ow t t2 (.returned (.bool b))/\Below w.heap.size w w'):=hid (λb w' hb h=>⟨⟨b,rfl,hb⟩,aC f.out h⟩);go_enter Tryz.func12,Tryz.ntmps12
 go_upto_region 1 with fail
 first
 |first|have _:=yf|have _:=yg
  clear s;go_wp2_with fail
 |skip
 first|have _:=yf;go_loopw [3,4] (λs3 s4 wr=> ∃i:Nat,s3= .int .i64 (((fE (t.items.take i)+1:Nat)):Int)/\s4= .int .i64 (i:Int)/\i<=t.items.length/\Hid (Below W1.heap.size W1 wr)) (λ_ s4 _=>t.items.length-(RowKit.intOf s4).toNat)|have _:=yg;go_loopw [3,4] (λs3 s4 wr=> ∃i:Nat,s3= .int .i64 (eY (t.items.take i):Int)/\s4= .int .i64 (i:Int)/\i<=t.items.length/\Hid (Below W1.heap.size W1 wr)) (λ_ s4 _=>t.items.length-(RowKit.intOf s4).toNat)|skip
 first
 |first|have _:=yf|have _:=yg
  case atStart=>exact⟨0,by rw[List.take_zero];rfl,rfl,dY _,hid f_⟩
  case round=>
   obtain⟨i,rfl,rfl,hi,a⟩:=hrel;obtain⟨b0,b1,b2,b3⟩:=(B.out.keep a.out).cells;by_cases hil:i<t.items.length
   ·obtain⟨x,A⟩: ∃x,t.items[i]?=some x:=⟨_,bC hil⟩;have l:(i:Int)<(t.items.length:Int):=a_;have dk:decide ((i:Int)<(t.items.length:Int))=true:=aO l;have hxb:=zD (bD A);obtain⟨g,o,aP,aN,rfl,N,n0,n1,n2,n3,r⟩:=ab.out i x A;obtain⟨M,E,px,cx,rfl,rfl⟩:=r.form;have m0:wr.cell? ⟨g,o+i*4,none⟩=some (.int .i64 x.kind):=by rw[a.out.cell (p:=⟨g,_,none⟩) N];exact n0
    have m1:wr.cell? ⟨g,o+i*4+1,none⟩=some (.string (bs x.text)):=by rw[a.out.cell (p:=⟨g,_,none⟩) N];exact n1
    have m2:wr.cell? ⟨g,o+i*4+2,none⟩=some (.slice M x.keys.length E):=by rw[a.out.cell (p:=⟨g,_,none⟩) N];exact n2
    have m3:wr.cell? ⟨g,o+i*4+3,none⟩=some (.slice px x.items.length cx):=by rw[a.out.cell (p:=⟨g,_,none⟩) N];exact n3
    have HC:=hid (IH x _ _ wr (r.keep a.out) a_);unfold vv at HC
    first
    |have _:=yf;obtain⟨S,hS⟩:=exQ<|fE (t.items.take i)
     have P:fE (t.items.take (i+1))=S+x.size:=by rw[Nu A,yZ,hS];simp[fE]
     have hle:S+x.size<=fE t.items:=by
      have:fE t.items=fE (t.items.take (i+1))+fE (t.items.drop (i+1)):=(by rw[<-yZ,rR]);omega
    |obtain⟨S,hS⟩:=exQ<|eY (t.items.take i)
     have P:eY (t.items.take (i+1))=max S x.depth:=by rw[Nu A,Cs,hS];simp[eY]
    have D:=hid P;rw[hS];clear A r n0 n1 n2 n3 P hS;go_wp2_with fail;refine HC.out.mono ?_;rintro e w2 ⟨rfl,aw⟩;have f:=hid (aC a.out aw);clear aw b0 b1 b2 b3 m0 m1 m2 m3 HC;go_wp2_with fail;go_roundw
    first
    |have _:=yf;case rel=>exact⟨i+1,by rw[D.out];go_num,q_,a_,by first | exact f | exact hid (below_drewN f.out _)⟩
    |case rel=>exact⟨i+1,by rw[D.out];first | rfl | (congr 1;omega) | (simp;omega),q_,a_,by first | exact f | exact hid (below_drewN f.out _)⟩
    case measure=>simp[RowKit.intOf];omega
   ·have dk:decide ((i:Int)<(t.items.length:Int))=false:=aG a_;obtain rfl:i=t.items.length:=a_;rw[List.take_length];have f:=hid (aC ai.out a.out);go_wp2_with fail;go_ret;exact⟨by first | rfl | simp,by first | exact f.out | (rw[<-hX];exact f.out)⟩
 |clear s T av;obtain⟨⟨b0,b1,b2,b3⟩,d0,d1,d2,d3⟩:=ae.out W2 (aB _ _);by_cases hk:k1=k2;rotate_left
  ·have J:=hid hk;have ek:(k1 !=k2)=true:=E7;have aR:(k1==k2)=false:=E7;go_wp2_with fail;go_ret;exact k.out _ _ (λe=>absurd (by rw[<-O.out.1,<-O.out.2.1,e]) J.out) f_
  have ek:(k1 !=k2)=false:=E7
  have aR:(k1==k2)=true:=E7
  obtain⟨q1,et⟩:=exQ ((bs x1).toList==(bs x2).toList);have et2:((bs x1).toList !=(bs x2).toList)=!q1:=by rw[<-et];rfl
  have af:=hid et;cases q1 with
  | false=>
   clear hk;go_wp2_with fail;go_ret;exact k.out _ _ (λe=>by have:=af.out;rw[<-O.out.2.2.1,<-O.out.2.2.2,e] at this;simp at this) f_
  | true=>
  by_cases P:n1=n2;rotate_left
  ·have J:=hid P;have el:((n1:Int) !=(n2:Int))=true:=by simp;omega
   have el2:(n1 !=n2)=true:=(by simpa using P);have el3:((n1:Int)==(n2:Int))=false:=by simp;omega
   have el4:(n1==n2)=false:=(by simpa using P);clear hk;go_wp2_with fail;go_ret;exact k.out _ _ (λe=>absurd (by rw[<-D.out.1,<-D.out.2.1,e]) J.out) f_
  by_cases hi:i1=i2;rotate_left
  ·have J:=hid hi;have ei:((i1:Int) !=(i2:Int))=true:=by simp;omega
   have ei2:(i1 !=i2)=true:=(by simpa using hi);have ei3:((i1:Int)==(i2:Int))=false:=by simp;omega
   have ei4:(i1==i2)=false:=(by simpa using hi);clear hk;subst P;go_wp2_with fail;go_ret;exact k.out _ _ (λe=>absurd (by rw[<-D.out.2.2.1,<-D.out.2.2.2,e]) J.out) f_
  subst P hi;clear hk;go_wp2_with fail;clear b0 b1 b2 b3 d0 d1 d2 d3;go_loopw [5] (λs5 wr=> ∃i:Nat,s5= .int .i64 (i:Int)/\i<=n1/\Hid (Below W2.heap.size W2 wr)) (λs5 _=>n1-(RowKit.intOf s5).toNat)
  case atStart=>exact⟨0,rfl,dY _,hid f_⟩
  case round=>
   obtain⟨i,rfl,hi,a⟩:=hrel;obtain⟨⟨b0,b1,b2,b3⟩,d0,d1,d2,d3⟩:=ae.out wr a.out;by_cases hil:i<n1
   ·obtain⟨x,A⟩: ∃x,t.keys[i]?=some x:=⟨_,bC (by rw[D.out.1];exact hil)⟩;obtain⟨y,Z⟩: ∃x,t2.keys[i]?=some x:=⟨_,bC (by rw[D.out.2.1];exact hil)⟩;have l:(i:Int)<(n1:Int):=a_;have dk:decide ((i:Int)<(n1:Int))=true:=aO l;obtain⟨g,o,rfl,cx⟩:=(ao.out.keep a.out).at_ A;obtain⟨g2,o2,rfl,an⟩:=(ap.out.keep a.out).at_ Z;obtain⟨q,ex⟩:=exQ ((bs x).toList==(bs y).toList);have ex2:((bs x).toList !=(bs y).toList)=!q:=by rw[<-ex];rfl
    have af:=hid ex;have ag:=hid (aK A Z);have hi0:(0:Int)<=(i:Int):=a_;clear A Z;go_upto_region 6 with fail;go_region
    all_goals
     cases q with
     | false=>
      go_wp2_with fail;go_ret;exact k.out _ _ (λe=>by have h1:=af.out;have h2:=ag.out;rw[e,h2.2] at h2;rw[aV h2.1] at h1;simp at h1) (by first | exact a.out | exact a.out.drew)
     | true=>
      go_wp2_with fail;go_roundw
      case rel=>exact⟨i+1,q_,a_,by first | exact a | exact hid (below_drewN a.out _)⟩
      case measure=>simp[RowKit.intOf];omega
   ·have dk:decide ((i:Int)<(n1:Int))=false:=aG a_;go_wp2_with fail;clear b0 b1 b2 b3 d0 d1 d2 d3;go_loopw [6,7] (λs6 s7 wq=> ∃i:Nat,s6= .int .i64 (i:Int)/\i<=i1/\Hid (Below W2.heap.size W2 wq)) (λs6 _ _=>i1-(RowKit.intOf s6).toNat)
    case atStart=>exact⟨0,rfl,dY _,a⟩
    case round=>
     obtain⟨j,rfl,hj,d⟩:=hrel;obtain⟨⟨b0,b1,b2,b3⟩,d0,d1,d2,d3⟩:=ae.out wr d.out;by_cases hjl:j<i1
     ·obtain⟨x,A⟩: ∃x,t.items[j]?=some x:=⟨_,bC (by rw[D.out.2.2.1];exact hjl)⟩;obtain⟨y,Z⟩: ∃x,t2.items[j]?=some x:=⟨_,bC (by rw[D.out.2.2.2];exact hjl)⟩;have az:(j:Int)<(i1:Int):=a_;have aI:decide ((j:Int)<(i1:Int))=true:=aO az;have ag:=hid (aK A Z);obtain⟨g,o,aP,aN,rfl,N,n0,ar,n2,n3,r⟩:=ab.out j x A;obtain⟨aE,aM,px,cx,rfl,rfl⟩:=r.form;obtain⟨g2,o2,kv'',iv'',rfl,L,z0,z1,z2,z3,G⟩:=aq.out j y Z;obtain⟨ay,aJ,aA,an,rfl,rfl⟩:=G.form;have m0:wr.cell? ⟨g,o+j*4,none⟩=some (.int .i64 x.kind):=by rw[d.out.cell (p:=⟨g,_,none⟩) N];exact n0
      have m1:wr.cell? ⟨g,o+j*4+1,none⟩=some (.string (bs x.text)):=by rw[d.out.cell (p:=⟨g,_,none⟩) N];exact ar
      have m2:wr.cell? ⟨g,o+j*4+2,none⟩=some (.slice aE x.keys.length aM):=by rw[d.out.cell (p:=⟨g,_,none⟩) N];exact n2
      have m3:wr.cell? ⟨g,o+j*4+3,none⟩=some (.slice px x.items.length cx):=by rw[d.out.cell (p:=⟨g,_,none⟩) N];exact n3
      have q0:wr.cell? ⟨g2,o2+j*4,none⟩=some (.int .i64 y.kind):=by rw[d.out.cell (p:=⟨g2,_,none⟩) L];exact z0
      have q1:wr.cell? ⟨g2,o2+j*4+1,none⟩=some (.string (bs y.text)):=by rw[d.out.cell (p:=⟨g2,_,none⟩) L];exact z1
      have q2:wr.cell? ⟨g2,o2+j*4+2,none⟩=some (.slice ay y.keys.length aJ):=by rw[d.out.cell (p:=⟨g2,_,none⟩) L];exact z2
      have q3:wr.cell? ⟨g2,o2+j*4+3,none⟩=some (.slice aA y.items.length an):=by rw[d.out.cell (p:=⟨g2,_,none⟩) L];exact z3
      have HC:=hid (IH x y _ _ _ _ wr.drew ((r.keep d.out).keep (aB _ _).drew) ((G.keep d.out).keep (aB _ _).drew) (ax.out.1 x (bD A)) (ax.out.2 y (bD Z)));unfold vv at HC;have hj0:(0:Int)<=(j:Int):=a_;clear A Z n0 ar n2 n3 z0 z1 z2 z3 r G N L;go_upto_region 11 with fail;go_region_with (go_at_call 12;(refine HC.out.mono ?_);rintro e w6 ⟨⟨bq,rfl,ak⟩,au⟩)
      all_goals
       have Y:=hid (aC d.out (aC (aB _ _).drew au));have ad:=hid ak;clear ak au b0 b1 b2 b3 d0 d1 d2 d3 m0 m1 m2 m3 q0 q1 q2 q3;cases bq with
       | false=>
        have ad:Hid (x=y->False):=hid (λe=>by cases ad.out e);go_wp2_with fail;go_ret;exact k.out _ _ (λe=>by have h2:=ag.out;rw[e,h2.2] at h2;exact(ad.out (aV h2.1).symm).elim) (by first | exact Y.out | exact Y.out.drew)
       | true=>
        go_wp2_with fail;go_roundw
        case rel=>exact⟨j+1,q_,a_,by first | exact Y | exact hid (below_drewN Y.out _)⟩
        case measure=>simp[RowKit.intOf];omega
     ·have aI:decide ((j:Int)<(i1:Int))=false:=aG a_;go_wp2_with fail;go_ret;exact k.out _ _ (λ_=>rfl) (by first | exact d.out | exact d.out.drew)):P:=h
theorem qz(h:P:=by
 have sl:=aM l;obtain⟨R,hR⟩:=exQ<|bV l a;rw[hR];unfold bV at hR;rw[fV] at hR
 first|have _:=yu;have HV:=hid hV;have HT:=hid hT;clear hV hT|skip
 by_cases h34:l[a]?=some 34
 ·rw [if_pos ⟨a_,h34⟩] at hR;have cz:a<l.length:=(aR.1 h34).1;have aj:a<(bs l).size:=a_
  have t1:((((bs l)[a]'aj).toNat:Int) !=34)=false:=by
   have:=cK l a aj;rw[h34] at this;have h2:(bs l)[a]'aj=34:=(by simpa using this.symm);rw[h2];rfl
  first|have _:=yw;have t1':(((bs l)[a]'aj).toNat:Int)=34:=by simpa using t1|skip
  have d1:decide (l.length<=a)=false:=aG a_;have HR:=hid hR;clear hR h34
  first
  |have _:=yu;go_enter Tryz.func149,Tryz.ntmps149;go_wp2_with fail;go_loopw [1,8,9] (λs1 _ _ wr=> ∃(i f:Nat) (v:List UInt8),s1= .int .i64 i/\i<=l.length/\v.length<=4*i/\l.length<i+f/\Hid (dQ f (l.drop i) i v=R)/\Hid (nP w.heap.size w.heap.size v wr)/\Hid (Below w.heap.size w wr)) (λs1 _ _ _=>l.length-(RowKit.intOf s1).toNat)
   case atStart=>exact⟨a+1,l.length+1,[],q_,a_,e_,a_,HR.out,nP.new w,aL w _⟩
  |go_enter Tryz.func90,Tryz.ntmps90;go_wp2_with fail;go_loopw [7,8,9,10,11,12,13] (λs7 s8 _ _ _ _ _ wr=> ∃(i f:Nat) (v:List UInt8),s7= .string (bs v)/\s8= .int .i64 i/\i<=l.length/\v.length<=4*i/\l.length<i+f/\Hid (dQ f (l.drop i) i v=R)/\Hid (Below w.heap.size w wr)) (λ_ s8 _ _ _ _ _ _=>l.length-(RowKit.intOf s8).toNat)
   case atStart=>exact⟨a+1,l.length+1,[],rfl,q_,a_,e_,a_,HR.out,aB _ _⟩
  case round=>
   first|have _:=yu;obtain⟨i,f,v,rfl,hi,a2,hf,HG,a9,HW⟩:=hrel|obtain⟨i,f,v,rfl,rfl,hi,a2,hf,HG,HW⟩:=hrel
   obtain⟨g,rfl⟩: ∃g,f=g+1:=⟨f-1,a_⟩;first|have _:=yw;have sa:=aM v|skip
   by_cases F:i<l.length
   ·have y:i<(bs l).size:=a_;have O:l.drop i=l[i]'F::l.drop (i+1):=fL F;have al:=cK l i y;rw[bC F] at al;have Y:(bs l)[i]'y=l[i]'F:=(by simpa using al.symm);have ae:=fU ((bs l)[i]'y) 34 34 rfl;first|have _:=yw;have bZ:=fU ((bs l)[i]'y) 92 92 rfl|skip
    have A:=HG.out;rw[O] at A;unfold dQ at A;rw[<-O,<-Y] at A;clear HG;by_cases V:(bs l)[i]'y=34
    ·rw[if_pos V] at A;have HF:=hid A;rw[beq_iff_eq.2 V] at ae;first|have _:=yu;clear A O al Y V;go_wp2_with fail;refine(Tryz.Builder_String_any_k w.heap.size w.heap.size v _ a9.out HW.out.size).mono ?_;rintro e W1 ⟨rfl,_,b1,_⟩|clear A O al Y V bZ
     go_wp2_with fail;go_ret3;first|have _:=yu;exact⟨by rw[<-HF.out];rfl,HW.out.trans b1⟩|exact em
    ·rw[if_neg V] at A;rw[aE.2 V] at ae;have hne:l.drop i≠ []:=by rw[O];exact List.cons_ne_nil _ _
     have ai:=rP (l.drop i) hne;rw[aU] at ai
     first
     |have _:=yu;obtain⟨P,hP⟩:=exQ<|eX (l.drop i)
      obtain⟨rn,wd⟩:=P;have CP:Hid (∀w,eB w->cW w->Calls Tryz.prog 184 #[((bs l).extract i l.length)] w λe w'=>e= .returned (.tuple #[.int .i32 rn,wd])/\Below w.heap.size w w'):=hid (λw h1 h2=>by have:=Rg (l.drop i) w hne y_ h1 h2;rw[hP] at this;rw[iD _ _ _ rfl];exact this);rw[hP] at A ai;simp only[] at A ai;obtain⟨p0,p1,p2⟩:=ai;have hz:w.heap.size<=wr.heap.size:=HW.out.size;clear O al Y V hne hP;by_cases hw0:wd=0
      ·rw[if_pos hw0] at A;have HF:=hid A;subst hw0;clear A p2;go_wp2_with fail;refine(CP.out _ (HV.out.keep HW.out) (HT.out.keep HW.out)).mono ?_;exact lf
      ·rw[if_neg hw0] at A;obtain⟨N,rfl⟩: ∃N:Nat,wd=N:=⟨wd.toNat,a_⟩;rw[fV,jJ] at A;have hN:1<=N/\N<=l.length-i:=a_;have bM:=Lib.runeCells_le rn;rw[Lib.runeCells_length] at bM;have cN:((N:Int)==0)=false:=aE.2 hw0;have ag:=hid A;clear A hw0 p2;go_wp2_with fail;refine(CP.out _ (HV.out.keep HW.out) (HT.out.keep HW.out)).mono ?_;rintro e w1 ⟨rfl,o⟩;have au:=hid (a9.out.keep o);have ak:=hid (HW.out.trans (o.mono hz));clear o;go_wp2_with fail;refine(yS w.heap.size w.heap.size v rn _ au.out ⟨p0,p1⟩ a_ ak.out.size).mono ?_;rintro e w2 ⟨rfl,h2,b2,_⟩;have aN:=hid h2;have ah:=hid (ak.out.trans b2);clear h2 b2;go_wp2_with fail;go_roundw
       case rel=>exact⟨i+N,g,v++Lib.encodeRune rn,q_,a_,by rw[aT];omega,a_,ag.out,aN.out,ah.out⟩
       case measure=>simp[RowKit.intOf];omega
     |by_cases h92:(bs l)[i]'y=92
      ·rw[beq_iff_eq.2 h92] at bZ;have ce:eX (l.drop i)=nO (l.drop i):=by
        unfold eX;rw[O,if_pos (by rw[List.head?_cons,<-Y,h92])]
       obtain⟨P,hP⟩:=exQ<|eX (l.drop i);have CE:Hid (∀w,Calls Tryz.prog 128 #[bs l,i] w λe w'=>e=Ad P/\Below w.heap.size w w'):=hid (λw=>by have:=Wb (bs l) i w y a_;rw[aQ,<-ce,hP] at this;exact this);rw[hP] at A ai;obtain⟨rn,wd⟩:=P;have bf:=Wd (rn,wd);unfold Ad at CE;simp only[] at A ai CE bf;obtain⟨p0,p1,p2⟩:=ai;obtain⟨E,hE⟩:=exQ<|xO (rn,wd);rw[hE] at CE bf;have hz:w.heap.size<=wr.heap.size:=HW.out.size;clear O al Y V hne hP ce h92 hE;by_cases hw0:wd=0
       ·rw[if_pos hw0] at A;have HF:=hid A;subst hw0;clear A p2 bf;go_wp2_with fail;refine(CE.out _).mono ?_;exact lf
       ·rw[if_neg hw0] at A;have cR:=bf hw0;subst cR;obtain⟨N,rfl⟩: ∃N:Nat,wd=N:=⟨wd.toNat,a_⟩;rw[fV,jJ] at A;have hN:1<=N/\N<=l.length-i:=a_;have bM:=Lib.runeCells_le rn;rw[Lib.runeCells_length] at bM;have se:=aM (Lib.encodeRune rn);have cN:((N:Int)==0)=false:=aE.2 hw0;have bj: ¬9223372036854775807<(bs v).size+(bs (Lib.encodeRune rn)).size:=a_;have ag:=hid A;clear A hw0 p2 bf;go_wp2_with fail;refine(CE.out _).mono ?_;rintro e w1 ⟨rfl,o⟩;have ak:=hid (HW.out.trans (o.mono hz));clear o;go_wp2_with fail;go_roundw
        case rel=>exact⟨i+N,g,v++Lib.encodeRune rn,by first | rw[kK] | (congr 1;exact(kK _ _)) | rfl,q_,a_,by rw[aT];omega,a_,ag.out,ak.out⟩
        case measure=>simp[RowKit.intOf];omega
      ·rw[aE.2 h92] at bZ;have bJ: ¬l[i]'F=92:=by rw[<-Y];exact h92
       have a4:=mB (bs l) i;rw[aQ] at a4;have ar:=Wc (l.drop (i+1)) (l[i]'F) bJ (fB (bs l) i) (by rw[<-O,a4];unfold fB bL bG;rw[Bool.eq_iff_iff];simp;omega);rw[<-O,a4] at ar;have CG:=hid (λw=>vX (bs l) i w y a_);have CN:=hid (λw=>vW (bs l) i w y a_);have bp:=lH (bs l) i y;have a3:(l[i]'F).toNat=((bs l)[i]'y).toNat:=(by rw[Y]);rw[a3] at ar;obtain⟨RU,a8⟩:=exQ<|bL (bs l) i;obtain⟨WD,aY⟩:=exQ<|bG (bs l) i;obtain⟨GB,ba⟩:=exQ<|fB (bs l) i;have e1:((Utf8.decode (bs l) i).1:Int)=RU:=a8;have e2:(Utf8.decode (bs l) i).2=WD:=aY;rw[e1,e2,ba] at ar;rw[ba] at CG;rw[a8,aY] at CN;rw[aY] at bp;obtain⟨b3,bR⟩:=ar;clear a4 a8 aY ba e1 e2 bJ a3 O al Y V hne h92 ai;by_cases hb32:((bs l)[i]'y).toNat<32\/GB=false
       ·have hP:=b3 hb32;rw[hP,if_pos rfl] at A;have HF:=hid A;clear A hP b3 bR;by_cases h3:(((bs l)[i]'y).toNat:Int)<32
        ·exact j9
        ·have:GB=false:=hb32.resolve_left a_;subst this;exact j9
       ·have h3: ¬(((bs l)[i]'y).toNat:Int)<32:=a_;have cq:GB=true:=(by cases GB with | true=>rfl | false=>exact absurd (.inr rfl) hb32);subst cq;obtain⟨hP,cf⟩:=bR a_ rfl;rw[hP] at A;simp only[] at A;rw[if_neg a_,fV,jJ,cf] at A;have ag:=hid A;have aP:(bs l).extract i (i+WD)=bs ((l.drop i).take WD):=by
         apply ByteArray.ext;apply Array.ext';simp[bs,List.drop_take]
        have bO:=aM ((l.drop i).take WD);rw[bT,aU] at bO;have bj: ¬9223372036854775807<(bs v).size+(bs ((l.drop i).take WD)).size:=a_;clear hb32 A hP cf b3 bR;go_wp2_with (go_at_call 91;refine(CG.out _).mono ?_;rintro e w' ⟨rfl,rfl⟩);refine(CN.out _).mono ?_;rintro e w' ⟨rfl,rfl⟩;go_wp2_with fail;go_roundw
        case rel=>exact⟨i+WD,g,v++(l.drop i).take WD,by congr 1<;>first | rw[aP,kK] | rw[aP] | rfl,q_,a_,by rw[aT,bT,aU];omega,a_,ag.out,HW.out⟩
        case measure=>simp[RowKit.intOf];omega
   ·have A:=HG.out;rw[List.drop_of_length_le a_] at A;have HF:=hid (show ([],(i:Int),2)=R from A);obtain rfl:i=l.length:=a_;clear A HG;go_wp2_with fail;go_ret3;exact em
 ·rw[if_neg (λh=>h34 h.2)] at hR;subst hR;by_cases cz:a<l.length
  ·have aj:a<(bs l).size:=a_;have t1:((((bs l)[a]'aj).toNat:Int) !=34)=true:=by
    rw[eF];intro h;first|have _:=yu;apply h34;rw[cK l a aj];have:((bs l)[a]'aj)=34:=UInt8.toNat_inj.1 (by show _=34;omega);rw[this]|refine h34 ?_;rw[cK l a aj];congr 1;exact UInt8.toNat_inj.1 (by have:((34:UInt8).toNat)=34:=rfl;omega)
   clear h34;first|have _:=yu;go_enter Tryz.func149,Tryz.ntmps149|go_enter Tryz.func90,Tryz.ntmps90
   go_wp2_with fail;go_ret3;exact ab
  ·first
   |have _:=yu;clear h34;go_enter Tryz.func149,Tryz.ntmps149
   |obtain rfl:a=l.length:=a_
    clear h34;go_enter Tryz.func90,Tryz.ntmps90
   go_wp2_with fail;go_ret3;exact ab):P:=h
theorem rc(h:P:=by
 have sl:=aM l;obtain⟨R,hR⟩:=exQ<|eO l;rw[hR];unfold eO at hR;have h0:0<(bs l).size:=by rw[aM];exact qV.2 hne
 have hl0:0<l.length:=a_
 have ae:=iE l 34 34 rfl h0;have aa:=iE l 39 39 rfl h0;have ao:=iE l 91 91 rfl h0;have ad:=iE l 123 123 rfl h0;obtain⟨x,hx⟩: ∃x:Int,(((bs l)[0]'h0).toNat:Int)=x:=⟨_,rfl⟩;first|have:=za;obtain⟨F1,F2⟩:=Yo l h0 x hx|skip
 rw[hx] at ae aa ao ad;first|have:=vm;have HV:=hid hV;have HT:=hid hT;have HM:=hid hM;clear hV hT hM hne|skip
 cases ap:gN l 0 45 with
 | true=>
  first|have:=vm;have CS:=hid (λw=>wA l 0 45 0 45 true rfl rfl ap hs a_ w)|skip
  rw[if_pos ap] at hR;subst hR
  first
  |have:=vm;clear ap ae aa ao ad;exact gx
  |obtain⟨bD,hr⟩:=F1 ap;clear ap ae aa ao ad F1 F2;rcases hr with t1 | ⟨t1,h1,ty⟩
   all_goals
    go_enter Tryz.func66,Tryz.ntmps66;exact bo
 | false=>
  first|have:=vm;have CS:=hid (λw=>wA l 0 45 0 45 false rfl rfl ap hs a_ w)|skip
  rw[if_neg (by rw[ap];simp)] at hR;first|have:=vm;clear ap|have hr:=F2 ap;clear ap F1 F2
  by_cases V:l.head?=some 34\/l.head?=some 39
  ·rw[if_pos V] at hR;first|have:=vm;have CQ:=hid (λw hV hT=>Eg l w hs hV hT)|have CQ:=hid (λw=>Az l w hs)
   obtain⟨q,co⟩:=exQ<|cU l;have cy:=Ai l;rw[co] at CQ hR cy;clear ao ad;have TQ:((x==34)||(x==39))=true:=by
    rw[ae,aa];rcases V with h | h<;>rw[h]<;>rfl
   first
   |have:=za;have HQ:x=34\/((x==34)=false/\x=39):=by
     by_cases h:x=34
     ·exact .inl h
     ·right;have bk:(x==34)=false:=aE.2 h;rw[bk] at TQ;exact⟨bk,by simpa using TQ⟩
    have bD:(x==45)=false:=ES;clear ae aa V TQ hr
   |skip
   cases o:gN l q 58 with
   | true=>
    first|have:=vm;have am:=hid (λw=>wA l q 58 q 58 true rfl rfl o hs a_ w)|have am:=hid (λw=>Ba l q q true rfl o hs a_ w)
    rw[if_pos o] at hR;exact ix
   | false=>
    first|have:=vm;have am:=hid (λw=>wA l q 58 q 58 false rfl rfl o hs a_ w)|have am:=hid (λw=>Ba l q q false rfl o hs a_ w)
    rw[if_neg (by rw[o];simp)] at hR;exact ix
  ·rw [if_neg V] at hR;rw[show (l.head?==some 34)=false from aE.2 (λh=>V (.inl h))] at ae;rw[show (l.head?==some 39)=false from aE.2 (λh=>V (.inr h))] at aa
   first
   |have:=za;have CN:=hid (λw=>Mo l 0 w hs a_);obtain⟨N,hN⟩:=exQ<|dZ l 0;have bW:=(uF l 0).1;rw[hN] at CN hR bW
   |skip
   by_cases hbr:l.head?=some 91\/l.head?=some 123
   ·rw[if_pos hbr] at hR;subst hR
    first
    |have:=vm;by_cases hx91:x=91
     ·subst hx91;clear ae aa ao ad V hbr;exact gx
     ·have bi:(x==91)=false:=aE.2 hx91;have t123:(x==123)=true:=by
       rw[ad];rcases hbr with h | h
       ·rw[bi,h] at ao;cases ao
       ·rw[h];rfl
      clear ao ad V hbr hx91;exact gx
    |have HQ:x=91\/((x==91)=false/\x=123):=by
      by_cases h:x=91
      ·exact .inl h
      ·right;have bi:(x==91)=false:=aE.2 h;refine⟨bi,?_⟩;rcases hbr with h | h
       ·rw[bi,h] at ao;cases ao
       ·rw[h] at ad;exact beq_iff_eq.1 (by rw[ad];rfl)
     have bD:(x==45)=false:=ES;have ci:x=123->(x !=91)=true:=by rintro rfl;rfl
     by_cases h1N:1<N
     ·have dN:decide (1<N)=true:=aO h1N;exact oq
     ·have dN:decide (1<N)=false:=aG h1N;exact oq
   ·rw [if_neg hbr] at hR;rw[show (l.head?==some 91)=false from aE.2 (λh=>hbr (.inl h))] at ao;rw[show (l.head?==some 123)=false from aE.2 (λh=>hbr (.inr h))] at ad
    first
    |have:=vm;have CN:=hid (λw hM=>Ll l 0 w hs a_ hM);obtain⟨N,hN⟩:=exQ<|dZ l 0;have bW:=(uF l 0).1;rw[hN] at CN hR bW
    |have n91:(x !=91)=true:=by rw[bne,ao];rfl
     have n123:(x !=123)=true:=by rw[bne,ad];rfl
    have HR:=hid hR;clear V hbr hR hN
    first
    |have:=vm;go_enter Tryz.func145,Tryz.ntmps145;go_wp2_with (go_at_call 179;refine(CS.out _).mono ?_;rintro e w' ⟨rfl,rfl⟩);go_loop [6] (λs6=> ∃k f:Nat,s6= .int .i64 k/\1<=k/\k<=l.length+1/\l.length<k+f/\Hid (qU l N f k=R)) (λs6=>l.length+1-(RowKit.intOf s6).toNat)
     case atStart=>exact⟨1,l.length,rfl,a_,a_,a_,HR.out⟩
     case round=>
      obtain⟨k,f,rfl,cg,cm,hf,HG⟩:=hrel;by_cases hkN:N<=k
      ·have HF:Hid (R=(5,0)):=li;have dk:decide (k<N)=false:=aG a_;go_wp2_with (go_at_call 180;refine(CN.out _ HM.out).mono ?_;rintro e w' ⟨rfl,rfl⟩);go_ret2;exact⟨by rw[HF.out];rfl,aB _ _⟩
      ·have dk:decide (k<N)=true:=aO a_;obtain⟨g,rfl⟩: ∃g,f=g+1:=⟨f-1,a_⟩;have h1:=HG.out;rw[Ak,if_neg hkN] at h1;cases o:gN l k 58 with
       | true=>
        have am:=hid (λw=>wA l k 58 k 58 true rfl rfl o hs a_ w);rw[if_pos o] at h1;have HF:=hid h1;clear h1 o HG;go_wp2_with (first | (go_at_call 180;refine(CN.out _ HM.out).mono ?_;rintro e w' ⟨rfl,rfl⟩) | (go_at_call 179;(with_reducible refine(am.out _).mono ?_);rintro e w' ⟨rfl,rfl⟩));go_ret2;exact⟨by rw[<-HF.out];rfl,aB _ _⟩
       | false=>
        have am:=hid (λw=>wA l k 58 k 58 false rfl rfl o hs a_ w);rw[if_neg (by rw[o];simp)] at h1;have ag:=hid h1;clear h1 o HG;go_wp2_with (first | (go_at_call 180;refine(CN.out _ HM.out).mono ?_;rintro e w' ⟨rfl,rfl⟩) | (go_at_call 179;(with_reducible refine(am.out _).mono ?_);rintro e w' ⟨rfl,rfl⟩));exact kw
    |rcases hr with bD | ⟨bD,t1,h1,ty⟩
     all_goals
      go_enter Tryz.func66,Tryz.ntmps66;go_wp2_with (go_at_call 67;refine(CN.out _).mono ?_;rintro e w' ⟨rfl,rfl⟩);go_loop [6] (λs6=> ∃k f:Nat,s6= .int .i64 k/\1<=k/\k<=l.length+1/\l.length<k+f/\Hid (qU l N f k=R)) (λs6=>l.length+1-(RowKit.intOf s6).toNat)
      case atStart=>exact⟨1,l.length,rfl,a_,a_,a_,HR.out⟩
      case round=>
       obtain⟨k,f,rfl,cg,cm,hf,HG⟩:=hrel;by_cases hkN:N<=k
       ·have HF:Hid (R=(5,0)):=li;have dk:decide (k<N)=false:=aG a_;go_wp2_with fail;go_ret2;exact⟨by rw[HF.out];rfl,aB _ _⟩
       ·have dk:decide (k<N)=true:=aO a_;obtain⟨g,rfl⟩: ∃g,f=g+1:=⟨f-1,a_⟩;have h1:=HG.out;rw[Ak,if_neg hkN] at h1;cases o:gN l k 58 with
        | true=>
         have am:=hid (λw=>Ba l k k true rfl o hs a_ w);rw[if_pos o] at h1;have HF:=hid h1;clear h1 o HG;go_wp2_with (go_at_call 101;(with_reducible refine(am.out _).mono ?_);rintro e w' ⟨rfl,rfl⟩);go_ret2;exact⟨by rw[<-HF.out];rfl,aB _ _⟩
        | false=>
         have am:=hid (λw=>Ba l k k false rfl o hs a_ w);rw[if_neg (by rw[o];simp)] at h1;have ag:=hid h1;clear h1 o HG;go_wp2_with (go_at_call 101;(with_reducible refine(am.out _).mono ?_);rintro e w' ⟨rfl,rfl⟩);exact kw):P:=h
theorem qk(h:P:=by
 obtain⟨R,G⟩:=exQ<|w.heap.size;obtain⟨W1,o⟩:=exQ<|w.alloc (.cells #[(0:Int), .string ⟨#[]⟩,(),()] 36);have z:Hid (Below w.heap.size w W1):=hid (by rw[<-o];exact aL _ _);have j:Hid (W1.heap[R]?=some (.cells #[(0:Int),bs [],(),()] 36)):=hid (by rw[<-o,<-G];exact heap_alloc_new w _);have m:=hid (aF j.out)
 first|have _:=vw;have F:=hid (hV.keep z.out);have CP:=hid (Ve s _ rfl W1 a_ F.out.2 F.out.tabs)|have CP:=hid (hCP W1)
 have d:(fP s).2.2=0->(fP s).1.length<=65536:=λ_=>Ds s;unfold jL;obtain⟨⟨ns,at_,er⟩,hP⟩:=exQ<|fP s;rw[hP] at CP d;rw[hP];simp only[] at d ⊢;have I:=hid hP;unfold xM at CP;simp only[] at CP
 first|have _:=vw;clear hV hP|clear hCP hP
 by_cases he:er=0
 ·subst he;rw[if_neg e_];simp only[];first|have _:=vw;have hs:s.length<=1073741824:=by have:=Ws I.out;omega|skip
  have J:=hid (Cv I.out);have C:sL s ns=s:=by
   have:=J.out.lt;cases ns with
   | nil=>simp at this
   | cons _ _=>rfl
  rw[C] at CP;have L:=d rfl;have K:=hid L;clear d C L;first|have _:=vw;go_enter Tryz.func81,Tryz.ntmps81|go_enter Tryz.func59,Tryz.ntmps59
  go_upto_region 1 with fail;clear o;go_wp2_with fail;refine CP.out.mono ?_;rintro e w1 ⟨p,c,rfl,k,h⟩;have r:=aL w1 (.cells #[bs s, .slice p ns.length c] 134);have y:=aC h r;have A:=hid y;first|have _:=vw;have u:=hid (Lg s ns p c K.out hs 32 0 ns.length 1 _ J.out (hid rfl) (aD _) (k.keep r) (F.out.keep y))|have u:=hid (Nx s ns p c K.out hs 32 0 ns.length _ J.out (k.keep r))
  clear k h r y CP;go_wp2_with fail;refine u.out.mono ?_;rintro e w4 ⟨⟨kv,iv,rfl,x⟩,B⟩;obtain⟨pk,ck,px,cx,rfl,rfl⟩:=x.form;have l:=hid (aC A.out B);have H:=hid (x.mono (ok':=λq=>W1.heap.size<=q) (λq M _=>aZ A.out.size M));have a:=hid (iJ z.out (by rw[G];exact aD _) m.out H.out l.out j.out);obtain⟨r0,r1,r2,r3,f0,f1,f2,f3⟩:=bJ ((l.out.block R m.out).trans j.out);unfold vv;clear x B u;go_wp2_with fail;obtain⟨WF,f⟩:=exQ<|bB w4 R (bE s ns 32 0).kind (bE s ns 32 0).text (.slice pk (bE s ns 32 0).keys.length ck) (.slice px (bE s ns 32 0).items.length cx);rw[f] at a;have b:(((w4.setCell ⟨R,0,none⟩ (.int .i64 (bE s ns 32 0).kind)).setCell ⟨R,1,none⟩ (.string (bs (bE s ns 32 0).text))).setCell ⟨R,2,none⟩ (.slice pk (bE s ns 32 0).keys.length ck)).setCell ⟨R,3,none⟩ (.slice px (bE s ns 32 0).items.length cx)=WF:=f;rw[b];clear f b r0 r1 r2 r3 f0 f1 f2 f3;obtain⟨d0,d1,d2,d3,_⟩:=bJ a.out.2.2;refine bodyPost_ret (v:= .tuple #[vv (bE s ns 32 0) (.slice pk (bE s ns 32 0).keys.length ck) (.slice px (bE s ns 32 0).items.length cx),at_,(0:Int)]) ?_ rfl ⟨⟨_,_,rfl,a.out.1⟩,a.out.2.1⟩;exact km
 ·rw[if_pos he];simp only[];have de:(er !=0)=true:=by simp[he]
  clear d I;first|have _:=vw;go_enter Tryz.func81,Tryz.ntmps81|go_enter Tryz.func59,Tryz.ntmps59
  go_upto_region 1 with fail;clear o;go_wp2_with fail;refine CP.out.mono ?_;rintro e w1 ⟨p,c,rfl,k,h⟩;have HB1':=hid h;obtain⟨w4,E⟩:=exQ<|w1.alloc (.cells #[bs (sL s ns), .slice p ns.length c] 134);have l:Hid (Below W1.heap.size W1 w4):=hid (aC h (by rw[<-E];exact aL _ _));have a:=hid (iJ (t:=fD) z.out (by rw[G];exact aD _) m.out (kY _ _ _ _) l.out j.out);obtain⟨r0,r1,r2,r3,f0,f1,f2,f3⟩:=bJ ((l.out.block R m.out).trans j.out);clear k h CP;go_wp2_with fail;obtain⟨WF,f⟩:=exQ<|bB w4 R fD.kind fD.text (.slice none 0 0) (.slice none 0 0);rw[f] at a;have b:(((w4.setCell ⟨R,0,none⟩ (.int .i64 0)).setCell ⟨R,1,none⟩ (.string ⟨#[]⟩)).setCell ⟨R,2,none⟩ (.slice none 0 0)).setCell ⟨R,3,none⟩ (.slice none 0 0)=WF:=f;rw[b];clear f b r0 r1 r2 r3 f0 f1 f2 f3;obtain⟨d0,d1,d2,d3,_⟩:=bJ a.out.2.2;refine bodyPost_ret (v:= .tuple #[vv fD (.slice none 0 0) (.slice none 0 0),at_,er]) ?_ rfl ⟨⟨_,_,rfl,a.out.1⟩,a.out.2.1⟩;exact km):P:=h
theorem qw(h:P:=by
 intro n
 induction n with
 | zero=>intro t kv iv w h;exact h.elim
 | succ m ih=>
  intro t kv iv w h A;obtain⟨m',P,F,p,c,rfl,G,u⟩:=h.parts;obtain rfl:m=m':=a_
  obtain⟨k,s,ks,l⟩:=t
  first
  |have _:=yp;obtain⟨R,r⟩:=exQ<|(VT.mk k s ks l).size
   rw[r];rw[VT.size] at r
  |obtain⟨R,r⟩:=exQ<|(VT.mk k s ks l).depth
   rw[r];rw[VT.depth] at r
  simp only[VT.items] at G u;have j:iG l<=1099511627776:=by rw[VT.bulk] at A;omega
  have hll:l.length<=1099511627776:=aZ (zC l) j;have Q:=hid r;have D:=hid u;have L:=hid ih;clear r u ih h F P A;unfold vv;simp only[VT.kind,VT.text,VT.items];first|have _:=yp;go_enter Tryz.func108,Tryz.ntmps108;go_wp2_with fail;go_loopw [3,9] (λs3 s9 wr=> ∃(i:Nat),s3= .int .i64 ((fE (l.take i)+1:Nat):Int)/\s9= .int .i64 (i:Int)/\i<=l.length/\Hid (Below w.heap.size w wr)) (λ_ s9 _=>l.length-(RowKit.intOf s9).toNat)|go_enter Tryz.func109,Tryz.ntmps109;go_wp2_with fail;go_loopw [3,9] (λs3 s9 wr=> ∃(i:Nat),s3= .int .i64 ((eY (l.take i):Nat):Int)/\s9= .int .i64 (i:Int)/\i<=l.length/\Hid (Below w.heap.size w wr)) (λ_ s9 _=>l.length-(RowKit.intOf s9).toNat)
  case atStart=>exact⟨0,rfl,rfl,dY _,hid (aL w _)⟩
  case round=>
   obtain⟨i,rfl,rfl,hi,v⟩:=hrel;by_cases hil:i<l.length
   ·obtain⟨x,y⟩: ∃x,l[i]?=some x:=⟨_,bC hil⟩;obtain⟨g,o,kv',iv',rfl,hg,n0,n1,n2,n3,q⟩:=D.out.keep v.out i x y;obtain⟨pk,ck,px,cx,rfl,rfl⟩:=q.form;have J:=aZ (zD (bD y)) j;have M:(i:Int)<(l.length:Int):=a_;have dk:decide ((i:Int)<(l.length:Int))=true:=aO M
    first
    |have _:=yp;have f:fE (l.take i)+1+x.size=fE (l.take (i+1))+1:=by rw[vN y,yZ,fE,fE];omega
     have d:fE (l.take (i+1))<=iG l:=by
      have N:fE (l.take (i+1))<=fE l:=by
       have:=yZ (l.take (i+1)) (l.drop (i+1));rw[rR] at this;omega
      exact aZ N (Ih l)
    |have f:max (eY (l.take i)) x.depth=eY (l.take (i+1)):=by rw[vN y,Cs,eY,eY];omega
     have d:eY (l.take (i+1))<=iG l:=by
      have N:eY (l.take (i+1))<=eY l:=by
       have:=Cs (l.take (i+1)) (l.drop (i+1));rw[rR] at this;omega
      exact aZ N (zB l)
    have HX:=hid y;have E:=hid q;have H:=hid f;have I:=hid d;clear y q f d;go_upto_region 5 with fail;have B:=hid (aL wr (.cells #[.int .i64 x.kind, .string (bs x.text), .slice pk x.keys.length ck, .slice px x.items.length cx] 36));have O:=hid (L.out x _ _ (wr.alloc (.cells #[.int .i64 x.kind, .string (bs x.text), .slice pk x.keys.length ck, .slice px x.items.length cx] 36)) (E.out.keep B.out) J);unfold vv at O;go_wp2_with fail;refine O.out.mono ?_;rintro e w2 ⟨rfl,C⟩;have K:=hid (aC v.out (aC B.out C));have d:=I.out;have f:=H.out;first|have _:=yp;have z:((fE (l.take i)+1:Nat):Int)+(x.size:Int)=((fE (l.take (i+1))+1:Nat):Int):=by omega|have z:max ((eY (l.take i):Nat):Int) (x.depth:Int)=((eY (l.take (i+1)):Nat):Int):=by omega
    clear C;go_wp2_with fail;go_roundw
    ·exact⟨i+1,by congr 1<;>omega,rfl,hil,K⟩
    ·simp only[RowKit.intOf];omega
   ·have dk:decide ((i:Int)<(l.length:Int))=false:=aG a_;obtain rfl:i=l.length:=a_;rw[List.take_length];have hdl:eY l<=1099511627776:=aZ (zB l) j;go_wp2_with fail;go_ret;exact⟨by rw[<-Q.out];first | rfl | simp,v.out⟩):P:=h
theorem rd(h:P:=by
 first
 |have:=zb;subst hc34;clear j i TQ B
 |have:=zc;have al:(cc==34)=false:=aE.2 hc34;have ap:(cc==39)=true:=by rw[al] at TQ;simpa using TQ
  clear j i TQ hc34
 |skip
 first
 |first|have:=zb|have:=zc
  go_wp2_with fail;(with_reducible refine(CQ.out _ (HV.out.keep d.out.1.b) (HT.out.keep d.out.1.b)).mono ?_);rintro e w3 ⟨rfl,L⟩;have f:=hid (aK (d.out.1.keep L) (d.out.2.keep L));clear L
 |have:=zd;rw[if_pos h35] at c;have V:=hid c;have t35:(cc==35)=true:=by rw[B,h35];rfl
  clear c B j i h35 hU hUe;go_upto_region 14 with fail;go_cut [] (λwx=>Hid (bW w x y aW wx/\bF wx X ⟨2,x,y,n,0,0,x+n,x+n,x+n,y⟩))
  case first=>
   go_region
   all_goals go_wp2_with fail
   all_goals go_meet
   all_goals first
    | exact⟨(((d.out.1.set E 0 _).set E 8 _).set E 9 _).drew,eP (eP (eP d.out.2 0 _) 8 _) 9 _⟩
    | exact⟨(((d.out.1.set E 8 _).set E 9 _).set E 0 _).drew,eP (eP (eP d.out.2 8 _) 9 _) 0 _⟩
  have f:=hcut
 |skip
 first
 |first|have:=zd|have:=zb|have:=zc
  clear s0 s1 a0 a1 a2 a3 a4 a5 a6 a7 a8 a9 g0 g1 g2 g3 g4 g5 g6 g7 g8 g9 b0 b1 b2 b3 b4 b5 b6 b7 b8 b9 I t p r m M F K G J;obtain⟨s0,s1⟩:=f.out.1.s.cells;obtain⟨a0,a1,a2,a3,a4,a5,a6,a7,a8,a9,g0,g1,g2,g3,g4,g5,g6,g7,g8,g9⟩:=f.out.2.cells;obtain⟨b0,b1,b2,b3,b4,b5,b6,b7,b8,b9,I,t,p,r,m,M,F,K,G,J⟩:=f.out.1.l.cells;go_wp2_with fail
 |skip
 first
 |first|have:=zb|have:=zc
  obtain⟨W,u⟩:=exQ (cY w3 (w.heap.size+1) aW);have N:=(bW.put (r2:=aW) f.out.1)
 |have:=zd;go_region;obtain⟨W,u⟩:=exQ<|(cY wc (w.heap.size+1) ⟨2,x,y,n,0,0,x+n,x+n,x+n,y⟩).drew;have N:=(bW.put (r2:=⟨2,x,y,n,0,0,x+n,x+n,x+n,y⟩) f.out.1).drew
 |have he:(bs U).toList= []:=by rw[Lib.toList_data,aQ,hUe]
  have he2:(bs U).toList.isEmpty=true:=by rw[he];rfl
  have V:Hid (fQ U=some ⟨1,0,0,0,none⟩):=hid (by rw[hUe];rfl);clear hU hUe;go_wp2_with fail;go_region;obtain⟨W,u⟩:=exQ<|(cY wc (w.heap.size+1) ⟨1,x,y,n,0,0,x+n,x+n,0,0⟩).drew;have N:=(bW.put (r2:=⟨1,x,y,n,0,0,x+n,x+n,0,0⟩) d.out.1).drew
 rw[u] at N;have g:=hid N;clear N
 first
 |first|have:=zb|have:=zc
  dsimp only[cY,aW] at u
 |dsimp only[cY] at u
 rw[u];clear u;clear s0 s1 a0 a1 a2 a3 a4 a5 a6 a7 a8 a9 g0 g1 g2 g3 g4 g5 g6 g7 g8 g9 b0 b1 b2 b3 b4 b5 b6 b7 b8 b9 I t p r m M F K G J;obtain⟨c0,c1,c2,c3,c4,c5,c6,c7,c8,c9,_⟩:=g.out.l.cells;go_wp2_with fail
 first
 |first|have:=zb|have:=zc
  refine bodyPost_ret (v:= .tuple #[dW aW, .int .i64 ((x:Int)+(n:Int)),(2:Int)]) ?_ rfl ⟨?_,g.out.b⟩
 |have:=zd;refine bodyPost_ret (v:= .tuple #[dW ⟨2,x,y,n,0,0,x+n,x+n,x+n,y⟩,y,(0:Int)]) ?_ rfl ⟨?_,g.out.b⟩
 |refine bodyPost_ret (v:= .tuple #[dW ⟨1,x,y,n,0,0,x+n,x+n,0,0⟩,y,(0:Int)]) ?_ rfl ⟨?_,g.out.b⟩
 ·exact fw
 first
 |first|have:=zb|have:=zc
  ·rw[V.out];rfl
 |·rw[V.out]
   exact sX (by unfold oV;simp)):P:=h
theorem ui(h:P:=by
 first
 |have:=BK;have hr:oM txt hm (L.drop k)= .bad (cA txt.length (L.drop k)) 2:=by
   cases hd:L.drop k with
   | nil=>rfl
   | cons t r=>
    rw[hd] at h8;exact if_pos (show t.kind≠8 from h8)
  rw[hr];obtain⟨q,hq⟩:=exQ<|dI (L.drop k);rw[hq] at CK h8;have d0:((q:Int) !=8)=true:=eF.2 a_;clear I ab b0 h hq h8 hr hH am;go_enter Tryz.func198,Tryz.ntmps198;go_upto_region 1 with fail;go_wp2_with fail;refine CK.out.mono ?_;rintro e w1 ⟨rfl,f⟩;have CW:=hid (wR B P txt L k z nv 2 w1 (aW.out.keep f) a_ a_);have S:=hid (gJ aS.out (dC.of_below (P:=P) f));have y:=hid ((f.block _ (aF aa.out)).trans aa.out);clear f CK
 |subst he;have Z:u∈hm:=bD hu;have hr:oM txt hm (L.drop k)= .bad (cA txt.length (L.drop k)) 7:=by
   rw[aT.out,if_pos Z,bt.out];rfl
  have de:((bs u).toList==(bs u).toList)=true:=e_
  rw[hr];have CW:=hid (wR B P txt L k z nv 7 wr av.out a_ a_);clear hu Z hr x ae ag
 go_wp2_with fail;refine CW.out.mono ?_
 first
 |have:=BK;rintro e w2 ⟨rfl,⟨br,N⟩,ho⟩;have ap:=(ho.block X (aF y.out) EW).trans y.out;obtain⟨x0,x1,ak,ar⟩:=lG ap;have G:=hid N;have ad:=hid (gJ S.out ho);have J:=hid ap;clear N ho ap;go_wp2_with fail;have C:=hid (bN (bN J.out 0 (.int .i64 0)) 1 (.int .i64 0));have n:=hid (dC.new (i:=1) (u:= .int .i64 0) (dC.new (i:=0) (u:= .int .i64 0) ad.out m.out) m.out);have s:=hid ((G.out.off (i:=0) (u:= .int .i64 0) d).off (i:=1) (u:= .int .i64 0) d);obtain⟨W3,A⟩:=exQ<|(w2.setCell ⟨X,0,none⟩ (.int .i64 0)).setCell ⟨X,1,none⟩ (.int .i64 0)
 |rintro e w6 ⟨rfl,⟨lv6,N⟩,ho⟩;have au:=(ho.block X (aF aC.out) EW).trans aC.out;obtain⟨x0,x1,ak,ar⟩:=lG au;have bd:=hid N;have bi:=hid (gJ a5.out ho);have bk:=hid au;clear N ho au;go_wp2_with fail;have C:=hid (bN (bN bk.out 0 (.int .i64 0)) 1 (.int .i64 0));have n:=hid (dC.new (i:=1) (u:= .int .i64 0) (dC.new (i:=0) (u:= .int .i64 0) bi.out m.out) m.out);have s:=hid ((bd.out.off (i:=0) (u:= .int .i64 0) d).off (i:=1) (u:= .int .i64 0) d);obtain⟨W3,A⟩:=exQ<|(w6.setCell ⟨X,0,none⟩ (.int .i64 0)).setCell ⟨X,1,none⟩ (.int .i64 0)
 rw[A] at C n s;rw[A];obtain⟨d0,d1,_,_⟩:=lG C.out;refine bodyPost_ret (v:= .tuple #[.string ⟨#[]⟩, .agg #[(0:Int),(0:Int)],false]) ?_ rfl ⟨⟨_,_,_,rfl⟩,lF.of R.out n.out s.out,n.out⟩;simp[results,Tryz.results198,go_sem,d0,d1]):P:=h
theorem ta(h:P:=by
 first
 |have:=AN;have CS:=hid (aCl B P txt L (k+1) z nv W6.drew aI a_ 7 h7 b_);have hr:oM txt hm (L.drop k)= .ok b t:=by
   rw[ai.out];cases hd:L.drop (k+1) with
   | nil=>rw[hd] at h7;cases h7
   | cons c q=>
    rw[hd] at h7;have bm:c.kind=7:=h7;simp only[bm];rw[if_neg e_]
 |have CS:=hid (aCm B P txt L (k+1) z nv W6.drew aI a_ a_ 7 h7);have hr:oM txt hm (L.drop k)= .bad (cA txt.length (L.drop (k+1))) 2:=by
   rw[ai.out];cases hd:L.drop (k+1) with
   | nil=>rfl
   | cons c q=>
    rw[hd] at h7;exact if_pos (show c.kind≠7 from h7)
 have bj:=hid hr;clear hr h7 aI
 first
 |have:=AN;go_region_with (go_at_call 215;refine CS.out.mono ?_;rintro e w7 ⟨rfl,F,p⟩;have aJ:=hid ((p.block Y a1 (by simpa using ao)).trans aK);have D:=hid ((p.block X ah EW).trans aj);have Q:=hid (gJ a2 p);have al:=hid F;clear F p;obtain⟨y0,y1,_,_⟩:=lG aJ.out;obtain⟨x0,x1,ak,ar⟩:=lG D.out)
 |go_region_with (go_at_call 215;refine CS.out.mono ?_;rintro e w7 ⟨rfl,⟨lv7,F⟩,p⟩;have aJ:=hid ((p.block Y a1 (by simpa using ao)).trans aK);have D:=hid ((p.block X ah EW).trans aj);have Q:=hid (gJ a2 p);have al:=hid F;clear F p;obtain⟨y0,y1,_,_⟩:=lG aJ.out;obtain⟨x0,x1,ak,ar⟩:=lG D.out)
 all_goals
  go_wp2_with fail;have C:=hid (bN (bN D.out 0 (.int .i64 (t.sf:Int))) 1 (.int .i64 (t.st:Int)));have n:=hid (dC.new (i:=1) (u:= .int .i64 (t.st:Int)) (dC.new (i:=0) (u:= .int .i64 (t.sf:Int)) Q.out m.out) m.out);first|have:=AN;have s:=hid (QZ.off (i:=1) (u:= .int .i64 (t.st:Int)) R.out (dC.new (i:=0) (u:= .int .i64 (t.sf:Int)) Q.out m.out) (QZ.off (i:=0) (u:= .int .i64 (t.sf:Int)) R.out Q.out al.out m.out D.out) m.out (bN D.out 0 _))|have s:=hid ((al.out.off (i:=0) (u:= .int .i64 (t.sf:Int)) d).off (i:=1) (u:= .int .i64 (t.st:Int)) d)
  obtain⟨W3,A⟩:=exQ<|(w7.setCell ⟨X,0,none⟩ (.int .i64 (t.sf:Int))).setCell ⟨X,1,none⟩ (.int .i64 (t.st:Int));rw[A] at C n s;rw[A];obtain⟨d0,d1,_,_⟩:=lG C.out;rw[bj.out]
  first|have:=AN;refine bodyPost_ret (v:= .tuple #[bs b, .agg #[t.sf,t.st],true]) ?_ rfl ⟨rfl,s.out,n.out⟩|refine bodyPost_ret (v:= .tuple #[bs b, .agg #[t.sf,t.st],false]) ?_ rfl ⟨⟨_,_,_,rfl⟩,lF.of R.out n.out s.out,n.out⟩
  simp[results,Tryz.results198,go_sem,d0,d1]):P:=h
theorem rm(h:P:=by
 intro d a w' iq o' hO ho hi E aa F R' G;first|have:=zm;have Z:=eA aa [(0,some P),(1,k),(2,lev),(7,some X1)] rfl rfl;have hc:=F.all [(0,40),(1,41),(2,42),(3,43),(4,44),(5,45),(6,46),(8,48),(9,49)] b_|have Z:=eA aa [(0,some P),(1,k),(2,lev),(12,some X3)] rfl rfl;have hc:=F.all [(7,57),(0,58),(1,59),(2,60),(3,61),(4,62),(5,63),(8,65),(9,66)] b_
 dsimp only[dX,dT,lk] at Z hc;clear aa;have ha:=E;have ad:=ho
 repeat' rcases hO with _ | ⟨_,hO⟩
 all_goals (simp only[dA,cR,bZ,cG] at ho;subst ho;try simp[Region.binds] at E)
 ·first|have:=zm;have c44:=F.gg 4 44 c_;have Ao:=F.gg 5 45 c_|have yY:=F.gg 3 61 c_;have lz:=F.gg 4 62 c_
  have hA:Below W0.heap.size W0 w':=F.at2 (j:=0) rfl (F.ln hi) (.inl rfl);go_simp;go_at_call 23;refine(CB.out _ (bn.out.keep hA)).mono ?_;rintro e w5 ⟨rfl,aj⟩;exact G _ _ (F.qu ad ha hi (λ_=>ak.out _ (aC hA aj)) (λk c hk hp=>by obtain rfl:k=0:=EY;exact aC (show Below W0.heap.size W0 w' from hp) aj) (λx hx=>hx))
 ·first|have:=zm;have zH:=F.gg 0 40 c_;have xH:=F.gg 1 41 c_;have c42:=F.gg 2 42 c_;have c43:=F.gg 3 43 c_;have AN:=F.gg 6 46 c_|have qa:=F.gg 0 58 c_;have zp:=F.gg 1 59 c_;have xJ:=F.gg 2 60 c_;have sx:=F.gg 5 63 c_
  have ab:=F.at2 (j:=0) rfl hi (.inl rfl);have hA:Below W0.heap.size W0 w':=ab;go_simp;first|have:=zm;go_at_call 37|go_at_call 38
  refine(CA.out _ (bn.out.keep hA)).mono ?_;exact oz
 ·have j6:=F.fin (λe he=>by simp at he;subst he;simp[E]);first|have:=zm;have sm:a.tmps[47]?.getD undef= .tuple #[nq,bq]:=by rw[<-aI];exact j6.1|have xz:a.tmps[64]?.getD undef= .tuple #[nq,bq]:=by rw[<-aI];exact j6.1
  exact ag
 first
 |have:=zm
  ·have j6:=F.fin (λe he=>by simp at he;subst he;simp[E]);have sm:a.tmps[47]?.getD undef= .tuple #[nq,bq]:=by rw[<-aI];exact j6.1
   exact ag
  iterate 7 (go_simp;exact G _ _ (F.pu ad ha))
 |iterate 8 (go_simp;exact G _ _ (F.pu ad ha))
 all_goals
  have L:=F.ea hi;rw[<-ah] at L;first|have:=zm;obtain⟨s0,s1⟩:=L|obtain⟨b0,b1,b2,b3,b4,b5,b6,b7,b8⟩:=L
  exact ag):P:=h
theorem uw(h:P:=by
 first
 |have:=B0;have de:((i:Int)==(n:Int))=false:=aE.2 a_;have de2:(i==n)=false:=aE.2 a_;have de3:decide (i=n)=false:=aG a_;have xO:(i:Int)<(n:Int):=a_
  obtain⟨l,hl⟩: ∃l,ls[i]?=some l:=⟨_,bC a_⟩;rw[hl] at hr;simp only[] at hr;obtain⟨sv,lv,hK⟩:=HJ.out;obtain⟨gl,c9,e9,r4,I⟩:=hK.lineAt hl;have b0:=I 0 _ a_ rfl;have b1:=I 1 _ a_ rfl;have b2:=I 2 _ a_ rfl;have b3:=I 3 _ a_ rfl;have b4:=I 4 _ a_ rfl;have b5:=I 5 _ a_ rfl;have b6:=I 6 _ a_ rfl;have b7:=I 7 _ a_ rfl;have b8:=I 8 _ a_ rfl;have b9:=I 9 _ a_ rfl;have e8:=hK.cells.1.2.2.1;rw[c2,e9] at e8;have e7:=(Value.slice.inj (aV e8)).1;clear e8;subst e7;have CC:=hid (λw=>Md l w);unfold dW at CC;have bi:=hid hr;simp only[Nat.add_zero] at b0;clear hr hK hl eg e9 r4 I hx gO cL dv;by_cases hc:kF l=true
 |by_cases hc:kF r=true
 ·rw[if_pos hc] at bi;rw[hc] at CC;clear hc;go_wp2_with fail;refine(CC.out _).mono ?_;first|have:=B0;rintro e w2 ⟨rfl,bp⟩;have HF:=hid (HJ.out.keep bp);clear bp|rintro e w3 ⟨rfl,bI⟩;have HF:=hid (ed.out.keep bI);clear bI
  go_wp2_with fail;go_ret2;rw[<-bi.out];exact am
 ·rw[if_neg hc] at bi;first|have:=B0;have sj:kF l=false:=by simpa using hc|have sj:kF r=false:=by simpa using hc
  rw[sj] at CC;clear hc sj;go_wp2_with fail;refine(CC.out _).mono ?_;first|have:=B0;rintro e w2 ⟨rfl,bp⟩;have HF:=hid (HJ.out.keep bp);clear bp|rintro e w3 ⟨rfl,bI⟩;have HF:=hid (ed.out.keep bI);clear bI
  go_wp2_with fail;go_roundw
  first
  |have:=B0
   ·exact⟨i1,ls,by rw[<-br],eo,hid (by have:=il.out;have:=HL.out;have:=HN.out;omega),hid (by rw[<-il.out];exact bi.out),HF⟩
  |·exact⟨i1,ls++ [r],by rw[<-br],eo,hid (by rw[aT,dS];have:=il.out;have:=HN.out;omega),hid (by rw[<-il.out];exact bi.out),HF⟩
  ·exact aq):P:=h
theorem ri(h:P:=by
 obtain⟨q,C,r,A⟩:=h.ph;have y:=(aR.1 he).1;obtain rfl:j=q:=by
  have B: ¬j<q:=λg=>by rw[(r j i he).2 g] at hi;cases hi
  cases j with
  | zero=>omega
  | succ j'=>exact pm
 first
 |have:=zi;have c: ∀m,m≠i->gZ sl (cB v dst x) m=gZ sl v m:=λm b=>by
   cases dst with
   | none=>rfl
   | some k=>exact tU hnd hk x b
 |have c: ∀m,m≠i->fI sl (cB v dst x) m=fI sl v m:=λm b=>by
   cases dst with
   | none=>rfl
   | some k=>exact pI hnd hk x b
 have l: ∀(f:aY d i (eff.getLastD 0)=false),i≠eff.getLastD 0/\d (eff.getLastD 0)=false:=λf=>by
  have hne:i≠eff.getLastD 0:=λe=>by rw[<-e,xE] at f;cases f
  exact⟨hne,by rw[iH (Ne.symm hne)] at f;exact f⟩
 refine⟨λm b p u s=>?_,h.clo.step ho hall,λf=>?_,λf z=>?_,j+1,y,λm e b=>?_,?_⟩
 ·have t:m≠i:=λe=>p (e ▸ bD he);rw[c m t];rw[iH t] at s;exact h.cl m b p u s
 ·exact hS (l f).1
 ·rw[c fr (Ne.symm hfr)];rw[iH (Ne.symm hfr)] at z;exact hF (l f).1 _ (h.fb (l f).2 z)
 ·by_cases hmj:m=j
  ·subst hmj;rw[he] at b;injection b with b;subst b;rw[xE];exact⟨λ_=>tV _,λ_=>rfl⟩
  ·first|have:=zi;have n:e≠i:=λe2=>hmj (Is hne (by rw[<-e2];exact b) he)|have n:e≠i:=λe2=>hmj (Yc hne (by rw[<-e2];exact b) he)
   rw[iH n,r m e b];omega
 ·first|have:=zi;rw[xF,he]|rw[xY,he]
  simp only[hk];cases dst with
  | none=>exact hP
  | some k=>
   simp only[];first|have:=zi;rw[Cz hk]|rw[Au hk]
   exact hP):P:=h
theorem uu(h:P:=by
 have d6:((q1:Int) !=6)=true:=eF.2 a_
 first
 |have:=BX;have dc:((q1:Int) !=(closing:Int))=true:=eF.2 a_;have C:JR.bad (cA txt.length (L.drop (k3+1))) 2=R:=by
   rw[<-eD.out];have hq:=bx.out;cases hd:L.drop (k3+1) with
   | nil=>rfl
   | cons t r'=>
    rw[hd] at hq;have d3:t.kind=q1:=hq;simp only[];rw[if_neg a_,if_neg a_];rfl
  have HR:=hid C;clear C hgo
 |have cn:q1=closing:=hgo.resolve_left h6;have dc:((q1:Int) !=(closing:Int))=false:=by rw[cn];simp
  clear h6 hgo cn
 go_wp2_with fail;refine(b7.out _ (aB _ _)).mono ?_;rintro e w4 ⟨rfl,aO⟩;have a7:=hid aO;clear aO;go_wp2_with fail;refine(b7.out _ a7.out).mono ?_;rintro e w5 ⟨rfl,ak⟩;have a4:=hid (aC a7.out ak)
 first
 |have:=BX;obtain⟨z5,fI,d1,cZ⟩:=bp.out.keep a4.out;have CW:=hid (wR _ P txt L (k3+1) z5 fI 2 w5 cZ a_ a_);have dB:=hid cZ;have fu:=hid d1;clear ak d1 cZ;go_wp2_with fail;refine CW.out.mono ?_;rintro e w6 ⟨rfl,⟨lv6,eC⟩,di⟩;have ae:=lF.of dB.out di eC;have bA:=hid ae;have cY:Hid (qN P w<=z5.length):=hid (by have h1:=dj.out;have h2:=congrArg List.length fu.out;rw[bR,aT] at h2;omega);have ao:=hid (O.out.trans ((Fr.of_below (P:=P) a4.out (aZ G O.out.sz)).trans (dC.fr di af (by have:=O.out.sz;have:=a4.out.size;omega))));clear ae di eC;go_wp2_with fail;go_ret;rw[<-HR.out];exact⟨rfl,bA.out.mono cY.out,ao.out⟩
 |clear ak;go_wp2_with fail;go_meet;exact⟨rfl,a4⟩):P:=h
theorem ry(h:P:=by
 have h1:=h.keep (W1.bel w P key);have CK:=hid (tX _ P txt rest l nodes _ h1 a_);have CO:=hid (zM (dI rest) (W1 w P key))
 first
 |first|have:=zx|have:=zy
  obtain⟨q,I⟩:=exQ<|dO (dI rest);rw[I] at CO hk;have d0:((q:Int)==0)=false:=aE.2 a_
 |skip
 first|have:=zx;have d1:decide (32<lev)=true:=aO hlev;have CF:=hid (pO _ P txt rest l nodes 5 _ h1 a_ a_)|have:=zy;have d1:decide (32<lev)=false:=aG a_;have CF:=hid (pO _ P txt rest l nodes 6 _ h1 a_ a_)|rw[hk] at CO;have CF:=hid (pO _ P txt rest l nodes 2 _ h1 a_ a_)
 have hX:=(lQ (W1.X w P key)).1;have HN:=hid (mW (h.nodesN.trans h1.nodesN.symm));have HF:=hid (Fr.of_below (P:=P) (W1.bel w P key) hb.size)
 first
 |first|have:=zz|have:=zx
  clear h h1 hb
 |obtain⟨rv,z,nv,b1,_,b3,b4,_⟩:=h1;obtain⟨p0,c0,rfl⟩:=b4.slice;have q4:=b1.cells.2.2.2.2.1;have hz:z.length=4096:=by rw[<-hm,<-b3,bR]
  rw[hz] at q4;clear h hb b1 b3 b4 hz hm
 go_enter Tryz.func151,Tryz.ntmps151;go_upto_region 1 with fail;change Code.wp _ _ _ _ (W1 w P key);go_wp2_with fail;refine CK.out.mono ?_;rintro e w2 ⟨rfl,rfl⟩;go_wp2_with fail;refine CO.out.mono ?_;rintro e w2 ⟨rfl,rfl⟩;go_wp2_with fail;refine CF.out.mono ?_;rintro e w3 hE;have HE:=hid (VE.bad_of (txt:=txt) hE HN.out HF.out);obtain⟨rfl, -, -⟩:=hE;exact cd):P:=h
theorem ru(h:P:=by
 first|have:=zr;rw[if_pos t1] at A|have:=zt;rw[if_pos t2] at A|skip
 first
 |first|have:=zr|have:=zt
  subst A;clear p1 p2 p3
 |obtain rfl:R=(cF,2):=by have h1:kJ l=none:=X.out;have o:=HR.out;unfold dP at o;rw[h1] at o;exact o.symm
 go_wp2_with (go_at_call 29;go_must (refine(C1.out _).mono ?_);rintro e w' ⟨rfl,rfl⟩);have P:=iA ((Below.heap_alloc (((w1.setCell ⟨w.heap.size,0,none⟩ (.bool false)).setCell ⟨w.heap.size,1,none⟩ (.string ⟨#[]⟩)).setCell ⟨w.heap.size,2,none⟩ (.int .i64 0)) (.cells #[n,lo,bs a,bs b,bs c] 139) w.heap.size (by simp[World.setCell];exact aq)).trans (bN (bN (bN C.out 0 (.bool false)) 1 (.string ⟨#[]⟩)) 2 (.int .i64 0)));clear r0 r1 r2 g0 g1 g2;obtain⟨r0,r1,r2,g0,g1,g2⟩:=P;first|have:=zr;refine bodyPost_ret (v:= .tuple #[dV cF,(3:Int)]) ?_ rfl ⟨rfl,?_⟩|have:=zt;refine bodyPost_ret (v:= .tuple #[dV cF,(4:Int)]) ?_ rfl ⟨rfl,?_⟩|refine bodyPost_ret (v:= .tuple #[dV cF,(2:Int)]) ?_ rfl ⟨rfl,?_⟩
 ·simp[results,Tryz.results63,go_sem,r0,r1,r2,dV,cF];rfl
 ·refine Below.alloc ?_ DO _;exact dt):P:=h
theorem tu(h:P:=by
 first|have:=A5;obtain⟨j,m⟩:=World.ownsRow.stored h.row (n*7+i) u|obtain⟨j,m⟩:=World.ownsRow.stored h.row (n*9+i) u
 obtain⟨g',cap',cur,e,_,_,b⟩:=h.form (λe=>by rw[e] at hy;simp at hy);have o:g=g':=by injection e with e;injection e with e;injection e
 subst o;first|have:=A5;rw[zG z n y y' hy i u hi hu] at j|rw[iC,xT _ 9 xU z n y y' hy i u hi hu] at j
 have f: ∀x∈z.set n y',x=y'\/x∈z:=λx c=>(List.mem_or_eq_of_mem_set c).symm;first|have:=A5;refine⟨by rw[List.length_set];exact j,λx c=>?_,λx c=>?_,?_,?_⟩|refine⟨by rw[List.length_set];exact j,λx c=>?_,?_⟩
 ·rcases f x c with rfl | c
  ·rw[hk,h1];have k:=h.kids y (bD hy);exact k.kept m (cQ k b b_)
  ·exact(h.kids x c).kept m (cQ (h.kids x c) b b_)
 first
 |have:=A5
  ·rcases f x c with rfl | c
   ·rw[hp,h1];have k:=h.pcs y (bD hy);exact k.kept m (cQ k b b_)
   ·exact(h.pcs x c).kept m (cQ (h.pcs x c) b b_)
 |skip
 ·exact h.ak.set hy (.inl (by rw[h1]))
 first
 |have:=A5
  ·exact h.ap.set hy (.inl (by rw[h1]))
 |skip):P:=h
theorem rq(h:P:=by
 rcases s with⟨e1,rfl⟩ | ⟨e1,e2⟩
 ·have C:=hid (f.out true ((D.out true true rfl rfl _ u).trans rfl));clear u;go_wp2_with fail;go_region
  all_goals go_wp2_with fail
  all_goals
   refine bodyPost_ret (v:= .tuple #[.agg #[ng,lo,Wh,bs rs,bs xf],true]) ?_ rfl ⟨⟨ng,lo,wh,rs,xf,true,by rw[J.out],?_⟩,?_⟩
   ·exact bz
   ·exact C.out
   ·exact la
 ·have C:=hid (f.out b4 ((D.out true true rfl rfl _ u).trans e_));clear u;go_wp2_with fail;go_region
  all_goals go_wp2_with fail
  all_goals
   refine bodyPost_ret (v:= .tuple #[.agg #[ng,lo,Wh,bs rs,bs xf],b4]) ?_ rfl ⟨⟨ng,lo,wh,rs,xf,b4,by rw[J.out],?_⟩,?_⟩
   ·exact bz
   ·exact C.out
   ·exact la):P:=h
theorem ro(h:P:=by
 obtain⟨x,A⟩: ∃x,sp[k]?=some x:=⟨_,bC hk⟩;have j:=jY hkl;obtain⟨r,G⟩:=exQ<|aS st.lines k;rw[G] at j hok ⊢;rw[Aq A] at hok ⊢;obtain⟨h1,h2,h3⟩:=hok.ind;obtain⟨z,sv,lv,nv,M,m⟩:=h;obtain⟨gs,cs,rfl,_,s0,s1⟩:=m.spanAt A;obtain⟨gl,cl,e9,_,f⟩:=m.lineAt j;subst e9;obtain⟨⟨_,c1,c2,_⟩,_⟩:=m.cells;have g3:=f 3 _ a_ rfl;have F:=m.lt;have C:(0:Int)<=(k:Int):=a_
 have D:(k:Int)<(sp.length:Int):=a_
 obtain⟨n,H⟩:=exQ<|st.lines.length;rw[H] at c2 hkl;have hk2:(k:Int)<(n:Int):=a_
 obtain⟨S,J⟩:=exQ<|(x.1:Int)+r.ind;have hSw:IntKind.i64.wrap S=S:=by rw[IntKind.wrap_i64];omega
 have l:=hid (aB w.heap.size w);rw[J];clear m M f j G hok A H hk hkl h2;first|have:=zn;go_enter Tryz.func23,Tryz.ntmps23|go_enter Tryz.func46,Tryz.ntmps46
 exact ft):P:=h
theorem u4(h:P:=by
 first|have:=B9;have g:Hid (bK u=(4,1,0)):=hid ET|have:=CZ;have g:Hid (bK u=(5,1,0)):=hid ET|have:=C9;have g:Hid (bK u=(6,1,0)):=hid ET|have g:Hid (bK u=(7,1,0)):=hid ET
 clear k d m f CE CP R1 R2 R3 A1 A2;go_enter Tryz.func166,Tryz.ntmps166;go_wp2_with fail;first|have:=B9;refine wp_loop_rounds 3 ?_|have:=CZ;refine wp_loop_rounds 4 ?_|have:=C9;refine wp_loop_rounds 5 ?_|refine wp_loop_rounds 6 ?_;rw[rounds_succ];go_wp2_with fail
 first
 |first|have:=C9|have:=DA
  rw[rounds_succ];go_wp2_with fail
 |skip
 first
 |first|have:=CZ|have:=C9|have:=DA
  rw[rounds_succ];go_wp2_with fail
 |skip
 rw[rounds_succ];go_wp2_with fail;rw[rounds_succ];go_wp2_with fail;exact ir):P:=h
theorem ut(h:P:=by
 first
 |have:=BW;rw[if_pos q2] at hR;have HX:Hid (R=(H,6)):=hid hR.symm;have cD:H<55296\/57344<=H:=a_
  have CU:=hid (λw=>Kw H w ⟨a_,a_⟩);clear hR C2 HP q1 q2 hH bq
  (rcases cD with q2 | q2)
 |rw[if_pos q8] at hR;have HX:Hid (R=(0,0)):=hid hR.symm;have ct:L<56320\/57344<=L:=a_
  clear hR q8 hL aZ
  (rcases ct with q8 | q8)
 all_goals
  go_wp2_with fail;refine(D1.out _).mono ?_;rintro e w1 ⟨rfl,o⟩;have G:=hid (aC HW.out o);clear o;go_wp2_with fail;first|have:=BW;refine(CU.out _).mono ?_|refine(D2.out _).mono ?_
  rintro e w2 ⟨rfl,J⟩;have aq:=hid (aC G.out J);clear J;go_wp2_with fail;go_ret2;exact⟨by rw[HX.out];rfl,aq.out⟩):P:=h
theorem cj(h:P:=by
 obtain⟨e0,e1,e2,aH,aV,aP⟩:=eE d;have aX:D≠P:=a_
 have bJ:=hid b.bel;clear b N d d0 d1 d2 f0 f1 f2 c0 c1 c2 c3 c4 s E F C A HF;go_upto_region 19 with fail;go_region
 all_goals
  go_wp2_with fail
  try simp only[Exit.inBlock,Exit.then]
  refine bodyPost_ret (qC rfl _ _ rfl (u:= .string ⟨#[]⟩) (v:= .slice none 0 0) (x:= .slice none 0 0) ?_ ?_ ?_) rfl ?_
  ·exact aj
  ·exact aj
  ·exact aj
  ·have j:w.heap.size<=w1.heap.size:=Y.out.size;rw[<-U.out.1];refine⟨⟨#[]⟩,_,_,rfl,by rw[if_neg U.out.2],eD.nil _ _,?_⟩;exact ot):P:=h
theorem ub(h:P:=by
 first
 |have:=BA;rw[h3] at hR C2;simp only[] at hR;subst hR;unfold tL at C2
 |have:=BB;rw[if_neg g3] at hR;subst hR;have gc:56320<=L:=a_
  have gd:L<57344:=a_
  clear g3 hL aZ h3
 |skip
 go_enter Tryz.func220,Tryz.ntmps220;go_wp2_with fail;refine(C1.out _ HV.out).mono ?_;rintro e w1 ⟨rfl,o⟩;have G:=hid o;clear o;go_wp2_with (go_at_call 117;refine(CP.out _).mono ?_;rintro e w' ⟨rfl,rfl⟩);refine(C2.out _ (HV.out.keep G.out)).mono ?_;rintro e w2 ⟨rfl,J⟩;go_wp2_with fail;go_ret2;exact⟨rfl,aC G.out J⟩):P:=h
theorem ug(h:P:=by
 first|have:=BH;have C:=hid (f.out false ((D.out false _ rfl rfl _ rfl).trans e_))|have C:=hid (f.out false ((D.out true false rfl rfl _ rfl).trans e_));clear s u
 go_wp2_with fail;refine bodyPost_ret (v:= .tuple #[.agg #[ng,lo,Wh,bs rs,bs xf],false]) ?_ rfl ⟨⟨ng,lo,wh,rs,xf,false,by rw[J.out],?_⟩,?_⟩
 ·exact bz
 ·exact C.out
 ·repeat (first | refine iI ?_ (aD _) | refine Below.drew ?_)
  first|have:=BH;exact O.out|exact V.out):P:=h
theorem ja(h:P:=by
 have c50:=F.gg 3 50 c_;have yh:=F.gg 4 51 c_;have hA:Below W9.heap.size W9 w':=F.at2 (j:=0) rfl (F.lastNot (f:=12) (i:=5) d' hi) (.inl rfl);go_simp;go_at_call 46;refine(CB.out _ (ee.out.keep hA)).mono ?_;rintro e w5 ⟨rfl,aj⟩;exact G _ _ (F.qu ad ha hi (λ_=>ak.out _ (aC hA aj)) (λk c hk hp=>by obtain rfl:k=0:=EY;exact aC (show Below W9.heap.size W9 w' from hp) aj) (λx hx=>hx))):P:=h
theorem tf(h:P:=by
 have h1:(S.data.toList.take p).all dM=true:=by
  have o:=HZ.out;rw[<-ab.out] at o;rw[gW] at o ⊢;exact λx hx=>o x (List.take_subset _ _ hx)
 have h3:=Hb _ h1;have h4:(S.data.toList.take p).length<=9:=by rw[bT];have:S.data.toList.length=S.size:=rfl;omega
 have h5:(10:Int) ^ (S.data.toList.take p).length<=10 ^ 9:=by exact_mod_cast Nat.pow_le_pow_right (n:=10) b_ h4
 omega):P:=h
theorem om(h:P:=by
 first|have:=vt;go_enter Tryz.func144,Tryz.ntmps144;go_wp2_with fail;(with_reducible refine(CS.out _ HT.out).mono ?_);rintro e w1 ⟨rfl,o⟩|go_enter Tryz.func65,Tryz.ntmps65;go_wp2_with fail;(with_reducible refine(CS.out _).mono ?_);rintro e w1 ⟨rfl,rfl⟩
 go_wp2_with fail;go_ret;first|have:=vt;exact⟨rfl,o⟩|exact ab):P:=h
theorem ji(h:P:=by
 go_wp2_with (first | (go_at_call 91;refine(CG.out _).mono ?_;rintro e w' ⟨rfl,rfl⟩) | (go_at_call 92;refine(CN.out _).mono ?_;rintro e w' ⟨rfl,rfl⟩));go_round
 case rel=>exact⟨p+WD,q_,a_,t.out⟩
 case measure=>simp[RowKit.intOf];omega):P:=h
theorem ev(h:P:=by
 obtain⟨r,g⟩:=aR.1 hi;obtain⟨m,p⟩:=aR.1 hj;have q:=List.pairwise_iff_getElem.1 h;rcases Nat.lt_trichotomy i j with f | b | c
 ·exact absurd (g.trans p.symm) (q i j r m f)
 ·exact b
 ·exact absurd (p.trans g.symm) (q j i m r c)):P:=h
theorem jh(h:P:=by
 obtain⟨q,C,r,A⟩:=h.ph;have B: ¬j<q:=λg=>by rw[(r j e he).2 g] at hi;cases hi
 obtain rfl:j=q:=by
  cases j with
  | zero=>omega
  | succ j'=>
   have hj':=(aR.1 he).1;exact pm
 exact A):P:=h
theorem jm(h:P:=by
 intro j u g;rw[Array.getElem?_toList] at g;have e1:((⟨w.heap.size,0,none⟩:Addr).add j)=⟨w.heap.size,j,none⟩:=by unfold Addr.add;split<;>simp_all
 rw[e1,World.cell?_alloc_new];exact g):P:=h
theorem gv(h:P:=by
 first|have _:=v6;go_enter Tryz.func148,Tryz.ntmps148|go_enter Tryz.func58,Tryz.ntmps58
 go_wp2_with fail;go_ret3;first|have _:=v6;exact ab|exact⟨rfl,rfl⟩):P:=h
theorem jy(h:P:=by
 intro wz hS;simp only[jE,dF,cP,dG];have bu:=hid ((da.out.keep hS).less bt.out);clear hS;go_wp2_with fail;go_ret2;rw[<-dw.out];exact⟨rfl,bu.out⟩):P:=h
theorem ct(h:P:=by
 first|have:=vq;go_enter Tryz.func154,Tryz.ntmps154|go_enter Tryz.func133,Tryz.ntmps133
 go_wp2_with fail;go_ret;exact⟨rfl,f.out⟩):P:=h
theorem cp(h:P:=by
 go_enter Tryz.func61,Tryz.ntmps61;go_wp2_with (go_at_call 96;go_must (refine(r.out _).mono ?_);rintro en w1 ⟨rfl,b⟩);exact pd):P:=h
theorem j6(h:P:=by
 go_wp2_with (go_at_call 163;(with_reducible refine(C3.out _).mono ?_);rintro e w3 ⟨rfl,U⟩);go_meet;exact⟨e_,aC F.out U⟩):P:=h
theorem fh(h:P:=by
 intro c b;simp only[oR,List.map_nil] at b;have:c=(128+r % 64).toNat.toUInt8:=by simpa using b.symm
 rw[this,f r a_];omega):P:=h
theorem ko(h:P:=by
 go_simp;exact G undef _ (F.ef 2 ad ha hi (.inr ⟨7,rfl,ae⟩) (λ_ _ _=>trivial) (λh=>absurd rfl h) ⟨_,_,cA,rfl⟩)):P:=h
theorem cy(h:P:=by
 go_wp2_with (go_at_call 236;refine(J.out _).mono ?_;rintro e w' ⟨rfl,rfl⟩);go_ret2;exact⟨Q.out.symm,p.out⟩):P:=h
theorem kx(h:P:=by
 cases x with
 | bad a e=>cases hx
 | ok r' l' ns'=>
  injection hx with f o p;subst f o;exact⟨ns',rfl,p.symm⟩):P:=h
theorem kn(h:P:=by
 refine⟨h.1,?_⟩;rcases h.2 with c | ⟨g,a,b,i,d,f⟩
 ·exact .inl c
 ·exact .inr ⟨g,a,b,i,aZ hB d,f⟩):P:=h
theorem lh(h:P:=by
 cases h:l.drop a with
 | nil=>have:=congrArg List.length h;simp at this;omega
 | cons c r=>exact⟨c,r,rfl⟩):P:=h
theorem kz(h:P:=by
 go_wp2_with fail;go_round
 case rel=>exact⟨k+1,q_,a_,bN.out⟩
 case measure=>simp[RowKit.intOf];omega):P:=h
theorem lj(h:P:=by
 go_wp2_with fail;go_meet;exact⟨W1.heap.size,rfl,ab.out.z,ab.out.keep (aL _ _),heap_alloc_new W1 _⟩):P:=h
theorem lm(h:P:=by
 have r:e=eff.getLastD 0:=by simpa using r
 have:=(A q e m).2 (tV _);rw[r,hdl] at this;cases this):P:=h
theorem ma(h:P:=by
 rw[<-hz,dE] at hx;cases Z:z[k]? with
 | none=>rw[Z] at hx;cases hx
 | some q=>exact⟨q,rfl⟩):P:=h
theorem lx(h:P:=by
 go_wp2_with fail;go_ret2;rw[<-bx.out];exact⟨rfl,ft.out.less lj.out,HH.out _ _ _ _ ft.out⟩):P:=h
theorem fa(h:P:=by
 exact(((((Y.out.trans (HK.out.bel.mono j)).setCell u' _).setCell u' _).setCell u' _)).drew):P:=h
theorem jx(h:P:=by
 refine eC w1 ⟨X,i,none⟩ u g (λe=>?_);have e2:g=X:=e;subst e2;rw[hXs] at c;exact pj):P:=h
theorem oy(h:P:=by
 have lz:=F.g 1 62 c_;have sx:=F.g 2 63 c_;have xz:=F.g 3 64 c_;refine rE lz ?_;exact bc):P:=h
theorem ot(h:P:=by
 exact(((((Y.out.trans (bJ.out.mono j)).setCell u' _).setCell u' _).setCell u' _)).drew):P:=h
theorem mj(h:P:=by
 rcases List.mem_or_eq_of_mem_set s with s | rfl
 ·exact F x s
 ·exact F y (bD hy)):P:=h
theorem mx(h:P:=by
 cases hc:d 23 with
 | false=>rfl
 | true=>have:=h.up2 hc;rw[h20] at this;cases this):P:=h
theorem au(h:P:=by
 go_enter Tryz.func219,Tryz.ntmps219;go_wp2_with fail;go_ret2;exact⟨rfl,rfl⟩):P:=h
theorem my(h:P:=by
 obtain⟨f,_,a⟩:=h;rw[List.drop_of_length_le hp] at a;rw[<-a];cases f<;>rfl):P:=h
theorem dt(h:P:=by
 repeat (first | refine iI ?_ (aD _) | refine Below.drew ?_)
 exact aC.out):P:=h
theorem ij(h:P:=by
 rcases gE.2 with⟨h0,h1⟩ | ⟨g,cap,dL,h1,_⟩
 ·exact ax
 ·exact ay):P:=h
theorem bh(h:P:=by
 simp[results,Tryz.results36,go_sem,dW,aW,c0,c1,c2,c3,c4,c5,c6,c7,c8,c9]):P:=h
theorem oa(h:P:=by
 rw[f,Bool.not_true,Bool.false_or] at this;exact of_decide_eq_true this):P:=h
theorem f9(h:P:=by
 simp only[sK,Nat.add_assoc,Nat.reduceAdd] at this;rw[<-f];exact this):P:=h
theorem DV(h:P:=by rw[eC wr ⟨g,i*2+1,none⟩ _ P (show P≠g by omega)];exact W.out):P:=h
theorem oi(h:P:=by
 have:=dk.out;simp only[I,bK,if_true,if_false] at this;exact this):P:=h
theorem gm(h:P:=by
 simp[results,Tryz.results88,go_sem,r0,r1,r2,dV,cF];try rfl):P:=h
theorem pj(h:P:=by
 injection c with c;injection c with _ c;exact absurd c b_):P:=h
theorem pm(h:P:=by
 have h5:=(r j' _ (bC a_)).1 (hp j' _ rfl (bC a_));omega):P:=h
theorem bd(h:P:=by
 rintro e w1 ⟨rfl,o⟩;have G:=hid o;clear o;exact eg):P:=h
theorem s'(h:P:=by first | exact ep.out | exact ep.out.keep (aB _ _).drew):P:=h
theorem DW(h:P:=by first | exact ft.out | exact ft.out.keep (aB _ _).drew):P:=h
theorem D0(h:P:=by first | exact ed.out | exact ed.out.keep (aB _ _).drew):P:=h
theorem ib(h:P:=by
 go_wp2_with fail;refine(CL.out _ g_).mono ?_;exact az):P:=h
theorem D8(h:P:=by rw[ai];exact ak.out 0 undef _ (by decide) (aB _ _)):P:=h
theorem it(h:P:=by
 simp[results,Tryz.results47,go_sem,d0,d1,d2,d3]):P:=h
theorem EB(h:P:=by unfold fA;rw[if_pos mH.out,jv.out,nE];exact ez):P:=h
theorem EF(h:P:=by cases r with | nil=>simp at h | cons _ _=>simp):P:=h
theorem eg(h:P:=by
 go_wp2_with fail;go_ret2;exact⟨rfl,G.out⟩):P:=h
theorem ej(h:P:=by
 go_enter Tryz.func226,Tryz.ntmps226;exact aa):P:=h
theorem x_(h:P:=by first | exact dO | exact aC (aB _ _).drew dO):P:=h
theorem DT(h:P:=by first | exact bp | exact aC (aB _ _).drew bp):P:=h
theorem EG(h:P:=by have:S.data.toList.length=S.size:=rfl;omega):P:=h
theorem ir(h:P:=by
 rw[rounds_succ];go_wp2_with fail;exact dn):P:=h
theorem ER(h:P:=by have:=Jc D h2;rw[HQ.out] at this;omega):P:=h
theorem dy(h:P:=by
 rw[fL hil];rw[bC hil] at hx;rw[aV hx]):P:=h
theorem aq(h:P:=by
 (try simp only[RowKit.intOf]);omega):P:=h
theorem D_(h:P:=by rw[List.length_replicate];omega):P:=h
theorem ax(h:P:=by
 exact⟨none,0,by rw[h0,h1]⟩):P:=h
theorem eo(h:P:=by
 unfold cZ at h ⊢;exact ai):P:=h
theorem EJ(h:P:=by show (0:Int)<=(x:Int);omega):P:=h
theorem EX(h:P:=by rw[<-t.out.2];exact he0):P:=h
theorem bp(h:P:=by
 rw[e2,b] at a;cases a):P:=h
theorem u'(h:P:=by rw[T.out];exact aD _):P:=h
theorem ay(h:P:=by
 exact⟨_,cap,h1⟩):P:=h
theorem D7(h:P:=by simp only[bH];omega):P:=h
theorem E6(h:P:=by have:=ai.out;omega):P:=h
theorem EY(h:P:=by simp at hk;omega):P:=h
theorem E2(h:P:=by rw[<-l];exact s):P:=h
theorem EW(h:P:=by simpa using d):P:=h
theorem ET(h:P:=by rw[d.out,k]):P:=h
theorem E5(h:P:=by rw[b];omega):P:=h
theorem E0(h:P:=by cases h):P:=h
theorem e_(h:P:=by simp):P:=h
theorem DU(h:P:=by rfl):P:=h
end Go.Proofs.YtfhjncbdgjlcoaaGreatDoor
