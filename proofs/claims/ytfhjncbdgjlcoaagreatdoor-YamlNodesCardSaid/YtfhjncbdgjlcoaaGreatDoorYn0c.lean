import Derived.Test.YtfhjncbdgjlcoaaGreatDoorYn0a
set_option maxRecDepth 100000
namespace Go.Proofs.YtfhjncbdgjlcoaaGreatDoor
variable{P:Prop}
theorem PE(h:P:=by
 first
 |first|have _:=QU|have _:=QV
  intro Pr k kf kt st lev w h hk1l hw hl
 |skip
 have hsp:=hsp0;have hkl:k<st.lines.length:=a_
 first
 |first|have _:=QU|have _:=QV
  obtain⟨R,I⟩:=exQ<|mY txt sp B lv k kf kt st;rw[I];unfold mY at I
 |obtain⟨R,I⟩:=exQ<|kZ txt sp V lv k kf kt st
  rw[I];unfold kZ at I
 have bO:=kO hkl;obtain⟨r,hr⟩:=exQ<|aU st.lines k;rw[hr] at bO I;have hll:=hw.ls.1;have AU:=hw.tot;have fQ:=hw.ls.2 k hkl;rw[hr] at fQ;obtain⟨n,ep⟩:=exQ<|st.lines.length;have b1:=aL w (.cells #[kf,kt] 42);have eO:=heap_alloc_new w (.cells #[kf,kt] 42);have eC:=h.put b1 (aF _) eO;have fD: ∀q o,Pr q=some o->(Pr.put w.heap.size (.cells #[kf,kt] 42)) q=some o:=aO.put_less (λq o Z=>h.frLt q o Z) (aF _);obtain⟨X1,gy⟩:=exQ<|w.heap.size;obtain⟨W1,bp⟩:=exQ<|w.alloc (.cells #[kf,kt] 42);rw[bp] at eO eC;rw[gy] at eO eC fD;have b2:=aL W1 (.cells (lineA r) 68);have fE:=heap_alloc_new W1 (.cells (lineA r) 68);have dh:=eC.put b2 (aF _) fE;have jI: ∀q o,(Pr.put X1 (.cells #[kf,kt] 42)) q=some o->((Pr.put X1 (.cells #[kf,kt] 42)).put W1.heap.size (.cells (lineA r) 68)) q=some o:=aO.put_less (λq o Z=>eC.frLt q o Z) (aF _);have iR:(W1.alloc (.cells (lineA r) 68)).heap[X1]?=some (.cells #[kf,kt] 42):=(b2.block _ (aG eO)).trans eO;obtain⟨z,sv,lvv,nv,hz,hK⟩:=eC;obtain⟨gl,cl,e9,_,L⟩:=hK.lineAt bO;subst e9;obtain⟨⟨_,_,c2,_⟩,_⟩:=hK.cells;have hPl:=hK.lt;have g0:=L 0 _ a_ rfl;have g1:=L 1 _ a_ rfl;have g2:=L 2 _ a_ rfl;have g3:=L 3 _ a_ rfl;have g4:=L 4 _ a_ rfl;have g5:=L 5 _ a_ rfl;have g6:=L 6 _ a_ rfl;have g7:=L 7 _ a_ rfl;have g8:=L 8 _ a_ rfl;have g9:=L 9 _ a_ rfl;simp only[Nat.add_zero] at g0;rw[ep] at c2;have gX:(0:Int)<=(k:Int):=a_
 have gm:(k:Int)<(n:Int):=a_
 obtain⟨X2,iQ⟩:=exQ<|W1.heap.size;obtain⟨W2,aw⟩:=exQ<|W1.alloc (.cells (lineA r) 68);rw[aw] at dh fE iR;rw[iQ] at dh fE jI;unfold lineA at aw
 first|have _:=QW;simp only[] at I|skip
 have cm:=hid dh;have ek:=hid (aK iR fE);have av:=hid (λq o Z=>jI q o (fD q o Z));have HR:=hid I;have HW:=hid hw;have dz:=hid hsp;have HK:=hid (aK hr bO);have vj:=hid ep;clear hK hz L dh eO iR fE b1 b2 fD jI I hw hsp bO hr h;obtain⟨ap,et⟩: ∃ap:aO,((Pr.put X1 (.cells #[kf,kt] 42)).put X2 (.cells (lineA r) 68))=ap:=⟨_,rfl⟩;have cp:=hid (aO.put_eq (Pr.put X1 (.cells #[kf,kt] 42)) X2 (.cells (lineA r) 68))
 first
 |first|have _:=QU|have _:=QV
  have qi:ap X1=some (.cells #[kf,kt] 42):=by
   rw[<-et,aO.put_ne _ _ (show X1≠X2 by have:=aG ek.out.1;have h2:=aG ek.out.2;intro e;have e1:=ek.out.1;rw[e,ek.out.2] at e1;injection e1 with e1;injection e1 with _ e1;exact absurd e1 b_)];exact aO.put_eq _ _ _
  have gZ:=hid qi
 |skip
 rw[et] at cp cm av
 first
 |first|have _:=QU|have _:=QV
  obtain⟨t,ht⟩:=exQ<|dQ txt r.rf r.rt;have I:=HR.out;rw[ht] at I;have wa:=hid I;obtain⟨q1,q2,q3⟩:=fQ.rst
 |skip
 first
 |have _:=QU;have iI:Hid (∀w',YJ YP ap w0 P txt sp st 0 0 w'->Calls prog 107 #[some P, .agg #[r.rf,r.rt]] w' (aT w' (.string (bs t)))):=hid (λw' hj=>by have:=Bs r.rf r.rt w' hj q1 q2 q3 a_;rw[ht] at this;exact this)
 |have _:=QV;obtain⟨rf,k5⟩: ∃n:Nat,r.rf=n:=⟨r.rf.toNat,a_⟩;obtain⟨rt,mE⟩: ∃n:Nat,r.rt=n:=⟨r.rt.toNat,a_⟩;have i4:(bs txt).extract rf rt=bs t:=by rw[<-ht,k5,mE,gO,aY];rfl
  have ny:(rf:Int)<=(rt:Int):=a_
  have cv:(rt:Int)<=(txt.length:Int):=a_
  have yn:=aP txt
 |skip
 first
 |first|have _:=QU|have _:=QV
  have dw:=hid hk1l
 |skip
 first|have _:=QU;have zU:Hid (∀w',YJ YP ap w0 P txt sp st 0 0 w'->True):=hid (λ_ _=>trivial)|have _:=QV;have zU:Hid (∀w',YJ YQ ap w0 P txt sp st 0 0 w'->True):=hid (λ_ _=>trivial)|skip
 obtain⟨y0,y1⟩:=jY ek.out.1;have iY:bL W2 X2 r:=ek.out.2;obtain⟨l0,l1,l2,l3,l4,l5,l6,l7,l8,l9,_⟩:=iY.cells
 first
 |have _:=QU;clear I ht q1 q2 q3 et iY qi
 |have _:=QV;obtain⟨z',xR,rJ,By,_,nH⟩:=cm.out;have p0:=nH.cells.1.1;rw[k5] at l6;rw[mE] at l7;have uw:=hid k5;clear I ht q1 q2 q3 et iY qi k5 mE nH
 |have sX:k<sp.length:=by have:=HW.out.ls.1;omega
  have eY:=hid hkl;have dw:=hid hk1l;have gZ:Hid (ap X1=some (.cells #[kf,kt] 42)):=hid (by rw[<-et,aO.put_ne _ _ (show X1≠X2 by have:=aG ek.out.1;have h2:=aG ek.out.2;intro e;have e1:=ek.out.1;rw[e,ek.out.2] at e1;injection e1 with e1;injection e1 with _ e1;exact absurd e1 b_)];exact aO.put_eq _ _ _);clear et iY;obtain⟨X3,fB⟩:=exQ<|W2.heap.size;have b3:=aL W2 (.cells #[(2:Int),r.ind,k,(0:Int),kf,kt,(0:Int),(0:Int),()] 45);have fL:=heap_alloc_new W2 (.cells #[(2:Int),r.ind,k,(0:Int),kf,kt,(0:Int),(0:Int),()] 45);obtain⟨W3,a6⟩:=exQ<|W2.alloc (.cells #[(2:Int),r.ind,k,(0:Int),kf,kt,(0:Int),(0:Int),()] 45);rw[a6] at b3 fL;rw[fB] at fL;have r7:=hid (cm.out.keep b3);have tS:bL W3 X2 r:=r7.out.at_ cp.out;obtain⟨m0,m1,m2,m3,m4,m5,m6,m7,m8,m9,_⟩:=tS.cells;obtain⟨z0,z1⟩:=jY (r7.out.at_ gZ.out);have ax:=hid b3;have em:=hid fL;have lu:=hid fB;clear b3 fL tS
 go_in;go_upto_region 2 with fail;clear bp gy aw iQ c2 g0 g1 g2 g3 g4 g5 g6 g7 g8 g9 hPl
 first
 |have _:=QU;go_wp2_with fail;refine aH (iI.out _ k_) λw4 jq=>?_;have cc:=hid (cm.out.keep (by first | exact jq | exact aE (aD _ _).drew jq));clear jq y0 y1 l0 l1 l2 l3 l4 l5 l6 l7 l8 l9
 |have _:=QV;go_region;have cc:=hid (cm.out.keep (aD _ W2).drew);obtain⟨W4,cH⟩:=exQ<|W2.drew;rw[cH] at cc ⊢;clear y0 y1 l0 l1 l2 l3 l4 l5 l6 l7 l8 l9 p0 cH i4 ny cv
 |skip
 first
 |first|have _:=QU|have _:=QV
  obtain⟨y0,y1⟩:=jY (cc.out.at_ gZ.out)
 |skip
 first|have _:=QV;have tQ:bL W4 X2 r:=cc.out.at_ cp.out;obtain⟨_,_,_,_,_,_,l6,_⟩:=tQ.cells;clear tQ|skip
 first
 |first|have _:=QU|have _:=QV
  by_cases h1:t= [124]\/t= [124,45]
  .have I:=wa.out;rw[if_pos h1] at I;obtain⟨Q,hQ⟩:=exQ<|lK txt sp lv k kf kt st;rw[hQ] at I;have cf:Hid (Q=R):=hid I
   first
   |have _:=QU;have CL:Hid (∀w',YJ YP ap w0 P txt sp st 0 0 w'->Calls prog 147 #[some P,k,lev, .agg #[kf,kt]] w' (fG YP ap w0 P txt sp Q)):=hid (λw' hj=>by have:=aAR k kf kt lv lev w' hj dw.out HW.out hl hlv dz.out hs hn hV;rw[hQ] at this;exact this)
   |have CL:Hid (∀w',YJ YQ ap w0 P txt sp st 0 0 w'->Calls prog 70 #[some P,k,lev, .agg #[kf,kt]] w' (fG YQ ap w0 P txt sp Q)):=hid (λw' hj=>by have:=aBJ k kf kt lv lev w' hj dw.out HW.out hl hlv dz.out hs hn;rw[hQ] at this;exact this)
   clear I hQ;by_cases h2:t= [124]
   .have d1:=tY h2;clear h1 h2;exact ir
   .have d1:=sK h2;have d2:=tY (h1.resolve_left h2);clear h1 h2;exact ir
  have d1:=sK (λe=>h1 (.inl e):t≠ [124]);have d2:=sK (λe=>h1 (.inr e):t≠ [124,45]);by_cases h3:t= [];rotate_left
  .have I:=wa.out;rw[if_neg h1,if_neg h3] at I;have d3:=sK h3;have AD:(bs t).toList.isEmpty=false:=by rw[Lib.toList_data,aY];cases t with | nil=>exact absurd rfl h3 | cons _ _=>rfl
   obtain⟨Q,hQ⟩:=exQ<|iB txt lv k kf kt st;rw[hQ] at I;have cf:Hid (Q=R):=hid I
   first
   |have _:=QU;have CL:Hid (∀w',YJ YP ap w0 P txt sp st 0 0 w'->Calls prog 75 #[some P,k,lev, .agg #[kf,kt]] w' (fG YP ap w0 P txt sp Q)):=hid (λw' hj=>by have:=Ch k kf kt lv lev w' hj G4 HW.out hl hlv dz.out hs hn hV;rw[hQ] at this;exact this)
   |have CL:Hid (∀w',YJ YQ ap w0 P txt sp st 0 0 w'->Calls prog 37 #[some P,k,lev, .agg #[kf,kt],r.rf] w' (fG YQ ap w0 P txt sp Q)):=hid (λw' hj=>by have:=(Cj k kf kt lv lev w' hj G4 HW.out hl hlv dz.out hs hn hV HRd.out).mono (λe w2 hE=>hE.any);rw[hQ,HK.out.1] at this;exact this)
   clear I hQ h1 h3;exact ir
  have I:=wa.out;rw[if_neg h1,if_pos h3] at I;have d3:=tY h3;have AD:(bs t).toList.isEmpty=true:=by rw[Lib.toList_data,aY,h3];rfl
  clear h1;obtain⟨k1,fx⟩:=exQ<|k+1;have gG:(k:Int)+1=(k1:Int):=a_
  have HK1e:=hid fx;rw[fx] at I;obtain⟨N,hN⟩:=exQ<|eX txt sp k1 st.lines;have br:=kP (k:=k1) hsp0 a_ HW.out.ls (λi a b=>by omega);rw[hN] at I br
 |skip
 first|have _:=QU;have CN:Hid (∀w',YJ YP ap w0 P txt sp st 0 0 w'->Calls prog 42 #[some P,k1] w' (sF YP ap w0 P txt sp st N)):=hid (λw' hj=>by have:=Ga k1 w' hj a_ HW.out.ls.1 hs hn hV;rw[hN] at this;exact this)|have _:=QV;have CN:Hid (∀w',YJ YQ ap w0 P txt sp st 0 0 w'->Calls prog 20 #[some P,k1] w' (sF YQ ap w0 P txt sp st N)):=hid (λw' hj=>by have:=Cc k1 w' hj a_ HW.out.ls.1 hs hn;rw[hN] at this;exact this)|skip
 first
 |first|have _:=QU|have _:=QV
  clear hN fx h3;cases N with
  | bad a er=>
   have cf:Hid (YR.bad a er=R):=hid I;clear I br;go_wp2_with fail;refine(CN.out _ g_).mono ?_;rintro e w5 ⟨⟨m,rfl⟩,ar⟩;have HF:=hid (ar.less av.out);exact pj
  | ok nx ls=>
   simp only[] at I br;have yL:dR txt sp ⟨ls,st.nodes,st.total⟩:=⟨br.ok,HW.out.tot⟩;have nI:=hid yL;have gW:=hid br;first|have _:=QV;have xx:Hid (aU ls k=r):=hid (by obtain⟨m,e⟩:=br.pre;rw[e,wO G4];exact HK.out.1)|skip
   have tZ:(0:Int)<=(nx:Int):=a_;have lU:=hid I;clear I br yL;go_wp2_with fail;refine aH (CN.out _ g_) λw5 ih=>?_;have dA:=hid ih;first|have _:=QU;clear ih y0 y1|clear ih y0 y1 l6
   go_upto_region 10 with fail;obtain⟨W0,al⟩:=exQ<|w5.drew;have cg:=dA.out.keep (aD _ w5).drew;rw[al] at cg;have bT:=hid cg
   first|have _:=QU;have gI:Hid (∀w',aA W0 w'->Calls prog 43 #[some P,nx] w' (aT w' (.bool (decide (nx<sp.length))))):=hid (λw' hb=>wR nx w' (bT.out.keep hb));clear cg|obtain⟨z',xR,rJ,By,_,nH⟩:=cg;obtain⟨ps,cs,rfl⟩:=nH.spSlice;have zm:Hid (∀w',aA W0 w'->w'.cell? (P,1)=some (.slice ps sp.length cs)):=hid (λw' hb=>(nH.keep hb).cells.1.2.1);clear nH
   by_cases bc:nx<sp.length;rotate_left
   .have I:=lU.out;rw[if_neg (λe=>bc e.1)] at I;first|have _:=QV;have Dd:decide ((nx:Int)<(sp.length:Int))=false:=aJ a_;have zg:decide (nx<sp.length)=false:=aJ bc;have iH:=zm|skip
    obtain⟨Q,hQ⟩:=exQ<|iB txt lv k kf kt ⟨ls,st.nodes,st.total⟩;rw[hQ] at I;have cf:Hid (Q=R):=hid I
    first
    |have _:=QU;have CL:Hid (∀w',YJ YP ap w0 P txt sp ⟨ls,st.nodes,st.total⟩ 0 0 w'->Calls prog 75 #[some P,k,lev, .agg #[kf,kt]] w' (fG YP ap w0 P txt sp Q)):=hid (λw' hj=>by have:=Ch (st:=⟨ls,st.nodes,st.total⟩) k kf kt lv lev w' hj EC nI.out hl hlv dz.out hs hn hV;rw[hQ] at this;exact this);have CT:Hid (∀w',aA W0 w'->Calls prog 43 #[some P,nx] w' (aT w' (.bool false))):=hid (λw' hb=>by have:=gI.out w' hb;rw[aJ bc] at this;exact this);clear I hQ bc gI;refine mZ [45,46,47,48,49,50,51,52,53,54,55,56,57,58,59,60] 75 [some P,nx,false,false,undef,undef,undef,undef,undef,undef,undef,undef,undef,undef,undef,false] (λw'=>aA W0 w') [2,0,1,3,15,4,5,6,7,8,9,10,11,12,13,14] i_ ?_ ?_
    |have CL:Hid (∀w',YJ YQ ap w0 P txt sp ⟨ls,st.nodes,st.total⟩ 0 0 w'->Calls prog 37 #[some P,k,lev, .agg #[kf,kt],r.rf] w' (fG YQ ap w0 P txt sp Q)):=hid (λw' hj=>by have:=(Cj (st:=⟨ls,st.nodes,st.total⟩) k kf kt lv lev w' hj EC nI.out hl hlv dz.out hs hn hV HRd.out).mono (λe w2 hE=>hE.any);rw[hQ] at this;simp only[] at this;rw[xx.out] at this;exact this);clear I hQ bc;refine mZ [66,67,68,69,70,71,72,73,74,75,76,77,78,79,80,81,82,83,84,85] 103 [nx,some P,some P,(P,1), .slice ps sp.length cs,sp.length,false,false,undef,undef,undef,undef,undef,undef,undef,undef,undef,undef,undef,false] (λw'=>aA W0 w') [0,1,2,3,4,5,6,7,19,8,9,10,11,12,13,14,15,16,17,18] i_ ?_ ?_
    .intro d a w' iq o' hO ho hi F aa G R' I;first|have _:=QU;have Z:=dW aa [(0,some P),(10,some X2),(11,nx)] rfl rfl;have hc:=G.all [(0,45),(1,46),(2,47),(3,48),(14,59)] b_|have Z:=dW aa [(0,some P),(10,some X2),(12,nx)] rfl rfl;have hc:=G.all [(0,66),(1,67),(2,68),(3,69),(4,70),(5,71),(6,72),(7,73),(18,84)] b_
     dsimp only[dS,dM,lk] at Z hc;clear aa;first|have _:=QV;have p1:=iH.out _ G.st|skip
     repeat' rcases hO with _ | ⟨_,hO⟩
     all_goals (simp only[cR,cP,bY,cC] at ho;subst ho;try simp[Region.binds] at F)
     first
     |have _:=QU
      .exact GD
      iterate 4 (refine jD ?_;go_simp;exact I _ _ G.sp)
     |iterate 9 (refine jD ?_;go_simp;exact I _ _ G.sp)
     iterate 11 exact G.sk I (hd:=by simp[F])
    intro wz hS;simp only[iU,cY,cQ,cZ];have hI:=hid (bT.out.keep hS);obtain⟨y0,y1⟩:=jY (hI.out.at_ gZ.out);first|have _:=QV;have ly:bL wz X2 r:=hI.out.at_ cp.out;obtain⟨_,_,_,_,_,_,l6,_⟩:=ly.cells;clear ly|skip
    exact it
   .obtain⟨cO,gK⟩:=gW.out.hit bc;first|have _:=QU;have CT:Hid (∀w',aA W0 w'->Calls prog 43 #[some P,nx] w' (aT w' (.bool true))):=hid (λw' hb=>by have:=gI.out w' hb;rw[aQ bc] at this;exact this)|have Dd:decide ((nx:Int)<(sp.length:Int))=true:=aQ a_;have zg:decide (nx<sp.length)=true:=aQ bc
    obtain⟨i2,fs⟩:=exQ<|(aU ls nx).ind;obtain⟨bb,fn⟩:=exQ<|decide (r.ind<i2);obtain⟨m2,eJ⟩:=exQ<|ls.length;obtain⟨z,sv,lvv,nv,hz,hK⟩:=bT.out;have cL:=kO (show nx<ls.length by omega);obtain⟨g2,dD,e9,_,L⟩:=hK.lineAt cL;subst e9
    first
    |have _:=QU;have iH:Hid (∀w',aA W0 w'->w'.cell? (P,2)=some (.slice (some ⟨g2,0,none⟩) m2 dD)/\w'.cell? (g2,nx*10+3)=some (.int .i64 i2)/\w'.cell? (X2,3)=some (.int .i64 r.ind)):=hid (λw' hb=>by have bd:=hK.keep hb;obtain⟨⟨_,_,c2,_⟩,_⟩:=bd.cells;have lS:bL w' X2 r:=(bT.out.keep hb).at_ cp.out;obtain⟨_,_,_,b3,_⟩:=lS.cells;obtain⟨g3,sL,e3,_,ej⟩:=bd.lineAt cL;have e4:=(Value.slice.inj e3).1;injection e4 with e4;injection e4 with e4;subst e4;have h3:=ej 3 _ a_ rfl;rw[fs] at h3;simp only[eJ] at c2;exact⟨c2,h3,b3⟩)
    |have iH:Hid (∀w',aA W0 w'->w'.cell? (P,1)=some (.slice ps sp.length cs)/\w'.cell? (P,2)=some (.slice (some ⟨g2,0,none⟩) m2 dD)/\w'.cell? (g2,nx*10+3)=some (.int .i64 i2)/\w'.cell? (X2,3)=some (.int .i64 r.ind)):=hid (λw' hb=>by have bd:=hK.keep hb;obtain⟨⟨_,_,c2,_⟩,_⟩:=bd.cells;have lS:bL w' X2 r:=(bT.out.keep hb).at_ cp.out;obtain⟨_,_,_,b3,_⟩:=lS.cells;obtain⟨g3,sL,e3,_,ej⟩:=bd.lineAt cL;have e4:=(Value.slice.inj e3).1;injection e4 with e4;injection e4 with e4;subst e4;have h3:=ej 3 _ a_ rfl;rw[fs] at h3;simp only[eJ] at c2;exact⟨zm.out w' hb,c2,h3,b3⟩)
    have uf:(nx:Int)<(m2:Int):=a_;have jt:=hid (aK fs fn);have gc:=hid (aK cO gK);have lE:=hid bc
    first
    |have _:=QU;clear hK hz L cL eJ fs cO gK gI bc;refine mZ [45,46,47,48,49,50,51,52,53,54,55,56,57,58,59,60] 75 [some P,nx,true,true,some P,some P,(P,2),(g2,m2,dD),nx,(g2,nx*10),(g2,nx*10+3),i2,(X2,3),r.ind,bb,bb] (λw'=>aA W0 w') [2,0,1,3,15,4,5,6,7,8,9,10,11,12,13,14] i_ ?_ ?_
    |clear hK hz L cL eJ fs cO gK bc;refine mZ [66,67,68,69,70,71,72,73,74,75,76,77,78,79,80,81,82,83,84,85] 103 [nx,some P,some P,(P,1), .slice ps sp.length cs,sp.length,true,true,some P,some P,(P,2),(g2,m2,dD),nx,(g2,nx*10),(g2,nx*10+3),i2,(X2,3),r.ind,bb,bb] (λw'=>aA W0 w') [0,1,2,3,4,5,6,7,19,8,9,10,11,12,13,14,15,16,17,18] i_ ?_ ?_
    .intro d a w' iq o' hO ho hi F aa G R' I;first|have _:=QU;have Z:=dW aa [(0,some P),(10,some X2),(11,nx)] rfl rfl;have hc:=G.all [(0,45),(1,46),(2,47),(3,48),(4,49),(5,50),(6,51),(7,52),(8,53),(9,54),(10,55),(11,56),(12,57),(13,58),(14,59)] b_|have Z:=dW aa [(0,some P),(10,some X2),(12,nx)] rfl rfl;have hc:=G.all [(0,66),(1,67),(2,68),(3,69),(4,70),(5,71),(6,72),(7,73),(8,74),(9,75),(10,76),(11,77),(12,78),(13,79),(14,80),(15,81),(16,82),(17,83),(18,84)] b_
     dsimp only[dS,dM,lk] at Z hc;clear aa;first|have _:=QU;obtain⟨p2,l3,x3⟩:=iH.out _ G.st|obtain⟨p1,p2,l3,x3⟩:=iH.out _ G.st
     repeat' rcases hO with _ | ⟨_,hO⟩
     all_goals (simp only[cR,cP,bY,cC] at ho;subst ho;try simp[Region.binds] at F)
     first
     |have _:=QU
      .exact GD
      iterate 4 (refine jD ?_;go_simp;exact I _ _ G.sp)
     |iterate 9 (refine jD ?_;go_simp;exact I _ _ G.sp)
     iterate 11 (refine G.on ?_ (hd:=by simp[F]);go_simp;exact I _ _ G.sp)
    intro wz hS;simp only[iU,cY,cQ,cZ];have hI:=hid (bT.out.keep hS);obtain⟨y0,y1⟩:=jY (hI.out.at_ gZ.out);first|have _:=QV;have ly:bL wz X2 r:=hI.out.at_ cp.out;obtain⟨_,_,_,_,_,_,l6,_⟩:=ly.cells;clear ly|skip
    have fn:=jt.out.2;have I:=lU.out;rw[jt.out.1] at I;cases bb with
    | true=>
     rw[if_pos ⟨lE.out,of_decide_eq_true fn⟩] at I;obtain⟨Q,hQ⟩:=exQ<|B nx kf kt ⟨ls,st.nodes,st.total⟩;rw[hQ] at I;have cf:Hid (Q=R):=hid I
     first
     |have _:=QU;have CL:Hid (∀w',YJ YP ap w0 P txt sp ⟨ls,st.nodes,st.total⟩ 0 0 w'->Calls prog 44 #[some P,nx,lev, .agg #[kf,kt]] w' (fG YP ap w0 P txt sp Q)):=hid (λw' hj=>by have:=IH ap nx kf kt ⟨ls,st.nodes,st.total⟩ lev w' hj gc.out.1.symm nI.out hl;rw[hQ] at this;exact this)
     |have CL:Hid (∀w',YJ YQ ap w0 P txt sp ⟨ls,st.nodes,st.total⟩ 0 0 w'->Calls prog 21 #[some P,nx,lev, .agg #[kf,kt]] w' (fG YQ ap w0 P txt sp Q)):=hid (λw' hj=>by have:=IH ap nx kf kt ⟨ls,st.nodes,st.total⟩ lev w' hj gc.out.1.symm nI.out hl;rw[hQ] at this;exact this)
     clear I hQ fn;exact it
    | false=>
     rw[if_neg (λe=>of_decide_eq_false fn e.2)] at I;obtain⟨Q,hQ⟩:=exQ<|iB txt lv k kf kt ⟨ls,st.nodes,st.total⟩;rw[hQ] at I;have cf:Hid (Q=R):=hid I
     first
     |have _:=QU;have CL:Hid (∀w',YJ YP ap w0 P txt sp ⟨ls,st.nodes,st.total⟩ 0 0 w'->Calls prog 75 #[some P,k,lev, .agg #[kf,kt]] w' (fG YP ap w0 P txt sp Q)):=hid (λw' hj=>by have:=Ch (st:=⟨ls,st.nodes,st.total⟩) k kf kt lv lev w' hj EC nI.out hl hlv dz.out hs hn hV;rw[hQ] at this;exact this)
     |have CL:Hid (∀w',YJ YQ ap w0 P txt sp ⟨ls,st.nodes,st.total⟩ 0 0 w'->Calls prog 37 #[some P,k,lev, .agg #[kf,kt],r.rf] w' (fG YQ ap w0 P txt sp Q)):=hid (λw' hj=>by have:=(Cj (st:=⟨ls,st.nodes,st.total⟩) k kf kt lv lev w' hj EC nI.out hl hlv dz.out hs hn hV HRd.out).mono (λe w2 hE=>hE.any);rw[hQ] at this;simp only[] at this;rw[xx.out] at this;exact this)
     clear I hQ fn;exact it
 |have ru:=hid a6;clear a6;go_upto_region 3 with fail;rw[ru.out];go_upto_region 4 with fail;clear fB l0 l1 l2 l3 l4 l5 l6 l7 l8 l9 y0 y1;go_upto_block 0 with fail;go_cut [31,32,40,41,42,43,44,45,12] (λAg zk z9 yN nj xl Ad xm jT wx=> ∃(map:Bool) (H:List aB->World->Prop) (kd:Nat) (a7 gE:aO),Hid (YJ YP gE w0 P txt sp st 0 0 wx)/\Hid (∀q o,Pr q=some o->a7 q=some o)/\Hid (∀q o,a7 q=some o->gE q=some o)/\Hid (a7 X2=some (.cells (lineA r) 68))/\Hid (a7 X3=some (.cells #[kd,r.ind,k,(0:Int),kf,kt,(0:Int),(0:Int),()] 45))/\Hid (∀m,lv=m+1-> ∀n,yW w0 P txt sp V map a7 H jT n r.ind (lev+1))/\Hid (∀(st2:YS) (a er:Int) (w2:World),YJ YP gE w0 P txt sp st2 a er w2->H [] w2)/\Hid (∀(had:List aB) (w w':World),H had w->aA w w'->H had w')/\Hid ((match gC ⟨kd,r.ind,k,0,kf,kt,0,0,[]⟩ lv (wL sp st k) st with | .bad a e=>YR.bad a e | .ok n s1=>jM txt sp V map n r.ind r.kind (sp.length-k) [] k s1)=R))
  case first=>
   have b3:=ax.out;have fL:=em.out;have fB:=lu.out;by_cases h5:r.kind=5
   .have d5:(r.kind==5)=true:=by rw[h5];rfl
    have I:=HR.out;rw[if_pos h5] at I;obtain⟨Q,hQ⟩:=exQ<|iB txt lv k kf kt st;rw[hQ] at I;have cf:Hid (Q=R):=hid I;have CL:Hid (∀w',YJ YP ap w0 P txt sp st 0 0 w'->Calls prog 75 #[some P,k,lev, .agg #[kf,kt]] w' (fG YP ap w0 P txt sp Q)):=hid (λw' hj=>by have:=Ch k kf kt lv lev w' hj eY.out HW.out hl hlv dz.out hs hn hV;rw[hQ] at this;exact this);clear I hQ h5 b3 fL fB;go_wp2_with fail;refine(CL.out _ (by first | exact r7.out | exact r7.out.keep (aD _ _).drew)).mono ?_;exact az
   .have d5:(r.kind==5)=false:=aI.2 h5;by_cases hkd:r.kind=4
    .have d4:(r.kind==4)=true:=by rw[hkd];rfl
     obtain⟨B,yD⟩:=exQ<|W3.heap.size;have b4:=aL W3 (.map #[] 0);have wm:HM B [] (W3.alloc (.map #[] 0)):=by rw[<-yD];exact World.ownsMap_made W3 _ _ _
     obtain⟨W4,cH⟩:=exQ<|W3.alloc (.map #[] 0);have AQ:B<W4.heap.size:=by rw[<-cH,<-yD];simp
     rw[cH] at b4 wm;obtain⟨CX,oC⟩:=exQ<|W4.heap.size;have b5:=aL W4 (.cells #[some P] 64);have oF:=heap_alloc_new W4 (.cells #[some P] 64);have vX:(W4.alloc (.cells #[some P] 64)).heap.size=W4.heap.size+1:=e_;obtain⟨W5,mt⟩:=exQ<|W4.alloc (.cells #[some P] 64);rw[mt] at b5 oF vX;have b6:=aL W5 (.cells #[.map (some B)] 124);have si:=heap_alloc_new W5 (.cells #[.map (some B)] 124);obtain⟨W6,xg⟩:=exQ<|W5.alloc (.cells #[.map (some B)] 124);rw[xg] at b6 si;rw[vX,oC] at si;rw[oC] at oF;have CM:=hid (aBV P B W4);rw[mt,xg,oC] at CM;have sM:=aE b5 b6;have zy:=aE (aE b3 b4) sM;have mW:X3<W3.heap.size:=aG fL;have qd:W6.heap[X3]?=some (.cells #[(2:Int),r.ind,k,(0:Int),kf,kt,(0:Int),(0:Int),()] 45):=(sM.block _ (by have:=b4.size;omega)).trans ((b4.block _ mW).trans fL);have pA:HM B [] W6:=wm.same (sM.block B AQ);obtain⟨W7,jH⟩:=exQ<|W6.setCell ⟨X3,0,none⟩ (.int .i64 3);have zD:aA W2 W7:=by rw[<-jH];exact zy.setCell (show W2.heap.size<=X3 by omega) _
     have mN: ∀q,q≠X3->W7.heap[q]?=W6.heap[q]?:=λq Z=>by rw[<-jH];exact eW W6 ⟨X3,0,none⟩ _ q Z
     have tJ:W7.heap[X3]?=some (.cells #[(3:Int),r.ind,k,(0:Int),kf,kt,(0:Int),(0:Int),()] 45):=by rw[<-jH];exact aBY qd
     have v6:B≠X3:=a_;have pf:CX≠X3:=by have:=b4.size;omega
     have oq:CX+1≠X3:=by have:=b4.size;omega
     have sZ:CX≠B:=a_;have tU:CX+1≠B:=a_;have tr:W7.heap[CX]?=some (.cells #[some P] 64):=(mN _ pf).trans ((b6.block _ (aG oF)).trans oF);have ug:W7.heap[CX+1]?=some (.cells #[.map (some B)] 124):=(mN _ oq).trans si;have nY:HM B [] W7:=pA.same (mN B v6);obtain⟨r4,rD,mv⟩:=nY.obj;obtain⟨a7,dX⟩: ∃a7:aO,((ap.put X3 (.cells #[(3:Int),r.ind,k,(0:Int),kf,kt,(0:Int),(0:Int),()] 45)).put CX (.cells #[some P] 64)).put (CX+1) (.cells #[.map (some B)] 124)=a7:=⟨_,rfl⟩;have zO:=b3.size;have ze:=b4.size;have zR: ∀q o,a7 q=some o->ap q=some o\/(W2.heap.size<=q/\W7.heap[q]?=some o):=λq o Z=>by
      rw[<-dX] at Z;by_cases h1:q=CX+1
      .subst h1;rw[aO.put_eq] at Z;rw[<-bA Z];exact .inr ⟨a_,ug⟩
      .rw[aO.put_ne _ _ h1] at Z;by_cases h2:q=CX
       .subst h2;rw[aO.put_eq] at Z;rw[<-bA Z];exact .inr ⟨a_,tr⟩
       .rw[aO.put_ne _ _ h2] at Z;by_cases h3:q=X3
        .subst h3;rw[aO.put_eq] at Z;rw[<-bA Z];exact .inr ⟨a_,tJ⟩
        .rw[aO.put_ne _ _ h3] at Z;exact .inl Z
     have bE:=cm.out.puts zD zR;have p9: ∀q o,ap q=some o->a7 q=some o:=λq o Z=>by
      have:=cm.out.frLt q o Z;rw[<-dX,aO.put_ne _ _ (show q≠CX+1 by omega),aO.put_ne _ _ (show q≠CX by omega),aO.put_ne _ _ (show q≠X3 by omega)];exact Z
     have bX:=hid (λq o Z=>p9 q o (av.out q o Z));have lx:=hid (p9 _ _ cp.out);have gP:Hid (a7 X3=some (.cells #[(3:Int),r.ind,k,(0:Int),kf,kt,(0:Int),(0:Int),()] 45)):=hid (by rw[<-dX,aO.put_ne _ _ (Ne.symm oq),aO.put_ne _ _ (Ne.symm pf)];exact aO.put_eq _ _ _);have xz:a7 CX=some (.cells #[some P] 64):=by rw[<-dX,aO.put_ne _ _ a_];exact aO.put_eq _ _ _
     have sV:a7 (CX+1)=some (.cells #[.map (some B)] 124):=by rw[<-dX];exact aO.put_eq _ _ _
     have rh:a7 B=none:=by
      rw[<-dX,aO.put_ne _ _ (Ne.symm tU),aO.put_ne _ _ (Ne.symm sZ),aO.put_ne _ _ v6];cases Z:ap B with
      | none=>rfl
      | some o=>have:=cm.out.frLt _ _ Z;omega
     have AR:w0.heap.size<=B:=by have:=cm.out.bel.size;omega
     have gx:=hid bE;have nT:Hid (∀m,lv=m+1-> ∀n,yW w0 P txt sp V true a7 (HM B) (.func (.func 110) #[] #[some CX,some (CX+1)]) n r.ind (lev+1)):=hid (λm hm n=>aBX dz.out hs hn hV (hVG a_) (IH m hm) a7 n r.ind (lev+1) (hid G5) AR rh xz sV);have BY:=hid nY;have HPB:=hid rh;have uy:=hid mv;have Bw:W6.cell? (X3,0)=some (.int .i64 2)/\W6.frozen? ⟨X3,0,none⟩=false:=by
      obtain⟨q0,_,_,_,_,_,_,_,_,f0,_⟩:=Gh qd;exact⟨q0,f0⟩
     obtain⟨hx0c,hx0f⟩:=Bw;have I:=HR.out;rw[if_neg h5,if_pos hkd,aQ hkd] at I;have kE:=hid I;have hmm:= @run_makeMap prog;have zx:=hid (bE.putMap (b:=B) (es:=r4) (c:=rD) mv);have xL:=hid (aO.put_lessN (o:= .map r4 rD) rh);have xT:Hid (∀(st2:YS) (a er:Int) (w2:World),YJ YP (a7.put B (.map r4 rD)) w0 P txt sp st2 a er w2->HM B [] w2):=hid (λst2 a er w2 hj=>BY.out.same ((hj.at_ (aO.put_eq _ _ _)).trans uy.out.symm));clear hkd h5 I fL b3 b4 b5 b6 sM zy zD bE dX wm pA nY mv oF si tr ug qd tJ zR p9 xz sV rh mN v6 pf oq sZ tU mW zO ze vX fB;go_wp2_with fail;refine CM.out.mono ?_;rintro e w5 ⟨rfl,rfl⟩;go_wp2;go_meet;exact⟨true,HM B,3,a7,a7.put B (.map r4 rD),zx,bX,xL,lx,gP,nT,xT,hid (λhad w w' h hb=>h.same (hb.block B h.lt)),kE⟩
    .have d4:(r.kind==4)=false:=aI.2 hkd;have bE:=cm.out.put b3 (show W2.heap.size<=X3 by omega) fL;have bX:=hid (λq o Z=>aO.put_less (Pr:=ap) (X:=X3) (o:= .cells #[(2:Int),r.ind,k,(0:Int),kf,kt,(0:Int),(0:Int),()] 45) (λq o' Z=>cm.out.frLt q o' Z) (show W2.heap.size<=X3 by omega) q o (av.out q o Z));have th:=hid (λq o Z=>aO.put_less (Pr:=ap) (X:=X3) (o:= .cells #[(2:Int),r.ind,k,(0:Int),kf,kt,(0:Int),(0:Int),()] 45) (λq o' Z=>cm.out.frLt q o' Z) (show W2.heap.size<=X3 by omega) q o Z);obtain⟨a7,dX⟩: ∃a7:aO,ap.put X3 (.cells #[(2:Int),r.ind,k,(0:Int),kf,kt,(0:Int),(0:Int),()] 45)=a7:=⟨_,rfl⟩;have gP:=hid (aO.put_eq ap X3 (.cells #[(2:Int),r.ind,k,(0:Int),kf,kt,(0:Int),(0:Int),()] 45));rw[dX] at bE bX gP th;have lx:=hid (th.out _ _ cp.out);have gx:=hid bE;have nT:Hid (∀m,lv=m+1-> ∀n,yW w0 P txt sp V false a7 HT (.func (.func 74) #[some P] #[]) n r.ind (lev+1)):=hid (λm hm n=>aBW dz.out hs hn hV (hVG a_) (IH m hm) a7 n r.ind (lev+1) (hid G5));have HH0:Hid (∀w':World,YJ YP a7 w0 P txt sp st 0 0 w'-> ∀st2 a er w2,YJ YP a7 w0 P txt sp st2 a er w2->HT [] w2):=hid (λ_ _ _ _ _ _ _=>trivial);have I:=HR.out;rw[if_neg h5,if_neg hkd,aJ hkd] at I;have kE:=hid I;clear hkd h5 I fL b3 bE dX fB;go_wp2;go_meet;exact⟨false,HT,2,a7,a7,gx,bX,hid (λq o Z=>Z),lx,gP,nT,hid (λ_ _ _ _ _=>trivial),hid (λ_ _ _ _ _=>trivial),kE⟩
  case rest=>
   obtain⟨map,H,kd,a7,gE,B6,bX,vW,lx,gP,nT,Da,vt,kE⟩:=hcut;go_upto_region 9 with fail;obtain⟨W9,nS⟩:=exQ<|wc.drew;have ga:=B6.out.keep (aD _ wc).drew;rw[nS] at ga;have fk:=hid ga;obtain⟨bg,jX⟩:=exQ<|wL sp st k;have CB:Hid (∀w',YJ YP gE w0 P txt sp st 0 0 w'->Calls prog 46 #[some P,k] w' (aT w' (.int .i64 bg))):=hid (λw' hj=>by have:=Gt (Pr:=gE) k w' hj sX eY.out (HW.out.ls.2 k eY.out) hs;rw[<-jX];exact this);have sg:=kE.out;rw[jX] at sg;obtain⟨A,hA⟩:=exQ<|gC ⟨kd,r.ind,k,0,kf,kt,0,0,[]⟩ lv bg st;rw[hA] at sg;have sh:Hid (∀w',YJ YP gE w0 P txt sp st 0 0 w'->Calls prog 77 #[some P, .agg #[kd,r.ind,k,(0:Int),kf,kt,(0:Int),(0:Int),()],lev,bg] w' (sH YP gE w0 P txt sp A)):=hid (λw' hj=>by have:=Nm (Pr:=gE) ⟨kd,r.ind,k,0,kf,kt,0,0,[]⟩ lv lev bg w' hj rfl hl hlv (by have:=HW.out.tot;omega);rw[hA] at this;exact this);obtain⟨SA,ak⟩: ∃S:World->Prop,(λw'=>w'.cell? (X3,0)=some (.int .i64 (kd:Int))/\w'.cell? (X3,1)=some (.int .i64 r.ind)/\w'.cell? (X3,2)=some (.int .i64 (k:Int))/\w'.cell? (X3,3)=some (.int .i64 0)/\w'.cell? (X3,4)=some (.int .i64 kf)/\w'.cell? (X3,5)=some (.int .i64 kt)/\w'.cell? (X3,6)=some (.int .i64 0)/\w'.cell? (X3,7)=some (.int .i64 0)/\w'.cell? (X3,8)=some (.slice none 0 0))=S:=⟨_,rfl⟩;have am:Hid (∀w',aA W9 w'->SA w'):=hid (λw' hb=>by rw[<-ak];exact kD ((fk.out.keep hb).at_ (vW.out _ _ gP.out)));have HA:=hid hA;have bw:=hid sg;clear sg hA jX ga;cases A with
   | bad a e=>
    have ow:Hid (YR.bad a e=R):=hid bw.out;obtain⟨iO,eE⟩: ∃O:World->Prop,(λw'=>gH YP gE w0 P txt sp a e w')=O:=⟨_,rfl⟩;have CA:Hid (∀w',YJ YP gE w0 P txt sp st 0 0 w'->Calls prog 77 #[some P, .agg #[kd,r.ind,k,(0:Int),kf,kt,(0:Int),(0:Int),()],lev,bg] w' λe w2=>e= .returned (.tuple #[(0:Int),false])/\iO w2):=hid (λw' hj=>by rw[<-eE];exact sh.out w' hj);clear sh;refine iV [47,48,49,50,51,52,53,46,54,55,13,14] [] [6] 1000000 (λ_ _=>True) 100 [some P, .agg #[kd,r.ind,k,(0:Int),kf,kt,(0:Int),(0:Int),()],lev,some P,k,bg,undef, .tuple #[(0:Int),false],(0:Int),false,(0:Int),false] SA (Co W9 (.tuple #[(0:Int),false]) iO) [5,6,7,0,2,3,4,8,9,10,11,1] (by rw[nS];exact am.out _ (aD _ _)) (by rw[nS];exact aD _ _) ?_ ?_
    .intro d a w' iq o' hO ho hi F aa G R' I;have Z:=dW aa [(0,some P),(1,k),(2,lev),(11,some X3)] rfl rfl;have hc:=G.all [(7,46),(0,47),(1,48),(2,49),(3,50),(4,51),(5,52),(8,54),(9,55)] b_;dsimp only[dS,dM,lk] at Z hc;clear aa;have ha:=F;have aj:=ho
     repeat' rcases hO with _ | ⟨_,hO⟩
     all_goals (simp only[cR,cP,bY,cC] at ho;subst ho;try simp[Region.binds] at F)
     .exact O5
     .exact O6
     .have wd:Co W9 (.tuple #[(0:Int),false]) iO 1 (a.tmps.getD 53 undef) w':=G.fin (λe he=>by simp at he;subst he;exact c_);have sQ:a.tmps[53]?.getD undef= .tuple #[(0:Int),false]:=by rw[<-aN];exact wd.1
      exact ah
     iterate 8 (go_simp;exact I _ _ (G.pu aj ha))
     all_goals
      have ab:=G.ea hi;rw[<-ak] at ab;obtain⟨b0,b1,b2,b3,b4,b5,b6,b7,b8⟩:=ab;exact ah
    intro v wz bf eg;have ll:v 53= .tuple #[(0:Int),false]:=eg.1;have lb:v 46= .tuple #[(0:Int),false]:=bf 7 b_ b_ b_ b_;have lm:v 54= .int .i64 0:=bf 8 b_ b_ b_ b_;have la:v 55= .bool false:=bf 9 b_ b_ b_ b_;have lr:v 13= .int .i64 0:=bf 10 b_ b_ b_ b_;have k6:v 14= .bool false:=bf 11 b_ b_ b_ b_;have hO:=eg.2;rw[<-eE] at hO;have HF:=hid (show gH YP gE w0 P txt sp a e wz from hO);clear eg hO bf ak am;simp only[cU,cY,cQ,cZ,ll,lb,lm,la,lr,k6];clear ll lb lm la lr k6;go_wp2;go_loopw [14] (λeu wr=>eu= .bool false/\wz=wr) (λ_ _=>0)
    case atStart=>exact⟨rfl,rfl⟩
    case round=>
     obtain⟨rfl,rfl⟩:=hrel;go_upto_region 10 with fail;obtain⟨W3,a6⟩:=exQ<|wz.drew;have rT:=hid ((HF.out.less (λq o Z=>vW.out q o (bX.out q o Z))).keep (aD _ wz).drew);rw[a6] at rT;refine mZ [56,57,58,59,60,61,62,63,64,65,66,67,68,69,70,71,72,73,74,75,76,77,78,79,80,81,82,83,84,85,86,87] 100 [false,false,undef,undef,undef,false,false,undef,undef,undef,undef,undef,undef,undef,undef,undef,undef,undef,false,false,undef,undef,undef,undef,undef,undef,undef,undef,undef,undef,undef,false] (λw'=>aA W3 w') [0,1,5,6,18,19,31,2,3,4,7,8,9,10,11,12,13,14,15,16,17,20,21,22,23,24,25,26,27,28,29,30] u' ?_ ?_
     .exact EZ
     intro wz hS;simp only[iU,cY,cQ,cZ];have uB:=hid (rT.out.keep hS);clear hS;go_wp2;go_ret2;rw[<-ow.out];exact⟨⟨_,rfl⟩,uB.out⟩
   | ok nn s1=>
    obtain⟨e1,e2,kn,oP⟩:=mC HA.out;subst e2;obtain⟨m,hm⟩: ∃m,lv=m+1:=⟨lv-1,a_⟩;have I:=bw.out;simp only[] at I;have xo:=hid I;have zX:=hVG kn;have uZ:=nT.out m hm nn;obtain⟨ie,qS⟩:=exQ<|lev+1;have sx:IntKind.i64.wrap ie=ie:=by rw[IntKind.wrap_i64];have:=hl.out;omega
    rw[qS] at uZ;have fa:=hid uZ;obtain⟨iO,eE⟩: ∃O:World->Prop,(λw'=>YJ YP gE w0 P txt sp ⟨st.lines,st.nodes++ [⟨kd,r.ind,k,0,kf,kt,0,0,[]⟩],st.total+1⟩ 0 0 w')=O:=⟨_,rfl⟩;have CA:Hid (∀w',YJ YP gE w0 P txt sp st 0 0 w'->Calls prog 77 #[some P, .agg #[kd,r.ind,k,(0:Int),kf,kt,(0:Int),(0:Int),()],lev,bg] w' λe w2=>e= .returned (.tuple #[nn,true])/\iO w2):=hid (λw' hj=>by rw[<-eE];exact sh.out w' hj);have zE:=hid e1;clear sh I uZ e1 nT;refine iV [47,48,49,50,51,52,53,46,54,55,13,14] [] [6] 1000000 (λ_ _=>True) 100 [some P, .agg #[kd,r.ind,k,(0:Int),kf,kt,(0:Int),(0:Int),()],lev,some P,k,bg,undef, .tuple #[nn,true],nn,true,nn,true] SA (Co W9 (.tuple #[nn,true]) iO) [5,6,7,0,2,3,4,8,9,10,11,1] (by rw[nS];exact am.out _ (aD _ _)) (by rw[nS];exact aD _ _) ?_ ?_
    .intro d a w' iq o' hO ho hi F aa G R' I;have Z:=dW aa [(0,some P),(1,k),(2,lev),(11,some X3)] rfl rfl;have hc:=G.all [(7,46),(0,47),(1,48),(2,49),(3,50),(4,51),(5,52),(8,54),(9,55)] b_;dsimp only[dS,dM,lk] at Z hc;clear aa;have ha:=F;have aj:=ho
     repeat' rcases hO with _ | ⟨_,hO⟩
     all_goals (simp only[cR,cP,bY,cC] at ho;subst ho;try simp[Region.binds] at F)
     .exact O5
     .exact O6
     .have wd:Co W9 (.tuple #[nn,true]) iO 1 (a.tmps.getD 53 undef) w':=G.fin (λe he=>by simp at he;subst he;exact c_);have sQ:a.tmps[53]?.getD undef= .tuple #[nn,true]:=by rw[<-aN];exact wd.1
      exact ah
     iterate 8 (go_simp;exact I _ _ (G.pu aj ha))
     all_goals
      have ab:=G.ea hi;rw[<-ak] at ab;obtain⟨b0,b1,b2,b3,b4,b5,b6,b7,b8⟩:=ab;exact ah
    intro v wz bf eg;have ll:v 53= .tuple #[nn,true]:=eg.1;have lb:v 46= .tuple #[nn,true]:=bf 7 b_ b_ b_ b_;have lm:v 54= .int .i64 (nn:Int):=bf 8 b_ b_ b_ b_;have la:v 55= .bool true:=bf 9 b_ b_ b_ b_;have lr:v 13= .int .i64 (nn:Int):=bf 10 b_ b_ b_ b_;have k6:v 14= .bool true:=bf 11 b_ b_ b_ b_;have hO:=eg.2;rw[<-eE] at hO;have uv:YJ YP a7 w0 P txt sp ⟨st.lines,st.nodes++ [⟨kd,r.ind,k,0,kf,kt,0,0,[]⟩],st.total+1⟩ 0 0 wz:=YJ.less hO vW.out;have wv:(H) [] wz:=Da.out _ _ _ _ hO;have wD:dR txt sp ⟨st.lines,st.nodes++ [⟨kd,r.ind,k,0,kf,kt,0,0,[]⟩],st.total+1⟩:=⟨HW.out.ls,by have:=HW.out.tot;simp only[aZ,dF];omega⟩;have ra:Hid (Cp w0 P txt sp V map a7 (H) nn r.ind r.kind R true k wz):=hid ⟨sp.length-k,[],_,xo.out,uv,wv,wD,λ_=>dw.out,a_,a_,⟨⟨kd,r.ind,k,0,kf,kt,0,0,[]⟩,by rw[zE.out];simp,rfl,by simp only[aZ,dF,lQ];have:=zE.out;omega⟩,cI _⟩;clear eg hO bf ak am uv wv wD xo bw kE HR CA eE CB fk nS;simp only[cU,cY,cQ,cZ,ll,lb,lm,la,lr,k6];clear ll lb lm la lr k6;go_wp2;go_loopw [1,14] (λs1 eu wr=>(∃k:Nat,eu= .bool true/\s1= .int .i64 (k:Int)/\k<=sp.length/\Hid (Cp w0 P txt sp V map a7 (H) nn r.ind r.kind R true k wr))\/(∃m:Int,eu= .bool false/\s1= .int .i64 m/\Hid (Cp w0 P txt sp V map a7 (H) nn r.ind r.kind R false 0 wr))) (λs1 eu _=>Gu sp.length s1 eu)
    case atStart=>exact .inl ⟨k,rfl,rfl,a_,ra⟩
    case round=>
     clear ra HK dw eY sX hkl gX gm hk1l;rcases hrel with⟨k,rfl,rfl,fR,mD⟩ | ⟨m,rfl,rfl,mD⟩;rotate_left
     .obtain⟨a,e,fP,ar⟩:=(show ∃a e,R= .bad a e/\gH YP a7 w0 P txt sp a e wr from mD.out);have CD:=hid fP;go_upto_region 10 with fail;obtain⟨W3,a6⟩:=exQ<|wr.drew;have wo:=(ar.less bX.out).keep (aD _ wr).drew;rw[a6] at wo;have rT:=hid wo;clear wo ar fP;refine mZ [56,57,58,59,60,61,62,63,64,65,66,67,68,69,70,71,72,73,74,75,76,77,78,79,80,81,82,83,84,85,86,87] 100 [false,false,undef,undef,undef,false,false,undef,undef,undef,undef,undef,undef,undef,undef,undef,undef,undef,false,false,undef,undef,undef,undef,undef,undef,undef,undef,undef,undef,undef,false] (λw'=>aA W3 w') [0,1,5,6,18,19,31,2,3,4,7,8,9,10,11,12,13,14,15,16,17,20,21,22,23,24,25,26,27,28,29,30] u' ?_ ?_
      .exact EZ
      intro wz hS;simp only[iU,cY,cQ,cZ];have uB:=hid (rT.out.keep hS);clear hS;go_wp2;go_ret2;rw[CD.out];exact⟨⟨_,rfl⟩,uB.out⟩
     .obtain⟨f,had,sr,oO,qN,xd,qA,mb,lh,ui,⟨x,hx,hxi,fZ⟩,hhl⟩:=(show ∃f had st,jM txt sp V map nn r.ind r.kind f had k st=R/\YJ YP a7 w0 P txt sp st 0 0 wr/\(H) had wr/\dR txt sp st/\(k<sp.length->k+1=st.lines.length)/\k<=sp.length/\sp.length<=k+f/\(∃x,st.nodes[nn]?=some x/\x.ind=r.ind/\x.kids.length+nn<st.nodes.length)/\had.length<=k from mD.out);have vi:(0:Int)<=(k:Int):=a_;go_upto_region 10 with fail;obtain⟨W3,a6⟩:=exQ<|wr.drew;have uF:=qN.keep (aD _ wr).drew;have wb:=vt.out had wr _ xd (aD _ wr).drew;rw[a6] at uF wb;have ex:=hid uF;have Bd:=hid wb;have gI:Hid (∀w',aA W3 w'->Calls prog 43 #[some P,k] w' (aT w' (.bool (decide (k<sp.length))))):=hid (λw' hb=>wR k w' (ex.out.keep hb));have jE:=hid oO;have HX:=hid (aK hx (aK hxi fZ));have kC:=hid qA;clear qN xd uF wb oO hx hxi fZ qA mD;by_cases bc:k<sp.length;rotate_left
      .have cD:=jE.out;rw[wX (λh=>bc h.1)] at cD;have eG:=hid cD;have CT:Hid (∀w',aA W3 w'->Calls prog 43 #[some P,k] w' (aT w' (.bool false))):=hid (λw' hb=>by have:=gI.out w' hb;rw[aJ bc] at this;exact this);clear cD gI bc mb;refine mZ [56,57,58,59,60,61,62,63,64,65,66,67,68,69,70,71,72,73,74,75,76,77,78,79,80,81,82,83,84,85,86,87] 100 [true,true,some P,k,false,false,false,undef,undef,undef,undef,undef,undef,undef,undef,undef,undef,undef,false,false,undef,undef,undef,undef,undef,undef,undef,undef,undef,undef,undef,false] (λw'=>aA W3 w') [4,0,1,5,6,18,19,31,2,3,7,8,9,10,11,12,13,14,15,16,17,20,21,22,23,24,25,26,27,28,29,30] u' ?_ ?_
       .intro d a w' iq o' hO ho hi F aa G R' I;have Z:=dW aa [(0,some P),(1,k),(10,some X2),(14,true)] rfl rfl;have hc:=G.all [(0,56),(1,57),(2,58),(3,59),(4,60),(5,61),(6,62),(17,73),(18,74),(19,75),(30,86)] b_;dsimp only[dS,dM,lk] at Z hc;clear aa
        repeat' rcases hO with _ | ⟨_,hO⟩
        all_goals (simp only[cR,cP,bY,cC] at ho;subst ho;try simp[Region.binds] at F)
        .exact EQ
        iterate 7 (refine jD ?_;go_simp;exact I _ _ G.sp)
        iterate 2 (refine G.on ?_ (hd:=by simp[F]);go_simp;exact I _ _ G.sp)
        iterate 22 exact G.sk I (hd:=by simp[F])
       exact FF
      .have hk1l:=mb bc;have CT:Hid (∀w',aA W3 w'->Calls prog 43 #[some P,k] w' (aT w' (.bool true))):=hid (λw' hb=>by have:=gI.out w' hb;rw[aQ bc] at this;exact this);have cL:=kO (show k<sr.lines.length by omega);obtain⟨r2,kN⟩:=exQ<|aU sr.lines k;rw[kN] at cL;obtain⟨z5,xP,vJ,As,sE,gv⟩:=ex.out;obtain⟨g2,dD,e9,_,L⟩:=gv.lineAt cL;subst e9;obtain⟨i2,fs⟩:=exQ<|r2.ind;obtain⟨k2,nP⟩:=exQ<|r2.kind;obtain⟨m2,eJ⟩:=exQ<|sr.lines.length;have iH:Hid (∀w',aA W3 w'->w'.cell? (P,2)=some (.slice (some ⟨g2,0,none⟩) m2 dD)/\w'.cell? (g2,k*10+3)=some (.int .i64 i2)/\w'.cell? (g2,k*10)=some (.int .i64 k2)/\w'.cell? (X2,3)=some (.int .i64 r.ind)/\w'.cell? (X2,0)=some (.int .i64 r.kind)):=hid (λw' hb=>by have bd:=gv.keep hb;obtain⟨⟨_,_,c2,_⟩,_⟩:=bd.cells;obtain⟨g3,sL,e3,_,ej⟩:=bd.lineAt cL;have e4:=(Value.slice.inj e3).1;injection e4 with e4;injection e4 with e4;subst e4;have h3:=ej 3 _ a_ rfl;have h0:=ej 0 _ a_ rfl;simp only[Nat.add_zero] at h0;rw[fs] at h3;rw[nP] at h0;simp only[eJ] at c2;have cb:bL w' X2 r:=(ex.out.keep hb).at_ lx.out;obtain⟨q0,_,_,q3,_⟩:=cb.cells;exact⟨c2,h3,h0,q3,q0⟩);have fh:(k:Int)<(m2:Int):=a_;have cJ:=hid (aK fs (aK nP (aK kN hk1l)));have lE:=hid bc;have Ab:=hid ui;clear gv sE L cL eJ fs nP kN gI mb hk1l ui bc;by_cases jh:i2=r.ind;rotate_left
       .have v7:(i2==r.ind)=false:=aI.2 jh;have cD:=jE.out;rw[wX (λh=>jh (by rw[<-cJ.out.1,<-cJ.out.2.2.1];exact h.2.1))] at cD;have eG:=hid cD;clear cD jh;refine mZ [56,57,58,59,60,61,62,63,64,65,66,67,68,69,70,71,72,73,74,75,76,77,78,79,80,81,82,83,84,85,86,87] 100 [true,true,some P,k,true,true,true,some P,some P,(P,2),(g2,m2,dD),k,(g2,k*10),(g2,k*10+3),i2,(X2,3),r.ind,false,false,false,undef,undef,undef,undef,undef,undef,undef,undef,undef,undef,undef,false] (λw'=>aA W3 w') [4,17,0,1,5,6,18,19,31,2,3,7,8,9,10,11,12,13,14,15,16,20,21,22,23,24,25,26,27,28,29,30] u' ?_ ?_
        .intro d a w' iq o' hO ho hi F aa G R' I;have Z:=dW aa [(0,some P),(1,k),(10,some X2),(14,true)] rfl rfl;have hc:=G.all [(0,56),(1,57),(2,58),(3,59),(4,60),(5,61),(6,62),(7,63),(8,64),(9,65),(10,66),(11,67),(12,68),(13,69),(14,70),(15,71),(16,72),(17,73),(18,74),(19,75),(30,86)] b_;dsimp only[dS,dM,lk] at Z hc;clear aa;obtain⟨p2,l3,l0,x3,x0⟩:=iH.out _ G.st
         repeat' rcases hO with _ | ⟨_,hO⟩
         all_goals (simp only[cR,cP,bY,cC] at ho;subst ho;try simp[Region.binds] at F)
         .exact EQ
         .exact FB
         iterate 7 (refine jD ?_;go_simp;exact I _ _ G.sp)
         iterate 12 (refine G.on ?_ (hd:=by simp[F]);go_simp;exact I _ _ G.sp)
         iterate 11 exact G.sk I (hd:=by simp[F])
        exact FF
       .have v7:(i2==r.ind)=true:=(by simpa using jh);obtain⟨bb,vw⟩:=exQ (k2==r.kind);have Ba:=hid jh;have zw:=hid vw;clear jh;refine mZ [56,57,58,59,60,61,62,63,64,65,66,67,68,69,70,71,72,73,74,75,76,77,78,79,80,81,82,83,84,85,86,87] 100 [true,true,some P,k,true,true,true,some P,some P,(P,2),(g2,m2,dD),k,(g2,k*10),(g2,k*10+3),i2,(X2,3),r.ind,true,true,true,some P,some P,(P,2),(g2,m2,dD),k,(g2,k*10),(g2,k*10),k2,some X2,r.kind,bb,bb] (λw'=>aA W3 w') [4,17,30,0,1,5,6,18,19,31,2,3,7,8,9,10,11,12,13,14,15,16,20,21,22,23,24,25,26,27,28,29] u' ?_ ?_
        .intro d a w' iq o' hO ho hi F aa G R' I;have Z:=dW aa [(0,some P),(1,k),(10,some X2),(14,true)] rfl rfl;have hc:=G.all [(0,56),(1,57),(2,58),(3,59),(4,60),(5,61),(6,62),(7,63),(8,64),(9,65),(10,66),(11,67),(12,68),(13,69),(14,70),(15,71),(16,72),(17,73),(18,74),(19,75),(20,76),(21,77),(22,78),(23,79),(24,80),(25,81),(26,82),(27,83),(28,84),(29,85),(30,86)] b_;dsimp only[dS,dM,lk] at Z hc;clear aa;obtain⟨p2,l3,l0,x3,x0⟩:=iH.out _ G.st
         repeat' rcases hO with _ | ⟨_,hO⟩
         all_goals (simp only[cR,cP,bY,cC] at ho;subst ho;try simp[Region.binds] at F)
         .exact EQ
         .exact FB
         .have B3:=G.g 19 75 c_;have c83:=G.g 27 83 c_;have xS:=G.g 29 85 c_;refine nO B3 ?_;have dd:=vw;go_simp;exact I _ _ G.sp
         iterate 7 (refine jD ?_;go_simp;exact I _ _ G.sp)
         iterate 22 (refine G.on ?_ (hd:=by simp[F]);go_simp;exact I _ _ G.sp)
        intro wz hS;simp only[iU,cY,cQ,cZ];have cc:=hid (ex.out.keep hS);have wK:=hid (vt.out had _ _ Bd.out hS);clear hS v7 vw;cases bb with
        | false=>
         have cD:=jE.out;rw[wX (λh=>by have h1:=zw.out;rw[aI] at h1;exact h1 (by rw[<-cJ.out.2.1,<-cJ.out.2.2.1];exact h.2.2))] at cD;have eG:=hid cD;have dA:=hid (cc.out.less bX.out);clear cD;go_wp2;go_ret2;rw[<-eG.out];exact⟨rfl,dA.out⟩
        | true=>
         obtain⟨f1,mi⟩: ∃f1,f=f1+1:=⟨f-1,by have:=Ab.out;have:=lE.out;omega⟩;subst mi;have cD:=jE.out;unfold jM at cD;rw[if_pos ⟨lE.out,by rw[cJ.out.2.2.1,cJ.out.1];exact Ba.out,by rw[cJ.out.2.2.1,cJ.out.2.1];exact eq_of_beq zw.out⟩] at cD;obtain⟨Q,hQ⟩:=exQ<|fW txt sp V map nn r.ind had k sr;rw[hQ] at cD;have CO:Hid (∀w',YJ YP a7 w0 P txt sp sr 0 0 w'->(H) had w'->Calls prog 78 #[some P,nn,k,ie,u12] w' (yV a7 w0 P txt sp (H) Q)):=hid (λw' hj hh=>by have:=fa.out k sr had w' hj hh cJ.out.2.2.2 kC.out ⟨x,HX.out⟩ a_;rw[hQ] at this;exact this);have eG:=hid cD;have HQ:=hid hQ;clear cD hQ;go_wp2_with fail;refine(CO.out _ g_ (by first | exact wK.out | exact vt.out _ _ _ wK.out (aD _ _).drew)).mono ?_;rintro e w7 hE;have HE:=hid hE;clear hE;cases Q with
         | bad a er=>
          obtain⟨⟨m,rfl⟩,ar⟩:=HE.out;have HB:=hid ar;clear ar HE;go_wp2;go_roundw
          .exact .inr ⟨m,rfl,rfl,hid ⟨a,er,eG.out.symm,HB.out⟩⟩
          .simp only[Gu];omega
         | ok nx s2 ge=>
          obtain⟨rfl,ga,yi⟩:=(show e= .returned (.tuple #[nx,true])/\YJ YP a7 w0 P txt sp s2 0 0 w7/\(H) ge w7 from HE.out);have HB:=hid (aK ga yi);clear ga yi HE;obtain⟨⟨x2,t1,t2,t3⟩,t4,t5,t6,t7,t8,t9⟩:=Cb hsp0 zX kC.out cJ.out.2.2.2 HX.out.1 HQ.out;have rH:Hid (Cp w0 P txt sp V map a7 (H) nn r.ind r.kind R true nx w7):=hid ⟨f1,ge,s2,eG.out,HB.out.1,HB.out.2,t6,t9,t7,by have:=Ab.out;omega,⟨x2,t1,t2.trans HX.out.2.1,by rw[t3];have:=HX.out.2.2;omega⟩,a_⟩;clear t1 t2 t3 t4 t5 t6 t9;go_wp2;go_roundw
          .exact .inl ⟨nx,rfl,rfl,t7,rH⟩
          .simp only[Gu,RowKit.intOf];omega):P:=h
theorem PK(h:P:=by
 obtain⟨i,kv,ov,rfl,hi,HC⟩:=hrel;obtain⟨⟨x0,x1,x2,x5⟩,z0,z1⟩:=bN.out wr HC.out.bel;by_cases hil:i<x.kids.length
 .obtain⟨q,Z⟩: ∃q,x.kids[i]?=some q:=⟨_,bI hil⟩;have je:=bH Z;obtain⟨gk,rfl,kc⟩:=HQ.out wr HC.out.bel i q Z
  first
  |have _:=RA;have C1:gk<W3.heap.size:=by
    obtain⟨oy,e1,e2⟩:=HQ.out W3 (aD _ _) i q Z;injection e1 with e1;injection e1 with e1;subst e1;exact vP e2
  |skip
  obtain⟨_,ju⟩:=gt.out q je;have cN:(i:Int)<(x.kids.length:Int):=a_
  have dk:decide ((i:Int)<(x.kids.length:Int))=true:=aQ cN;have du:(0:Int)<=(i:Int):=a_
  first
  |have _:=RC;have rR:decide ((q:Int)<0)=false:=aJ a_;have rd:decide ((ns.length:Int)<=(q:Int))=false:=aJ a_;have v8:decide (ns.length<=q)=false:=aJ a_
  |have io:(0:Int)<=(q:Int):=a_
   have k9:(q:Int)<(ns.length:Int):=a_
  have kJ:=hid (sW Z);obtain⟨pa,ca,bu⟩:=HC.out.keys.slice;obtain⟨po,co,gJ⟩:=HC.out.its.slice;have bc:((x.kids.take i).map (bJ txt ns lv)).length=i:=by rw[bP,bR];omega
  rw[bc] at gJ;obtain⟨nk,cM⟩:=exQ<|(fO txt ns x.kind (x.kids.take i)).length;have mO:nk<=65536:=by
   rw[<-cM];unfold fO;split
   .rw[bP,bR];omega
   .exact cI _
  rw[cM] at bu;subst bu gJ;have lT:=hid cM;have qj:=hid je;first|have _:=RA;have A8:=hid Z|skip
  clear Z je cM bc
  first
  |have _:=RC;go_upto_if 53 with fail;go_cut [54,55,56,57,58,59,60,61] (λvA vx vU ri rG uG va rp wx=> ∃cX,Hid (CS W3 Y kd tx (fO txt ns x.kind (x.kids.take (i+1))) ((x.kids.take i).map (bJ txt ns lv)) cX (.slice po i co) wx))
  |go_upto_if 60 with fail;go_cut [11,12,13,61,62,63,64,65,66,67,68,69,70,71,72,73,74,75,76,77,78,79,80,81,82,83] (λlO jT gp rp vQ uH uR vC lW uQ uT u1 uU qX oE pw pc qh oT oi py oe oR qM pK pE wx=> ∃cX,Hid (CS W3 Y kd tx (fO txt ns x.kind (x.kids.take (i+1))) ((x.kids.take i).map (bJ txt ns lv)) cX (.slice po i co) wx))
  case first=>
   by_cases h6:kd=6;rotate_left
   .have d6:(kd==6)=false:=aI.2 h6;have fw: ¬x.kind=6:=λe=>h6 (H6.out.1 e);have ji:Hid (CS W3 Y kd tx (fO txt ns x.kind (x.kids.take (i+1))) ((x.kids.take i).map (bJ txt ns lv)) (.slice pa nk ca) (.slice po i co) wr):=hid (by have:=HC.out;unfold fO at this ⊢;rw[if_neg fw] at this ⊢;exact this);clear h6 fw;exact mw
   .have d6:(kd==6)=true:=by rw[h6];rfl
    have fw:x.kind=6:=H6.out.2 h6
    first
    |have _:=RC;obtain⟨W0,al⟩:=exQ<|wr.drew
     have fK:aA wr W0:=by rw[<-al];exact(aD _ _).drew
     have au:Hid (CS W3 Y kd tx ((x.kids.take i).map (eS txt ns)) ((x.kids.take i).map (bJ txt ns lv)) (.slice pa nk ca) (.slice po i co) W0):=hid (by have:=HC.out.keep fK;unfold fO at this;rw[if_pos fw] at this;exact this)
    |obtain⟨xq,vV⟩: ∃xq,ns[q]?=some xq:=⟨_,bI ju⟩;obtain⟨g',oY,_,_,_,_,_,m3,m4,_⟩:=pY.out wr HC.out.bel q xq vV;injection oY with oY;injection oY with oY;subst oY;have kl:(eH (gL txt xq.key)).1=eS txt ns q:=by unfold eS;rw[vV]
     have ys:=hid (zW.out xq.key);have o9:=hid (BC.out xq.key);unfold iF at o9;obtain⟨⟨U,ua,ue⟩,hU⟩:=exQ<|eH (gL txt xq.key);rw[hU] at o9 kl;simp only[] at kl;subst kl
    have cy:((x.kids.take i).map (eS txt ns)++ [eS txt ns q]).length=nk+1:=by
     have:=lT.out;unfold fO at this;rw[if_pos fw] at this;rw[aZ,this,dF]
    have i5:((x.kids.take i).map (eS txt ns)).length<=4294967295:=by rw[bP,bR];omega
    have jA:=hid fw;have fu:=hid (aK cy i5)
    first
    |have _:=RC;clear h6 fw cy i5 fK;go_upto_region 10 with fail;obtain⟨SA,ak⟩: ∃S:World->Prop,(λw'=>(w'.cell? (Y,2)=some (.slice pa nk ca)/\w'.frozen? ⟨Y,2,none⟩=false)/\w'.cell? (D,0)=some (.string (bs txt))/\w'.cell? (D,1)=some (.slice (some ⟨g,0,none⟩) ns.length c))=S:=⟨_,rfl⟩;have am:Hid (∀w',aA W0 w'->SA w'):=hid (λw' hb=>by rw[<-ak];obtain⟨_,a3,a4⟩:=bN.out w' (aE au.out.bel hb);have q:=(au.out.keep hb).cells;exact⟨⟨q.2.2.1,q.2.2.2.2.2.2.1⟩,a3,a4⟩);have ia:Hid (∀w' c',lH W3 W0 Y (eS txt ns q) ((x.kids.take i).map (eS txt ns)) (.slice pa nk ca) 3 c' w'->SA w'):=hid (λw' c' hp=>by rw[<-ak];obtain⟨q1,q2,q3,q4,q5⟩:=hp;have ez:=au.out.box;have mh:=aG ez;have e1:w'.heap[Y]?=W0.heap[Y]?:=q4 Y mh au.out.off;have e2:=e1.trans ez;have e3: ∀o',w'.cell? ⟨D,o',none⟩=W0.cell? ⟨D,o',none⟩:=λo'=>q2.cell (p:=⟨D,o',none⟩) (aG j2.out);obtain⟨_,a3,a4⟩:=bN.out W0 au.out.bel;obtain⟨y0,y1,y2,y3,y4,y5,y6,y7⟩:=bK e2;exact⟨⟨y2,y6⟩,by rw[e3];exact a3,by rw[e3];exact a4⟩);clear x0 x1 x2 x5 z0 z1 kc;have j5:prog.follows .mixedOrders=true:=d';refine Af j5 [54,55,56,57,58,59,60,61] [4,5,6,8] 1000000 (λ_ _=>True) 74 rfl d' d' d' (λiz=>match iz with | 0=> .pointer (some ⟨Y,2,none⟩) | 1=> .slice pa nk ca | 2=> .agg #[bs txt,(g,ns.length,c)] | 3=> .int .i64 (q:Int) | 7=> .pointer (some ⟨Y,2,none⟩) | _=>undef) SA (lH W3 W0 Y (eS txt ns q) ((x.kids.take i).map (eS txt ns)) (.slice pa nk ca)) j_ i_ ?_ ?_
     .intro d a w' iq o' ho hi F aa G R' I;have ms:iq<9:=(mK.1 ho).1;have q3:a.tmps[3]?.getD undef= .pointer (some ⟨D,0,none⟩):=by rw[<-aN];exact aa 3 b_
      have q8:a.tmps[8]?.getD undef= .pointer (some ⟨Y,0,none⟩):=by rw[<-aN];exact aa 8 b_
      have xf:a.tmps[10]?.getD undef= .int .i64 (q:Int):=by rw[<-aN];exact aa 10 b_
      clear aa;have ha:=F;have aj:=ho;have ct:iq=0\/iq=1\/iq=2\/iq=3\/iq=4\/iq=5\/iq=6\/iq=7\/iq=8:=a_;clear ms;rcases ct with rfl|rfl|rfl|rfl|rfl|rfl|rfl|rfl|rfl<;>simp only[cR,cP,bY,cC] at ho<;>subst ho
      .exact af
      .simp[Region.binds] at F;have Dg:a.tmps[54]?.getD undef= .pointer (some ⟨Y,2,none⟩):=by rw[<-aN];exact G.cl 0 b_ b_ b_ c_
       have ab:=G.early (f:=9) (i:=1) d' hi;rw[<-ak] at ab;obtain⟨⟨x3,ik⟩,s3,s4⟩:=ab;exact af
      .have ab:=G.early (f:=9) (i:=2) d' hi;rw[<-ak] at ab;obtain⟨⟨x3,ik⟩,s3,s4⟩:=ab;exact af
      .exact af
      .simp[Region.binds] at F;have zB:a.tmps[56]?.getD undef= .agg #[bs txt,(g,ns.length,c)]:=by rw[<-aN];exact G.cl 2 b_ b_ b_ c_
       have zA:a.tmps[57]?.getD undef= .int .i64 (q:Int):=by rw[<-aN];exact G.cl 3 b_ b_ b_ c_
       have ae:=G.at2 (j:=0) rfl hi (.inl rfl);have hA:aA W0 w':=ae;go_simp;go_at_call 155;refine aH (Av.out _ (aE au.out.bel hA) q qj.out) λw5 ag=>?_;have bj:=aE hA ag;exact I _ _ (G.eff2 b_ b_ 0 aj ha rfl hi (.inl rfl) rfl b_ (λ_ _ _=>trivial) (λ_=>am.out _ bj) ⟨rfl,bj⟩)
      .simp[Region.binds] at F;have ad:d 4=true:=by first | first | exact F | exact F.1 | exact F.2 | exact F.2.1 | exact F.2.2 | exact F.2.2.1 | exact F.2.2.2 | (exact ha ⟨_,_⟩ e_ rfl)
       have ae:=G.at2 (j:=1) rfl hi (.inr ⟨4,rfl,ad⟩);obtain⟨hc,hA⟩:=ae;have hc:a.tmps.getD 58 undef= .string (bs (eS txt ns q)):=hc;have rA:a.tmps[58]?.getD undef= .string (bs (eS txt ns q)):=by rw[<-aN];exact hc
       have bj:=λob=>aE hA (aL w' ob);go_simp;exact I _ _ (G.eff2 b_ b_ 1 aj ha rfl hi (.inr ⟨4,rfl,ad⟩) rfl b_ (λ_ _ _=>trivial) (λ_=>am.out _ (bj _)) ⟨w',hA,rfl,rfl⟩)
      .simp[Region.binds] at F;have xD:a.tmps[55]?.getD undef= .slice pa nk ca:=by rw[<-aN];exact G.cl 1 b_ b_ b_ c_
       have ad:d 5=true:=by first | first | exact F | exact F.1 | exact F.2 | exact F.2.1 | exact F.2.2 | exact F.2.2.1 | exact F.2.2.2 | (exact ha ⟨_,_⟩ e_ rfl)
       have ae:=G.at2 (j:=2) rfl hi (.inr ⟨5,rfl,ad⟩);have yO:a.tmps.getD 55 undef= .slice pa nk ca:=by rw[aN];exact xD
       exact lH.app (.tmp 55) (.tmp 59) rfl au.out ae yO rfl fu.out.2 (λv' w2 bE=>I _ _ (G.eff2 b_ b_ 2 aj ha rfl hi (.inr ⟨5,rfl,ad⟩) rfl b_ (λ_ _ _=>trivial) (λ_=>ia.out _ _ bE) bE))
      .exact af
      .simp[Region.binds] at F;have BK:a.tmps[61]?.getD undef= .pointer (some ⟨Y,2,none⟩):=by rw[<-aN];exact G.cl 7 b_ b_ b_ c_
       have ad:d 6=true:=by first | first | exact F | exact F.1 | exact F.2 | exact F.2.1 | exact F.2.2 | exact F.2.2.1 | exact F.2.2.2 | (exact ha ⟨_,_⟩ e_ rfl)
       have ae:=G.at2 (j:=3) rfl hi (.inr ⟨6,rfl,ad⟩);have cw:lH W3 W0 Y (eS txt ns q) ((x.kids.take i).map (eS txt ns)) (.slice pa nk ca) 3 (a.tmps.getD 60 undef) w':=ae;have ab:=G.st hi;rw[<-ak] at ab;obtain⟨⟨x3,ik⟩,_⟩:=ab;obtain⟨i3,dD,hz⟩:=cw.1.slice;rw[fu.out.1] at hz;rw[hz] at cw;have yf:a.tmps[60]?.getD undef= .slice i3 (nk+1) dD:=by rw[<-aN];exact hz
       go_simp;exact I undef _ (G.eff2 b_ b_ 3 aj ha rfl hi (.inr ⟨6,rfl,ad⟩) rfl b_ (λ_ _ _=>trivial) (λh=>absurd rfl h) ⟨_,_,cw,rfl⟩)
     intro v wz bf fV;obtain⟨pM,fH⟩:=lH.fin au.out fV;have fH:Hid (CS W3 Y kd tx (fO txt ns x.kind (x.kids.take (i+1))) ((x.kids.take i).map (bJ txt ns lv)) pM (.slice po i co) wz):=hid GO;clear bf fV ia am ak au al;simp only[cU,cY,cQ,cZ];exact mx
    |have ji:Hid (CS W3 Y kd tx ((x.kids.take i).map (eS txt ns)) ((x.kids.take i).map (bJ txt ns lv)) (.slice pa nk ca) (.slice po i co) wr):=hid (by have:=HC.out;unfold fO at this;rw[if_pos fw] at this;exact this);have HS0:nR wr D X g gk i q (bs txt) ns.length c x.kids.length cq (xq.key.1:Int) (xq.key.2:Int) wr:=⟨⟨z0,z1,x5,kc,m3,m4⟩,hid (aD _ _)⟩;clear h6 fw cy i5 hU vV;go_upto_region 16 with fail;clear x0 x1 x2 x5 z0 z1 kc m3 m4;go_region_held3 (λw'=>nR wr D X g gk i q (bs txt) ns.length c x.kids.length cq (xq.key.1:Int) (xq.key.2:Int) w') ((first | exact nR.drew m_ | exact nR.step m_ m_ | assumption))
      ((first
       | (go_at_call 133;(refine(ys.out _).mono ?_);rintro e w5 ⟨rfl,ag⟩)
       | (go_at_call 57;(refine(o9.out _).mono ?_);rintro e w6 ⟨rfl,bj⟩)))
     all_goals
      have dq:Hid (aA wr w6):=hid (nR.bel (by assumption:nR wr D X g gk i q (bs txt) ns.length c x.kids.length cq (xq.key.1:Int) (xq.key.2:Int) w6));have ii:=hid (ji.out.keep dq.out);have hlsz:(bs (eS txt ns q)).size=(eS txt ns q).length:=aP _;obtain⟨y0,y1,y2,y3,g0,g1,g2,g3⟩:=ii.out.cells;go_wp2_with (at_builtin;refine wpList_step λK hK=>?_;rw[if_pos DS];refine lH.app (.tmp 79) (.tmp 81) rfl (key:=eS txt ns q) ii.out ⟨w6,aD _ _,rfl,rfl⟩ rfl rfl fu.out.2 ?_;intro v' w7 bE;obtain⟨i3,dD,hz⟩:=bE.1.slice;rw[fu.out.1] at hz;subst hz;have gx:=hid bE;have hy:w7.cell? (Y,2)=some (.slice pa nk ca)/\w7.frozen? ⟨Y,2,none⟩=false:=(by obtain⟨q1,q2,q3,q4,q5⟩:=bE;have ez:=ii.out.box;have mh:=aG ez;have e1:w7.heap[Y]?=w6.heap[Y]?:=q4 Y mh ii.out.off;have e2:=e1.trans ez;obtain⟨y0,y1,y2,y3,y4,y5,y6,y7⟩:=bK e2;exact⟨y2,y6⟩);obtain⟨lc,hy2⟩:=hy;clear bE;refine hK _ _ ?_);obtain⟨pM,fH⟩:=lH.fin ii.out (show lH W3 w6 Y (eS txt ns q) ((x.kids.take i).map (eS txt ns)) (.slice pa nk ca) 4 undef _ from ⟨_,_,gx.out,rfl⟩);have fH:Hid (CS W3 Y kd tx (fO txt ns x.kind (x.kids.take (i+1))) ((x.kids.take i).map (bJ txt ns lv)) pM (.slice po i co) _):=hid GO;go_meet;exact⟨_,fH⟩
  case rest=>
   obtain⟨cX,ji⟩:=hcut;clear HC lT mO x0 x1 x2 x5 z0 z1 kc;obtain⟨W0,al⟩:=exQ<|wc.drew;have fK:aA wc W0:=by rw[<-al];exact(aD _ _).drew
   have au:=hid (ji.out.keep fK);have cy:((x.kids.take i).map (bJ txt ns lv)++ [bJ txt ns lv q]).length=i+1:=by rw[aZ,bP,bR,dF];omega
   have i5:((x.kids.take i).map (bJ txt ns lv)).length<=4294967295:=by rw[bP,bR];omega
   have fu:=hid (aK cy i5);first|have _:=RA;have sU:Hid (x.kids[i]?=some q):=A8|skip
   clear cy i5 fK
   first
   |have _:=RC;go_upto_region 11 with fail;obtain⟨SA,ak⟩: ∃S:World->Prop,(λw'=>(w'.cell? (Y,3)=some (.slice po i co)/\w'.frozen? ⟨Y,3,none⟩=false)/\w'.cell? (D,0)=some (.string (bs txt))/\w'.cell? (D,1)=some (.slice (some ⟨g,0,none⟩) ns.length c))=S:=⟨_,rfl⟩;have am:Hid (∀w',aA W0 w'->SA w'):=hid (λw' hb=>by rw[<-ak];obtain⟨_,a3,a4⟩:=bN.out w' (aE au.out.bel hb);have q:=(au.out.keep hb).cells;exact⟨⟨q.2.2.2.1,q.2.2.2.2.2.2.2⟩,a3,a4⟩);have ia:Hid (∀w' c',fC W0 Y cX.ownBlock (bJ txt ns lv q) ((x.kids.take i).map (bJ txt ns lv)) (.slice po i co) 3 c' w'->SA w'):=hid (λw' c' hp=>by rw[<-ak];obtain⟨q1,q2,q3,q4⟩:=hp;have ez:=au.out.box;have hn:=au.out.new_;have qp:=aG j2.out;have ip:Below (Y+1) W0 w':=q2;have e2:w'.heap[Y]?=_:=(ip.block Y (rL _)).trans ez;have e3: ∀o',w'.cell? ⟨D,o',none⟩=W0.cell? ⟨D,o',none⟩:=λo'=>ip.cell (p:=⟨D,o',none⟩) (by show D<Y+1;omega);obtain⟨_,a3,a4⟩:=bN.out W0 au.out.bel;obtain⟨y0,y1,y2,y3,y4,y5,y6,y7⟩:=bK e2;exact⟨⟨y3,y7⟩,by rw[e3];exact a3,by rw[e3];exact a4⟩)
   |go_upto_region 18 with fail;obtain⟨SA,ak⟩: ∃S:World->Prop,(λw'=>(w'.cell? (Y,3)=some (.slice po i co)/\w'.frozen? ⟨Y,3,none⟩=false)/\w'.cell? (D,0)=some (.string (bs txt))/\w'.cell? (D,1)=some (.slice (some ⟨g,0,none⟩) ns.length c)/\w'.cell? (X,5)=some (.slice (some ⟨gk,0,none⟩) x.kids.length cq)/\w'.cell? (gk,i)=some (.int .i64 (q:Int)))=S:=⟨_,rfl⟩;have mF:Hid (∀w',aA W3 w'->w'.cell? (gk,i)=some (.int .i64 (q:Int))):=hid (λw' hb=>by obtain⟨oy,e1,e2⟩:=HQ.out w' hb i q sU.out;injection e1 with e1;injection e1 with e1;subst e1;exact e2);have am:Hid (∀w',aA W0 w'->SA w'):=hid (λw' hb=>by rw[<-ak];obtain⟨⟨_,_,_,a5⟩,a3,a4⟩:=bN.out w' (aE au.out.bel hb);have q:=(au.out.keep hb).cells;exact⟨⟨q.2.2.2.1,q.2.2.2.2.2.2.2⟩,a3,a4,a5,mF.out w' (aE au.out.bel hb)⟩);have ia:Hid (∀w' c',fC W0 Y cX.ownBlock (bJ txt ns lv q) ((x.kids.take i).map (bJ txt ns lv)) (.slice po i co) 3 c' w'->SA w'):=hid (λw' c' hp=>by rw[<-ak];obtain⟨q1,q2,q3,q4⟩:=hp;have ez:=au.out.box;have hn:=au.out.new_;have qp:=aG j2.out;have mW:=aG em.out;have ip:Below (Y+1) W0 w':=q2;have e2:w'.heap[Y]?=_:=(ip.block Y (rL _)).trans ez;have e3: ∀b o',b<W3.heap.size->w'.cell? ⟨b,o',none⟩=W0.cell? ⟨b,o',none⟩:=λb o' hb=>ip.cell (p:=⟨b,o',none⟩) (by show b<Y+1;omega);obtain⟨⟨_,_,_,a5⟩,a3,a4⟩:=bN.out W0 au.out.bel;obtain⟨y0,y1,y2,y3,y4,y5,y6,y7⟩:=bK e2;exact⟨⟨y3,y7⟩,by rw[e3 _ _ qp];exact a3,by rw[e3 _ _ qp];exact a4,by rw[e3 _ _ mW];exact a5,by rw[e3 _ _ C1];exact mF.out W0 au.out.bel⟩)
   have j5:prog.follows .mixedOrders=true:=d'
   first
   |have _:=RC;refine Af j5 [62,63,64,65,66,67,68,69,70,71] [6,7,8,10] 1000000 (λ_ _=>True) 74 rfl d' d' d' (λiz=>match iz with | 0=> .pointer (some ⟨Y,3,none⟩) | 1=> .slice po i co | 2=> .agg #[bs txt,(g,ns.length,c)] | 3=> .int .i64 (q:Int) | 4=> .int .i64 lev | 5=> .int .i64 (lev+1) | 9=> .pointer (some ⟨Y,3,none⟩) | _=>undef) SA (fC W0 Y cX.ownBlock (bJ txt ns lv q) ((x.kids.take i).map (bJ txt ns lv)) (.slice po i co)) j_ i_ ?_ ?_
   |refine Af j5 [84,85,86,87,88,89,90,91,92,93,94,95] [8,9,10,12] 1000000 (λ_ _=>True) 97 rfl d' d' d' (λiz=>match iz with | 0=> .pointer (some ⟨Y,3,none⟩) | 1=> .slice po i co | 2=> .agg #[bs txt,(g,ns.length,c)] | 3=> .pointer (some ⟨X,5,none⟩) | 4=> .slice (some ⟨gk,0,none⟩) x.kids.length cq | 5=> .int .i64 (i:Int) | 6=> .pointer (some ⟨gk,i,none⟩) | 7=> .int .i64 (q:Int) | 11=> .pointer (some ⟨Y,3,none⟩) | _=>undef) SA (fC W0 Y cX.ownBlock (bJ txt ns lv q) ((x.kids.take i).map (bJ txt ns lv)) (.slice po i co)) j_ i_ ?_ ?_
   .intro d a w' iq o' ho hi F aa G R' I
    first
    |have _:=RC;have ms:iq<11:=(mK.1 ho).1;have q2:a.tmps[2]?.getD undef= .int .i64 lev:=by rw[<-aN];exact aa 2 b_
     have q3:a.tmps[3]?.getD undef= .pointer (some ⟨D,0,none⟩):=by rw[<-aN];exact aa 3 b_
     have q8:a.tmps[8]?.getD undef= .pointer (some ⟨Y,0,none⟩):=by rw[<-aN];exact aa 8 b_
     have xf:a.tmps[10]?.getD undef= .int .i64 (q:Int):=by rw[<-aN];exact aa 10 b_
    |have ms:iq<13:=(mK.1 ho).1;have q2:a.tmps[2]?.getD undef= .pointer (some ⟨D,0,none⟩):=by rw[<-aN];exact aa 2 b_
     have q5:a.tmps[5]?.getD undef= .pointer (some ⟨X,0,none⟩):=by rw[<-aN];exact aa 5 b_
     have q7:a.tmps[7]?.getD undef= .pointer (some ⟨Y,0,none⟩):=by rw[<-aN];exact aa 7 b_
     have xf:a.tmps[10]?.getD undef= .int .i64 (i:Int):=by rw[<-aN];exact aa 10 b_
    clear aa;have ha:=F;have aj:=ho
    first
    |have _:=RC;have ct:iq=0\/iq=1\/iq=2\/iq=3\/iq=4\/iq=5\/iq=6\/iq=7\/iq=8\/iq=9\/iq=10:=a_
     clear ms;rcases ct with rfl|rfl|rfl|rfl|rfl|rfl|rfl|rfl|rfl|rfl|rfl<;>simp only[cR,cP,bY,cC] at ho<;>subst ho
    |have ct:iq=0\/iq=1\/iq=2\/iq=3\/iq=4\/iq=5\/iq=6\/iq=7\/iq=8\/iq=9\/iq=10\/iq=11\/iq=12:=a_
     clear ms;rcases ct with rfl|rfl|rfl|rfl|rfl|rfl|rfl|rfl|rfl|rfl|rfl|rfl|rfl<;>simp only[cR,cP,bY,cC] at ho<;>subst ho
    .exact af
    .simp[Region.binds] at F
     first
     |have _:=RC;have nm:a.tmps[62]?.getD undef= .pointer (some ⟨Y,3,none⟩):=by rw[<-aN];exact G.cl 0 b_ b_ b_ c_
      have ab:=G.early (f:=11) (i:=1) d' hi;rw[<-ak] at ab;obtain⟨⟨x3,ik⟩,s3,s4⟩:=ab
     |have Bi:a.tmps[84]?.getD undef= .pointer (some ⟨Y,3,none⟩):=by rw[<-aN];exact G.cl 0 b_ b_ b_ c_
      have ab:=G.early (f:=13) (i:=1) d' hi;rw[<-ak] at ab;obtain⟨⟨x3,ik⟩,s3,s4,s5,s6⟩:=ab
     exact af
    first
    |have _:=RA
     .have ab:=G.early (f:=13) (i:=2) d' hi;rw[<-ak] at ab;obtain⟨⟨x3,ik⟩,s3,s4,s5,s6⟩:=ab;exact af
     .exact af
    |skip
    .first
     |have _:=RC;have ab:=G.early (f:=11) (i:=2) d' hi;rw[<-ak] at ab;obtain⟨⟨x3,ik⟩,s3,s4⟩:=ab
     |simp[Region.binds] at F;have AN:a.tmps[87]?.getD undef= .pointer (some ⟨X,5,none⟩):=by rw[<-aN];exact G.cl 3 b_ b_ b_ c_
      have ab:=G.early (f:=13) (i:=4) d' hi;rw[<-ak] at ab;obtain⟨⟨x3,ik⟩,s3,s4,s5,s6⟩:=ab
     exact af
    .exact af
    .first
     |have _:=RA;simp[Region.binds] at F;have c88:a.tmps[88]?.getD undef= .slice (some ⟨gk,0,none⟩) x.kids.length cq:=by rw[<-aN];exact G.cl 4 b_ b_ b_ c_
      have c89:a.tmps[89]?.getD undef= .int .i64 (i:Int):=by rw[<-aN];exact G.cl 5 b_ b_ b_ c_
      have ab:=G.early (f:=13) (i:=6) d' hi;rw[<-ak] at ab;obtain⟨⟨x3,ik⟩,s3,s4,s5,s6⟩:=ab
     |skip
     exact af
    .simp[Region.binds] at F
     first
     |have _:=RC;have c66:a.tmps[66]?.getD undef= .int .i64 lev:=by rw[<-aN];exact G.cl 4 b_ b_ b_ c_
     |have xp:a.tmps[90]?.getD undef= .pointer (some ⟨gk,i,none⟩):=by rw[<-aN];exact G.cl 6 b_ b_ b_ c_
      have ab:=G.early (f:=13) (i:=7) d' hi;rw[<-ak] at ab;obtain⟨⟨x3,ik⟩,s3,s4,s5,s6⟩:=ab
     exact af
    .simp[Region.binds] at F
     first
     |have _:=RC;have yo:a.tmps[64]?.getD undef= .agg #[bs txt,(g,ns.length,c)]:=by rw[<-aN];exact G.cl 2 b_ b_ b_ c_
      have BO:a.tmps[65]?.getD undef= .int .i64 (q:Int):=by rw[<-aN];exact G.cl 3 b_ b_ b_ c_
      have CW:a.tmps[67]?.getD undef= .int .i64 (lev+1):=by rw[<-aN];exact G.cl 5 b_ b_ b_ c_
     |have vZ:a.tmps[86]?.getD undef= .agg #[bs txt,(g,ns.length,c)]:=by rw[<-aN];exact G.cl 2 b_ b_ b_ c_
      have xe:a.tmps[91]?.getD undef= .int .i64 (q:Int):=by rw[<-aN];exact G.cl 7 b_ b_ b_ c_
     have ae:=G.at2 (j:=0) rfl hi (.inl rfl);have hA:aA W0 w':=ae;go_simp;first|have _:=RC;go_at_call 114|go_at_call 94
     refine(og.out _ (aE au.out.bel hA) q qj.out).mono ?_;rintro e w5 ⟨⟨ed,eh,rfl,d9⟩,ag⟩;have bj:=aE hA ag;exact I _ _ (G.eff2 b_ b_ 0 aj ha rfl hi (.inl rfl) rfl b_ (λ_ _ _=>trivial) (λ_=>am.out _ bj) ⟨ed,eh,rfl,d9.mono (λq Z _=>bF hA.size Z),bj⟩)
    .simp[Region.binds] at F
     first
     |have _:=RC;have ad:d 6=true:=by first | first | exact F | exact F.1 | exact F.2 | exact F.2.1 | exact F.2.2 | exact F.2.2.1 | exact F.2.2.2 | (exact ha ⟨_,_⟩ e_ rfl)
      have ae:=G.at2 (j:=1) rfl hi (.inr ⟨6,rfl,ad⟩)
     |have ad:d 8=true:=by first | first | exact F | exact F.1 | exact F.2 | exact F.2.1 | exact F.2.2 | exact F.2.2.1 | exact F.2.2.2 | (exact ha ⟨_,_⟩ e_ rfl)
      have ae:=G.at2 (j:=1) rfl hi (.inr ⟨8,rfl,ad⟩)
     obtain⟨ed,eh,iE,d9,ag⟩:=ae;first|have _:=RC;have iE:a.tmps.getD 68 undef=vv (bJ txt ns lv q) ed eh:=iE;have c68:a.tmps[68]?.getD undef= .agg #[.int .i64 (bJ txt ns lv q).kind, .string (bs (bJ txt ns lv q).text),ed,eh]:=by rw[<-aN];exact iE|have iE:a.tmps.getD 92 undef=vv (bJ txt ns lv q) ed eh:=iE;have vy:a.tmps[92]?.getD undef= .agg #[.int .i64 (bJ txt ns lv q).kind, .string (bs (bJ txt ns lv q).text),ed,eh]:=by rw[<-aN];exact iE
     have bj:=λob=>aE ag (aL w' ob);go_simp;first|have _:=RC;exact I _ _ (G.eff2 b_ b_ 1 aj ha rfl hi (.inr ⟨6,rfl,ad⟩) rfl b_ (λ_ _ _=>trivial) (λ_=>am.out _ (bj _)) ⟨w',ed,eh,d9,ag,rfl,rfl⟩)|exact I _ _ (G.eff2 b_ b_ 1 aj ha rfl hi (.inr ⟨8,rfl,ad⟩) rfl b_ (λ_ _ _=>trivial) (λ_=>am.out _ (bj _)) ⟨w',ed,eh,d9,ag,rfl,rfl⟩)
    .simp[Region.binds] at F
     first
     |have _:=RC;have u9:a.tmps[63]?.getD undef= .slice po i co:=by rw[<-aN];exact G.cl 1 b_ b_ b_ c_
      have ad:d 7=true:=by first | first | exact F | exact F.1 | exact F.2 | exact F.2.1 | exact F.2.2 | exact F.2.2.1 | exact F.2.2.2 | (exact ha ⟨_,_⟩ e_ rfl)
      have ae:=G.at2 (j:=2) rfl hi (.inr ⟨7,rfl,ad⟩);have wZ:a.tmps.getD 63 undef= .slice po i co:=by rw[aN];exact u9
      exact fC.app (.tmp 63) (.tmp 69) rfl au.out ae wZ rfl fu.out.2 (λv' w2 bE=>I _ _ (G.eff2 b_ b_ 2 aj ha rfl hi (.inr ⟨7,rfl,ad⟩) rfl b_ (λ_ _ _=>trivial) (λ_=>ia.out _ _ bE) bE))
     |have xS:a.tmps[85]?.getD undef= .slice po i co:=by rw[<-aN];exact G.cl 1 b_ b_ b_ c_
      have ad:d 9=true:=by first | first | exact F | exact F.1 | exact F.2 | exact F.2.1 | exact F.2.2 | exact F.2.2.1 | exact F.2.2.2 | (exact ha ⟨_,_⟩ e_ rfl)
      have ae:=G.at2 (j:=2) rfl hi (.inr ⟨9,rfl,ad⟩);have yT:a.tmps.getD 85 undef= .slice po i co:=by rw[aN];exact xS
      exact fC.app (.tmp 85) (.tmp 93) rfl au.out ae yT rfl fu.out.2 (λv' w2 bE=>I _ _ (G.eff2 b_ b_ 2 aj ha rfl hi (.inr ⟨9,rfl,ad⟩) rfl b_ (λ_ _ _=>trivial) (λ_=>ia.out _ _ bE) bE))
    .exact af
    .simp[Region.binds] at F
     first
     |have _:=RC;have c71:a.tmps[71]?.getD undef= .pointer (some ⟨Y,3,none⟩):=by rw[<-aN];exact G.cl 9 b_ b_ b_ c_
      have ad:d 8=true:=by first | first | exact F | exact F.1 | exact F.2 | exact F.2.1 | exact F.2.2 | exact F.2.2.1 | exact F.2.2.2 | (exact ha ⟨_,_⟩ e_ rfl)
      have ae:=G.at2 (j:=3) rfl hi (.inr ⟨8,rfl,ad⟩);have cw:fC W0 Y cX.ownBlock (bJ txt ns lv q) ((x.kids.take i).map (bJ txt ns lv)) (.slice po i co) 3 (a.tmps.getD 70 undef) w':=ae
     |have wS:a.tmps[95]?.getD undef= .pointer (some ⟨Y,3,none⟩):=by rw[<-aN];exact G.cl 11 b_ b_ b_ c_
      have ad:d 10=true:=by first | first | exact F | exact F.1 | exact F.2 | exact F.2.1 | exact F.2.2 | exact F.2.2.1 | exact F.2.2.2 | (exact ha ⟨_,_⟩ e_ rfl)
      have ae:=G.at2 (j:=3) rfl hi (.inr ⟨10,rfl,ad⟩);have cw:fC W0 Y cX.ownBlock (bJ txt ns lv q) ((x.kids.take i).map (bJ txt ns lv)) (.slice po i co) 3 (a.tmps.getD 94 undef) w':=ae
     have ab:=G.st hi;rw[<-ak] at ab;obtain⟨⟨x3,ik⟩,_⟩:=ab;obtain⟨i3,dD,hz⟩:=cw.1.slice;rw[fu.out.1] at hz;rw[hz] at cw
     first
     |have _:=RC;have Ci:a.tmps[70]?.getD undef= .slice i3 (i+1) dD:=by rw[<-aN];exact hz
      go_simp;exact I undef _ (G.eff2 b_ b_ 3 aj ha rfl hi (.inr ⟨8,rfl,ad⟩) rfl b_ (λ_ _ _=>trivial) (λh=>absurd rfl h) ⟨_,_,cw,rfl⟩)
     |have Dm:a.tmps[94]?.getD undef= .slice i3 (i+1) dD:=by rw[<-aN];exact hz
      go_simp;exact I undef _ (G.eff2 b_ b_ 3 aj ha rfl hi (.inr ⟨10,rfl,ad⟩) rfl b_ (λ_ _ _=>trivial) (λh=>absurd rfl h) ⟨_,_,cw,rfl⟩)
   intro v wz bf fV;obtain⟨rk,fH⟩:=fC.fin au.out fV;have fH:Hid (CS W3 Y kd tx (fO txt ns x.kind (x.kids.take (i+1))) ((x.kids.take (i+1)).map (bJ txt ns lv)) cX rk wz):=hid (by
    have e:(x.kids.take (i+1)).map (bJ txt ns lv)=(x.kids.take i).map (bJ txt ns lv)++ [bJ txt ns lv q]:=by rw[kJ.out,lJ];rfl
    rw[e];exact fH)
   clear bf fV ia am ak au al ji;simp only[cU,cY,cQ,cZ];first|have _:=RA;have hiw:IntKind.i64.wrap ((i:Int)+1)=(i:Int)+1:=IntWalk.i64_in _ a_|skip
   exact p7
 .have dk:decide ((i:Int)<(x.kids.length:Int))=false:=aJ a_;obtain rfl:i=x.kids.length:=a_
  have ev:=HC.out;rw[List.take_length] at ev;have eQ:=hid ev;clear ev HC;obtain⟨pa,ca,bu⟩:=eQ.out.keys.slice;obtain⟨po,co,gJ⟩:=eQ.out.its.slice;obtain⟨nk,cM⟩:=exQ<|(fO txt ns x.kind x.kids).length;obtain⟨ni,kr⟩:=exQ<|(x.kids.map (bJ txt ns lv)).length;rw[cM] at bu;rw[kr] at gJ;subst bu gJ;have HP:Hid (jJ (VT.mk kd tx (fO txt ns x.kind x.kids) (x.kids.map (bJ txt ns lv))) w (.returned (.agg #[kd,bs tx, .slice pa nk ca, .slice po ni co])) (bD wr R kd tx (.slice pa nk ca) (.slice po ni co))):=hid (by refine⟨⟨_,_,rfl,?_⟩,rV (aE ax.out eQ.out.bel) a_⟩;exact(eQ.out.put (R:=R) rg).mono (λq Z _=>bF ax.out.size Z));have qL:Hid ((bD wr R kd tx (.slice pa nk ca) (.slice po ni co)).heap[R]?=some (.cells #[kd,bs tx, .slice pa nk ca, .slice po ni co] 36)):=hid (rW ((eQ.out.bel.block R rg).trans ij.out));obtain⟨r0,r1,r2,r3,f0,f1,f2,f3⟩:=bK ((eQ.out.bel.block R rg).trans ij.out);obtain⟨y0,y1,y2,y3,_⟩:=eQ.out.cells;clear cM kr;go_wp2_with fail;obtain⟨WF,ja⟩:=exQ<|bD wr R kd tx (.slice pa nk ca) (.slice po ni co);rw[ja] at HP qL;have iS:(((wr.setCell ⟨R,0,none⟩ (.int .i64 kd)).setCell ⟨R,1,none⟩ (.string (bs tx))).setCell ⟨R,2,none⟩ (.slice pa nk ca)).setCell ⟨R,3,none⟩ (.slice po ni co)=WF:=ja;rw[iS];clear ja iS r0 r1 r2 r3 f0 f1 f2 f3 y0 y1 y2 y3;obtain⟨d0,d1,d2,d3,_⟩:=bK qL.out;refine bodyPost_ret (v:= .agg #[kd,bs tx, .slice pa nk ca, .slice po ni co]) ?_ rfl HP.out
  first|have _:=RC;simp[results,results114,go_sem,d0,d1,d2,d3]|simp[results,results94,go_sem,d0,d1,d2,d3]):P:=h
theorem PD(h:P:=by
 have sl:=aP t;obtain⟨R,K⟩:=exQ<|w.heap.size;obtain⟨W1,p⟩:=exQ<|w.alloc (.cells #[(0:Int), .string ⟨#[]⟩,(),()] 36);have z:Hid (aA w W1):=hid (by rw[<-p];exact aL _ _);have o:Hid (W1.heap[R]?=some (.cells #[(0:Int),bs [],(),()] 36)):=hid (by rw[<-p,<-K];exact heap_alloc_new w _);have n:=hid (aG o.out);have C:Hid (w.heap.size<=R):=hid (by rw[K];exact aF _);have HV:=hid (hV.keep z.out)
 first
 |have:=QR;have x:Hid (∀(s:aB) w',s.length<=1073741824->aA W1 w'->Calls prog 79 #[bs s] w' λe w2=>e=tQ s/\aA w' w2):=hid (λs w' h H=>Yi s w' h (HV.out.keep H).1);have M:Hid (∀(s:aB) w',Calls prog 18 #[bs s] w' (aT w' (.agg #[(4:Int),bs s,(),()]))):=hid (λs w'=>yE s w')
 |have x:Hid (∀(s:aB) w',s.length<=1073741824->aA W1 w'->Calls prog 56 #[bs s] w' λe w2=>e=tQ s/\aA w' w2):=hid (λs w' h H=>aBs s w' h (HV.out.keep H).1);have M:Hid (∀(s:aB) w',Calls prog 32 #[bs s] w' (aT w' (.agg #[(4:Int),bs s,(),()]))):=hid (λs w'=>Gm s w')
 unfold tQ at x;cases t with
 | nil=>
   have e0:((bs ([]:aB)).toList== [])=true:=qQ [];have ai:(bs ([]:aB)).toList.isEmpty=true:=pC [];show Calls _ _ _ _ (pW (lW []) 0 w);have CR:=hid (λw' H=>x.out [] w' b_ H);obtain⟨⟨rk,rs⟩,G⟩:=exQ<|pU [];have L:lW []= .mk rk rs [] []:=by unfold lW;rw[G]
   rw[G] at CR;rw[L];clear G L x;first|have:=QR;clear hV|clear hV hCJ
   go_in;go_upto_region 1 with fail;clear p K;go_wp2_with fail;refine aH (CR.out _ (aD _ _)) λw2 l=>?_;have m:=hid l;clear l;have j:=hid (iA (t:=VT.mk rk rs [] []) z.out C.out n.out (kW _ _ _ _) m.out o.out);obtain⟨r0,r1,r2,r3,f0,f1,f2,f3⟩:=bK ((m.out.block R n.out).trans o.out);go_wp2_with fail;obtain⟨WF,d⟩:=exQ<|bD w2 R rk rs (.slice none 0 0) (.slice none 0 0);have g:gF w.heap.size (bD w2 R rk rs (.slice none 0 0) (.slice none 0 0)) (VT.mk rk rs [] []).depth (VT.mk rk rs [] []) (.slice none 0 0) (.slice none 0 0)/\aA w (bD w2 R rk rs (.slice none 0 0) (.slice none 0 0))/\(bD w2 R rk rs (.slice none 0 0) (.slice none 0 0)).heap[R]?=some (.cells #[rk,bs rs,(.slice none 0 0),(.slice none 0 0)] 36):=j.out;rw[d] at g;have b:=hid g;have f:(((w2.setCell ⟨R,0,none⟩ (.int .i64 rk)).setCell ⟨R,1,none⟩ (.string (bs rs))).setCell ⟨R,2,none⟩ (.slice none 0 0)).setCell ⟨R,3,none⟩ (.slice none 0 0)=WF:=d
   first
     | rw[f]
     | (have i:(((w2.setCell ⟨R,0,none⟩ (.int .i64 rk)).setCell ⟨R,1,none⟩ (.string ⟨#[]⟩)).setCell ⟨R,2,none⟩ (.slice none 0 0)).setCell ⟨R,3,none⟩ (.slice none 0 0)=WF:=d
        rw[i])
   exact E2
 | cons c r=>
   first|have:=QR;have CT:=hid (λw' (H:aA W1 w')=>Mi (c::r) c r rfl w' hs (HV.out.keep H));have CB:=hid (λw' (H:aA W1 w')=>Md (c::r) w' hs (HV.out.keep H).1);have CJ:=hid (λw' (H:aA W1 w')=>Yp (c::r) w' hs (HV.out.keep H))|have CU:=hid (λw'=>Bb (c::r) w' hs);have CS:=hid (λw'=>No (c::r) 0 w' hs);unfold iF at CU CS;have CB:=hid (λw' (H:aA W1 w')=>Gg (c::r) w' a_);have CJ:=hid (λw' (_:aA W1 w')=>hCJ w')
   unfold gQ;simp only[];obtain⟨t,U⟩:=exQ<|c::r;have aa:0<t.length:=by rw[<-U];simp
   have hc0:(bs t)[0]'(by rw[aP];exact aa)=c:=by
     subst U;rfl
   have N:t≠ []:=by rw[<-U];simp
   have e0:((bs t).toList== [])=false:=by rw[qQ];cases t<;>simp at N ⊢
   have ai:(bs t).toList.isEmpty=false:=by rw[pC];cases t<;>simp at N ⊢
   first
   |have:=QR;rw[U] at hs sl CT CB CJ ⊢
   |have af:t.head?=some c:=by rw[<-U];rfl
    rw[U] at hs sl CU CS CB CJ ⊢
   have E:=pD c 34;have J:=pD c 39;have I:=pD c 91;have A:=pD c 123;first|have:=QR;clear U N hV;by_cases u:c=34\/c=39|clear U N hV hCJ;by_cases u:c=34
   · first
     |have:=QR;rw[if_pos u];obtain⟨⟨S,er⟩,Q⟩:=exQ<|jK t;unfold mT at CT;rw[Q] at CT;rw[Q];simp only[];clear Q CB CJ I A;have O:((c.toNat:Int)==34)=true\/(((c.toNat:Int)==34)=false/\((c.toNat:Int)==39)=true):=pf;clear u E J
     |rw[if_pos (.inl u)];have Q:jK t=((eH t).1,(eH t).2.2):=by unfold jK;rw[af,u,if_neg b_]
      rw[Q];obtain⟨⟨S,a,er⟩,X⟩:=exQ<|eH t;rw[X] at CU;rw[X];simp only[];have F:((c.toNat:Int)==34)=true:=by rw[u];rfl
      clear Q X CB CJ CS I A u E J
     by_cases he:er=0
     · subst he;rw[if_neg e_];have CO:=hid (M.out S)
       first
       |have:=QR;rcases O with F | ⟨F,W⟩
        all_goals
          go_in;go_upto_region 1 with fail;clear p K;go_wp2_with fail;refine aH (CT.out _ (aD _ _)) λw2 l=>?_;have m:=hid l;clear l;go_wp2_with fail;refine aH (CO.out _) λw3 D=>?_;have y:=hid (aE m.out D);clear D;have j:=hid (iA (t:=gN S) z.out C.out n.out (kW _ _ _ _) y.out o.out);obtain⟨r0,r1,r2,r3,f0,f1,f2,f3⟩:=bK ((y.out.block R n.out).trans o.out);go_wp2_with fail;obtain⟨WF,d⟩:=exQ<|bD w3 R 4 S (.slice none 0 0) (.slice none 0 0);have g:gF w.heap.size (bD w3 R 4 S (.slice none 0 0) (.slice none 0 0)) (gN S).depth (gN S) (.slice none 0 0) (.slice none 0 0)/\aA w (bD w3 R 4 S (.slice none 0 0) (.slice none 0 0))/\(bD w3 R 4 S (.slice none 0 0) (.slice none 0 0)).heap[R]?=some (.cells #[(4:Int),bs S,(.slice none 0 0),(.slice none 0 0)] 36):=j.out;rw[d] at g;have b:=hid g;have f:(((w3.setCell ⟨R,0,none⟩ (.int .i64 4)).setCell ⟨R,1,none⟩ (.string (bs S))).setCell ⟨R,2,none⟩ (.slice none 0 0)).setCell ⟨R,3,none⟩ (.slice none 0 0)=WF:=d
          first
            | rw[f]
            | (have i:(((w3.setCell ⟨R,0,none⟩ (.int .i64 4)).setCell ⟨R,1,none⟩ (.string ⟨#[]⟩)).setCell ⟨R,2,none⟩ (.slice none 0 0)).setCell ⟨R,3,none⟩ (.slice none 0 0)=WF:=d
               rw[i])
          clear d f g r0 r1 r2 r3 f0 f1 f2 f3 j;obtain⟨d0,d1,d2,d3,_⟩:=bK b.out.2.2;refine bodyPost_ret (v:= .tuple #[.agg #[(4:Int),bs S,(.slice none 0 0),(.slice none 0 0)],(0:Int)]) ?_ rfl ⟨⟨_,_,rfl,b.out.1⟩,b.out.2.1⟩;exact jc
       |· skip
          go_in;go_upto_region 1 with fail;clear p K;go_wp2_with fail;refine aH (CU.out _) λw2 l=>?_;have m:=hid l;clear l;exact O4
     · have de:(er !=0)=true:=(by simp[he]);rw[if_pos he]
       first
       |have:=QR;rcases O with F | ⟨F,W⟩
        all_goals
          go_in;go_upto_region 1 with fail;clear p K;go_wp2_with fail;refine aH (CT.out _ (aD _ _)) λw2 l=>?_;have m:=hid l;clear l;have j:=hid (iA (t:=eE) z.out C.out n.out (kW _ _ _ _) m.out o.out);obtain⟨r0,r1,r2,r3,f0,f1,f2,f3⟩:=bK ((m.out.block R n.out).trans o.out);go_wp2_with fail;obtain⟨WF,d⟩:=exQ<|bD w2 R 0 ([]:aB) (.slice none 0 0) (.slice none 0 0);have g:gF w.heap.size (bD w2 R 0 ([]:aB) (.slice none 0 0) (.slice none 0 0)) (eE).depth (eE) (.slice none 0 0) (.slice none 0 0)/\aA w (bD w2 R 0 ([]:aB) (.slice none 0 0) (.slice none 0 0))/\(bD w2 R 0 ([]:aB) (.slice none 0 0) (.slice none 0 0)).heap[R]?=some (.cells #[(0:Int),bs ([]:aB),(.slice none 0 0),(.slice none 0 0)] 36):=j.out;rw[d] at g;have b:=hid g;have f:(((w2.setCell ⟨R,0,none⟩ (.int .i64 0)).setCell ⟨R,1,none⟩ (.string (bs ([]:aB)))).setCell ⟨R,2,none⟩ (.slice none 0 0)).setCell ⟨R,3,none⟩ (.slice none 0 0)=WF:=d
          first
            | rw[f]
            | (have i:(((w2.setCell ⟨R,0,none⟩ (.int .i64 0)).setCell ⟨R,1,none⟩ (.string ⟨#[]⟩)).setCell ⟨R,2,none⟩ (.slice none 0 0)).setCell ⟨R,3,none⟩ (.slice none 0 0)=WF:=d
               rw[i])
          clear d f g r0 r1 r2 r3 f0 f1 f2 f3 j;obtain⟨d0,d1,d2,d3,_⟩:=bK b.out.2.2;refine bodyPost_ret (v:= .tuple #[.agg #[(0:Int),bs ([]:aB),(.slice none 0 0),(.slice none 0 0)],er]) ?_ rfl ⟨⟨_,_,rfl,b.out.1⟩,b.out.2.1⟩;exact jc
       |· skip
          go_in;go_upto_region 1 with fail;clear p K;go_wp2_with fail;refine aH (CU.out _) λw2 l=>?_;have m:=hid l;clear l;have j:=hid (iA (t:=eE) z.out C.out n.out (kW _ _ _ _) m.out o.out);obtain⟨r0,r1,r2,r3,f0,f1,f2,f3⟩:=bK ((m.out.block R n.out).trans o.out);go_wp2_with fail;obtain⟨WF,d⟩:=exQ<|bD w2 R 0 ([]:aB) (.slice none 0 0) (.slice none 0 0);have g:gF w.heap.size (bD w2 R 0 ([]:aB) (.slice none 0 0) (.slice none 0 0)) (eE).depth (eE) (.slice none 0 0) (.slice none 0 0)/\aA w (bD w2 R 0 ([]:aB) (.slice none 0 0) (.slice none 0 0))/\(bD w2 R 0 ([]:aB) (.slice none 0 0) (.slice none 0 0)).heap[R]?=some (.cells #[(0:Int),bs ([]:aB),(.slice none 0 0),(.slice none 0 0)] 36):=j.out;rw[d] at g;have b:=hid g;have f:(((w2.setCell ⟨R,0,none⟩ (.int .i64 0)).setCell ⟨R,1,none⟩ (.string (bs ([]:aB)))).setCell ⟨R,2,none⟩ (.slice none 0 0)).setCell ⟨R,3,none⟩ (.slice none 0 0)=WF:=d
          first
            | rw[f]
            | (have i:(((w2.setCell ⟨R,0,none⟩ (.int .i64 0)).setCell ⟨R,1,none⟩ (.string ⟨#[]⟩)).setCell ⟨R,2,none⟩ (.slice none 0 0)).setCell ⟨R,3,none⟩ (.slice none 0 0)=WF:=d
               rw[i])
          clear d f g r0 r1 r2 r3 f0 f1 f2 f3 j;obtain⟨d0,d1,d2,d3,_⟩:=bK b.out.2.2;refine bodyPost_ret (v:= .tuple #[.agg #[(0:Int),bs ([]:aB),(.slice none 0 0),(.slice none 0 0)],er]) ?_ rfl ⟨⟨_,_,rfl,b.out.1⟩,b.out.2.1⟩;exact ez
   first
   |have:=QT;have F:((c.toNat:Int)==34)=false:=by rw[show (34:Int)=((34:UInt8).toNat:Int) from rfl,E];exact aI.2 u
    by_cases hq2:c=39
    · rw[if_pos (.inr hq2)];have Q:jK t=tR t:=by unfold jK;rw[af,hq2,if_pos rfl]
      rw[Q];have ab:=aBx t;have Y:=aBy t 0;unfold tR;obtain⟨⟨S,k,er⟩,X⟩:=exQ<|iJ t 0;rw[X] at CS ab Y;rw[X];simp only[] at ab Y ⊢;have W:((c.toNat:Int)==39)=true:=by rw[hq2];rfl
      clear Q X CB CJ CU I A u hq2 E J;rcases Y with rfl|rfl
      · by_cases hk:k=(t.length:Int)
        · have V:(if(0:Int)≠0\/k≠(t.length:Int) then(([]:aB),(2:Int)) else(S,0))=(S,0):=if_neg (by rintro(h | h);exact h rfl;exact h hk);rw[V];simp only[];rw[if_neg e_];clear V;have CO:=hid (M.out S);have dk:decide (k<(t.length:Int))=false:=aJ a_;go_in;go_upto_region 1 with fail;clear p K;go_wp2_with fail;refine(CS.out _).mono ?_;rintro e w2 ⟨rfl,rfl⟩;have m:=hid (aD W1.heap.size W1);exact O4
        · have V:(if(0:Int)≠0\/k≠(t.length:Int) then(([]:aB),(2:Int)) else(S,0))=([],2):=if_pos (.inr hk);rw[V];simp only[];rw[if_pos b_];clear V;have dk:decide (k<(t.length:Int))=true:=aQ a_;exact EU
      · have V:(if(2:Int)≠0\/k≠(t.length:Int) then(([]:aB),(2:Int)) else(S,0))=([],2):=if_pos (.inl b_);rw[V];simp only[];rw[if_pos b_];clear V
        · skip
          exact EU
    have u: ¬(c=34\/c=39):=by rintro(h | h);exact u h;exact hq2 h
    clear hq2 F
   |skip
   rw[if_neg u];have F:((c.toNat:Int)==34)=false:=by rw[show (34:Int)=((34:UInt8).toNat:Int) from rfl,E];exact aI.2 (λe=>u (.inl e))
   have W:((c.toNat:Int)==39)=false:=by rw[show (39:Int)=((39:UInt8).toNat:Int) from rfl,J];exact aI.2 (λe=>u (.inr e))
   first|have:=QR;clear u E J CT M|clear u E J CU CS M
   by_cases u:c=91\/c=123
   · rw[if_pos u];have O:((c.toNat:Int)==91)=true\/(((c.toNat:Int)==91)=false/\((c.toNat:Int)==123)=true):=pf;clear u I A CB x;obtain⟨⟨T,at_,er⟩,hT⟩:=exQ<|jV t;rw[hT] at CJ;rw[hT];simp only[] at CJ ⊢;clear hT;rcases O with ae | ⟨ae,ag⟩
     all_goals
       go_in;go_upto_region 1 with fail;clear p K;go_wp2_with fail;refine(CJ.out _ (aD _ _)).mono ?_;rintro e w2 ⟨⟨kv,iv,rfl,Z⟩,l⟩;obtain⟨pk,ck,px,cx,rfl,rfl⟩:=Z.form;have P:=aL w2 (.cells #[T.kind,bs T.text, .slice pk T.keys.length ck, .slice px T.items.length cx] 36);obtain⟨w3,ad⟩:=exQ<|w2.alloc (.cells #[T.kind,bs T.text, .slice pk T.keys.length ck, .slice px T.items.length cx] 36);have hz:w3.heap[w2.heap.size]?=some (.cells #[T.kind,bs T.text, .slice pk T.keys.length ck, .slice px T.items.length cx] 36):=by rw[<-ad];exact heap_alloc_new w2 _
       rw[ad] at P;have y:=hid (aE l P);have ah:=hid (Z.keep P);obtain⟨z0,z1,z2,z3,_⟩:=bK hz;have hRZ:R<w2.heap.size:=iG n.out l.size;have hRZ2:R≠w2.heap.size:=a_;unfold vv;clear Z l P hz;have j:=hid (iA (t:=T) z.out C.out n.out ah.out y.out o.out);obtain⟨r0,r1,r2,r3,f0,f1,f2,f3⟩:=bK ((y.out.block R n.out).trans o.out);go_wp2_with fail;obtain⟨WF,d⟩:=exQ<|bD w3 R T.kind T.text (.slice pk T.keys.length ck) (.slice px T.items.length cx);have g:gF w.heap.size (bD w3 R T.kind T.text (.slice pk T.keys.length ck) (.slice px T.items.length cx)) (T).depth (T) (.slice pk T.keys.length ck) (.slice px T.items.length cx)/\aA w (bD w3 R T.kind T.text (.slice pk T.keys.length ck) (.slice px T.items.length cx))/\(bD w3 R T.kind T.text (.slice pk T.keys.length ck) (.slice px T.items.length cx)).heap[R]?=some (.cells #[T.kind,bs T.text,(.slice pk T.keys.length ck),(.slice px T.items.length cx)] 36):=j.out;rw[d] at g;have b:=hid g;have f:(((w3.setCell ⟨R,0,none⟩ (.int .i64 T.kind)).setCell ⟨R,1,none⟩ (.string (bs T.text))).setCell ⟨R,2,none⟩ (.slice pk T.keys.length ck)).setCell ⟨R,3,none⟩ (.slice px T.items.length cx)=WF:=d
       first
         | rw[f]
         | (have i:(((w3.setCell ⟨R,0,none⟩ (.int .i64 T.kind)).setCell ⟨R,1,none⟩ (.string ⟨#[]⟩)).setCell ⟨R,2,none⟩ (.slice pk T.keys.length ck)).setCell ⟨R,3,none⟩ (.slice px T.items.length cx)=WF:=d
            rw[i])
       clear d f g r0 r1 r2 r3 f0 f1 f2 f3 j;obtain⟨d0,d1,d2,d3,_⟩:=bK b.out.2.2;refine bodyPost_ret (v:= .tuple #[.agg #[T.kind,bs T.text,(.slice pk T.keys.length ck),(.slice px T.items.length cx)],er]) ?_ rfl ⟨⟨_,_,rfl,b.out.1⟩,b.out.2.1⟩;exact io
   rw[if_neg u];have ae:((c.toNat:Int)==91)=false:=by rw[show (91:Int)=((91:UInt8).toNat:Int) from rfl,I];exact aI.2 (λe=>u (.inl e))
   have ag:((c.toNat:Int)==123)=false:=by rw[show (123:Int)=((123:UInt8).toNat:Int) from rfl,A];exact aI.2 (λe=>u (.inr e))
   clear u I A CJ;obtain⟨B,hB⟩:=exQ<|oF t;rw[hB] at CB;rw[hB];clear hB;cases B with
   | false=>
     rw[if_neg e_];go_in;go_upto_region 1 with fail;clear p K;go_wp2_with fail;refine aH (CB.out _ (aD _ _)) λw2 l=>?_;have m:=hid l;clear l;have j:=hid (iA (t:=eE) z.out C.out n.out (kW _ _ _ _) m.out o.out);obtain⟨r0,r1,r2,r3,f0,f1,f2,f3⟩:=bK ((m.out.block R n.out).trans o.out);go_wp2_with fail;obtain⟨WF,d⟩:=exQ<|bD w2 R 0 ([]:aB) (.slice none 0 0) (.slice none 0 0);have g:gF w.heap.size (bD w2 R 0 ([]:aB) (.slice none 0 0) (.slice none 0 0)) (eE).depth (eE) (.slice none 0 0) (.slice none 0 0)/\aA w (bD w2 R 0 ([]:aB) (.slice none 0 0) (.slice none 0 0))/\(bD w2 R 0 ([]:aB) (.slice none 0 0) (.slice none 0 0)).heap[R]?=some (.cells #[(0:Int),bs ([]:aB),(.slice none 0 0),(.slice none 0 0)] 36):=j.out;rw[d] at g;have b:=hid g;have f:(((w2.setCell ⟨R,0,none⟩ (.int .i64 0)).setCell ⟨R,1,none⟩ (.string (bs ([]:aB)))).setCell ⟨R,2,none⟩ (.slice none 0 0)).setCell ⟨R,3,none⟩ (.slice none 0 0)=WF:=d
     first
       | rw[f]
       | (have i:(((w2.setCell ⟨R,0,none⟩ (.int .i64 0)).setCell ⟨R,1,none⟩ (.string ⟨#[]⟩)).setCell ⟨R,2,none⟩ (.slice none 0 0)).setCell ⟨R,3,none⟩ (.slice none 0 0)=WF:=d
          rw[i])
     clear d f g r0 r1 r2 r3 f0 f1 f2 f3 j;obtain⟨d0,d1,d2,d3,_⟩:=bK b.out.2.2;refine bodyPost_ret (v:= .tuple #[.agg #[(0:Int),bs ([]:aB),(.slice none 0 0),(.slice none 0 0)],(2:Int)]) ?_ rfl ⟨⟨_,_,rfl,b.out.1⟩,b.out.2.1⟩;exact io
   | true =>
     rw[if_pos rfl];have CR:=hid (λw' H=>x.out t w' a_ H);obtain⟨⟨rk,rs⟩,G⟩:=exQ<|pU t;have L:lW t= .mk rk rs [] []:=by unfold lW;rw[G]
     rw[G] at CR;rw[L];clear G L x;go_in;go_upto_region 1 with fail;clear p K;go_wp2_with fail;refine aH (CB.out _ (aD _ _)) λw2 l=>?_;have m:=hid l;clear l;go_wp2_with fail;refine aH (CR.out _ m.out) λw3 D=>?_;have y:=hid (aE m.out D);clear D;have j:=hid (iA (t:=VT.mk rk rs [] []) z.out C.out n.out (kW _ _ _ _) y.out o.out);obtain⟨r0,r1,r2,r3,f0,f1,f2,f3⟩:=bK ((y.out.block R n.out).trans o.out);go_wp2_with fail;obtain⟨WF,d⟩:=exQ<|bD w3 R rk rs (.slice none 0 0) (.slice none 0 0);have g:gF w.heap.size (bD w3 R rk rs (.slice none 0 0) (.slice none 0 0)) (VT.mk rk rs [] []).depth (VT.mk rk rs [] []) (.slice none 0 0) (.slice none 0 0)/\aA w (bD w3 R rk rs (.slice none 0 0) (.slice none 0 0))/\(bD w3 R rk rs (.slice none 0 0) (.slice none 0 0)).heap[R]?=some (.cells #[rk,bs rs,(.slice none 0 0),(.slice none 0 0)] 36):=j.out;rw[d] at g;have b:=hid g;have f:(((w3.setCell ⟨R,0,none⟩ (.int .i64 rk)).setCell ⟨R,1,none⟩ (.string (bs rs))).setCell ⟨R,2,none⟩ (.slice none 0 0)).setCell ⟨R,3,none⟩ (.slice none 0 0)=WF:=d
     first
       | rw[f]
       | (have i:(((w3.setCell ⟨R,0,none⟩ (.int .i64 rk)).setCell ⟨R,1,none⟩ (.string ⟨#[]⟩)).setCell ⟨R,2,none⟩ (.slice none 0 0)).setCell ⟨R,3,none⟩ (.slice none 0 0)=WF:=d
          rw[i])
     exact E2):P:=h
theorem GL(h:P:=by
 first
 |have _:=KL;obtain⟨R,C⟩:=exQ<|gV txt (bS txt lv) 5 false pre.length rest l nodes
 |obtain⟨R,C⟩:=exQ<|gV txt (bS txt lv) 3 true pre.length rest l nodes
 rw[C];have bz:=ht.1;have bZ:=h.nodesN;have F:w0.heap.size<=w.heap.size:=hb.size;obtain⟨fa,af,_,_⟩:=h.box;obtain⟨fy,fn⟩:=hlev;first|have _:=KM;have fQ:=h.apart hX b_;have fd:=h.apart hY b_;have eY:X≠b:=hm.apart hX;have eX:Y≠b:=hm.apart hY;obtain⟨_,_,dA⟩:=hm.obj;have cf:b≠P:=h.box.2.2.2 b _ _ dA;have d1:=hid (aK hX hY);have ej:=hid hm;have HS:=hid (aK hSV hT)|skip
 have HB:=hid hb;have HT:=hid ht;first|have _:=KL;by_cases h5:dY rest=5|by_cases h5:dY rest=3
 .cases rest with
  | nil=>cases h5
  | cons t r=>
   first|have _:=KL;have I:t.kind=5:=h5|have I:t.kind=3:=h5
   have bE:JR.ok r (t.sf,t.st) nodes=R:=by
    unfold gV at C;simp only[I,if_true] at C;exact C
   first|have _:=KL;have CT:=hid (uR _ P txt t r l nodes w h (by simp only[bM] at bz;omega) 5 I);subst bE;clear C h hb ht bZ|have CT:=hid (uR _ P txt t r l nodes w h (by simp only[bM] at bz;omega) 3 I);subst bE;clear C h hb ht bZ hX hY hm hSV hT dA
   go_in;go_wp2_with fail;refine CT.out.mono ?_;rintro e w1 ⟨rfl,hj,hg⟩;go_wp2;go_ret;first|have _:=KL;exact⟨rfl,hj,Fr.ofP hg af F⟩|exact⟨rfl,hj,(Fr.ofP hg af F).toX⟩
 .first
  |have _:=KL;have ay: ∃f,rest.length<f/\jF txt (bS txt lv) 5 false pre.length f [] rest l nodes=R:=by
    unfold gV at C;cases rest with
    | nil=>exact⟨1,e_,C⟩
    | cons t r=>
     have I: ¬t.kind=5:=h5;simp only[I,if_false] at C;exact⟨_,e_,C⟩
  |have ay: ∃f,rest.length<f/\jF txt (bS txt lv) 3 true pre.length f [] rest l nodes=R:=by
    unfold gV at C;cases rest with
    | nil=>exact⟨1,e_,C⟩
    | cons t r=>
     have I: ¬t.kind=3:=h5;simp only[I,if_false] at C;exact⟨_,e_,C⟩
  obtain⟨f0,bm,br⟩:=ay;first|have _:=KL;have CT:=hid (tC _ P txt rest l nodes w h a_ 5 h5)|have CT:=hid (tC _ P txt rest l nodes w h a_ 3 h5)
  have HJ:=hid h;have HL:=hid br;first|have _:=KL;have HM:=hid hmid|have ba:=hid hmid
  have dU:=hid bZ;first|have _:=KL;clear C h5 br h hb ht hmid bZ|clear C h5 br h hb ht hmid bZ hX hY hm hSV hT dA
  go_in;go_wp2_with fail;refine CT.out.mono ?_;rintro e w1 ⟨rfl,rfl⟩;go_wp2
  first
  |have _:=KL;go_loopw [11] (λ_ wr=> ∃(rs:List aR) (ls:Sp) (ns:List aM) (x:aM) (post:List aM) (f:Nat),Hid (J w0.heap.size P txt rs ls ns wr)/\Hid (gK pre x post ns)/\Hid (jF txt (bS txt lv) 5 false pre.length f [] rs ls ns=R)/\rs.length<f/\nodes.length<=ns.length/\Hid (TB txt rs)/\ns.length+rs.length<=131074/\Hid (Fr w0.heap.size P w wr)) (λ_ wr=>restN P wr)
   case atStart=>exact⟨rest,l,nodes,x,post,f0,HJ,HM,HL,bm,aF _,HT,hN,hid (Fr.refl _ _ _)⟩
  |go_loopw [11] (λ_ wr=> ∃(bi:List aC) (rs:List aR) (ls:Sp) (ns:List aM) (x:aM) (post:List aM) (f:Nat),Hid (HM b bi wr)/\bi.length+rs.length<=65537/\Hid (J w0.heap.size P txt rs ls ns wr)/\Hid (gK pre x post ns)/\Hid (jF txt (bS txt lv) 3 true pre.length f bi rs ls ns=R)/\rs.length<f/\nodes.length<=ns.length/\Hid (TB txt rs)/\ns.length+rs.length<=131074/\Hid (kL w0.heap.size P b w wr)) (λ_ wr=>restN P wr)
   case atStart=>exact⟨[],rest,l,nodes,x,post,f0,ej,by simpa using bz,HJ,ba,HL,bm,aF _,HT,hN,hid (Fr.refl _ _ _).toX⟩
  case round=>
   first|have _:=KL;clear hN bm HM HL HJ CT HT bz;obtain⟨rs,ls,ns,x,post,f,HJ,HM,HL,hf,dg,HT,hN,W⟩:=hrel|clear hN bm ba HL HJ CT HT bz ej;obtain⟨bi,rs,ls,ns,x,post,f,fj,hhad,HJ,ba,HL,hf,dg,HT,hN,W⟩:=hrel
   obtain⟨f,rfl⟩: ∃f',f=f'+1:=⟨f-1,a_⟩;have eJ:=HJ.out.restN;have eU:=hid HJ.out.nodesN;have hL:=HL.out;first|have _:=KL;unfold jF gU at hL;rw[if_pos rfl] at hL|unfold jF at hL
   have am:w0.heap.size<=wr.heap.size:=bF F W.out.sz
   first
   |have _:=KL;have CI:=Uk w0 P txt lv IH;obtain⟨Q,hQ⟩:=exQ<|bS txt lv rs ls ns (0,0);have dr:Hid (∀w',aA wr w'->Calls prog 190 #[some P, .int .i64 (33-(lv:Int))] w' (VE w0.heap.size P txt Q w')):=hid (λw' M=>by have:=CI w' rs ls ns (33-(lv:Int)) (HJ.out.keep M) ((HB.out.trans W.out.bel).trans (M.mono am)) HT.out hN rfl;rw[hQ] at this;exact this)
   |obtain⟨Q,hQ⟩:=exQ<|gU txt (bS txt lv) true bi rs ls ns
    have di:=mQ (W.out.blk X _ d1.out.1 fQ eY DS);have da:=mQ (W.out.blk Y _ d1.out.2 fd eX DS);have dr:Hid (∀w',aA wr w'->Calls prog 191 #[.int .i64 (33-(lv:Int)),some X,some Y] w' (ME w0.heap.size P b txt Q w')):=hid (λw' M=>by have:=Uo w0 P txt lv IH b bi w' rs ls ns (33-(lv:Int)) X Y (by rw[M.cell (p:=⟨X,0,none⟩) di.2];exact di.1) (by rw[M.cell (p:=⟨Y,0,none⟩) da.2];exact da.1) (HJ.out.keep M) ((HB.out.trans W.out.bel).trans (M.mono am)) HT.out hN rfl (fj.out.fr (Fr.of_below (B:=w0.heap.size) (P:=P) M am) cf) hBb a_ hs HS.out.1 HS.out.2;rw[hQ] at this;exact this);clear di da
   rw[hQ] at hL;have HQ:=hid hQ;obtain⟨rv,z0,nv0,b1,b2,b3,b4,b5⟩:=HJ.out;obtain⟨p0,cap0,rfl⟩:=b4.slice;obtain⟨q0,q1,q2,q3,q4,_⟩:=b1.cells;have dy:z0.length=ns.length:=(by rw[<-b3,bP]);rw[dy] at q4;first|have _:=KL;clear b1 b2 b3 b4 CI hQ HL dy|clear b1 b2 b3 b4 hQ HL dy;obtain⟨Q,an⟩:=Q
   cases Q with
   | bad a er=>
    have dd:Hid (nodesN P w<=nodesN P wr.drew):=hid (by have e1:=dU.out;have e2:=eU.out;show nodesN P w<=nodesN P wr;omega);have HF:Hid (JR.bad a er=R):=hid hL;clear hL;go_wp2;go_region;go_wp2_with fail;refine(dr.out _ (aD _ _).drew).mono ?_;rintro e w4 ⟨rfl,bp,ax⟩;first|have _:=KL;have ag:=hid (W.out.trans ((Fr.of_below (aD _ _).drew am).trans ax))|have ag:=hid (W.out.trans ((Fr.of_below (aD _ _).drew am).toX.trans ax))
    clear ax;go_wp2;go_ret;rw[<-HF.out];exact⟨rfl,bp.mono dd.out,ag.out⟩
   | ok r1 l1 ns1=>
    first|have _:=KL;obtain⟨D,rfl,aJ,aa,⟨kd,bk⟩,bd⟩:=nY txt lv _ _ _ _ _ _ _ HQ.out;have U:=hid (HM.out.add bd aJ ns.length (ls.2,cH txt.length r1))|obtain⟨D,rfl,aJ,aa,⟨kd,bk⟩,bd⟩:=zP (nY txt lv) HQ.out;have hh2:=Uq HQ.out;have U:=hid (ba.out.add bd aJ ns.length (ls.2,cH txt.length r1))
    have bA:TB txt r1:=by rw[bk];exact HT.out.drop kd
    have bW:=bA.1;have fg:cH txt.length r1<=65536:=by
     cases r1 with
     | nil=>exact hs
     | cons t r'=>have:=bA.2 t kR;show t.sf<=65536;omega
    have fJ:=hid bA;have dM: ∃x0,(ns++D)[pre.length]?=some x0/\x0.kids.length<=131074/\x0.pcs.length<=131074:=by
     first|have _:=KL;obtain⟨e1,e2,e3,e4⟩:=HM.out|obtain⟨e1,e2,e3,e4⟩:=ba.out
     exact FK
    have eR:pre.length<ns.length:=by
     first|have _:=KL;have:=congrArg List.length HM.out.1|have:=congrArg List.length ba.out.1
     simp only[aZ,bM] at this;omega
    have c8:=hid hL;first|have _:=KL;clear hL bA bk bd HM HQ HJ HT|clear hL bA bk bd ba HQ HJ HT
    go_wp2;go_region;go_wp2_with fail;refine(dr.out _ (aD _ _).drew).mono ?_;first|have _:=KL;rintro e w4 ⟨rfl,bp,ax⟩;have ag:=hid (W.out.trans ((Fr.of_below (aD _ _).drew am).trans ax))|rintro e w4 ⟨rfl,bp,eB,ax⟩;have ag:=hid (W.out.trans ((Fr.of_below (aD _ _).drew am).toX.trans ax));have eS:=hid eB
    have d9:w0.heap.size<=w4.heap.size:=bF F ag.out.sz;obtain⟨z,nv,hz,a6⟩:=bp.toZ;obtain⟨x0,aU,fF,fl⟩:=dM;obtain⟨y,hy,rfl⟩: ∃y:ND,z[pre.length]?=some y/\y.1=x0:=by
     rw[<-hz,cF] at aU;obtain⟨y,h1,h2⟩:=uM.1 aU;exact⟨y,h1,h2⟩
    have bc:z.length=ns.length+D.length:=(by rw[<-bP (f:=(·.1)),hz,aZ]);obtain⟨g,cap,rfl,eA⟩:=a6.form (λe=>by rw[e] at hy;simp at hy);obtain⟨a5,_⟩:=a6.at_.at_ hy 5 a_ rfl;have av:=a6.at_.kids y (bH hy);have c4:=a6.cells.2.1;rw[bc] at c4;have hzi:(pre.length:Int)<((ns.length+D.length:Nat):Int):=a_;have cO:=hid a6;have HY:=hid hy;have HZ:=hid hz;have fD:=hid bc;first|have _:=KL;clear ax bp aU hz bc a6 hy q0 q1 q2 q3 q4|clear ax bp eB aU hz bc a6 hy q0 q1 q2 q3 q4
    go_wp2_with (at_builtin;go_must (refine Kc DS (.tmp 42) (.tmp 44) rfl w0.heap.size w4 y.2.1 y.1.kids ns.length rfl av rfl a_ d9 ?_);intro kv w5 bj aB cq;obtain⟨ck,fk⟩:=cO.out.at_.cellK HY.out aB;obtain⟨gk,pk,rfl⟩:=rN bj);obtain⟨aV,ar⟩:=cO.out.kid (k:=ns.length) HY.out (H:=w4.heap.size+1) a_ d9 bj aB cq;obtain⟨W6,cT⟩:=exQ<|w5.setCell ⟨g,pre.length*7+5,none⟩ (.slice (some ⟨gk,0,none⟩) (y.1.kids.length+1) pk);rw[cT] at aV ar;rw[cT];obtain⟨kv,ew⟩:=exQ (.slice (some ⟨gk,0,none⟩) (y.1.kids.length+1) pk:Value);rw[ew] at aV;have em:pre.length<z.length:=(aW.1 HY.out).1;have bb:(z.set pre.length ({ y.1 with kids:=y.1.kids++ [ns.length] },kv,y.2.2))[pre.length]?=some ({ y.1 with kids:=y.1.kids++ [ns.length] },kv,y.2.2):=by rw[List.getElem?_set,if_pos rfl,if_pos em]
    first|have _:=KL;have ao:=hid (ag.out.trans ar)|have ao:=hid (ag.out.trans ar.toX);have fu:Hid (HM b an W6):=hid (eS.out.fr ar cf)
    have bt:w0.heap.size<=W6.heap.size:=bF F ao.out.sz;have dJ:=hid aV;have al:=hid bb;have p6:W6.cell? (g,pre.length*7+6)=some y.2.2:=(aV.at_.at_ bb 6 a_ rfl).1;have eT:g<W6.heap.size:=World.block_lt_of_cell? W6 _ p6;have ep:=(aV.keep (aD _ _).drew).at_.pcs _ (bH bb);have CH:=hid (Dy _ P txt r1 _ _ W6.drew (aV.keep (aD _ _).drew).toJ a_ a_);clear ck fk bj aB cq a5 c4 av aV ar bb cT ew;go_region_law ((first
     | (go_simp;go_at_call 193;(with_reducible refine CH.out.mono ?_);rintro e w' ⟨rfl,rfl⟩)
     | (refine Eb DS (.tmp 52) (.tmp 57) DS w0.heap.size W6.drew y.2.2 y.1.pcs (ls.2,cH txt.length r1) DS ep DS a_ bt ?_;intro fP w7 au az ad;obtain⟨eO,e8⟩:=(dJ.out.keep (aD _ _).drew).at_.cellP al.out az;obtain⟨e5,ft,rfl⟩:=rN au)))
    all_goals
     obtain⟨d8,aw⟩:=(dJ.out.keep (aD _ _).drew).pc (k:=(ls.2,cH txt.length r1)) al.out (H:=W6.drew.heap.size+1) a_ bt au az ad;have aY:=d8.toJ.cast ((Ec (z:=z) (n:=pre.length) (k:=ns.length) (pc:=(ls.2,cH txt.length r1)) HY.out).trans (congrArg (fB pre.length ns.length (ls.2,cH txt.length r1)) HZ.out));obtain⟨W8,dn⟩:=exQ<|w7.setCell ⟨g,pre.length*7+6,none⟩ (.slice (some ⟨e5,0,none⟩) (y.1.pcs.length+1) ft);rw[dn] at aw aY;rw[dn]
     first|have _:=KL;have T:=hid (ao.out.trans ((Fr.of_below (aD _ _).drew bt).trans aw))|have T:=hid (ao.out.trans ((Fr.of_below (aD _ _).drew bt).trans aw).toX)
     have Z:=hid aY;first|have _:=KM;have eW:Hid (HM b an W8):=hid (fu.out.fr ((Fr.of_below (aD _ _).drew bt).trans aw) cf)|skip
     clear eO e8 au az ad d8 aw aY dn al dJ HY cO p6 ep eT;first|have _:=KL;by_cases h5:dY r1=5|by_cases h5:dY r1=3
     .cases r1 with
      | nil=>cases h5
      | cons t r'=>
       first|have _:=KL;have I:t.kind=5:=h5|have I:t.kind=3:=h5
       have C:JR.ok r' (t.sf,t.st) (fB pre.length ns.length (ls.2,t.sf) (ns++D))=R:=by
        have:=c8.out;simp only[I,if_true] at this;exact this
       first|have _:=KL;have CT:=hid (uR _ P txt t r' _ _ W8 Z.out G2 5 I)|have CT:=hid (uR _ P txt t r' _ _ W8 Z.out G2 3 I)
       clear aJ aa hN h5 I U;go_wp2_with fail;refine CT.out.mono ?_;rintro e w9 ⟨rfl,ah,aO⟩;first|have _:=KL;have ab:=hid (T.out.trans (Fr.ofP aO af (bF F T.out.sz)))|have ab:=hid (T.out.trans (Fr.ofP (B:=w0.heap.size) aO af (bF F T.out.sz)).toX)
       have ai:=hid ah;clear aO ah;go_wp2;go_ret;rw[<-C];exact⟨rfl,ai.out,ab.out⟩
     .first|have _:=KL;have cX:=hid (tC _ P txt r1 _ _ W8 Z.out a_ 5 h5)|have cX:=hid (tC _ P txt r1 _ _ W8 Z.out a_ 3 h5)
      by_cases h6:dY r1=6
      .cases r1 with
       | nil=>cases h6
       | cons t r'=>
        have bK:t.kind=6:=h6;first|have _:=KL;have I: ¬t.kind=5:=h5;have C:jF txt (bS txt lv) 5 false pre.length f [] r' (t.sf,t.st) (fB pre.length ns.length (ls.2,t.sf) (ns++D))=R:=pm|have I: ¬t.kind=3:=h5;have C:jF txt (bS txt lv) 3 true pre.length f an r' (t.sf,t.st) (fB pre.length ns.length (ls.2,t.sf) (ns++D))=R:=pm
        have HR:=hid C;have CT:=hid (uR _ P txt t r' _ _ W8 Z.out G2 6 bK);have b6:(fB pre.length ns.length (ls.2,t.sf) (ns++D)).length+r'.length<=131074:=by
         unfold fB;rw[mO,aZ];simp only[bM] at aa;omega
        first|have _:=KM;have fm:an.length+r'.length<=65537:=by simp only[bM] at aa;omega|skip
        have bf:nodes.length<=(fB pre.length ns.length (ls.2,t.sf) (ns++D)).length:=by
         unfold fB;rw[mO,aZ];omega
        have dj:r'.length<rs.length/\r'.length<f:=by simp only[bM] at aa;omega
        have dW:Hid (TB txt r'):=hid (fJ.out.drop 1);clear aJ aa hN h5 h6 I bK C;go_wp2_with fail;refine cX.out.mono ?_;rintro e w9 ⟨rfl,rfl⟩;go_wp2_with fail;refine CT.out.mono ?_;rintro e w9 ⟨rfl,ah,aO⟩;first|have _:=KL;have ab:=hid (T.out.trans (Fr.ofP aO af (bF F T.out.sz)))|have ab:=hid (T.out.trans (Fr.ofP (B:=w0.heap.size) aO af (bF F T.out.sz)).toX)
        have ai:=hid ah;have e7:=ah.restN;first|have _:=KM;have e6:Hid (HM b an w9):=hid (eW.out.fr (Fr.ofP (B:=w0.heap.size) aO af (bF F T.out.sz)) cf)|skip
        clear aO ah;go_wp2;go_roundw
        first
        |have _:=KL
         .exact⟨r',_,_,_,_,f,ai,U,HR,dj.2,bf,dW,b6,ab⟩
        |.exact⟨an,r',_,_,_,_,f,e6,fm,ai,U,HR,dj.2,bf,dW,b6,ab⟩
        .rw[eJ,e7];exact dj.1
      .have fx:=hid (tC _ P txt r1 _ _ W8 Z.out a_ 6 h6);have C:JR.bad (cH txt.length r1) 2=R:=by
        have:=c8.out;cases r1 with
        | nil=>exact this
        | cons t r'=>
         first|have _:=KL;have I: ¬t.kind=5:=h5|have I: ¬t.kind=3:=h5
         have bK: ¬t.kind=6:=h6;simp only[I,bK,if_false] at this;exact this
       have dd:Hid (nodesN P w<=nodesN P W8):=hid (by have e1:=dU.out;have e2:=Z.out.nodesN;unfold fB at e2;rw[mO,aZ] at e2;omega);have CF:=hid (qM _ P txt r1 _ _ 2 W8 Z.out a_ a_);clear aJ aa hN h5 h6 U;go_wp2_with fail;refine cX.out.mono ?_;rintro e w9 ⟨rfl,rfl⟩;go_wp2_with fail;refine fx.out.mono ?_;rintro e w9 ⟨rfl,rfl⟩;go_wp2_with fail;refine CF.out.mono ?_;rintro e w9 ⟨rfl,ah,bs⟩;first|have _:=KL;have ab:=hid (T.out.trans bs)|have ab:=hid (T.out.trans bs.toX)
       have ai:=hid ah;clear bs ah;go_wp2;go_ret;rw[<-C];exact⟨rfl,ai.out.mono dd.out,ab.out⟩):P:=h
theorem PG(h:P:=by
 have fl:=hx;obtain⟨z,hz,bO,cS⟩:=id hD0;obtain⟨y,hy⟩: ∃y,z[k]?=some y:=EH;have fp:y.1=x:=by
  rw[<-hz,cF,hy] at hx;exact bA hx
 obtain⟨gn,cn,ec,rfl,eD,_,jk⟩:=cS.form (λe=>by rw[e] at hy;cases hy);obtain⟨pl,nl,cl,rfl⟩: ∃p n c,lvv= .slice p n c:=fv;have fh:=cS.kids y (bH hy);obtain⟨pk,ck,bu⟩: ∃p c,y.2= .slice p y.1.kids.length c:=ft;have nE:Hid (∀w',aA w w'-> ∀(j q:Nat),x.kids[j]?=some q-> ∃gk,pk=some ⟨gk,0,none⟩/\w'.cell? ⟨gk,j,none⟩=some (.int .i64 (q:Int))):=hid (λw' bM j q hj=>by
  have fJ:=fh;rw[bu,fp] at fJ;have rF:=(aW.1 hj).1;rcases fJ.2 with⟨h0,h1⟩ | ⟨g,cap,ec,h1,_⟩
  .omega
  .injection h1 with e1;subst e1;refine⟨g,rfl,cB ?_ bM⟩;rw[World.ownsRow.cellAt fJ _ a_];unfold dH;rw[cF,hj];rfl)
 obtain⟨mk,dt⟩:=exQ<|y.1.kids.length;obtain⟨nz,fj⟩:=exQ<|z.length;have cA:z.length=d.nodes.length:=IP
 have kz:k<z.length:=(aW.1 hy).1;rw[fj] at hD0 ⊢;have gX:(0:Int)<=(k:Int):=a_
 have gm:(k:Int)<(nz:Int):=a_
 have kI:Hid (∀w',aA w w'-> ∀(q:Nat) (yq:aV),d.nodes[q]?=some yq->w'.cell? (gn,q*9+4)=some (.int .i64 yq.kf)/\w'.cell? (gn,q*9+5)=some (.int .i64 yq.kt)):=hid (λw' bM q yq Z=>by
  obtain⟨u,hu⟩: ∃u,z[q]?=some u:=by
   rw[<-hz,cF] at Z;cases hh:z[q]? with
   | none=>rw[hh] at Z;cases Z
   | some u=>exact⟨u,rfl⟩
  have o5:u.1=yq:=by
   rw[<-hz,cF,hu] at Z;exact bA Z
  have h4:=(cS.at_ hu 4 a_ rfl).1;have h5:=(cS.at_ hu 5 a_ rfl).1;rw[o5] at h4 h5;exact⟨cB h4 bM,cB h5 bM⟩)
 have HC:Hid (∀j u,j<9->(iK y)[j]?=some u->w.cell? ⟨gn,k*9+j,none⟩=some u):=hid (λj u hj hu=>(cS.at_ hy j hj hu).1);obtain⟨uJ,p8,hW⟩:=hb.nd x (bH hx);rw[fp] at dt bu;rw[dt] at bu hW;obtain⟨W1,bp⟩:=exQ<|w.alloc (.cells #[bs s, .slice pl nl cl,(gn,nz,cn)] 26);obtain⟨D,f9⟩:=exQ<|w.heap.size;have b1:aA w W1:=by rw[<-bp];exact aL _ _
 have h1:W1.heap[D]?=some (.cells #[bs s, .slice pl nl cl,(gn,nz,cn)] 26):=by rw[<-bp,<-f9];exact heap_alloc_new w _
 obtain⟨W2,aw⟩:=exQ<|W1.alloc (.cells #[(0:Int), .string ⟨#[]⟩,(),()] 36);obtain⟨R,fP⟩:=exQ<|W1.heap.size;have b2:aA W1 W2:=by rw[<-aw];exact aL _ _
 have h2:W2.heap[R]?=some (.cells #[(0:Int),bs [],(),()] 36):=by rw[<-aw,<-fP];exact heap_alloc_new W1 _
 obtain⟨W3,a6⟩:=exQ<|W2.alloc (.cells #[(4:Int),x.ind,x.fr,x.til,x.kf,x.kt,x.rf,x.rt, .slice pk mk ck] 45);obtain⟨X,eo⟩:=exQ<|W2.heap.size;have b3:aA W2 W3:=by rw[<-a6];exact aL _ _
 have h3:W3.heap[X]?=some (.cells #[(4:Int),x.ind,x.fr,x.til,x.kf,x.kt,x.rf,x.rt, .slice pk mk ck] 45):=by rw[<-a6,<-eo];exact heap_alloc_new W2 _
 first
 |have _:=QX;obtain⟨W4,cH⟩:=exQ<|W3.alloc (.cells #[(5:Int), .string ⟨#[]⟩,(),()] 36)
  obtain⟨Y,fY⟩:=exQ<|W3.heap.size;have b4:aA W3 W4:=by rw[<-cH];exact aL _ _
  have h4:W4.heap[Y]?=some (.cells #[(5:Int),bs [],(),()] 36):=by rw[<-cH,<-fY];exact heap_alloc_new W3 _
 |skip
 have bo:=(b2.block D (aG h1)).trans h1;have d8:=(b3.block D (aG bo)).trans bo;have ey:=(b3.block R (aG h2)).trans h2;have bh:=hid (aE b1 b2);have ax:=hid (aE bh.out b3);first|have _:=QX;have wV:=hid (aE ax.out b4);have ew:=hid b4|have jm:=hid (aD W3.heap.size W3)
 have H3:=hid (aK d8 (aK ey h3));first|have _:=QX;have H4:=hid h4|skip
 have bN:Hid (∀w',aA W3 w'->(w'.cell? (D,0)=some (.string (bs s))/\w'.cell? (D,1)=some (.slice pl nl cl)/\w'.cell? (D,2)=some (.slice (some ⟨gn,0,none⟩) nz cn))/\(w'.cell? (X,0)=some (.int .i64 4)/\w'.cell? (X,6)=some (.int .i64 x.rf)/\w'.cell? (X,7)=some (.int .i64 x.rt)/\w'.cell? (X,8)=some (.slice pk mk ck))/\w'.heap[R]?=some (.cells #[(0:Int),bs [],(),()] 36)):=hid (λw' h=>by obtain⟨e0,e1,e2,_⟩:=eA ((h.block D (aG d8)).trans d8);obtain⟨f0,f1,f2,f3,f4,f5,f6,f7,f8⟩:=kD ((h.block X (aG h3)).trans h3);exact⟨⟨e0,e1,e2⟩,⟨f0,f6,f7,f8⟩,(h.block R (aG ey)).trans ey⟩);have j9:R<W3.heap.size:=aG ey;first|have _:=QX;have cd:W3.heap.size<=Y:=by omega|skip
 have np:w.heap.size<=R:=by rw[<-fP];exact b1.size
 have mJ:w.heap.size<=W3.heap.size:=ax.out.size;have jn:Hid (∀w',aA W3 w'->eP B d (.slice pl nl cl) (.slice (some ⟨gn,0,none⟩) nz cn) w'):=hid (λw' h=>(hD0.keep ax.out).keep h);have jg:Hid (∀w',aA W3 w'->bV w'):=hid (λw' h=>(hV.keep ax.out).keep h);first|have _:=QX;have iI:Hid (∀(a b:Int) w',Calls prog 28 #[.agg #[bs s, .slice pl nl cl,(gn,nz,cn)], .agg #[a,b]] w' (aT w' (.string (bs (iD s a b))))):=hid (λa b w'=>Cs s _ _ ⟨_,_,_,rfl⟩ ⟨_,_,_,rfl⟩ a b w' DO)|skip
 have bU: ∀j u,j<9->(iK y)[j]?=some u->W2.cell? ⟨gn,k*9+j,none⟩=some u:=λj u hj hu=>by
  exact cB (HC.out j u hj hu) bh.out
 have y0:=bU 0 _ a_ rfl;have y1:=bU 1 _ a_ rfl;have y2:=bU 2 _ a_ rfl;have y3:=bU 3 _ a_ rfl;have y4:=bU 4 _ a_ rfl;have y5:=bU 5 _ a_ rfl;have y6:=bU 6 _ a_ rfl;have y7:=bU 7 _ a_ rfl;have y8:=bU 8 _ a_ rfl;rw[fp] at y0 y1 y2 y3 y4 y5 y6 y7;rw[bu] at y8;rw[hkd] at y0;simp only[Nat.add_zero] at y0;have d2:W2.cell? (D,2)=some (.slice (some ⟨gn,0,none⟩) nz cn):=(eA bo).2.2.1;have kK:=hid (aK dt hW);have gt:=hid (hT.kid fl);have fU:=hid (cA.symm.trans fj);first|have _:=QX;have uW:=hlev.out;clear b1 b2 b3 b4 h1 h2 h3 h4 bo d8 ey hz bO cS fh bu hx hy fp cA kz jk eD bU dt fj hT hD0 hV|have jV:=hid (hli x (bH fl));clear b1 b2 b3 h1 h2 h3 bo d8 ey hz bO cS fh bu hx hy fp cA kz jk eD bU dt fj hT hD0 hV
 obtain⟨t,ht⟩:=exQ<|qE s d.lines x
 first
 |have _:=QX;have CL:Hid (∀w',aA W3 w'->Calls prog 11 #[.agg #[bs s, .slice pl nl cl,(gn,nz,cn)],k] w' (aT w' (.tuple #[bs t,true]))):=hid (λw' bM=>by have:=Hg s d _ _ B w' (jn.out w' bM) hb hi64 k x fl hkd;rw[ht] at this;exact this);have x9:=hid (λw'=>yE t w')
 |have CL:Hid (∀w',aA W3 w'->Calls prog 14 #[.agg #[bs s, .slice pl nl cl,(gn,nz,cn)],k] w' (aT w' (.string (bs t)))):=hid (λw' bM=>by obtain⟨p1,c1,p2,c2,e1,e2,g1,g2⟩:=(jn.out w' bM).read;have:=Qs s d p1 p2 c1 c2 w' hb k x fl (jV.out.2 hkd) g1 g2;rw[<-e1,<-e2,ht] at this;exact this);have x9:=hid (λw'=>Gm t w')
 have dT:aX s d (lv+1) k=gN t:=by
  unfold aX;rw[fl];simp only[];rw[if_neg a_,if_pos hkd,ht]
 rw[dT];clear dT ht hkd fl;go_in;go_upto_region 1 with fail;clear bp aw f9 fP;go_upto_region 2 with fail;clear a6 eo y0 y1 y2 y3 y4 y5 y6 y7 y8 d2
 first
 |have _:=QX;have nF:=hid cH;clear cH;go_upto_region 3 with fail
  first | rw[nF.out] | skip
  clear fY;obtain⟨⟨e0,e1,e2⟩,⟨x0,x6,x7,x8⟩,hr⟩:=bN.out W4 ew.out;go_wp2_with fail;refine aH (CL.out _ (by first | exact ew.out | exact ew.out.drew)) λw5 ag=>?_;have dY:Hid (aA W4 w5):=hid p_
 |obtain⟨⟨e0,e1,e2⟩,⟨x0,x6,x7,x8⟩,hr⟩:=bN.out W3 jm.out;go_wp2_with fail;refine aH (CL.out _ GV) λw5 ag=>?_;have dY:Hid (aA W3 w5):=hid p_
 clear ag e0 e1 e2 x0 x6 x7 x8 hr;go_wp2_with fail;refine aH (x9.out _) λw6 bj=>?_;first|have _:=QX;have dq:Hid (aA W3 w6):=hid (ew.out.trans ((aE dY.out bj).mono ew.out.size))|have dq:Hid (aA W3 w6):=hid (aE dY.out bj)
 obtain⟨_,_,hr⟩:=bN.out w6 dq.out;obtain⟨r0,r1,r2,r3,g0,g1,g2,g3⟩:=bK hr;have ix:=hid (iA (t:=gN t) ax.out np j9 (kW _ _ _ _) dq.out H3.out.2.1);clear hr bj;go_wp2_with fail;have ib:(((w6.setCell ⟨R,0,none⟩ (.int .i64 4)).setCell ⟨R,1,none⟩ (.string (bs t))).setCell ⟨R,2,none⟩ (.slice none 0 0)).setCell ⟨R,3,none⟩ (.slice none 0 0)=bD w6 R (gN t).kind (gN t).text (.slice none 0 0) (.slice none 0 0):=rfl;rw[ib];obtain⟨WR,jp⟩:=exQ<|bD w6 R (gN t).kind (gN t).text (.slice none 0 0) (.slice none 0 0);rw[jp] at ix ⊢;clear ib jp r0 r1 r2 r3 g0 g1 g2 g3;obtain⟨d0,d1,d2,d3,_⟩:=bK ix.out.2.2;refine bodyPost_ret (v:= .agg #[.int .i64 (gN t).kind,bs (gN t).text,(),()]) ?_ rfl ⟨⟨_,_,rfl,ix.out.1⟩,ix.out.2.1⟩
 first|have _:=QX;exact i8|exact i9):P:=h
theorem IY(h:P:=by
 first
 |have _:=M6;rw [if_pos t] at i;have P:n=45\/((n==45)=false/\decide (48<=n)=true/\decide (n<=57)=true):=by
   by_cases h:n=45
   .exact .inl h
   .right;rcases t with t | t
    .exact absurd (y.out.2.2.2.2.2.1 t) h
    .rw[y.out.2.2.2.1,kB] at t;exact⟨aI.2 h,aQ t.1,aQ t.2⟩
  have S:=K.out.2;obtain⟨P1,P2⟩:=PR;clear y K s t h34
 |rw[if_neg t] at i;have P:(n==45)=false/\(decide (48<=n)=false\/(decide (48<=n)=true/\decide (n<=57)=false)):=by
   refine⟨aI.2 (λe=>t (.inl (y.out.2.2.2.2.2.2 e))),?_⟩;by_cases h:48<=n
   .right;exact⟨aQ h,aJ (λh2=>t (.inr (by rw[y.out.2.2.2.1];exact aQ ⟨h,h2⟩)))⟩
   .left;exact aJ h
  obtain⟨d1,d2⟩:=P;have hw12:wd<=12:=by have:=y.out.2.2.1;omega
  have wns:IntKind.i64.wrap ((a:Int)+(ns:Int))=(a:Int)+(ns:Int):=by rw[IntKind.wrap_i64];omega
  clear y K s t h34 CP RN
 go_upto_region 15 with fail;first|have _:=M6;go_cut [72] (λM wx=>M= .bool true/\Hid (oB w a wx))|go_cut [72] (λM wx=>M= .bool false/\Hid (oB w a wx))
 case first=>
  first|have _:=M6;(rcases P with rfl | ⟨d1,d2,d3⟩)|(rcases d2 with d2 | ⟨d2,d3⟩)
  all_goals
   go_wp2;go_meet;exact⟨rfl,m⟩
 clear p0 q0 t0 t1 t2 f0 f1 f2 m;obtain⟨rfl,m⟩:=hcut
 first
 |have _:=M6;have hS:dZ w a wc:=dZ.start m.out;go_upto_region 16 with fail;go_region_held3 (λw'=>dZ w a w') ((first | exact dZ.drew m_ | exact dZ.step m_ m_ | assumption))
   (first
    | (go_at_call 224;(with_reducible refine(Kw _ _).mono ?_);rintro e w1 ⟨X,rfl,U,T⟩)
    | (go_at_call 223;(with_reducible refine(RN.out _ _ (by exact U)).mono ?_);rintro e w2 ⟨rfl,rfl⟩))
  have I:dZ w a w1:=m_
  clear U T hS;have O:=hid I;have A:=I.1;clear I;have HBn:Hid (aA w w1):=hid (by obtain⟨_,_,_,_,_,h3⟩:=O.out.2.out;exact h3);unfold pR eK at CP;obtain⟨g,d,e⟩:=P1;simp only[] at CP i;go_wp2_with fail;(with_reducible refine(CP.out _).mono ?_);rintro e w2 ⟨rfl,ab⟩;have Z:=hid (dZ.step O.out ab);clear O ab A;go_upto_region 18 with fail;have G:=hid (dZ.step Z.out (aL w2 (.cells #[g,bs d,e] 80)));obtain⟨W2,ag⟩:=exQ<|w2.alloc (.cells #[g,bs d,e] 80);rw[ag] at G ⊢;clear ag Z;have A:=G.out.1;by_cases hp:P2=0
 |obtain⟨p0,q0,t0,t1,t2,f0,f1,f2⟩:=m.out.cells;by_cases hw0:wd=0
 .first|have _:=M6;have q:Hid (((9:Int),(a:Int),(a:Int)+(nn:Int),(0:Int))=R):=hid (by have:=i.out;rw[if_pos hp] at this;rw[<-this];unfold oZ;simp);subst hp;clear i;go_wp2_with fail;with_reducible refine(TK.out _ _ _ A).mono ?_|have q:Hid (((0:Int),(a:Int),(a:Int),(2:Int))=R):=hid (by have:=i.out;rw[if_pos hw0] at this;rw[<-this];unfold oZ;simp);subst hw0;clear i;go_wp2_with (go_at_call 223;(with_reducible refine(RS.out _).mono ?_);rintro e w' ⟨rfl,rfl⟩);(with_reducible refine(CW.out _).mono ?_);rintro e w' ⟨rfl,rfl⟩;go_wp2_with fail;with_reducible refine(TF.out _ _ _).mono ?_
  rintro e w3 ⟨rfl,p⟩;first|have _:=M6;have z:=dZ.step G.out p;clear p A|have z:=dZ.step (dZ.start m.out) p;clear p p0 q0 t0 t1 t2 f0 f1 f2
  obtain⟨k3,x3,y3,t0,t1,t2,f0,f1,f2⟩:=z.cellsE;go_wp2_with fail
  first
  |have _:=M6;have j:=hid (z.putG (9) ((a:Int)) ((a:Int)+(nn:Int)));obtain⟨WF,f⟩:=exQ<|iI w3 (w.heap.size+1) (9) ((a:Int)) ((a:Int)+(nn:Int))
  |have j:=hid (z.putG (0) ((a:Int)) ((a:Int)));obtain⟨WF,f⟩:=exQ<|iI w3 (w.heap.size+1) (0) ((a:Int)) ((a:Int))
  rw[f] at j;dsimp only[iI] at f;rw[f];clear f t0 t1 t2 f0 f1 f2;obtain⟨c0,c1,c2,_⟩:=j.out.2.1.cells;first|have _:=M6;refine bodyPost_ret (v:= .tuple #[.agg #[(9:Int), .int .i64 ((a:Int)), .int .i64 ((a:Int)+(nn:Int))],(0:Int)]) ?_ rfl ⟨by rw[<-q.out];rfl,j.out.2.2⟩|refine bodyPost_ret (v:= .tuple #[.agg #[(0:Int), .int .i64 ((a:Int)), .int .i64 ((a:Int))],(2:Int)]) ?_ rfl ⟨by rw[<-q.out];rfl,j.out.2.2⟩
  exact ed
 .first
  |have _:=M6;have q:Hid (((0:Int),(a:Int),(a:Int),P2)=R):=hid (by have:=i.out;rw[if_neg hp] at this;rw[<-this];unfold oZ;simp only[];rw[if_neg hp];simp);have te:(P2 !=0)=true:=eN.2 hp;clear i hp;go_wp2_with fail;with_reducible refine(TF.out _ _ _).mono ?_
  |have q:Hid (((wd:Int),(a:Int),(a:Int)+(ns:Int),(0:Int))=R):=hid (by have:=i.out;rw[if_neg hw0] at this;rw[<-this];unfold oZ;simp);have tw:((wd:Int) !=0)=true:=eN.2 a_;clear i hw0;go_wp2_with (go_at_call 223;(with_reducible refine(RS.out _).mono ?_);rintro e w' ⟨rfl,rfl⟩);(with_reducible refine(CW.out _).mono ?_);rintro e w' ⟨rfl,rfl⟩;go_wp2_with fail;with_reducible refine(TK.out _ _ _ p0).mono ?_
  rintro e w3 ⟨rfl,p⟩;first|have _:=M6;have z:=dZ.step G.out p;clear p A|have z:=dZ.step (dZ.start m.out) p;clear p p0 q0 t0 t1 t2 f0 f1 f2
  obtain⟨k3,x3,y3,t0,t1,t2,f0,f1,f2⟩:=z.cellsE;go_wp2_with fail
  first
  |have _:=M6;have j:=hid (z.putG (0) ((a:Int)) ((a:Int)));obtain⟨WF,f⟩:=exQ<|iI w3 (w.heap.size+1) (0) ((a:Int)) ((a:Int))
  |have j:=hid (z.putG ((wd:Int)) ((a:Int)) ((a:Int)+(ns:Int)));obtain⟨WF,f⟩:=exQ<|iI w3 (w.heap.size+1) ((wd:Int)) ((a:Int)) ((a:Int)+(ns:Int))
  rw[f] at j;dsimp only[iI] at f;rw[f];clear f t0 t1 t2 f0 f1 f2;obtain⟨c0,c1,c2,_⟩:=j.out.2.1.cells;first|have _:=M6;refine bodyPost_ret (v:= .tuple #[.agg #[(0:Int), .int .i64 ((a:Int)), .int .i64 ((a:Int))],P2]) ?_ rfl ⟨by rw[<-q.out];rfl,j.out.2.2⟩|refine bodyPost_ret (v:= .tuple #[.agg #[.int .i64 ((wd:Int)), .int .i64 ((a:Int)), .int .i64 ((a:Int)+(ns:Int))],(0:Int)]) ?_ rfl ⟨by rw[<-q.out];rfl,j.out.2.2⟩
  exact ed):P:=h
theorem P8(h:P:=by
 obtain⟨A1,hA⟩:=exQ<|kH n
 first|have:=SI;have CA:=hid (λw=>Vk n w hd A1 hA)|have CA:=hid (λw=>aBq n w hd A1 hA)
 obtain⟨R,hR⟩:=exQ<|kS n;rw[hR];unfold kS at hR;rw[hA] at hR;have hb:A1=true->n.dig.length<=1000/\ -1000000<=n.exp/\n.exp<=1000000:=λh=>Ao (hA.trans h)
 first
 |have:=SJ;obtain⟨Q,hQ⟩:=exQ<|decide (n=cM)
  have CQ:=hid (λw=>aBr n w Q hQ);have bB:A1=true->(Q=true↔n.dig= []):=λh=>by
   rw[<-hQ,kB];constructor
   .intro e;rw[e];rfl
   .intro e;rcases of_decide_eq_true (hA.trans h) with g | g
    .exact g
    .exact absurd e (oT g.1).1
 |skip
 obtain⟨ng,d,ex⟩:=n;first|have:=SI;simp only[] at hR CA hb hd ⊢;have sd:=aP d;have HT:=hid (hT.keep (aL w (.cells #[ng,bs d,ex] 80)));clear hT hA|simp only[] at hR CA hb hd bB CQ ⊢;have sd:=aP d;have HN:=hid (qX.new w ⟨ng,d,ex⟩);clear hA hQ
 cases A1 with
 | false=>
  rw[if_pos rfl] at hR;subst hR;first|have:=SI;go_in;go_wp2_with (go_at_call 61;go_must (refine(CA.out _).mono ?_);rintro e w1 ⟨rfl,o⟩)|clear bB;go_in;go_wp2_with (go_at_call 125;go_must (refine(CA.out _).mono ?_);rintro e w1 ⟨rfl,o⟩)
  go_ret;exact⟨rfl,(aL w _).trans (o.mono e_)⟩
 | true=>
  obtain⟨o,J,az⟩:=hb rfl;first|have:=SJ;have V:=bB rfl|skip
  rw[if_neg e_] at hR;first|have:=SI;have C2:=hid (λw hT=>Kt ex w a_ hT);have HR:=hid hR;clear hR|have C2:=hid (λw=>aBp ex w a_);have cO:=Aq ex a_;generalize Lib.itoa ex=I at *;have sI:=aP I;have HR:=hid hR;have HQ:=hid V;clear hR V bB hb
  go_in;go_wp2_with fail;refine aH (CA.out _) λw1 o=>?_
  first
  |have:=SI;have ct:=hid ((o.block w.heap.size e_).trans (heap_alloc_new w _));have cp:=hid (HT.out.keep o);have G:=hid ((aL w _).trans (o.mono e_));obtain⟨r0,r1,r2,g0,g1,g2⟩:=iS ct.out;clear o;have bE:(bs d).toList=d:=DN;by_cases hne:d= []
   .have hR:=HR.out;rw[if_pos hne] at hR;subst hR;rw[hne] at bE;clear HR;go_wp2;go_ret;exact bx
   .have hR:=HR.out;rw[if_neg hne] at hR;have cs: ¬(bs d).toList= []:=by rw[bE];exact hne
    have hDn2:((bs d).toList== [])=false:=aI.2 cs;have hDn3:(bs d).toList.isEmpty=false:=by rw[bE];cases d with | nil=>exact absurd rfl hne | cons _ _=>rfl
    clear bE hne HR;by_cases he:ex=0
    .subst he;cases ng
     .have HR:=hid (show d=R by simpa using hR);clear hR;go_wp2;go_ret;exact⟨by rw[<-HR.out];rfl,G.out⟩
     .have HR:=hid (show 45::d=R by simpa using hR);clear hR;go_wp2;go_ret;exact⟨by rw[<-HR.out,uW];rfl,G.out⟩
    .rw[if_pos he] at hR;have cr:(ex !=0)=true:=eN.2 he;have cO:=Aq ex a_;generalize Lib.itoa ex=I at *;have sI:=aP I;have HR:=hid hR;clear hR he;cases ng
     .go_wp2_with fail;refine aH (C2.out _ cp.out) λw2 J=>?_;go_wp2;go_ret;exact⟨by rw[<-HR.out,uW,jP];rfl,G.out.trans (J.mono G.out.size)⟩
     .go_wp2_with (go_at_call 62;go_must (refine(C2.out _ cp.out).mono ?_);rintro e w2 ⟨rfl,J⟩);go_ret;exact⟨by rw[<-HR.out,uW,uW,jP];rfl,G.out.trans (J.mono G.out.size)⟩
  |have HO:=hid (vJ.of (HN.out.keep o) ((aL w _).trans (o.mono e_)));obtain⟨c0,c1,c2⟩:=HO.out.1;simp only[] at c0 c1 c2;clear o;go_wp2_with fail;refine aH (CQ.out _) λw2 J=>?_;have ca:=hid (HO.out.step J);clear J HO c0 c1 c2;obtain⟨c0,c1,c2⟩:=ca.out.1;simp only[] at c0 c1 c2;have HB:=hid ca.out.2.out.2;cases Q with
   | true=>
    have hR:=HR.out;rw[if_pos (by simpa using HQ.out)] at hR;have HF:=hid hR;clear hR;go_wp2;go_ret;exact⟨by rw[<-HF.out];rfl,HB.out⟩
   | false=>
    have hR:=HR.out;rw[if_neg (by simpa using HQ.out)] at hR;have H2:=hid hR;clear hR HR;by_cases he:ex=0
    .subst he;cases ng
     .have HF:=hid (show d=R by simpa using H2.out);clear H2;go_wp2;go_ret;exact⟨by rw[<-HF.out];rfl,HB.out⟩
     .have HF:=hid (show 45::d=R by simpa using H2.out);clear H2;go_wp2;go_ret;exact⟨by rw[<-HF.out,uW];rfl,HB.out⟩
    .have cr:(ex !=0)=true:=eN.2 he;have hR:=H2.out;rw[if_pos he] at hR;have H3:=hid hR;clear hR he H2;cases ng
     .have HF:=hid (show d++([101]++I)=R by simpa using H3.out);clear H3;go_wp2_with (go_at_call 127;go_must (refine(C2.out _).mono ?_);rintro e w3 ⟨rfl,az⟩);go_ret;exact⟨by rw[<-HF.out,show (⟨#[101]⟩:ByteArray)=bs [101] from rfl,jP,jP,nX];rfl,HB.out.trans (az.mono HB.out.size)⟩
     .have HF:=hid (show 45::(d++([101]++I))=R by simpa using H3.out);clear H3;go_wp2_with (go_at_call 127;go_must (refine(C2.out _).mono ?_);rintro e w3 ⟨rfl,az⟩);go_ret;exact⟨by rw[<-HF.out,uW,show (⟨#[101]⟩:ByteArray)=bs [101] from rfl,jP,jP,nX];rfl,HB.out.trans (az.mono HB.out.size)⟩):P:=h
theorem PP(h:P:=by
 obtain⟨R,H⟩:=exQ<|w.heap.size;obtain⟨W1,m⟩:=exQ<|w.alloc (.cells #[(0:Int), .string ⟨#[]⟩,(),()] 36);have u:Hid (aA w W1):=hid (by rw[<-m];exact aL _ _);have l:Hid (W1.heap[R]?=some (.cells #[(0:Int),bs [],(),()] 36)):=hid (by rw[<-m,<-H];exact heap_alloc_new w _);have o:=hid (aG l.out)
 first|have _:=QP;have I:=hid (hV.keep u.out);have CP:=hid (Xb s _ rfl W1 a_ I.out.2 I.out.tabs)|have CP:=hid (hCP W1)
 have d:(gE s).2.2=0->(gE s).1.length<=65536:=λ_=>Av s;unfold jV;obtain⟨⟨ns,at_,er⟩,hP⟩:=exQ<|gE s;rw[hP] at CP d;rw[hP];simp only[] at d ⊢;have J:=hid hP;unfold yB at CP;simp only[] at CP
 first|have _:=QP;clear hV hP|clear hCP hP
 by_cases he:er=0
 .subst he;rw[if_neg e_];simp only[];first|have _:=QP;have hs:s.length<=1073741824:=by have:=Yn J.out;omega|skip
  have G:=hid (zZ J.out);have A:tI s ns=s:=by
   have:=G.out.lt;cases ns with
   | nil=>simp at this
   | cons _ _=>rfl
  rw[A] at CP;have L:=d rfl;have K:=hid L;clear d A L;go_in;go_upto_region 1 with fail;clear m;go_wp2_with fail;refine CP.out.mono ?_;rintro e w1 ⟨p,c,rfl,j,h⟩;have r:=aL w1 (.cells #[bs s, .slice p ns.length c] 134);have z:=aE h r;have B:=hid z;first|have _:=QP;have x:=hid (Mh s ns p c K.out hs 32 0 ns.length 1 _ G.out (hid rfl) (aF _) (j.keep r) (I.out.keep z))|have x:=hid (Ox s ns p c K.out hs 32 0 ns.length _ G.out (j.keep r))
  clear j h r z CP;go_wp2_with fail;refine x.out.mono ?_;rintro e w4 ⟨⟨kv,iv,rfl,y⟩,C⟩;obtain⟨pk,ck,px,cx,rfl,rfl⟩:=y.form;have k:=hid (aE B.out C);have F:=hid (y.mono (ok':=λq=>W1.heap.size<=q) (λq M _=>bF B.out.size M));have a:=hid (iA u.out (by rw[H];exact aF _) o.out F.out k.out l.out);obtain⟨r0,r1,r2,r3,f0,f1,f2,f3⟩:=bK ((k.out.block R o.out).trans l.out);unfold vv;clear y C x;go_wp2_with fail;obtain⟨WF,f⟩:=exQ<|bD w4 R (bJ s ns 32 0).kind (bJ s ns 32 0).text (.slice pk (bJ s ns 32 0).keys.length ck) (.slice px (bJ s ns 32 0).items.length cx);rw[f] at a;have b:(((w4.setCell ⟨R,0,none⟩ (.int .i64 (bJ s ns 32 0).kind)).setCell ⟨R,1,none⟩ (.string (bs (bJ s ns 32 0).text))).setCell ⟨R,2,none⟩ (.slice pk (bJ s ns 32 0).keys.length ck)).setCell ⟨R,3,none⟩ (.slice px (bJ s ns 32 0).items.length cx)=WF:=f;rw[b];clear f b r0 r1 r2 r3 f0 f1 f2 f3;obtain⟨d0,d1,d2,d3,_⟩:=bK a.out.2.2;refine bodyPost_ret (v:= .tuple #[vv (bJ s ns 32 0) (.slice pk (bJ s ns 32 0).keys.length ck) (.slice px (bJ s ns 32 0).items.length cx),at_,(0:Int)]) ?_ rfl ⟨⟨_,_,rfl,a.out.1⟩,a.out.2.1⟩;exact la
 .rw[if_pos he];simp only[];have de:(er !=0)=true:=by simp[he]
  clear d J;go_in;go_upto_region 1 with fail;clear m;go_wp2_with fail;refine CP.out.mono ?_;rintro e w1 ⟨p,c,rfl,j,h⟩;have HB1':=hid h;obtain⟨w4,E⟩:=exQ<|w1.alloc (.cells #[bs (tI s ns), .slice p ns.length c] 134);have k:Hid (aA W1 w4):=hid (aE h (by rw[<-E];exact aL _ _));have a:=hid (iA (t:=eE) u.out (by rw[H];exact aF _) o.out (kW _ _ _ _) k.out l.out);obtain⟨r0,r1,r2,r3,f0,f1,f2,f3⟩:=bK ((k.out.block R o.out).trans l.out);clear j h CP;go_wp2_with fail;obtain⟨WF,f⟩:=exQ<|bD w4 R eE.kind eE.text (.slice none 0 0) (.slice none 0 0);rw[f] at a;have b:(((w4.setCell ⟨R,0,none⟩ (.int .i64 0)).setCell ⟨R,1,none⟩ (.string ⟨#[]⟩)).setCell ⟨R,2,none⟩ (.slice none 0 0)).setCell ⟨R,3,none⟩ (.slice none 0 0)=WF:=f;rw[b];clear f b r0 r1 r2 r3 f0 f1 f2 f3;obtain⟨d0,d1,d2,d3,_⟩:=bK a.out.2.2;refine bodyPost_ret (v:= .tuple #[vv eE (.slice none 0 0) (.slice none 0 0),at_,er]) ?_ rfl ⟨⟨_,_,rfl,a.out.1⟩,a.out.2.1⟩;exact la):P:=h
theorem PV(h:P:=by
 intro n
 induction n with
 | zero=>intro t kv iv w h;exact h.elim
 | succ m ih=>
  intro t kv iv w h z;obtain⟨m',P,C,p,c,rfl,M,r⟩:=h.parts;obtain rfl:m=m':=a_
  obtain⟨k,s,ks,l⟩:=t
  first
  |have _:=RZ;obtain⟨R,u⟩:=exQ<|(VT.mk k s ks l).size
   rw[u];rw[VT.size] at u
  |obtain⟨R,u⟩:=exQ<|(VT.mk k s ks l).depth
   rw[u];rw[VT.depth] at u
  simp only[VT.items] at M r;have f:iZ l<=1099511627776:=by rw[VT.bulk] at z;omega
  have hll:l.length<=1099511627776:=bF (zV l) f;have O:=hid u;have K:=hid r;have D:=hid ih;clear u r ih h C P z;unfold vv;simp only[VT.kind,VT.text,VT.items];go_in;go_wp2;first|have _:=RZ;go_loopw [3,9] (λs3 s9 wr=> ∃(i:Nat),s3= .int .i64 ((fU (l.take i)+1:Nat):Int)/\s9= .int .i64 (i:Int)/\i<=l.length/\Hid (aA w wr)) (λ_ s9 _=>l.length-(RowKit.intOf s9).toNat)|go_loopw [3,9] (λs3 s9 wr=> ∃(i:Nat),s3= .int .i64 ((fL (l.take i):Nat):Int)/\s9= .int .i64 (i:Int)/\i<=l.length/\Hid (aA w wr)) (λ_ s9 _=>l.length-(RowKit.intOf s9).toNat)
  case atStart=>exact⟨0,rfl,rfl,cI _,hid (aL w _)⟩
  case round=>
   obtain⟨i,rfl,rfl,hi,q⟩:=hrel;by_cases hil:i<l.length
   .obtain⟨x,v⟩: ∃x,l[i]?=some x:=⟨_,bI hil⟩;obtain⟨g,o,kv',iv',rfl,hg,n0,n1,n2,n3,j⟩:=K.out.keep q.out i x v;obtain⟨pk,ck,px,cx,rfl,rfl⟩:=j.form;have E:=bF (zW (bH v)) f;have G:(i:Int)<(l.length:Int):=a_;have dk:decide ((i:Int)<(l.length:Int))=true:=aQ G
    first
    |have _:=RZ;have d:fU (l.take i)+1+x.size=fU (l.take (i+1))+1:=by rw[sW v,zS,fU,fU];omega
     have e:fU (l.take (i+1))<=iZ l:=by
      have I:fU (l.take (i+1))<=fU l:=by
       have:=zS (l.take (i+1)) (l.drop (i+1));rw[sS] at this;omega
      exact bF I (Ji l)
    |have d:max (fL (l.take i)) x.depth=fL (l.take (i+1)):=by rw[sW v,Dq,fL,fL];omega
     have e:fL (l.take (i+1))<=iZ l:=by
      have I:fL (l.take (i+1))<=fL l:=by
       have:=Dq (l.take (i+1)) (l.drop (i+1));rw[sS] at this;omega
      exact bF I (zU l)
    have HX:=hid v;have J:=hid j;have F:=hid d;have L:=hid e;clear v j d e;go_upto_region 5 with fail;have y:=hid (aL wr (.cells #[.int .i64 x.kind, .string (bs x.text), .slice pk x.keys.length ck, .slice px x.items.length cx] 36));have N:=hid (D.out x _ _ (wr.alloc (.cells #[.int .i64 x.kind, .string (bs x.text), .slice pk x.keys.length ck, .slice px x.items.length cx] 36)) (J.out.keep y.out) E);unfold vv at N;go_wp2_with fail;refine aH N.out λw2 A=>?_;have H:=hid (aE q.out (aE y.out A));have e:=L.out;have d:=F.out;first|have _:=RZ;have B:((fU (l.take i)+1:Nat):Int)+(x.size:Int)=((fU (l.take (i+1))+1:Nat):Int):=by omega|have B:max ((fL (l.take i):Nat):Int) (x.depth:Int)=((fL (l.take (i+1)):Nat):Int):=by omega
    clear A;go_wp2;go_roundw
    .exact⟨i+1,by congr 1<;>omega,rfl,hil,H⟩
    .simp only[RowKit.intOf];omega
   .have dk:decide ((i:Int)<(l.length:Int))=false:=aJ a_;obtain rfl:i=l.length:=a_;rw[List.take_length];have hdl:fL l<=1099511627776:=bF (zU l) f;go_wp2;go_ret;exact⟨by rw[<-O.out];first | rfl | simp,q.out⟩):P:=h
theorem H7(h:P:=by
 first
 |have:=L3;subst hc34;clear g f TQ j
 |have:=L4;have aj:(cc==34)=false:=aI.2 hc34;have av:(cc==39)=true:=by rw[aj] at TQ;simpa using TQ
  clear g f TQ hc34
 |skip
 first
 |first|have:=L3|have:=L4
  go_wp2_with fail;(with_reducible refine(CQ.out _ (HV.out.keep c.out.1.b) (HT.out.keep c.out.1.b)).mono ?_);rintro e w3 ⟨rfl,B⟩;have d:=hid (aK (c.out.1.keep B) (c.out.2.keep B));clear B
 |have:=L5;rw[if_pos h35] at a;have O:=hid a;have t35:(cc==35)=true:=by rw[j,h35];rfl
  clear a j g f h35 V hUe;go_upto_region 14 with fail;go_cut [] (λwx=>Hid (cG w x y bG wx/\bL wx X ⟨2,x,y,n,0,0,x+n,x+n,x+n,y⟩))
  case first=>
   go_region
   all_goals go_wp2_with fail
   all_goals go_meet
   all_goals first
    | exact⟨(((c.out.1.set A 0 _).set A 8 _).set A 9 _).drew,fE (fE (fE c.out.2 0 _) 8 _) 9 _⟩
    | exact⟨(((c.out.1.set A 8 _).set A 9 _).set A 0 _).drew,fE (fE (fE c.out.2 8 _) 9 _) 0 _⟩
  have d:=hcut
 |skip
 first
 |first|have:=L5|have:=L3|have:=L4
  clear s0 s1 a0 a1 a2 a3 a4 a5 a6 a7 a8 a9 g0 g1 g2 g3 g4 g5 g6 g7 g8 g9 b0 b1 b2 b3 b4 b5 b6 b7 b8 b9 G r o m p E J I F K;obtain⟨s0,s1⟩:=d.out.1.s.cells;obtain⟨a0,a1,a2,a3,a4,a5,a6,a7,a8,a9,g0,g1,g2,g3,g4,g5,g6,g7,g8,g9⟩:=d.out.2.cells;obtain⟨b0,b1,b2,b3,b4,b5,b6,b7,b8,b9,G,r,o,m,p,E,J,I,F,K⟩:=d.out.1.l.cells
 |skip
 first
 |first|have:=L3|have:=L4
  go_wp2_with fail;obtain⟨W,C⟩:=exQ (dJ w3 (w.heap.size+1) bG);have L:=(cG.put (r2:=bG) d.out.1)
 |have:=L6;have he:(bs U).toList= []:=by rw[Lib.toList_data,aY,hUe]
  have he2:(bs U).toList.isEmpty=true:=by rw[he];rfl
  have O:Hid (gG U=some ⟨1,0,0,0,none⟩):=hid (by rw[hUe];rfl);clear V hUe
 |skip
 first
 |first|have:=L6|have:=L5
  go_wp2;go_region
 |skip
 first
 |have:=L5;obtain⟨W,C⟩:=exQ<|(dJ wc (w.heap.size+1) ⟨2,x,y,n,0,0,x+n,x+n,x+n,y⟩).drew
  have L:=(cG.put (r2:=⟨2,x,y,n,0,0,x+n,x+n,x+n,y⟩) d.out.1).drew
 |have:=L6;obtain⟨W,C⟩:=exQ<|(dJ wc (w.heap.size+1) ⟨1,x,y,n,0,0,x+n,x+n,0,0⟩).drew
  have L:=(cG.put (r2:=⟨1,x,y,n,0,0,x+n,x+n,0,0⟩) c.out.1).drew
 |skip
 rw[C] at L;have u:=hid L;clear L
 first
 |first|have:=L3|have:=L4
  dsimp only[dJ,bG] at C
 |dsimp only[dJ] at C
 rw[C];clear C;clear s0 s1 a0 a1 a2 a3 a4 a5 a6 a7 a8 a9 g0 g1 g2 g3 g4 g5 g6 g7 g8 g9 b0 b1 b2 b3 b4 b5 b6 b7 b8 b9 G r o m p E J I F K;obtain⟨c0,c1,c2,c3,c4,c5,c6,c7,c8,c9,_⟩:=u.out.l.cells;go_wp2_with fail
 first
 |first|have:=L3|have:=L4
  refine bodyPost_ret (v:= .tuple #[eL bG, .int .i64 ((x:Int)+(n:Int)),(2:Int)]) ?_ rfl ⟨?_,u.out.b⟩
 |have:=L5;refine bodyPost_ret (v:= .tuple #[eL ⟨2,x,y,n,0,0,x+n,x+n,x+n,y⟩,y,(0:Int)]) ?_ rfl ⟨?_,u.out.b⟩
 |refine bodyPost_ret (v:= .tuple #[eL ⟨1,x,y,n,0,0,x+n,x+n,0,0⟩,y,(0:Int)]) ?_ rfl ⟨?_,u.out.b⟩
 .exact EK
 first
 |first|have:=L3|have:=L4
  .rw[O.out];rfl
 |.rw[O.out]
   exact tS (by unfold pS;simp)):P:=h
theorem I1(h:P:=by
 first|have _:=M9;have q:Hid (((8:Int),(a:Int),ek,(0:Int))=R):=hid (by have:=i.out;rw[if_pos I9] at this;rw[<-this,s.out.1];unfold oZ;simp);subst he0;clear i y s K h34|have _:=NA;have q:Hid (((0:Int),ek,ek,ee)=R):=hid (by have:=i.out;rw[if_neg I9] at this;rw[<-this,s.out.1];unfold oZ;simp only[];rw[if_neg I9,<-s.out.2]);have te:(ee !=0)=true:=eN.2 he0;clear i y s K h34 he0|skip
 first
 |first|have _:=M9|have _:=NA
  go_wp2_with fail;(with_reducible refine(CE.out _ (HV.out.keep m.out.b) (HT.out.keep m.out.b)).mono ?_);rintro e w2 ⟨rfl,p⟩;have m:=hid (m.out.keep p);clear p0 q0 t0 t1 t2 f0 f1 f2 p
 |have hk5:=It c k hsg;have q:Hid (((2:Int)+(k:Int),(a:Int),(a:Int)+1,(0:Int))=R):=hid (by have:=HR.out;rw[hsg] at this;rw[<-this];unfold oZ;simp);rw[hsg] at CI;clear hsg HR y HB s
 first
 |first|have _:=NB|have _:=M9
  obtain⟨p0,q0,t0,t1,t2,f0,f1,f2⟩:=m.out.cells
 |skip
 first|have _:=NB;(with_reducible refine(CI.out _).mono ?_);rintro e w' ⟨rfl,rfl⟩|skip
 first
 |first|have _:=NB|have _:=M9
  go_wp2_with fail;clear t0 t1 t2 f0 f1 f2 q0;with_reducible refine(TK.out _ _ _ p0).mono ?_
 |go_wp2_with fail;with_reducible refine(TF.out _ _ _).mono ?_
 rintro e w3 ⟨rfl,p⟩;have m:=hid (m.out.keep p)
 first
 |first|have _:=NB|have _:=M9
  clear p0 p
 |clear p
 obtain⟨p0,q0,t0,t1,t2,f0,f1,f2⟩:=m.out.cells;go_wp2_with fail
 first
 |have _:=M9;have j:=hid (m.out.put (8) ((a:Int)) (ek));obtain⟨WF,f⟩:=exQ<|iI w3 (w.heap.size+1) (8) ((a:Int)) (ek)
 |have _:=NA;have j:=hid (m.out.put (0) (ek) (ek));obtain⟨WF,f⟩:=exQ<|iI w3 (w.heap.size+1) (0) (ek) (ek)
 |have j:=hid (m.out.put (2+(k:Int)) ((a:Int)) ((a:Int)+1));obtain⟨WF,f⟩:=exQ<|iI w3 (w.heap.size+1) (2+(k:Int)) ((a:Int)) ((a:Int)+1)
 rw[f] at j;dsimp only[iI] at f;rw[f]
 first
 |first|have _:=M9|have _:=NA
  clear f;clear p0 q0 t0 t1 t2 f0 f1 f2
 |clear f p0 q0 t0 t1 t2 f0 f1 f2
 obtain⟨c0,c1,c2,_⟩:=j.out.1.cells;first|have _:=M9;refine bodyPost_ret (v:= .tuple #[.agg #[(8:Int), .int .i64 ((a:Int)),(ek:Int)],(0:Int)]) ?_ rfl ⟨by rw[<-q.out];rfl,j.out.2⟩|have _:=NA;refine bodyPost_ret (v:= .tuple #[.agg #[(0:Int),(ek:Int),(ek:Int)],ee]) ?_ rfl ⟨by rw[<-q.out];rfl,j.out.2⟩|refine bodyPost_ret (v:= .tuple #[.agg #[.int .i64 (2+(k:Int)), .int .i64 ((a:Int)), .int .i64 ((a:Int)+1)],(0:Int)]) ?_ rfl ⟨by rw[<-q.out];rfl,j.out.2⟩
 exact ed):P:=h
theorem G0(h:P:=by
 have sl:=aP l;obtain⟨R,hR⟩:=exQ<|dA l;rw[hR];unfold dA at hR
 first|have:=J8;have HV:=hid hV;have HT:=hid hT;clear hV hT|skip
 cases l with
 | nil=>
  simp at hR;subst hR;have he:(bs ([]:aC)).toList= []:=DN
  have cr:(bs ([]:aC)).toList.isEmpty=true:=by rw[Lib.toList_data,aY];rfl
  exact DX
 | cons c r=>
  have h0:0<(bs (c::r)).size:=by rw[aP];simp
  have hne:(bs (c::r)).toList.isEmpty=false:=by rw[Lib.toList_data,aY];rfl
  have hne2: ¬(bs (c::r)).toList= []:=by rw[Lib.toList_data,aY];simp
  have ae:=iX (c::r) 34 34 rfl h0;have aa:=iX (c::r) 39 39 rfl h0;rw[List.head?_cons] at ae aa hR;have aN:(c::r).length=r.length+1:=rfl;obtain⟨L,hL⟩:=exQ<|c::r
  first|have:=J8;have CE:=hid (λw hV hT=>Io (c::r) 0 w hs hV hT);have CS:=hid (λw hT=>Lw (c::r) 0 w hs hT)|have CE:=hid (λw=>Mb (c::r) 0 w hs);have CS:=hid (λw=>No (c::r) 0 w hs)
  have eb:=Fe (c::r);have sb:=Fg (c::r);obtain⟨E,hE⟩:=exQ<|lF (c::r) 0;obtain⟨k1,e1⟩:=E;obtain⟨Q,hQ⟩:=exQ<|iJ (c::r) 0;obtain⟨q1,k2,e2⟩:=Q;rw[hE] at CE eb hR;rw[hQ] at CS sb hR;unfold iF at CS;simp only[] at CE CS eb sb hR;obtain⟨x,hx⟩: ∃x:Int,(((bs (c::r))[0]'h0).toNat:Int)=x:=⟨_,rfl⟩;rw[hx] at ae aa;clear hE hQ hL;by_cases g1:c=34
  .rw[if_pos (by rw[g1])] at hR;rw[show (some c==some 34)=true from by rw[g1];rfl] at ae;first|have:=J8;clear aa g1|rw[show (some c==some 39)=false from by rw[g1];rfl] at aa;clear g1
   by_cases ge:e1=0
   .rw[if_pos ge] at hR;obtain⟨n,rfl⟩: ∃n:Nat,k1=n:=⟨k1.toNat,a_⟩;rw[gA] at hR;subst hR ge;exact jx
   .rw[if_neg ge] at hR;subst hR;have te:(e1 !=0)=true:=eN.2 ge;clear ge;exact jx
  rw[if_neg (by simpa using g1)] at hR;rw[show (some c==some 34)=false from by rw[aI];simpa using g1] at ae;by_cases g2:c=39
  .rw[if_pos (by rw[g2])] at hR;rw[show (some c==some 39)=true from by rw[g2];rfl] at aa;clear g1 g2;by_cases ge:e2=0
   .rw[if_pos ge] at hR;obtain⟨n,rfl⟩: ∃n:Nat,k2=n:=⟨k2.toNat,a_⟩;rw[gA] at hR;subst hR ge;exact qa
   .rw[if_neg ge] at hR;subst hR;have te:(e2 !=0)=true:=eN.2 ge;clear ge;exact qa
  .rw[if_neg (by simpa using g2)] at hR;rw[show (some c==some 39)=false from by rw[aI];simpa using g2] at aa;subst hR;clear g1 g2;exact DX):P:=h
theorem GZ(h:P:=by
 subst hn;refine Jm hm (λL a w=>(a.defers=a0.defers/\a.tmps.size=a0.tmps.size/\ ∀k,k ∉ K->a.tmps.getD k undef=a0.tmps.getD k undef)/\F (λi=>L.getD i false) (λk=>a.tmps.getD k undef) w) ⟨⟨rfl,rfl,λk _=>rfl⟩,?_⟩ ?_ ?_
 .have:(λi=>(Array.replicate ops.size false).getD i false)=λ_=>false:=by
   funext i;rw[aN,Array.getElem?_replicate];split<;>rfl
  rw[this];exact h0
 .intro L a w i o A g m b D R M;obtain⟨⟨y,f,s⟩,C⟩:=D;have p:i<L.size:=by rw[A];exact(mK.1 g).1
  first
  |have _:=LP;have H:Region.wanted o (yielded ops a.tmps)=true:=by simp[Region.wanted,(Dt hback g).2]
   rw[if_pos H]
  |skip
  refine hs (λi=>L.getD i false) a w i o g ?_ b s C R λx w' I=>M _ _ ⟨⟨?_,?_,λk u=>?_⟩,?_⟩
  .rw[aN,Array.getElem?_eq_getElem p] at m ⊢;simpa using m
  .unfold Act.put;cases o.dst<;>exact y
  .unfold Act.put;cases o.dst
   .exact f
   .rw[Array.size_setIfInBounds];exact f
  .rw[<-s k u];have G:=congrFun (Ae a o.dst x (λt q=>by rw[f];exact(vX hdst g t q).2)) k;have e: ∀t,o.dst=t->cE (λk=>a.tmps.getD k undef) t x k=a.tmps.getD k undef:=λt q=>by
    cases t with
    | none=>rfl
    | some t=>exact if_neg (λh=>u (by rw[h];exact(vX hdst g t q).1))
   exact G.trans (e _ rfl)
  .rw[Jo L i p,Ae a o.dst x (λt q=>by rw[f];exact(vX hdst g t q).2)];exact I
 .intro L a w A D E;obtain⟨⟨y,f,s⟩,C⟩:=D;first|have _:=LP;have b:=Ud hback A E|have b:=Zu hback A E
  have r:(λi=>L.getD i false)=λi=>decide (i<ops.size):=by
   funext i;by_cases m:i<ops.size
   .rw[b i m,aQ m]
   .rw[aJ m,aN,Array.getElem?_eq_none a_];rfl
  rw[r] at C;have:=hd _ w C;have J:a= { a0 with tmps:=cU a0.tmps (λk=>a.tmps.getD k undef) K }:=by
   cases a with
   | mk tmps defers=>
    simp only at y f s ⊢;rw[y];congr 1;refine Array.ext_getElem? λj=>?_;by_cases hj:j<a0.tmps.size
    .rw[Du _ _ j hj];have c:tmps[j]?=some (tmps.getD j undef):=by rw[aN,Array.getElem?_eq_getElem a_];rfl
     split
     .exact c
     .rename_i u;rw[c,s j u,aN,Array.getElem?_eq_getElem hj];rfl
    .rw[Array.getElem?_eq_none a_,Array.getElem?_eq_none (by rw[Ad];omega)]
  rw[J];exact this):P:=h
theorem JE(h:P:=by
 first
 |have:=NY;have b:=hw.ls.2 k hk;unfold iB gC
 |have b:=hw.ls.2 k a_;have q:k<sp.length:=by have:=hw.ls.1;omega
  obtain⟨r1,r2⟩:=Br (s:=s) (aU st.lines k).ind q;unfold lK gC;obtain⟨c,f⟩:=exQ<|oH s sp (aU st.lines k).ind k;rw[f] at r1 r2 ⊢
 split
 .rename_i a e h;split at h
  .exact na
  .split at h
   .exact na
   .cases h
 .rename_i n s1 h;split at h
  .cases h
  .split at h
   .cases h
   .rename_i ht;injection h with p o;subst p o;simp only[]
    first
    |have:=NY;split
     .exact⟨b.rst.1,by have:=b.rst;omega,m_⟩
     .split
      .exact⟨b.rst.1,by have:=b.rst;omega,b_⟩
      .split
       .exact⟨b.rst.1,by have:=b.rst;omega,b_⟩
       .rename_i h3;have f:=Fq st.nodes ⟨1,(aU st.lines k).ind,k,k+1,kf,kt,(aU st.lines k).rf,(aU st.lines k).rt,[]⟩ [];have hsz:=zT (gQ (dQ s (aU st.lines k).rf (aU st.lines k).rt)).1;have j:=hw.tot;refine⟨rfl,⟨_,List.cons_ne_nil _ _,rfl⟩,⟨[],e_⟩,?_,?_,⟨hw.ls,?_⟩⟩
        .simp only[f];omega
        .simp only[f];exact hlk
        .simp only[aZ,dF];omega
    |have tk:=Mx hsp ((sp.drop (k+1)).take (c-(k+1))) st.lines hw.ls ⟨(sp.drop (k+1)).drop (c-(k+1)),by rw[<-hk,sS]⟩;have l:((sp.drop (k+1)).take (c-(k+1))).length=c-(k+1):=by rw[bR,bC];omega
     cases htk:lZ s ((sp.drop (k+1)).take (c-(k+1))) st.lines with
     | inr a=>rw[htk] at tk;exact⟨tk.1,tk.2,b_⟩
     | inl ls=>
      rw[htk] at tk;simp only[] at tk ⊢;obtain⟨t1,t2,m,t3⟩:=tk;rw[l] at t2;have g:=Fq st.nodes ⟨4,(aU st.lines k).ind,k,c,kf,kt,(aU st.lines k).rf,(aU st.lines k).rt,[]⟩ [];have j:=hw.tot;refine⟨rfl,⟨_,List.cons_ne_nil _ _,rfl⟩,⟨m,t3⟩,?_,?_,⟨t1,?_⟩⟩
      .simp only[g];omega
      .simp only[g];intro i p o;omega
      .simp only[aZ,dF];omega):P:=h
theorem ET(h:P:=by
 have dk:decide ((i:Int)<(mk:Int))=false:=aJ a_;obtain rfl:i=mk:=a_
 have ev:=HC.out;rw[<-kK.out.1,List.take_length] at ev;have eQ:=hid ev;clear ev;obtain⟨pa,ca,bu⟩:=eQ.out.keys.slice;obtain⟨po,co,gJ⟩:=eQ.out.its.slice;obtain⟨nk,cM⟩:=exQ<|(eB s d.nodes x.kind x.kids).length;obtain⟨ni,kr⟩:=exQ<|(x.kids.map (aX s d lv)).length;rw[cM] at bu;rw[kr] at gJ;subst bu gJ;have HP:Hid (jJ (VT.mk kd [] (eB s d.nodes x.kind x.kids) (x.kids.map (aX s d lv))) w (.returned (.agg #[kd,bs [], .slice pa nk ca, .slice po ni co])) (bD wr R kd [] (.slice pa nk ca) (.slice po ni co))):=hid (by refine⟨⟨_,_,rfl,?_⟩,rV (aE ax.out eQ.out.bel) a_⟩;exact(eQ.out.put (R:=R) j9).mono (λq Z _=>bF ax.out.size Z));have qL:Hid ((bD wr R kd [] (.slice pa nk ca) (.slice po ni co)).heap[R]?=some (.cells #[kd,bs [], .slice pa nk ca, .slice po ni co] 36)):=hid (rW hr);obtain⟨r0,r1,r2,r3,f0,f1,f2,f3⟩:=bK hr;obtain⟨y0,y1,y2,y3,_⟩:=eQ.out.cells;clear cM kr HC hr;go_wp2_with fail;obtain⟨WF,ja⟩:=exQ<|bD wr R kd [] (.slice pa nk ca) (.slice po ni co);rw[ja] at HP qL;have iS:(((wr.setCell ⟨R,0,none⟩ (.int .i64 kd)).setCell ⟨R,1,none⟩ (.string (bs []))).setCell ⟨R,2,none⟩ (.slice pa nk ca)).setCell ⟨R,3,none⟩ (.slice po ni co)=WF:=ja
 first
   | rw[iS]
   | (have zt:(((wr.setCell ⟨R,0,none⟩ (.int .i64 kd)).setCell ⟨R,1,none⟩ (.string ⟨#[]⟩)).setCell ⟨R,2,none⟩ (.slice pa nk ca)).setCell ⟨R,3,none⟩ (.slice po ni co)=WF:=ja
      rw[zt])
 clear ja iS r0 r1 r2 r3 f0 f1 f2 f3 y0 y1 y2 y3;obtain⟨d0,d1,d2,d3,_⟩:=bK qL.out;refine bodyPost_ret (v:= .agg #[kd,bs [], .slice pa nk ca, .slice po ni co]) ?_ rfl HP.out;first|have _:=QN;exact i8|exact i9):P:=h
theorem JG(h:P:=by
 first|have _:=N0;subst hfr|skip
 have g: ∀e∈eff,iR sl (cE v (some k) x) e=iR sl v e:=λe m=>uO hnd hk x (λe2=>hne (e2 ▸ m));have A: ∀e∈eff,bE d i e=d e:=λe m=>iQ (λe2=>hne (e2 ▸ m));have l:bE d i (eff.getLastD 0)=d (eff.getLastD 0):=A _ (Ju hel)
 first
 |have _:=N3;refine⟨λj u p f b=>?_,h.clo.step ho hall,λs=>h.st JN,λs t=>?_,?_⟩
  .by_cases hji:j=i
   .subst hji;rw[Dw hk];exact hx
   .rw[uO hnd hk x hji];rw[iQ hji] at b;exact h.cl j u p f b
  .rw[uO hnd hk x (Ne.symm hfr)];rw[iQ (Ne.symm hfr)] at t;exact h.fb JN t
 |refine⟨λj u p f b=>?_,h.clo.step ho hall,λs=>hS (h.st hdl),λs t=>by rw[Dw hk];exact hx,?_⟩
  .rw[uO hnd hk x f];rw[iQ f] at b;exact h.cl j u p f b
 .obtain⟨q,E,C,y⟩:=h.ph;refine⟨q,E,λj e m=>?_,?_⟩
  .rw[A e (bH m)];exact C j e m
  first
  |have _:=N3
   .rw[Ui g (uO hnd hk x (Ne.symm hfr))];exact y
  |.have F:qL eff sl i (cE v (some k) x) q=qL eff sl i v q:=by
     cases q with
     | zero=>rfl
     | succ q=>
      rw[xT,xT];cases m:eff[q]? with
      | none=>rfl
      | some e=>
       simp only[];cases hs:sl[e]? with
       | some z=>exact g e (bH m)
       | none=>
        have r:=iN.1 hsl e (bH m);rw[Bool.or_eq_true] at r;rcases r with r | r
        .exact FT
        .have r:=of_decide_eq_true r;rw[Jv] at hs;omega
    rw[F];exact hP _ _ y):P:=h
theorem IL(h:P:=by
 have W:=h.keep (W1.bel w P key);have CK:=hid (uQ _ P txt rest l nodes _ W a_);have CO:=hid (Ag (dY rest) (W1 w P key))
 first
 |first|have:=MP|have:=MQ
  obtain⟨q,hq⟩:=exQ<|eD (dY rest);rw[hq] at CO hk;have d0:((q:Int)==0)=false:=aI.2 a_
 |skip
 first|have:=MP;have d1:decide (32<lev)=true:=aQ hlev;have CF:=hid (qM _ P txt rest l nodes 5 _ W a_ a_)|have:=MQ;have d1:decide (32<lev)=false:=aJ a_;have CF:=hid (qM _ P txt rest l nodes 6 _ W a_ a_)|rw[hk] at CO;have CF:=hid (qM _ P txt rest l nodes 2 _ W a_ a_)
 have hX:=(mQ (W1.X w P key)).1;have HN:=hid (mP (h.nodesN.trans W.nodesN.symm));have HF:=hid (Fr.of_below (P:=P) (W1.bel w P key) hb.size)
 first
 |first|have:=MR|have:=MP
  clear h W hb
 |obtain⟨rv,z,nv,b1,_,b3,b4,_⟩:=W;obtain⟨p0,c0,rfl⟩:=b4.slice;have q4:=b1.cells.2.2.2.2.1;have hz:z.length=4096:=by rw[<-hm,<-b3,bP]
  rw[hz] at q4;clear h hb b1 b3 b4 hz hm
 go_in;go_upto_region 1 with fail;change Code.wp _ _ _ _ (W1 w P key);go_wp2_with fail;refine CK.out.mono ?_;rintro e w2 ⟨rfl,rfl⟩;go_wp2_with fail;refine CO.out.mono ?_;rintro e w2 ⟨rfl,rfl⟩;go_wp2_with fail;refine CF.out.mono ?_;rintro e w3 hE;have HE:=hid (VE.bad_of (txt:=txt) hE HN.out HF.out);obtain⟨rfl, -, -⟩:=hE;exact cy):P:=h
theorem I7(h:P:=by
 first|have:=NL;obtain⟨k,m⟩:=World.ownsRow.stored h.row (n*7+i) u|obtain⟨k,m⟩:=World.ownsRow.stored h.row (n*9+i) u
 obtain⟨g',cap',cur,e,_,_,b⟩:=h.form (λe=>by rw[e] at hy;simp at hy);have o:g=g':=by injection e with e;injection e with e;injection e
 subst o;first|have:=NL;rw[Aa z n y y' hy i u hi hu] at k|rw[iT,yI _ 9 Bn z n y y' hy i u hi hu] at k
 have f: ∀x∈z.set n y',x=y'\/x∈z:=λx c=>(List.mem_or_eq_of_mem_set c).symm;first|have:=NL;refine⟨by rw[List.length_set];exact k,λx c=>?_,λx c=>?_,?_,?_⟩|refine⟨by rw[List.length_set];exact k,λx c=>?_,?_⟩
 .rcases f x c with rfl | c
  .rw[hk,h1];have j:=h.kids y (bH hy);exact j.kept m (dG j b b_)
  .exact(h.kids x c).kept m (dG (h.kids x c) b b_)
 first
 |have:=NL
  .rcases f x c with rfl | c
   .rw[hp,h1];have j:=h.pcs y (bH hy);exact j.kept m (dG j b b_)
   .exact(h.pcs x c).kept m (dG (h.pcs x c) b b_)
 |skip
 .exact h.ak.set hy (.inl (by rw[h1]))
 first
 |have:=NL
  .exact h.ap.set hy (.inl (by rw[h1]))
 |skip):P:=h
theorem QG(h:P:=by
 have I:=lU.out
 first
 |have:=SW;rw[if_neg bc] at I;have cf:=hid I;rw[aJ bc] at CT;clear I bc
 |rw[if_pos bc] at I;have cf:=hid I;rw[aQ bc] at CT;obtain⟨cO,gK⟩:=za.out.hit bc;have yS:=hid (λw' hj=>Gt (Pr:=Pr) (w0:=w0) (P:=P) (txt:=txt) (sp:=sp) (st:=⟨ig,s4.nodes,s4.total⟩) (a0:=0) (e0:=0) k2 w' hj bc IX (za.out.ok.2 k2 a_) hs);obtain⟨bg,jX⟩:=exQ<|((lY sp k2).1:Int)+(aU ig k2).ind;simp only[jX] at yS cf;have CF:=hid (λa w' hj=>qV (Pr:=Pr) (w0:=w0) (P:=P) (txt:=txt) (sp:=sp) (st:=⟨ig,s4.nodes,s4.total⟩) (a0:=0) (e0:=0) a 2 w' hj);clear I bc cO gK jX
 go_wp2_with fail;refine aH (CT.out _ GM) λw6 bj=>?_;have dx:=hid (dA.out.keep E3);clear bj;first|have:=SX;go_wp2_with fail;refine aH (yS.out _ D7) λw7 dm=>?_;have fq:=hid (dx.out.keep EV);clear dm;go_wp2_with fail;refine aH (CF.out _ _ EA) λw8 dZ=>?_;have HF:=hid dZ.bad;clear dZ|skip
 go_wp2;go_ret;rw[<-cf.out];first|have:=SW;exact .inl ⟨rfl,rfl,_,dx.out⟩|exact .inr ⟨show (2:Int)≠0 by decide,rfl,HF.out⟩):P:=h
theorem P7(h:P:=by
 first|have _:=SH;obtain rfl:R=false:=l.trans (aJ (λh=>by have:=h.1;simp only[] at this;rw[hD] at this;cases this));have r:=hid (λw=>yS d w false hd hD);clear hD l|skip
 go_in;go_wp2_with fail;refine aH (CN.out _) λw1 b=>?_;obtain⟨A,y⟩:=vO b;go_wp2_with fail;refine aH (r.out _) λw2 q=>?_;have B:=hid ((((aD _ _).alloc (aF _) _).trans (b.mono e_)).trans (q.mono (by have:=b.size;simp at this;omega)));have hz1:w.heap.size<w1.heap.size:=by have:=b.size;simp at this;omega
 obtain⟨hc2,hf2⟩:=vO q;clear b q;go_wp2_with fail
 all_goals go_ret
 first
 |have _:=SH;all_goals exact⟨rfl,B.out⟩
 |all_goals refine⟨qH ?_,B.out⟩
  all_goals rw[v.out]
  all_goals first
   | (simp;omega)
   | (simp[c1];done)
   | (simp[c1];omega)
   | (rename_i h;simp[c1,h];done)
   | (rename_i h;simp[c1,h];omega)):P:=h
theorem tc(h:P:=by
 rcases y with⟨e1,rfl⟩ | ⟨e1,e2⟩
 .have C:=hid (f.out true ((D.out true true rfl rfl _ B).trans rfl));clear B;go_wp2;go_region
  all_goals go_wp2_with fail
  all_goals
   refine bodyPost_ret (v:= .tuple #[.agg #[ng,lo,Wh,bs rs,bs xf],true]) ?_ rfl ⟨⟨ng,lo,wh,rs,xf,true,by rw[O.out],?_⟩,?_⟩
   .exact cj
   .exact C.out
   .exact FP
 .have C:=hid (f.out b4 ((D.out true true rfl rfl _ B).trans e_));clear B;go_wp2;go_region
  all_goals go_wp2_with fail
  all_goals
   refine bodyPost_ret (v:= .tuple #[.agg #[ng,lo,Wh,bs rs,bs xf],b4]) ?_ rfl ⟨⟨ng,lo,wh,rs,xf,b4,by rw[O.out],?_⟩,?_⟩
   .exact cj
   .exact C.out
   .exact FP):P:=h
theorem IE(h:P:=by
 obtain⟨x,D⟩: ∃x,sp[k]?=some x:=⟨_,bI hk⟩;have j:=kO hkl;obtain⟨r,G⟩:=exQ<|aU st.lines k;rw[G] at j hok ⊢;rw[Bq D] at hok ⊢;obtain⟨h1,h2,h3⟩:=hok.ind;obtain⟨z,sv,lv,nv,I,s⟩:=h;obtain⟨gs,cs,rfl,_,s0,s1⟩:=s.spanAt D;obtain⟨gl,cl,e9,_,f⟩:=s.lineAt j;subst e9;obtain⟨⟨_,c1,c2,_⟩,_⟩:=s.cells;have g3:=f 3 _ a_ rfl;have C:=s.lt;have F:(0:Int)<=(k:Int):=a_
 have E:(k:Int)<(sp.length:Int):=a_
 obtain⟨n,H⟩:=exQ<|st.lines.length;rw[H] at c2 hkl;have hk2:(k:Int)<(n:Int):=a_
 obtain⟨S,M⟩:=exQ<|(x.1:Int)+r.ind;have hSw:IntKind.i64.wrap S=S:=by rw[IntKind.wrap_i64];omega
 have q:=hid (aD w.heap.size w);rw[M];clear s I f j G hok D H hk hkl h2;go_in;exact gy):P:=h
theorem QD(h:P:=by
 have b:=h.keep hb;refine⟨b.box,b.spr,b.lnr,b.nod,b.hB,b.ty,b.bel,λk o' c=>?_⟩
 first
 |have:=SR;by_cases hkX:k=X
 |rcases hp k o' c with f | ⟨hX,ho⟩
  .exact b.fr k o' f
 .first|have:=SR;subst hkX;rw[aO.put_eq] at c;obtain rfl:=bA c|skip
  have hP:=aG h.box;refine⟨ho,a_,λe=>?_,λe=>?_,λy d e=>?_⟩
  .have:=(World.ownsRow.lt h.lnr k e).2;omega
  .have:=(World.ownsRow.lt h.nod.row k e).2;omega
  .have:=(World.ownsRow.lt (h.nod.kids y d) k e).2;omega
 first
 |have:=SR
  .rw[aO.put_ne _ _ hkX] at c;exact b.fr k o' c
 |skip):P:=h
theorem P9(h:P:=by
 first|have:=SK;rw[if_pos (.inl h1)] at hg;have d1:decide ((nb:Int)<=ind)=true:=aQ h1;have dy:=hid hg;clear h1 hg|rw[if_pos (.inr h2)] at hg;have d2:decide ((nb:Int)<(first:Int))=true:=aQ a_;have AG:decide (nb<first)=true:=aQ h2;have dy:=hid hg;clear h1 h2 hg
 go_wp2_with fail;refine aH (CT.out _ f_) λw2 bS=>?_;have bh:=hid bS;clear bS;go_wp2_with fail;refine aH (CB.out _ bh.out) λw3 cj=>?_;have jq:=aE bh.out cj;obtain⟨c2,b3⟩:=zQ.out w3 jq;have ax:=hid (aE HB.out jq);clear cj jq;go_wp2;go_ret;rw[<-dy.out];exact⟨rfl,ax.out⟩):P:=h
theorem JF(h:P:=by
 first|have:=NZ;have C:=hid (f.out false ((D.out false _ rfl rfl _ rfl).trans e_))|have C:=hid (f.out false ((D.out true false rfl rfl _ rfl).trans e_));clear y B
 go_wp2_with fail;refine bodyPost_ret (v:= .tuple #[.agg #[ng,lo,Wh,bs rs,bs xf],false]) ?_ rfl ⟨⟨ng,lo,wh,rs,xf,false,by rw[O.out],?_⟩,?_⟩
 .exact cj
 .exact C.out
 .repeat (first | refine jA ?_ (aF _) | refine Below.drew ?_)
  first|have:=NZ;exact K.out|exact aa.out):P:=h
theorem IT(h:P:=by
 intro i j yi yj b e c;rw[List.getElem?_set] at e c;by_cases h1:n=i
 .subst h1;rw[if_pos rfl,if_pos (aW.1 hn).1] at e;obtain rfl:=bA e;rw[if_neg b] at c;rcases hb with hb | hb
  .rw[hb];exact h n j y yj b hn c
  .exact .inr (Ne.symm (hb j yj c))
 .rw[if_neg h1] at e;by_cases h2:n=j
  .subst h2;rw[if_pos rfl,if_pos (aW.1 hn).1] at c;obtain rfl:=bA c;rcases hb with hb | hb
   .rw[hb];exact h i n yi y b e hn
   .exact .inr (hb i yi e)
  .rw[if_neg h2] at c;exact h i j yi yj b e c):P:=h
theorem JP(h:P:=by
 first|have:=OF;have ap:((q:Int)==0)=false:=aI.2 (λe=>hbq ⟨.inl (by rw[hc34] at g;exact beq_iff_eq.1 g.symm),a_⟩);subst hc34|have ap:((q:Int)==0)=false:=aI.2 (λe=>hbq ⟨.inr (by rw[hc39] at f;exact beq_iff_eq.1 f.symm),a_⟩);subst hc39
 clear hbq g f j;go_wp2_with fail;(with_reducible refine(CQ.out _ (HV.out.keep c.out.1.b) (HT.out.keep c.out.1.b)).mono ?_);rintro e w3 ⟨rfl,B⟩;go_wp2;go_meet;exact⟨rfl,c.out.1.keep B,c.out.2.keep B⟩):P:=h
theorem pw(h:P:=by
 go_in;go_wp2_with (go_at_call 179;refine(CS.out _).mono ?_;rintro e w' ⟨rfl,rfl⟩);(with_reducible refine(CQ.out _ HV.out HT.out).mono ?_);rintro e w1 ⟨rfl,o⟩;have G:=hid o;clear o;go_wp2_with (go_at_call 179;refine(ak.out _).mono ?_;rintro e w' ⟨rfl,rfl⟩);go_ret2;exact bx):P:=h
theorem O2(h:P:=by
 go_in;go_wp2_with fail;refine aH (C1.out _ HV.out) λw1 o=>?_;have G:=hid o;clear o;go_wp2_with (go_at_call 117;refine(CP.out _).mono ?_;rintro e w' ⟨rfl,rfl⟩);refine aH (C2.out _ (HV.out.keep G.out)) λw2 J=>?_;go_wp2;go_ret2;exact⟨rfl,aE G.out J⟩):P:=h
theorem EB(h:P:=by
 obtain⟨q,m⟩:=aW.1 hi;obtain⟨r,p⟩:=aW.1 hj;have g:=List.pairwise_iff_getElem.1 h;rcases Nat.lt_trichotomy i j with c | f | b
 .exact absurd (m.trans p.symm) (g i j q r c)
 .exact f
 .exact absurd (p.trans m.symm) (g j i r q b)):P:=h
theorem E5(h:P:=by
 obtain⟨q,B,n,A⟩:=h.ph;have C: ¬j<q:=λg=>by rw[(n j e he).2 g] at hi;cases hi
 obtain rfl:j=q:=by
  cases j with
  | zero=>omega
  | succ j'=>
   have hj':=(aW.1 he).1;exact GG
 exact A):P:=h
theorem jx(h:P:=by
 go_in;go_wp2_with fail;first|have:=J8;with_reducible refine(CE.out _ HV.out HT.out).mono ?_|with_reducible refine(CE.out _).mono ?_
 rintro e w1 ⟨rfl,o⟩;go_wp2;go_ret;exact⟨rfl,o⟩):P:=h
theorem p7(h:P:=by
 go_wp2;go_roundw
 case rel=>exact⟨i+1,cX,rk,t_,a_,by first | exact fH | exact hid (fH.out.keep (aD _ _).drew)⟩
 case measure=>simp[RowKit.intOf];omega):P:=h
theorem kl(h:P:=by
 go_wp2_with fail;(with_reducible refine(CQ.out _).mono ?_);rintro e w3 ⟨rfl,ah⟩;go_wp2;go_meet;exact⟨rfl,HS.out.1.keep ah,HS.out.2.keep ah⟩):P:=h
theorem d_(h:P:=by first | first | exact F | exact F.1 | exact F.2 | exact F.2.1 | exact F.2.2 | exact F.2.2.1 | exact F.2.2.2 | (exact ha ⟨_,_⟩ (by simp) rfl)):P:=h
theorem qa(h:P:=by
 go_in;go_wp2_with fail;first|have:=J8;exact mh|(with_reducible refine(CS.out _).mono ?_);rintro e w1 ⟨rfl,rfl⟩;go_wp2;go_ret;exact ab):P:=h
theorem FK(h:P:=by
 refine⟨x,by rw[e1,nX,lR (aF _),Nat.sub_self];rfl,?_,?_⟩<;>
 .have:=congrArg List.length e1;simp only[aZ,bM] at this;omega):P:=h
theorem fj(h:P:=by
 go_in;go_upto_region 1 with fail;clear g f y z;go_wp2;go_ret;rw[<-h];exact⟨rfl,by first | exact l.out | exact l.out.drew⟩):P:=h
theorem ED(h:P:=by
 intro c b;simp only[pN,List.map_nil] at b;have:c=(128+r % 64).toNat.toUInt8:=by simpa using b.symm
 rw[this,f r a_];omega):P:=h
theorem la(h:P:=by
 first|have _:=QP;simp[results,results81,go_sem,d0,d1,d2,d3,vv]|simp[results,results59,go_sem,d0,d1,d2,d3,vv]):P:=h
theorem O9(h:P:=by
 rw[hg.block g (aG c) (λe=>by
  rcases dG f c b_ with q | q
  .rw[q] at e;cases e
  .exact q e.symm)]
 exact c):P:=h
theorem FL(h:P:=by
 refine⟨h.1,?_⟩;rcases h.2 with d | ⟨g,b,a,c,i,f⟩
 .exact .inl d
 .exact .inr ⟨g,b,a,c,bF hB i,f⟩):P:=h
theorem ma(h:P:=by
 cases h:l.drop a with
 | nil=>have:=congrArg List.length h;simp at this;omega
 | cons c r=>exact⟨c,r,rfl⟩):P:=h
theorem EG(h:P:=by
 go_simp;exact I _ _ (G.fe aj ha hi (λ_=>am.out _ (aE hA jz)) (λk c hp=>hp.keep jz) (oJ.new hA.size))):P:=h
theorem fs(h:P:=by
 go_in;go_wp2_with fail;refine C.out.mono ?_;rintro e w1 ⟨rfl,g,d⟩;go_wp2;go_ret;exact⟨rfl,g,d⟩):P:=h
theorem kw(h:P:=by
 go_wp2;go_roundw
 .exact⟨i1,by rw[<-bt],a_,a_,by rw[tw.out,tj,List.append_nil],ax⟩
 .exact aq):P:=h
theorem qe(h:P:=by
 go_in;go_wp2_with fail;refine(CM.out _).mono ?_;rintro e w' ⟨rfl,rfl⟩;go_wp2;go_ret2;exact ab):P:=h
theorem FW(h:P:=by
 go_wp2;go_meet;exact⟨W1.heap.size,rfl,co.out.z,co.out.keep (aL _ _),heap_alloc_new W1 _⟩):P:=h
theorem qg(h:P:=by
 exact I _ _ (G.ef 0 aj ha hi (.inl rfl) (λ_ _ _=>trivial) (λh=>absurd rfl h) ⟨rfl,hO⟩)):P:=h
theorem FE(h:P:=by
 refine eW w1 ⟨X,i,none⟩ u g (λe=>?_);have e2:g=X:=e;subst e2;rw[hXs] at c;exact qj):P:=h
theorem EQ(h:P:=by
 have zA:=G.g 1 57 c_;have rA:=G.g 2 58 c_;have AW:=G.g 3 59 c_;refine nO zA ?_;exact DW):P:=h
theorem nj(h:P:=by
 rw[List.getLastD_eq_getLast?,List.getLast?_eq_some_getLast h];exact List.getLast_mem h):P:=h
theorem PA(h:P:=by
 go_in;go_wp2_with fail;refine aH CC.out λw2 f=>?_;have F:=hid f;clear f CC;exact ev):P:=h
theorem FY(h:P:=by
 go_wp2;go_meet;exact⟨(HS.out.1.set hX 6 _).set hX 7 _,fE (fE HS.out.2 6 _) 7 _⟩):P:=h
theorem FZ(h:P:=by
 rw[bC] at this;have a:=(aW.1 h1).1;simp only[Int.toNat_zero] at this a ⊢;omega):P:=h
theorem oc(h:P:=by
 go_wp2;go_meet;exact⟨false,rfl,hid (λh=>by cases h),hid (λ_=>n.out),k⟩):P:=h
theorem iy(h:P:=by
 rw[rounds_succ];go_wp2_with fail;rw[rounds_succ];go_wp2_with fail;exact cb):P:=h
theorem oq(h:P:=by
 go_wp2;go_quiet (fail);go_wp2;go_ret2;exact⟨rfl,below_drewN aq.out _⟩):P:=h
theorem EJ(h:P:=by
 repeat (first | refine jA ?_ (aF _) | refine Below.drew ?_)
 exact k.out):P:=h
theorem gm(h:P:=by
 go_wp2;go_ret2;exact⟨rfl,by first | exact h.out | exact h.out.drew⟩):P:=h
theorem ol(h:P:=by
 exact(Below.heap_alloc _ _ w.heap.size e_).trans (heap_alloc_new w _)):P:=h
theorem F9(h:P:=by
 go_wp2;go_ret2;exact⟨Az (HR.out.symm.trans (Ay HG.out F)),ai.out⟩):P:=h
theorem EL(h:P:=by
 simp only[tH,Nat.add_assoc,Nat.reduceAdd] at this;rw[<-f];exact this):P:=h
theorem pg(h:P:=by
 have b:=h.box;refine⟨?_,?_⟩<;>simp[World.cell?,World.frozen?,b]):P:=h
theorem gr(h:P:=by
 injection hb with hb;injection hb with _ hb;exact absurd hb b_):P:=h
theorem pd(h:P:=by
 injection hq with hq;injection hq with _ hq;exact absurd hq b_):P:=h
theorem EO(h:P:=by
 simp[results,results88,go_sem,r0,r1,r2,eK,cM];try rfl):P:=h
theorem cg(h:P:=by
 injection h with h _;injection h with _ h;rw[<-h];decide):P:=h
theorem gy(h:P:=by
 go_wp2;go_region;go_wp2;go_ret;exact⟨rfl,q.out.drew⟩):P:=h
theorem EA(h:P:=by first | exact fq.out | exact fq.out.keep (aD _ _).drew):P:=h
theorem GH(h:P:=by first | exact hI.out | exact hI.out.keep (aD _ _).drew):P:=h
theorem GJ(h:P:=by first | exact fo.out | exact fo.out.keep (aD _ _).drew):P:=h
theorem ir(h:P:=by
 go_wp2_with fail;refine(CL.out _ g_).mono ?_;exact az):P:=h
theorem L_(h:P:=by rw[al];exact am.out 0 undef _ (by decide) (aD _ _)):P:=h
theorem ec(h:P:=by
 injection h with e1 e2;subst e1;intro x b;cases b):P:=h
theorem i9(h:P:=by
 simp[results,results13,go_sem,d0,d1,d2,d3]):P:=h
theorem M_(h:P:=by have h:=fl.out;have G:=iB.out;simp at h G;omega):P:=h
theorem ed(h:P:=by
 simp[results,results211,go_sem,c0,c1,c2]):P:=h
theorem p_(h:P:=by first | exact ag | exact aE (aD _ _).drew ag):P:=h
theorem D6(h:P:=by first | exact cG | exact aE (aD _ _).drew cG):P:=h
theorem FU(h:P:=by first | exact bS | exact aE (aD _ _).drew bS):P:=h
theorem G6(h:P:=by rcases HQ with h | ⟨_,h⟩<;>rw[h]<;>rfl):P:=h
theorem ja(h:P:=by
 rcases y with y | y
 all_goals exact du):P:=h
theorem H8(h:P:=by have:=Ke Q G;rw[HQ.out] at this;omega):P:=h
theorem IC(h:P:=by show w.heap.size<=w.heap.size+2;omega):P:=h
theorem om(h:P:=by
 first|have _:=QQ;exact ai|exact an):P:=h
theorem L'(h:P:=by rw[List.length_replicate];omega):P:=h
theorem j_(h:P:=by rw[al];exact am.out _ (aD _ _)):P:=h
theorem ai(h:P:=by
 exact⟨⟨_,rfl⟩,HF.out⟩):P:=h
theorem ae(h:P:=by
 injection h with h _;cases h):P:=h
theorem DZ(h:P:=by
 exact q.kept i (dG q b b_)):P:=h
theorem GX(h:P:=by simp only[];split<;>decide):P:=h
theorem I9(h:P:=by rw[<-s.out.2];exact he0):P:=h
theorem DN(h:P:=by rw[Lib.toList_data,aY]):P:=h
theorem al(h:P:=by
 simp[go_sem,e0,e1,e2]):P:=h
theorem bn(h:P:=by
 exact⟨_,cap,h1⟩):P:=h
theorem K'(h:P:=by simp only[bM];omega):P:=h
theorem G4(h:P:=by have:=dw.out;omega):P:=h
theorem JV(h:P:=by have:=af.out;omega):P:=h
theorem JA(h:P:=by simp at hk;omega):P:=h
theorem JH(h:P:=by simpa using h0):P:=h
theorem DQ(h:P:=by decide+kernel):P:=h
theorem DJ(h:P:=by rw[bC];omega):P:=h
theorem JQ(h:P:=by rw[b];omega):P:=h
theorem l_(h:P:=by simp[f]):P:=h
theorem JD(h:P:=by cases h):P:=h
theorem e_(h:P:=by simp):P:=h
end Go.Proofs.YtfhjncbdgjlcoaaGreatDoor
