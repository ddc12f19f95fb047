import Derived.Test.YtfhjncbdgjlcoaaGreatDoorYn0a
set_option maxRecDepth 100000
namespace Go.Proofs.YtfhjncbdgjlcoaaGreatDoor
variable{P:Prop}
theorem PH(h:P:=by
 first|have _:=QY;have HRd:=hid hRd;clear hRd|skip
 first
 |first|have _:=QQ|have _:=QY
  obtain⟨R,I⟩:=exQ<|iB txt lv k kf kt st;rw[I];unfold iB at I
 |have _:=Q0;obtain⟨R,I⟩:=exQ<|eM txt V true had k st
  rw[I];unfold eM at I;rw[if_pos rfl] at I
 |skip
 first
 |first|have _:=Q3|have _:=Q0
  have hkl:k<st.lines.length:=a_
 |skip
 first|have _:=Q3;have eY:=hid hk;obtain⟨i0,du,ds,ee,ei⟩:=info_parts infoLine;have Dt:=hid (aK du (aK ds (aK ee ei)))|skip
 first
 |first|have _:=Q4|have _:=Q3
  obtain⟨R,I⟩:=exQ<|lK txt sp lv k kf kt st;rw[I];unfold lK at I
 |skip
 first|have _:=Q3;clear hk du ds ee ei|skip
 first
 |first|have _:=QQ|have _:=QY|have _:=Q3|have _:=Q5|have _:=Q0
  have bO:=kO hkl
 |have bO:=kO (show k<st.lines.length by omega)
 obtain⟨r,hr⟩:=exQ<|aU st.lines k
 first
 |first|have _:=Q4|have _:=QQ|have _:=Q3
  rw[hr] at bO I
 |have _:=QY;rw[hr] at bO I ⊢
 |skip
 first
 |have _:=Q4;have fR:k<sp.length:=by have:=hw.ls.1;omega
  obtain⟨t1,t2⟩:=Br (s:=txt) r.ind fR
 |skip
 first
 |first|have _:=Q4|have _:=QQ|have _:=QY|have _:=Q3
  have hll:=hw.ls.1;have AU:=hw.tot
 |skip
 first
 |first|have _:=QQ|have _:=QY|have _:=Q3|have _:=Q5|have _:=Q0
  have fQ:=hw.ls.2 k hkl
 |skip
 first
 |first|have _:=QQ|have _:=QY|have _:=Q3
  rw[hr] at fQ
 |have _:=Q5;rw[hr] at bO fQ ⊢
 |have _:=Q0;rw[hr] at bO I fQ
 |skip
 first
 |first|have _:=Q5|have _:=Q0
  obtain⟨q1,q2,q3⟩:=fQ.key
 |skip
 first
 |have _:=Q5;obtain⟨kf,sn⟩: ∃n:Nat,r.kf=n:=⟨r.kf.toNat,a_⟩;obtain⟨kt,wp⟩: ∃n:Nat,r.kt=n:=⟨r.kt.toNat,a_⟩;obtain⟨sl,eb⟩:=exQ<|dQ txt r.kf r.kt;have kV:=tW txt r.kf r.kt;rw[eb] at kV ⊢;have i4:(bs txt).extract kf kt=bs sl:=by rw[<-eb,sn,wp,gO,aY];rfl
  have ny:(kf:Int)<=(kt:Int):=a_
  have cv:(kt:Int)<=(txt.length:Int):=a_
  have yn:=aP txt;rw[sn];obtain⟨⟨K,er⟩,jK⟩:=exQ<|jW sl;have CK:Hid (∀w',bV w'->Calls prog 33 #[bs sl] w' (aT w' (.tuple #[bs K, .int .i64 er]))):=hid (λw' hv=>by have:=HKy.out sl w' a_ hv;rw[jK] at this;exact this);rw[jK]
 |skip
 first
 |first|have _:=Q4|have _:=QQ|have _:=QY|have _:=Q3|have _:=Q5
  obtain⟨n,ep⟩:=exQ<|st.lines.length
 |skip
 first
 |first|have _:=Q4|have _:=QQ|have _:=QY|have _:=Q3
  have b1:=aL w (.cells #[kf,kt] 42);have eO:=heap_alloc_new w (.cells #[kf,kt] 42);have eC:=h.put b1 (aF _) eO;have fD: ∀q o,Pr q=some o->(Pr.put w.heap.size (.cells #[kf,kt] 42)) q=some o:=aO.put_less (λq o Z=>h.frLt q o Z) (aF _);obtain⟨X1,gy⟩:=exQ<|w.heap.size;obtain⟨W1,bp⟩:=exQ<|w.alloc (.cells #[kf,kt] 42);rw[bp] at eO eC;rw[gy] at eO eC fD;have b2:=aL W1 (.cells (lineA r) 68);have fE:=heap_alloc_new W1 (.cells (lineA r) 68);have dh:=eC.put b2 (aF _) fE;have jI: ∀q o,(Pr.put X1 (.cells #[kf,kt] 42)) q=some o->((Pr.put X1 (.cells #[kf,kt] 42)).put W1.heap.size (.cells (lineA r) 68)) q=some o:=aO.put_less (λq o Z=>eC.frLt q o Z) (aF _);have iR:(W1.alloc (.cells (lineA r) 68)).heap[X1]?=some (.cells #[kf,kt] 42):=(b2.block _ (aG eO)).trans eO;obtain⟨z,sv,lvv,nv,hz,hK⟩:=eC
 |have _:=Q5;obtain⟨ph,ch,rfl,pg⟩:=hh;have b2:=aL w (.cells (lineA r) 68);have fE:=heap_alloc_new w (.cells (lineA r) 68);have dh:=h.put b2 (aF _) fE;have av:=hid (aO.put_less (Pr:=Pr) (o:= .cells (lineA r) 68) (λq o Z=>h.frLt q o Z) (aF w.heap.size));have HH:Hid (∀w',aA w w'-> ∀j x,hm[j]?=some x-> ∃g,ph=some ⟨g,0,none⟩/\w'.cell? ⟨g,j,none⟩=some (.string (bs x))):=hid (λw' hb j x hj=>by obtain⟨g,h1,h2⟩:=pg j x hj;exact⟨g,h1,fM h2 hb⟩)
 |obtain⟨⟨key,ke⟩,kL⟩:=exQ<|jW (dQ txt r.kf r.kt)
  rw[kL] at I;simp only[] at I;have hkeyl:key.length<=262144:=by
   have h1:=aBP (dQ txt r.kf r.kt);have h2:=tW txt r.kf r.kt;rw[kL] at h1;simp only[] at h1;omega
  have iI:Hid (∀w',YJ YP Pr w0 P txt sp st 0 0 w'->Calls prog 107 #[some P, .agg #[r.kf,r.kt]] w' (aT w' (.string (bs (dQ txt r.kf r.kt))))):=hid (λw' hj=>Bs r.kf r.kt w' hj q1 q2 q3 a_);have C8:Hid (∀w',bV w'->Calls prog 48 #[bs (dQ txt r.kf r.kt)] w' (aT w' (.tuple #[bs key,ke]))):=hid (λw' hv=>by have:=Mj (dQ txt r.kf r.kt) w' (by have:=tW txt r.kf r.kt;omega) hv;rw[kL] at this;exact this);have hx:=mQ (h.at_ hX);have hy:=mQ (h.at_ hY);obtain⟨nX,ry⟩:=hx;obtain⟨ul,vR⟩:=hy;have ss:=hid (aK hX hY);have HJ:=hid h;have zo:=hid hm;have HR:=hid I;have HW:=hid hw;have HK:=hid hk
 first
 |first|have _:=Q5|have _:=Q0
  obtain⟨z,sv,lvv,nv,hz,hK⟩:=h
 |skip
 obtain⟨gl,cl,e9,_,L⟩:=hK.lineAt bO;subst e9
 first
 |first|have _:=Q4|have _:=QQ|have _:=QY|have _:=Q3|have _:=Q5
  obtain⟨⟨_,_,c2,_⟩,_⟩:=hK.cells;have hPl:=hK.lt;have g0:=L 0 _ a_ rfl;have g1:=L 1 _ a_ rfl;have g2:=L 2 _ a_ rfl;have g3:=L 3 _ a_ rfl;have g4:=L 4 _ a_ rfl;have g5:=L 5 _ a_ rfl;have g6:=L 6 _ a_ rfl;have g7:=L 7 _ a_ rfl;have g8:=L 8 _ a_ rfl;have g9:=L 9 _ a_ rfl;simp only[Nat.add_zero] at g0
 |have c2:=hK.cells.1.2.2.1;have hPl:=hK.lt;have g3:=L 4 _ a_ rfl;have g4:=L 5 _ a_ rfl;obtain⟨n,ep⟩:=exQ<|st.lines.length
 rw[ep] at c2;have gX:(0:Int)<=(k:Int):=a_
 have gm:(k:Int)<(n:Int):=a_
 first
 |first|have _:=Q4|have _:=QQ|have _:=QY|have _:=Q3
  obtain⟨X2,iQ⟩:=exQ<|W1.heap.size;obtain⟨W2,aw⟩:=exQ<|W1.alloc (.cells (lineA r) 68);rw[aw] at dh fE iR;rw[iQ] at dh fE jI
 |have _:=Q5;obtain⟨X2,iQ⟩:=exQ<|w.heap.size
  obtain⟨W2,aw⟩:=exQ<|w.alloc (.cells (lineA r) 68);have bh:Hid (aA w W2):=hid (by rw[<-aw];exact b2);rw[aw] at dh fE;rw[iQ] at dh fE av;have cp:=hid (aO.put_eq Pr X2 (.cells (lineA r) 68));obtain⟨ap,et⟩: ∃ap:aO,Pr.put X2 (.cells (lineA r) 68)=ap:=⟨_,rfl⟩;rw[et] at dh av cp
 |skip
 first
 |first|have _:=Q4|have _:=QQ|have _:=QY|have _:=Q3|have _:=Q5
  unfold lineA at aw
 |skip
 first
 |have _:=Q3;have fR:k<sp.length:=by have:=hw.ls.1;omega
  obtain⟨t1,t2⟩:=Br (s:=txt) r.ind fR;have HT:=hid (aK t1 t2);clear t1 t2
 |skip
 first
 |first|have _:=Q4|have _:=QQ|have _:=QY|have _:=Q3|have _:=Q5
  have cm:=hid dh
 |skip
 first
 |first|have _:=Q4|have _:=QQ|have _:=QY|have _:=Q3
  have ek:=hid (aK iR fE);have av:=hid (λq o Z=>jI q o (fD q o Z));have HR:=hid I;have HW:=hid hw;have dz:=hid hsp
 |skip
 first
 |first|have _:=QQ|have _:=QY|have _:=Q3
  have HK:=hid (aK hr bO)
 |have _:=Q4;have HK:=hid (aK hk (aK hr bO))
 |have _:=Q0;have b1:=aL w (.cells #[r.kf,r.kt] 42);have ro:=heap_alloc_new w (.cells #[r.kf,r.kt] 42);obtain⟨S,Ao⟩:=exQ<|w.heap.size;obtain⟨W1,bp⟩:=exQ<|w.alloc (.cells #[r.kf,r.kt] 42);rw[bp] at b1 ro;rw[Ao] at ro;have iy:=hid b1;have vT:=hid ro
 |skip
 first
 |first|have _:=Q4|have _:=QQ|have _:=QY|have _:=Q3|have _:=Q0
  have vj:=hid ep
 |skip
 first
 |first|have _:=QQ|have _:=QY|have _:=Q3
  clear hK hz L dh eO iR fE b1 b2 fD jI I hw hsp bO hr h
 |skip
 first
 |first|have _:=QQ|have _:=QY
  obtain⟨A,hA⟩:=exQ<|gC ⟨1,r.ind,k,k+1,kf,kt,r.rf,r.rt,[]⟩ lv r.rf st
 |skip
 first
 |first|have _:=QQ|have _:=QY|have _:=Q3
  obtain⟨k1,fx⟩:=exQ<|k+1;have gG:(k:Int)+1=(k1:Int):=a_
 |skip
 first
 |first|have _:=QQ|have _:=QY
  rw[fx] at hA
 |skip
 first
 |first|have _:=QQ|have _:=QY|have _:=Q3
  have dw:=hid fx
 |skip
 first
 |have _:=Q3;obtain⟨til,dv⟩:=exQ<|oH txt sp r.ind k
  have gA:=hid dv;obtain⟨A,hA⟩:=exQ<|gC ⟨4,r.ind,k,0,kf,kt,r.rf,r.rt,[]⟩ lv r.rf st
 |skip
 first
 |first|have _:=QQ|have _:=QY|have _:=Q3
  obtain⟨ap,et⟩: ∃ap:aO,((Pr.put X1 (.cells #[kf,kt] 42)).put X2 (.cells (lineA r) 68))=ap:=⟨_,rfl⟩;have cp:=hid (aO.put_eq (Pr.put X1 (.cells #[kf,kt] 42)) X2 (.cells (lineA r) 68));rw[et] at cp cm av
 |skip
 first
 |have _:=QQ;have CA:Hid (∀w',YJ YP ap w0 P txt sp st 0 0 w'->Calls prog 77 #[some P, .agg #[(1:Int),r.ind,k,k1,kf,kt,r.rf,r.rt,()],lev,r.rf] w' (fG YP ap w0 P txt sp A)):=hid (λw' hj=>by have:=Nn (Pr:=ap) ⟨1,r.ind,k,k1,kf,kt,r.rf,r.rt,[]⟩ lv lev r.rf w' hj rfl hl hlv a_;rw[hA] at this;exact this);have HA:=hid hA
 |have _:=QY;have CA:Hid (∀w',YJ YQ ap w0 P txt sp st 0 0 w'->Calls prog 38 #[some P, .agg #[(1:Int),r.ind,k,k1,kf,kt,r.rf,r.rt,()],lev,r.rf] w' (sH YQ ap w0 P txt sp A)):=hid (λw' hj=>by have:=Gd (Pr:=ap) ⟨1,r.ind,k,k1,kf,kt,r.rf,r.rt,[]⟩ lv lev r.rf w' hj rfl hl hlv a_;rw[hA] at this;exact this);have HA:=hid hA;have CF:=hid (fun(st':YS) (er:Int) w' hj=>tV (Pr:=ap) (w0:=w0) (P:=P) (txt:=txt) (sp:=sp) (st:=st') (a0:=0) (e0:=0) r.rf er w' hj)
 |have _:=Q3;have CA:Hid (∀w',YJ YQ ap w0 P txt sp st 0 0 w'->Calls prog 38 #[some P, .agg #[(4:Int),r.ind,k,(0:Int),kf,kt,r.rf,r.rt,()],lev,r.rf] w' (fG YQ ap w0 P txt sp A)):=hid (λw' hj=>by have:=aAw (Pr:=ap) ⟨4,r.ind,k,0,kf,kt,r.rf,r.rt,[]⟩ lv lev r.rf w' hj rfl hl hlv a_;rw[hA] at this;exact this);have HA:=hid hA
 |skip
 first
 |first|have _:=QQ|have _:=QY|have _:=Q3
  obtain⟨y0,y1⟩:=jY ek.out.1;have iY:bL W2 X2 r:=ek.out.2;obtain⟨l0,l1,l2,l3,l4,l5,l6,l7,l8,l9,_⟩:=iY.cells
 |skip
 first
 |first|have _:=QQ|have _:=QY
  clear hA et fx iY
 |have _:=Q3;clear hA et fx iY dv
 |have _:=Q4;have HT:=hid (aK t1 t2);clear hK hz L dh eO iR fE b1 b2 fD jI I hw hsp hk bO hr t1 t2 h
 |have _:=Q5;have uC:=hid (aK sn wp);clear hK hz L dh fE b2 bO hr pg fQ q1 q2 q3 sn wp eb kV jK et hw
 |clear hK hz L bO hr fQ kL I hw hk hm hX hY ep b1 ro q1 q2 q3
 go_in;go_upto_region 2 with fail
 first
 |first|have _:=Q4|have _:=QQ|have _:=QY|have _:=Q3
  clear bp gy aw iQ c2 g0 g1 g2 g3 g4 g5 g6 g7 g8 g9 hPl
 |have _:=Q5;clear aw iQ c2 g0 g1 g2 g3 g4 g5 g6 g7 g8 g9 hPl
 |skip
 first
 |first|have _:=Q4|have _:=Q5
  obtain⟨W0,al⟩:=exQ<|W2.drew
 |skip
 first
 |have _:=Q4;have mr:=cm.out.keep (aD _ W2).drew;rw[al] at mr;have qb:=hid mr;obtain⟨til,dv⟩:=exQ<|oH txt sp r.ind k;have gA:=hid dv;have xU:Hid (∀w',aA W0 w'->Calls prog 181 #[some P,k] w' (aT w' (.int .i64 (til:Int)))):=hid (λw' hb=>by have:=aAO k r.ind w' (qb.out.keep hb) (by have:=HK.out.1;omega) hll (by rw[HK.out.2.1]) dz.out hs hn;rw[dv] at this;exact this);obtain⟨nd,cS⟩: ∃nd:aV,(⟨4,r.ind,k,til,kf,kt,r.rf,r.rt,[]⟩:aV)=nd:=⟨_,rfl⟩;obtain⟨SA,ak⟩: ∃S:World->Prop,(λw'=>w'.cell? (X2,3)=some (.int .i64 r.ind)/\w'.cell? (X2,6)=some (.int .i64 r.rf)/\w'.cell? (X2,7)=some (.int .i64 r.rt)/\w'.cell? (X1,0)=some (.int .i64 kf)/\w'.cell? (X1,1)=some (.int .i64 kt))=S:=⟨_,rfl⟩;have am:Hid (∀w',aA W0 w'->SA w'):=hid (λw' hb=>by
   rw[<-ak];have Z:=qb.out.keep hb;have hl:bL w' X2 r:=Z.at_ (aO.put_eq _ _ _);have h1:w'.heap[X1]?=some (.cells #[kf,kt] 42):=by
    have e0:W2.heap[X1]?=_:=ek.out.1;have e1:W0.heap[X1]?=W2.heap[X1]?:=by rw[<-al];rfl
    exact(hb.block X1 (by rw[<-al];exact aG e0)).trans (e1.trans e0)
   obtain⟨_,_,_,b3,_,_,b6,b7,_⟩:=hl.cells;exact⟨b3,b6,b7,jY h1⟩)
  clear dv mr;subst cS;refine iV [22,23,24,25,26,27,28,29,30,31,11] [11] [11] 10 (oJ W0 45 (gD Oa)) 58 [(X2,3),r.ind,k,some P,k,til, .agg #[kf,kt],(X2,6), .agg #[r.rf,r.rt], .agg #[(4:Int),r.ind,k,til,kf,kt,r.rf,r.rt,()]] SA (vG W0 45 (gD ⟨4,r.ind,k,til,kf,kt,r.rf,r.rt,[]⟩)) [5,10,11,0,2,3,4,7,9,1,6,8] j_ i_ ?_ ?_
 |have _:=Q5;have cg:=cm.out.keep (aD _ W2).drew;rw[al] at cg;have bT:=hid cg;have rm:=hid (hV.keep cg.bel);have da:Hid (aA w W0):=hid (by rw[<-al];exact bh.out.drew);have iH:Hid (∀w',aA W0 w'->w'.cell? (P,0)=some (.string (bs txt))/\w'.cell? (X2,4)=some (.int .i64 (kf:Int))/\w'.cell? (X2,5)=some (.int .i64 (kt:Int))):=hid (λw' hb=>by have hj:=bT.out.keep hb;have cb:bL w' X2 r:=hj.at_ cp.out;obtain⟨_,_,_,_,b4,b5,_⟩:=cb.cells;rw[uC.out.1] at b4;rw[uC.out.2] at b5;obtain⟨z,sv,lvv,nv,hz,hK⟩:=hj;exact⟨hK.cells.1.1,b4,b5⟩);clear cg;refine mZ [20,21,22,23,24,25,26,27,28,29,30,31,19,32,33,9,10] 60 [some P,some P,some P,bs txt,(X2,4),(X2,4),kf,(X2,4),(X2,5),kt,bs sl, .tuple #[bs K, .int .i64 er], .tuple #[bs K, .int .i64 er],bs K, .int .i64 er,bs K, .int .i64 er] (λw'=>aA W0 w') [11,0,1,2,3,4,5,6,7,8,9,10,12,13,14,15,16] i_ ?_ ?_
 |skip
 first
 |first|have _:=Q4|have _:=Q5
  .intro d a w' iq o' hO ho hi F aa G R' I;first|have _:=Q4;have Z:=dW aa [(0,some P),(1,k),(7,some X1),(10,some X2)] rfl rfl;have hc:=G.all [(0,22),(1,23),(2,24),(3,25),(4,26),(5,27),(6,28),(7,29),(8,30),(9,31)] b_|have Z:=dW aa [(0,some P),(8,some X2)] rfl rfl;have hc:=G.all [(12,19),(0,20),(1,21),(2,22),(3,23),(4,24),(5,25),(6,26),(7,27),(8,28),(9,29),(10,30),(11,31),(13,32),(14,33)] b_
   dsimp only[dS,dM,lk] at Z hc;clear aa;first|have _:=Q4;have ha:=F;have aj:=ho|obtain⟨p0,b4,b5⟩:=iH.out _ G.st
   repeat' rcases hO with _ | ⟨_,hO⟩
   all_goals (simp only[cR,cP,bY,cC] at ho;subst ho;try simp[Region.binds] at F)
   first
   |have _:=Q4
    .have AK:=G.gg 3 25 c_;have c26:=G.gg 4 26 c_;have hA:aA W0 w':=G.at2 (j:=0) rfl (G.lastNot (f:=12) (i:=5) d' hi) (.inl rfl);go_simp;go_at_call 181;refine aH (xU.out _ hA) λw5 ag=>?_;exact me
    .have hA:aA W0 w':=G.at2 (j:=0) rfl (G.lastNot (f:=12) (i:=10) d' hi) (.inl rfl);have jz:=aL w' (.cells (gD Oa) 45);exact EG
    .have C3:=G.gg 9 31 c_;have ae:=G.at2 (j:=0) rfl hi (.inl rfl);obtain⟨Y,hY,cd,cx⟩:=G.fb hi c_;have hY:a.tmps.getD 11 undef= .pointer (some ⟨Y,0,none⟩):=hY;have c11:a.tmps[11]?.getD undef= .pointer (some ⟨Y,0,none⟩):=by rw[<-aN];exact hY
     obtain⟨z0,z1,z2,z3,z4,z5,z6,z7,z8,h0,h1,h2,h3,h4,h5,h6,h7,h8⟩:=Gh cx;have hA:aA W0 w':=ae;go_simp;exact I undef _ (G.ef 0 aj ha hi (.inl rfl) (λh=>absurd rfl h) (λh=>absurd rfl h) ⟨Y,hY,cd,aAP cx,aAQ hA cd⟩)
    iterate 6 (go_simp;exact I _ _ (G.pu aj ha))
    all_goals
     have ab:=G.ea hi;rw[<-ak] at ab;obtain⟨b3,b6,b7,y0,y1⟩:=ab;exact ah
   |.have c30:=G.g 10 30 c_
     refine jD ?_;go_simp;go_at_call 33;refine aH (CK.out _ (rm.out.keep G.st)) λw5 ag=>?_;exact df
    iterate 16 (refine jD ?_;go_simp;exact I _ _ G.sp)
 |skip
 first
 |have _:=Q4;intro v wz bf eg;obtain⟨Y,hY,cd,cx,dB⟩:=eg;have tO:v 11= .pointer (some ⟨Y,0,none⟩):=hY;simp only[cU,cY,cQ,cZ,tO];have bE:=qb.out.put dB cd cx;have bX:=hid (λq o Z=>aO.put_less (Pr:=(Pr.put X1 (.cells #[kf,kt] 42)).put X2 (.cells (lineA r) 68)) (o:= .cells (gD ⟨4,r.ind,k,til,kf,kt,r.rf,r.rt,[]⟩) 45) (λq o' Z=>qb.out.frLt q o' Z) cd q o (av.out q o Z));obtain⟨a7,dX⟩: ∃a7:aO,((Pr.put X1 (.cells #[kf,kt] 42)).put X2 (.cells (lineA r) 68)).put Y (.cells (gD ⟨4,r.ind,k,til,kf,kt,r.rf,r.rt,[]⟩) 45)=a7:=⟨_,rfl⟩;have r6:=hid (aO.put_eq ((Pr.put X1 (.cells #[kf,kt] 42)).put X2 (.cells (lineA r) 68)) Y (.cells (gD ⟨4,r.ind,k,til,kf,kt,r.rf,r.rt,[]⟩) 45));rw[dX] at bE bX r6;have gx:=hid bE;have cb:bL wz X2 r:=(qb.out.keep dB).at_ (aO.put_eq _ _ _);obtain⟨_,_,_,_,_,_,b6,_⟩:=cb.cells;obtain⟨z0,z1,z2,z3,z4,z5,z6,z7,z8⟩:=kD cx;obtain⟨A,hA⟩:=exQ<|gC ⟨4,r.ind,k,til,kf,kt,r.rf,r.rt,[]⟩ lv r.rf st;have CA:Hid (∀w',YJ YP a7 w0 P txt sp st 0 0 w'->Calls prog 77 #[some P, .agg #[(4:Int),r.ind,k,til,kf,kt,r.rf,r.rt,()],lev,r.rf] w' (fG YP a7 w0 P txt sp A)):=hid (λw' hj=>by have:=Nn (Pr:=a7) ⟨4,r.ind,k,til,kf,kt,r.rf,r.rt,[]⟩ lv lev r.rf w' hj rfl hl hlv a_;rw[hA] at this;exact this);have HA:=hid hA;clear hA bE dX bf hY cd cx dB tO am ak xU cb
 |skip
 first
 |first|have _:=Q4|have _:=QQ|have _:=QY
  cases A with
  | bad a e=>
   have I:=HR.out
   first
   |first|have _:=QQ|have _:=QY
    rw[dw.out,HA.out] at I
   |rw[gA.out,HA.out] at I
   have bw:Hid (YR.bad a e=R):=hid I;clear I;go_wp2_with fail;first|have _:=QQ;refine(CA.out _ k_).mono ?_|have _:=Q4;refine(CA.out _ GI).mono ?_|skip
   first
   |first|have _:=Q4|have _:=QQ
    rintro e w4 ⟨⟨m,rfl⟩,ar⟩
   |refine aH (CA.out _ k_) λw4 ar=>?_
   first
   |first|have _:=QQ|have _:=QY
    have HF:=hid (ar.less av.out)
   |have HF:=hid (ar.less bX.out)
   clear ar;go_wp2
   first
   |first|have _:=QQ|have _:=QY
    go_ret2;rw[<-bw.out]
   |skip
   first
   |have _:=QQ;exact ai
   |have _:=QY;exact an
   |go_loopw [13] (λgp wr=>gp= .bool false/\w4=wr) (λ_ _=>0)
    case atStart=>exact⟨rfl,rfl⟩
    case round=>
     obtain⟨rfl,rfl⟩:=hrel;go_wp2;go_ret2;rw[<-bw.out];exact ai
  | ok nn s1=>
   first
   |first|have _:=QQ|have _:=QY
    obtain⟨e1,e2,kn,oP⟩:=mC HA.out
   |obtain⟨e1,e2,_,oP⟩:=mC HA.out
   subst e2;have I:=HR.out
   first
   |first|have _:=QQ|have _:=QY
    rw[dw.out,HA.out] at I
   |rw[gA.out,HA.out] at I
   simp only[] at I
   first
   |first|have _:=QQ|have _:=QY
    obtain⟨ns,hns⟩:=exQ<|st.nodes++ [⟨1,r.ind,k,k1,kf,kt,r.rf,r.rt,[]⟩];rw[hns] at I CA;obtain⟨tot,kb⟩:=exQ<|st.total+1;rw[kb] at I CA;have htot4:tot<=4096:=a_;obtain⟨⟨T,er⟩,hT⟩:=exQ<|gQ (dQ txt r.rf r.rt);rw[hT] at I;simp only[] at I;have iN:=Oi (dQ txt r.rf r.rt) (bF (tW _ _ _) hs);rw[hT] at iN;simp only[] at iN;have kA:=xQ T;have hsp1:=zT T;have hdz:=Dr T;have ij:=hid I
   |skip
   first|have _:=QQ;have sA:Hid (∀w',bV w'->Calls prog 47 #[bs (dQ txt r.rf r.rt)] w' (pW T er w')):=hid (λw' hv=>by have:=Mk (dQ txt r.rf r.rt) w' (by have:=tW txt r.rf r.rt;omega) hv;rw[hT] at this;exact this)|have _:=QY;have mU:=HRd.out (dQ txt r.rf r.rt);rw[hT] at mU|skip
   first
   |first|have _:=QQ|have _:=QY
    obtain⟨q1,q2,q3⟩:=fQ.rst
   |skip
   first
   |have _:=QQ;have iI:Hid (∀w',YJ YP ap w0 P txt sp ⟨st.lines,ns,tot⟩ 0 0 w'->Calls prog 107 #[some P, .agg #[r.rf,r.rt]] w' (aT w' (.string (bs (dQ txt r.rf r.rt))))):=hid (λw' hj=>Bs r.rf r.rt w' hj q1 q2 q3 a_);have ou:=hid e1;clear I hT e1 hns kb q1 q2 q3
   |have _:=QY;have kV:=tW txt r.rf r.rt;obtain⟨sl,eb⟩:=exQ<|dQ txt r.rf r.rt;rw[eb] at mU kV;have sA:Hid (∀w',bV w'->Calls prog 31 #[bs sl] w' (pW T er w')):=hid (λw' hv=>mU w' a_ hv);obtain⟨rf,k5⟩: ∃n:Nat,r.rf=n:=⟨r.rf.toNat,a_⟩;obtain⟨rt,mE⟩: ∃n:Nat,r.rt=n:=⟨r.rt.toNat,a_⟩;have i4:(bs txt).extract rf rt=bs sl:=by rw[<-eb,k5,mE,gO,aY];rfl
    have ny:(rf:Int)<=(rt:Int):=a_;have cv:(rt:Int)<=(txt.length:Int):=a_;have yn:=aP txt;have uw:=hid (aK k5 mE);have ou:=hid e1;clear I hT e1 hns kb q1 q2 q3 mU HRd eb kV k5 mE
   |skip
   first
   |first|have _:=QQ|have _:=QY
    go_wp2_with fail;refine aH (CA.out _ k_) λw4 fg=>?_;have cc:=hid fg
   |skip
   first
   |have _:=QQ;have cb:bL w4 X2 r:=fg.at_ cp.out;obtain⟨l0,l1,l2,l3,l4,l5,l6,l7,l8,l9,_⟩:=cb.cells;clear fg cb y0 y1;go_wp2_with fail;refine aH (iI.out _ g_) λw5 ag=>?_;have dA:=hid (cc.out.keep ag);clear ag l0 l1 l2 l3 l4 l5 l6 l7 l8 l9;go_wp2_with fail;refine(sA.out _ (hV.keep dA.out.bel)).mono ?_;rintro e w6 ⟨⟨kv,iv,rfl,iJ⟩,bj⟩;have dx:=hid (dA.out.keep bj);obtain⟨pk,ck,pi,ci,rfl,rfl⟩:=iJ.toVD.form;obtain⟨V,jQ⟩:=exQ<|w6.heap.size;have b7:=aL w6 (.cells #[T.kind,bs T.text, .slice pk T.keys.length ck, .slice pi T.items.length ci] 36);have rP:=heap_alloc_new w6 (.cells #[T.kind,bs T.text, .slice pk T.keys.length ck, .slice pi T.items.length ci] 36);obtain⟨W7,jH⟩:=exQ<|w6.alloc (.cells #[T.kind,bs T.text, .slice pk T.keys.length ck, .slice pi T.items.length ci] 36);rw[jH] at b7 rP;rw[jQ] at rP;have fq:=hid (dx.out.keep b7);have qf:=hid rP;have nK:=hid (iJ.keep b7);have BI:=hid dA.out.lt;unfold vv;clear bj b7 rP iJ
   |have _:=QY;clear fg y0 y1 l0 l1 l2 l3 l4 l5 l6 l7 l8 l9;go_upto_region 5 with fail;obtain⟨W0,al⟩:=exQ<|w4.drew;have cg:=cc.out.keep (aD _ w4).drew;rw[al] at cg;have bT:=hid cg;have rm:=hid (hV.keep cg.bel);obtain⟨SA,ak⟩: ∃S:World->Prop,(λw'=>w'.cell? (P,0)=some (.string (bs txt))/\w'.cell? (X2,6)=some (.int .i64 (rf:Int))/\w'.cell? (X2,7)=some (.int .i64 (rt:Int)))=S:=⟨_,rfl⟩;have am:Hid (∀w',aA W0 w'->SA w'):=hid (λw' hb=>by rw[<-ak];have hj:=bT.out.keep hb;have cb:bL w' X2 r:=hj.at_ cp.out;obtain⟨_,_,_,_,_,_,b6,b7,_⟩:=cb.cells;rw[uw.out.1] at b6;rw[uw.out.2] at b7;obtain⟨z,sv,lvv,nv,hz,hK⟩:=hj;exact⟨hK.cells.1.1,b6,b7⟩);clear cg;refine rgX 11 [43,44,45,46,47,48,49,50,51,52,53,54,42,55,56,15,16] [16] [16] 15 (tX W0 T) 98 (λq=> [some P,some P,some P,bs txt,(X2,6),(X2,6),rf,(X2,6),(X2,7),rt,bs sl, .tuple #[.agg #[T.kind,bs T.text, .slice (o1 q) T.keys.length (o2 q), .slice (o3 q) T.items.length (o4 q)], .int .i64 er], .tuple #[.agg #[T.kind,bs T.text, .slice (o1 q) T.keys.length (o2 q), .slice (o3 q) T.items.length (o4 q)], .int .i64 er], .agg #[T.kind,bs T.text, .slice (o1 q) T.keys.length (o2 q), .slice (o3 q) T.items.length (o4 q)], .int .i64 er,undef,undef, .int .i64 er]) (λ_=>SA) (oL W0 T) [15,16,0,1,2,4,5,7,8,10,12,13,14,17,3,6,9] j_ i_ ?_ ?_ ?_
    .intro d a w' o' ho hi F aa G R' I;have aj:=ho;have ha:=F;simp only[cR,cP,bY,cC] at ho;subst ho;simp[Region.binds] at F;have sQ:=G.gg 10 53 c_;have hA:aA W0 w':=G.at2 (j:=0) rfl (G.ln hi) (.inl rfl);go_simp;go_at_call 31;refine(sA.out w' (rm.out.keep hA)).mono ?_;rintro e w5 ⟨⟨kv,iv,rfl,d9⟩,ag⟩;obtain⟨pk,ck,pi,ci,rfl,rfl⟩:=d9.form;exact I (pk,ck,pi,ci) _ _ (G.sw [11,12,13,14,17] aj ha hi (λ_=>am.out _ (aE hA ag)) (λk c hk _=>by obtain rfl:k=0:=JA;exact⟨aE hA ag,d9.mono (λz hz _=>bF hA.size hz)⟩) (λx hx=>tX.call hx d9 ag))
    .intro q d a w' iq o' hO ho hi F aa G R' I;have Z:=dW aa [(0,some P),(12,some X2)] rfl rfl;have hc:=G.all [(12,42),(0,43),(1,44),(2,45),(3,46),(4,47),(5,48),(6,49),(7,50),(8,51),(9,52),(11,54),(13,55),(14,56)] b_;dsimp only[dS,dM,lk] at Z hc;clear aa;have ha:=F;have aj:=ho
     repeat' rcases hO with _ | ⟨_,hO⟩
     all_goals (simp only[cR,cP,bY,cC] at ho;subst ho;try simp[Region.binds] at F)
     .have jz:=aL w' (.cells #[(0:Int), .string ⟨#[]⟩,(),()] 36);have ae:=G.at2 (j:=0) rfl (G.ln hi) (.inl rfl);go_simp;exact I _ _ (G.fe aj ha hi (λ_=>am.out _ (aE (oL.bel ae) jz)) (λk c hp=>oL.keep hp jz) (tX.new ae))
     .have xD:=G.gg 13 55 c_;have ae:=G.at2 (j:=0) rfl hi (.inl rfl);obtain⟨Y,hY,cd,cx,Df⟩:=G.fb hi c_;have hY:a.tmps.getD 15 undef= .pointer (some ⟨Y,0,none⟩):=hY;have c15:a.tmps[15]?.getD undef= .pointer (some ⟨Y,0,none⟩):=by rw[<-aN];exact hY
      obtain⟨y0,y1,y2,y3,z0,z1,z2,z3⟩:=bK cx;go_simp;exact I undef _ (G.ef 0 aj ha hi (.inl rfl) (λh=>absurd rfl h) (λh=>absurd rfl h) (oL.put ae hY cd cx Df))
     iterate 12 (go_simp;exact I _ _ (G.pu aj ha))
     all_goals
      have ab:=G.ea hi;rw[<-ak] at ab;obtain⟨p0,b6,b7⟩:=ab;exact ah
    intro p v wz bf eg;obtain⟨V,hY,cd,cx,dB,sm⟩:=eg;obtain⟨pk,ck,pi,ci⟩:=p;unfold vK vL at cx sm;simp only[] at cx sm;have tL:v 15= .pointer (some ⟨V,0,none⟩):=hY;have tI:v 16= .int .i64 er:=bf 17 b_ b_ b_ b_;simp only[cU,cY,cQ,cZ,tL,tI];have fq:=hid (bT.out.keep dB);have qf:=hid cx;have nK:=hid sm;have cb:bL wz X2 r:=fq.out.at_ cp.out;obtain⟨_,_,_,_,_,_,l6,_⟩:=cb.cells;obtain⟨y0,y1,y2,y3,_⟩:=bK cx;clear bf hY cd cx dB sm tL tI am ak sA cb al cc bT rm
   |skip
   first
   |first|have _:=QQ|have _:=QY
    by_cases h0:er=0;rotate_left
    .have I:=ij.out;rw[if_pos h0] at I;have jZ:Hid (YR.bad r.rf er=R):=hid I;have d0:(er !=0)=true:=JH
     first|have _:=QQ;have CF:=hid (λw' hj=>qV (Pr:=ap) (w0:=w0) (P:=P) (txt:=txt) (sp:=sp) (st:=⟨st.lines,ns,tot⟩) (a0:=0) (e0:=0) r.rf er w' hj)|skip
     clear I h0;go_wp2_with fail;first|have _:=QQ;refine aH (CF.out _ EA) λw8 dZ=>?_|refine aH (CF.out ⟨st.lines,ns,tot⟩ er _ EA) λw8 dZ=>?_
     have HF:=hid (dZ.less av.out).bad;clear dZ;go_wp2;go_ret2;rw[<-jZ.out];exact om
    subst h0;have I:=ij.out;rw[if_neg e_] at I
   |skip
   first
   |have _:=QQ;have jZ:=hid I;obtain⟨s1,uq⟩:=exQ<|T.size-1;have qx:(T.size:Int)-1=(s1:Int):=a_;have xv:IntKind.i64.wrap ((T.size:Int)-1)=(s1:Int):=by rw[qx,IntKind.wrap_i64];omega
   |have _:=QY;have ti:=hid nK.out.toVD;have ku:Hid (∀w',aA wz w'->Calls prog 68 #[.agg #[T.kind,bs T.text, .slice pk T.keys.length ck, .slice pi T.items.length ci]] w' (aT w' (.int .i64 (T.depth:Int)))):=hid (λw' hb=>Ow _ T (.slice pk T.keys.length ck) (.slice pi T.items.length ci) w' (ti.out.keep hb) iN);have hlev:=hl.out;obtain⟨dp,kQ⟩:=exQ<|T.depth;rw[kQ] at I ku;obtain⟨ld,Cg⟩:=exQ<|lev+(dp:Int);have xw:IntKind.i64.wrap ld=ld:=by rw[IntKind.wrap_i64];omega
    obtain⟨l1,fD⟩:=exQ<|ld-1;have yx:IntKind.i64.wrap l1=l1:=by rw[IntKind.wrap_i64];omega
    by_cases hd:lv<dp
    .rw[if_pos hd] at I;have ml:Hid (YR.bad r.rf 5=R):=hid I;have d1:decide ((32:Int)<l1)=true:=aQ a_;clear I hd hlev kQ;go_wp2_with fail;refine aH (ku.out _ f_) λw9 cG=>?_;have tD:aA wz w9:=D6
     have fk:=hid (fq.out.keep tD);have cb:bL w9 X2 r:=fk.out.at_ cp.out;obtain⟨_,_,_,_,_,_,l6',_⟩:=cb.cells;clear cG tD cb l6 y0 y1 y2 y3;go_wp2_with fail;refine aH (CF.out ⟨st.lines,ns,tot⟩ 5 _ C_) λvq gV=>?_;have HF:=hid (gV.less av.out).bad;clear gV;go_wp2;go_ret2;rw[<-ml.out];exact an
    rw[if_neg hd] at I;have d1:decide ((32:Int)<l1)=false:=aJ a_;obtain⟨s1,uq⟩:=exQ<|tot+T.size;have qx:(tot:Int)+(T.size:Int)=(s1:Int):=a_;have xv:IntKind.i64.wrap ((tot:Int)+(T.size:Int))=(s1:Int):=by rw[qx,IntKind.wrap_i64];omega
   |skip
   first
   |first|have _:=QQ|have _:=QY
    have hs1x:IntKind.i64.wrap (s1:Int)=(s1:Int):=by rw[IntKind.wrap_i64];omega
   |skip
   first
   |have _:=QQ;obtain⟨t2,ks⟩:=exQ<|tot+s1
    have oS:(tot:Int)+(s1:Int)=(t2:Int):=a_;have Ap:IntKind.i64.wrap ((tot:Int)+(s1:Int))=(t2:Int):=by rw[oS,IntKind.wrap_i64];omega
   |have _:=QY;obtain⟨t2,ks⟩:=exQ<|tot+T.size-1
    have oS:(s1:Int)-1=(t2:Int):=a_;have Ap:IntKind.i64.wrap ((s1:Int)-1)=(t2:Int):=by rw[oS,IntKind.wrap_i64];omega
   |skip
   first
   |first|have _:=QQ|have _:=QY
    have ht2x:IntKind.i64.wrap (t2:Int)=(t2:Int):=by rw[IntKind.wrap_i64];omega
   |skip
   first|have _:=QQ;have oh:Hid (tot+T.size-1=t2):=hid a_|skip
   first
   |first|have _:=QQ|have _:=QY
    have ht2b:t2<=1099511631872:=a_
   |skip
   first
   |have _:=QQ;clear I uq ks;obtain⟨W3,a6⟩:=exQ<|W7.drew;have jb:aA W7 W3:=by rw[<-a6];exact(aD _ _).drew
   |have _:=QY;rw[ks] at I;have jZ:=hid I;clear I uq ks hd hlev kQ;go_wp2_with fail;refine aH (ku.out _ f_) λw9 cG=>?_;have Ck:Hid (aA wz w9):=hid D6;clear cG;go_upto_region 10 with fail;obtain⟨W3,a6⟩:=exQ<|w9.drew;have jb:aA wz W3:=by rw[<-a6];exact Ck.out.drew
   |skip
   first
   |first|have _:=QQ|have _:=QY
    have ex:=hid (fq.out.keep jb);have qq:=hid ((jb.block _ (aG qf.out)).trans qf.out)
   |skip
   first
   |have _:=QQ;have ta:=hid (nK.out.keep jb);have oD:=hid (ta.out.toVD);have rK:Hid (∀w',aA W3 w'->Calls prog 108 #[.agg #[T.kind,bs T.text, .slice pk T.keys.length ck, .slice pi T.items.length ci]] w' (aT w' (.int .i64 (T.size:Int)))):=hid (λw' hb=>Tx _ T (.slice pk T.keys.length ck) (.slice pi T.items.length ci) w' (oD.out.keep hb) iN)
   |have _:=QY;have oD:=hid (ti.out.keep jb);have rK:Hid (∀w',aA W3 w'->Calls prog 69 #[.agg #[T.kind,bs T.text, .slice pk T.keys.length ck, .slice pi T.items.length ci]] w' (aT w' (.int .i64 (T.size:Int)))):=hid (λw' hb=>Ov _ T (.slice pk T.keys.length ck) (.slice pi T.items.length ci) w' (oD.out.keep hb) iN)
   |skip
   first
   |first|have _:=QQ|have _:=QY
    obtain⟨SA,ak⟩: ∃S:World->Prop,(λw'=>(w'.cell? (P,4)=some (.int .i64 (tot:Int))/\w'.frozen? ⟨P,4,none⟩=false)/\w'.cell? (V,0)=some (.int .i64 T.kind)/\w'.cell? (V,1)=some (.string (bs T.text))/\w'.cell? (V,2)=some (.slice pk T.keys.length ck)/\w'.cell? (V,3)=some (.slice pi T.items.length ci))=S:=⟨_,rfl⟩;have am:Hid (∀w',aA W3 w'->SA w'):=hid (λw' hb=>by rw[<-ak];obtain⟨z,sv,lvv,nv,hz,hK⟩:=ex.out.keep hb;obtain⟨⟨_,_,_,_,c4,_⟩,_,_,f4,_⟩:=hK.cells;have hv:=(hb.block _ (aG qq.out)).trans qq.out;obtain⟨y0,y1,y2,y3,_⟩:=bK hv;exact⟨⟨c4,f4⟩,y0,y1,y2,y3⟩)
   |skip
   first
   |have _:=QQ;clear jb;go_upto_region 9 with fail;clear jH jQ;refine iV [58,59,60,61,62,63,64,65,66,67] [10] [10] 1000000 (λ_ _=>True) 88 [some P,some P,(P,4),tot, .agg #[T.kind,bs T.text, .slice pk T.keys.length ck, .slice pi T.items.length ci],T.size,s1,t2,some P,(P,4)] SA (vH W3 P t2) [5,10,0,1,2,6,7,8,9,3,4] (by rw[a6];exact am.out _ (aD _ _)) u' ?_ ?_
   |have _:=QY;clear jb l6 y0 y1 y2 y3 ku;refine iV [76,77,78,79,80,81,82,83,84,85,86] [11] [11] 1000000 (λ_ _=>True) 98 [some P,some P,some P,(P,4),tot, .agg #[T.kind,bs T.text, .slice pk T.keys.length ck, .slice pi T.items.length ci],T.size,s1,t2,some P,(P,4)] SA (vH W3 P t2) [6,11,0,1,2,3,7,8,9,10,4,5] (by rw[a6];exact am.out _ (aD _ _)) u' ?_ ?_
   |skip
   first
   |first|have _:=QQ|have _:=QY
    .intro d a w' iq o' hO ho hi F aa G R' I;first|have _:=QQ;have Z:=dW aa [(0,some P),(14,some V)] rfl rfl;have hc:=G.all [(0,58),(1,59),(2,60),(3,61),(4,62),(5,63),(6,64),(7,65),(8,66),(9,67)] b_|have Z:=dW aa [(0,some P),(15,some V)] rfl rfl;have hc:=G.all [(0,76),(1,77),(2,78),(3,79),(4,80),(5,81),(6,82),(7,83),(8,84),(9,85),(10,86)] b_
     dsimp only[dS,dM,lk] at Z hc;clear aa;have ha:=F;have aj:=ho
     repeat' rcases hO with _ | ⟨_,hO⟩
     all_goals (simp only[cR,cP,bY,cC] at ho;subst ho;try simp[Region.binds] at F)
     .first|have _:=QQ;have nm:=G.gg 4 62 c_;have hA:aA W3 w':=G.at2 (j:=0) rfl (G.lastNot (f:=11) (i:=5) d' hi) (.inl rfl);go_simp;go_at_call 108|have c81:=G.gg 5 81 c_;have hA:aA W3 w':=G.at2 (j:=0) rfl (G.ln hi) (.inl rfl);go_simp;go_at_call 69
      refine aH (rK.out _ hA) λw5 ag=>?_;exact I _ _ (G.qu aj ha hi (λ_=>am.out _ (aE hA ag)) (λk c hk hp=>by obtain rfl:k=0:=JA;exact vH.keep hp ag) (λx hx=>hx))
     .first|have _:=QQ;have BO:=G.gg 7 65 c_;have CW:=G.gg 9 67 c_|have Bi:=G.gg 8 84 c_;have vZ:=G.gg 10 86 c_
      have ae:=G.at2 (j:=0) rfl hi (.inl rfl);have ab:=G.st hi;rw[<-ak] at ab;obtain⟨⟨p4,AX⟩,v0,v1,v2,v3⟩:=ab;have hA:aA W3 w':=ae;go_simp;exact I undef _ (G.ef 0 aj ha hi (.inl rfl) (λ_ _ _=>trivial) (λh=>absurd rfl h) ⟨w',hA,rfl⟩)
     first|have _:=QQ;iterate 7 (go_simp;exact I _ _ (G.pu aj ha))|iterate 8 (go_simp;exact I _ _ (G.pu aj ha))
     all_goals
      have ab:=G.ea hi;rw[<-ak] at ab;obtain⟨⟨p4,AX⟩,v0,v1,v2,v3⟩:=ab;exact ah
   |skip
   first|have _:=QQ;intro v wz bf eg|have _:=QY;intro v wy bf eg|skip
   first
   |first|have _:=QQ|have _:=QY
    obtain⟨w8,lD,iw⟩:=eg
   |skip
   first
   |have _:=QQ;have dZ:YJ YP ap w0 P txt sp ⟨st.lines,ns,t2⟩ 0 0 wz:=mu;have vn:wz.heap[V]?=some (.cells #[T.kind,bs T.text, .slice pk T.keys.length ck, .slice pi T.items.length ci] 36):=by
     rw[iw];have gj:V≠P:=by
      intro e;obtain⟨z,sv,lvv,nv,hz,hK⟩:=ex.out;have hb:=hK.box;rw[<-e,qq.out] at hb;exact gr
     rw[eW w8 ⟨P,4,none⟩ _ V gj];exact(lD.block _ (aG qq.out)).trans qq.out
    have tn:VD wz T.depth T (.slice pk T.keys.length ck) (.slice pi T.items.length ci):=by
     have h1:=ta.out.keep lD;refine fS.toVD (ok:=λ_=>True) (h1.agree (λq Z nu=>⟨?_,trivial⟩));rw[iw];exact eW w8 ⟨P,4,none⟩ _ q (by have:=BI.out;simp only[];omega)
   |have _:=QY;have dZ:YJ YQ ap w0 P txt sp ⟨st.lines,ns,t2⟩ 0 0 wy:=mu
   |skip
   first
   |first|have _:=QQ|have _:=QY
    have nV:=hid dZ
   |skip
   first
   |have _:=QQ;have zi:=hid vn;have ya:=hid tn;have ku:Hid (∀w',aA wz w'->Calls prog 109 #[.agg #[T.kind,bs T.text, .slice pk T.keys.length ck, .slice pi T.items.length ci]] w' (aT w' (.int .i64 (T.depth:Int)))):=hid (λw' hb=>Ty _ T (.slice pk T.keys.length ck) (.slice pi T.items.length ci) w' (ya.out.keep hb) iN);obtain⟨y0,y1,y2,y3,_⟩:=bK vn;clear bf lD iw dZ vn tn ak am rK
   |have _:=QY;have cb:bL wy X2 r:=dZ.at_ cp.out;obtain⟨_,_,_,_,_,_,l6,_⟩:=cb.cells;obtain⟨z,sv,lvv,nv,hz,hK⟩:=dZ;have c4:=hK.cells.1.2.2.2.2.1;have hPl:=hK.lt;simp only[] at c4;clear bf lD iw ak am rK hK hz cb
   |skip
   first
   |first|have _:=QQ|have _:=QY
    simp only[cU,cY,cQ,cZ]
   |skip
   first|have _:=QQ;have hlev:=hl.out|skip
   first
   |first|have _:=QQ|have _:=QY
    have I:=jZ.out
   |skip
   first
   |have _:=QQ;rw[oh.out] at I;obtain⟨dp,kQ⟩:=exQ<|T.depth;rw[kQ] at I ku;have hdpb:dp<=1099511627776:=a_;obtain⟨ld,Cg⟩:=exQ<|lev+(dp:Int);have xw:IntKind.i64.wrap ld=ld:=by rw[IntKind.wrap_i64];omega
    obtain⟨l1,fD⟩:=exQ<|ld-1;have yx:IntKind.i64.wrap l1=l1:=by rw[IntKind.wrap_i64];omega
    by_cases hd:lv<dp
    .rw[if_pos hd] at I;have ml:Hid (YR.bad r.rf 5=R):=hid I;have d1:decide ((32:Int)<l1)=true:=aQ a_;have CF:=hid (λw' hj=>qV (Pr:=ap) (w0:=w0) (P:=P) (txt:=txt) (sp:=sp) (st:=⟨st.lines,ns,t2⟩) (a0:=0) (e0:=0) r.rf 5 w' hj);clear I hd hlev kQ;go_wp2_with fail;refine aH (ku.out _ f_) λw9 cG=>?_;have fk:=hid (nV.out.keep D6);clear cG;go_wp2_with fail;refine aH (CF.out _ C_) λvq gV=>?_;have HF:=hid (gV.less av.out).bad;clear gV;go_wp2;go_ret2;rw[<-ml.out];exact ai
    rw[if_neg hd] at I;have d1:decide ((32:Int)<l1)=false:=aJ a_
   |skip
   first
   |first|have _:=QQ|have _:=QY
    by_cases ht:4096<t2
    .rw[if_pos ht] at I;have ml:Hid (YR.bad r.rf 6=R):=hid I;have d2:decide ((4096:Int)<(t2:Int))=true:=aQ a_
     first
     |have _:=QQ;have CF:=hid (λw' hj=>qV (Pr:=ap) (w0:=w0) (P:=P) (txt:=txt) (sp:=sp) (st:=⟨st.lines,ns,t2⟩) (a0:=0) (e0:=0) r.rf 6 w' hj);clear I hd hlev kQ ht;go_wp2_with fail;refine aH (ku.out _ f_) λw9 cG=>?_;have fk:=hid (nV.out.keep D6);clear cG;obtain⟨z,sv,lvv,nv,hz,hK⟩:=fk.out;have c4:=hK.cells.1.2.2.2.2.1;have hPl:=hK.lt;clear hK hz;simp only[] at c4;go_wp2_with fail;refine aH (CF.out _ C_) λvq gV=>?_
     |clear I ht;go_wp2_with fail;refine aH (CF.out ⟨st.lines,ns,t2⟩ 6 _ (by first | exact nV.out | exact nV.out.keep (aD _ _).drew)) λvq gV=>?_
     have HF:=hid (gV.less av.out).bad;clear gV;go_wp2;go_ret2;rw[<-ml.out];exact om
    .rw[if_neg ht] at I;have ml:=hid I;have d2:decide ((4096:Int)<(t2:Int))=false:=aJ a_;first|have _:=QQ;clear I hd hlev kQ ht;go_wp2_with fail;refine aH (ku.out _ f_) λw9 cG=>?_;have fk:=hid (nV.out.keep D6);clear cG;obtain⟨z,sv,lvv,nv,hz,hK⟩:=fk.out;have c4:=hK.cells.1.2.2.2.2.1;have hPl:=hK.lt;clear hK hz;simp only[] at c4;have HF:=hid (fk.out.less av.out)|have HF:=hid (nV.out.less av.out);clear I ht
     go_wp2;go_ret2;rw[<-ml.out];exact an
   |have ou:=hid e1;clear e1;have ij:=hid I;clear I;obtain⟨k1,fx⟩:=exQ<|k+1;have gG:(k:Int)+1=(k1:Int):=a_;have dw:=hid fx;have dK:til<=sp.length:=by have:=HT.out.2;rw[gA.out] at this;exact this
    have qt:k1<=til:=by have:=HT.out.1;rw[gA.out] at this;omega
    clear fx;go_wp2_with fail;refine aH (CA.out _ GI) λw4 fg=>?_;have Dc:Hid (Ob a7 w0 P txt sp nn til (st.nodes++ [⟨4,r.ind,k,til,kf,kt,r.rf,r.rt,[]⟩]) (st.total+1) R true k1 w4):=hid ⟨qt,st.lines,by rw[<-dw.out];exact HK.out.1.symm,by rw[<-dw.out];exact ij.out,fg⟩;clear fg z0 z1 z2 z3 z4 z5 z6 z7 z8 b6;go_wp2;go_loopw [13,14] (λgp eu wr=> ∃(b:Bool) (i:Nat),gp= .bool b/\eu= .int .i64 (i:Int)/\i<=sp.length+1/\Hid (Ob a7 w0 P txt sp nn til (st.nodes++ [⟨4,r.ind,k,til,kf,kt,r.rf,r.rt,[]⟩]) (st.total+1) R b i wr)) (λ_ eu _=>sp.length+2-(RowKit.intOf eu).toNat)
    case atStart=>exact⟨true,k1,rfl,by first | rfl | rw[<-gG],a_,Dc⟩
    case round=>
     obtain⟨b,i,rfl,rfl,hi,mD⟩:=hrel;have zc:(0:Int)<=(i:Int):=a_;cases b with
     | false=>
      obtain⟨a,e,fP,ar⟩:=(show ∃a e,R= .bad a e/\gH YP a7 w0 P txt sp a e wr from mD.out);have HF:=hid (ar.less bX.out);clear ar;go_wp2;go_ret2;rw[fP];exact ai
     | true=>
      obtain⟨oZ,ls,tG,hG,hj⟩:=(show i<=til/\ ∃ls,ls.length=i/\(match lZ txt ((sp.drop i).take (til-i)) ls with | .inr a=>YR.bad a 2 | .inl ls=> .ok nn ⟨ls,st.nodes++ [⟨4,r.ind,k,til,kf,kt,r.rf,r.rt,[]⟩],st.total+1⟩)=R/\YJ YP a7 w0 P txt sp ⟨ls,st.nodes++ [⟨4,r.ind,k,til,kf,kt,r.rf,r.rt,[]⟩],st.total+1⟩ 0 0 wr from mD.out);have xt:=hj.at_ r6.out;obtain⟨z0,z1,z2,z3,z4,z5,z6,z7,z8⟩:=kD xt;have dI:=hid hj;have jv:=hid tG;clear hj xt tG;by_cases hilt:i<til
      .have d1:decide ((i:Int)<(til:Int))=true:=aQ a_;have j3:decide (i<til)=true:=aQ hilt;obtain⟨x,hx⟩: ∃x,sp[i]?=some x:=⟨_,bI a_⟩;have fc:(sp.drop i).take (til-i)=x::(sp.drop (i+1)).take (til-(i+1)):=by
        rw[gB a_];rw[bI a_] at hx;rw[bA hx,show til-i=(til-(i+1))+1 by omega,List.take_succ_cons]
       rw[fc] at hG;unfold lZ at hG;have pS:=hid (λw' hj=>aAC (Pr:=a7) (P:=P) (st:=⟨ls,st.nodes++ [⟨4,r.ind,k,til,kf,kt,r.rf,r.rt,[]⟩],st.total+1⟩) i x w' hj hx dz.out (by simp only[];have:=jv.out;omega) hs hn hV);unfold Ge at pS;obtain⟨i1,cN⟩:=exQ<|i+1;have bt:(i:Int)+1=(i1:Int):=a_;have jr:=hid cN;have jR:=hid hx;clear fc hx cN;by_cases hm:nN txt x<x.2
       .rw[if_pos hm] at hG;simp only[] at hG;have AP:Hid (YR.bad (nN txt x:Int) 2=R):=hid hG;have pT:Hid (∀w',YJ YP a7 w0 P txt sp ⟨ls,st.nodes++ [⟨4,r.ind,k,til,kf,kt,r.rf,r.rt,[]⟩],st.total+1⟩ 0 0 w'->Calls prog 182 #[some P,i] w' λe w2=>e= .returned (.bool false)/\gH YP a7 w0 P txt sp (nN txt x:Int) 2 w2):=hid (λw' hj=>(pS.out w' hj).mono (λe w2 hE=>by
         rcases hE with⟨_,h1,h2⟩ | ⟨h1,_⟩
         .exact⟨h1,h2⟩
         .exact absurd hm h1))
        clear hG pS hm;go_wp2_with fail;refine aH (pT.out _ E7) λw5 ar=>?_;have dY:=hid ar;clear ar;go_wp2;go_roundw
        .exact⟨false,i1,rfl,by first | rfl | rw[<-bt],a_,hid ⟨_,_,AP.out.symm,dY.out⟩⟩
        .exact ao
       .rw[if_neg hm] at hG;have dy:=hid hG;have pT:Hid (∀w',YJ YP a7 w0 P txt sp ⟨ls,st.nodes++ [⟨4,r.ind,k,til,kf,kt,r.rf,r.rt,[]⟩],st.total+1⟩ 0 0 w'->Calls prog 182 #[some P,i] w' λe w2=>e= .returned (.bool true)/\YJ YP a7 w0 P txt sp ⟨ls++ [jC txt x],st.nodes++ [⟨4,r.ind,k,til,kf,kt,r.rf,r.rt,[]⟩],st.total+1⟩ 0 0 w2):=hid (λw' hj=>(pS.out w' hj).mono (λe w2 hE=>by
         rcases hE with⟨h1,_⟩ | ⟨_,h1,h2⟩
         .exact absurd h1 hm
         .exact⟨h1,h2⟩))
        clear hG pS hm;go_wp2_with fail;refine aH (pT.out _ E7) λw5 ih=>?_;have dA:=hid ih;clear ih;go_wp2;go_roundw
        .exact⟨true,i1,rfl,by first | rfl | rw[<-bt],a_,hid ⟨by have:=jr.out;omega,ls++ [jC txt x],by rw[aZ,dF,jv.out];exact jr.out,by rw[<-jr.out];exact dy.out,dA.out⟩⟩
        .exact ao
      .have d1:decide ((i:Int)<(til:Int))=false:=aJ a_;have j3:decide (i<til)=false:=aJ hilt;rw[show til-i=0 by omega,List.take_zero] at hG;unfold lZ at hG;simp only[] at hG;have dy:=hid hG;have HF:=hid (dI.out.less bX.out);clear hG hilt;go_wp2;go_ret2;rw[<-dy.out,ou.out];exact an
 |have _:=Q3;cases A with
  | bad a e=>
    have I:=HR.out;rw[aBE HA.out] at I;have bw:Hid (YR.bad a e=R):=hid I;clear I;go_wp2_with fail;refine(CA.out _ k_).mono ?_;rintro e w4 ⟨⟨m,rfl⟩,ar⟩;have HF:=hid (ar.less av.out);clear ar;go_wp2;go_ret2;rw[<-bw.out];exact ai
  | ok nn s1=>
    obtain⟨e1,e2,kn,oP⟩:=mC HA.out;subst e2;have I:=HR.out;rw[gA.out,show gC ⟨4,r.ind,k,til,kf,kt,r.rf,r.rt,[]⟩ lv r.rf st= .ok st.nodes.length ⟨st.lines,st.nodes++ [⟨4,r.ind,k,til,kf,kt,r.rf,r.rt,[]⟩],st.total+1⟩ by unfold gC;rw[if_neg kn,if_neg a_]] at I;simp only[] at I;have ou:=hid e1;have ij:=hid I;have dK:til<=sp.length:=by have:=HT.out.2;rw[gA.out] at this;exact this
    have qt:k1<=til:=by have:=HT.out.1;rw[gA.out,dw.out] at this;exact this
    clear e1 I;go_wp2_with fail;refine aH (CA.out _ k_) λw4 fg=>?_;have cc:=hid fg;clear fg y0 y1 l0 l1 l2 l3 l4 l5 l6 l7 l8 l9;obtain⟨r8,qK⟩:=exQ<|st.nodes++ [⟨4,r.ind,k,0,kf,kt,r.rf,r.rt,[]⟩];obtain⟨tot,kb⟩:=exQ<|st.total+1;have vr:=hid qK;have fg:=cc.out;have I:=ij.out;rw[kb] at fg I;rw[qK] at fg;have HJ:=hid fg;have jZ:=hid I;have Di:(0:Int)<=r.ind:=(fQ.ind).1;clear fg I qK kb cc ij HR;go_upto_block 0 with fail;go_cut [13,14,15,16,17,50,51,52,53,54,55,56,57,58,59,60,61,62,63,64,65,66,67,68,69,70,71,72,73,74,75,76,77,78,79,80,81,82,83] (λgp eu k8 Ce BT fi Bx Cd Bu vA vx vU ri rG uG va rp vQ uH uR vC lW uQ uT u1 uU qX oE pw pc qh oT oi py oe oR qM pK pE wx=>eu= .int .i64 (til:Int)/\Hid (aA w4 wx))
    case first=>
      go_wp2;go_loopw [13,14,15] (λgp eu k8 wr=> ∃(tl first i:Nat) (fz:Int),gp= .int .i64 fz/\eu= .int .i64 (tl:Int)/\k8= .int .i64 (i:Int)/\i<=sp.length/\Hid (fz=if first=0 then -1 else(first:Int))/\Hid (jL txt r.ind (sp.drop i) i tl first=til)/\Hid (aA w4 wr)) (λ_ _ k8 _=>sp.length+1-(RowKit.intOf k8).toNat)
      case atStart=>exact⟨k1,0,k1, -1,rfl,by rw[<-gG],by rw[<-gG],a_,hid rfl,hid (by have:=gA.out;unfold oH at this;rw[dw.out] at this;exact this),hid f_⟩
      case round=>
        obtain⟨tl,first,i,fz,rfl,rfl,rfl,hi,sd,HG,HB⟩:=hrel;have dI:=hid (HJ.out.keep HB.out);obtain⟨z,sv,lvv,nv,hz,hK⟩:=dI.out;obtain⟨ps,cs,rfl⟩:=hK.spSlice;obtain⟨⟨_,c1,_⟩,_⟩:=hK.cells;have hPl:=hK.lt;clear hK hz;by_cases hil:i<sp.length
        · have d1:decide ((i:Int)<(sp.length:Int))=true:=aQ a_;obtain⟨x,hx⟩: ∃x,sp[i]?=some x:=⟨_,bI hil⟩;have fc:sp.drop i=x::sp.drop (i+1):=D5;have hg:=HG.out;rw[fc] at hg;unfold jL at hg;have oK:=jU (dL txt x);obtain⟨x1,x2⟩:=dz.out x (bH hx);have dK:=yJ x1 x2;have CB:Hid (∀w',aA wr w'->Calls prog 102 #[some P,i] w' (aT w' (.tuple #[.int .i64 (bB (dL txt x):Int), .bool (decide (bB (dL txt x)=(dL txt x).length))]))):=hid (λw' hb=>Nz i x w' (dI.out.keep hb) hx dz.out hs);obtain⟨nb,fX⟩:=exQ<|bB (dL txt x);rw[fX] at CB hg oK;have hnb6:nb<=65536:=a_;obtain⟨i1,cN⟩:=exQ<|i+1;have bt:(i:Int)+1=(i1:Int):=a_;have fy:i1<=sp.length:=a_;rw[cN] at hg;have cb:bL wr X2 r:=dI.out.at_ cp.out;obtain⟨_,_,_,l3,_⟩:=cb.cells;obtain⟨bl,jw⟩:=exQ<|decide (nb=(dL txt x).length);rw[jw] at CB;have dy:=hid hg;have sG:=hid jw;clear fc hx fX cN oK cb hg jw x1 x2 dK;cases bl with
          | true=>
            have hg:=dy.out;rw[if_pos (of_decide_eq_true sG.out)] at hg;have kx:=hid hg;clear dy sG hg;go_wp2_with fail;refine aH (CB.out _ f_) λw5 ag=>?_;have dY:=hid (aE HB.out (show aA wr w5 by first | exact ag | exact aE (aD _ _).drew ag));clear ag;go_wp2;go_roundw
            · exact⟨tl,first,i1,fz,rfl,rfl,by rw[<-bt],fy,sd,kx,dY⟩
            .exact ao
          | false=>
            have hg:=dy.out;rw[if_neg (of_decide_eq_false sG.out)] at hg;have kx:=hid hg;clear dy sG hg;obtain⟨t1,sS⟩:=exQ<|decide ((nb:Int)<=r.ind);obtain⟨t2,ks⟩:=exQ<|decide ((0:Int)<=fz);obtain⟨t3,BH⟩:=exQ<|decide ((nb:Int)<fz);have ht4:decide (fz<0)=!t2:=by rw[<-ks,<-decide_not];exact decide_eq_decide.2 a_
            have u7:=hid (aK sS (aK ks BH));cases t1<;>cases t2<;>cases t3
            all_goals
              go_wp2_with fail;refine aH (CB.out _ f_) λw5 ag=>?_;have bj:aA wr w5:=p_;have dY:=hid (aE HB.out bj);have cb:bL w5 X2 r:=(dI.out.keep bj).at_ cp.out;obtain⟨_,_,_,l3',_⟩:=cb.cells;clear ag bj cb l3;go_wp2_with fail
            all_goals first
              | (go_meet
                 exact⟨by rw[aBG sd.out kx.out u7.out rfl],dY⟩)
              | (go_roundw
                 · exact⟨i1,_,i1,_,rfl,by rw[<-bt],by rw[<-bt],fy,hid (aBI sd.out u7.out rfl Di),hid (aBH sd.out kx.out u7.out rfl),dY⟩
                 · (try simp only[RowKit.intOf]);omega)
        · have d1:decide ((i:Int)<(sp.length:Int))=false:=aJ a_;have j3:decide (i<sp.length)=false:=aJ hil;have hg:=HG.out;rw[List.drop_of_length_le a_] at hg;unfold jL at hg;have Bg:=hid hg;clear hg hil;go_wp2;go_meet;exact⟨by rw[Bg.out],HB⟩
    case rest=>
      obtain⟨rfl,HB⟩:=hcut;have dA:=hid (HJ.out.keep HB.out);clear HB HJ;go_wp2;go_loopw [18] (λv5 wr=> ∃(q:Nat) (ls:List aS),v5= .int .i64 (q:Int)/\q<=til/\Hid (ls.length=q/\1<=q)/\Hid ((match lZ txt ((sp.drop q).take (til-q)) ls with | .inr a=>YR.bad a 2 | .inl ls=> .ok st.nodes.length ⟨ls,st.nodes++ [⟨4,r.ind,k,til,kf,kt,r.rf,r.rt,[]⟩],tot⟩)=R)/\Hid (YJ YQ ap w0 P txt sp ⟨ls,r8,tot⟩ 0 0 wr)) (λv5 _=>til+1-(RowKit.intOf v5).toNat)
      case atStart=>exact⟨k1,st.lines,by rw[<-gG],qt,hid (by rw[<-dw.out];exact⟨eY.out.symm,a_⟩),hid (by rw[<-dw.out];exact jZ.out),dA⟩
      case round=>
        clear dA jZ;obtain⟨q,ls,rfl,Z,jv,HG,dI⟩:=hrel;by_cases hqt:q<til
        · have d1:decide ((q:Int)<(til:Int))=true:=aQ a_;have j3:decide (q<til)=true:=aQ hqt;obtain⟨x,hx⟩: ∃x,sp[q]?=some x:=⟨_,bI a_⟩;have fc:(sp.drop q).take (til-q)=x::(sp.drop (q+1)).take (til-(q+1)):=by
            rw[gB a_];rw[bI a_] at hx;rw[bA hx,show til-q=(til-(q+1))+1 by omega,List.take_succ_cons]
          have hg:=HG.out;rw[fc] at hg;unfold lZ at hg;obtain⟨M,hM⟩:=exQ<|nN txt x;have ve:=hid (λw' hj=>aAN (Pr:=ap) (P:=P) (w0:=w0) (st:=⟨ls,r8,tot⟩) (a0:=0) (e0:=0) q x w' hj hx dz.out hs);have CI:=hid (λw' hj=>Nz (Pr:=ap) (P:=P) (w0:=w0) (st:=⟨ls,r8,tot⟩) (a0:=0) (e0:=0) q x w' hj hx dz.out hs);rw[hM] at hg ve;obtain⟨q1,k9⟩:=exQ<|q+1;have zV:(q:Int)+1=(q1:Int):=a_;have nW:(q:Int)<(sp.length:Int):=a_;have io:(0:Int)<=(q:Int):=a_;rw[k9] at hg;have dy:=hid hg;have HX:=hid hx;have nL:=hid k9;obtain⟨bm,vs⟩:=exQ<|decide (M<x.2);have xn:decide ((M:Int)<(x.2:Int))=bm:=by rw[<-vs];exact decide_eq_decide.2 a_
          have yC:=hid vs;obtain⟨WR,jp⟩:=exQ<|wr.drew;have uE:=dI.out.keep (aD _ wr).drew;rw[jp] at uE;have ws:=hid uE;have CM:Hid (∀w',aA WR w'->Calls prog 103 #[some P, .int .i64 (q:Int)] w' (aT w' (.int .i64 (M:Int)))):=hid (λw' hb=>ve.out w' (ws.out.keep hb));obtain⟨z,sv,lvv,nv,hz,hK⟩:=uE;obtain⟨gs,cs,rfl,_,_,_⟩:=hK.spanAt hx;have tM:Hid (∀w',aA WR w'->w'.cell? (P,1)=some (.slice (some ⟨gs,0,none⟩) sp.length cs)/\w'.cell? ⟨gs,q*2+1,none⟩=some (.int .i64 (x.2:Int))):=hid (λw' hb=>by have bd:=hK.keep hb;obtain⟨g2,mj,e2,_,_,s1⟩:=bd.spanAt HX.out;injection e2 with e2;injection e2 with e2;injection e2 with e2;subst e2;exact⟨bd.cells.1.2.1,s1⟩);clear hK hz hx fc hg hM k9;go_upto_region 19 with fail;refine mZ [91,92,93,94,95,96,97,98,99,100,101,102] 144 [some P, .int .i64 (q:Int),M,some P,some P,(P,1),(gs,sp.length,cs), .int .i64 (q:Int), .pointer (some ⟨gs,q*2,none⟩), .pointer (some ⟨gs,q*2+1,none⟩), .int .i64 (x.2:Int),bm] (λw'=>aA WR w') [2,0,1,3,4,5,6,7,8,9,10,11] (by rw[jp];exact aD _ _) ?_ ?_
          · intro d a w' iq o' hO ho hi F aa G R' I;have Z:=dW aa [(0,some P),(18, .int .i64 (q:Int))] rfl rfl;have hc:=G.all [(0,91),(1,92),(2,93),(3,94),(4,95),(5,96),(6,97),(7,98),(8,99),(9,100),(10,101)] b_;dsimp only[dS,dM,lk] at Z hc;clear aa;obtain⟨c1,s1⟩:=tM.out _ G.st
            repeat' rcases hO with _ | ⟨_,hO⟩
            all_goals (simp only[cR,cP,bY,cC] at ho;subst ho;try simp[Region.binds] at F)
            · have xe:=G.g 0 91 c_;have vy:=G.g 1 92 c_;refine jD ?_;go_simp;go_at_call 103;refine aH (CM.out _ G.st) λw5 ag=>?_;exact df
            iterate 11 (refine jD ?_;go_simp;exact I _ _ G.sp)
          intro wz hS;simp only[iU,cY,cQ,cZ];have dx:=hid (ws.out.keep hS);clear hS tM CM ws jp vs xn;cases bm with
          | true=>
            have hg:=dy.out;rw[if_pos (of_decide_eq_true yC.out)] at hg;have kx:Hid (YR.bad (M:Int) 2=R):=hid hg;clear hg dy;go_wp2_with fail;refine aH (ve.out _ D7) λw5 ag=>?_;have bj:aA wz w5:=p_;have CF:=hid (tV (M:Int) 2 w5 (dx.out.keep bj));clear ag bj;go_wp2_with fail;refine aH CF.out λw6 qv=>?_;have HF:=hid (qv.less av.out).bad;clear qv;go_wp2;go_ret2;rw[<-kx.out];exact ai
          | false=>
            have hg:=dy.out;rw[if_neg (of_decide_eq_false yC.out)] at hg;obtain⟨nb,fX⟩:=exQ<|bB (dL txt x);rw[<-Nv,fX] at hg;rw[fX] at CI;have kx:=hid hg;clear hg dy fX;go_wp2_with fail;refine aH (CI.out _ D7) λw5 ag=>?_;have bj:aA wz w5:=p_;have fq:=hid (dx.out.keep bj);clear ag bj;go_upto_region 22 with fail;obtain⟨W2,aw⟩:=exQ<|w5.drew;obtain⟨z,sv,lvv,nv,hz,bd⟩:=fq.out.keep (aD _ w5).drew;rw[aw] at bd;obtain⟨gs,cs,rfl,_,_,_⟩:=bd.spanAt HX.out;rcases bd.lnr.2 with⟨_,h0⟩ | ⟨gl,cl,_,rfl,_,_,Dh,_⟩
            · simp only[jv.out.1] at h0;have:=jv.out.2;omega
            simp only[jv.out.1] at bd Dh;have HZ:=hid hz;have cJ:=hid bd;have bx:=bd.lnr;simp only[jv.out.1] at bx;have cT:=hid bx;have da:=hid bd.bel.size;obtain⟨SB,dN⟩: ∃S:World->Prop,(λw'=>(w'.cell? (P,2)=some (.slice (some ⟨gl,0,none⟩) q cl)/\w'.frozen? ⟨P,2,none⟩=false)/\w'.cell? (P,1)=some (.slice (some ⟨gs,0,none⟩) sp.length cs)/\w'.cell? ⟨gs,q*2,none⟩=some (.int .i64 (x.1:Int))/\w'.cell? ⟨gs,q*2+1,none⟩=some (.int .i64 (x.2:Int)))=S:=⟨_,rfl⟩;have cW:Hid (∀j c w',j<3->bW 68 w0.heap.size (.slice (some ⟨gl,0,none⟩) q cl) q (gY ls) (lineA (pI x nb)) P 2 W2 j c w'->SB w'):=hid (λj c w' hj hp=>by rw[<-dN];have hs:=cJ.out.seenA cT.out b_ (λi o hi=>(cJ.out.fr i o hi).2.2.1) hj hp;obtain⟨c2,f2⟩:=hs.c2;exact⟨⟨c2,f2⟩,hs.c1,aBF (cJ.out.sprA hj hp) rfl HX.out⟩);obtain⟨du,ds,ee,ei⟩:=Dt.out;clear bd bx hz;refine iV [114,115,116,117,118,119,120,121,122,123,124,125,126,127,128,129,130,131,132,133,134] [21] [17,18,21] 1000000 (λ_ _=>True) 144 [some P,some P,some P,(P,2), .slice (some ⟨gl,0,none⟩) q cl, .int .i64 (q:Int), .int .i64 (q:Int), .slice (some ⟨gl,0,none⟩) q q,some P,some P,(P,1),(gs,sp.length,cs), .int .i64 (q:Int), .pointer (some ⟨gs,q*2,none⟩), .agg #[.int .i64 (x.1:Int), .int .i64 (x.2:Int)],nb, .agg #[(6:Int), .int .i64 (x.1:Int), .int .i64 (x.2:Int),nb,(0:Int),(0:Int),(0:Int),(0:Int),(0:Int),(0:Int)],undef,undef,some P,(P,2)] SB (bW 68 w0.heap.size (.slice (some ⟨gl,0,none⟩) q cl) q (gY ls) (lineA (pI x nb)) P 2 W2) [17,18,21,0,1,2,3,5,6,7,8,9,10,12,15,16,19,20,4,11,13,14] DY E9 ?_ ?_
            · intro d a w' iq o' hO ho hi F aa G R' I;have Z:=dW aa [(0,some P),(18, .int .i64 (q:Int)),(19,nb)] rfl rfl;have hc:=G.all [(0,114),(1,115),(2,116),(3,117),(4,118),(5,119),(6,120),(7,121),(8,122),(9,123),(10,124),(11,125),(12,126),(13,127),(14,128),(15,129),(16,130),(19,133),(20,134)] b_;dsimp only[dS,dM,lk] at Z hc;clear aa;have ha:=F;have aj:=ho
              repeat' rcases hO with _ | ⟨_,hO⟩
              all_goals (simp only[cR,cP,bY,cC] at ho;subst ho;try simp[Region.binds] at F)
              · have c130:=G.gg 16 130 c_;exact fd
              · have An:=G.gg 7 121 c_;have ad:d 17=true:=c_;have ae:=G.at2 (j:=1) rfl hi (.inr ⟨17,rfl,ad⟩);have gb:a.tmps.getD 121 undef= .slice (some ⟨gl,0,none⟩) q q:=by rw[aN];exact An
                exact bW.appG rfl (.tmp 121) (.tmp 131) 23 rfl underlying23 du ds ee ei rfl b_ rfl cT.out a_ b_ da.out ae gb rfl (λv' w2 hp=>I _ _ (G.ef 1 aj ha hi (.inr ⟨17,rfl,ad⟩) (λ_ _ _=>trivial) (λ_=>cW.out 2 _ _ b_ hp) hp))
              · have c134:=G.gg 20 134 c_;have ad:d 18=true:=c_;have ae:=G.at2 (j:=2) rfl hi (.inr ⟨18,rfl,ad⟩);have ab:=G.st hi;rw[<-dN] at ab;obtain⟨⟨p2,pB⟩,p1,s0,s1⟩:=ab;have dC:bW 68 w0.heap.size (.slice (some ⟨gl,0,none⟩) q cl) q (gY ls) (lineA (pI x nb)) P 2 W2 2 (a.tmps.getD 132 undef) w':=ae;obtain⟨gz,cz,hz⟩:=dC.form;rw[hz] at dC;have c132:a.tmps[132]?.getD undef= .slice (some ⟨gz,0,none⟩) (q+1) cz:=by rw[<-aN];exact hz
                go_simp;exact I undef _ (G.ef 2 aj ha hi (.inr ⟨18,rfl,ad⟩) (λ_ _ _=>trivial) (λh=>absurd rfl h) ⟨_,_,dC,rfl⟩)
              iterate 15 (go_simp;exact I _ _ (G.pu aj ha))
              all_goals
                have ab:=G.ea hi;rw[<-dN] at ab;obtain⟨⟨p2,pB⟩,p1,s0,s1⟩:=ab;exact ah
            intro v wy bf cw;obtain⟨cz,iM⟩: ∃c,bW 68 w0.heap.size (.slice (some ⟨gl,0,none⟩) q cl) ls.length (gY ls) (lineA (pI x nb)) P 2 W2 3 c wy:=⟨_,by rw[jv.out.1];exact cw⟩;have tF:=cJ.out;obtain⟨rJ,dJ⟩:=YK.lineA (lv:= .slice (some ⟨gl,0,none⟩) q cl) (lines:=ls) (by exact tF) iM;have o8:Hid (YJ YQ ap w0 P txt sp ⟨ls++ [pI x nb],r8,tot⟩ 0 0 wy):=hid ⟨z,_,_,_,HZ.out,dJ⟩;clear cw dJ iM bf cW dN aw tF du ds ee ei;simp only[cU,cY,cQ,cZ];go_wp2;go_roundw
            · exact⟨q1,_,by rw[<-zV],by have:=nL.out;omega,hid ⟨by rw[aZ,dF,jv.out.1];exact nL.out,by have:=nL.out;omega⟩,hid (by rw[<-nL.out];rw[<-nL.out] at kx;exact kx.out),o8⟩
            · (try simp only[RowKit.intOf]);have:=nL.out;omega
        · obtain rfl:q=til:=a_;have d1:decide ((q:Int)<(q:Int))=false:=aJ a_;have j3:decide (q<q)=false:=aJ a_;have hg:=HG.out;rw[show q-q=0 by omega,List.take_zero] at hg;unfold lZ at hg;simp only[] at hg;have dy:=hid hg;obtain⟨z,sv,lvv,nv,hz,hK⟩:=dI.out;have cA:z.length=st.nodes.length+1:=by have:=congrArg List.length (hz.trans vr.out.symm);simpa using this
          obtain⟨y,hy⟩: ∃y,z[st.nodes.length]?=some y:=⟨_,bI a_⟩;have lc:y.1=⟨4,r.ind,k,0,kf,kt,r.rf,r.rt,[]⟩:=by
            have h1:(z.map (·.1))[st.nodes.length]?=some y.1:=by rw[cF,hy];rfl
            simp only[] at hz;rw[hz,<-vr.out,lR (aF _),Nat.sub_self] at h1;exact(bA h1).symm
          obtain⟨gn,cn,rfl,_,_⟩:=World.ownsRow.form hK.nod.row a_;obtain⟨u3,f3⟩:=hK.nod.at_ hy 3 a_ rfl;have hT:=hK.til hy q;obtain⟨⟨_,_,_,c3,_⟩,_⟩:=hK.cells;have hPl:=hK.lt;obtain⟨nl,gU⟩:=exQ<|z.length;rw[gU] at c3 cA;have n9:(z.set st.nodes.length ({ y.1 with til:=q },y.2)).map (·.1)=st.nodes++ [⟨4,r.ind,k,q,kf,kt,r.rf,r.rt,[]⟩]:=by
            simp only[] at hz;rw[List.map_set,hz,<-vr.out,lc,List.set_append_right _ _ (aF _),Nat.sub_self];rfl
          have HF:Hid (YJ YQ Pr w0 P txt sp ⟨ls,st.nodes++ [⟨4,r.ind,k,q,kf,kt,r.rf,r.rt,[]⟩],tot⟩ 0 0 (wr.setCell ⟨gn,st.nodes.length*9+3,none⟩ (.int .i64 (q:Int)))):=hid (YJ.less ⟨_,_,_,_,n9,hT⟩ av.out);have hZ:=ou.out;obtain⟨N,hN⟩:=exQ<|st.nodes.length;rw[hN] at u3 f3 HF dy cA hZ;subst hZ;have fj:(nn:Int)<(nl:Int):=a_;have Ah:(0:Int)<=(nn:Int):=a_;clear hK hT hz hy lc n9 hg gU hN cA HG dI jv;go_wp2;go_ret2;rw[<-dy.out];exact an
 |have _:=Q5;intro wz hS;simp only[iU,cY,cQ,cZ];have dx:=hid (bT.out.keep hS);have dq:=hid (aE da.out hS);have CF:=hid (fun(er:Int) w' hj=>tV (Pr:=ap) (w0:=w0) (P:=P) (txt:=txt) (sp:=sp) (st:=st) (a0:=0) (e0:=0) (kf:Int) er w' hj);have cb:bL wz X2 r:=dx.out.at_ cp.out;obtain⟨_,_,_,_,b4,_⟩:=cb.cells;rw[uC.out.1] at b4;clear hS iH CK cb al bT da bh cm i4 ny cv;by_cases h0:er=0;rotate_left
  .have d0:(er !=0)=true:=JH;have H0:=hid h0;clear h0;go_wp2_with fail;refine aH (CF.out er _ D7) λw8 dZ=>?_;have HF:=hid (dZ.less av.out).bad;clear dZ;go_wp2;go_ret2;exact Or.inl ⟨H0.out,rfl,HF.out⟩
  subst h0;go_wp2;go_loopw [11] (λlO wr=> ∃(i:Nat),lO= .int .i64 (i:Int)/\i<=hm.length/\Hid (∀j,j<i->hm[j]?≠some K)/\wr=wz) (λlO _=>hm.length-(RowKit.intOf lO).toNat)
  case atStart=>exact⟨0,rfl,cI _,hid (λj hj=>by omega),rfl⟩
  case round=>
   obtain⟨i,rfl,hi,xH,rfl⟩:=hrel;have du:(0:Int)<=(i:Int):=a_;by_cases hil:i<hm.length
   .obtain⟨u,hu⟩: ∃u,hm[i]?=some u:=⟨_,bI hil⟩;obtain⟨gh,rfl,hcu⟩:=HH.out wr dq.out i u hu;have cN:(i:Int)<(hm.length:Int):=a_;have di:decide ((i:Int)<(hm.length:Int))=true:=aQ cN;obtain⟨i1,jc⟩:=exQ<|i+1;have bt:(i:Int)+1=(i1:Int):=a_;by_cases he:u=K
    .subst he;have A0:=hid (bH hu);have de:((bs u).toList==(bs u).toList)=true:=e_;clear hu bt jc;go_wp2_with fail;refine aH (CF.out 7 _ D7) λw8 dZ=>?_;have HF:=hid (dZ.less av.out).bad;clear dZ;go_wp2;go_ret2;exact Or.inr (Or.inl ⟨rfl,A0.out,rfl,HF.out⟩)
    .have de:((bs u).toList==(bs K).toList)=false:=by rw[Lib.toList_data,Lib.toList_data,aY,aY];exact aI.2 he
     have yb:Hid (∀j,j<i1->hm[j]?≠some K):=hid (λj hj h2=>by
      by_cases hji:j=i
      .subst hji;rw[hu] at h2;exact he (bA h2)
      .exact xH.out j a_ h2)
     clear hu he jc;go_wp2;go_roundw
     .exact⟨i1,by rw[<-bt],a_,yb,trivial⟩
     .exact ao
   .obtain rfl:i=hm.length:=a_;have di:decide ((hm.length:Int)<(hm.length:Int))=false:=aJ a_;have HN:Hid (K ∉ hm):=hid (λim=>by obtain⟨j,hj,he⟩:=List.mem_iff_getElem.1 im;exact xH.out j hj (by rw[bI hj,he]));clear hil;go_wp2;go_ret2;exact Or.inr (Or.inr ⟨rfl,HN.out,rfl,dq.out⟩)
 |clear bp Ao c2 g3 g4 nX ul;have v9:=HJ.out.keep iy.out;have rl:=hid v9;have At:Hid (HM b had W1):=hid (zo.out.same (iy.out.block b zo.out.lt));obtain⟨nX,xr⟩:=mQ (v9.at_ ss.out.1);obtain⟨y0,y1⟩:=jY vT.out;clear v9;go_wp2_with fail;refine aH (iI.out _ (by first | exact rl.out | exact rl.out.keep (aD _ _).drew)) λw2 bS=>?_;have bh:=hid (show aA W1 w2 from by first | exact bS | exact aE (aD _ _).drew bS);clear bS;go_wp2_with fail;refine aH (C8.out _ (hV.keep (rl.out.keep bh.out).bel)) λw3 cj=>?_;have ax:=hid (aE bh.out cj);have ex:=hid (rl.out.keep ax.out);have vu:Hid (HM b had w3):=hid (At.out.same (ax.out.block b At.out.lt));have ux:=hid ((ax.out.block S (aG vT.out)).trans vT.out);clear cj nX y0 y1 ry vR xr;obtain⟨nX,ry⟩:=mQ (ex.out.at_ ss.out.1);obtain⟨ul,vR⟩:=mQ (ex.out.at_ ss.out.2);obtain⟨y0,y1⟩:=jY ux.out;have CF:Hid (∀er w',YJ YP Pr w0 P txt sp st 0 0 w'->Calls prog 45 #[some P,r.kf, .int .i64 er] w' λe w2=>e= .returned (.bool false)/\YJ YP Pr w0 P txt sp st r.kf er w2):=hid (λer w' hj=>qV r.kf er w' hj);by_cases h0:ke=0;rotate_left
  .have I:=HR.out;rw[if_pos h0] at I;have jZ:Hid ((YR.bad r.kf ke,had)=R):=hid I;have d0:(ke !=0)=true:=JH;clear I h0;exact O8
  subst h0;have I:=HR.out;rw[if_neg e_] at I;have lX:=vu.out.look key a_;by_cases im:key∈had
  .rw[if_pos im] at I;rw[aQ im] at lX;have jZ:Hid ((YR.bad r.kf 7,had)=R):=hid I;clear I im;exact O8
  rw[if_neg im] at I;rw[aJ im] at lX;obtain⟨Q,hQ⟩:=exQ<|V k r.kf r.kt st;rw[hQ] at I;have cf:Hid ((Q,key::had)=R):=hid I;have zF:=hid (fun(Pr':aO) w' hj=>IH Pr' k r.kf r.kt st lev w' hj HK.out HW.out hl);rw[hQ] at zF;obtain⟨es3,cm3,p5⟩:=vu.out.obj;have zb:=hid p5;have tK:w3.ownsMap prog 9 (plainElem prog 4) b had.length (tB had):=vu.out;clear I im hQ p5;have yu:Hid (keyOf prog 9 (.string (bs key))=some (.string key)):=hid (by have:=keyOf_string_mk (P:=prog) underlying9 (s:=bs key) GW;rw[aY] at this;exact this);have wh:Hid (∀w6,w6.ownsMap prog 9 (plainElem prog 4) b (had.length+1) ((tB had).put (.string key) (.lit (.bool true)))->w3.grownBy w6 (some b)->HM b (key::had) w6/\YJ YP Pr w0 P txt sp st 0 0 w6/\w6.heap[S]?=some (.cells #[r.kf,r.kt] 42)):=hid (λw6 kH os=>⟨kH,ex.out.mapG zb.out os hB hpb,qU os ux.out (λe=>by have e2:=bA e;have h1:=ux.out;rw[<-e2,zb.out] at h1;cases h1)⟩);go_wp2_with (at_mapUpdate;refine wpList_mapUpdate_own _ rfl _ _ _ 124 rfl 9 4 Dx underlying124 _ b had.length _ rfl tK r_ _ _ (.string key) rfl rfl yu.out _ [] (plainElem_bool underlying4 true) ?_;intro w6 kH os;obtain⟨pA,qv,yd⟩:=wh.out w6 kH os;have xY:=hid pA;have dx:=hid qv;have Dj:=hid yd;clear kH os pA qv yd nX ry y0 y1 ul vR;obtain⟨nX,ry⟩:=mQ (dx.out.at_ ss.out.1);obtain⟨y0,y1⟩:=jY Dj.out);obtain⟨es6,cm6,qW⟩:=xY.out.obj;have q9:=hid qW;have te:=hid (dx.out.putMap q9.out);clear tK lX qW;refine(zF.out _ _ (by first | exact te.out | exact te.out.keep (aD _ _).drew)).mono ?_;rintro e w7 hE;have HE:=hid hE;clear hE;cases Q with
  | bad a er=>
   obtain⟨⟨m,rfl⟩,ar⟩:=HE.out;have HF:=hid (ar.less (aO.put_lessN hpb));clear ar HE;exact ay
  | ok nn sq=>
   obtain⟨rfl,ga⟩:=HE.out;have B5:Hid (HM b (key::had) w7):=hid (xY.out.same ((ga.at_ (aO.put_eq _ _ _)).trans q9.out.symm));have HF:=hid (ga.less (aO.put_lessN hpb));clear ga HE;go_wp2;go_ret2;rw[<-cf.out];exact⟨rfl,HF.out,B5.out⟩):P:=h
theorem PC(h:P:=by
 have fl:=hx;obtain⟨z,hz,bO,cS⟩:=id hD0;obtain⟨y,hy⟩: ∃y,z[k]?=some y:=EH;have fp:y.1=x:=by
   rw[<-hz,cF,hy] at hx;exact bA hx
 obtain⟨gn,cn,ec,rfl,eD,_,jk⟩:=cS.form (λe=>by rw[e] at hy;cases hy);obtain⟨pl,nl,cl,rfl⟩: ∃p n c,lvv= .slice p n c:=by
   rcases bO.2 with⟨h0,_⟩ | ⟨g,cap,ec,h1,_⟩
   · exact⟨none,0,0,h0⟩
   · exact⟨_,_,_,h1⟩
 have fh:=cS.kids y (bH hy);obtain⟨pk,ck,bu⟩: ∃p c,y.2= .slice p y.1.kids.length c:=qm;have nE:Hid (∀w',aA w w'-> ∀(j q:Nat),x.kids[j]?=some q-> ∃gk,pk=some ⟨gk,0,none⟩/\w'.cell? ⟨gk,j,none⟩=some (.int .i64 (q:Int))):=hid (λw' bM j q hj=>by
   have fJ:=fh;rw[bu,fp] at fJ;have rF:=(aW.1 hj).1;rcases fJ.2 with⟨h0,h1⟩ | ⟨g,cap,ec,h1,_⟩
   · omega
   · injection h1 with e1;subst e1;refine⟨g,rfl,cB ?_ bM⟩;rw[World.ownsRow.cellAt fJ _ a_];unfold dH;rw[cF,hj];rfl)
 obtain⟨mk,dt⟩:=exQ<|y.1.kids.length;obtain⟨nz,fj⟩:=exQ<|z.length;have cA:z.length=d.nodes.length:=IP
 have kz:k<z.length:=(aW.1 hy).1;rw[fj] at hD0 ⊢;have gX:(0:Int)<=(k:Int):=a_
 have gm:(k:Int)<(nz:Int):=a_
 have kI:Hid (∀w',aA w w'-> ∀(q:Nat) (yq:aV),d.nodes[q]?=some yq->w'.cell? ⟨gn,q*9+4,none⟩=some (.int .i64 yq.kf)/\w'.cell? ⟨gn,q*9+5,none⟩=some (.int .i64 yq.kt)):=hid (λw' bM q yq Z=>by
   obtain⟨u,hu⟩: ∃u,z[q]?=some u:=by
     rw[<-hz,cF] at Z;cases hh:z[q]? with
     | none=>rw[hh] at Z;cases Z
     | some u=>exact⟨u,rfl⟩
   have o5:u.1=yq:=by
     rw[<-hz,cF,hu] at Z;exact bA Z
   have h4:=(cS.at_ hu 4 a_ rfl).1;have h5:=(cS.at_ hu 5 a_ rfl).1;rw[o5] at h4 h5;exact⟨cB h4 bM,cB h5 bM⟩)
 have HC:Hid (∀j u,j<9->(iK y)[j]?=some u->w.cell? ⟨gn,k*9+j,none⟩=some u):=hid (λj u hj hu=>(cS.at_ hy j hj hu).1);obtain⟨uJ,p8,hW⟩:=hb.nd x (bH hx);rw[fp] at dt bu;rw[dt] at bu hW;obtain⟨W1,bp⟩:=exQ<|w.alloc (.cells #[bs s, .slice pl nl cl,(gn,nz,cn)] 26);obtain⟨D,f9⟩:=exQ<|w.heap.size;have b1:aA w W1:=by rw[<-bp];exact aL _ _
 have h1:W1.heap[D]?=some (.cells #[bs s, .slice pl nl cl,(gn,nz,cn)] 26):=by rw[<-bp,<-f9];exact heap_alloc_new w _
 obtain⟨W2,aw⟩:=exQ<|W1.alloc (.cells #[(0:Int), .string ⟨#[]⟩,(),()] 36);obtain⟨R,fP⟩:=exQ<|W1.heap.size;have b2:aA W1 W2:=by rw[<-aw];exact aL _ _
 have h2:W2.heap[R]?=some (.cells #[(0:Int),bs [],(),()] 36):=by rw[<-aw,<-fP];exact heap_alloc_new W1 _
 obtain⟨W3,a6⟩:=exQ<|W2.alloc (.cells #[x.kind,x.ind,x.fr,x.til,x.kf,x.kt,x.rf,x.rt, .slice pk mk ck] 45);obtain⟨X,eo⟩:=exQ<|W2.heap.size;have b3:aA W2 W3:=by rw[<-a6];exact aL _ _
 have h3:W3.heap[X]?=some (.cells #[x.kind,x.ind,x.fr,x.til,x.kf,x.kt,x.rf,x.rt, .slice pk mk ck] 45):=by rw[<-a6,<-eo];exact heap_alloc_new W2 _
 first
 |have _:=QN;obtain⟨W4,cH⟩:=exQ<|W3.alloc (.cells #[(5:Int), .string ⟨#[]⟩,(),()] 36)
  obtain⟨Y,fY⟩:=exQ<|W3.heap.size;have b4:aA W3 W4:=by rw[<-cH];exact aL _ _
  have h4:W4.heap[Y]?=some (.cells #[(5:Int),bs [],(),()] 36):=by rw[<-cH,<-fY];exact heap_alloc_new W3 _
 |skip
 have bo:=(b2.block D (aG h1)).trans h1;have d8:=(b3.block D (aG bo)).trans bo;have ey:=(b3.block R (aG h2)).trans h2;have bh:=hid (aE b1 b2);have ax:=hid (aE bh.out b3);first|have _:=QN;have wV:=hid (aE ax.out b4);have ew:=hid b4|have jm:=hid (aD W3.heap.size W3)
 have H3:=hid (aK d8 (aK ey h3));first|have _:=QN;have H4:=hid h4|skip
 have bN:Hid (∀w',aA W3 w'->(w'.cell? (D,0)=some (.string (bs s))/\w'.cell? (D,1)=some (.slice pl nl cl)/\w'.cell? (D,2)=some (.slice (some ⟨gn,0,none⟩) nz cn))/\(w'.cell? (X,0)=some (.int .i64 (x.kind:Int))/\w'.cell? (X,6)=some (.int .i64 x.rf)/\w'.cell? (X,7)=some (.int .i64 x.rt)/\w'.cell? (X,8)=some (.slice pk mk ck))/\w'.heap[R]?=some (.cells #[(0:Int),bs [],(),()] 36)):=hid (λw' h=>by obtain⟨e0,e1,e2,_⟩:=eA ((h.block D (aG d8)).trans d8);obtain⟨f0,f1,f2,f3,f4,f5,f6,f7,f8⟩:=kD ((h.block X (aG h3)).trans h3);exact⟨⟨e0,e1,e2⟩,⟨f0,f6,f7,f8⟩,(h.block R (aG ey)).trans ey⟩);have j9:R<W3.heap.size:=aG ey;first|have _:=QN;have cd:W3.heap.size<=Y:=by omega|skip
 have np:w.heap.size<=R:=by rw[<-fP];exact b1.size
 have mJ:w.heap.size<=W3.heap.size:=ax.out.size;have jn:Hid (∀w',aA W3 w'->eP B d (.slice pl nl cl) (.slice (some ⟨gn,0,none⟩) nz cn) w'):=hid (λw' h=>(hD0.keep ax.out).keep h);have jg:Hid (∀w',aA W3 w'->bV w'):=hid (λw' h=>(hV.keep ax.out).keep h);first|have _:=QN;have iI:Hid (∀(a b:Int) w',Calls prog 28 #[.agg #[bs s, .slice pl nl cl,(gn,nz,cn)], .agg #[a,b]] w' (aT w' (.string (bs (iD s a b))))):=hid (λa b w'=>Cs s _ _ ⟨_,_,_,rfl⟩ ⟨_,_,_,rfl⟩ a b w' DO)|skip
 have bU: ∀j u,j<9->(iK y)[j]?=some u->W2.cell? ⟨gn,k*9+j,none⟩=some u:=λj u hj hu=>by
   exact cB (HC.out j u hj hu) bh.out
 have y0:=bU 0 _ a_ rfl;have y1:=bU 1 _ a_ rfl;have y2:=bU 2 _ a_ rfl;have y3:=bU 3 _ a_ rfl;have y4:=bU 4 _ a_ rfl;have y5:=bU 5 _ a_ rfl;have y6:=bU 6 _ a_ rfl;have y7:=bU 7 _ a_ rfl;have y8:=bU 8 _ a_ rfl;rw[fp] at y0 y1 y2 y3 y4 y5 y6 y7;rw[bu] at y8;simp only[Nat.add_zero] at y0;have d2:W2.cell? (D,2)=some (.slice (some ⟨gn,0,none⟩) nz cn):=(eA bo).2.2.1;have kK:=hid (aK dt hW);have gt:=hid (hT.kid fl);have fU:=hid (cA.symm.trans fj);first|have _:=QN;have uW:=hlev.out;clear b1 b2 b3 b4 h1 h2 h3 h4 bo d8 ey hz bO cS fh bu hx hy fp cA kz jk eD bU dt fj hT hD0 hV|have jV:=hid (hli x (bH fl));clear b1 b2 b3 h1 h2 h3 bo d8 ey hz bO cS fh bu hx hy fp cA kz jk eD bU dt fj hT hD0 hV
 obtain⟨kd,lg⟩: ∃kd:Int,(if x.kind=3 then 6 else 5:Int)=kd:=⟨_,rfl⟩;obtain⟨xk,fZ⟩: ∃xk:Int,(x.kind:Int)=xk:=⟨_,rfl⟩;have dT:aX s d (lv+1) k= .mk kd [] (eB s d.nodes x.kind x.kids) (x.kids.map (aX s d lv)):=by
   rw[<-lg];show aX s d (lv+1) k=_
   conv=>lhs;unfold aX
   rw[fl];simp only[];rw[if_neg h1,if_neg h4];rfl
 rw[dT];rw[fZ] at a6 bN H3 y0
 first
 |have _:=QS;have b4:=aL W3 (.cells #[(5:Int), .string ⟨#[]⟩,(),()] 36);have sT:=heap_alloc_new W3 (.cells #[(5:Int), .string ⟨#[]⟩,(),()] 36);obtain⟨Y,fY⟩:=exQ<|W3.heap.size;obtain⟨W4,cH⟩:=exQ<|W3.alloc (.cells #[(5:Int), .string ⟨#[]⟩,(),()] 36);rw[cH] at b4 sT;have ew:=hid b4;rw[fY] at sT;have H4:Hid (W4.heap[Y]?=some (.cells #[(5:Int),bs [],(),()] 36)):=hid sT;have cd:W3.heap.size<=Y:=a_
 |skip
 have k1:(xk==1)=false:=aI.2 a_;have k4:(xk==4)=false:=aI.2 a_;have oa:=hid (aK fZ lg)
 first
 |have _:=QN;have og:Hid (∀w',aA W3 w'-> ∀q∈x.kids,Calls prog 26 #[.agg #[bs s, .slice pl nl cl,(gn,nz,cn)], .int .i64 (q:Int),(lev+1:Int)] w' (jJ (aX s d lv q) w')):=hid (λw' bM q Z=>by obtain⟨⟨m',lP⟩,_⟩:=gt.out q Z;exact IH B _ _ q m' (lev+1) w' lP (hid (by have:=hlev.out;omega)) a_ (jn.out w' bM) (jg.out w' bM))
 |have og:Hid (∀w',aA W3 w'-> ∀q∈x.kids,Calls prog 13 #[.agg #[bs s, .slice pl nl cl,(gn,nz,cn)], .int .i64 (q:Int)] w' (jJ (aX s d lv q) w')):=hid (λw' bM q Z=>by obtain⟨⟨m',lP⟩,_⟩:=gt.out q Z;exact IH B _ _ q m' w' lP a_ (jn.out w' bM) (jg.out w' bM))
 have ye:Hid (CS W3 Y 5 [] [] [] (.slice none 0 0) (.slice none 0 0) W4):=hid (by have:=CS.start (aD W3.heap.size W3) 5 [];rw[fY] at this;rw[<-cH];exact this);first|have _:=QN;have fD:decide ((32:Int)<lev)=false:=aJ a_;have jI:IntKind.i64.wrap (lev+1)=lev+1:=IntWalk.i64_in _ a_|skip
 have hDR3:D<W3.heap.size:=aG H3.out.1;have hW:=kK.out.2;have hmk0:(0:Int)<=(mk:Int):=a_
 first|have _:=QN;clear dT lg fZ h1 h4 fl IH uW|have nF:=hid cH;clear dT lg fZ h1 h4 fl IH b4 sT cH
 go_in;go_upto_region 1 with fail;clear bp aw f9 fP;go_upto_region 2 with fail;clear a6 eo y0 y1 y2 y3 y4 y5 y6 y7 y8 d2
 first
 |have _:=QN;have nF:=hid cH;clear cH;go_upto_region 3 with fail
 |obtain⟨⟨e0,e1,e2⟩,⟨x0,x6,x7,x8⟩,hr⟩:=bN.out W3 jm.out;go_upto_region 9 with fail
 first | rw[nF.out] | skip
 first|have _:=QN;clear fY|clear fY e0 e1 e2 x0 x6 x7 x8 hr
 obtain⟨⟨e0,e1,e2⟩,⟨x0,x6,x7,x8⟩,hr⟩:=bN.out W4 ew.out;have mh:=aG H4.out;obtain⟨c0,c1,c2,c3,f0,f1,f2,f3⟩:=bK H4.out;clear hr;obtain⟨W5,mt⟩: ∃W5,(W5=W4\/W5=W4.setCell ⟨Y,0,none⟩ (.int .i64 6))/\Hid (CS W3 Y kd [] [] [] (.slice none 0 0) (.slice none 0 0) W5)/\((xk==3)=true->W5=W4.setCell ⟨Y,0,none⟩ (.int .i64 6))/\((xk==3)=false->W5=W4):=by
   by_cases h3:xk=3
   · have BF:kd=6:=(by rw[<-oa.out.2,if_pos (by have:=oa.out.1;omega)]);refine⟨_, .inr rfl,hid ?_,λ_=>rfl,λe=>absurd h3 (aI.1 e)⟩;have h:=ye.out;refine⟨?_,bZ.nil _ _,λe=>(by cases e),gM.nil _ _ _,h.bel.setCell (p:=⟨Y,0,none⟩) h.new_ _,h.new_⟩;rw[BF];exact rM h.box 0 _
   · have Bk:kd=5:=(by rw[<-oa.out.2,if_neg (by have:=oa.out.1;omega)]);exact⟨_, .inl rfl,by rw[Bk];exact ye,λe=>absurd (eq_of_beq e) h3,λ_=>rfl⟩
 obtain⟨y9,HC,td,ub⟩:=mt;have zY: ∀(b:Bool),(xk==3)=b->Hid (CS W3 Y kd [] [] [] (.slice none 0 0) (.slice none 0 0) (if b then W4.setCell ⟨Y,0,none⟩ (.int .i64 6) else W4)):=λb bS=>by
   cases b with
   | true=>rw[if_pos rfl,<-td bS];exact HC
   | false=>rw[if_neg e_,<-ub bS];exact HC
 clear y9 HC td ub;obtain⟨b3,cj⟩:=exQ (xk==3);have pD:=zY b3 cj;have em:=hid cj;clear zY;cases b3 with
 | false =>
   rw[if_neg e_] at pD;have HC:=pD
   first
   |have _:=QN;go_upto_region 12 with fail
   |go_upto_region 11 with fail
   clear c0 c1 c2 c3 f0 f1 f2 f3;go_wp2_with fail;clear x0 x6 x7 x8 e0 e1 e2;first|have _:=QN;go_loopw [50,12,13,14] (λfi jT gp eu wr=> ∃(i:Nat) (kv ov:Value),fi= .int .i64 (i:Int)/\i<=mk/\Hid (CS W3 Y kd [] (eB s d.nodes x.kind (x.kids.take i)) ((x.kids.take i).map (aX s d lv)) kv ov wr)) (λfi _ _ _ _=>mk-(RowKit.intOf fi).toNat)|go_loopw [9,10,11,12] (λfi jT gp eu wr=> ∃(i:Nat) (kv ov:Value),fi= .int .i64 (i:Int)/\i<=mk/\Hid (CS W3 Y kd [] (eB s d.nodes x.kind (x.kids.take i)) ((x.kids.take i).map (aX s d lv)) kv ov wr)) (λfi _ _ _ _=>mk-(RowKit.intOf fi).toNat)
   case atStart=>exact⟨0, .slice none 0 0, .slice none 0 0,rfl,cI _,by rw[List.take_zero,Cu];first | exact HC | exact hid (HC.out.keep (aD _ _).drew)⟩
   case round=>
     clear HC;obtain⟨i,kv,ov,rfl,hi,HC⟩:=hrel;obtain⟨⟨e0,e1,e2⟩,⟨x0,x6,x7,x8⟩,hr⟩:=bN.out wr HC.out.bel;by_cases hil:i<mk
     · obtain⟨q,Z⟩: ∃q,x.kids[i]?=some q:=⟨_,bI (by rw[kK.out.1];exact hil)⟩;have je:=bH Z;obtain⟨gk,rfl,kc⟩:=nE.out wr (ax.out.trans (HC.out.bel.mono mJ)) i q Z;obtain⟨_,ju⟩:=gt.out q je;have cN:(i:Int)<(mk:Int):=a_;have dk:decide ((i:Int)<(mk:Int))=true:=aQ cN;have du:(0:Int)<=(i:Int):=a_;have BN:q<nz:=by have:=fU.out;omega
       have rR:decide ((q:Int)<0)=false:=aJ a_;have rd:decide ((nz:Int)<=(q:Int))=false:=aJ a_;have v8:decide (nz<=q)=false:=aJ a_;have io:(0:Int)<=(q:Int):=a_;have k9:(q:Int)<(nz:Int):=a_;have kJ:=hid (sW Z);obtain⟨pa,ca,bu⟩:=HC.out.keys.slice;obtain⟨po,co,gJ⟩:=HC.out.its.slice;have bc:((x.kids.take i).map (aX s d lv)).length=i:=by rw[bP,bR];have:=kK.out.1;omega
       rw[bc] at gJ;obtain⟨nk,cM⟩:=exQ<|(eB s d.nodes x.kind (x.kids.take i)).length;have mO:nk<=131072:=by
         rw[<-cM];unfold eB;split
         · rw[bP,bR];omega
         · exact cI _
       rw[cM] at bu;subst bu gJ;have lT:=hid cM;have qj:=hid je
       first
       |have _:=QS;have wu:=hid Z;have i6: ∀w',aA W3 w'->w'.cell? ⟨gk,i,none⟩=some (.int .i64 (q:Int)):=λw' bM=>by exact j7
        have km:gk<Y:=iG (World.block_lt_of_cell? W3 _ (i6 W3 jm.out)) cd;have BW:X<Y:=iG (aG H3.out.2.2) cd;have mF:=hid (aK i6 km);clear i6 km
       |skip
       obtain⟨yq,qT⟩: ∃yq,d.nodes[q]?=some yq:=⟨_,bI ju⟩;have qr:=hid qT;clear Z je cM bc qT
       first
       |have _:=QN;go_upto_if 70 with fail;go_cut [71,72,73,74,75,76,77,78,79,80,81,82,83,84,85,86,87,88,13,14] (λqX oE pw pc qh oT oi py oe oR qM pK pE vb BZ A2 A3 Bn gp eu wx=> ∃cX,Hid (CS W3 Y kd [] (eB s d.nodes x.kind (x.kids.take (i+1))) ((x.kids.take i).map (aX s d lv)) cX (.slice po i co) wx))
       |go_upto_if 56 with fail;go_cut [57,58,59,60,61,62,63,64,65,66,67,68,69,70,71,72,73,74,75,76,77,78,79,80,81,82,83,84,10,11,12] (λri rG uG va rp vQ uH uR vC lW uQ uT u1 uU qX oE pw pc qh oT oi py oe oR qM pK pE vb jF lO jT wx=> ∃cX,Hid (CS W3 Y kd [] (eB s d.nodes x.kind (x.kids.take (i+1))) ((x.kids.take i).map (aX s d lv)) cX (.slice po i co) wx))
       case first=>
         have fw: ¬x.kind=3:=λe=>by have h1:=oa.out.1;have h2:=aI.1 em.out;omega
         have ji:Hid (CS W3 Y kd [] (eB s d.nodes x.kind (x.kids.take (i+1))) ((x.kids.take i).map (aX s d lv)) (.slice pa nk ca) (.slice po i co) wr):=hid (by have:=HC.out;unfold eB at this ⊢;rw[if_neg fw] at this ⊢;exact this);clear fw;exact mw
       case rest=>exact ES
     .exact ET
 | true=>
   rw[if_pos rfl] at pD;obtain⟨W5,mt⟩:=exQ<|W4.setCell ⟨Y,0,none⟩ (.int .i64 6);rw[mt] at pD;have HC:=pD
   first
   |have _:=QN;go_upto_region 12 with fail
   |go_upto_region 11 with fail
   clear mt c0 c1 c2 c3 f0 f1 f2 f3 x0 x6 x7 x8 e0 e1 e2;obtain⟨⟨e0,e1,e2⟩,⟨x0,x6,x7,x8⟩,_⟩:=bN.out W5 HC.out.bel;go_wp2_with fail;clear x0 x6 x7 x8 e0 e1 e2;first|have _:=QN;go_loopw [50,12,13,14] (λfi jT gp eu wr=> ∃(i:Nat) (kv ov:Value),fi= .int .i64 (i:Int)/\i<=mk/\Hid (CS W3 Y kd [] (eB s d.nodes x.kind (x.kids.take i)) ((x.kids.take i).map (aX s d lv)) kv ov wr)) (λfi _ _ _ _=>mk-(RowKit.intOf fi).toNat)|go_loopw [9,10,11,12] (λfi jT gp eu wr=> ∃(i:Nat) (kv ov:Value),fi= .int .i64 (i:Int)/\i<=mk/\Hid (CS W3 Y kd [] (eB s d.nodes x.kind (x.kids.take i)) ((x.kids.take i).map (aX s d lv)) kv ov wr)) (λfi _ _ _ _=>mk-(RowKit.intOf fi).toNat)
   case atStart=>exact⟨0, .slice none 0 0, .slice none 0 0,rfl,cI _,by rw[List.take_zero,Cu];first | exact HC | exact hid (HC.out.keep (aD _ _).drew)⟩
   case round=>
     clear HC;obtain⟨i,kv,ov,rfl,hi,HC⟩:=hrel;obtain⟨⟨e0,e1,e2⟩,⟨x0,x6,x7,x8⟩,hr⟩:=bN.out wr HC.out.bel;by_cases hil:i<mk
     · obtain⟨q,Z⟩: ∃q,x.kids[i]?=some q:=⟨_,bI (by rw[kK.out.1];exact hil)⟩;have je:=bH Z;obtain⟨gk,rfl,kc⟩:=nE.out wr (ax.out.trans (HC.out.bel.mono mJ)) i q Z;obtain⟨_,ju⟩:=gt.out q je;have cN:(i:Int)<(mk:Int):=a_;have dk:decide ((i:Int)<(mk:Int))=true:=aQ cN;have du:(0:Int)<=(i:Int):=a_;have BN:q<nz:=by have:=fU.out;omega
       have rR:decide ((q:Int)<0)=false:=aJ a_;have rd:decide ((nz:Int)<=(q:Int))=false:=aJ a_;have v8:decide (nz<=q)=false:=aJ a_;have io:(0:Int)<=(q:Int):=a_;have k9:(q:Int)<(nz:Int):=a_;have kJ:=hid (sW Z);obtain⟨pa,ca,bu⟩:=HC.out.keys.slice;obtain⟨po,co,gJ⟩:=HC.out.its.slice;have bc:((x.kids.take i).map (aX s d lv)).length=i:=by rw[bP,bR];have:=kK.out.1;omega
       rw[bc] at gJ;obtain⟨nk,cM⟩:=exQ<|(eB s d.nodes x.kind (x.kids.take i)).length;have mO:nk<=131072:=by
         rw[<-cM];unfold eB;split
         · rw[bP,bR];omega
         · exact cI _
       rw[cM] at bu;subst bu gJ;have lT:=hid cM;have qj:=hid je
       first
       |have _:=QS;have wu:=hid Z;have i6: ∀w',aA W3 w'->w'.cell? ⟨gk,i,none⟩=some (.int .i64 (q:Int)):=λw' bM=>by exact j7
        have km:gk<Y:=iG (World.block_lt_of_cell? W3 _ (i6 W3 jm.out)) cd;have BW:X<Y:=iG (aG H3.out.2.2) cd;have mF:=hid (aK i6 km);clear i6 km
       |skip
       obtain⟨yq,qT⟩: ∃yq,d.nodes[q]?=some yq:=⟨_,bI ju⟩;have qr:=hid qT;clear Z je cM bc qT
       first
       |have _:=QN;go_upto_if 70 with fail;go_cut [71,72,73,74,75,76,77,78,79,80,81,82,83,84,85,86,87,88,13,14] (λqX oE pw pc qh oT oi py oe oR qM pK pE vb BZ A2 A3 Bn gp eu wx=> ∃cX,Hid (CS W3 Y kd [] (eB s d.nodes x.kind (x.kids.take (i+1))) ((x.kids.take i).map (aX s d lv)) cX (.slice po i co) wx))
       |go_upto_if 56 with fail;go_cut [57,58,59,60,61,62,63,64,65,66,67,68,69,70,71,72,73,74,75,76,77,78,79,80,81,82,83,84,10,11,12] (λri rG uG va rp vQ uH uR vC lW uQ uT u1 uU qX oE pw pc qh oT oi py oe oR qM pK pE vb jF lO jT wx=> ∃cX,Hid (CS W3 Y kd [] (eB s d.nodes x.kind (x.kids.take (i+1))) ((x.kids.take i).map (aX s d lv)) cX (.slice po i co) wx))
       case first=>
         have fw:x.kind=3:=by have h1:=oa.out.1;have h2:=eq_of_beq em.out;omega
         obtain⟨qP,ka⟩:=exQ<|yq.kf;obtain⟨pH,kh⟩:=exQ<|yq.kt;obtain⟨qs,nW⟩:=exQ<|iD s qP pH;obtain⟨⟨key,ke⟩,kL⟩:=exQ<|jW qs;have kl:lM s d.nodes q=key:=by
           unfold lM;rw[qr.out];simp only[];rw[ka,kh,nW,kL]
         first|have _:=QN;have zZ:=hid (λw'=>iI.out qP pH w');rw[nW] at zZ|skip
         have uh:=yZ s qP pH;rw[nW] at uh;obtain⟨W0,al⟩:=exQ<|wr.drew;have fK:aA wr W0:=by rw[<-al];exact(aD _ _).drew
         have da:Hid (aA W3 W0):=hid (aE HC.out.bel fK)
         first
         |have _:=QN;have wf:Hid (∀w',aA W0 w'->Calls prog 48 #[bs qs] w' (aT w' (.tuple #[bs key,ke]))):=hid (λw' bM=>by have:=Mj qs w' DO (jg.out w' (aE da.out bM));rw[kL] at this;exact this);have CG:Hid (∀w',aA W0 w'->w'.cell? (D,0)=some (.string (bs s))/\w'.cell? (D,1)=some (.slice pl nl cl)/\w'.cell? (D,2)=some (.slice (some ⟨gn,0,none⟩) nz cn)/\w'.cell? ⟨gn,q*9+4,none⟩=some (.int .i64 qP)/\w'.cell? ⟨gn,q*9+5,none⟩=some (.int .i64 pH)):=hid (λw' bM=>by obtain⟨⟨a3,a4,a5⟩,_,_⟩:=bN.out w' (aE da.out bM);obtain⟨n4,n5⟩:=kI.out w' (aE ax.out (aE da.out bM)) q yq qr.out;rw[ka] at n4;rw[kh] at n5;exact⟨a3,a4,a5,n4,n5⟩)
         |have wf:Hid (∀w',aA W0 w'->Calls prog 33 #[bs qs] w' (aT w' (.tuple #[bs key,ke]))):=hid (λw' bM=>by have:=HKy.out qs w' DO (jg.out w' (aE da.out bM));unfold mT at this;rw[kL] at this;exact this);obtain⟨f,e,hf,he,pN,wW,i4⟩:=Qt (hli yq (bH qr.out)).1.1;rw[ka] at hf;rw[kh] at he;have zK:=hid (aK ka kh);rw[ka,kh,nW] at i4;obtain⟨p1,zN,p2,mj,BM,AJ,AZ,ng⟩:=(jn.out W0 da.out).read;injection AJ with e2a e2b e2c;clear BM e2b e2c AZ;obtain⟨gn',Cy,dh,⟨u2,uX,yH,_⟩,pU⟩:=ng q yq qr.out;rw[<-e2a] at dh;injection dh with dh;injection dh with dh;subst dh;obtain⟨q0,q1,q2,q3,q4,q5,q6,q7,q8⟩:=Cr pU;clear e2a ng pU;rw[yH] at q8;obtain⟨⟨s0,s1,s2⟩,⟨t0,t6,t7,t8⟩,_⟩:=bN.out W0 da.out;obtain⟨oy,eZ,vf⟩:=nE.out W0 (aE ax.out da.out) i q wu.out;have sa:oy=gk:=by
            injection eZ with eZ;injection eZ with eZ;exact eZ.symm
          rw[sa] at vf;clear sa eZ;have bz:=aL W0 (.cells #[(0:Int),(0:Int),(0:Int),(0:Int),(0:Int),(0:Int),(0:Int),(0:Int),()] 45);have AI:=fM s2 bz;have C2:=fM t8 bz;have zu:=fM vf bz;have Bt:=fM q0 bz;have AS:=fM q1 bz;have Be:=fM q2 bz;have Bo:=fM q3 bz;have Do:=fM q4 bz;have AB:=fM q5 bz;have Ax:=fM q6 bz;have BD:=fM q7 bz;have AY:=fM q8 bz;clear bz
         have xE:Hid (CS W3 Y kd [] ((x.kids.take i).map (lM s d.nodes)) ((x.kids.take i).map (aX s d lv)) (.slice pa nk ca) (.slice po i co) wr):=hid (by have:=HC.out;unfold eB at this;rw[if_pos fw] at this;exact this);have i5:((x.kids.take i).map (lM s d.nodes)).length<=4294967295:=by rw[bP,bR];omega
         have cy:((x.kids.take i).map (lM s d.nodes)++ [key]).length=nk+1:=by
           have:=lT.out;unfold eB at this;rw[if_pos fw] at this;rw[aZ,this,dF]
         have jA:=hid (aK fw kl);have fu:=hid (aK cy i5);clear fw ka kh nW kL kl cy i5 fK uh
         first
         |have _:=QN;go_upto_region 18 with fail
         |skip
         clear x0 x6 x7 x8 e0 e1 e2 kc hr
         first
         |have _:=QN;refine mZ [72,73,74,75,76,77,78,79,80,71,81,82,13,14] 101 [.agg #[bs s, .slice pl nl cl,(gn,nz,cn)],(D,2),(gn,nz,cn), .int .i64 (q:Int), .pointer (some ⟨gn,q*9,none⟩), .pointer (some ⟨gn,q*9+4,none⟩), .agg #[qP,pH],bs qs, .tuple #[bs key,ke], .tuple #[bs key,ke],bs key,ke,bs key,ke] (λw'=>aA W0 w') [7,8,0,1,2,3,4,5,6,9,10,11,12,13] i_ ?_ ?_
          · intro dd a w' iq o' hO ho hi F aa G R' I;have Z:=dW aa [(3,some D),(12, .int .i64 (q:Int))] rfl rfl;have hc:=G.all [(9,71),(0,72),(1,73),(2,74),(3,75),(4,76),(5,77),(6,78),(7,79),(8,80),(10,81),(11,82)] b_;dsimp only[dS,dM,lk] at Z hc;clear aa;obtain⟨s0,s1,s2,q4,q5⟩:=CG.out _ G.st
            repeat' rcases hO with _ | ⟨_,hO⟩
            all_goals (simp only[cR,cP,bY,cC] at ho;subst ho;try simp[Region.binds] at F)
            · have Bc:=G.g 0 72 c_;have c78:=G.g 6 78 c_;refine jD ?_;go_simp;go_at_call 28;refine aH (zZ.out _) λw5 ag=>?_;exact df
            · have c79:=G.g 7 79 c_;refine jD ?_;go_simp;go_at_call 48;refine aH (wf.out _ G.st) λw5 ag=>?_;exact df
            iterate 12 (refine jD ?_;go_simp;exact I _ _ G.sp)
          intro wz hS;simp only[iU,cY,cQ,cZ];have iy:=hid hS;have jy:Hid (CS W3 Y kd [] ((x.kids.take i).map (lM s d.nodes)) ((x.kids.take i).map (aX s d lv)) (.slice pa nk ca) (.slice po i co) wz):=hid ((xE.out.keep (show aA wr W0 from by rw[<-al];exact(aD _ _).drew)).keep hS);clear hS
         |have pV:=hid (aK hf he);clear hf he;go_upto_region 15 with fail;go_region;have bq:=aL W0 (.cells #[.int .i64 (yq.kind:Int), .int .i64 yq.ind, .int .i64 (yq.fr:Int), .int .i64 (yq.til:Int), .int .i64 yq.kf, .int .i64 yq.kt, .int .i64 yq.rf, .int .i64 yq.rt, .slice u2 yq.kids.length uX] 45);have sz:=heap_alloc_new W0 (.cells #[.int .i64 (yq.kind:Int), .int .i64 yq.ind, .int .i64 (yq.fr:Int), .int .i64 (yq.til:Int), .int .i64 yq.kf, .int .i64 yq.kt, .int .i64 yq.rf, .int .i64 yq.rt, .slice u2 yq.kids.length uX] 45);obtain⟨N,hN⟩:=exQ<|W0.heap.size;obtain⟨Wq,xW⟩:=exQ<|W0.alloc (.cells #[.int .i64 (yq.kind:Int), .int .i64 yq.ind, .int .i64 (yq.fr:Int), .int .i64 (yq.til:Int), .int .i64 yq.kf, .int .i64 yq.kt, .int .i64 yq.rf, .int .i64 yq.rt, .slice u2 yq.kids.length uX] 45);rw[xW] at bq sz ⊢;rw[hN] at sz ⊢;have qy:=hid bq;obtain⟨_,_,_,_,u4,u5,_,_,_⟩:=kD sz;rw[zK.out.1,pV.out.1] at u4;rw[zK.out.2,pV.out.2] at u5;clear s0 s1 s2 t0 t6 t7 t8 vf q0 q1 q2 q3 q4 q5 q6 q7 q8 AI C2 zu Bt AS Be Bo Do AB Ax BD AY bq sz xW hN;obtain⟨⟨s0,s1,s2⟩,_,_⟩:=bN.out Wq (aE da.out qy.out);have Ac:(0:Int)<=(f:Int):=a_;have xM:(f:Int)<=(e:Int):=a_;have kA:=aP s;have yl:(e:Int)<=(s.length:Int):=a_;have mc:=hb.txt;go_wp2_with fail;refine aH (wf.out _ (by first | exact qy.out | exact qy.out.drew)) λwz dB=>?_;have iy:Hid (aA W0 wz):=hid (by first | exact aE qy.out dB | exact aE qy.out.drew dB);have jy:Hid (CS W3 Y kd [] ((x.kids.take i).map (lM s d.nodes)) ((x.kids.take i).map (aX s d lv)) (.slice pa nk ca) (.slice po i co) wz):=hid ((xE.out.keep (show aA wr W0 from by rw[<-al];exact(aD _ _).drew)).keep iy.out);clear dB s0 s1 s2 u4 u5
         obtain⟨c0,c1,c2,c3,f0,f1,f2,f3⟩:=jy.out.cells;have yM:=aG jy.out.box
         first
         |have _:=QN;go_wp2_with (at_builtin;refine wpList_step λK hK=>?_;rw[if_pos DS];refine lH.app (W:=W3) (W0:=wz) (Y:=Y) (key:=key) (.tmp 84) (.tmp 86) rfl jy.out ⟨wz,aD _ _,rfl,rfl⟩ rfl rfl fu.out.2 (λv1 w7 bE=>?_);have gx:=hid bE;obtain⟨i3,dD,hz⟩:=bE.1.slice;rw[fu.out.1] at hz;subst hz;obtain⟨yz,vI,zC,wg,Ds,Au,Cx,Bz⟩:=bK ((gx.out.2.2.2.1 Y yM jy.out.off).trans jy.out.box);clear bE c0 c1 c2 c3 f0 f1 f2 f3;refine hK _ _ ?_)
         |go_wp2_with (at_builtin;refine wpList_step λK hK=>?_;rw[if_pos DS];refine lH.app (W:=W3) (W0:=wz) (Y:=Y) (key:=key) (.tmp 80) (.tmp 82) rfl jy.out ⟨wz,aD _ _,rfl,rfl⟩ rfl rfl fu.out.2 (λv1 w7 bE=>?_);have gx:=hid bE;obtain⟨i3,dD,hz⟩:=bE.1.slice;rw[fu.out.1] at hz;subst hz;obtain⟨yz,vI,zC,wg,Ds,Au,Cx,Bz⟩:=bK ((gx.out.2.2.2.1 Y yM jy.out.off).trans jy.out.box);clear bE c0 c1 c2 c3 f0 f1 f2 f3;refine hK _ _ ?_)
         obtain⟨pM,yj⟩:=lH.fin (c:=undef) (w':=w7.setCell ⟨Y,2,none⟩ (.slice i3 (nk+1) dD)) jy.out ⟨_,_,gx.out,rfl⟩;have fH:Hid (CS W3 Y kd [] (eB s d.nodes x.kind (x.kids.take (i+1))) ((x.kids.take i).map (aX s d lv)) pM (.slice po i co) (w7.setCell ⟨Y,2,none⟩ (.slice i3 (nk+1) dD))):=hid (by unfold eB;rw[if_pos jA.out.1,kJ.out,lJ];show CS W3 Y kd [] (_++ [lM s d.nodes q]) _ _ _ _;rw[jA.out.2];exact yj);clear yj;exact mx
       case rest=>exact ES
     .exact ET):P:=h
theorem PM(h:P:=by
 first
 |first|have:=RE|have:=RF
  obtain⟨R,I⟩:=exQ<|gC x lv a st;rw[I];unfold gC at I;obtain⟨i0,du,ds,ee,ei⟩:=info_parts infoYnode;unfold wT;have b0:=aL w (.cells (gD x) 45);have iu:=heap_alloc_new w (.cells (gD x) 45);have pm:w.heap.size<(w.alloc (.cells (gD x) 45)).heap.size:=e_
  have gd:=h.put b0 (aF _) iu;have fI: ∀k o,Pr k=some o->(Pr.put w.heap.size (.cells (gD x) 45)) k=some o:=aO.put_less (λk o hk=>h.frLt k o hk) (aF _);have bT:=hid (h.keep b0);unfold gD at b0 iu bT gd pm fI;obtain⟨X,eo⟩:=exQ<|w.heap.size;obtain⟨W1,bp⟩:=exQ<|w.alloc (.cells #[x.kind,x.ind,x.fr,x.til,x.kf,x.kt,x.rf,x.rt,()] 45);rw[bp] at b0 iu bT gd pm;rw[eo] at iu gd pm fI;have HP:=hid gd;have HX:=hid iu;have av:=hid fI;clear h b0 gd fI iu;by_cases h0:lv=0
  .rw[if_pos h0] at I;have hlev:=hl.out;have d1:decide ((32:Int)<lev)=true:=aQ a_;first|have:=RE;have CF:=hid (λw' hj=>qV (Pr:=Pr) (w0:=w0) (P:=P) (txt:=txt) (sp:=sp) (st:=st) (a0:=0) (e0:=0) a 5 w' hj)|have CF:=hid (λw' hj=>tV (Pr:=Pr) (w0:=w0) (P:=P) (txt:=txt) (sp:=sp) (st:=st) (a0:=0) (e0:=0) a 5 w' hj)
   have HR:=hid I;clear hlev h0 I;go_in;go_wp2_with fail;refine aH (CF.out _ bT.out) λw2 hj=>?_;exact oj
  rw[if_neg h0] at I;have d1:decide ((32:Int)<lev)=false:=aJ G5;obtain⟨z,sv,lvv,nv,hz,hK⟩:=HP.out;obtain⟨⟨c0,c1,c2,c3,c4,c5,c6⟩,f2,f3,f4,f5,f6⟩:=hK.cells;have hPl:=hK.lt;have cA:z.length=st.nodes.length:=IP
  by_cases h4:4096<=st.total
  .rw[if_pos h4] at I;have d2:decide ((4096:Int)<=(st.total:Int))=true:=aQ a_;first|have:=RE;have CF:=hid (λw' hj=>qV (Pr:=Pr) (w0:=w0) (P:=P) (txt:=txt) (sp:=sp) (st:=st) (a0:=0) (e0:=0) a 6 w' hj)|have CF:=hid (λw' hj=>tV (Pr:=Pr) (w0:=w0) (P:=P) (txt:=txt) (sp:=sp) (st:=st) (a0:=0) (e0:=0) a 6 w' hj)
   have HR:=hid I;clear h0 I h4 hK hz cA;go_in;go_wp2_with fail;refine aH (CF.out _ (by first | exact bT.out | exact bT.out.keep (aD _ _).drew)) λw2 hj=>?_;exact oj
  rw[if_neg h4] at I;have d2:decide ((4096:Int)<=(st.total:Int))=false:=aJ a_;have sS:IntKind.i64.wrap ((st.total:Int)+1)=(st.total:Int)+1:=IntWalk.i64_in _ a_;have HR:=hid I;have uD:=hK.count (st.total+1);rw[show ((st.total+1:Nat):Int)=(st.total:Int)+1 by omega] at uD;obtain⟨n,hn⟩:=exQ<|z.length;have BJ:n<=4096:=a_
  have fU:=hid (aK hz (aK cA hn));have zG:=hid uD;clear h0 I h4 hK hz cA uD hn hN;go_in
 |have I:=HR.out;rw[if_pos bc] at I;have cf:=hid I;rw[aJ bc] at CT;clear I bc HR;go_wp2_with fail;refine aH (CT.out _ GJ) λw3 cj=>?_;have ex:=hid (fo.out.keep FI);clear cj;go_upto_region 5 with fail;obtain⟨W0,al⟩:=exQ<|w3.drew;have cg:=ex.out.keep (aD _ w3).drew;rw[al] at cg;have bT:=hid cg;obtain⟨SA,ak⟩: ∃S:World->Prop,(λw'=>w'.cell? (P,0)=some (.string (bs txt)))=S:=⟨_,rfl⟩;have am:Hid (∀w',aA W0 w'->SA w'):=hid (λw' hb=>by rw[<-ak];obtain⟨z,sv,lv,nv,hz,hK⟩:=bT.out.keep hb;exact hK.cells.1.1);have hbsz:=aP txt;clear cg;refine iV [17,18,19,20,21,22,23,24,25,26,27,5] [12] [12] 11 (oJ W0 42 #[(0:Int),(0:Int)]) 72 [some P,some P,some P,bs txt,txt.length,some P,some P,some P,bs txt,txt.length, .agg #[txt.length,txt.length]] SA (vG W0 42 #[txt.length,txt.length]) [11,12,0,1,2,4,5,6,7,9,10,3,8] j_ i_ ?_ ?_
  .intro d a w' iq o' hO ho hi F aa G R' I;have Z:=dW aa [(0,some P)] rfl rfl;have hc:=G.all [(0,17),(1,18),(2,19),(3,20),(4,21),(5,22),(6,23),(7,24),(8,25),(9,26),(10,27)] b_;dsimp only[dS,dM,lk] at Z hc;clear aa;have ha:=F;have aj:=ho
   repeat' rcases hO with _ | ⟨_,hO⟩
   all_goals (simp only[cR,cP,bY,cC] at ho;subst ho;try simp[Region.binds] at F)
   .have hA:aA W0 w':=G.at2 (j:=0) rfl (G.lastNot (f:=13) (i:=11) d' hi) (.inl rfl);have jz:=aL w' (.cells #[(0:Int),(0:Int)] 42);exact EG
   .have uu:=G.gg 10 27 c_;have ae:=G.at2 (j:=0) rfl hi (.inl rfl);obtain⟨Y,hY,cd,cx⟩:=G.fb hi c_;have hY:a.tmps.getD 5 undef= .pointer (some ⟨Y,0,none⟩):=hY;have c5:a.tmps[5]?.getD undef= .pointer (some ⟨Y,0,none⟩):=by rw[<-aN];exact hY
    obtain⟨z0,z1,h0,h1⟩:=aCm cx;have hA:aA W0 w':=ae;go_simp;exact I undef _ (G.ef 0 aj ha hi (.inl rfl) (λh=>absurd rfl h) (λh=>absurd rfl h) ⟨Y,hY,cd,aCn cx,aCo hA cd⟩)
   iterate 9 (go_simp;exact I _ _ (G.pu aj ha))
   all_goals
    have ab:=G.ea hi;rw[<-ak] at ab;have c0:=ab;exact ah
  intro v wz bf eg;obtain⟨X,hY,cd,cx,dB⟩:=eg;have d9:v 5= .pointer (some ⟨X,0,none⟩):=hY;have eC:=bT.out.put dB cd cx;have av:=hid (λq o Z=>aO.put_less (Pr:=Pr) (X:=X) (o:= .cells #[txt.length,txt.length] 42) (λq o' Z=>bT.out.frLt q o' Z) cd q o Z);have lG:=hid eC;simp only[cU,cY,cQ,cZ,d9];clear eC hY cd cx dB bf d9 am ak
 go_upto_region 6 with fail
 first
 |first|have:=RE|have:=RF
  clear bp eo;obtain⟨W2,aw⟩:=exQ<|(W1.setCell ⟨P,4,none⟩ (.int .i64 ((st.total:Int)+1))).drew;have bd:=zG.out.keep (aD _ _).drew;rw[aw] at bd
 |obtain⟨W2,aw⟩:=exQ<|wz.drew
  have gf:=lG.out.keep (aD _ wz).drew;rw[aw] at gf;obtain⟨z,sv,lv,nv,hz,bd⟩:=gf;have n9:z= []:=by simpa using hz
 obtain⟨pn,cn,re⟩:=bd.ndSlice
 first
 |first|have:=RE|have:=RF
  rw[fU.out.2.2] at re;subst re
 |obtain⟨n,hn⟩:=exQ<|z.length
  rw[hn] at re;subst re;have BJ:n<=4096:=by rw[<-hn,n9];simp
  have fU:=hid (aK n9 hn)
 have cJ:=hid bd;have bx:=bd.nod.row
 first
 |first|have:=RE|have:=RF
  rw[fU.out.2.2] at bx
 |rw[fU.out.2] at bx
 have cT:=hid bx;have da:=hid bd.bel.size
 first
 |first|have:=RE|have:=RF
  obtain⟨SB,dN⟩: ∃S:World->Prop,(λw'=>(w'.cell? (P,3)=some (.slice pn n cn)/\w'.frozen? ⟨P,3,none⟩=false)/\w'.cell? (X,0)=some (.int .i64 (x.kind:Int))/\w'.cell? (X,1)=some (.int .i64 x.ind)/\w'.cell? (X,2)=some (.int .i64 (x.fr:Int))/\w'.cell? (X,3)=some (.int .i64 (x.til:Int))/\w'.cell? (X,4)=some (.int .i64 x.kf)/\w'.cell? (X,5)=some (.int .i64 x.kt)/\w'.cell? (X,6)=some (.int .i64 x.rf)/\w'.cell? (X,7)=some (.int .i64 x.rt)/\w'.cell? (X,8)=some (.slice none 0 0))=S:=⟨_,rfl⟩;have cW:Hid (∀q c w',q<3->bW 45 w0.heap.size (.slice pn n cn) n (iT z) (gD x) P 3 W2 q c w'->SB w'):=hid (λq c w' Z hp=>by rw[<-dN];have hs:=cJ.out.seenA cT.out b_ (λj o hj=>(cJ.out.fr j o hj).2.2.2.1) Z hp;obtain⟨c2,f2⟩:=hs.c3;have hl:=hs.fr X _ (aO.put_eq _ _ _);exact⟨⟨c2,f2⟩,kD hl⟩);clear bd bx zG HP c0 c1 c2 c3 c4 c5 c6 f2 f3 f4 f5 f6
 |skip
 first
 |have:=RE;refine iV [32,33,34,35,36,37,38,39,40,41] [10] [6,7,10] 1000000 (λ_ _=>True) 48 [some P,some P,some P,(P,3), .slice pn n cn, .agg #[x.kind,x.ind,x.fr,x.til,x.kf,x.kt,x.rf,x.rt,()],undef,undef,some P,(P,3)] SB (bW 45 w0.heap.size (.slice pn n cn) n (iT z) (gD x) P 3 W2) [6,7,10,0,1,2,3,8,9,4,5] DY E9 ?_ ?_
 |have:=RF;refine iV [30,31,32,33,34,35,36,37,38,39] [10] [6,7,10] 1000000 (λ_ _=>True) 46 [some P,some P,some P,(P,3), .slice pn n cn, .agg #[x.kind,x.ind,x.fr,x.til,x.kf,x.kt,x.rf,x.rt,()],undef,undef,some P,(P,3)] SB (bW 45 w0.heap.size (.slice pn n cn) n (iT z) (gD x) P 3 W2) [6,7,10,0,1,2,3,8,9,4,5] DY E9 ?_ ?_
 |obtain⟨i0,du,ds,ee,ei⟩:=info_parts infoYnode;obtain⟨SB,dN⟩: ∃S:World->Prop,(λw'=>(w'.cell? (P,3)=some (.slice pn n cn)/\w'.frozen? ⟨P,3,none⟩=false)/\w'.cell? (X,0)=some (.int .i64 (txt.length:Int))/\w'.cell? (X,1)=some (.int .i64 (txt.length:Int)))=S:=⟨_,rfl⟩;have cW:Hid (∀q c w',q<3->bW 45 w0.heap.size (.slice pn n cn) n (iT z) (gD (⟨1,0,0,0,0,0,(txt.length:Int),(txt.length:Int),[]⟩:aV)) P 3 W2 q c w'->SB w'):=hid (λq c w' Z hp=>by rw[<-dN];have hs:=cJ.out.seenA cT.out b_ (λj o hj=>(cJ.out.fr j o hj).2.2.2.1) Z hp;obtain⟨c2,f2⟩:=hs.c3;have hl:=hs.fr X _ (aO.put_eq _ _ _);exact⟨⟨c2,f2⟩,jY hl⟩);clear bd bx hz n9 hn;refine iV [28,29,30,31,32,33,34,35,36,37,38] [11] [7,8,11] 1000000 (λ_ _=>True) 72 [some P,some P,some P,(P,3), .slice pn n cn, .agg #[txt.length,txt.length], .agg #[(1:Int),(0:Int),(0:Int),(0:Int),(0:Int),(0:Int),txt.length,txt.length,()],undef,undef,some P,(P,3)] SB (bW 45 w0.heap.size (.slice pn n cn) n (iT z) (gD (⟨1,0,0,0,0,0,(txt.length:Int),(txt.length:Int),[]⟩:aV)) P 3 W2) [7,8,11,0,1,2,3,6,9,10,4,5] DY E9 ?_ ?_
 .intro d a w' iq o' hO ho hi F aa G R' I;have Z:=dW aa [(0,some P),(5,some X)] rfl rfl;first|have:=RE;have hc:=G.all [(0,32),(1,33),(2,34),(3,35),(4,36),(5,37),(8,40),(9,41)] b_|have:=RF;have hc:=G.all [(0,30),(1,31),(2,32),(3,33),(4,34),(5,35),(8,38),(9,39)] b_|have hc:=G.all [(0,28),(1,29),(2,30),(3,31),(4,32),(5,33),(6,34),(9,37),(10,38)] b_
  dsimp only[dS,dM,lk] at Z hc;clear aa;have ha:=F;have aj:=ho
  repeat' rcases hO with _ | ⟨_,hO⟩
  all_goals (simp only[cR,cP,bY,cC] at ho;subst ho;try simp[Region.binds] at F)
  .first|have:=RE;have u6:=G.gg 5 37 c_|have:=RF;have AH:=G.gg 5 35 c_|have xb:=G.gg 6 34 c_
   exact fd
  first
  |first|have:=RE|have:=RF
   .first|have:=RE;have na:=G.gg 4 36 c_|have xb:=G.gg 4 34 c_
    have ad:d 6=true:=c_;have ae:=G.at2 (j:=1) rfl hi (.inr ⟨6,rfl,ad⟩)
    first
    |have:=RE;have gb:a.tmps.getD 36 undef= .slice pn n cn:=by rw[aN];exact na
     exact bW.app rfl (.tmp 36) (.tmp 38) 24 rfl underlying24 du ds ee ei rfl b_ rfl (Gb x) cT.out a_ b_ da.out ae gb rfl (λv' w2 hp=>I _ _ (G.ef 1 aj ha hi (.inr ⟨6,rfl,ad⟩) (λ_ _ _=>trivial) (λ_=>cW.out 2 _ _ b_ hp) hp))
    |have gb:a.tmps.getD 34 undef= .slice pn n cn:=by rw[aN];exact xb
     exact bW.app rfl (.tmp 34) (.tmp 36) 24 rfl underlying24 du ds ee ei rfl b_ rfl (Gb x) cT.out a_ b_ da.out ae gb rfl (λv' w2 hp=>I _ _ (G.ef 1 aj ha hi (.inr ⟨6,rfl,ad⟩) (λ_ _ _=>trivial) (λ_=>cW.out 2 _ _ b_ hp) hp))
  |.have C9:=G.gg 4 32 c_
    have ad:d 7=true:=c_;have ae:=G.at2 (j:=1) rfl hi (.inr ⟨7,rfl,ad⟩);have gb:a.tmps.getD 32 undef= .slice pn n cn:=by rw[aN];exact C9
    exact bW.app rfl (.tmp 32) (.tmp 35) 24 rfl underlying24 du ds ee ei rfl b_ rfl (Gb (⟨1,0,0,0,0,0,(txt.length:Int),(txt.length:Int),[]⟩:aV)) cT.out a_ b_ da.out ae gb rfl (λv' w2 hp=>I _ _ (G.ef 1 aj ha hi (.inr ⟨7,rfl,ad⟩) (λ_ _ _=>trivial) (λ_=>cW.out 2 _ _ b_ hp) hp))
  .first|have:=RE;have xj:=G.gg 9 41 c_|have:=RF;have uA:=G.gg 9 39 c_|skip
   first
   |first|have:=RE|have:=RF
    have ad:d 7=true:=c_;have ae:=G.at2 (j:=2) rfl hi (.inr ⟨7,rfl,ad⟩)
   |have B7:=G.gg 10 38 c_;have ad:d 8=true:=c_;have ae:=G.at2 (j:=2) rfl hi (.inr ⟨8,rfl,ad⟩)
   have ab:=G.st hi;rw[<-dN] at ab
   first
   |first|have:=RE|have:=RF
    obtain⟨⟨p3,vD⟩,b0,b1,b2,b3,b4,b5,b6,b7,b8⟩:=ab
   |skip
   first|have:=RE;have dC:bW 45 w0.heap.size (.slice pn n cn) n (iT z) (gD x) P 3 W2 2 (a.tmps.getD 39 undef) w':=ae|have:=RF;have dC:bW 45 w0.heap.size (.slice pn n cn) n (iT z) (gD x) P 3 W2 2 (a.tmps.getD 37 undef) w':=ae|obtain⟨⟨p3,vD⟩,b0,b1⟩:=ab;have dC:bW 45 w0.heap.size (.slice pn n cn) n (iT z) (gD (⟨1,0,0,0,0,0,(txt.length:Int),(txt.length:Int),[]⟩:aV)) P 3 W2 2 (a.tmps.getD 36 undef) w':=ae
   obtain⟨gz,cz,hz⟩:=dC.form;rw[hz] at dC;first|have:=RE;have uA:a.tmps[39]?.getD undef= .slice (some ⟨gz,0,none⟩) (n+1) cz:=by rw[<-aN];exact hz|have:=RF;have u6:a.tmps[37]?.getD undef= .slice (some ⟨gz,0,none⟩) (n+1) cz:=by rw[<-aN];exact hz|skip
   first
   |first|have:=RE|have:=RF
    exact lf
   |have na:a.tmps[36]?.getD undef= .slice (some ⟨gz,0,none⟩) (n+1) cz:=by rw[<-aN];exact hz
    go_simp;exact I undef _ (G.ef 2 aj ha hi (.inr ⟨8,rfl,ad⟩) (λ_ _ _=>trivial) (λh=>absurd rfl h) ⟨_,_,dC,rfl⟩)
  first
  |first|have:=RE|have:=RF
   iterate 6 (go_simp;exact I _ _ (G.pu aj ha))
  |iterate 7 (go_simp;exact I _ _ (G.pu aj ha))
  all_goals
   have ab:=G.ea hi;rw[<-dN] at ab
   first
   |first|have:=RE|have:=RF
    obtain⟨⟨p3,vD⟩,b0,b1,b2,b3,b4,b5,b6,b7,b8⟩:=ab
   |obtain⟨⟨p3,vD⟩,b0,b1⟩:=ab
   exact ah
 intro v wy bf cw
 first
 |first|have:=RE|have:=RF
  obtain⟨cz,iM⟩: ∃c,bW 45 w0.heap.size (.slice pn n cn) z.length (iT z) (gD x) P 3 W2 3 c wy:=⟨_,by rw[fU.out.2.2];exact cw⟩;obtain⟨g,cap,dJ⟩:=cJ.out.nodeA hx iM
 |obtain⟨cz,iM⟩: ∃c,bW 45 w0.heap.size (.slice pn n cn) z.length (iT z) (gD (⟨1,0,0,0,0,0,(txt.length:Int),(txt.length:Int),[]⟩:aV)) P 3 W2 3 c wy:=⟨_,by rw[fU.out.2];exact cw⟩;obtain⟨g,cap,dJ⟩:=cJ.out.nodeA (x:=(⟨1,0,0,0,0,0,(txt.length:Int),(txt.length:Int),[]⟩:aV)) rfl iM
 have dr:=dJ.less av.out
 first
 |first|have:=RE|have:=RF
  rw[fU.out.2.2] at dr;obtain⟨⟨_,_,_,c3,_⟩,_⟩:=dr.cells;have lq:=dr.lt;have HF:=hid dr
 |have HF:Hid (YJ YP Pr w0 P txt sp ⟨ls,[(⟨1,0,0,0,0,0,(txt.length:Int),(txt.length:Int),[]⟩:aV)],0⟩ 0 0 wy):=hid ⟨_,_,_,_,by rw[lJ,fU.out.1];rfl,dr⟩
 clear cw dJ dr iM bf cW dN aw;simp only[cU,cY,cQ,cZ];go_wp2
 first
 |first|have:=RE|have:=RF
  go_ret2;rw[<-HR.out];refine⟨by rw[<-fU.out.2.1,fU.out.2.2];first | rfl | (congr 3;omega),_,_,_,_,?_,HF.out⟩;rw[lJ,fU.out.1];rfl
 |go_ret;rw[<-cf.out];exact .inl ⟨rfl,rfl,0,HF.out⟩):P:=h
theorem PS(h:P:=by
 intro d a w' i o' ho hi j bl A R' C;first|have:=RQ;have bT:i<19:=(mK.1 ho).1|have bT:i<22:=(mK.1 ho).1
 have q0:a.tmps[0]?.getD undef= .pointer (some ⟨P,0,none⟩):=by rw[<-aN];exact bl 0 b_
 have q1:a.tmps[1]?.getD undef= .int .i64 (pre.length:Int):=by rw[<-aN];exact bl 1 b_
 first
 |have:=RQ;have q15:a.tmps[15]?.getD undef= .int .i64 (ns.length:Int):=by rw[<-aN];exact bl 15 b_
  clear bl;rcases aDk bT with rfl|rfl|rfl|rfl|rfl|rfl|rfl|rfl|rfl|rfl|rfl|rfl|rfl|rfl|rfl|rfl|rfl|rfl|rfl<;>simp only[cR,cP,bY,cC] at ho<;>subst ho
 |have q10:a.tmps[10]?.getD undef= .int .i64 (ls.2:Int):=by rw[<-aN];exact bl 10 b_
  clear bl;rcases aDl bT with rfl|rfl|rfl|rfl|rfl|rfl|rfl|rfl|rfl|rfl|rfl|rfl|rfl|rfl|rfl|rfl|rfl|rfl|rfl|rfl|rfl|rfl<;>simp only[cR,cP,bY,cC] at ho<;>subst ho
 .go_simp;exact C _ _ (A.pure (i:=0) rfl rfl b_ b_ b_ (λh=>absurd h b_))
 .simp[Region.binds] at j;first|have:=RQ;have c81:a.tmps[81]?.getD undef= .pointer (some ⟨P,0,none⟩):=by rw[<-aN];exact A.cl 0 b_ b_ b_ o_|have c99:a.tmps[99]?.getD undef= .pointer (some ⟨P,0,none⟩):=by rw[<-aN];exact A.cl 0 b_ b_ b_ o_
  go_simp;exact C _ _ (A.pure (i:=1) rfl rfl b_ b_ b_ (λh=>absurd h b_))
 .simp[Region.binds] at j;first|have:=RQ;have c82:a.tmps[82]?.getD undef= .pointer (some ⟨P,0,none⟩):=by rw[<-aN];exact A.cl 1 b_ b_ b_ o_|have c100:a.tmps[100]?.getD undef= .pointer (some ⟨P,0,none⟩):=by rw[<-aN];exact A.cl 1 b_ b_ b_ o_
  go_simp;exact C _ _ (A.pure (i:=2) rfl rfl b_ b_ b_ (λh=>absurd h b_))
 .simp[Region.binds] at j;first|have:=RQ;have c83:a.tmps[83]?.getD undef= .pointer (some ⟨P,3,none⟩):=by rw[<-aN];exact A.cl 2 b_ b_ b_ o_|have c101:a.tmps[101]?.getD undef= .pointer (some ⟨P,3,none⟩):=by rw[<-aN];exact A.cl 2 b_ b_ b_ o_
  have x3:=A.st1;rw[<-aq] at x3;go_simp;exact C _ _ (A.pure (i:=3) rfl rfl b_ b_ b_ (λh=>absurd h b_))
 .go_simp;exact C _ _ (A.pure (i:=4) rfl rfl b_ b_ b_ (λh=>absurd h b_))
 .go_simp;exact C _ _ (A.pure (i:=5) rfl rfl b_ b_ b_ (λh=>absurd h b_))
 .simp[Region.binds] at j;first|have:=RQ;have c86:a.tmps[86]?.getD undef= .pointer (some ⟨P,0,none⟩):=by rw[<-aN];exact A.cl 5 b_ b_ b_ o_|have c104:a.tmps[104]?.getD undef= .pointer (some ⟨P,0,none⟩):=by rw[<-aN];exact A.cl 5 b_ b_ b_ o_
  go_simp;exact C _ _ (A.pure (i:=6) rfl rfl b_ b_ b_ (λh=>absurd h b_))
 .simp[Region.binds] at j;first|have:=RQ;have c87:a.tmps[87]?.getD undef= .pointer (some ⟨P,0,none⟩):=by rw[<-aN];exact A.cl 6 b_ b_ b_ o_|have c105:a.tmps[105]?.getD undef= .pointer (some ⟨P,0,none⟩):=by rw[<-aN];exact A.cl 6 b_ b_ b_ o_
  go_simp;exact C _ _ (A.pure (i:=7) rfl rfl b_ b_ b_ (λh=>absurd h b_))
 .simp[Region.binds] at j;first|have:=RQ;have c88:a.tmps[88]?.getD undef= .pointer (some ⟨P,3,none⟩):=by rw[<-aN];exact A.cl 7 b_ b_ b_ o_|have c106:a.tmps[106]?.getD undef= .pointer (some ⟨P,3,none⟩):=by rw[<-aN];exact A.cl 7 b_ b_ b_ o_
  have x3:=A.st1;rw[<-aq] at x3;go_simp;exact C _ _ (A.pure (i:=8) rfl rfl b_ b_ b_ (λh=>absurd h b_))
 .go_simp;exact C _ _ (A.pure (i:=9) rfl rfl b_ b_ b_ (λh=>absurd h b_))
 .simp[Region.binds] at j
  first
  |have:=RQ;have c89:a.tmps[89]?.getD undef= .slice (some ⟨gn,0,none⟩) z4.length cap:=by rw[<-aN];exact A.cl 8 b_ b_ b_ o_
   have c90:a.tmps[90]?.getD undef= .int .i64 (pre.length:Int):=by rw[<-aN];exact A.cl 9 b_ b_ b_ o_
  |have c107:a.tmps[107]?.getD undef= .slice (some ⟨gn,0,none⟩) z6.length cap:=by rw[<-aN];exact A.cl 8 b_ b_ b_ o_
   have c108:a.tmps[108]?.getD undef= .int .i64 (pre.length:Int):=by rw[<-aN];exact A.cl 9 b_ b_ b_ o_
  go_simp;exact C _ _ (A.pure (i:=10) rfl rfl b_ b_ b_ (λh=>absurd h b_))
 .simp[Region.binds] at j;first|have:=RQ;have c91:a.tmps[91]?.getD undef= .pointer (some ⟨gn,pre.length*7,none⟩):=by rw[<-aN];exact A.cl 10 b_ b_ b_ o_|have c109:a.tmps[109]?.getD undef= .pointer (some ⟨gn,pre.length*7,none⟩):=by rw[<-aN];exact A.cl 10 b_ b_ b_ o_
  go_simp;exact C _ _ (A.pure (i:=11) rfl rfl b_ b_ b_ (λh=>absurd h b_))
 .simp[Region.binds] at j;first|have:=RQ;have c92:a.tmps[92]?.getD undef= .pointer (some ⟨gn,pre.length*7+5,none⟩):=by rw[<-aN];exact A.cl 11 b_ b_ b_ o_|have c110:a.tmps[110]?.getD undef= .pointer (some ⟨gn,pre.length*7+6,none⟩):=by rw[<-aN];exact A.cl 11 b_ b_ b_ o_
  have bN:=A.st (oN A.up2 (oN A.upl hi));rw[<-ap] at bN;obtain⟨x5,fc⟩:=bN;go_simp;exact C _ _ (A.pure (i:=12) rfl rfl b_ b_ b_ (λh=>absurd h b_))
 first
 |have:=RQ
  .go_simp;exact C _ _ (A.pure (i:=13) rfl rfl b_ b_ b_ (λh=> .inl h))
 |.go_simp
   exact C _ _ (A.pure (i:=13) rfl rfl b_ b_ b_ (λh=>absurd h b_))
  .go_simp;exact C _ _ (A.pure (i:=14) rfl rfl b_ b_ b_ (λh=>absurd h b_))
  .simp[Region.binds] at j;have c113:a.tmps[113]?.getD undef= .pointer (some ⟨P,0,none⟩):=by rw[<-aN];exact A.cl 14 b_ b_ b_ o_
   have hA:=A.w0 (oN A.up0 (oN A.upc hi));go_simp;go_at_call 170;refine aH (CH.out _ hA) λw5 ak=>?_;exact C _ _ (A.call b_ hi rfl rfl (a2.out _ (aE hA ak)) (HS.out _ (aE hA ak)) (aE hA ak))
  .simp[Region.binds] at j;have c112:a.tmps[112]?.getD undef= .int .i64 (ls.2:Int):=by rw[<-aN];exact A.cl 13 b_ b_ b_ o_
   have c114:a.tmps[114]?.getD undef= .int .i64 ((cH txt.length (L.drop (k3+1)):Nat):Int):=by rw[<-aN];exact A.cl 15 b_ b_ b_ o_
   go_simp;exact C _ _ (A.pure (i:=16) rfl rfl b_ b_ b_ (λ_=> .inr o_))
 .simp[Region.binds] at j
  first
  |have:=RQ;have e0:d 13=true:=o_
   have c94:a.tmps[94]?.getD undef= .int .i64 (ns.length:Int):=by rw[<-aN];exact A.cl 13 b_ b_ b_ o_
  |have e0:d 16=true:=o_
   have c115:a.tmps[115]?.getD undef= .agg #[ls.2,((cH txt.length (L.drop (k3+1)):Nat):Int)]:=by rw[<-aN];exact A.cl 16 b_ b_ b_ o_
  have hA:=A.w0 hi;have eb:=λob=>aE hA (aL w' ob);go_simp;exact C _ _ (A.alloc b_ hi e0 rfl (a2.out _ (eb _)) (HS.out _ (eb _)) ⟨_,hA,rfl,rfl⟩)
 .simp[Region.binds] at j;have e0:d 12=true:=o_
  first
  |have:=RQ;have e1:d 14=true:=o_
   have c6:a.tmps.getD 93 undef=y.2.1:=A.cl 12 b_ b_ b_ e0
  |have e1:d 17=true:=o_
   have c6:a.tmps.getD 111 undef=y.2.2:=A.cl 12 b_ b_ b_ e0
  obtain⟨w1,hA,hx,rfl⟩:=A.w1 e1 hi
  first
  |have:=RQ;have hx:a.tmps.getD 95 undef= .slice (some ⟨w1.heap.size,0,none⟩) 1 1:=hx;exact Qd (ops:= #[]) (t:=a.tmps) (E:=True) rfl (aDf rfl (.tmp 93) (.tmp 95) rfl w0.heap.size w1 (y.2.1) y.1.kids ns.length c6 ((N.out.keep hA).at_.kids _ (bH HY.out)) hx a_ (by have:=hA.size;omega) (λkv w7 h1 h2 h3=>C _ _ (A.app b_ hi e1 e0 rfl (aQ.out _ _ hA h2).2.1 (aQ.out _ _ hA h2).1 ⟨w1,hA,h1,h2,h3⟩)))
  |have hx:a.tmps.getD 116 undef= .slice (some ⟨w1.heap.size,0,none⟩) 1 1:=hx;exact Qd (ops:= #[]) (t:=a.tmps) (E:=True) rfl (Eb rfl (.tmp 111) (.tmp 116) rfl w0.heap.size w1 (y.2.2) y.1.pcs (ls.2,cH txt.length (L.drop (k3+1))) c6 ((N.out.keep hA).at_.pcs ({ y.1 with kids:=y.1.kids++ [ns.length] },kv,y.2.2) (bH al.out)) hx a_ (by have:=hA.size;omega) (λkv w7 h1 h2 h3=>C _ _ (A.app b_ hi e1 e0 rfl (aQ.out _ _ hA h2).2.1 (aQ.out _ _ hA h2).1 ⟨w1,hA,h1,h2,h3⟩)))
 .simp[Region.binds] at j
  first
  |have:=RQ;have c84:a.tmps[84]?.getD undef= .slice (some ⟨gn,0,none⟩) z4.length cap:=by rw[<-aN];exact A.cl 3 b_ b_ b_ o_
   have c85:a.tmps[85]?.getD undef= .int .i64 (pre.length:Int):=by rw[<-aN];exact A.cl 4 b_ b_ b_ o_
   go_simp;exact C _ _ (A.pure (i:=16) rfl rfl b_ b_ b_ (λh=>absurd h b_))
  |have c102:a.tmps[102]?.getD undef= .slice (some ⟨gn,0,none⟩) z6.length cap:=by rw[<-aN];exact A.cl 3 b_ b_ b_ o_
   have c103:a.tmps[103]?.getD undef= .int .i64 (pre.length:Int):=by rw[<-aN];exact A.cl 4 b_ b_ b_ o_
   go_simp;exact C _ _ (A.pure (i:=19) rfl rfl b_ b_ b_ (λh=>absurd h b_))
 .simp[Region.binds] at j
  first
  |have:=RQ;have c97:a.tmps[97]?.getD undef= .pointer (some ⟨gn,pre.length*7,none⟩):=by rw[<-aN];exact A.cl 16 b_ b_ b_ o_
   go_simp;exact C _ _ (A.pure (i:=17) rfl rfl b_ b_ b_ (λh=>absurd h b_))
  |have c118:a.tmps[118]?.getD undef= .pointer (some ⟨gn,pre.length*7,none⟩):=by rw[<-aN];exact A.cl 19 b_ b_ b_ o_
   go_simp;exact C _ _ (A.pure (i:=20) rfl rfl b_ b_ b_ (λh=>absurd h b_))
 .simp[Region.binds] at j
  first
  |have:=RQ;have e0:d 15=true:=o_
   have e1:d 17=true:=o_;have c98:a.tmps[98]?.getD undef= .pointer (some ⟨gn,pre.length*7+5,none⟩):=by rw[<-aN];exact A.cl 17 b_ b_ b_ e1
  |have e0:d 18=true:=o_
   have e1:d 20=true:=o_;have c119:a.tmps[119]?.getD undef= .pointer (some ⟨gn,pre.length*7+6,none⟩):=by rw[<-aN];exact A.cl 20 b_ b_ b_ e1
  have bN:=A.st hi;rw[<-ap] at bN;obtain⟨x5,fc⟩:=bN;have b0:=A.w2 e0 hi;obtain⟨gk,pk,hV⟩:=rN (b0.choose_spec.2.1);first|have:=RQ;have hV:a.tmps.getD 96 undef= .slice (some ⟨gk,0,none⟩) (y.1.kids.length+1) pk:=hV|have hV:a.tmps.getD 117 undef= .slice (some ⟨gk,0,none⟩) (y.1.pcs.length+1) pk:=hV
  simp only[hV] at b0;first|have:=RQ;have c96:a.tmps[96]?.getD undef= .slice (some ⟨gk,0,none⟩) (y.1.kids.length+1) pk:=by rw[<-aN];exact hV|have c117:a.tmps[117]?.getD undef= .slice (some ⟨gk,0,none⟩) (y.1.pcs.length+1) pk:=by rw[<-aN];exact hV
  have eH:=(aQ.out _ _ b0.choose_spec.1 b0.choose_spec.2.2.1).2.2;go_simp;exact C undef _ (A.sto b_ hi e0 (eH _) ⟨_,_,b0,rfl⟩)):P:=h
theorem PJ(h:P:=by
 have sl:=aP s;have ba:=aL w (.cells #[(0:Int),bs [],(),()] 36);have m:=jI.new w 0 [];obtain⟨W1,p⟩:=exQ<|w.alloc (.cells #[(0:Int),bs [],(),()] 36);rw[p] at ba m;have o:=hid ba;have l:=hid m;have N:=hid (hV.keep ba);obtain⟨y0,y1,y2,y3,f0,f1,f2,f3⟩:=m.cells;have hW1':w.alloc (.cells #[(0:Int), .string ⟨#[]⟩,(),()] 36)=W1:=p
 first|have:=QO;have CP:=hid (λw=>An s w a_)|have CP:=hid (λw=>Gl s w a_)
 have i:=Ez s;have m0:=oE s [];have m1:=oE s pT;have m2:=oE s [126];have m3:=oE s rT;have m4:=oE s rU;have e0:=pC s;unfold pT at m1;unfold rT at m3;unfold rU at m4;unfold tQ pU;obtain⟨q0,H⟩:=exQ<|decide (s= []);obtain⟨q1,D⟩:=exQ<|decide (s=pT);obtain⟨q2,J⟩:=exQ<|decide (s= [126]);obtain⟨q3,C⟩:=exQ<|decide (s=rT);obtain⟨q4,B⟩:=exQ<|decide (s=rU);have m0:=m0.trans H;have m1:=m1.trans D;have m2:=m2.trans J;have m3:=m3.trans C;have m4:=m4.trans B;have n1:decide (s= [110,117,108,108])=q1:=D;have n3:decide (s= [116,114,117,101])=q3:=C;have n4:decide (s= [102,97,108,115,101])=q4:=B;have G:s.isEmpty=q0:=by rw[<-H];cases s<;>simp
 rw[G] at e0;have z0:s= []↔q0=true:=by rw[<-H];simp
 have z1:s=pT↔q1=true:=by rw[<-D];simp
 have z2:s= [126]↔q2=true:=by rw[<-J];simp
 have z3:s=rT↔q3=true:=by rw[<-C];simp
 have z4:s=rU↔q4=true:=by rw[<-B];simp
 have A:=hid (aK z0 (aK z1 (aK z2 (aK z3 z4))));clear z0 z1 z2 z3 z4 D C B hV ba m p;obtain⟨P,hP⟩:=exQ<|eF s;rw[hP] at CP i ⊢;obtain⟨n,er⟩:=P;simp only[] at i ⊢;by_cases c1:(q0||q1||q2)=true
 .have L:Hid ((s= []\/s=pT\/s= [126])):=hid (by
   obtain⟨a0,a1,a2,_⟩:=A.out;simp only[Bool.or_eq_true] at c1;rcases c1 with(h | h) | h
   .exact .inl (a0.2 h)
   .exact .inr (.inl (a1.2 h))
   .exact .inr (.inr (a2.2 h)))
  rw[if_pos L.out];cases q0<;>cases q1<;>cases q2
  .cases c1
  all_goals
   go_in;go_wp2_with fail;clear y0 y1 y2 y3 f0 f1 f2 f3;have hP:=(l.out).put (k2:=1) (t2:=([]:aB));have c:=pV (k:=1) (t:=([]:aB)) (o.out) (aF w.heap.size);obtain⟨WF,b⟩:=exQ<|mV W1 w.heap.size 1 ([]:aB);rw[b] at hP c;have a:(((W1.setCell ⟨w.heap.size,0,none⟩ (.int .i64 1)).setCell ⟨w.heap.size,1,none⟩ (.string ⟨#[]⟩)).setCell ⟨w.heap.size,2,none⟩ (.slice none 0 0)).setCell ⟨w.heap.size,3,none⟩ (.slice none 0 0)=WF:=b;rw[a];obtain⟨d0,d1,d2,d3,_⟩:=hP.cells;clear b a;refine bodyPost_ret (v:= .agg #[(1:Int),bs ([]:aB),(),()]) ?_ rfl ⟨rfl,c⟩;exact dv
 .obtain⟨rfl,rfl,rfl⟩:q0=false/\q1=false/\q2=false:=by cases q0<;>cases q1<;>cases q2<;>simp at c1 ⊢
  rw[if_neg (by
   obtain⟨a0,a1,a2,_⟩:=A.out;rintro(h | h | h)
   .exact absurd (a0.1 h) b_
   .exact absurd (a1.1 h) b_
   .exact absurd (a2.1 h) b_)]
  by_cases c2:(q3||q4)=true
  .rw[if_pos (by
    obtain⟨_,_,_,a3,a4⟩:=A.out;simp only[Bool.or_eq_true] at c2;rcases c2 with h | h
    .exact .inl (a3.2 h)
    .exact .inr (a4.2 h))]
   cases q3<;>cases q4
   .cases c2
   all_goals
    go_in;go_wp2_with fail;clear y0 y1 y2 y3 f0 f1 f2 f3;have hP:=(l.out).put (k2:=2) (t2:=s);have c:=pV (k:=2) (t:=s) (o.out) (aF w.heap.size);obtain⟨WF,b⟩:=exQ<|mV W1 w.heap.size 2 s;rw[b] at hP c;have a:(((W1.setCell ⟨w.heap.size,0,none⟩ (.int .i64 2)).setCell ⟨w.heap.size,1,none⟩ (.string (bs s))).setCell ⟨w.heap.size,2,none⟩ (.slice none 0 0)).setCell ⟨w.heap.size,3,none⟩ (.slice none 0 0)=WF:=b;rw[a];obtain⟨d0,d1,d2,d3,_⟩:=hP.cells;clear b a;refine bodyPost_ret (v:= .agg #[(2:Int),bs s,(),()]) ?_ rfl ⟨rfl,c⟩;exact dv
  .obtain⟨rfl,rfl⟩:q3=false/\q4=false:=(by cases q3<;>cases q4<;>simp at c2 ⊢);rw[if_neg (by
    obtain⟨_,_,_,a3,a4⟩:=A.out;rintro(h | h)
    .exact absurd (a3.1 h) b_
    .exact absurd (a4.1 h) b_)]
   clear c1 c2 A;by_cases he:er=0
   .subst he;rw[if_pos rfl];first|have:=QO;have CT:Hid (∀w',mU w'->Calls prog 34 #[.agg #[n.neg,bs n.dig,n.exp]] w' (aT w' (.string (bs (kS n))))):=hid (λw' K=>Eh n w' (by have:=i rfl;omega) K.1.2)|have CT:Hid (∀w',mU w'->Calls prog 89 #[.agg #[n.neg,bs n.dig,n.exp]] w' (aT w' (.string (bs (kS n))))):=hid (λw' K=>Ot n w' (by have:=i rfl;omega))
    clear i;obtain⟨Z,M⟩:=exQ<|kS n;rw[M] at CT ⊢;go_in;go_wp2_with fail;refine(CP.out _).mono ?_;unfold pR eK;rintro e w2 ⟨rfl,f⟩;have x:=hid (l.out.keep f);have y:=hid (aE o.out f);have F:=hid (N.out.keep f);clear f y0 y1 y2 y3 f0 f1 f2 f3;have d:=aL w2 (.cells #[n.neg,bs n.dig,n.exp] 80);have I:=vB.new w2 n;obtain⟨W3,z⟩:=exQ<|w2.alloc (.cells #[n.neg,bs n.dig,n.exp] 80);rw[z] at d I;obtain⟨x0,x1,x2,_⟩:=I.cells;have r:=hid (x.out.keep d);have q:=hid (aE y.out d);have E:=hid (F.out.keep d);clear d I;go_wp2_with fail;refine aH (CT.out _ E.out) λw4 g=>?_;have j:=hid (r.out.keep g);have u:=hid (aE q.out g);clear g x0 x1 x2 z;obtain⟨y0,y1,y2,y3,f0,f1,f2,f3⟩:=j.out.cells;go_wp2_with fail;clear y0 y1 y2 y3 f0 f1 f2 f3;have hP:=(j.out).put (k2:=3) (t2:=Z);have c:=pV (k:=3) (t:=Z) (u.out) (aF w.heap.size);obtain⟨WF,b⟩:=exQ<|mV w4 w.heap.size 3 Z;rw[b] at hP c;have a:(((w4.setCell ⟨w.heap.size,0,none⟩ (.int .i64 3)).setCell ⟨w.heap.size,1,none⟩ (.string (bs Z))).setCell ⟨w.heap.size,2,none⟩ (.slice none 0 0)).setCell ⟨w.heap.size,3,none⟩ (.slice none 0 0)=WF:=b;rw[a];obtain⟨d0,d1,d2,d3,_⟩:=hP.cells;clear b a;refine bodyPost_ret (v:= .agg #[(3:Int),bs Z,(),()]) ?_ rfl ⟨rfl,c⟩;exact dv
   .rw[if_neg he];have de:(er==0)=false:=aI.2 he;first|have:=QO;have CO:=hid (λw=>yE s w)|have CO:=hid (λw=>Gm s w)
    clear i;go_in;go_wp2_with fail;refine(CP.out _).mono ?_;unfold pR eK;rintro e w2 ⟨rfl,f⟩;have x:=hid (l.out.keep f);have y:=hid (aE o.out f);clear f y0 y1 y2 y3 f0 f1 f2 f3;have d:=aL w2 (.cells #[n.neg,bs n.dig,n.exp] 80);have r:=hid (x.out.keep d);have q:=hid (aE y.out d);clear d;go_wp2_with fail;refine aH (CO.out _) λw4 g=>?_;have j:=hid (r.out.keep g);have u:=hid (aE q.out g);clear g;obtain⟨y0,y1,y2,y3,f0,f1,f2,f3⟩:=j.out.cells;go_wp2_with fail;clear y0 y1 y2 y3 f0 f1 f2 f3;have hP:=(j.out).put (k2:=4) (t2:=s);have c:=pV (k:=4) (t:=s) (u.out) (aF w.heap.size);obtain⟨WF,b⟩:=exQ<|mV w4 w.heap.size 4 s;rw[b] at hP c;have a:(((w4.setCell ⟨w.heap.size,0,none⟩ (.int .i64 4)).setCell ⟨w.heap.size,1,none⟩ (.string (bs s))).setCell ⟨w.heap.size,2,none⟩ (.slice none 0 0)).setCell ⟨w.heap.size,3,none⟩ (.slice none 0 0)=WF:=b;rw[a];obtain⟨d0,d1,d2,d3,_⟩:=hP.cells;clear b a;refine bodyPost_ret (v:= .agg #[(4:Int),bs s,(),()]) ?_ rfl ⟨rfl,c⟩;exact dv):P:=h
theorem G7(h:P:=by
 first
 |have _:=LY;obtain⟨c,kU⟩:=exQ<|jN (ts.take (i-f1))
  rw[kU]
 |have ev:0<=c:=yI a_;have A7:c=(C:Int):=a_
  subst A7
 obtain⟨r,t,f,e,hr,sC,rY,pN,wW,ht,dK,mM,jS⟩:=jV.out i cN oZ;have im:i<nl:=a_
 obtain⟨g,rfl,L⟩:=(rB.keep sR.out cV.out) i r hr;obtain⟨l0,l1,l2,l3,l4,l5,l6,l7,l8,l9⟩:=Pl L;have yA:(0:Int)<=(i:Int):=a_
 have yG:(i:Int)<(nl:Int):=a_
 have dk:decide ((i:Int)<(x.til:Int))=true:=aQ a_;have kF:=aL wr (.cells (lineA r) 68);have jo:=heap_alloc_new wr (.cells (lineA r) 68);obtain⟨ox,kg⟩:=exQ<|wr.heap.size;obtain⟨W3,a6⟩:=exQ<|wr.alloc (.cells (lineA r) 68);rw[a6] at kF jo;rw[kg] at jo;unfold lineA at a6;have ax:=hid (aE cV.out kF);obtain⟨d8,sD⟩:=jR.out W3 ax.out;have cb:bL W3 ox r:=jo;obtain⟨m0,m1,m2,m3,_⟩:=cb.cells;rw[sC] at m1;rw[rY] at m2;rw[mM] at m3;obtain⟨n,hn⟩:=exQ<|t.length;have wef:IntKind.i64.wrap ((e:Int)-(f:Int))=(n:Int):=by rw[IntKind.wrap_i64];omega
 obtain⟨i1,jc⟩:=exQ<|i+1;have bt:(i:Int)+1=(i1:Int):=a_
 have lp:ts.take (i1-f1)=ts.take (i-f1)++ [(t,r.ind)]:=by
  rw[<-jc,show i+1-f1=i-f1+1 by omega,List.take_add_one,jS];rfl
 first
 |have _:=LY;have ct:=Hd t r.ind (ts.take (i-f1)) (λq Z=>(HT.out.2.1 q (List.mem_of_mem_take Z)).1);rw[<-lp,kU] at ct;have oN:=yY (ts.take (i-f1)) (λq Z=>by have:=HT.out.2.1 q (List.mem_of_mem_take Z);omega);rw[kU] at oN
 |have wE:(ts.take (i1-f1)).map (λq=>q.1.drop C)=(ts.take (i-f1)).map (λq=>q.1.drop C)++ [t.drop C]:=by rw[lp,lJ];rfl
  have uS:=Qo (t.drop C) ((ts.take (i-f1)).map λq=>q.1.drop C);rw[<-wE,hJ] at uS;have tC:((ts.take (i-f1)).map λq=>q.1.drop C)= []↔i=f1:=by
   rw[List.map_eq_nil_iff,List.take_eq_nil_iff];constructor
   .rintro(h | h)
    .omega
    .have:=HT.out.1;rw[h] at this;simp at this;omega
   .intro h;exact .inl a_
 have yg:=hid (aK sC (aK rY (aK mM ht)))
 first
 |have _:=LY;clear hr L jS lp kF jo cb kU sC rY mM ht;go_upto_region 8 with fail
 |have htd:(t.drop C).length=n-C:=by rw[bC,hn]
  have hCb:(C:Int)<=1099511627776:=a_
  have wfc:IntKind.i64.wrap ((f:Int)+(C:Int))=((f+C:Nat):Int):=by rw[IntKind.wrap_i64];omega
  have AV:=hid uS;have uz:=hid tC;clear hr L jS lp kF jo cb sC rY mM uS tC wE ht;go_upto_region 14 with fail
 try rw[a6]
 try rw[kg]
 clear a6 kg l0 l1 l2 l3 l4 l5 l6 l7 l8 l9 d0 d1 d2 n0 n1 n2 n3 n4 n5 n6 n7 n8
 first
 |have _:=LY;by_cases ev:c<0
  .have dc:decide (c<0)=true:=aQ ev;rw[if_pos ev] at ct;by_cases hsp:bB t=n
   .rw[if_neg (λh=>h (hsp.trans hn.symm))] at ct;have dn:decide ((bB t:Int)<(n:Int))=false:=aJ a_;have Dn:decide (bB t<n)=false:=aJ a_;have xX:c= -1:=a_;go_wp2;go_roundw
    .exact⟨i1,by rw[<-bt],a_,a_,by rw[ct,xX],ax⟩
    .exact aq
   .have eb:=jU t;rw[if_pos (λh=>hsp (h.trans hn))] at ct;have dn:decide ((bB t:Int)<(n:Int))=true:=aQ a_;have Dn:decide (bB t<n)=true:=aQ a_;go_wp2;go_roundw
    .exact⟨i1,by rw[<-bt],a_,a_,by rw[ct,yg.out.2.2.1],ax⟩
    .exact aq
  .have dc:decide (c<0)=false:=aJ ev;rw[if_neg ev] at ct;go_wp2;go_roundw
   .exact⟨i1,by rw[<-bt],a_,a_,by rw[ct],ax⟩
   .exact aq
 |obtain⟨d0,d1,d2,_⟩:=eA d8;obtain⟨n0,n1,n2,n3,n4,n5,n6,n7,n8⟩:=kD sD;clear d8 sD;obtain⟨A,hA⟩:=exQ (if i=f1 then J else J++ [10]);have hAl:A.length<=131072*65537+1:=by rw[<-hA];split<;>simp<;>omega
  have hAs:=aP A;have Ar:n<=C->t.drop C= []:=λh=>List.drop_eq_nil_of_le a_;have xy:lB ((ts.take (i1-f1)).map λq=>q.1.drop C)=A++t.drop C:=by
   rw[AV.out,<-hA];by_cases h:i=f1
   .have:J= []:=by rw[<-hJ,uz.out.2 h];rfl
    rw[if_pos (uz.out.2 h),if_pos h,this];rfl
   .rw[if_neg (λe=>h (uz.out.1 e)),if_neg h];simp
  have tw:=hid xy;have i4:C<n->(bs s).extract (f+C) e=bs (t.drop C):=λh=>by
   rw[gO,aY,yg.out.2.2.2,List.drop_take,jO,show e-(f+C)=e-f-C by omega]
  by_cases hif:i=f1
  .subst hif;rw[if_pos rfl] at hA;subst hA;have dg:decide ((i:Int)<(i:Int))=false:=aJ a_;by_cases eD:C<n
   .have dl:decide (((f+C:Nat):Int)<(e:Int))=true:=aQ a_;have pQ:decide (f+C<e)=true:=aQ a_;have ny:=i4 eD;have kA:=aP (t.drop C);have e1:((f+C:Nat):Int)<=(e:Int):=a_;have e2:(0:Int)<=((f+C:Nat):Int):=a_;have e3:(e:Int)<=(s.length:Int):=a_;have e4: ¬9223372036854775807<J.length+(n-C):=a_;have e5: ¬9223372036854775807<J.length+(t.drop C).length:=a_;exact FM
   .have dl:decide (((f+C:Nat):Int)<(e:Int))=false:=aJ a_;have pQ:decide (f+C<e)=false:=aJ a_;have tj:=Ar a_;exact kw
  .rw[if_neg hif] at hA;have dg:decide ((f1:Int)<(i:Int))=true:=aQ a_;have zP:decide (f1<i)=true:=aQ a_;have BA:bs J++⟨#[10]⟩=bs A:=by rw[<-hA,<-jP];rfl
   have e6: ¬9223372036854775807<J.length+1:=a_;by_cases eD:C<n
   .have dl:decide (((f+C:Nat):Int)<(e:Int))=true:=aQ a_;have pQ:decide (f+C<e)=true:=aQ a_;have ny:=i4 eD;have kA:=aP (t.drop C);have e1:((f+C:Nat):Int)<=(e:Int):=a_;have e2:(0:Int)<=((f+C:Nat):Int):=a_;have e3:(e:Int)<=(s.length:Int):=a_;have e4: ¬9223372036854775807<A.length+(n-C):=a_;have e5: ¬9223372036854775807<A.length+(t.drop C).length:=a_;clear hA;exact FM
   .have dl:decide (((f+C:Nat):Int)<(e:Int))=false:=aJ a_;have pQ:decide (f+C<e)=false:=aJ a_;have tj:=Ar a_;clear hA;exact kw):P:=h
theorem P3(h:P:=by
 have sl:=aP l
 first
 |have:=SD;obtain⟨R,hR⟩:=exQ<|vA l
  rw[hR];have HR:=hid hR;have HT:=hid hT;clear hR hT;go_in;go_wp2;go_loopw [4] (λ_ wr=> ∃p:Nat,p<=l.length/\Hid (Wr true l p (dI true l))/\Hid (wr.heap[w.heap.size]?=some (.stringIter (bs l) p))/\Hid (aA w wr)) (λ_ wr=>l.length-wr.iterPos w.heap.size)
  case atStart=>exact⟨0,a_,Wr.zero true l,World.iter_heap w (bs l) 0,(aD _ _).alloc (aF _) _⟩
 |obtain⟨R,hR⟩:=exQ<|nK l
  rw[hR];unfold nK at hR;have HR:=hid hR;have HV:=hid hV;clear hR hV;go_in;go_wp2;go_loopw [4] (λ_ wr=> ∃p:Nat,p<=l.length/\Hid (Cl l p (tP l.length l))/\Hid (wr.heap[w.heap.size]?=some (.stringIter (bs l) p))/\Hid (aA w wr)) (λ_ wr=>l.length-wr.iterPos w.heap.size)
  case atStart=>exact⟨0,a_,Cl.zero l,World.iter_heap w (bs l) 0,(aD _ _).alloc (aF _) _⟩
 case round=>
  obtain⟨p,hp,HB,HI,HW⟩:=hrel;by_cases F:p<l.length
  .have y:p<(bs l).size:=a_;have hw:=mJ (bs l) p y;have bD:=sP (bs l) p;have bh: ∀ty,(Instr.next (.pointer (some ⟨w.heap.size,0,none⟩)) true ty).run prog wr= .ok (.tuple #[true,p, .int .i32 (bU (bs l) p)]) (wr.iterAt w.heap.size (bs l) (p+bN (bs l) p)):=λty=>Lib.run_next_any_at wr _ (bs l) p ty HI.out y;have bd:=hid (Lib.iterAt_heap wr w.heap.size (bs l) p (p+bN (bs l) p) HI.out);have ai:=hid (Lib.below_iterAt HW.out (aF w.heap.size) (bs l) (p+bN (bs l) p));first|have:=SD;have ci:=HT.out.keep ai.out|skip
   have HM:=hid (iterPos_of HI.out);have bY:=hid (iterPos_of bd.out);obtain⟨K,af⟩:=HB.out.rune F;first|have:=SD;have CD:=hid (Ex l p _ F ci)|skip
   obtain⟨r,hr⟩:=exQ<|bU (bs l) p;obtain⟨n,hn⟩:=exQ<|bN (bs l) p
   first
   |have:=SD;rw[hr] at bh bD CD K af;rw[hn] at bh hw bd ai bY CD K af;clear ci hr hn;unfold yC at K af;by_cases hr1:r=65533
    .by_cases h1:n=1
     .have HG:=hid (K (by rw[hr1,h1];decide));have bP:(r==65533)=true:=by rw[hr1];rfl
      have cF:(((n:Nat):Int)==1)=true:=by rw[h1];rfl
      clear hr1 h1 K af;go_wp2_with fail;(with_reducible refine CD.out.mono ?_);rintro e w1 ⟨rfl,hb⟩;go_wp2;go_ret2;exact⟨Az (HR.out.symm.trans (Ay HG.out F)),aE ai.out hb⟩
     .have HG:=hid (af (by rw[hr1,aI.2 h1];decide));have bP:(r==65533)=true:=by rw[hr1];rfl
      have cF:(((n:Nat):Int)==1)=false:=aI.2 a_;have h3:decide (r<32)=false:=aJ a_;have h4:(r==127)=false:=aI.2 a_;clear hr1 h1 K af;go_wp2_with fail;(with_reducible refine CD.out.mono ?_);rintro e w1 ⟨rfl,hb⟩;go_wp2_with fail;have co:=hid ((hb.block w.heap.size (aG bd.out)).trans bd.out);go_roundw
      case rel=>exact⟨p+n,a_,HG.out,co.out,aE ai.out hb⟩
      case measure=>rw[iterPos_of co.out,HM.out];omega
    .have bP:(r==65533)=false:=aI.2 hr1;by_cases h3:r<32
     .have HG:=hid (K (by rw[aQ h3];rfl));clear hr1 K af;exact F9
     .have bZ:decide (r<32)=false:=aJ h3;by_cases h4:r=127
      .have HG:=hid (K (by rw[h4];simp));have bS:(r==127)=true:=beq_iff_eq.2 h4;clear hr1 h4 K af;exact F9
      .have HG:=hid (af (by rw[bZ,bP,aI.2 h4];rfl));have bS:(r==127)=false:=aI.2 h4;clear hr1 h4 K af;exact lx
   |rw[hr] at bh bD K af;rw[hn] at bh hw bd ai bY af;clear hr hn;by_cases h3:r<32
    .have HG:=hid (K (.inl h3));have bZ:decide (r<32)=true:=aQ h3;have HF:Hid (R=false):=hid (by rw[<-HR.out,HG.out,Bool.false_and]);clear K af;go_wp2;go_ret;exact⟨by rw[HF.out];rfl,ai.out⟩
    .have bZ:decide (r<32)=false:=aJ h3;by_cases h4:r=127
     .have HG:=hid (K (.inr h4));have bS:(r==127)=true:=beq_iff_eq.2 h4;have HF:Hid (R=false):=hid (by rw[<-HR.out,HG.out,Bool.false_and]);clear K af h4;go_wp2;go_ret;exact⟨by rw[HF.out];rfl,ai.out⟩
     .have HG:=hid (af a_);have bS:(r==127)=false:=aI.2 h4;clear h4 K af;exact lx
  .have bh: ∀ty,(Instr.next (.pointer (some ⟨w.heap.size,0,none⟩)) true ty).run prog wr= .ok (.tuple #[false]) wr:=λty=>Lib.run_next_end_at wr _ (bs l) p ty HI.out a_;have HG:=hid (HB.out.fin a_)
   first
   |have:=SD;go_wp2;go_ret2;exact⟨Az (HR.out.symm.trans (Lu (by rw[HG.out];omega))),HW.out⟩
   |have HF:Hid (validD l=R):=hid (by rw[<-HR.out,HG.out,Bool.true_and]);have C:=Yc (bs l) wr a_ (HV.out.keep HW.out).1.1;rw[Mc,aY,HF.out] at C;obtain⟨N,hN⟩:=exQ<|(lO (bs l)).1;rw[hN] at C;have HC:=hid C;clear C hN;go_wp2_with fail;refine aH HC.out λw1 o=>?_;have G:=hid (aE HW.out o);clear o;go_wp2;go_ret;exact bx):P:=h
theorem IW(h:P:=by
 have sl:=aP t;cases t with
 | nil=>
  first|have:=M3;have e0:((bs ([]:aB)).toList== [])=true:=qQ [];have cG:(bs ([]:aB)).toList.isEmpty=true:=pC [];unfold jW mT;exact OY|have C2:=hid (Gg [] w b_);have ap:oF []=false:=rfl;rw[ap] at C2;unfold jW mT;clear hR;exact O1
 | cons c r=>
  first|have:=M3;have C1:=hid (Mi (c::r) c r rfl w hs hV);have C2:=hid (Md (c::r) w hs hV.1)|have C1:=hid (hR w (aD _ _));have C2:=hid (Gg (c::r) w a_)
  have a9:=pD c 34;have bf:=pD c 39;first|have:=M3;unfold jW mT at *;simp only[]|have b3:=aBC (c::r);have b9:jW (c::r)=if c=34\/c=39 then jK (c::r) else if oF (c::r) then(c::r,0) else([],2):=rfl;rw[b9]
  obtain⟨t,ht⟩:=exQ<|c::r
  first|have:=M4;have ba:t.head?=some c:=by rw[<-ht];rfl|skip
  have aN:0<t.length:=by rw[<-ht];simp
  have cE:(bs t)[0]'(by rw[aP];exact aN)=c:=by
   subst ht;rfl
  first
  |have:=M3;have hne:t≠ []:=by rw[<-ht];simp
   have e0:((bs t).toList== [])=false:=by rw[qQ];cases t<;>simp at hne ⊢
   have cG:(bs t).toList.isEmpty=false:=by rw[pC];cases t<;>simp at hne ⊢
   rw[ht] at hs sl C1 C2 ⊢;obtain⟨⟨S,er⟩,hS⟩:=exQ<|jK t;rw[hS] at C1;rw[hS]
  |have dl:decide ((0:Int)<(t.length:Int))=true:=aQ a_;rw[ht] at hs sl C1 C2 b3 ⊢
  obtain⟨B,hB⟩:=exQ<|oF t;rw[hB] at C2;rw[hB]
  first
  |have:=M3;clear hS ht hV hB hne;by_cases h34:c=34
   .have bJ:((c.toNat:Int)==34)=true:=by rw[h34];rfl
    rw[if_pos (.inl h34)];clear h34 a9 bf;exact O0
   have bJ:((c.toNat:Int)==34)=false:=aI.2 (λe=>h34 (UInt8.toNat_inj.1 JB));by_cases h39:c=39
   .have bl:((c.toNat:Int)==39)=true:=by rw[h39];rfl
    rw[if_pos (.inr h39)];clear h34 h39 a9 bf;exact O0
   have bl:((c.toNat:Int)==39)=false:=aI.2 (λe=>h39 (UInt8.toNat_inj.1 JB));rw[if_neg (by simp[h34,h39])];clear h34 h39 a9 bf
  |clear ht hB b9 hR;by_cases V:c=34\/c=39
   .rw[if_pos V];obtain⟨h1,h2⟩:=b3 (by rw[ba];rcases V with rfl|rfl;exact .inl rfl;exact .inr rfl);obtain⟨⟨S,er⟩,hS⟩:=exQ<|jK t;obtain⟨⟨T,er2⟩,hT⟩:=exQ<|gQ t;rw[hS,hT] at h1 h2;rw[hT] at C1;rw[hS];simp only[] at h1 h2 C1;subst h2;unfold mT;have bj:((c.toNat:Int)==34)=true\/(((c.toNat:Int)==34)=false/\((c.toNat:Int)==39)=true):=by
     rcases V with rfl|rfl
     .exact .inl rfl
     .exact .inr ⟨rfl,rfl⟩
    clear hS hT V a9 bf C2 ba;rcases bj with bJ | ⟨bJ,bl⟩
    all_goals
     go_in;go_wp2_with fail;refine C1.out.mono ?_;rintro e w2 ⟨⟨kv,iv,rfl,cb⟩,J⟩;obtain⟨pk,ck,px,cx,rfl,rfl⟩:=cb.form;have aq:=hid (aE J (aL w2 (.cells #[T.kind,bs T.text, .slice pk T.keys.length ck, .slice px T.items.length cx] 36)));rw[h1] at aq;unfold vv;rw[h1];clear cb J;go_wp2;go_ret2;exact⟨rfl,aq.out⟩
   have bJ:((c.toNat:Int)==34)=false:=by rw[show (34:Int)=((34:UInt8).toNat:Int) from rfl,a9];exact aI.2 (λe=>V (.inl e))
   have bl:((c.toNat:Int)==39)=false:=by rw[show (39:Int)=((39:UInt8).toNat:Int) from rfl,bf];exact aI.2 (λe=>V (.inr e))
   rw[if_neg V];unfold mT;clear V a9 bf C1 b3 ba
  cases B with
  | true=>
   rw[if_pos rfl];exact O1
  | false=>
   rw[if_neg e_];exact O1):P:=h
theorem JS(h:P:=by
 obtain⟨R,k⟩:=exQ<|dC s.data.toList;rw[k];have l:=hid k;clear k;go_in;go_wp2
 first
 |have:=OI;go_loopw [4] (λ_ wr=> ∃p:Nat,p<=s.size/\Hid (oA s p)/\Hid (wr.heap[w.heap.size]?=some (.stringIter s p))/\Hid (aA w wr)) (λ_ wr=>s.size-wr.iterPos w.heap.size)
  case atStart=>exact⟨0,a_,oA.zero s,World.iter_heap w s 0,(aD _ _).alloc (aF _) _⟩
 |go_loopw [3] (λi wr=> ∃p:Nat,p<=s.size/\i= .int .i64 p/\Hid (oA s p)/\wr=w) (λi _=>s.size-(RowKit.intOf i).toNat)
  case atStart=>exact⟨0,a_,rfl,oA.zero s,rfl⟩
 case round=>
  first|have:=OI;obtain⟨p,q,j,g,o⟩:=hrel|obtain⟨p,q,rfl,j,rfl⟩:=hrel
  by_cases hlt:p<s.size
  .first|have:=OI;have hw:=mJ s p hlt;have hrb:=sP s p;have e: ∀ty,(Instr.next (.pointer (some ⟨w.heap.size,0,none⟩)) true ty).run prog wr= .ok (.tuple #[true,p, .int .i32 (bU s p)]) (wr.iterAt w.heap.size s (p+bN s p)):=λty=>Lib.run_next_any_at wr _ s p ty g.out hlt;have b:=hid (Lib.iterAt_heap wr w.heap.size s p (p+bN s p) g.out);have c:=hid (Lib.below_iterAt o.out (aF w.heap.size) s (p+bN s p));have r:=hid (iterPos_of g.out)|have hlt':(p:Int)<(s.size:Int):=a_
   cases hd:eC (s[p]'hlt) with
   | true=>
    first|have:=OI;obtain⟨e1,e2⟩:=Ki s p hlt hd|skip
    have n:=hid (j.out.next hlt hd);have hb:=of_decide_eq_true hd;first|have:=OI;rw[e1,e2] at e;rw[e2] at b c;clear e1 e2 hd|clear hd
    go_wp2;go_roundw
    first
    |have:=OI;case rel=>exact⟨p+1,a_,n.out,b.out,c.out⟩
     case measure=>rw[iterPos_of b.out,r.out];omega
    |case rel=>exact⟨p+1,a_,by rw[show ((p:Int)+1)=((p+1:Nat):Int) by omega],n.out,by first | rfl | trivial⟩
     case measure=>simp[RowKit.intOf];omega
   | false=>
    first|have:=OI;have a:=Uw s p hlt hd|have a:(s[p]'hlt).toNat<48\/57<(s[p]'hlt).toNat:=by have h1:=of_decide_eq_false hd;omega
    have d:=hid (l.out.symm.trans (Kj hlt hd));clear hd;rcases a with a | a
    all_goals
     go_wp2;go_ret;first|have:=OI;exact⟨qH d.out.symm,c.out⟩|exact⟨qH d.out.symm,aD _ _⟩
  first
  |have:=OI
   .have e: ∀ty,(Instr.next (.pointer (some ⟨w.heap.size,0,none⟩)) true ty).run prog wr= .ok (.tuple #[false]) wr:=λty=>Lib.run_next_end_at wr _ s p ty g.out hlt;have d:=hid (l.out.symm.trans (j.out.fin a_));go_wp2;go_ret;exact⟨qH d.out.symm,o.out⟩
  |.have m:p=s.size:=a_
    subst m;have d:=hid (l.out.symm.trans (j.out.fin (aF _)));go_wp2;go_ret;refine⟨qH ?_,aD _ _⟩;rw[d.out,Lib.toList_data];have f:s.data.toList.length=s.size:=rfl;cases h:s.data.toList with
    | nil=>rw[h] at f;rw[<-f];rfl
    | cons x t=>rw[h] at f;rw[<-f];exact aQ e_):P:=h
theorem JI(h:P:=by
 first
 |first|have:=N5|have:=N6
  have p:=wQ hG map had hw hk
 |skip
 first|have:=N5;have f:=aDA hV map had hw hk|have:=N6;have f:=aDM hV map had hw hk|have p:=wQ hV map had hw hk
 unfold fW at h;obtain⟨⟨Q,had2⟩,t⟩:=exQ<|eM s V map had k st
 first
 |first|have:=N5|have:=N6
  rw[t] at h p f
 |have G:=aAs t;rw[t] at h p
 cases Q with
 | bad a e=>cases h
 | ok kid s2=>
  first|have:=N5;obtain⟨g1,⟨r,l,g2⟩,g3,g4,g5,g6⟩:=(show lA s sp k st kid s2 from p);have f:nT s s2:=f hall|have:=N6;obtain⟨g1,⟨r,l,g2⟩,_,_,_,_⟩:=(show lA s sp k st kid s2 from p);have f:kF s s2.nodes m kid s2.nodes.length:=f|obtain⟨g1,⟨m1,l,g2⟩,_,_,_,_⟩:=(show lA s sp k st kid s2 from p)
  simp only[] at h;first|have:=N5;have z:=kP hsp (k:=fF s2.nodes kid) (lines:=s2.lines) g4.2 g6.ls g5|skip
  split at h
  .cases h
  .first|have:=N5;rename_i nx2 ls I;rw[I] at z;simp only[] at z|skip
   split at h
   .cases h
   .injection h with e1 e2 e3;have u:=(aW.1 hx).1;have c:s2.nodes[n]?=some x:=by rw[g2,oV u];exact hx
    have o:=(aW.1 c).1
    first
    |first|have:=N5|have:=N6
     subst e2
    |skip
    first
    |have:=N5;obtain⟨more2,F⟩:=z.pre;have b:iC n kid s2.nodes=s2.nodes.set n { x with kids:=x.kids++ [kid],til:=fF s2.nodes kid }:=by
      unfold iC;exact vF _ n _ x c
     refine⟨λy B=>?_, { x with kids:=x.kids++ [kid],til:=fF s2.nodes kid },by simp only[b];exact List.getElem?_set_self o,rfl⟩;simp only[b] at B;show mH s ls y;rw[F];rcases List.mem_or_eq_of_mem_set B with q | q
     .exact(f y q).app
     .subst q;exact⟨(f x (bH c)).1,λe=>absurd e hx4⟩
    |have:=N6;simp only[];obtain⟨i,g⟩:=exQ<|iC n kid s2.nodes;have b:i=s2.nodes.set n { x with kids:=x.kids++ [kid],til:=fF s2.nodes kid }:=by
      rw[<-g];unfold iC;exact vF _ n _ x c
     have v:i.length=s2.nodes.length:=(by rw[b,List.length_set]);rw[g];refine⟨{ x with kids:=x.kids++ [kid],til:=fF s2.nodes kid },by rw[b,List.getElem?_set_self o],rfl,?_⟩;simp only[];have d: ∀k' m',n<k'->kF s s2.nodes m k' m'->kF s i m k' m':=λk' m' E A=>A.mono (λj y C D q=>by rw[b,List.getElem?_set_ne a_];exact q);refine eV.snoc (k:=kid) ?_ (by rw[v];exact d _ _ a_ f);rw[g1];exact hK.imp _ (λk m h=>kF.lt h) (λk' m' E A C=>d k' m' a_ (C.mono (λj y D q J=>by rw[g2,oV a_];exact J)))
    |subst e2 e3;refine⟨?_,?_,G⟩
     .simp only[];unfold iC;rw[vF _ n _ x c,List.getElem?_set_self o];exact⟨_,rfl,rfl,e_⟩
     .simp only[];unfold iC;rw[Fu,g2,aZ];have:=rS.2 l;omega):P:=h
theorem IZ(h:P:=by
 first
 |have:=M7;have CS:=hid (aCZ B P txt L (k+1) z nv W6.drew aE a_ 7 h7 b_);have hr:pK txt hm (L.drop k)= .ok b t:=by
   rw[ag.out];cases hd:L.drop (k+1) with
   | nil=>rw[hd] at h7;cases h7
   | cons c q=>
    rw[hd] at h7;have bi:c.kind=7:=h7;simp only[bi];rw[if_neg e_]
 |have CS:=hid (aDa B P txt L (k+1) z nv W6.drew aE a_ a_ 7 h7);have hr:pK txt hm (L.drop k)= .bad (cH txt.length (L.drop (k+1))) 2:=by
   rw[ag.out];cases hd:L.drop (k+1) with
   | nil=>rfl
   | cons c q=>
    rw[hd] at h7;exact if_pos (show c.kind≠7 from h7)
 have bf:=hid hr;clear hr h7 aE
 first
 |have:=M7;go_region_with (go_at_call 215;refine CS.out.mono ?_;rintro e w7 ⟨rfl,G,m⟩;have aK:=hid ((m.block Y aU (by simpa using an)).trans av);have D:=hid ((m.block X ah I3).trans az);have T:=hid (gX a4 m);have am:=hid G;clear G m;obtain⟨y0,y1,_,_⟩:=mF aK.out;obtain⟨x0,x1,aq,ap⟩:=mF D.out)
 |go_region_with (go_at_call 215;refine CS.out.mono ?_;rintro e w7 ⟨rfl,⟨lv7,G⟩,m⟩;have aK:=hid ((m.block Y aU (by simpa using an)).trans av);have D:=hid ((m.block X ah I3).trans az);have T:=hid (gX a4 m);have am:=hid G;clear G m;obtain⟨y0,y1,_,_⟩:=mF aK.out;obtain⟨x0,x1,aq,ap⟩:=mF D.out)
 all_goals
  go_wp2_with fail;have C:=hid (cA (cA D.out 0 (.int .i64 (t.sf:Int))) 1 (.int .i64 (t.st:Int)));have p:=hid (dT.new (i:=1) (u:= .int .i64 (t.st:Int)) (dT.new (i:=0) (u:= .int .i64 (t.sf:Int)) T.out n.out) n.out);first|have:=M7;have s:=hid (QZ.off (i:=1) (u:= .int .i64 (t.st:Int)) aa.out (dT.new (i:=0) (u:= .int .i64 (t.sf:Int)) T.out n.out) (QZ.off (i:=0) (u:= .int .i64 (t.sf:Int)) aa.out T.out am.out n.out D.out) n.out (cA D.out 0 _))|have s:=hid ((am.out.off (i:=0) (u:= .int .i64 (t.sf:Int)) d).off (i:=1) (u:= .int .i64 (t.st:Int)) d)
  obtain⟨W3,E⟩:=exQ<|(w7.setCell ⟨X,0,none⟩ (.int .i64 (t.sf:Int))).setCell ⟨X,1,none⟩ (.int .i64 (t.st:Int));rw[E] at C p s;rw[E];obtain⟨d0,d1,_,_⟩:=mF C.out;rw[bf.out]
  first|have:=M7;refine bodyPost_ret (v:= .tuple #[bs b, .agg #[t.sf,t.st],true]) ?_ rfl ⟨rfl,s.out,p.out⟩|refine bodyPost_ret (v:= .tuple #[bs b, .agg #[t.sf,t.st],false]) ?_ rfl ⟨⟨_,_,_,rfl⟩,mE.of aa.out p.out s.out,p.out⟩
  simp[results,results198,go_sem,d0,d1]):P:=h
theorem I8(h:P:=by
 have sl:=aP l
 first
 |have _:=NM;have CW:=hid (λw=>Fi l a b w hs);rw[h] at CW;clear h
 |have n:T.length=y-x:=by rw[<-hTd,bR,bC];omega
  have CW:Hid (∀w,Calls prog 142 #[bs l, .agg #[x,y]] w (aT w (.bool true))):=hid (λw=>by
   have:=Fi l x y w hs;have e:qS l x y=true:=by
    unfold qS;rw[if_neg a_,gA,show ((y:Int)-(x:Int)).toNat=y-x by omega,hTd,h10];rfl
   rw[e] at this;exact this)
  have hex:(bs l).extract x y=bs T:=by rw[gO,aY,hTd]
  have CG:Hid (∀w,dE w->Calls prog 143 #[bs T] w (aT w (.tuple #[k,true]))):=hid (λw hT=>by have:=Lv T w a_ hT;rw[Ay hw hk] at this;exact this);have sT:=aP T;have F:=hid hT;have hxk:IntKind.i64.wrap ((x:Int)+(k:Int))=(x:Int)+(k:Int):=by rw[IntKind.wrap_i64];omega
  have hkb:(x:Int)+(k:Int)<=1073741824:=a_
  clear hT hw n;have hxyi:(x:Int)<=(y:Int):=a_
  have hyli:(y:Int)<=(l.length:Int):=a_
 go_in;go_wp2_with fail;first|have _:=NM;have i:=hid (cG.start w a b)|have i:=hid (cG.start w x y)
 (with_reducible refine(CW.out _).mono ?_);rintro e w1 ⟨rfl,m⟩
 have d:=hid (i.out.keep m);clear m;obtain⟨s0,s1⟩:=d.out.s.cells
 first
 |have _:=NM;obtain⟨b0,b1,b2,b3,b4,b5,b6,b7,b8,b9,r,u,q,C,t,A,D,z,B,E⟩:=d.out.l.cells;go_wp2_with fail;have c:=hid (cG.put (r2:=bG) d.out);obtain⟨W,g⟩:=exQ<|dJ w1 (w.heap.size+1) bG;rw[g] at c
 |go_wp2_with fail;have p:=hid (F.out.keep d.out.b);(with_reducible refine(CG.out _ p.out).mono ?_);rintro e w2 ⟨rfl,j⟩;have f:=hid (d.out.keep j);clear j s0 s1;obtain⟨s0,s1⟩:=f.out.s.cells;obtain⟨b0,b1,b2,b3,b4,b5,b6,b7,b8,b9,r,u,q,C,t,A,D,z,B,E⟩:=f.out.l.cells;go_wp2;go_region;obtain⟨W,g⟩:=exQ<|(dJ w2 (w.heap.size+1) bG).drew;have o:=(cG.put (r2:=bG) f.out).drew;rw[g] at o;have c:=hid o;clear o
 dsimp only[dJ,bG] at g;rw[g];clear g s0 s1 b0 b1 b2 b3 b4 b5 b6 b7 b8 b9 r u q C t A D z B E;obtain⟨c0,c1,c2,c3,c4,c5,c6,c7,c8,c9,_⟩:=c.out.l.cells;first|have _:=NM;refine bodyPost_ret (v:= .tuple #[eL bG,(0:Int),(1:Int)]) ?_ rfl ⟨rfl,c.out.b⟩|go_wp2_with fail;refine bodyPost_ret (v:= .tuple #[eL bG, .int .i64 ((x:Int)+k),(2:Int)]) ?_ rfl ⟨rfl,c.out.b⟩
 exact EK):P:=h
theorem QI(h:P:=by
 obtain⟨t1,t2,t3,t4⟩:=h.ty
 first
 |have:=SZ;have f:=h.nod.kids y (bH hy);have J:=h.box_grown f (Ne.symm t4) hg;obtain⟨g',D,u,e,_,F,c⟩:=h.nod.form (λe=>by rw[e] at hy;simp at hy);have A:g=g':=by injection e with e;injection e with e;injection e
  subst A;have b:w1.heap[g]?=some (.cells u 45 (0,0)):=qU hg c (λe=>by
   rcases dG f c b_ with q | q
   .rw[q] at e;cases e
   .exact q e)
  have i:=dP w1 g (n*9+8) kv
 |obtain⟨g',D,u,e',_,F,b⟩:=h.nod.form (λe=>by rw[e] at hy;simp at hy);have A:g=g':=by injection e' with e;injection e with e;injection e
  subst A;have i:=dP w g (n*9+3) (.int .i64 (e:Int))
 have G:P≠g:=λe=>by
  first|have:=S2;have J:=h.box|skip
  subst e;rw[J] at b;injection b with b;injection b with _ b;exact t3 b
 first
 |have:=SZ;refine⟨?_,?_,?_,h.nod.kid hy hH hr hg hat,h.hB,h.ty,?_,λk o I=>?_⟩
  .rw[eW w1 ⟨g,n*9+8,none⟩ kv P G,List.length_set];exact J
  .have q:=h.spr.kept hg (gW h.spr f b_);exact DZ
  .have q:=h.lnr.kept hg (gW h.lnr f b_);exact DZ
  .exact(h.bel.grown hg h.bel.size (λk I=>(World.ownsRow.lt f k I).1)).setCell (p:=⟨g,n*9+8,none⟩) F kv
 |refine⟨?_,h.spr.kept i (dG h.spr b b_),h.lnr.kept i (dG h.lnr b b_),h.nod.field hy 3 a_ _ rfl rfl rfl,h.hB,h.ty,h.bel.setCell (p:=⟨g,n*9+3,none⟩) F _,λk o I=>?_⟩
  .rw[eW w ⟨g,n*9+3,none⟩ _ P G,List.length_set];exact h.box
 .obtain⟨f1,f2,f3,f4,f5⟩:=h.fr k o I;first|have:=SZ;have fy:=f5 y (bH hy)|skip
  refine⟨?_,f2,f3,f4,λx s=>?_⟩
  first
  |have:=SZ
   .rw[eW w1 ⟨g,n*9+8,none⟩ kv k (λe=>f4 (by rw[e];rfl))];exact qU hg f1 fy
  |.rw[eW w ⟨g,n*9+3,none⟩ _ k (λe=>f4 (by rw[e];rfl))]
    exact f1
  .rcases List.mem_or_eq_of_mem_set s with s | rfl
   .exact f5 x s
   first
   |have:=SZ
    .exact Fo hat hH (aG f1) fy
   |.exact f5 y (bH hy)):P:=h
theorem IN(h:P:=by
 first
 |have:=MT;rw[if_pos u1] at b;have i:Hid (bT u=(10,ns,0)):=hid (by rw[b];rfl);rw[show (U== [116,114,117,101])=true from beq_iff_eq.2 u1] at t1;clear u1 b
 |have:=MU;rw[if_pos u2] at b;have i:Hid (bT u=(11,ns,0)):=hid (by rw[b];rfl);rw[show (U== [102,97,108,115,101])=true from beq_iff_eq.2 u2] at t2;clear u2 b
 |have:=MV;rw[if_pos u3] at b;have i:Hid (bT u=(12,ns,0)):=hid (by rw[b];rfl);rw[show (U== [110,117,108,108])=true from beq_iff_eq.2 u3] at t3;clear u3 b
 |have i:Hid (bT u=(1,nb,0)):=hid (by have h:=d.out;simp only[hbl,if_true] at h;rw[h,m.out.2.1]);rw[hbl] at A1;clear hbl d m f CE CP R2 R3 A2
 go_in;go_wp2_with fail;refine wp_loop_rounds 7 ?_;rw[rounds_succ];go_wp2_with fail
 .next h=>exact(q0 (eq_of_beq h)).elim
 rw[rounds_succ];go_wp2_with fail
 .next h=>exact(q1 (eq_of_beq h)).elim
 rw[rounds_succ];go_wp2_with fail
 .next h=>exact(q2 (eq_of_beq h)).elim
 rw[rounds_succ];go_wp2_with fail
 .next h=>exact(q3 (eq_of_beq h)).elim
 rw[rounds_succ];go_wp2_with fail
 .next h=>exact(q4 (eq_of_beq h)).elim
 rw[rounds_succ];go_wp2_with fail
 .next h=>exact(q5 (eq_of_beq h)).elim
 rw[rounds_succ]
 first
 |first|have:=MT|have:=MU|have:=MV
  go_wp2_with (first | (go_at_call 196;(first | (with_reducible refine(A1.out _).mono ?_) | (with_reducible refine(A2.out _).mono ?_));rintro e w' ⟨rfl,rfl⟩) | (go_at_call 197;(with_reducible refine(R3.out _).mono ?_);rintro e w' ⟨rfl,rfl⟩))
 |go_wp2_with (first | (go_at_call 196;(with_reducible refine(A1.out _).mono ?_);rintro e w' ⟨rfl,rfl⟩) | (go_at_call 197;(with_reducible refine(R1.out _).mono ?_);rintro e w' ⟨rfl,rfl⟩))
 exact ER):P:=h
theorem O4(h:P:=by
 go_wp2_with fail;refine aH (CO.out _) λw3 D=>?_;have y:=hid (aE m.out D);clear D;have j:=hid (iA (t:=gN S) z.out C.out n.out (kW _ _ _ _) y.out o.out);obtain⟨r0,r1,r2,r3,f0,f1,f2,f3⟩:=bK ((y.out.block R n.out).trans o.out);go_wp2_with fail;obtain⟨WF,d⟩:=exQ<|bD w3 R 4 S (.slice none 0 0) (.slice none 0 0);have g:gF w.heap.size (bD w3 R 4 S (.slice none 0 0) (.slice none 0 0)) (gN S).depth (gN S) (.slice none 0 0) (.slice none 0 0)/\aA w (bD w3 R 4 S (.slice none 0 0) (.slice none 0 0))/\(bD w3 R 4 S (.slice none 0 0) (.slice none 0 0)).heap[R]?=some (.cells #[(4:Int),bs S,(.slice none 0 0),(.slice none 0 0)] 36):=j.out;rw[d] at g;have b:=hid g;have f:(((w3.setCell ⟨R,0,none⟩ (.int .i64 4)).setCell ⟨R,1,none⟩ (.string (bs S))).setCell ⟨R,2,none⟩ (.slice none 0 0)).setCell ⟨R,3,none⟩ (.slice none 0 0)=WF:=d
 first
   | rw[f]
   | (have i:(((w3.setCell ⟨R,0,none⟩ (.int .i64 4)).setCell ⟨R,1,none⟩ (.string ⟨#[]⟩)).setCell ⟨R,2,none⟩ (.slice none 0 0)).setCell ⟨R,3,none⟩ (.slice none 0 0)=WF:=d
      rw[i])
 clear d f g r0 r1 r2 r3 f0 f1 f2 f3 j;obtain⟨d0,d1,d2,d3,_⟩:=bK b.out.2.2;refine bodyPost_ret (v:= .tuple #[.agg #[(4:Int),bs S,(.slice none 0 0),(.slice none 0 0)],(0:Int)]) ?_ rfl ⟨⟨_,_,rfl,b.out.1⟩,b.out.2.1⟩;exact ez):P:=h
theorem IM(h:P:=by
 first|have:=MS;have i:Hid (bT u=(9,nn,0)):=hid (by have h:=d.out;rw[if_pos hz] at h;exact h);subst hz|have i:Hid (bT u=(0,0,pe)):=hid (by have h:=d.out;rw[if_neg hz] at h;exact h);have hzb:(pe==0)=false:=aI.2 hz;have X:=hid hz;clear hz
 clear d;go_in;go_wp2_with fail;refine wp_loop_rounds 7 ?_;rw[rounds_succ];go_wp2_with fail
 .next h=>exact(q0 (eq_of_beq h)).elim
 rw[rounds_succ];go_wp2_with fail
 .next h=>exact(q1 (eq_of_beq h)).elim
 rw[rounds_succ];go_wp2_with fail
 .next h=>exact(q2 (eq_of_beq h)).elim
 rw[rounds_succ];go_wp2_with fail
 .next h=>exact(q3 (eq_of_beq h)).elim
 rw[rounds_succ];go_wp2_with fail
 .next h=>exact(q4 (eq_of_beq h)).elim
 rw[rounds_succ];go_wp2_with fail
 .next h=>exact(q5 (eq_of_beq h)).elim
 rw[rounds_succ];go_wp2_with (first | (go_at_call 196;(first | (with_reducible refine(A1.out _).mono ?_) | (with_reducible refine(A2.out _).mono ?_));rintro e w' ⟨rfl,rfl⟩) | (go_at_call 197;(with_reducible refine(R2.out _).mono ?_);rintro e w' ⟨rfl,rfl⟩) | (go_at_call 88;(rw[e1]);(with_reducible refine(CP.out _).mono ?_);rintro e w' ⟨rfl,W⟩));go_ret3;first|have:=MS;exact⟨nD i.out (λ_=>rfl) (λh=>absurd rfl h) a_,aE m_ (aL _ _)⟩|exact⟨nD i.out (λG=>absurd G X.out) (λ_=>by rw[if_neg S.out]) a_,aE m_ (aL _ _)⟩):P:=h
theorem P5(h:P:=by
 rw[hD] at C5;first|have:=SF;have HD:=hid hD;clear hD|have C:=hid (U.out (fJ x) rfl rfl hD);clear hD
 go_wp2_with (first | (go_at_call 136;go_must (refine(C3.out _).mono ?_);rintro e w' ⟨rfl,rfl⟩) | (go_at_call 138;go_must (refine(C4.out _).mono ?_);rintro e w' ⟨rfl,rfl⟩));refine(C5.out _).mono ?_;rintro e w2 ⟨rfl,a⟩;have d:Hid (w2.heap[w.heap.size]?=some (.cells #[ng,false, .string ⟨#[]⟩, .string ⟨#[]⟩, .string ⟨#[]⟩] 139 (0,0))):=(a.block w.heap.size (by simp[World.setCell];exact E)).trans (cA i.out 1 _);have k:=hid ((M.out.setCell (p:=⟨w.heap.size,1,none⟩) (aF _) (.bool false)).trans (a.mono D'))
 first
 |have:=SF;clear a;go_wp2;go_meet;exact⟨false,fJ x,rfl,⟨λ_=>HD.out,rfl,by rw[f.out];rfl⟩,d.out,k.out⟩
 |clear a a0 a1 a2 a3 a4 f0 f1 f2 f3 f4;obtain⟨a0,a1,a2,a3,a4,f0,f1,f2,f3,f4⟩:=tF d.out;go_wp2_with fail;refine bodyPost_ret (v:= .tuple #[.agg #[ng,false, .string ⟨#[]⟩, .string ⟨#[]⟩, .string ⟨#[]⟩],false]) ?_ rfl ⟨⟨ng,false,[],[],[],false,rfl,?_⟩,?_⟩
  .exact cj
  .exact C.out
  .exact EJ):P:=h
theorem IA(h:P:=by
 obtain⟨R,c⟩:=exQ<|tK txt a b;rw[c];unfold tK at c;have d:=(aL w (.cells #[txt,nv] 134)).trans ((aL (w.alloc (.cells #[txt,nv] 134)) (.cells #[a,b] 42)).mono e_);have e:=hid d;clear d;by_cases h1:a<0
 .rw[if_pos (.inl h1)] at c;have d1:decide (a<0)=true:=aQ h1;subst c;exact eg
 have d1:decide (a<0)=false:=aJ h1;by_cases h2:b<a
 .rw[if_pos (.inr (.inl h2))] at c;have d2:decide (b<a)=true:=aQ h2;subst c;exact eg
 have d2:decide (b<a)=false:=aJ h2;by_cases h3:(txt.size:Int)<b
 .rw[if_pos (.inr (.inr h3))] at c;have d3:decide ((txt.size:Int)<b)=true:=aQ h3;subst c;exact eg
 have d3:decide ((txt.size:Int)<b)=false:=aJ h3;rw[if_neg a_] at c;obtain⟨a',rfl⟩: ∃a':Nat,a=a':=⟨a.toNat,a_⟩;obtain⟨b',rfl⟩: ∃b':Nat,b=b':=⟨b.toNat,a_⟩;have i1:(0:Int)<=(a':Int):=a_
 have i2:(a':Int)<=(b':Int):=a_
 have i3:(b':Int)<=(txt.size:Int):=a_
 subst c;simp only[gA];exact eg):P:=h
theorem QB(h:P:=by
 first|have:=SM;rw[if_pos h3] at o0;subst o0 h3|have:=SN;rw[if_neg h3] at o0;subst o0;have d3:((first:Int)==0)=false:=aI.2 a_;have d3n:(first==0)=false:=aI.2 h3;clear h3|rw[if_pos jw] at hg;rw[aQ jw] at CB;have dy:=hid hg;clear jw hg fX
 go_wp2_with fail;refine aH (CT.out _ f_) λw2 bS=>?_;have bh:=hid bS;clear bS;go_wp2_with fail;refine aH (CB.out _ bh.out) λw3 cj=>?_
 first
 |first|have:=SM|have:=SN
  have jq:=aE bh.out cj;obtain⟨c2,b3⟩:=zQ.out w3 jq;have ax:=hid (aE HB.out jq);clear cj jq
 |have ax:=hid (aE HB.out (aE bh.out cj));clear cj
 go_wp2;go_roundw
 first
 |have:=SM
  .exact⟨i1,nb,i1,by first | rfl | rw[<-bt],rfl,by first | rfl | rw[<-bt],fy,dy,ax⟩
 |have:=SN
  .exact⟨i1,first,i1,by first | rfl | rw[<-bt],rfl,by first | rfl | rw[<-bt],fy,dy,ax⟩
 |.exact⟨til,first,i1,rfl,rfl,by first | rfl | rw[<-bt],fy,dy,ax⟩
 .exact ao):P:=h
theorem IU(h:P:=by
 first|have:=M1;unfold eD|unfold zE
 by_cases h12:k=12
 .subst h12;exact bj
 have d12:((k:Int)==12)=false:=aI.2 a_;rw[if_neg h12];by_cases h10:k=10
 .subst h10;exact bj
 have d10:((k:Int)==10)=false:=aI.2 a_;by_cases h11:k=11
 .subst h11;exact bj
 have d11:((k:Int)==11)=false:=aI.2 a_;rw[if_neg a_];by_cases h9:k=9
 .subst h9;exact bj
 have d9:((k:Int)==9)=false:=aI.2 a_;rw[if_neg h9];by_cases h8:k=8
 .subst h8;exact bj
 have d8:((k:Int)==8)=false:=aI.2 a_;rw[if_neg h8]
 first
 |have:=M1;by_cases h4:k=4
  .subst h4;exact bj
  have d4:((k:Int)==4)=false:=aI.2 a_;rw[if_neg h4];by_cases h2:k=2
  .subst h2;exact bj
  have d2:((k:Int)==2)=false:=aI.2 a_;rw[if_neg h2];clear h12 h10 h11 h9 h8 h4 h2
 |clear h12 h10 h11 h9 h8
 exact bj):P:=h
theorem JX(h:P:=by
 obtain⟨i0,p,f,m,b⟩:=info_parts infoInt
 first
 |have:=OP;refine wpList_append_lies _ hgd s x 43 ho B 3 i0 _ 1 8 underlying43 p f m b rfl b_ v _ (dH l) hs (World.ownsRow.alloc hown _) ⟨w.heap.size,0,none⟩ 1 1 [k] hx DS (tD w #[k] _)
   (λu hu=>by rw[kT.1 hu];rfl) b_ r_ a_ h_ _ rfl ?_
 |refine step_append_lies _ hgd s x 43 ho B 3 i0 _ 1 8 underlying43 p f m b rfl b_ v _ (dH l) hs (World.ownsRow.alloc hown _) ⟨w.heap.size,0,none⟩ 1 1 [k] hx DS (tD w #[k] _)
   (λu hu=>by rw[kT.1 hu];rfl) b_ r_ a_ h_ _ rfl ?_
 intro g cap w' A y r _;refine hK _ w' A (uS y) ?_;exact fx):P:=h
theorem IQ(h:P:=by
 have sl:=aP l;first|have:=MX;have C:=In l 0 w hs a_ hV hT|have C:=Ma l 0 w hs a_
 have a:eH l=if(cD l 0).2.2=0/\(cD l 0).2.1<l.length then([],(cD l 0).2.1,2) else cD l 0:=rfl;obtain⟨R,b⟩:=exQ<|cD l 0;obtain⟨s,k,er⟩:=R;rw[show ((0:Nat):Int)=0 from rfl,b] at C;rw[b] at a;simp only[] at a;have d:=hid C
 first|have:=MX;clear C b hV hT|clear C b
 by_cases h1:er=0
 .subst h1;by_cases h2:k<l.length
  .rw[a,if_pos ⟨rfl,h2⟩];clear a;exact EF
  .rw[a,if_neg (λh=>h2 h.2)];clear a;exact EF
 .rw[a,if_neg (λh=>h1 h.1)];have t1:(er==0)=false:=aI.2 h1;clear a h1;exact EF):P:=h
theorem J0(h:P:=by
 first|have:=OS;refine uL hm sl n hn hback hdst (λd v w'=>iH ops sl eff fr Fb val S Ph d v w') ?_ hs (λv w h=>hd v w (λi f b g c=>h.cl i f g c (aQ b)) (h.fin (λe l=>?_)))|refine uL hm K n hn hback hdst (λd v w'=>cJ ops sl eff fr Fb val S Ph d v w') ?_ hs (λv w h=>hd v w (λi f b g c=>h.cl i f g c (aQ b)) (h.fin (λe l=>?_)))
 .exact⟨λ_ _ _ _ h=>Bool.noConfusion h,λ_ _ _ h=>Bool.noConfusion h,λ_=>h0,λ_ h=>Bool.noConfusion h,0,cI _,λj e _=>⟨λh=>Bool.noConfusion h,λh=>absurd h (oW _)⟩,hP⟩
 .exact iN.1 heff e l):P:=h
theorem EY(h:P:=by
 clear q4 hx t5;go_wp2_with fail;(with_reducible refine(CD.out _ (HT.out.keep HW.out)).mono ?_);rintro e w1 ⟨rfl,o⟩;have au:=hid (bb.out.keep o);have am:=hid (aE HW.out o);clear o;go_wp2_with fail;refine(zL w.heap.size w.heap.size v rn _ au.out ⟨cP,cN⟩ a_ am.out.size).mono ?_;rintro e w2 ⟨rfl,h2,b2,_⟩;have a2:=hid h2;have ai:=hid (am.out.trans b2);clear h2 b2;go_wp2;go_roundw
 case rel=>exact⟨i+wd,g,v++encodeRune rn,t_,a_,by rw[aZ];omega,a_,ag.out,a2.out,ai.out⟩
 case measure=>simp[RowKit.intOf];omega):P:=h
theorem wa(h:P:=by
 first|have:=DR;have c: ∀(j:Nat) (yj:ND),(z++ [y])[j]?=some yj->z[j]?=some yj\/(j=z.length/\yj=y):=E8|have c: ∀(j:Nat) (yj:YN),(z++ [y])[j]?=some yj->z[j]?=some yj\/(j=z.length/\yj=y):=E8
 intro i j yi yj g e b;rcases c i yi e with e | ⟨e,rfl⟩
 .rcases c j yj b with b | ⟨b,rfl⟩
  .exact h i j yi yj g e b
  .first|have:=DR;by_cases hn:(f yi).ownBlock=none|by_cases hn:yi.2.ownBlock=none
   .exact .inl hn
   .exact .inr (by rw[hy];exact hn)
 .exact .inl hy):P:=h
theorem QA(h:P:=by
 refine⟨?_,ht.same (λg cur c=>hg.block g (aG c) (λe=>?_))⟩
 .refine(hg.block P hb.lt (λe=>?_)).trans hb;obtain⟨cs,t,f,d,_⟩:=hr P e.symm;have b:=hb;first|have:=SL;unfold dO at b|unfold cN at b
  rw[f] at b;injection b with b;injection b with _ b;exact d b
 .obtain⟨cs,t,f,_,d⟩:=hr g e.symm;rw[f] at c;injection c with c;injection c with _ c;exact d c):P:=h
theorem O5(h:P:=by
 have c50:=G.gg 3 50 c_;have BR:=G.gg 4 51 c_;have hA:aA W9 w':=G.at2 (j:=0) rfl (G.lastNot (f:=12) (i:=5) d' hi) (.inl rfl);go_simp;go_at_call 46;refine aH (CB.out _ (fk.out.keep hA)) λw5 ag=>?_;exact I _ _ (G.qu aj ha hi (λ_=>am.out _ (aE hA ag)) (λk c hk hp=>by obtain rfl:k=0:=JA;exact aE (show aA W9 w' from hp) ag) (λx hx=>hx))):P:=h
theorem E4(h:P:=by
 refine⟨[], .slice (some ⟨g,0,none⟩) L.length c, .slice none 0 0, .slice none 0 0,rfl,⟨U.out,?_,⟨rfl, .inl ⟨rfl,rfl⟩⟩,fX.nil _ _,b7,b_,I.out,λk o hk=>by cases hk⟩⟩;have h:=M.out;unfold jB at h;rw[show eZ i L=eY l by rw[<-af.out,Hb,<-HL.out];rfl] at h;exact h):P:=h
theorem O6(h:P:=by
 have wq:=G.gg 0 47 c_;have c48:=G.gg 1 48 c_;have BX:=G.gg 2 49 c_;have c52:=G.gg 5 52 c_;have ae:=G.at2 (j:=0) rfl hi (.inl rfl);have hA:aA W9 w':=ae;go_simp;go_at_call 77;refine aH (CA.out _ (fk.out.keep hA)) λw5 hO=>?_;exact qg):P:=h
theorem E8(h:P:=by
 intro j yj b;by_cases h2:j<z.length
 .rw[oV h2] at b;exact .inl b
 .have k:=(aW.1 b).1;rw[aZ,dF] at k;rw[lR a_,show j-z.length=0 by omega] at b;simp only[cP,cC] at b;exact .inr ⟨a_,b.symm⟩):P:=h
theorem j6(h:P:=by
 cases R with
 | ok rr l ns=>exact⟨true,h.1,⟨rfl,h.2.1,hl _ _ _ rfl⟩,h.2.2⟩
 | bad a er=>
  refine⟨false,h.1,⟨rfl,?_⟩,h.2.2⟩;have:=h.2.1;rw[hn] at this;exact this):P:=h
theorem FC(h:P:=by
 obtain⟨q,hq,c,b⟩:=h.ph;by_cases hlt:q<eff.length
 .have:=(c q _ (bI hlt)).1 (hd _ (List.getElem_mem hlt));omega
 .obtain rfl:q=eff.length:=a_
  exact b):P:=h
theorem j7(h:P:=by
 obtain⟨oy,eZ,zM⟩:=nE.out w' (aE ax.out bM) i q Z;have sa:oy=gk:=by
   injection eZ with eZ;injection eZ with eZ;exact eZ.symm
 rw[sa] at zM;exact zM):P:=h
theorem j0(h:P:=by
 iterate 8 (go_simp;exact I _ _ (G.pu aj ha))
 all_goals
  have ab:=G.ea hi;rw[<-ak] at ab;obtain⟨b0,b1,b2,b3,b4,b5,b6,b7,b8⟩:=ab;exact ah):P:=h
theorem km(h:P:=by
 rcases h.row.2 with⟨_,b⟩ | ⟨g,cap,cur,b,c,f,e,_⟩
 .exact absurd (List.length_eq_zero_iff.1 b) hz
 .exact⟨g,cap,cur,b,e,c,f⟩):P:=h
theorem O3(h:P:=by
 go_wp2_with fail;refine aH (D1.out _) λw1 o=>?_;have G:=hid (aE HW.out o);clear o;go_wp2;go_ret2;exact⟨by rw[HX.out];rfl,G.out⟩):P:=h
theorem k6(h:P:=by
 rintro j' e' rfl c;rcases hp with h | ⟨e2,b,e⟩
 .omega
 .rw[Nat.add_sub_cancel,c] at b;injection b with b;rw[b];exact e):P:=h
theorem O8(h:P:=by
 go_wp2_with fail;refine aH (CF.out _ _ F6) λw8 dZ=>?_;have HF:=hid dZ.bad;clear dZ;go_wp2;go_ret2;rw[<-jZ.out];exact ai):P:=h
theorem du(h:P:=by
 go_wp2_with (go_at_call 236;refine(I.out _).mono ?_;rintro e w' ⟨rfl,rfl⟩);go_ret2;exact⟨Q.out.symm,q.out⟩):P:=h
theorem lp(h:P:=by
 cases x with
 | bad a e=>cases hx
 | ok r' l' ns'=>
  injection hx with f o p;subst f o;exact⟨ns',rfl,p.symm⟩):P:=h
theorem FO(h:P:=by
 cases hA:gC x lv a st with
 | ok n s1=>rw[hA] at c;exact c
 | bad b er=>rw[hA] at c;exact⟨⟨_,c.1⟩,c.2⟩):P:=h
theorem ky(h:P:=by
 clear hb32;go_wp2_with (go_at_call 91;refine(CG.out _).mono ?_;rintro e w' ⟨rfl,rfl⟩);go_ret3;exact eu):P:=h
theorem lx(h:P:=by
 go_wp2;go_roundw
 case rel=>exact⟨p+n,a_,HG.out,bd.out,ai.out⟩
 case measure=>rw[bY.out,HM.out];omega):P:=h
theorem dt(h:P:=by
 go_in;go_wp2_with (go_at_call 96;go_must (refine(r.out _).mono ?_);rintro en w1 ⟨rfl,b⟩)
 all_goals go_ret
 all_goals exact⟨rfl,((aD _ _).alloc (aF _) _).trans (b.mono e_)⟩):P:=h
theorem FS(h:P:=by
 subst hji;rw[hk] at b;obtain rfl:=bA b;show (if k=k then x else v k)=lk vl j;rw[if_pos rfl];exact hx):P:=h
theorem FT(h:P:=by
 have r:e=eff.getLastD 0:=by simpa using r
 have:=(C q e m).2 (rL _);rw[r,hdl] at this;cases this):P:=h
theorem mf(h:P:=by
 go_wp2;go_round
 case rel=>exact⟨k+1,t_,a_,ip.out⟩
 case measure=>simp[RowKit.intOf];omega):P:=h
theorem fg(h:P:=by
 exact(((((W.out.trans (HK.out.bel.mono j)).setCell v_ _).setCell v_ _).setCell v_ _)).drew):P:=h
theorem f9(h:P:=by
 repeat' split
 all_goals first | rfl | (exfalso;omega) | (apply Prod.ext<;>simp<;>omega)):P:=h
theorem fu(h:P:=by
 go_round
 case rel=>exact⟨k+1,t_,a_,v.out⟩
 case measure=>simp[RowKit.intOf];omega):P:=h
theorem fx(h:P:=by
 rcases r with r | r
 .exact .inl r.symm
 .exact .inr (by rw[r];simp[Value.ownBlock])):P:=h
theorem FM(h:P:=by
 go_wp2;go_roundw
 .exact⟨i1,by rw[<-bt],a_,a_,by rw[tw.out,<-jP],ax⟩
 .exact aq):P:=h
theorem n9(h:P:=by
 cases hc:d 23 with
 | false=>rfl
 | true=>have:=h.up2 hc;rw[h20] at this;cases this):P:=h
theorem oa(h:P:=by
 obtain⟨f,_,a⟩:=h;rw[List.drop_of_length_le hp] at a;rw[<-a];cases f<;>rfl):P:=h
theorem bd(h:P:=by
 have:=this ⟨c.toNat,c.toNat_lt⟩;simpa only[UInt8.ofNat_toNat] using this):P:=h
theorem od(h:P:=by
 go_wp2;go_meet;exact⟨true,rfl,hid (λ_=>n.out),hid (λh=>by cases h),k⟩):P:=h
theorem oe(h:P:=by
 go_wp2;go_ret2;exact⟨u.out,by first | exact m.out | exact m.out.drew⟩):P:=h
theorem ce(h:P:=by
 go_wp2;go_ret;exact⟨rfl,by first | exact o6.out | exact o6.out.drew⟩):P:=h
theorem ox(h:P:=by
 refine⟨?_,?_,?_,?_,?_,?_,?_,?_⟩<;>simp[World.cell?,World.frozen?,hb]):P:=h
theorem F3(h:P:=by
 go_ret;exact⟨v1,rfl,by rw[<-l.out];exact jB.snoc d,o.out.trans c⟩):P:=h
theorem oo(h:P:=by
 iterate 15 (refine G.on ?_ (hd:=by simp[F]);go_simp;exact I _ _ G.sp)):P:=h
theorem DW(h:P:=by
 go_simp;go_at_call 43;refine aH (CT.out _ G.st) λw5 ag=>?_;exact df):P:=h
theorem ot(h:P:=by
 obtain⟨Y,c,f,b⟩:=h;exact⟨Y,c,f,(hb.block Y (aG b)).trans b⟩):P:=h
theorem GD(h:P:=by
 have AM:=G.g 0 45 c_;have C4:=G.g 1 46 c_;refine jD ?_;exact DW):P:=h
theorem EM(h:P:=by
 intro x e;simp only[fT,List.not_mem_nil,or_false] at e;omega):P:=h
theorem O1(h:P:=by
 go_in;go_wp2_with fail;refine aH C2.out λw1 o=>?_;exact ax):P:=h
theorem qj(h:P:=by
 injection c with c;injection c with _ c;exact absurd c b_):P:=h
theorem af(h:P:=by
 go_simp;exact I _ _ (G.pure b_ aj ha rfl b_ b_ b_ rfl)):P:=h
theorem g_(h:P:=by first | exact cc.out | exact cc.out.keep (aD _ _).drew):P:=h
theorem C_(h:P:=by first | exact fk.out | exact fk.out.keep (aD _ _).drew):P:=h
theorem GI(h:P:=by first | exact gx.out | exact gx.out.keep (aD _ _).drew):P:=h
theorem GK(h:P:=by first | exact sJ.out | exact sJ.out.keep (aD _ _).drew):P:=h
theorem it(h:P:=by
 go_wp2_with fail;refine(CL.out _ GH).mono ?_;exact az):P:=h
theorem ib(h:P:=by
 injection h with b d;subst b d;exact⟨_,rfl⟩):P:=h
theorem jc(h:P:=by
 simp[results,results47,go_sem,d0,d1,d2,d3]):P:=h
theorem N'(h:P:=by intro e;apply hc;apply UInt8.toNat_inj.1;omega):P:=h
theorem cp(h:P:=by
 go_wp2;go_meet;exact⟨by rw[<-HC.out],rfl⟩):P:=h
theorem au(h:P:=by
 exact h.mono λ_ _ ⟨a,b⟩=>⟨a,b.symm⟩):P:=h
theorem EV(h:P:=by first | exact dm | exact aE (aD _ _).drew dm):P:=h
theorem aj(h:P:=by
 simp[World.setCell,Array.getElem?_modify,h]):P:=h
theorem eg(h:P:=by
 go_in;go_wp2;go_ret;exact⟨rfl,e.out⟩):P:=h
theorem aa(h:P:=by
 go_ret;exact⟨nE (by rw[u.out]),rfl⟩):P:=h
theorem eu(h:P:=by
 exact⟨by rw[<-HF.out];rfl,HW.out⟩):P:=h
theorem jd(h:P:=by
 go_wp2;go_ret2;rw[<-bw.out];exact an):P:=h
theorem io(h:P:=by
 first|have:=QR;exact jc|exact ez):P:=h
theorem df(h:P:=by
 exact I _ _ (G.sc (aE G.st ag))):P:=h
theorem bi(h:P:=by
 exact⟨none,0,by rw[h0,h1]⟩):P:=h
theorem y_(h:P:=by first | rfl | (congr 1;omega)):P:=h
theorem bj(h:P:=by
 go_in;go_wp2;go_ret;exact bo):P:=h
theorem GU(h:P:=by show (0:Int)<=(x:Int);omega):P:=h
theorem GW(h:P:=by rw[aP];unfold maxLen;omega):P:=h
theorem ep(h:P:=by
 go_wp2;go_ret2;exact bx):P:=h
theorem bp(h:P:=by
 rw[e2,b] at a;cases a):P:=h
theorem bx(h:P:=by
 exact⟨rfl,G.out⟩):P:=h
theorem GS(h:P:=by have h:=es.out;omega):P:=h
theorem E9(h:P:=by rw[aw];exact aD _ _):P:=h
theorem DO(h:P:=by have:=hb.txt;omega):P:=h
theorem G5(h:P:=by have:=hl.out;omega):P:=h
theorem IX(h:P:=by simp only[];omega):P:=h
theorem JY(h:P:=by simpa using hk):P:=h
theorem JW(h:P:=by simpa using b):P:=h
theorem IF(h:P:=by rw[d.out,g]):P:=h
theorem IP(h:P:=by rw[<-hz,bP]):P:=h
theorem c_(h:P:=by simp[F]):P:=h
theorem o_(h:P:=by simp[j]):P:=h
theorem a_(h:P:=by omega):P:=h
end Go.Proofs.YtfhjncbdgjlcoaaGreatDoor
