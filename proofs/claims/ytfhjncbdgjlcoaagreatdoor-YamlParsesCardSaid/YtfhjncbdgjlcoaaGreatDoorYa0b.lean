import Derived.Test.YtfhjncbdgjlcoaaGreatDoorYa0a
set_option maxRecDepth 100000
namespace Go.Proofs.YtfhjncbdgjlcoaaGreatDoor
variable{P:Prop}
theorem p9(h:P:=by
 first|have _:=wm;have HRd:=hid hRd;clear hRd|skip
 first
 |first|have _:=vy|have _:=wm
  obtain⟨R,G⟩:=exQ<|jW txt lv k kf kt st;rw[G];unfold jW at G
 |have _:=wn;obtain⟨R,G⟩:=exQ<|fN txt V true had k st
  rw[G];unfold fN at G;rw[if_pos rfl] at G
 |skip
 first
 |first|have _:=wo|have _:=wn
  have hkl:k<st.lines.length:=a_
 |skip
 first|have _:=wo;have dU:=hid hk;obtain⟨i0,cy,cm,dg,dh⟩:=info_parts Tryz.infoLine;have yo:=hid (aK cy (aK cm (aK dg dh)))|skip
 first
 |first|have _:=ws|have _:=wo
  obtain⟨R,G⟩:=exQ<|pE txt sp lv k kf kt st;rw[G];unfold pE at G
 |skip
 first|have _:=wo;clear hk cy cm dg dh|skip
 first
 |first|have _:=vy|have _:=wm|have _:=wo|have _:=wt|have _:=wn
  have bz:=jY hkl
 |have _:=ws;have bz:=jY (show k<st.lines.length by omega)
 |skip
 first
 |first|have _:=ws|have _:=vy|have _:=wm|have _:=wo|have _:=wt|have _:=wn
  obtain⟨r,hr⟩:=exQ<|aS st.lines k
 |skip
 first
 |first|have _:=ws|have _:=vy|have _:=wo
  rw[hr] at bz G
 |have _:=wm;rw[hr] at bz G ⊢
 |skip
 first
 |have _:=ws;have eH:k<sp.length:=by have:=hw.ls.1;omega
  obtain⟨t1,t2⟩:=Eu (s:=txt) r.ind eH
 |skip
 first
 |first|have _:=ws|have _:=vy|have _:=wm|have _:=wo
  have hll:=hw.ls.1;have AB:=hw.tot
 |skip
 first
 |first|have _:=vy|have _:=wm|have _:=wo|have _:=wt|have _:=wn
  have eL:=hw.ls.2 k hkl
 |skip
 first
 |first|have _:=vy|have _:=wm|have _:=wo
  rw[hr] at eL
 |have _:=wt;rw[hr] at bz eL ⊢
 |have _:=wn;rw[hr] at bz G eL
 |skip
 first
 |first|have _:=wt|have _:=wn
  obtain⟨q1,q2,q3⟩:=eL.key
 |skip
 first
 |have _:=wt;obtain⟨kf,pA⟩: ∃n:Nat,r.kf=n:=⟨r.kf.toNat,a_⟩;obtain⟨kt,tm⟩: ∃n:Nat,r.kt=n:=⟨r.kt.toNat,a_⟩;obtain⟨sl,fc⟩:=exQ<|eQ txt r.kf r.kt;have jx:=tD txt r.kf r.kt;rw[fc] at jx ⊢;have mQ:(bs txt).extract kf kt=bs sl:=by rw[<-fc,pA,tm,gL,aQ];rfl
  have qb:(kf:Int)<=(kt:Int):=a_
  have df:(kt:Int)<=(txt.length:Int):=a_
  have tM:=aM txt;rw[pA];obtain⟨⟨K,er⟩,iP⟩:=exQ<|jM sl;have CK:Hid (∀w',bU w'->Calls Tryz.prog 33 #[bs sl] w' λe w2=>e= .returned (.tuple #[bs K, .int .i64 er])/\Below w'.heap.size w' w2):=hid (λw' hv=>by have:=HKy.out sl w' a_ hv;rw[iP] at this;exact this);rw[iP]
 |skip
 first
 |first|have _:=ws|have _:=vy|have _:=wm|have _:=wo|have _:=wt
  obtain⟨n,dv⟩:=exQ<|st.lines.length
 |skip
 first
 |first|have _:=ws|have _:=vy|have _:=wm|have _:=wo
  have b1:=aL w (.cells #[kf,kt] 42);have d8:=heap_alloc_new w (.cells #[kf,kt] 42);have dx:=h.put b1 (aD _) d8;have ek: ∀q o,Pr q=some o->(Pr.put w.heap.size (.cells #[kf,kt] 42)) q=some o:=aJ.put_less (λq o Z=>h.frLt q o Z) (aD _);obtain⟨X1,fE⟩:=exQ<|w.heap.size;obtain⟨W1,bo⟩:=exQ<|w.alloc (.cells #[kf,kt] 42);rw[bo] at d8 dx;rw[fE] at d8 dx ek;have b2:=aL W1 (.cells (lineA r) 68);have em:=heap_alloc_new W1 (.cells (lineA r) 68);have ei:=dx.put b2 (aD _) em;have iG: ∀q o,(Pr.put X1 (.cells #[kf,kt] 42)) q=some o->((Pr.put X1 (.cells #[kf,kt] 42)).put W1.heap.size (.cells (lineA r) 68)) q=some o:=aJ.put_less (λq o Z=>dx.frLt q o Z) (aD _);have gm:(W1.alloc (.cells (lineA r) 68)).heap[X1]?=some (.cells #[kf,kt] 42):=(b2.block _ (aF d8)).trans d8;obtain⟨z,sv,lvv,nv,hz,hK⟩:=dx
 |have _:=wt;obtain⟨ph,ch,rfl,mx⟩:=hh;have b2:=aL w (.cells (lineA r) 68);have em:=heap_alloc_new w (.cells (lineA r) 68);have ei:=h.put b2 (aD _) em;have ap:=hid (aJ.put_less (Pr:=Pr) (o:= .cells (lineA r) 68) (λq o Z=>h.frLt q o Z) (aD w.heap.size));have HH:Hid (∀w',Below w.heap.size w w'-> ∀j x,hm[j]?=some x-> ∃g,ph=some ⟨g,0,none⟩/\w'.cell? ⟨g,j,none⟩=some (.string (bs x))):=hid (λw' hb j x hj=>by obtain⟨g,h1,h2⟩:=mx j x hj;exact⟨g,h1,gM h2 hb⟩)
 |have _:=wn;obtain⟨⟨key,ke⟩,jS⟩:=exQ<|jM (eQ txt r.kf r.kt)
  rw[jS] at G;simp only[] at G;have hkeyl:key.length<=262144:=by
   have h1:=aAW (eQ txt r.kf r.kt);have h2:=tD txt r.kf r.kt;rw[jS] at h1;simp only[] at h1;omega
  have gx:Hid (∀w',YJ YP Pr w0 P txt sp st 0 0 w'->Calls Tryz.prog 107 #[some P, .agg #[r.kf,r.kt]] w' λe w2=>e= .returned (.string (bs (eQ txt r.kf r.kt)))/\Below w'.heap.size w' w2):=hid (λw' hj=>As r.kf r.kt w' hj q1 q2 q3 a_);have yP:Hid (∀w',bU w'->Calls Tryz.prog 48 #[bs (eQ txt r.kf r.kt)] w' λe w2=>e= .returned (.tuple #[bs key,ke])/\Below w'.heap.size w' w2):=hid (λw' hv=>by have:=Li (eQ txt r.kf r.kt) w' (by have:=tD txt r.kf r.kt;omega) hv;rw[jS] at this;exact this);have hx:=lQ (h.at_ hX);have hy:=lQ (h.at_ hY);obtain⟨lH,pt⟩:=hx;obtain⟨rF,sM⟩:=hy;have o7:=hid (aK hX hY);have HJ:=hid h;have v8:=hid hm;have HR:=hid G;have HW:=hid hw;have HK:=hid hk
 |skip
 first
 |first|have _:=wt|have _:=wn
  obtain⟨z,sv,lvv,nv,hz,hK⟩:=h
 |skip
 first
 |first|have _:=ws|have _:=vy|have _:=wm|have _:=wo|have _:=wt|have _:=wn
  obtain⟨gl,cl,e9,_,I⟩:=hK.lineAt bz;subst e9
 |skip
 first
 |first|have _:=ws|have _:=vy|have _:=wm|have _:=wo|have _:=wt
  obtain⟨⟨_,_,c2,_⟩,_⟩:=hK.cells;have hPl:=hK.lt;have g0:=I 0 _ a_ rfl;have g1:=I 1 _ a_ rfl;have g2:=I 2 _ a_ rfl;have g3:=I 3 _ a_ rfl;have g4:=I 4 _ a_ rfl;have g5:=I 5 _ a_ rfl;have g6:=I 6 _ a_ rfl;have g7:=I 7 _ a_ rfl;have g8:=I 8 _ a_ rfl;have g9:=I 9 _ a_ rfl;simp only[Nat.add_zero] at g0
 |have _:=wn;have c2:=hK.cells.1.2.2.1;have hPl:=hK.lt;have g3:=I 4 _ a_ rfl;have g4:=I 5 _ a_ rfl;obtain⟨n,dv⟩:=exQ<|st.lines.length
 |skip
 first
 |first|have _:=ws|have _:=vy|have _:=wm|have _:=wo|have _:=wt|have _:=wn
  rw[dv] at c2;have gC:(0:Int)<=(k:Int):=a_
  have ge:(k:Int)<(n:Int):=a_
 |skip
 first
 |first|have _:=ws|have _:=vy|have _:=wm|have _:=wo
  obtain⟨X2,gq⟩:=exQ<|W1.heap.size;obtain⟨W2,aY⟩:=exQ<|W1.alloc (.cells (lineA r) 68);rw[aY] at ei em gm;rw[gq] at ei em iG
 |have _:=wt;obtain⟨X2,gq⟩:=exQ<|w.heap.size
  obtain⟨W2,aY⟩:=exQ<|w.alloc (.cells (lineA r) 68);have a9:Hid (Below w.heap.size w W2):=hid (by rw[<-aY];exact b2);rw[aY] at ei em;rw[gq] at ei em ap;have bK:=hid (aJ.put_eq Pr X2 (.cells (lineA r) 68));obtain⟨al,dC⟩: ∃al:aJ,Pr.put X2 (.cells (lineA r) 68)=al:=⟨_,rfl⟩;rw[dC] at ei ap bK
 |skip
 first
 |first|have _:=ws|have _:=vy|have _:=wm|have _:=wo|have _:=wt
  unfold lineA at aY
 |skip
 first
 |have _:=wo;have eH:k<sp.length:=by have:=hw.ls.1;omega
  obtain⟨t1,t2⟩:=Eu (s:=txt) r.ind eH;have HT:=hid (aK t1 t2);clear t1 t2
 |skip
 first
 |first|have _:=ws|have _:=vy|have _:=wm|have _:=wo|have _:=wt
  have bN:=hid ei
 |skip
 first
 |first|have _:=ws|have _:=vy|have _:=wm|have _:=wo
  have dn:=hid (aK gm em);have ap:=hid (λq o Z=>iG q o (ek q o Z));have HR:=hid G;have HW:=hid hw;have cC:=hid hsp
 |skip
 first
 |first|have _:=vy|have _:=wm|have _:=wo
  have HK:=hid (aK hr bz)
 |have _:=ws;have HK:=hid (aK hk (aK hr bz))
 |have _:=wn;have b1:=aL w (.cells #[r.kf,r.kt] 42);have pp:=heap_alloc_new w (.cells #[r.kf,r.kt] 42);obtain⟨S,xS⟩:=exQ<|w.heap.size;obtain⟨W1,bo⟩:=exQ<|w.alloc (.cells #[r.kf,r.kt] 42);rw[bo] at b1 pp;rw[xS] at pp;have lc:=hid b1;have ss:=hid pp
 |skip
 first
 |first|have _:=ws|have _:=vy|have _:=wm|have _:=wo|have _:=wn
  have tn:=hid dv
 |skip
 first
 |first|have _:=vy|have _:=wm|have _:=wo
  clear hK hz I ei d8 gm em b1 b2 ek iG G hw hsp bz hr h
 |skip
 first
 |first|have _:=vy|have _:=wm
  obtain⟨A,hA⟩:=exQ<|fM ⟨1,r.ind,k,k+1,kf,kt,r.rf,r.rt,[]⟩ lv r.rf st
 |skip
 first
 |first|have _:=vy|have _:=wm|have _:=wo
  obtain⟨k1,eu⟩:=exQ<|k+1;have fK:(k:Int)+1=(k1:Int):=a_
 |skip
 first
 |first|have _:=vy|have _:=wm
  rw[eu] at hA
 |skip
 first
 |first|have _:=vy|have _:=wm|have _:=wo
  have ct:=hid eu
 |skip
 first
 |have _:=wo;obtain⟨til,cx⟩:=exQ<|oC txt sp r.ind k
  have fs:=hid cx;obtain⟨A,hA⟩:=exQ<|fM ⟨4,r.ind,k,0,kf,kt,r.rf,r.rt,[]⟩ lv r.rf st
 |skip
 first
 |first|have _:=vy|have _:=wm|have _:=wo
  obtain⟨al,dC⟩: ∃al:aJ,((Pr.put X1 (.cells #[kf,kt] 42)).put X2 (.cells (lineA r) 68))=al:=⟨_,rfl⟩;have bK:=hid (aJ.put_eq (Pr.put X1 (.cells #[kf,kt] 42)) X2 (.cells (lineA r) 68));rw[dC] at bK bN ap
 |skip
 first
 |have _:=vy;have CA:Hid (∀w',YJ YP al w0 P txt sp st 0 0 w'->Calls Tryz.prog 77 #[some P, .agg #[(1:Int),r.ind,k,k1,kf,kt,r.rf,r.rt,()],lev,r.rf] w' (eT YP al w0 P txt sp A)):=hid (λw' hj=>by have:=Mm (Pr:=al) ⟨1,r.ind,k,k1,kf,kt,r.rf,r.rt,[]⟩ lv lev r.rf w' hj rfl hl hlv a_;rw[hA] at this;exact this);have HA:=hid hA
 |have _:=wm;have CA:Hid (∀w',YJ YQ al w0 P txt sp st 0 0 w'->Calls Tryz.prog 38 #[some P, .agg #[(1:Int),r.ind,k,k1,kf,kt,r.rf,r.rt,()],lev,r.rf] w' (rG YQ al w0 P txt sp A)):=hid (λw' hj=>by have:=Fj (Pr:=al) ⟨1,r.ind,k,k1,kf,kt,r.rf,r.rt,[]⟩ lv lev r.rf w' hj rfl hl hlv a_;rw[hA] at this;exact this);have HA:=hid hA;have CF:=hid (fun(st':YS) (er:Int) w' hj=>tC (Pr:=al) (w0:=w0) (P:=P) (txt:=txt) (sp:=sp) (st:=st') (a0:=0) (e0:=0) r.rf er w' hj)
 |have _:=wo;have CA:Hid (∀w',YJ YQ al w0 P txt sp st 0 0 w'->Calls Tryz.prog 38 #[some P, .agg #[(4:Int),r.ind,k,(0:Int),kf,kt,r.rf,r.rt,()],lev,r.rf] w' (eT YQ al w0 P txt sp A)):=hid (λw' hj=>by have:=Zd (Pr:=al) ⟨4,r.ind,k,0,kf,kt,r.rf,r.rt,[]⟩ lv lev r.rf w' hj rfl hl hlv a_;rw[hA] at this;exact this);have HA:=hid hA
 |skip
 first
 |first|have _:=vy|have _:=wm|have _:=wo
  obtain⟨y0,y1⟩:=jG dn.out.1;have gr:bF W2 X2 r:=dn.out.2;obtain⟨l0,l1,l2,l3,l4,l5,l6,l7,l8,l9,_⟩:=gr.cells
 |skip
 first
 |first|have _:=vy|have _:=wm
  clear hA dC eu gr
 |skip
 first|have _:=vy;go_enter Tryz.func75,Tryz.ntmps75|have _:=wm;go_enter Tryz.func37,Tryz.ntmps37|have _:=wo;clear hA dC eu gr cx;go_enter Tryz.func70,Tryz.ntmps70|have _:=ws;have HT:=hid (aK t1 t2);clear hK hz I ei d8 gm em b1 b2 ek iG G hw hsp hk bz hr t1 t2 h;go_enter Tryz.func147,Tryz.ntmps147|have _:=wt;have sF:=hid (aK pA tm);clear hK hz I ei em b2 bz hr mx eL q1 q2 q3 pA tm fc jx iP dC hw;go_enter Tryz.func39,Tryz.ntmps39|have _:=wn;clear hK hz I bz hr eL jS G hw hk hm hX hY dv b1 pp q1 q2 q3;go_enter Tryz.func110,Tryz.ntmps110|skip
 first
 |first|have _:=ws|have _:=vy|have _:=wm|have _:=wo|have _:=wt|have _:=wn
  go_upto_region 2 with fail
 |skip
 first
 |first|have _:=ws|have _:=vy|have _:=wm|have _:=wo
  clear bo fE aY gq c2 g0 g1 g2 g3 g4 g5 g6 g7 g8 g9 hPl
 |have _:=wt;clear aY gq c2 g0 g1 g2 g3 g4 g5 g6 g7 g8 g9 hPl
 |skip
 first
 |first|have _:=ws|have _:=wt
  obtain⟨W0,ai⟩:=exQ<|W2.drew
 |skip
 first
 |have _:=ws;have ks:=bN.out.keep (aB _ W2).drew;rw[ai] at ks;have np:=hid ks;obtain⟨til,cx⟩:=exQ<|oC txt sp r.ind k;have fs:=hid cx;have xi:Hid (∀w',Below W0.heap.size W0 w'->Calls Tryz.prog 181 #[some P,k] w' λe w2=>e= .returned (.int .i64 (til:Int))/\Below w'.heap.size w' w2):=hid (λw' hb=>by have:=Zv k r.ind w' (np.out.keep hb) (by have:=HK.out.1;omega) hll (by rw[HK.out.2.1]) cC.out hs hn;rw[cx] at this;exact this);obtain⟨nd,dN⟩: ∃nd:bA,(⟨4,r.ind,k,til,kf,kt,r.rf,r.rt,[]⟩:bA)=nd:=⟨_,rfl⟩;obtain⟨SA,ah⟩: ∃S:World->Prop,(λw'=>w'.cell? ⟨X2,3,none⟩=some (.int .i64 r.ind)/\w'.cell? ⟨X2,6,none⟩=some (.int .i64 r.rf)/\w'.cell? ⟨X2,7,none⟩=some (.int .i64 r.rt)/\w'.cell? ⟨X1,0,none⟩=some (.int .i64 kf)/\w'.cell? ⟨X1,1,none⟩=some (.int .i64 kt))=S:=⟨_,rfl⟩;have ak:Hid (∀w',Below W0.heap.size W0 w'->SA w'):=hid (λw' hb=>by
   rw[<-ah];have Z:=np.out.keep hb;have hl:bF w' X2 r:=Z.at_ (aJ.put_eq _ _ _);have h1:w'.heap[X1]?=some (.cells #[kf,kt] 42):=by
    have e0:W2.heap[X1]?=_:=dn.out.1;have e1:W0.heap[X1]?=W2.heap[X1]?:=by rw[<-ai];rfl
    exact(hb.block X1 (by rw[<-ai];exact aF e0)).trans (e1.trans e0)
   obtain⟨_,_,_,b3,_,_,b6,b7,_⟩:=hl.cells;exact⟨b3,b6,b7,jG h1⟩)
  clear cx ks;subst dN;refine iW [22,23,24,25,26,27,28,29,30,31,11] [11] [11] 10 (nI W0 45 (fO Na)) 58 [.pointer (some ⟨X2,3,none⟩),r.ind,k,some P,k,til, .agg #[kf,kt], .pointer (some ⟨X2,6,none⟩), .agg #[r.rf,r.rt], .agg #[(4:Int),r.ind,k,til,kf,kt,r.rf,r.rt,()]] SA (uQ W0 45 (fO ⟨4,r.ind,k,til,kf,kt,r.rf,r.rt,[]⟩)) [5,10,11,0,2,3,4,7,9,1,6,8] j_ i_ ?_ ?_
 |have _:=wt;have bH:=bN.out.keep (aB _ W2).drew;rw[ai] at bH;have bn:=hid bH;have pd:=hid (hV.keep bH.bel);have dI:Hid (Below w.heap.size w W0):=hid (by rw[<-ai];exact a9.out.drew);have gi:Hid (∀w',Below W0.heap.size W0 w'->w'.cell? ⟨P,0,none⟩=some (.string (bs txt))/\w'.cell? ⟨X2,4,none⟩=some (.int .i64 (kf:Int))/\w'.cell? ⟨X2,5,none⟩=some (.int .i64 (kt:Int))):=hid (λw' hb=>by have hj:=bn.out.keep hb;have bL:bF w' X2 r:=hj.at_ bK.out;obtain⟨_,_,_,_,b4,b5,_⟩:=bL.cells;rw[sF.out.1] at b4;rw[sF.out.2] at b5;obtain⟨z,sv,lvv,nv,hz,hK⟩:=hj;exact⟨hK.cells.1.1,b4,b5⟩);clear bH;refine lX [20,21,22,23,24,25,26,27,28,29,30,31,19,32,33,9,10] 60 [some P,some P,some P,bs txt, .pointer (some ⟨X2,4,none⟩), .pointer (some ⟨X2,4,none⟩),kf, .pointer (some ⟨X2,4,none⟩), .pointer (some ⟨X2,5,none⟩),kt,bs sl, .tuple #[bs K, .int .i64 er], .tuple #[bs K, .int .i64 er],bs K, .int .i64 er,bs K, .int .i64 er] (λw'=>Below W0.heap.size W0 w') [11,0,1,2,3,4,5,6,7,8,9,10,12,13,14,15,16] i_ ?_ ?_
 |skip
 first
 |first|have _:=ws|have _:=wt
  ·intro d a w' iq o' hO ho hi E aa F R' G;first|have _:=ws;have Z:=eA aa [(0,some P),(1,k),(7,some X1),(10,some X2)] rfl rfl;have hc:=F.all [(0,22),(1,23),(2,24),(3,25),(4,26),(5,27),(6,28),(7,29),(8,30),(9,31)] b_|have Z:=eA aa [(0,some P),(8,some X2)] rfl rfl;have hc:=F.all [(12,19),(0,20),(1,21),(2,22),(3,23),(4,24),(5,25),(6,26),(7,27),(8,28),(9,29),(10,30),(11,31),(13,32),(14,33)] b_
   dsimp only[dX,dT,lk] at Z hc;clear aa;first|have _:=ws;have ha:=E;have ad:=ho|obtain⟨p0,b4,b5⟩:=gi.out _ F.st
   repeat' rcases hO with _ | ⟨_,hO⟩
   all_goals (simp only[dA,cR,bZ,cG] at ho;subst ho;try simp[Region.binds] at E)
   first
   |have _:=ws
    ·have zc:=F.gg 3 25 c_;have c26:=F.gg 4 26 c_;have hA:Below W0.heap.size W0 w':=F.at2 (j:=0) rfl (F.lastNot (f:=12) (i:=5) d' hi) (.inl rfl);go_simp;go_at_call 181;refine(xi.out _ hA).mono ?_;exact kg
    ·have hA:Below W0.heap.size W0 w':=F.at2 (j:=0) rfl (F.lastNot (f:=12) (i:=10) d' hi) (.inl rfl);have iA:=aL w' (.cells (fO Na) 45);exact fl
    ·have yH:=F.gg 9 31 c_;have ab:=F.at2 (j:=0) rfl hi (.inl rfl);obtain⟨Y,hY,cb,bV⟩:=F.fb hi c_;have hY:a.tmps.getD 11 undef= .pointer (some ⟨Y,0,none⟩):=hY;have c11:a.tmps[11]?.getD undef= .pointer (some ⟨Y,0,none⟩):=by rw[<-aI];exact hY
     obtain⟨z0,z1,z2,z3,z4,z5,z6,z7,z8,h0,h1,h2,h3,h4,h5,h6,h7,h8⟩:=yB bV;have hA:Below W0.heap.size W0 w':=ab;go_simp;exact G undef _ (F.ef 0 ad ha hi (.inl rfl) (λh=>absurd rfl h) (λh=>absurd rfl h) ⟨Y,hY,cb,Zw bV,Zx hA cb⟩)
    iterate 6 (go_simp;exact G _ _ (F.pu ad ha))
    all_goals
     have L:=F.ea hi;rw[<-ah] at L;obtain⟨b3,b6,b7,y0,y1⟩:=L;exact ag
   |·have c30:=F.g 10 30 c_
     refine jF ?_;go_simp;go_at_call 33;refine(CK.out _ (pd.out.keep F.st)).mono ?_;exact cg
    iterate 16 (refine jF ?_;go_simp;exact G _ _ F.sp)
 |skip
 first
 |have _:=ws;intro v wz au dl;obtain⟨Y,hY,cb,bV,et⟩:=dl;have qF:v 11= .pointer (some ⟨Y,0,none⟩):=hY;simp only[cS,dF,cP,dG,qF];have bG:=np.out.put et cb bV;have bt:=hid (λq o Z=>aJ.put_less (Pr:=(Pr.put X1 (.cells #[kf,kt] 42)).put X2 (.cells (lineA r) 68)) (o:= .cells (fO ⟨4,r.ind,k,til,kf,kt,r.rf,r.rt,[]⟩) 45) (λq o' Z=>np.out.frLt q o' Z) cb q o (ap.out q o Z));obtain⟨ar,cK⟩: ∃ar:aJ,((Pr.put X1 (.cells #[kf,kt] 42)).put X2 (.cells (lineA r) 68)).put Y (.cells (fO ⟨4,r.ind,k,til,kf,kt,r.rf,r.rt,[]⟩) 45)=ar:=⟨_,rfl⟩;have tO:=hid (aJ.put_eq ((Pr.put X1 (.cells #[kf,kt] 42)).put X2 (.cells (lineA r) 68)) Y (.cells (fO ⟨4,r.ind,k,til,kf,kt,r.rf,r.rt,[]⟩) 45));rw[cK] at bG bt tO;have gy:=hid bG;have bL:bF wz X2 r:=(np.out.keep et).at_ (aJ.put_eq _ _ _);obtain⟨_,_,_,_,_,_,b6,_⟩:=bL.cells;obtain⟨z0,z1,z2,z3,z4,z5,z6,z7,z8⟩:=oJ bV;obtain⟨A,hA⟩:=exQ<|fM ⟨4,r.ind,k,til,kf,kt,r.rf,r.rt,[]⟩ lv r.rf st;have CA:Hid (∀w',YJ YP ar w0 P txt sp st 0 0 w'->Calls Tryz.prog 77 #[some P, .agg #[(4:Int),r.ind,k,til,kf,kt,r.rf,r.rt,()],lev,r.rf] w' (eT YP ar w0 P txt sp A)):=hid (λw' hj=>by have:=Mm (Pr:=ar) ⟨4,r.ind,k,til,kf,kt,r.rf,r.rt,[]⟩ lv lev r.rf w' hj rfl hl hlv a_;rw[hA] at this;exact this);have HA:=hid hA;clear hA bG cK au hY cb bV et qF ak ah xi bL
 |skip
 first
 |first|have _:=ws|have _:=vy|have _:=wm
  cases A with
  | bad a e=>
   have G:=HR.out
   first
   |first|have _:=vy|have _:=wm
    rw[ct.out,HA.out] at G
   |rw[fs.out,HA.out] at G
   have bi:Hid (YR.bad a e=R):=hid G;clear G;go_wp2_with fail
   first
   |first|have _:=vy|have _:=wm
    refine(CA.out _ n').mono ?_
   |refine(CA.out _ DX).mono ?_
   first
   |first|have _:=ws|have _:=vy
    rintro e w4 ⟨⟨m,rfl⟩,an⟩
   |rintro e w4 ⟨rfl,an⟩
   first
   |first|have _:=vy|have _:=wm
    have HF:=hid (an.less ap.out)
   |have HF:=hid (an.less bt.out)
   clear an;go_wp2_with fail
   first
   |first|have _:=vy|have _:=wm
    go_ret2;rw[<-bi.out]
   |skip
   first
   |have _:=vy;exact ao
   |have _:=wm;exact am
   |go_loopw [13] (λia wr=>ia= .bool false/\w4=wr) (λ_ _=>0)
    case atStart=>exact⟨rfl,rfl⟩
    case round=>
     obtain⟨rfl,rfl⟩:=hrel;exact oj
  | ok nn s1=>
   first
   |first|have _:=vy|have _:=wm
    obtain⟨e1,e2,iS,lN⟩:=uP HA.out
   |obtain⟨e1,e2,_,lN⟩:=uP HA.out
   subst e2;have G:=HR.out
   first
   |first|have _:=vy|have _:=wm
    rw[ct.out,HA.out] at G
   |rw[fs.out,HA.out] at G
   simp only[] at G
   first
   |first|have _:=vy|have _:=wm
    obtain⟨ns,hns⟩:=exQ<|st.nodes++ [⟨1,r.ind,k,k1,kf,kt,r.rf,r.rt,[]⟩];rw[hns] at G CA;obtain⟨tot,iY⟩:=exQ<|st.total+1;rw[iY] at G CA;have htot4:tot<=4096:=a_;obtain⟨⟨T,er⟩,hT⟩:=exQ<|iB (eQ txt r.rf r.rt);rw[hT] at G;simp only[] at G;have gd:=Nj (eQ txt r.rf r.rt) (aZ (tD _ _ _) hs);rw[hT] at gd;simp only[] at gd;have mg:=xB T;have hsp1:=zA T;have hdz:=Ct T;have gj:=hid G
   |skip
   first|have _:=vy;have pU:Hid (∀w',bU w'->Calls Tryz.prog 47 #[bs (eQ txt r.rf r.rt)] w' (pS T er w')):=hid (λw' hv=>by have:=Lj (eQ txt r.rf r.rt) w' (by have:=tD txt r.rf r.rt;omega) hv;rw[hT] at this;exact this)|have _:=wm;have kJ:=HRd.out (eQ txt r.rf r.rt);rw[hT] at kJ|skip
   first
   |first|have _:=vy|have _:=wm
    obtain⟨q1,q2,q3⟩:=eL.rst
   |skip
   first
   |have _:=vy;have gx:Hid (∀w',YJ YP al w0 P txt sp ⟨st.lines,ns,tot⟩ 0 0 w'->Calls Tryz.prog 107 #[some P, .agg #[r.rf,r.rt]] w' λe w2=>e= .returned (.string (bs (eQ txt r.rf r.rt)))/\Below w'.heap.size w' w2):=hid (λw' hj=>As r.rf r.rt w' hj q1 q2 q3 a_);have mh:=hid e1;clear G hT e1 hns iY q1 q2 q3
   |have _:=wm;have jx:=tD txt r.rf r.rt;obtain⟨sl,fc⟩:=exQ<|eQ txt r.rf r.rt;rw[fc] at kJ jx;have pU:Hid (∀w',bU w'->Calls Tryz.prog 31 #[bs sl] w' (pS T er w')):=hid (λw' hv=>kJ w' a_ hv);obtain⟨rf,jT⟩: ∃n:Nat,r.rf=n:=⟨r.rf.toNat,a_⟩;obtain⟨rt,kb⟩: ∃n:Nat,r.rt=n:=⟨r.rt.toNat,a_⟩;have mQ:(bs txt).extract rf rt=bs sl:=by rw[<-fc,jT,kb,gL,aQ];rfl
    have qb:(rf:Int)<=(rt:Int):=a_;have df:(rt:Int)<=(txt.length:Int):=a_;have tM:=aM txt;have tL:=hid (aK jT kb);have mh:=hid e1;clear G hT e1 hns iY q1 q2 q3 kJ HRd fc jx jT kb
   |skip
   first
   |first|have _:=vy|have _:=wm
    go_wp2_with fail;refine(CA.out _ n').mono ?_
   |have mh:=hid e1;clear e1;have gj:=hid G;clear G;obtain⟨k1,eu⟩:=exQ<|k+1;have fK:(k:Int)+1=(k1:Int):=a_;have ct:=hid eu;have dD:til<=sp.length:=by have:=HT.out.2;rw[fs.out] at this;exact this
    have nc:k1<=til:=by have:=HT.out.1;rw[fs.out] at this;omega
    clear eu;go_wp2_with fail;refine(CA.out _ DX).mono ?_
   rintro e w4 ⟨rfl,en⟩
   first
   |first|have _:=vy|have _:=wm
    have bu:=hid en
   |skip
   first
   |have _:=vy;have bL:bF w4 X2 r:=en.at_ bK.out;obtain⟨l0,l1,l2,l3,l4,l5,l6,l7,l8,l9,_⟩:=bL.cells;clear en bL y0 y1;go_wp2_with fail;refine(gx.out _ g_).mono ?_;rintro e w5 ⟨rfl,aj⟩;have cw:=hid (bu.out.keep aj);clear aj l0 l1 l2 l3 l4 l5 l6 l7 l8 l9;go_wp2_with fail;refine(pU.out _ (hV.keep cw.out.bel)).mono ?_;rintro e w6 ⟨⟨kv,iv,rfl,jf⟩,a8⟩;have cB:=hid (cw.out.keep a8);obtain⟨pk,ck,pi,ci,rfl,rfl⟩:=jf.toVD.form;obtain⟨V,uB⟩:=exQ<|w6.heap.size;have b7:=aL w6 (.cells #[T.kind,bs T.text, .slice pk T.keys.length ck, .slice pi T.items.length ci] 36);have pT:=heap_alloc_new w6 (.cells #[T.kind,bs T.text, .slice pk T.keys.length ck, .slice pi T.items.length ci] 36);obtain⟨W7,kV⟩:=exQ<|w6.alloc (.cells #[T.kind,bs T.text, .slice pk T.keys.length ck, .slice pi T.items.length ci] 36);rw[kV] at b7 pT;rw[uB] at pT;have ep:=hid (cB.out.keep b7);have rH:=hid pT;have rR:=hid (jf.keep b7);have zk:=hid cw.out.lt;unfold vv;clear a8 b7 pT jf
   |have _:=wm;clear en y0 y1 l0 l1 l2 l3 l4 l5 l6 l7 l8 l9;go_upto_region 5 with fail;obtain⟨W0,ai⟩:=exQ<|w4.drew;have bH:=bu.out.keep (aB _ w4).drew;rw[ai] at bH;have bn:=hid bH;have pd:=hid (hV.keep bH.bel);obtain⟨SA,ah⟩: ∃S:World->Prop,(λw'=>w'.cell? ⟨P,0,none⟩=some (.string (bs txt))/\w'.cell? ⟨X2,6,none⟩=some (.int .i64 (rf:Int))/\w'.cell? ⟨X2,7,none⟩=some (.int .i64 (rt:Int)))=S:=⟨_,rfl⟩;have ak:Hid (∀w',Below W0.heap.size W0 w'->SA w'):=hid (λw' hb=>by rw[<-ah];have hj:=bn.out.keep hb;have bL:bF w' X2 r:=hj.at_ bK.out;obtain⟨_,_,_,_,_,_,b6,b7,_⟩:=bL.cells;rw[tL.out.1] at b6;rw[tL.out.2] at b7;obtain⟨z,sv,lvv,nv,hz,hK⟩:=hj;exact⟨hK.cells.1.1,b6,b7⟩);clear bH;refine Yi 11 [43,44,45,46,47,48,49,50,51,52,53,54,42,55,56,15,16] [16] [16] 15 (tE W0 T) 98 (λq=> [some P,some P,some P,bs txt, .pointer (some ⟨X2,6,none⟩), .pointer (some ⟨X2,6,none⟩),rf, .pointer (some ⟨X2,6,none⟩), .pointer (some ⟨X2,7,none⟩),rt,bs sl, .tuple #[.agg #[T.kind,bs T.text, .slice (o1 q) T.keys.length (o2 q), .slice (o3 q) T.items.length (o4 q)], .int .i64 er], .tuple #[.agg #[T.kind,bs T.text, .slice (o1 q) T.keys.length (o2 q), .slice (o3 q) T.items.length (o4 q)], .int .i64 er], .agg #[T.kind,bs T.text, .slice (o1 q) T.keys.length (o2 q), .slice (o3 q) T.items.length (o4 q)], .int .i64 er,undef,undef, .int .i64 er]) (λ_=>SA) (nK W0 T) [15,16,0,1,2,4,5,7,8,10,12,13,14,17,3,6,9] j_ i_ ?_ ?_ ?_
    ·intro d a w' o' ho hi E aa F R' G;have ad:=ho;have ha:=E;simp only[dA,cR,bZ,cG] at ho;subst ho;simp[Region.binds] at E;have oB:=F.gg 10 53 c_;have hA:Below W0.heap.size W0 w':=F.at2 (j:=0) rfl (F.ln hi) (.inl rfl);go_simp;go_at_call 31;refine(pU.out w' (pd.out.keep hA)).mono ?_;rintro e w5 ⟨⟨kv,iv,rfl,ej⟩,aj⟩;obtain⟨pk,ck,pi,ci,rfl,rfl⟩:=ej.form;exact G (pk,ck,pi,ci) _ _ (F.sw [11,12,13,14,17] ad ha hi (λ_=>ak.out _ (aC hA aj)) (λk c hk _=>by obtain rfl:k=0:=EY;exact⟨aC hA aj,ej.mono (λz hz _=>aZ hA.size hz)⟩) (λx hx=>tE.call hx ej aj))
    ·intro q d a w' iq o' hO ho hi E aa F R' G;have Z:=eA aa [(0,some P),(12,some X2)] rfl rfl;have hc:=F.all [(12,42),(0,43),(1,44),(2,45),(3,46),(4,47),(5,48),(6,49),(7,50),(8,51),(9,52),(11,54),(13,55),(14,56)] b_;dsimp only[dX,dT,lk] at Z hc;clear aa;have ha:=E;have ad:=ho
     repeat' rcases hO with _ | ⟨_,hO⟩
     all_goals (simp only[dA,cR,bZ,cG] at ho;subst ho;try simp[Region.binds] at E)
     ·have iA:=aL w' (.cells #[(0:Int), .string ⟨#[]⟩,(),()] 36);have ab:=F.at2 (j:=0) rfl (F.ln hi) (.inl rfl);go_simp;exact G _ _ (F.fe ad ha hi (λ_=>ak.out _ (aC (nK.bel ab) iA)) (λk c hp=>nK.keep hp iA) (tE.new ab))
     ·have tP:=F.gg 13 55 c_;have ab:=F.at2 (j:=0) rfl hi (.inl rfl);obtain⟨Y,hY,cb,bV,Ag⟩:=F.fb hi c_;have hY:a.tmps.getD 15 undef= .pointer (some ⟨Y,0,none⟩):=hY;have c15:a.tmps[15]?.getD undef= .pointer (some ⟨Y,0,none⟩):=by rw[<-aI];exact hY
      obtain⟨y0,y1,y2,y3,z0,z1,z2,z3⟩:=bJ bV;go_simp;exact G undef _ (F.ef 0 ad ha hi (.inl rfl) (λh=>absurd rfl h) (λh=>absurd rfl h) (nK.put ab hY cb bV Ag))
     iterate 12 (go_simp;exact G _ _ (F.pu ad ha))
     all_goals
      have L:=F.ea hi;rw[<-ah] at L;obtain⟨p0,b6,b7⟩:=L;exact ag
    intro p v wz au dl;obtain⟨V,hY,cb,bV,et,p6⟩:=dl;obtain⟨pk,ck,pi,ci⟩:=p;unfold uU uV at bV p6;simp only[] at bV p6;have qy:v 15= .pointer (some ⟨V,0,none⟩):=hY;have rc:v 16= .int .i64 er:=au 17 b_ b_ b_ b_;simp only[cS,dF,cP,dG,qy,rc];have ep:=hid (bn.out.keep et);have rH:=hid bV;have rR:=hid p6;have bL:bF wz X2 r:=ep.out.at_ bK.out;obtain⟨_,_,_,_,_,_,l6,_⟩:=bL.cells;obtain⟨y0,y1,y2,y3,_⟩:=bJ bV;clear au hY cb bV et p6 qy rc ak ah pU bL ai bu bn pd
   |skip
   first
   |first|have _:=vy|have _:=wm
    by_cases h0:er=0;rotate_left
    ·have G:=gj.out;rw[if_pos h0] at G;have ic:Hid (YR.bad r.rf er=R):=hid G;have d0:(er !=0)=true:=E4
     first|have _:=vy;have CF:=hid (λw' hj=>pX (Pr:=al) (w0:=w0) (P:=P) (txt:=txt) (sp:=sp) (st:=⟨st.lines,ns,tot⟩) (a0:=0) (e0:=0) r.rf er w' hj)|skip
     clear G h0;go_wp2_with fail;first|have _:=vy;refine(CF.out _ s').mono ?_|refine(CF.out ⟨st.lines,ns,tot⟩ er _ s').mono ?_
     rintro e w8 ⟨rfl,cN⟩;have HF:=hid (cN.less ap.out).bad;clear cN;go_wp2_with fail;go_ret2;rw[<-ic.out];exact nj
    subst h0;have G:=gj.out;rw[if_neg e_] at G
   |skip
   first
   |have _:=vy;have ic:=hid G;obtain⟨s1,sa⟩:=exQ<|T.size-1;have mb:(T.size:Int)-1=(s1:Int):=a_;have wA:IntKind.i64.wrap ((T.size:Int)-1)=(s1:Int):=by rw[mb,IntKind.wrap_i64];omega
   |have _:=wm;have qR:=hid rR.out.toVD;have i8:Hid (∀w',Below wz.heap.size wz w'->Calls Tryz.prog 68 #[.agg #[T.kind,bs T.text, .slice pk T.keys.length ck, .slice pi T.items.length ci]] w' λe w2=>e= .returned (.int .i64 (T.depth:Int))/\Below w'.heap.size w' w2):=hid (λw' hb=>Nw _ T (.slice pk T.keys.length ck) (.slice pi T.items.length ci) w' (qR.out.keep hb) gd);have hlev:=hl.out;obtain⟨dp,jZ⟩:=exQ<|T.depth;rw[jZ] at G i8;obtain⟨ld,ym⟩:=exQ<|lev+(dp:Int);have u5:IntKind.i64.wrap ld=ld:=by rw[IntKind.wrap_i64];omega
    obtain⟨l1,ek⟩:=exQ<|ld-1;have yf:IntKind.i64.wrap l1=l1:=by rw[IntKind.wrap_i64];omega
    by_cases hd:lv<dp
    ·rw[if_pos hd] at G;have ku:Hid (YR.bad r.rf 5=R):=hid G;have d1:decide ((32:Int)<l1)=true:=aO a_;clear G hd hlev jZ;go_wp2_with fail;refine(i8.out _ f_).mono ?_;rintro e w9 ⟨rfl,db⟩;have rg:Below wz.heap.size wz w9:=t_
     have ee:=hid (ep.out.keep rg);have bL:bF w9 X2 r:=ee.out.at_ bK.out;obtain⟨_,_,_,_,_,_,l6',_⟩:=bL.cells;clear db rg bL l6 y0 y1 y2 y3;go_wp2_with fail;refine(CF.out ⟨st.lines,ns,tot⟩ 5 _ A').mono ?_;rintro e xd ⟨rfl,gu⟩;have HF:=hid (gu.less ap.out).bad;clear gu;go_wp2_with fail;go_ret2;rw[<-ku.out];exact am
    rw[if_neg hd] at G;have d1:decide ((32:Int)<l1)=false:=aG a_;obtain⟨s1,sa⟩:=exQ<|tot+T.size;have mb:(tot:Int)+(T.size:Int)=(s1:Int):=a_;have wA:IntKind.i64.wrap ((tot:Int)+(T.size:Int))=(s1:Int):=by rw[mb,IntKind.wrap_i64];omega
   |skip
   first
   |first|have _:=vy|have _:=wm
    have hs1x:IntKind.i64.wrap (s1:Int)=(s1:Int):=by rw[IntKind.wrap_i64];omega
   |skip
   first
   |have _:=vy;obtain⟨t2,i6⟩:=exQ<|tot+s1
    have oe:(tot:Int)+(s1:Int)=(t2:Int):=a_;have va:IntKind.i64.wrap ((tot:Int)+(s1:Int))=(t2:Int):=by rw[oe,IntKind.wrap_i64];omega
   |have _:=wm;obtain⟨t2,i6⟩:=exQ<|tot+T.size-1
    have oe:(s1:Int)-1=(t2:Int):=a_;have va:IntKind.i64.wrap ((s1:Int)-1)=(t2:Int):=by rw[oe,IntKind.wrap_i64];omega
   |skip
   first
   |first|have _:=vy|have _:=wm
    have ht2x:IntKind.i64.wrap (t2:Int)=(t2:Int):=by rw[IntKind.wrap_i64];omega
   |skip
   first|have _:=vy;have n9:Hid (tot+T.size-1=t2):=hid a_|skip
   first
   |first|have _:=vy|have _:=wm
    have ht2b:t2<=1099511631872:=a_
   |skip
   first
   |have _:=vy;clear G sa i6;obtain⟨W3,a6⟩:=exQ<|W7.drew;have hZ:Below W7.heap.size W7 W3:=by rw[<-a6];exact(aB _ _).drew
   |have _:=wm;rw[i6] at G;have ic:=hid G;clear G sa i6 hd hlev jZ;go_wp2_with fail;refine(i8.out _ f_).mono ?_;rintro e w9 ⟨rfl,db⟩;have zd:Hid (Below wz.heap.size wz w9):=hid t_;clear db;go_upto_region 10 with fail;obtain⟨W3,a6⟩:=exQ<|w9.drew;have hZ:Below wz.heap.size wz W3:=by rw[<-a6];exact zd.out.drew
   |skip
   first
   |first|have _:=vy|have _:=wm
    have da:=hid (ep.out.keep hZ);have mO:=hid ((hZ.block _ (aF rH.out)).trans rH.out)
   |skip
   first
   |have _:=vy;have ro:=hid (rR.out.keep hZ);have mu:=hid (ro.out.toVD);have pL:Hid (∀w',Below W3.heap.size W3 w'->Calls Tryz.prog 108 #[.agg #[T.kind,bs T.text, .slice pk T.keys.length ck, .slice pi T.items.length ci]] w' λe w2=>e= .returned (.int .i64 (T.size:Int))/\Below w'.heap.size w' w2):=hid (λw' hb=>Sc _ T (.slice pk T.keys.length ck) (.slice pi T.items.length ci) w' (mu.out.keep hb) gd)
   |have _:=wm;have mu:=hid (qR.out.keep hZ);have pL:Hid (∀w',Below W3.heap.size W3 w'->Calls Tryz.prog 69 #[.agg #[T.kind,bs T.text, .slice pk T.keys.length ck, .slice pi T.items.length ci]] w' λe w2=>e= .returned (.int .i64 (T.size:Int))/\Below w'.heap.size w' w2):=hid (λw' hb=>Nv _ T (.slice pk T.keys.length ck) (.slice pi T.items.length ci) w' (mu.out.keep hb) gd)
   |skip
   first
   |first|have _:=vy|have _:=wm
    obtain⟨SA,ah⟩: ∃S:World->Prop,(λw'=>(w'.cell? ⟨P,4,none⟩=some (.int .i64 (tot:Int))/\w'.frozen? ⟨P,4,none⟩=false)/\w'.cell? ⟨V,0,none⟩=some (.int .i64 T.kind)/\w'.cell? ⟨V,1,none⟩=some (.string (bs T.text))/\w'.cell? ⟨V,2,none⟩=some (.slice pk T.keys.length ck)/\w'.cell? ⟨V,3,none⟩=some (.slice pi T.items.length ci))=S:=⟨_,rfl⟩;have ak:Hid (∀w',Below W3.heap.size W3 w'->SA w'):=hid (λw' hb=>by rw[<-ah];obtain⟨z,sv,lvv,nv,hz,hK⟩:=da.out.keep hb;obtain⟨⟨_,_,_,_,c4,_⟩,_,_,f4,_⟩:=hK.cells;have hv:=(hb.block _ (aF mO.out)).trans mO.out;obtain⟨y0,y1,y2,y3,_⟩:=bJ hv;exact⟨⟨c4,f4⟩,y0,y1,y2,y3⟩)
   |skip
   first
   |have _:=vy;clear hZ;go_upto_region 9 with fail;clear kV uB;refine iW [58,59,60,61,62,63,64,65,66,67] [10] [10] 1000000 (λ_ _=>True) 88 [some P,some P, .pointer (some ⟨P,4,none⟩),tot, .agg #[T.kind,bs T.text, .slice pk T.keys.length ck, .slice pi T.items.length ci],T.size,s1,t2,some P, .pointer (some ⟨P,4,none⟩)] SA (uR W3 P t2) [5,10,0,1,2,6,7,8,9,3,4] (by rw[a6];exact ak.out _ (aB _ _)) u_ ?_ ?_
   |have _:=wm;clear hZ l6 y0 y1 y2 y3 i8;refine iW [76,77,78,79,80,81,82,83,84,85,86] [11] [11] 1000000 (λ_ _=>True) 98 [some P,some P,some P, .pointer (some ⟨P,4,none⟩),tot, .agg #[T.kind,bs T.text, .slice pk T.keys.length ck, .slice pi T.items.length ci],T.size,s1,t2,some P, .pointer (some ⟨P,4,none⟩)] SA (uR W3 P t2) [6,11,0,1,2,3,7,8,9,10,4,5] (by rw[a6];exact ak.out _ (aB _ _)) u_ ?_ ?_
   |skip
   first
   |first|have _:=vy|have _:=wm
    ·intro d a w' iq o' hO ho hi E aa F R' G;first|have _:=vy;have Z:=eA aa [(0,some P),(14,some V)] rfl rfl;have hc:=F.all [(0,58),(1,59),(2,60),(3,61),(4,62),(5,63),(6,64),(7,65),(8,66),(9,67)] b_|have Z:=eA aa [(0,some P),(15,some V)] rfl rfl;have hc:=F.all [(0,76),(1,77),(2,78),(3,79),(4,80),(5,81),(6,82),(7,83),(8,84),(9,85),(10,86)] b_
     dsimp only[dX,dT,lk] at Z hc;clear aa;have ha:=E;have ad:=ho
     repeat' rcases hO with _ | ⟨_,hO⟩
     all_goals (simp only[dA,cR,bZ,cG] at ho;subst ho;try simp[Region.binds] at E)
     ·first|have _:=vy;have lz:=F.gg 4 62 c_;have hA:Below W3.heap.size W3 w':=F.at2 (j:=0) rfl (F.lastNot (f:=11) (i:=5) d' hi) (.inl rfl);go_simp;go_at_call 108|have c81:=F.gg 5 81 c_;have hA:Below W3.heap.size W3 w':=F.at2 (j:=0) rfl (F.ln hi) (.inl rfl);go_simp;go_at_call 69
      refine(pL.out _ hA).mono ?_;rintro e w5 ⟨rfl,aj⟩;exact G _ _ (F.qu ad ha hi (λ_=>ak.out _ (aC hA aj)) (λk c hk hp=>by obtain rfl:k=0:=EY;exact uR.keep hp aj) (λx hx=>hx))
     ·first|have _:=vy;have z9:=F.gg 7 65 c_;have AT:=F.gg 9 67 c_|have yt:=F.gg 8 84 c_;have yy:=F.gg 10 86 c_
      have ab:=F.at2 (j:=0) rfl hi (.inl rfl);have L:=F.st hi;rw[<-ah] at L;obtain⟨⟨p4,AZ⟩,v0,v1,v2,v3⟩:=L;have hA:Below W3.heap.size W3 w':=ab;go_simp;exact G undef _ (F.ef 0 ad ha hi (.inl rfl) (λ_ _ _=>trivial) (λh=>absurd rfl h) ⟨w',hA,rfl⟩)
     first|have _:=vy;iterate 7 (go_simp;exact G _ _ (F.pu ad ha))|iterate 8 (go_simp;exact G _ _ (F.pu ad ha))
     all_goals
      have L:=F.ea hi;rw[<-ah] at L;obtain⟨⟨p4,AZ⟩,v0,v1,v2,v3⟩:=L;exact ag
   |skip
   first|have _:=vy;intro v wz au dl|have _:=wm;intro v wy au dl|skip
   first
   |first|have _:=vy|have _:=wm
    obtain⟨w8,jD,nA⟩:=dl
   |skip
   first
   |have _:=vy;have cN:YJ YP al w0 P txt sp ⟨st.lines,ns,t2⟩ 0 0 wz:=me;have tu:wz.heap[V]?=some (.cells #[T.kind,bs T.text, .slice pk T.keys.length ck, .slice pi T.items.length ci] 36):=by
     rw[nA];have ga:V≠P:=by
      intro e;obtain⟨z,sv,lvv,nv,hz,hK⟩:=da.out;have hb:=hK.box;rw[<-e,mO.out] at hb;exact fx
     rw[eC w8 ⟨P,4,none⟩ _ V ga];exact(jD.block _ (aF mO.out)).trans mO.out
    have qS:VD wz T.depth T (.slice pk T.keys.length ck) (.slice pi T.items.length ci):=by
     have h1:=ro.out.keep jD;refine fC.toVD (ok:=λ_=>True) (h1.agree (λq Z uT=>⟨?_,trivial⟩));rw[nA];exact eC w8 ⟨P,4,none⟩ _ q (by have:=zk.out;simp only[];omega)
   |have _:=wm;have cN:YJ YQ al w0 P txt sp ⟨st.lines,ns,t2⟩ 0 0 wy:=me
   |skip
   first
   |first|have _:=vy|have _:=wm
    have lm:=hid cN
   |skip
   first
   |have _:=vy;have HV8:=hid tu;have wd:=hid qS;have i8:Hid (∀w',Below wz.heap.size wz w'->Calls Tryz.prog 109 #[.agg #[T.kind,bs T.text, .slice pk T.keys.length ck, .slice pi T.items.length ci]] w' λe w2=>e= .returned (.int .i64 (T.depth:Int))/\Below w'.heap.size w' w2):=hid (λw' hb=>Sd _ T (.slice pk T.keys.length ck) (.slice pi T.items.length ci) w' (wd.out.keep hb) gd);obtain⟨y0,y1,y2,y3,_⟩:=bJ tu;clear au jD nA cN tu qS ah ak pL
   |have _:=wm;have bL:bF wy X2 r:=cN.at_ bK.out;obtain⟨_,_,_,_,_,_,l6,_⟩:=bL.cells;obtain⟨z,sv,lvv,nv,hz,hK⟩:=cN;have c4:=hK.cells.1.2.2.2.2.1;have hPl:=hK.lt;simp only[] at c4;clear au jD nA ah ak pL hK hz bL
   |skip
   first
   |first|have _:=vy|have _:=wm
    simp only[cS,dF,cP,dG]
   |skip
   first|have _:=vy;have hlev:=hl.out|skip
   first
   |first|have _:=vy|have _:=wm
    have G:=ic.out
   |skip
   first
   |have _:=vy;rw[n9.out] at G;obtain⟨dp,jZ⟩:=exQ<|T.depth;rw[jZ] at G i8;have hdpb:dp<=1099511627776:=a_;obtain⟨ld,ym⟩:=exQ<|lev+(dp:Int);have u5:IntKind.i64.wrap ld=ld:=by rw[IntKind.wrap_i64];omega
    obtain⟨l1,ek⟩:=exQ<|ld-1;have yf:IntKind.i64.wrap l1=l1:=by rw[IntKind.wrap_i64];omega
    by_cases hd:lv<dp
    ·rw[if_pos hd] at G;have ku:Hid (YR.bad r.rf 5=R):=hid G;have d1:decide ((32:Int)<l1)=true:=aO a_;have CF:=hid (λw' hj=>pX (Pr:=al) (w0:=w0) (P:=P) (txt:=txt) (sp:=sp) (st:=⟨st.lines,ns,t2⟩) (a0:=0) (e0:=0) r.rf 5 w' hj);clear G hd hlev jZ;go_wp2_with fail;refine(i8.out _ f_).mono ?_;rintro e w9 ⟨rfl,db⟩;have ee:=hid (lm.out.keep t_);clear db;go_wp2_with fail;refine(CF.out _ A').mono ?_;rintro e xd ⟨rfl,gu⟩;have HF:=hid (gu.less ap.out).bad;clear gu;go_wp2_with fail;go_ret2;rw[<-ku.out];exact ao
    rw[if_neg hd] at G;have d1:decide ((32:Int)<l1)=false:=aG a_
   |skip
   first
   |first|have _:=vy|have _:=wm
    by_cases ht:4096<t2
    ·rw[if_pos ht] at G;have ku:Hid (YR.bad r.rf 6=R):=hid G;have d2:decide ((4096:Int)<(t2:Int))=true:=aO a_
     first
     |have _:=vy;have CF:=hid (λw' hj=>pX (Pr:=al) (w0:=w0) (P:=P) (txt:=txt) (sp:=sp) (st:=⟨st.lines,ns,t2⟩) (a0:=0) (e0:=0) r.rf 6 w' hj);clear G hd hlev jZ ht;go_wp2_with fail;refine(i8.out _ f_).mono ?_;rintro e w9 ⟨rfl,db⟩;have ee:=hid (lm.out.keep t_);clear db;obtain⟨z,sv,lvv,nv,hz,hK⟩:=ee.out;have c4:=hK.cells.1.2.2.2.2.1;have hPl:=hK.lt;clear hK hz;simp only[] at c4;go_wp2_with fail;refine(CF.out _ A').mono ?_
     |clear G ht;go_wp2_with fail;refine(CF.out ⟨st.lines,ns,t2⟩ 6 _ (by first | exact lm.out | exact lm.out.keep (aB _ _).drew)).mono ?_
     rintro e xd ⟨rfl,gu⟩;have HF:=hid (gu.less ap.out).bad;clear gu;go_wp2_with fail;go_ret2;rw[<-ku.out];exact nj
    ·rw[if_neg ht] at G;have ku:=hid G;have d2:decide ((4096:Int)<(t2:Int))=false:=aG a_;first|have _:=vy;clear G hd hlev jZ ht;go_wp2_with fail;refine(i8.out _ f_).mono ?_;rintro e w9 ⟨rfl,db⟩;have ee:=hid (lm.out.keep t_);clear db;obtain⟨z,sv,lvv,nv,hz,hK⟩:=ee.out;have c4:=hK.cells.1.2.2.2.2.1;have hPl:=hK.lt;clear hK hz;simp only[] at c4;have HF:=hid (ee.out.less ap.out)|have HF:=hid (lm.out.less ap.out);clear G ht
     go_wp2_with fail;go_ret2;rw[<-ku.out];exact am
   |have yZ:Hid (Nb ar w0 P txt sp nn til (st.nodes++ [⟨4,r.ind,k,til,kf,kt,r.rf,r.rt,[]⟩]) (st.total+1) R true k1 w4):=hid ⟨nc,st.lines,by rw[<-ct.out];exact HK.out.1.symm,by rw[<-ct.out];exact gj.out,en⟩;clear en z0 z1 z2 z3 z4 z5 z6 z7 z8 b6;go_wp2_with fail;go_loopw [13,14] (λia eP wr=> ∃(b:Bool) (i:Nat),ia= .bool b/\eP= .int .i64 (i:Int)/\i<=sp.length+1/\Hid (Nb ar w0 P txt sp nn til (st.nodes++ [⟨4,r.ind,k,til,kf,kt,r.rf,r.rt,[]⟩]) (st.total+1) R b i wr)) (λ_ eP _=>sp.length+2-(RowKit.intOf eP).toNat)
    case atStart=>exact⟨true,k1,rfl,by first | rfl | rw[<-fK],a_,yZ⟩
    case round=>
     obtain⟨b,i,rfl,rfl,hi,kn⟩:=hrel;have vt:(0:Int)<=(i:Int):=a_;cases b with
     | false=>
      obtain⟨a,e,gA,an⟩:=(show ∃a e,R= .bad a e/\fS YP ar w0 P txt sp a e wr from kn.out);have HF:=hid (an.less bt.out);clear an;go_wp2_with fail;go_ret2;rw[gA];exact ao
     | true=>
      obtain⟨x9,ls,rq,hG,hj⟩:=(show i<=til/\ ∃ls,ls.length=i/\(match nF txt ((sp.drop i).take (til-i)) ls with | .inr a=>YR.bad a 2 | .inl ls=> .ok nn ⟨ls,st.nodes++ [⟨4,r.ind,k,til,kf,kt,r.rf,r.rt,[]⟩],st.total+1⟩)=R/\YJ YP ar w0 P txt sp ⟨ls,st.nodes++ [⟨4,r.ind,k,til,kf,kt,r.rf,r.rt,[]⟩],st.total+1⟩ 0 0 wr from kn.out);have xl:=hj.at_ tO.out;obtain⟨z0,z1,z2,z3,z4,z5,z6,z7,z8⟩:=oJ xl;have cv:=hid hj;have iD:=hid rq;clear hj xl rq;by_cases hilt:i<til
      ·have d1:decide ((i:Int)<(til:Int))=true:=aO a_;have iF:decide (i<til)=true:=aO hilt;obtain⟨x,hx⟩: ∃x,sp[i]?=some x:=⟨_,bC a_⟩;have eg:(sp.drop i).take (til-i)=x::(sp.drop (i+1)).take (til-(i+1)):=by
        rw[fL a_];rw[bC a_] at hx;rw[aV hx,show til-i=(til-(i+1))+1 by omega,List.take_succ_cons]
       rw[eg] at hG;unfold nF at hG;have nB:=hid (λw' hj=>Zj (Pr:=ar) (P:=P) (st:=⟨ls,st.nodes++ [⟨4,r.ind,k,til,kf,kt,r.rf,r.rt,[]⟩],st.total+1⟩) i x w' hj hx cC.out (by simp only[];have:=iD.out;omega) hs hn hV);unfold Fk at nB;obtain⟨i1,cL⟩:=exQ<|i+1;have br:(i:Int)+1=(i1:Int):=a_;have il:=hid cL;have mV:=hid hx;clear eg hx cL;by_cases hm:mM txt x<x.2
       ·rw[if_pos hm] at hG;simp only[] at hG;have AJ:Hid (YR.bad (mM txt x:Int) 2=R):=hid hG;have ne:Hid (∀w',YJ YP ar w0 P txt sp ⟨ls,st.nodes++ [⟨4,r.ind,k,til,kf,kt,r.rf,r.rt,[]⟩],st.total+1⟩ 0 0 w'->Calls Tryz.prog 182 #[some P,i] w' λe w2=>e= .returned (.bool false)/\fS YP ar w0 P txt sp (mM txt x:Int) 2 w2):=hid (λw' hj=>(nB.out w' hj).mono (λe w2 hE=>by
         rcases hE with⟨_,h1,h2⟩ | ⟨h1,_⟩
         ·exact⟨h1,h2⟩
         ·exact absurd hm h1))
        clear hG nB hm;go_wp2_with fail;refine(ne.out _ B_).mono ?_;rintro e w5 ⟨rfl,an⟩;have dr:=hid an;clear an;go_wp2_with fail;go_roundw
        ·exact⟨false,i1,rfl,by first | rfl | rw[<-br],a_,hid ⟨_,_,AJ.out.symm,dr.out⟩⟩
        ·exact aq
       ·rw[if_neg hm] at hG;have cE:=hid hG;have ne:Hid (∀w',YJ YP ar w0 P txt sp ⟨ls,st.nodes++ [⟨4,r.ind,k,til,kf,kt,r.rf,r.rt,[]⟩],st.total+1⟩ 0 0 w'->Calls Tryz.prog 182 #[some P,i] w' λe w2=>e= .returned (.bool true)/\YJ YP ar w0 P txt sp ⟨ls++ [pD txt x],st.nodes++ [⟨4,r.ind,k,til,kf,kt,r.rf,r.rt,[]⟩],st.total+1⟩ 0 0 w2):=hid (λw' hj=>(nB.out w' hj).mono (λe w2 hE=>by
         rcases hE with⟨h1,_⟩ | ⟨_,h1,h2⟩
         ·exact absurd h1 hm
         ·exact⟨h1,h2⟩))
        clear hG nB hm;go_wp2_with fail;refine(ne.out _ B_).mono ?_;rintro e w5 ⟨rfl,fu⟩;have cw:=hid fu;clear fu;go_wp2_with fail;go_roundw
        ·exact⟨true,i1,rfl,by first | rfl | rw[<-br],a_,hid ⟨by have:=il.out;omega,ls++ [pD txt x],by rw[aT,dS,iD.out];exact il.out,by rw[<-il.out];exact cE.out,cw.out⟩⟩
        ·exact aq
      ·have d1:decide ((i:Int)<(til:Int))=false:=aG a_;have iF:decide (i<til)=false:=aG hilt;rw[show til-i=0 by omega,List.take_zero] at hG;unfold nF at hG;simp only[] at hG;have cE:=hid hG;have HF:=hid (cv.out.less bt.out);clear hG hilt;go_wp2_with fail;go_ret2;rw[<-cE.out,mh.out];exact am
 |have _:=wo;cases A with
  | bad a e=>
    have G:=HR.out;rw[aAL HA.out] at G;have bi:Hid (YR.bad a e=R):=hid G;clear G;go_wp2_with fail;refine(CA.out _ n').mono ?_;rintro e w4 ⟨⟨m,rfl⟩,an⟩;have HF:=hid (an.less ap.out);clear an;exact oj
  | ok nn s1=>
    obtain⟨e1,e2,iS,lN⟩:=uP HA.out;subst e2;have G:=HR.out;rw[fs.out,show fM ⟨4,r.ind,k,til,kf,kt,r.rf,r.rt,[]⟩ lv r.rf st= .ok st.nodes.length ⟨st.lines,st.nodes++ [⟨4,r.ind,k,til,kf,kt,r.rf,r.rt,[]⟩],st.total+1⟩ by unfold fM;rw[if_neg iS,if_neg a_]] at G;simp only[] at G;have mh:=hid e1;have gj:=hid G;have dD:til<=sp.length:=by have:=HT.out.2;rw[fs.out] at this;exact this
    have nc:k1<=til:=by have:=HT.out.1;rw[fs.out,ct.out] at this;exact this
    clear e1 G;go_wp2_with fail;refine(CA.out _ n').mono ?_;rintro e w4 ⟨rfl,en⟩;have bu:=hid en;clear en y0 y1 l0 l1 l2 l3 l4 l5 l6 l7 l8 l9;obtain⟨o9,nw⟩:=exQ<|st.nodes++ [⟨4,r.ind,k,0,kf,kt,r.rf,r.rt,[]⟩];obtain⟨tot,iY⟩:=exQ<|st.total+1;have rX:=hid nw;have en:=bu.out;have G:=gj.out;rw[iY] at en G;rw[nw] at en;have HJ:=hid en;have ic:=hid G;have zT:(0:Int)<=r.ind:=(eL.ind).1;clear en G nw iY bu gj HR;go_upto_block 0 with fail;go_cut [13,14,15,16,17,50,51,52,53,54,55,56,57,58,59,60,61,62,63,64,65,66,67,68,69,70,71,72,73,74,75,76,77,78,79,80,81,82,83] (λia eP jH yn Aa li zg zF Av r5 sA rS vj wk zo AL vq yj AV Ap yi nL zY zz zG yL wS xa ug xA vK wb wa x4 ve wV tX ut vi wx=>eP= .int .i64 (til:Int)/\Hid (Below w4.heap.size w4 wx))
    case first=>
      go_wp2_with fail;go_loopw [13,14,15] (λia eP jH wr=> ∃(tl first i:Nat) (fz:Int),ia= .int .i64 fz/\eP= .int .i64 (tl:Int)/\jH= .int .i64 (i:Int)/\i<=sp.length/\Hid (fz=if first=0 then -1 else(first:Int))/\Hid (lB txt r.ind (sp.drop i) i tl first=til)/\Hid (Below w4.heap.size w4 wr)) (λ_ _ jH _=>sp.length+1-(RowKit.intOf jH).toNat)
      case atStart=>exact⟨k1,0,k1, -1,rfl,by rw[<-fK],by rw[<-fK],a_,hid rfl,hid (by have:=fs.out;unfold oC at this;rw[ct.out] at this;exact this),hid f_⟩
      case round=>
        obtain⟨tl,first,i,fz,rfl,rfl,rfl,hi,oA,HG,HB⟩:=hrel;have cv:=hid (HJ.out.keep HB.out);obtain⟨z,sv,lvv,nv,hz,hK⟩:=cv.out;obtain⟨ps,cs,rfl⟩:=hK.spSlice;obtain⟨⟨_,c1,_⟩,_⟩:=hK.cells;have hPl:=hK.lt;clear hK hz;by_cases hil:i<sp.length
        · have d1:decide ((i:Int)<(sp.length:Int))=true:=aO a_;obtain⟨x,hx⟩: ∃x,sp[i]?=some x:=⟨_,bC hil⟩;have eg:sp.drop i=x::sp.drop (i+1):=dy;have hg:=HG.out;rw[eg] at hg;unfold lB at hg;have nP:=jU (eJ txt x);obtain⟨x1,x2⟩:=cC.out x (bD hx);have dD:=xV x1 x2;have CB:Hid (∀w',Below wr.heap.size wr w'->Calls Tryz.prog 102 #[some P,i] w' λe w2=>e= .returned (.tuple #[.int .i64 (aX (eJ txt x):Int), .bool (decide (aX (eJ txt x)=(eJ txt x).length))])/\Below w'.heap.size w' w2):=hid (λw' hb=>Mz i x w' (cv.out.keep hb) hx cC.out hs);obtain⟨nb,fw⟩:=exQ<|aX (eJ txt x);rw[fw] at CB hg nP;have hnb6:nb<=65536:=a_;obtain⟨i1,cL⟩:=exQ<|i+1;have br:(i:Int)+1=(i1:Int):=a_;have eo:i1<=sp.length:=a_;rw[cL] at hg;have bL:bF wr X2 r:=cv.out.at_ bK.out;obtain⟨_,_,_,l3,_⟩:=bL.cells;obtain⟨bl,iE⟩:=exQ<|decide (nb=(eJ txt x).length);rw[iE] at CB;have cE:=hid hg;have pG:=hid iE;clear eg hx fw cL nP bL hg iE x1 x2 dD;cases bl with
          | true=>
            have hg:=cE.out;rw[if_pos (of_decide_eq_true pG.out)] at hg;have i5:=hid hg;clear cE pG hg;go_wp2_with fail;refine(CB.out _ f_).mono ?_;rintro e w5 ⟨rfl,aj⟩;have dr:=hid (aC HB.out (show Below wr.heap.size wr w5 by first | exact aj | exact aC (aB _ _).drew aj));clear aj;go_wp2_with fail;go_roundw
            · exact⟨tl,first,i1,fz,rfl,rfl,by rw[<-br],eo,oA,i5,dr⟩
            ·exact aq
          | false=>
            have hg:=cE.out;rw[if_neg (of_decide_eq_false pG.out)] at hg;have i5:=hid hg;clear cE pG hg;obtain⟨t1,p8⟩:=exQ<|decide ((nb:Int)<=r.ind);obtain⟨t2,i6⟩:=exQ<|decide ((0:Int)<=fz);obtain⟨t3,zv⟩:=exQ<|decide ((nb:Int)<fz);have ht4:decide (fz<0)=!t2:=by rw[<-i6,<-decide_not];exact decide_eq_decide.2 a_
            have sZ:=hid (aK p8 (aK i6 zv));cases t1<;>cases t2<;>cases t3
            all_goals
              go_wp2_with fail;refine(CB.out _ f_).mono ?_;rintro e w5 ⟨rfl,aj⟩;have a8:Below wr.heap.size wr w5:=s_;have dr:=hid (aC HB.out a8);have bL:bF w5 X2 r:=(cv.out.keep a8).at_ bK.out;obtain⟨_,_,_,l3',_⟩:=bL.cells;clear aj a8 bL l3;go_wp2_with fail
            all_goals first
              | (go_meet
                 exact⟨by rw[aAN oA.out i5.out sZ.out rfl],dr⟩)
              | (go_roundw
                 · exact⟨i1,_,i1,_,rfl,by rw[<-br],by rw[<-br],eo,hid (aAP oA.out sZ.out rfl zT),hid (aAO oA.out i5.out sZ.out rfl),dr⟩
                 · (try simp only[RowKit.intOf]);omega)
        · have d1:decide ((i:Int)<(sp.length:Int))=false:=aG a_;have iF:decide (i<sp.length)=false:=aG hil;have hg:=HG.out;rw[List.drop_of_length_le a_] at hg;unfold lB at hg;have zr:=hid hg;clear hg hil;go_wp2_with fail;go_meet;exact⟨by rw[zr.out],HB⟩
    case rest=>
      obtain⟨rfl,HB⟩:=hcut;have cw:=hid (HJ.out.keep HB.out);clear HB HJ;go_wp2_with fail;go_loopw [18] (λsJ wr=> ∃(q:Nat) (ls:List aP),sJ= .int .i64 (q:Int)/\q<=til/\Hid (ls.length=q/\1<=q)/\Hid ((match nF txt ((sp.drop q).take (til-q)) ls with | .inr a=>YR.bad a 2 | .inl ls=> .ok st.nodes.length ⟨ls,st.nodes++ [⟨4,r.ind,k,til,kf,kt,r.rf,r.rt,[]⟩],tot⟩)=R)/\Hid (YJ YQ al w0 P txt sp ⟨ls,o9,tot⟩ 0 0 wr)) (λsJ _=>til+1-(RowKit.intOf sJ).toNat)
      case atStart=>exact⟨k1,st.lines,by rw[<-fK],nc,hid (by rw[<-ct.out];exact⟨dU.out.symm,a_⟩),hid (by rw[<-ct.out];exact ic.out),cw⟩
      case round=>
        clear cw ic;obtain⟨q,ls,rfl,Z,iD,HG,cv⟩:=hrel;by_cases hqt:q<til
        · have d1:decide ((q:Int)<(til:Int))=true:=aO a_;have iF:decide (q<til)=true:=aO hqt;obtain⟨x,hx⟩: ∃x,sp[q]?=some x:=⟨_,bC a_⟩;have eg:(sp.drop q).take (til-q)=x::(sp.drop (q+1)).take (til-(q+1)):=by
            rw[fL a_];rw[bC a_] at hx;rw[aV hx,show til-q=(til-(q+1))+1 by omega,List.take_succ_cons]
          have hg:=HG.out;rw[eg] at hg;unfold nF at hg;obtain⟨M,hM⟩:=exQ<|mM txt x;have sP:=hid (λw' hj=>Zu (Pr:=al) (P:=P) (w0:=w0) (st:=⟨ls,o9,tot⟩) (a0:=0) (e0:=0) q x w' hj hx cC.out hs);have CI:=hid (λw' hj=>Mz (Pr:=al) (P:=P) (w0:=w0) (st:=⟨ls,o9,tot⟩) (a0:=0) (e0:=0) q x w' hj hx cC.out hs);rw[hM] at hg sP;obtain⟨q1,le⟩:=exQ<|q+1;have uO:(q:Int)+1=(q1:Int):=a_;have mL:(q:Int)<(sp.length:Int):=a_;have ih:(0:Int)<=(q:Int):=a_;rw[le] at hg;have cE:=hid hg;have HX:=hid hx;have kU:=hid le;obtain⟨bm,si⟩:=exQ<|decide (M<x.2);have xX:decide ((M:Int)<(x.2:Int))=bm:=by rw[<-si];exact decide_eq_decide.2 a_
          have wJ:=hid si;obtain⟨WR,j4⟩:=exQ<|wr.drew;have se:=cv.out.keep (aB _ wr).drew;rw[j4] at se;have tf:=hid se;have CM:Hid (∀w',Below WR.heap.size WR w'->Calls Tryz.prog 103 #[some P, .int .i64 (q:Int)] w' λe w2=>e= .returned (.int .i64 (M:Int))/\Below w'.heap.size w' w2):=hid (λw' hb=>sP.out w' (tf.out.keep hb));obtain⟨z,sv,lvv,nv,hz,hK⟩:=se;obtain⟨gs,cs,rfl,_,_,_⟩:=hK.spanAt hx;have re:Hid (∀w',Below WR.heap.size WR w'->w'.cell? ⟨P,1,none⟩=some (.slice (some ⟨gs,0,none⟩) sp.length cs)/\w'.cell? ⟨gs,q*2+1,none⟩=some (.int .i64 (x.2:Int))):=hid (λw' hb=>by have av:=hK.keep hb;obtain⟨g2,lC,e2,_,_,s1⟩:=av.spanAt HX.out;injection e2 with e2;injection e2 with e2;injection e2 with e2;subst e2;exact⟨av.cells.1.2.1,s1⟩);clear hK hz hx eg hg hM le;go_upto_region 19 with fail;refine lX [91,92,93,94,95,96,97,98,99,100,101,102] 144 [some P, .int .i64 (q:Int),M,some P,some P, .pointer (some ⟨P,1,none⟩), .slice (some ⟨gs,0,none⟩) sp.length cs, .int .i64 (q:Int), .pointer (some ⟨gs,q*2,none⟩), .pointer (some ⟨gs,q*2+1,none⟩), .int .i64 (x.2:Int),bm] (λw'=>Below WR.heap.size WR w') [2,0,1,3,4,5,6,7,8,9,10,11] (by rw[j4];exact aB _ _) ?_ ?_
          · intro d a w' iq o' hO ho hi E aa F R' G;have Z:=eA aa [(0,some P),(18, .int .i64 (q:Int))] rfl rfl;have hc:=F.all [(0,91),(1,92),(2,93),(3,94),(4,95),(5,96),(6,97),(7,98),(8,99),(9,100),(10,101)] b_;dsimp only[dX,dT,lk] at Z hc;clear aa;obtain⟨c1,s1⟩:=re.out _ F.st
            repeat' rcases hO with _ | ⟨_,hO⟩
            all_goals (simp only[dA,cR,bZ,cG] at ho;subst ho;try simp[Region.binds] at E)
            · have vT:=F.g 0 91 c_;have vP:=F.g 1 92 c_;refine jF ?_;go_simp;go_at_call 103;refine(CM.out _ F.st).mono ?_;exact cg
            iterate 11 (refine jF ?_;go_simp;exact G _ _ F.sp)
          intro wz hS;simp only[jE,dF,cP,dG];have cB:=hid (tf.out.keep hS);clear hS re CM tf j4 si xX;cases bm with
          | true=>
            have hg:=cE.out;rw[if_pos (of_decide_eq_true wJ.out)] at hg;have i5:Hid (YR.bad (M:Int) 2=R):=hid hg;clear hg cE;go_wp2_with fail;refine(sP.out _ p_).mono ?_;rintro e w5 ⟨rfl,aj⟩;have a8:Below wz.heap.size wz w5:=s_;have CF:=hid (tC (M:Int) 2 w5 (cB.out.keep a8));clear aj a8;go_wp2_with fail;refine CF.out.mono ?_;rintro e w6 ⟨rfl,mZ⟩;have HF:=hid (mZ.less ap.out).bad;clear mZ;go_wp2_with fail;go_ret2;rw[<-i5.out];exact ao
          | false=>
            have hg:=cE.out;rw[if_neg (of_decide_eq_false wJ.out)] at hg;obtain⟨nb,fw⟩:=exQ<|aX (eJ txt x);rw[<-Mv,fw] at hg;rw[fw] at CI;have i5:=hid hg;clear hg cE fw;go_wp2_with fail;refine(CI.out _ p_).mono ?_;rintro e w5 ⟨rfl,aj⟩;have a8:Below wz.heap.size wz w5:=s_;have ep:=hid (cB.out.keep a8);clear aj a8;go_upto_region 22 with fail;obtain⟨W2,aY⟩:=exQ<|w5.drew;obtain⟨z,sv,lvv,nv,hz,av⟩:=ep.out.keep (aB _ w5).drew;rw[aY] at av;obtain⟨gs,cs,rfl,_,_,_⟩:=av.spanAt HX.out;rcases av.lnr.2 with⟨_,h0⟩ | ⟨gl,cl,_,rfl,_,_,yD,_⟩
            · simp only[iD.out.1] at h0;have:=iD.out.2;omega
            simp only[iD.out.1] at av yD;have HZ:=hid hz;have bY:=hid av;have bh:=av.lnr;simp only[iD.out.1] at bh;have cf:=hid bh;have dI:=hid av.bel.size;obtain⟨SB,cF⟩: ∃S:World->Prop,(λw'=>(w'.cell? ⟨P,2,none⟩=some (.slice (some ⟨gl,0,none⟩) q cl)/\w'.frozen? ⟨P,2,none⟩=false)/\w'.cell? ⟨P,1,none⟩=some (.slice (some ⟨gs,0,none⟩) sp.length cs)/\w'.cell? ⟨gs,q*2,none⟩=some (.int .i64 (x.1:Int))/\w'.cell? ⟨gs,q*2+1,none⟩=some (.int .i64 (x.2:Int)))=S:=⟨_,rfl⟩;have cj:Hid (∀j c w',j<3->bM 68 w0.heap.size (.slice (some ⟨gl,0,none⟩) q cl) q (gK ls) (lineA (oK x nb)) P 2 W2 j c w'->SB w'):=hid (λj c w' hj hp=>by rw[<-cF];have hs:=bY.out.seenA cf.out b_ (λi o hi=>(bY.out.fr i o hi).2.2.1) hj hp;obtain⟨c2,f2⟩:=hs.c2;exact⟨⟨c2,f2⟩,hs.c1,aAM (bY.out.sprA hj hp) rfl HX.out⟩);obtain⟨cy,cm,dg,dh⟩:=yo.out;clear av bh hz;refine iW [114,115,116,117,118,119,120,121,122,123,124,125,126,127,128,129,130,131,132,133,134] [21] [17,18,21] 1000000 (λ_ _=>True) 144 [some P,some P,some P, .pointer (some ⟨P,2,none⟩), .slice (some ⟨gl,0,none⟩) q cl, .int .i64 (q:Int), .int .i64 (q:Int), .slice (some ⟨gl,0,none⟩) q q,some P,some P, .pointer (some ⟨P,1,none⟩), .slice (some ⟨gs,0,none⟩) sp.length cs, .int .i64 (q:Int), .pointer (some ⟨gs,q*2,none⟩), .agg #[.int .i64 (x.1:Int), .int .i64 (x.2:Int)],nb, .agg #[(6:Int), .int .i64 (x.1:Int), .int .i64 (x.2:Int),nb,(0:Int),(0:Int),(0:Int),(0:Int),(0:Int),(0:Int)],undef,undef,some P, .pointer (some ⟨P,2,none⟩)] SB (bM 68 w0.heap.size (.slice (some ⟨gl,0,none⟩) q cl) q (gK ls) (lineA (oK x nb)) P 2 W2) [17,18,21,0,1,2,3,5,6,7,8,9,10,12,15,16,19,20,4,11,13,14] m_ DP ?_ ?_
            · intro d a w' iq o' hO ho hi E aa F R' G;have Z:=eA aa [(0,some P),(18, .int .i64 (q:Int)),(19,nb)] rfl rfl;have hc:=F.all [(0,114),(1,115),(2,116),(3,117),(4,118),(5,119),(6,120),(7,121),(8,122),(9,123),(10,124),(11,125),(12,126),(13,127),(14,128),(15,129),(16,130),(19,133),(20,134)] b_;dsimp only[dX,dT,lk] at Z hc;clear aa;have ha:=E;have ad:=ho
              repeat' rcases hO with _ | ⟨_,hO⟩
              all_goals (simp only[dA,cR,bZ,cG] at ho;subst ho;try simp[Region.binds] at E)
              · have c130:=F.gg 16 130 c_;exact ew
              · have v5:=F.gg 7 121 c_;have ae:d 17=true:=c_;have ab:=F.at2 (j:=1) rfl hi (.inr ⟨17,rfl,ae⟩);have eO:a.tmps.getD 121 undef= .slice (some ⟨gl,0,none⟩) q q:=by rw[aI];exact v5
                exact bM.appG rfl (.tmp 121) (.tmp 131) 23 rfl Tryz.underlying23 cy cm dg dh rfl b_ rfl cf.out a_ b_ dI.out ab eO rfl (λv' w2 hp=>G _ _ (F.ef 1 ad ha hi (.inr ⟨17,rfl,ae⟩) (λ_ _ _=>trivial) (λ_=>cj.out 2 _ _ b_ hp) hp))
              · have c134:=F.gg 20 134 c_;have ae:d 18=true:=c_;have ab:=F.at2 (j:=2) rfl hi (.inr ⟨18,rfl,ae⟩);have L:=F.st hi;rw[<-cF] at L;obtain⟨⟨p2,mB⟩,p1,s0,s1⟩:=L;have cA:bM 68 w0.heap.size (.slice (some ⟨gl,0,none⟩) q cl) q (gK ls) (lineA (oK x nb)) P 2 W2 2 (a.tmps.getD 132 undef) w':=ab;obtain⟨gz,cz,hz⟩:=cA.form;rw[hz] at cA;have c132:a.tmps[132]?.getD undef= .slice (some ⟨gz,0,none⟩) (q+1) cz:=by rw[<-aI];exact hz
                go_simp;exact G undef _ (F.ef 2 ad ha hi (.inr ⟨18,rfl,ae⟩) (λ_ _ _=>trivial) (λh=>absurd rfl h) ⟨_,_,cA,rfl⟩)
              iterate 15 (go_simp;exact G _ _ (F.pu ad ha))
              all_goals
                have L:=F.ea hi;rw[<-cF] at L;obtain⟨⟨p2,mB⟩,p1,s0,s1⟩:=L;exact ag
            intro v wy au cd;obtain⟨cz,f9⟩: ∃c,bM 68 w0.heap.size (.slice (some ⟨gl,0,none⟩) q cl) ls.length (gK ls) (lineA (oK x nb)) P 2 W2 3 c wy:=⟨_,by rw[iD.out.1];exact cd⟩;have rn:=bY.out;obtain⟨ot,cI⟩:=YK.lineA (lv:= .slice (some ⟨gl,0,none⟩) q cl) (lines:=ls) (by exact rn) f9;have oa:Hid (YJ YQ al w0 P txt sp ⟨ls++ [oK x nb],o9,tot⟩ 0 0 wy):=hid ⟨z,_,_,_,HZ.out,cI⟩;clear cd cI f9 au cj cF aY rn cy cm dg dh;simp only[cS,dF,cP,dG];go_wp2_with fail;go_roundw
            · exact⟨q1,_,by rw[<-uO],by have:=kU.out;omega,hid ⟨by rw[aT,dS,iD.out.1];exact kU.out,by have:=kU.out;omega⟩,hid (by rw[<-kU.out];rw[<-kU.out] at i5;exact i5.out),oa⟩
            · (try simp only[RowKit.intOf]);have:=kU.out;omega
        · obtain rfl:q=til:=a_;have d1:decide ((q:Int)<(q:Int))=false:=aG a_;have iF:decide (q<q)=false:=aG a_;have hg:=HG.out;rw[show q-q=0 by omega,List.take_zero] at hg;unfold nF at hg;simp only[] at hg;have cE:=hid hg;obtain⟨z,sv,lvv,nv,hz,hK⟩:=cv.out;have cH:z.length=st.nodes.length+1:=by have:=congrArg List.length (hz.trans rX.out.symm);simpa using this
          obtain⟨y,hy⟩: ∃y,z[st.nodes.length]?=some y:=⟨_,bC a_⟩;have jJ:y.1=⟨4,r.ind,k,0,kf,kt,r.rf,r.rt,[]⟩:=by
            have h1:(z.map (·.1))[st.nodes.length]?=some y.1:=by rw[dE,hy];rfl
            simp only[] at hz;rw[hz,<-rX.out,kT (aD _),Nat.sub_self] at h1;exact(aV h1).symm
          obtain⟨gn,cn,rfl,_,_⟩:=World.ownsRow.form hK.nod.row a_;obtain⟨u3,f3⟩:=hK.nod.at_ hy 3 a_ rfl;have hT:=hK.til hy q;obtain⟨⟨_,_,_,c3,_⟩,_⟩:=hK.cells;have hPl:=hK.lt;obtain⟨nl,k9⟩:=exQ<|z.length;rw[k9] at c3 cH;have kZ:(z.set st.nodes.length ({ y.1 with til:=q },y.2)).map (·.1)=st.nodes++ [⟨4,r.ind,k,q,kf,kt,r.rf,r.rt,[]⟩]:=by
            simp only[] at hz;rw[List.map_set,hz,<-rX.out,jJ,List.set_append_right _ _ (aD _),Nat.sub_self];rfl
          have HF:Hid (YJ YQ Pr w0 P txt sp ⟨ls,st.nodes++ [⟨4,r.ind,k,q,kf,kt,r.rf,r.rt,[]⟩],tot⟩ 0 0 (wr.setCell ⟨gn,st.nodes.length*9+3,none⟩ (.int .i64 (q:Int)))):=hid (YJ.less ⟨_,_,_,_,kZ,hT⟩ ap.out);have lo:=mh.out;obtain⟨N,hN⟩:=exQ<|st.nodes.length;rw[hN] at u3 f3 HF cE cH lo;subst lo;have ik:(nn:Int)<(nl:Int):=a_;have vd:(0:Int)<=(nn:Int):=a_;clear hK hT hz hy jJ kZ hg k9 hN cH HG cv iD;go_wp2_with fail;go_ret2;rw[<-cE.out];exact am
 |have _:=wt;intro wz hS;simp only[jE,dF,cP,dG];have cB:=hid (bn.out.keep hS);have eh:=hid (aC dI.out hS);have CF:=hid (fun(er:Int) w' hj=>tC (Pr:=al) (w0:=w0) (P:=P) (txt:=txt) (sp:=sp) (st:=st) (a0:=0) (e0:=0) (kf:Int) er w' hj);have bL:bF wz X2 r:=cB.out.at_ bK.out;obtain⟨_,_,_,_,b4,_⟩:=bL.cells;rw[sF.out.1] at b4;clear hS gi CK bL ai bn dI a9 bN mQ qb df;by_cases h0:er=0
 |have _:=wn;clear bo xS c2 g3 g4 lH rF;have sK:=HJ.out.keep lc.out;have pb:=hid sK;have xb:Hid (HM b had W1):=hid (v8.out.same (lc.out.block b v8.out.lt));obtain⟨lH,vL⟩:=lQ (sK.at_ o7.out.1);obtain⟨y0,y1⟩:=jG ss.out;clear sK;go_wp2_with fail;refine(gx.out _ (by first | exact pb.out | exact pb.out.keep (aB _ _).drew)).mono ?_;rintro e w2 ⟨rfl,bp⟩;have a9:=hid (show Below W1.heap.size W1 w2 from by first | exact bp | exact aC (aB _ _).drew bp);clear bp;go_wp2_with fail;refine(yP.out _ (hV.keep (pb.out.keep a9.out).bel)).mono ?_;rintro e w3 ⟨rfl,bI⟩;have bf:=hid (aC a9.out bI);have da:=hid (pb.out.keep bf.out);have ta:Hid (HM b had w3):=hid (xb.out.same (bf.out.block b xb.out.lt));have sW:=hid ((bf.out.block S (aF ss.out)).trans ss.out);clear bI lH y0 y1 pt sM vL;obtain⟨lH,pt⟩:=lQ (da.out.at_ o7.out.1);obtain⟨rF,sM⟩:=lQ (da.out.at_ o7.out.2);obtain⟨y0,y1⟩:=jG sW.out;have CF:Hid (∀er w',YJ YP Pr w0 P txt sp st 0 0 w'->Calls Tryz.prog 45 #[some P,r.kf, .int .i64 er] w' λe w2=>e= .returned (.bool false)/\YJ YP Pr w0 P txt sp st r.kf er w2):=hid (λer w' hj=>pX r.kf er w' hj);by_cases h0:ke=0
 |skip
 first
 |first|have _:=wt|have _:=wn
  rotate_left
  ·first
   |have _:=wt;have d0:(er !=0)=true:=E4
    have H0:=hid h0;clear h0;go_wp2_with fail;refine(CF.out er _ p_).mono ?_
   |have G:=HR.out;rw[if_pos h0] at G;have ic:Hid ((YR.bad r.kf ke,had)=R):=hid G;have d0:(ke !=0)=true:=E4;clear G h0;go_wp2_with fail;refine(CF.out _ _ C_).mono ?_
   rintro e w8 ⟨rfl,cN⟩;first|have _:=wt;have HF:=hid (cN.less ap.out).bad|have HF:=hid cN.bad
   clear cN;go_wp2_with fail;go_ret2;first|have _:=wt;exact Or.inl ⟨H0.out,rfl,HF.out⟩|rw[<-ic.out];exact ao
  subst h0
 |skip
 first
 |have _:=wt;go_wp2_with fail;go_loopw [11] (λmG wr=> ∃(i:Nat),mG= .int .i64 (i:Int)/\i<=hm.length/\Hid (∀j,j<i->hm[j]?≠some K)/\wr=wz) (λmG _=>hm.length-(RowKit.intOf mG).toNat)
  case atStart=>exact⟨0,rfl,dY _,hid (λj hj=>by omega),rfl⟩
  case round=>
   obtain⟨i,rfl,hi,uY,rfl⟩:=hrel;have cy:(0:Int)<=(i:Int):=a_;by_cases hil:i<hm.length
   ·obtain⟨u,hu⟩: ∃u,hm[i]?=some u:=⟨_,bC hil⟩;obtain⟨gh,rfl,hcu⟩:=HH.out wr eh.out i u hu;have cL:(i:Int)<(hm.length:Int):=a_;have di:decide ((i:Int)<(hm.length:Int))=true:=aO cL;obtain⟨i1,jw⟩:=exQ<|i+1;have br:(i:Int)+1=(i1:Int):=a_;by_cases he:u=K
    ·subst he;have zI:=hid (bD hu);have de:((bs u).toList==(bs u).toList)=true:=e_;clear hu br jw;go_wp2_with fail;refine(CF.out 7 _ p_).mono ?_;rintro e w8 ⟨rfl,cN⟩;have HF:=hid (cN.less ap.out).bad;clear cN;go_wp2_with fail;go_ret2;exact Or.inr (Or.inl ⟨rfl,zI.out,rfl,HF.out⟩)
    ·have de:((bs u).toList==(bs K).toList)=false:=by rw[Lib.toList_data,Lib.toList_data,aQ,aQ];exact aE.2 he
     have vY:Hid (∀j,j<i1->hm[j]?≠some K):=hid (λj hj h2=>by
      by_cases hji:j=i
      ·subst hji;rw[hu] at h2;exact he (aV h2)
      ·exact uY.out j a_ h2)
     clear hu he jw;go_wp2_with fail;go_roundw
     ·exact⟨i1,by rw[<-br],a_,vY,trivial⟩
     ·exact aq
   ·obtain rfl:i=hm.length:=a_;have di:decide ((hm.length:Int)<(hm.length:Int))=false:=aG a_;have HN:Hid (K ∉ hm):=hid (λgO=>by obtain⟨j,hj,he⟩:=List.mem_iff_getElem.1 gO;exact uY.out j hj (by rw[bC hj,he]));clear hil;go_wp2_with fail;go_ret2;exact Or.inr (Or.inr ⟨rfl,HN.out,rfl,eh.out⟩)
 |have _:=wn;have G:=HR.out;rw[if_neg e_] at G;have kA:=ta.out.look key a_;by_cases gO:key∈had
  ·rw[if_pos gO] at G;rw[aO gO] at kA;have ic:Hid ((YR.bad r.kf 7,had)=R):=hid G;clear G gO;go_wp2_with fail;refine(CF.out _ _ C_).mono ?_;rintro e w8 ⟨rfl,cN⟩;have HF:=hid cN.bad;clear cN;go_wp2_with fail;go_ret2;rw[<-ic.out];exact ao
  rw[if_neg gO] at G;rw[aG gO] at kA;obtain⟨Q,hQ⟩:=exQ<|V k r.kf r.kt st;rw[hQ] at G;have bx:Hid ((Q,key::had)=R):=hid G;have uf:=hid (fun(Pr':aJ) w' hj=>IH Pr' k r.kf r.kt st lev w' hj HK.out HW.out hl);rw[hQ] at uf;obtain⟨es3,cm3,mt⟩:=ta.out.obj;have vn:=hid mt;have qW:w3.ownsMap Tryz.prog 9 (plainElem Tryz.prog 4) b had.length (sB had):=ta.out;clear G gO hQ mt;have vI:Hid (keyOf Tryz.prog 9 (.string (bs key))=some (.string key)):=hid (by have:=keyOf_string_mk (P:=Tryz.prog) Tryz.underlying9 (s:=bs key) EL;rw[aQ] at this;exact this);have sy:Hid (∀w6,w6.ownsMap Tryz.prog 9 (plainElem Tryz.prog 4) b (had.length+1) ((sB had).put (.string key) (.lit (.bool true)))->w3.grownBy w6 (some b)->HM b (key::had) w6/\YJ YP Pr w0 P txt sp st 0 0 w6/\w6.heap[S]?=some (.cells #[r.kf,r.kt] 42)):=hid (λw6 jb mY=>⟨jb,da.out.mapG vn.out mY hB hpb,pW mY sW.out (λe=>by have e2:=aV e;have h1:=sW.out;rw[<-e2,vn.out] at h1;cases h1)⟩);go_wp2_with (at_mapUpdate;refine wpList_mapUpdate_own _ rfl _ _ _ 124 rfl 9 4 Da Tryz.underlying124 _ b had.length _ rfl qW o_ _ _ (.string key) rfl rfl vI.out _ [] (plainElem_bool Tryz.underlying4 true) ?_;intro w6 jb mY;obtain⟨lS,mZ,wY⟩:=sy.out w6 jb mY;have uE:=hid lS;have cB:=hid mZ;have Aw:=hid wY;clear jb mY lS mZ wY lH pt y0 y1 rF sM;obtain⟨lH,pt⟩:=lQ (cB.out.at_ o7.out.1);obtain⟨y0,y1⟩:=jG Aw.out);obtain⟨es6,cm6,ms⟩:=uE.out.obj;have lM:=hid ms;have rr:=hid (cB.out.putMap lM.out);clear qW kA ms;refine(uf.out _ _ (by first | exact rr.out | exact rr.out.keep (aB _ _).drew)).mono ?_
 |have _:=wu;obtain⟨Q,hQ⟩:=exQ<|V k 0 0 st
  have C:=hid (IH Pr k 0 0 st lev w h hk hw hl);rw[hQ] at C ⊢;clear hQ h hk hw;go_enter Tryz.func74,Tryz.ntmps74;go_wp2_with fail;refine C.out.mono ?_
 |skip
 first
 |first|have _:=wu|have _:=wn
  rintro e w7 hE;have HE:=hid hE;clear hE;cases Q with
  | bad a er=>
   obtain⟨⟨m,rfl⟩,an⟩:=HE.out;first|have _:=wn;have HF:=hid (an.less (aJ.put_lessN hpb))|have HF:=hid an
   clear an HE;go_wp2_with fail;go_ret2;first|have _:=wn;rw[<-bx.out]|skip
   exact ao
  | ok nn sq=>
   obtain⟨rfl,fm⟩:=HE.out;first|have _:=wn;have AU:Hid (HM b (key::had) w7):=hid (uE.out.same ((fm.at_ (aJ.put_eq _ _ _)).trans lM.out.symm));have HF:=hid (fm.less (aJ.put_lessN hpb))|have HF:=hid fm
   clear fm HE;go_wp2_with fail;go_ret2;first|have _:=wn;rw[<-bx.out];exact⟨rfl,HF.out,AU.out⟩|exact am
 |skip):P:=h
theorem qg(h:P:=by
 have sl:=aM l;obtain⟨R,f⟩:=exQ<|pF l;rw[f];unfold pF at f;have b1:=aL w (.cells #[.string ⟨#[]⟩,(),()] 26);have ao:=heap_alloc_new w (.cells #[.string ⟨#[]⟩,(),()] 26);have a2:(w.alloc (.cells #[.string ⟨#[]⟩,(),()] 26)).heap.size=w.heap.size+1:=e_
 obtain⟨D,bH⟩:=exQ<|w.heap.size;obtain⟨w1,ch⟩:=exQ<|w.alloc (.cells #[.string ⟨#[]⟩,(),()] 26);rw[ch] at b1 ao a2;rw[bH] at ao a2;have Y:=hid b1;have ae:=hid ao;have T:=hid bH;obtain⟨d0,d1,d2,f0,f1,f2⟩:=eE ao;by_cases hlong:65536<l.length
 ·rw[if_pos hlong] at f;have dl:decide ((65536:Int)<(l.length:Int))=true:=aO a_;have b9:decide (65536<l.length)=true:=aO hlong;clear b1 ao;first|have _:=xp;go_enter Tryz.func7,Tryz.ntmps7|go_enter Tryz.func6,Tryz.ntmps6
  go_wp2_with fail
  try simp only[Exit.inBlock,Exit.then]
  refine bodyPost_ret (qC rfl _ _ rfl (u:= .string ⟨#[]⟩) (v:= .slice none 0 0) (x:= .slice none 0 0) ?_ ?_ ?_) rfl ?_
  ·simp[go_sem,d0,d1,d2]
  ·simp[go_sem,d0,d1,d2]
  ·simp[go_sem,d0,d1,d2]
  ·rw[<-f];exact⟨_,_,_,rfl,rfl,eD.nil _ _,((Y.out.setCell u' _).setCell u' _).setCell u' _⟩
 rw[if_neg hlong] at f;have dl:decide ((65536:Int)<(l.length:Int))=false:=aG a_;have b9:decide (65536<l.length)=false:=aG hlong;have ab:l.length<=65536:=a_
 first|have _:=xp;have CL:=hid (Xo (bs l) w1 a_)|have CL:=hid (Xm (bs l) w1 a_)
 obtain⟨L,hL⟩:=exQ<|gC l 0 0;have bB:pC (bs l)=L:=by unfold pC;rw[aQ];exact hL
 rw[bB] at CL;have bb:=uL l 0 0;rw[hL] at bb;have HL:=hid hL;have HR:=hid f;have a5:=hid (hV.keep (show Below w.heap.size w w1 from Y.out));clear b1 ao bB f hL hV;first|have _:=xp;go_enter Tryz.func7,Tryz.ntmps7|go_enter Tryz.func6,Tryz.ntmps6
 go_wp2_with fail;refine CL.out.mono ?_;rintro e w2 ⟨sv,rfl,M,aJ⟩;obtain⟨g,c,aR,rfl,cc,bX,hcap,_⟩: ∃g c aR,sv= .slice (some ⟨g,0,none⟩) L.length c/\w1.heap.size<=g/\w2.heap[g]?=some (.cells aR 42 (0,0))/\L.length<=c/\True:=by
  rcases M.2 with⟨_,h1⟩ | ⟨g,c,aR,h1,h2,h3,h4,_⟩
  ·omega
  ·exact⟨g,c,aR,h1,h2,h3,h4,trivial⟩
 have cm:g<w2.heap.size:=aF bX;obtain⟨P,bl⟩:=exQ<|w2.heap.size
 first
 |have _:=xp;have b3:=aL w2 (.cells #[bs l, .slice (some ⟨g,0,none⟩) L.length c,(),(),(0:Int),(0:Int),(0:Int)] 66);have ah:=heap_alloc_new w2 (.cells #[bs l, .slice (some ⟨g,0,none⟩) L.length c,(),(),(0:Int),(0:Int),(0:Int)] 66);obtain⟨w3,bm⟩:=exQ<|w2.alloc (.cells #[bs l, .slice (some ⟨g,0,none⟩) L.length c,(),(),(0:Int),(0:Int),(0:Int)] 66)
 |have b3:=aL w2 (.cells #[bs l, .slice (some ⟨g,0,none⟩) L.length c,(),(),(0:Int),(0:Int),(0:Int)] YQ);have ah:=heap_alloc_new w2 (.cells #[bs l, .slice (some ⟨g,0,none⟩) L.length c,(),(),(0:Int),(0:Int),(0:Int)] YQ);obtain⟨w3,bm⟩:=exQ<|w2.alloc (.cells #[bs l, .slice (some ⟨g,0,none⟩) L.length c,(),(),(0:Int),(0:Int),(0:Int)] YQ)
 rw[bm] at b3 ah;rw[bl] at ah cm;have S:Hid (iK w1.heap.size w3 (.slice (some ⟨g,0,none⟩) L.length c) (eK 0 L)):=hid (gH M b3);have K:Hid (Below w1.heap.size w1 w3):=hid (aJ.trans (b3.mono aJ.size));have W:=hid ah;obtain⟨N1,b4⟩:=exQ<|L.length-1;have bQ:(L.length:Int)-1=(N1:Int):=a_
 have hN1w:IntKind.i64.wrap ((L.length:Int)-1)=(N1:Int):=by rw[bQ,IntKind.wrap_i64];omega
 have hN1x:IntKind.i64.wrap (N1:Int)=(N1:Int):=by rw[IntKind.wrap_i64];omega
 have ci:w1.heap.size<=P:=by rw[<-bl];exact aJ.size
 obtain⟨p1,pl⟩:w3.cell? ⟨P,1,none⟩=some (.slice (some ⟨g,0,none⟩) L.length c)/\P<w3.heap.size:=⟨by simp[World.cell?,ah],aF ah⟩;have ai:=hid b4;clear M aJ bX b3 ah b4;go_upto_region 4 with fail;clear bm bl;go_wp2_with fail;clear p1
 first
 |have _:=xp;go_loopw [22] (λbn wr=> ∃i:Nat,bn= .int .i64 (i:Int)/\i<=N1/\Hid (wr.heap[P]?=some (.cells #[bs l, .slice (some ⟨g,0,none⟩) L.length c,(),(),(0:Int),(0:Int),(0:Int)] 66))/\Hid (iK w1.heap.size wr (.slice (some ⟨g,0,none⟩) L.length c) (eK i L))/\Hid (Below w1.heap.size w1 wr)) (λbn _=>N1-(RowKit.intOf bn).toNat)
 |go_loopw [6] (λs6 wr=> ∃i:Nat,s6= .int .i64 (i:Int)/\i<=N1/\Hid (wr.heap[P]?=some (.cells #[bs l, .slice (some ⟨g,0,none⟩) L.length c,(),(),(0:Int),(0:Int),(0:Int)] YQ))/\Hid (iK w1.heap.size wr (.slice (some ⟨g,0,none⟩) L.length c) (eK i L))/\Hid (Below w1.heap.size w1 wr)) (λs6 _=>N1-(RowKit.intOf s6).toNat)
 case atStart=>exact⟨0,rfl,dY _,W,S,K⟩
 case round=>
  clear W S K pl;obtain⟨i,rfl,hi,W,S,K⟩:=hrel;have p1:wr.cell? ⟨P,1,none⟩=some (.slice (some ⟨g,0,none⟩) L.length c):=by have:=W.out;simp[World.cell?,this]
  have pl:P<wr.heap.size:=aF W.out;by_cases hin:i<N1
  ·first|have _:=xp;have dk:decide ((i:Int)<(N1:Int))=true:=aO a_|have dk:decide ((i:Int)+1<(L.length:Int))=true:=aO E6
   obtain⟨x,hx⟩: ∃x,L[i]?=some x:=⟨_,bC E6⟩;have a9:=hx;rw[<-HL.out] at a9;obtain⟨q1,q2⟩:=Og a9;have q3:=q2 (by rw[HL.out];have:=ai.out;omega);have hi0:(0:Int)<=(i:Int):=a_;have hi1:(i:Int)<(L.length:Int):=by have:=ai.out;omega
   obtain⟨y2,bO⟩:=exQ<|x.2-1;have bu:(x.2:Int)-1=(y2:Int):=a_;have hy2w:IntKind.i64.wrap ((x.2:Int)-1)=(y2:Int):=by rw[bu,IntKind.wrap_i64];omega
   have hy2x:IntKind.i64.wrap (y2:Int)=(y2:Int):=by rw[IntKind.wrap_i64];omega
   have bf:(eK i L)[i]?=some x:=by rw[Ge];exact hx
   have M:=S.out;have bt:=pG (λp:Nat×Nat=>([p.1,p.2]:List Value)) 2 wC (eK i L) i x bf 1 a_;have r:(eK i L).length=L.length:=Gd i L;have V:wr.ownsRow w1.heap.size 42 2 (.slice (some ⟨g,0,none⟩) (eK i L).length c) (eK i L).length (kE (eK i L)):=by
    have h:=M;unfold iK at h;rw[r] at h ⊢;exact h
   have c1:wr.cell? ⟨g,i*2+1,none⟩=some (.int .i64 (x.2:Int)):=by
    rw[World.ownsRow.cellAt V _ (by rw[r];have:=ai.out;omega)];exact bt
   have cf:wr.frozen? ⟨g,i*2+1,none⟩=false:=World.ownsRow.frozenAt V _;obtain⟨bT,_⟩:=World.ownsRow.stored V (i*2+1) (.int .i64 (y2:Int));have bK:=xT (λp:Nat×Nat=>([p.1,p.2]:List Value)) 2 wC (eK i L) i x (x.1,y2) bf 1 (.int .i64 (y2:Int)) a_ rfl;obtain⟨i1,aY⟩:=exQ<|i+1;have bz:(i:Int)+1=(i1:Int):=a_;have b8:Hid (iK w1.heap.size (wr.setCell ⟨g,i*2+1,none⟩ (.int .i64 (y2:Int))) (.slice (some ⟨g,0,none⟩) L.length c) (eK i1 L)):=hid (by unfold iK;rw[<-aY,Gf i L x hx,bO];rw[List.length_set];have h:=bT;rw[show (kE (eK i L)).set (i*2+1) (.int .i64 (y2:Int))=kE ((eK i L).set i (x.1,y2)) from bK] at h;rw[r] at h ⊢;exact h)
   first|have _:=xp;have bW:Hid ((wr.setCell ⟨g,i*2+1,none⟩ (.int .i64 (y2:Int))).heap[P]?=some (.cells #[bs l, .slice (some ⟨g,0,none⟩) L.length c,(),(),(0:Int),(0:Int),(0:Int)] 66)):=hid DV|have bW:Hid ((wr.setCell ⟨g,i*2+1,none⟩ (.int .i64 (y2:Int))).heap[P]?=some (.cells #[bs l, .slice (some ⟨g,0,none⟩) L.length c,(),(),(0:Int),(0:Int),(0:Int)] YQ)):=hid DV
   have ce:Hid (Below w1.heap.size w1 (wr.setCell ⟨g,i*2+1,none⟩ (.int .i64 (y2:Int)))):=hid (K.out.setCell (p:=⟨g,i*2+1,none⟩) cc _);have bD:i1<=N1:=a_;clear hx a9 q1 q2 q3 bO bf M bt r V bT bK aY;go_wp2_with fail;go_roundw
   ·exact⟨i1,by rw[<-bz],bD,bW,b8,ce⟩
   ·exact bw
  ·obtain rfl:i=N1:=a_
   first|have _:=xp;have dk:decide ((i:Int)<(i:Int))=false:=aG a_|have dk:decide ((i:Int)+1<(L.length:Int))=false:=aG E6
   have al:=Lw l;have J:(oF l).length=L.length:=by unfold oF;rw[Em,HL.out]
   first
   |have _:=xp;have hj:YJ YP (λ_=>none) w1 P l (oF l) ⟨[],[],0⟩ 0 0 wr:=je;have CW:=aBx w1 P l (oF l) al ab (by rw[J];omega) a5.out wr hj;have ak:=aBy al;rw[HR.out] at CW ak;have cb:=hid CW;have bL:=hid ak;clear CW ak hj al J p1;go_wp2_with fail;refine cb.out.mono ?_;rintro e w4 hE;rcases hE with⟨h0,rfl,tot,az⟩ | ⟨h0,rfl,q⟩
    ·obtain⟨z,am,an,ap,N,b⟩:=az;obtain⟨⟨c0,c1,c2,c3,c4,c5,c6⟩,s,E,F,C,A⟩:=b.cells;obtain⟨ql,cl,rfl⟩:=b.lnSlice;obtain⟨qn,cn,rfl⟩:=b.ndSlice;have b7:=b.lt;have d:w4.heap[D]?=some (.cells #[.string ⟨#[]⟩,(),()] 26):=(b.bel.block D a_).trans ae.out;obtain⟨e0,e1,e2,aH,aV,aP⟩:=eE d;have aX:D≠P:=a_;have HK:=hid b;have HZ:=hid N;have ad:=hid d;have b2:R.2.1=(l.length:Int):=by
      rcases bL.out with h | h
      ·exact h.2
      ·exact absurd h0 h.1
     have H0:=hid (aK h0 b2);obtain⟨nl,H⟩:=exQ<|R.1.lines.length;obtain⟨nz,G⟩:=exQ<|z.length;simp only[] at c2 c3;simp only[H] at c2;rw[G] at c3;have ar:=hid (aK H G);clear b N d d0 d1 d2 f0 f1 f2 h0 b2 H G c4 c5 c6 s E F C A;go_upto_region 11 with fail;go_region
     all_goals
      go_wp2_with fail
      try simp only[Exit.inBlock,Exit.then]
      refine bodyPost_ret (qC rfl _ _ rfl (u:= .string (bs l)) (v:= .slice ql nl cl) (x:= .slice qn nz cn) ?_ ?_ ?_) rfl ?_
      ·exact aj
      ·exact aj
      ·exact aj
      ·obtain⟨n1,n2⟩:=ar.out;subst n1 n2;have hg:=gJ (gJ (cT w4 D 0 (.string (bs l))) (cT _ D 1 (.slice ql R.1.lines.length cl))) (cT _ D 2 (.slice qn z.length cn));have af:=World.ownsRow.kept HK.out.lnr hg (cQ HK.out.lnr ad.out b_);have Z:=HK.out.nod.other ad.out b_ b_ hg;have j:w.heap.size<=w1.heap.size:=Y.out.size;refine⟨bs l,_,_,by rw[H0.out.2,H0.out.1];rfl,by rw[if_pos H0.out.1],(show eD w.heap.size R.1 _ _ _ from eD.keep (w:=((w4.setCell ⟨D,0,none⟩ (.string (bs l))).setCell ⟨D,1,none⟩ (.slice ql R.1.lines.length cl)).setCell ⟨D,2,none⟩ (.slice qn z.length cn)) ⟨z,HZ.out,yH af j,Z.base j⟩ (aB _ _).drew),?_⟩;exact fa
    ·obtain⟨st,z,am,an,ap,N,b⟩:=q;obtain⟨⟨c0,c1,c2,c3,c4,c5,c6⟩,s,E,F,C,A⟩:=b.cells;have b7:=b.lt;have d:w4.heap[D]?=some (.cells #[.string ⟨#[]⟩,(),()] 26):=(b.bel.block D a_).trans ae.out;obtain⟨e0,e1,e2,aH,aV,aP⟩:=eE d;have aX:D≠P:=a_;have bJ:=hid b.bel;have H1:R.1=⟨[],[]⟩:=by
      rcases bL.out with h | h
      ·exact absurd h.1 h0
      ·exact h.2
     have H0:=hid (aK h0 H1);clear b N d d0 d1 d2 f0 f1 f2 h0 H1 c0 c1 c2 c3 c4 s E F C A;go_upto_region 10 with fail;go_region
     all_goals
      go_wp2_with fail
      try simp only[Exit.inBlock,Exit.then]
      refine bodyPost_ret (qC rfl _ _ rfl (u:= .string ⟨#[]⟩) (v:= .slice none 0 0) (x:= .slice none 0 0) ?_ ?_ ?_) rfl ?_
      ·exact aj
      ·exact aj
      ·exact aj
      ·have j:w.heap.size<=w1.heap.size:=Y.out.size;refine⟨⟨#[]⟩,_,_,rfl,by rw[if_neg H0.out.1],by rw[H0.out.2];exact eD.nil _ _,?_⟩;exact ot
   |have hj:YJ YQ (λ_=>none) w1 P l (oF l) ⟨[],[],0⟩ 0 0 wr:=je;obtain⟨sp,a3⟩:=exQ<|oF l;have f:=HR.out;rw[a3] at hj al J f;have ba:sp.length<=131072:=by rw[J];omega
    unfold pV at f;have bx:nH l sp []:=⟨dY _,λi hi=>absurd hi (rY _)⟩;have O:=oH al (k:=0) (lines:= []) (aD _) bx (λi _ hi=>absurd hi (rY _));obtain⟨NN,hN⟩:=exQ<|fR l sp 0 [];rw[hN] at f O;have CN:Hid (Calls Tryz.prog 20 #[some P,(0:Int)] wr (rD YQ (λ_=>none) w1 P l sp ⟨[],[],0⟩ NN)):=hid (by have:=Be (st:=⟨[],[],0⟩) 0 wr hj (aD _) (dY _) ab ba;rw[hN] at this;exact this);have bp:=hid al;have HSPL:=hid J;clear hN hj bx al a3 J W S K HR HL;cases NN with
    | bad a er=>
     have U:=hid (aK (show ((⟨[],[]⟩:gD),a,er)=R from f) (show er≠0 from O.2.2));clear f O;go_wp2_with fail;refine CN.out.mono ?_;rintro e w5 ⟨⟨m,rfl⟩,q⟩;have HF:=hid q;clear q CN p1;obtain⟨bi,z,am,an,ap,N,b⟩:=HF.out;obtain⟨⟨c0,c1,c2,c3,c4,c5,c6⟩,s,E,F,C,A⟩:=b.cells;have ag:=b.lt;have d:w5.heap[D]?=some (.cells #[.string ⟨#[]⟩,(),()] 26):=(b.bel.block D a_).trans ae.out;exact cj
    | ok k ls=>
     simp only[] at f O;have bd:=hid O;have HR:=hid f;have hk0:(0:Int)<=(k:Int):=a_;clear f O;go_wp2_with fail;refine CN.out.mono ?_;rintro e w5 ⟨rfl,br⟩;have aU:=hid br;clear CN p1;obtain⟨z2,sv2,lv2,nv2,ax,aa⟩:=br;obtain⟨ps2,cs2,rfl⟩:=aa.spSlice;have c1:=aa.cells.1.2.1;have a1:=aa.lt;by_cases hlt:k<sp.length;rotate_left
     ·have f:=HR.out;rw[if_pos hlt] at f;have U:=hid f;have b6:k=sp.length:=by have:=bd.out.le.2;omega
      subst b6;have dq:((sp.length:Int)==(sp.length:Int))=true:=beq_self_eq_true _;have ck:z2= []:=(by simpa using ax);have f3:=aa.cells.2.2.1;have co:=aa.cells.1.2.2.2.1;have b:=aa.one ck;have N:List.map (λx:YN=>x.1) [(((⟨1,0,0,0,0,0,(l.length:Int),(l.length:Int),[]⟩:bA), .slice none 0 0):YN)]= [(⟨1,0,0,0,0,0,(l.length:Int),(l.length:Int),[]⟩:bA)]:=rfl;obtain⟨z,bY⟩:=exQ<|[(((⟨1,0,0,0,0,0,(l.length:Int),(l.length:Int),[]⟩:bA), .slice none 0 0):YN)];rw[bY] at b N;obtain⟨W9,bI⟩:=exQ<|(w5.alloc (.cells #[(1:Int),(0:Int),(0:Int),(0:Int),(0:Int),(0:Int),l.length,l.length,()] 45)).setCell ⟨P,3,none⟩ (.slice (some ⟨w5.heap.size,0,none⟩) 1 1);rw[bI] at b;obtain⟨nv9,a6⟩:=exQ<|Value.slice (some ⟨w5.heap.size,0,none⟩) 1 1;rw[a6] at b;clear a6;have b5:=hid b;have cd:=hid (aK N bY);clear aa ax f hlt HR b N;go_upto_region 11 with fail;clear c1 co f3 bI;have b:=b5.out;have N:=cd.out.1;obtain⟨⟨c0,c1,c2,c3,c4,c5,c6⟩,s,E,F,C,A⟩:=b.cells;obtain⟨ql,cl,rfl⟩:=b.lnSlice;obtain⟨qn,cn,rfl⟩:=b.ndSlice;have ag:=b.lt;have d:W9.heap[D]?=some (.cells #[.string ⟨#[]⟩,(),()] 26):=(b.bel.block D a_).trans ae.out;obtain⟨e0,e1,e2,aH,aV,aP⟩:=eE d;have aX:D≠P:=a_;have HK:=hid b;have HZ:=hid N;have ad:=hid d;obtain⟨nl,H⟩:=exQ<|ls.length;obtain⟨nz,G⟩:=exQ<|z.length
      try simp only[] at c2 c3
      rw[H] at c2;rw[G] at c3;have ar:=hid (aK H G);clear b N d d0 d1 d2 f0 f1 f2 H G c4 c5 c6 s E F C A;go_upto_region 11 with fail;go_region
      all_goals
       go_wp2_with fail
       try simp only[Exit.inBlock,Exit.then]
       refine bodyPost_ret (qC rfl _ _ rfl (u:= .string (bs l)) (v:= .slice ql nl cl) (x:= .slice qn nz cn) ?_ ?_ ?_) rfl ?_
       ·exact aj
       ·exact aj
       ·exact aj
       ·obtain⟨n1,n2⟩:=ar.out;subst n1 n2;have hg:=gJ (gJ (cT W9 D 0 (.string (bs l))) (cT _ D 1 (.slice ql ls.length cl))) (cT _ D 2 (.slice qn z.length cn));have af:=World.ownsRow.kept HK.out.lnr hg (cQ HK.out.lnr ad.out b_);have Z:=HK.out.nod.other ad.out b_ b_ hg;have j:w.heap.size<=w1.heap.size:=Y.out.size;rw[<-U.out];refine⟨bs l,_,_,rfl,rfl,(show eD w.heap.size ⟨ls,_⟩ _ _ _ from eD.keep (w:=((W9.setCell ⟨D,0,none⟩ (.string (bs l))).setCell ⟨D,1,none⟩ (.slice ql ls.length cl)).setCell ⟨D,2,none⟩ (.slice qn z.length cn)) ⟨z,HZ.out,yH af j,Z.base j⟩ (aB _ _).drew),?_⟩;exact fa
     ·obtain⟨r,bP⟩:=bd.out.hit hlt;have f:=HR.out;rw[if_neg (λe=>e hlt)] at f;have bo:eS l sp ⟨ls,[],0⟩:=⟨bd.out.ok,e_⟩;obtain⟨Q,hQ⟩:=exQ<|tA l sp 32 k 0 0 ⟨ls,[],0⟩;have I:=tB bp.out 32 k 0 0 ⟨ls,[],0⟩ bo r.symm;rw[hQ] at f I;have CB:Hid (∀w',YJ YQ (λ_=>none) w1 P l sp ⟨ls,[],0⟩ 0 0 w'->Calls Tryz.prog 21 #[some P,k,(1:Int), .agg #[(0:Int),(0:Int)]] w' (eT YQ (λ_=>none) w1 P l sp Q)):=hid (λw' hj=>by have:=Oi w1 P l sp bp.out ab ba a5.out HRd HKy 32 (aD _) (λ_=>none) k 0 0 ⟨ls,[],0⟩ 1 w' hj r.symm bo (hid b_);rw[hQ] at this;exact this);have dq:((k:Int)==(sp.length:Int))=false:=aE.2 a_;have dqn:(k==sp.length)=false:=aE.2 a_;have bj:=hid f;clear f hlt hQ bo HR r bP aa ax;cases Q with
      | bad a er=>
       have U:=hid (aK (show ((⟨[],[]⟩:gD),a,er)=R from bj.out) (show er≠0 from (show 0<=a/\a<=(l.length:Int)/\er≠0 from I).2.2));clear I;go_wp2_with fail;refine(CB.out _ DY).mono ?_;rintro e w6 ⟨⟨m,rfl⟩,q⟩;have HF:=hid q;clear q CB c1 a1;obtain⟨bi,z,am,an,ap,N,b⟩:=HF.out;obtain⟨⟨c0,c1,c2,c3,c4,c5,c6⟩,s,E,F,C,A⟩:=b.cells;have ag:=b.lt;have d:w6.heap[D]?=some (.cells #[.string ⟨#[]⟩,(),()] 26):=(b.bel.block D a_).trans ae.out;exact cj
      | ok n st=>
       obtain⟨g1,⟨m1,bG,bE⟩,_,g4,g5,g6⟩:=(show mN l sp k ⟨ls,[],0⟩ n st from I);have ca:n=0:=g1;subst ca;have X:=oH bp.out (k:=iL st.nodes 0) g4.2 g6.ls g5;have f:=bj.out;simp only[] at f;have a4:0<st.nodes.length:=by
        rw[bE];have:=qV.2 bG;simp only[aT,kS];omega
       obtain⟨ay,av⟩:=exQ<|iL st.nodes 0;rw[av] at f X g4 g5;obtain⟨N2,bk⟩:=exQ<|fR l sp ay st.lines;rw[bk] at f X;have aI:Hid (∀w',YJ YQ (λ_=>none) w1 P l sp st 0 0 w'->Calls Tryz.prog 20 #[some P,ay] w' (rD YQ (λ_=>none) w1 P l sp st N2)):=hid (λw' hj=>by have:=Be (st:=st) ay w' hj g4.2 g6.ls.1 ab ba;rw[bk] at this;exact this);have aW:=hid (aK av a4);have bV:=hid f;have aw:=hid X;clear I g1 bG bE g4 g5 g6 f bk X av a4 bj;go_wp2_with fail;refine(CB.out _ DY).mono ?_;rintro e w6 ⟨rfl,bN⟩;have aN:=hid bN;clear CB c1 a1;obtain⟨z3,sv3,lv3,nv3,bc,aq⟩:=bN;have au:z3.length=st.nodes.length:=(by rw[<-bc,bR]);obtain⟨gn,cn3,cur3,rfl,_,_,_⟩:=aq.nod.form (λe=>by rw[e] at au;have:=aW.out.2;simp at au;omega);obtain⟨y,hy⟩: ∃y,z3[0]?=some y:=⟨_,bC (by have:=aW.out.2;omega)⟩;have bS:y.1.til=ay:=by
        have h1:st.nodes[0]?=some y.1:=by rw[<-bc,dE,hy];rfl
        rw[<-wE h1];exact aW.out.1
       have k3:=(aq.nod.at_ hy 3 a_ rfl).1;rw[bS] at k3;simp only[Nat.zero_mul,Nat.zero_add] at k3;have c3:=aq.cells.1.2.2.2.1;obtain⟨m3,bZ⟩:=exQ<|z3.length;have hm30:(0:Int)<(m3:Int):=by have:=aW.out.2;omega
       rw[bZ] at c3;have aZ:=aq.lt;clear aq bc au hy bS bZ;cases N2 with
       | bad a er=>
        have U:=hid (aK (show ((⟨[],[]⟩:gD),a,er)=R from bV.out) (show er≠0 from aw.out.2.2));go_wp2_with fail;refine(aI.out _ DZ).mono ?_;rintro e w7 ⟨⟨m,rfl⟩,q⟩;have HF:=hid q;clear q aI c3 k3 aZ;obtain⟨bi,z,am,an,ap,N,b⟩:=HF.out;obtain⟨⟨c0,c1,c2,c3,c4,c5,c6⟩,s,E,F,C,A⟩:=b.cells;have ag:=b.lt;have d:w7.heap[D]?=some (.cells #[.string ⟨#[]⟩,(),()] 26):=(b.bel.block D a_).trans ae.out;exact cj
       | ok k2 ls2=>
        go_wp2_with fail;refine(aI.out _ DZ).mono ?_;rintro e w7 ⟨rfl,az⟩;have a8:=hid az;clear aI c3 k3 aZ;obtain⟨z,am,an,ap,N,b⟩:=az;obtain⟨ps4,cs4,rfl⟩:=b.spSlice;have f:=bV.out;by_cases hlt2:k2<sp.length
        ·rw[if_pos hlt2] at f;have d7:decide ((k2:Int)<(sp.length:Int))=true:=aO a_;have cg:decide (k2<sp.length)=true:=aO hlt2;have hh:=(aw.out.hit hlt2).1;have a7:=aw.out.ok.2 k2 a_;have c1:=b.cells.1.2.1;have bF:=b.lt;obtain⟨bg,bh⟩:=exQ<|((lA sp k2).1:Int)+(aS ls2 k2).ind;rw[bh] at f;have U:=hid (aK (show ((⟨[],[]⟩:gD),bg,(2:Int))=R from f) (show (2:Int)≠0 by decide));have CT:=hid (λw' hj=>Fi (Pr:=λ_=>none) (w0:=w1) (P:=P) (txt:=l) (sp:=sp) (st:=⟨ls2,st.nodes,st.total⟩) (a0:=0) (e0:=0) k2 w' hj hlt2 EV a7 ab);simp only[bh] at CT;have CF:=hid (λa w' hj=>tC (Pr:=λ_=>none) (w0:=w1) (P:=P) (txt:=l) (sp:=sp) (st:=⟨ls2,st.nodes,st.total⟩) (a0:=0) (e0:=0) a 2 w' hj);clear f hlt2 hh a7 bh b N;go_wp2_with fail;refine(CT.out _ (by first | exact a8.out | exact a8.out.keep (aB _ _).drew)).mono ?_;rintro e w8 ⟨rfl,bq⟩;have b0:=hid (a8.out.keep (by first | exact bq | exact aC (aB _ _).drew bq));clear bq c1;go_wp2_with fail;refine(CF.out _ _ (by first | exact b0.out | exact b0.out.keep (aB _ _).drew)).mono ?_;rintro e w9 ⟨rfl,bM⟩;have HF:=hid bM.bad;clear bM bF;obtain⟨bi,z,am,an,ap,N,b⟩:=HF.out;obtain⟨⟨c0,c1,c2,c3,c4,c5,c6⟩,s,E,F,C,A⟩:=b.cells;have ag:=b.lt;have d:w9.heap[D]?=some (.cells #[.string ⟨#[]⟩,(),()] 26):=(b.bel.block D a_).trans ae.out;exact cj
        ·rw[if_neg hlt2] at f;have U:=hid f;have d7:decide ((k2:Int)<(sp.length:Int))=false:=aG a_;have cg:decide (k2<sp.length)=false:=aG hlt2;clear f hlt2;obtain⟨⟨c0,c1,c2,c3,c4,c5,c6⟩,s,E,F,C,A⟩:=b.cells;obtain⟨ql,cl,rfl⟩:=b.lnSlice;obtain⟨qn,cn,rfl⟩:=b.ndSlice;have ag:=b.lt;have d:w7.heap[D]?=some (.cells #[.string ⟨#[]⟩,(),()] 26):=(b.bel.block D a_).trans ae.out;obtain⟨e0,e1,e2,aH,aV,aP⟩:=eE d;have aX:D≠P:=a_;have HK:=hid b;have HZ:=hid N;have ad:=hid d;obtain⟨nl,H⟩:=exQ<|ls2.length;obtain⟨nz,G⟩:=exQ<|z.length
         try simp only[] at c2 c3
         rw[H] at c2;rw[G] at c3;have ar:=hid (aK H G);clear b N d d0 d1 d2 f0 f1 f2 H G c4 c5 c6 s E F C A;go_upto_region 20 with fail;go_region
         all_goals
          go_wp2_with fail
          try simp only[Exit.inBlock,Exit.then]
          refine bodyPost_ret (qC rfl _ _ rfl (u:= .string (bs l)) (v:= .slice ql nl cl) (x:= .slice qn nz cn) ?_ ?_ ?_) rfl ?_
          ·exact aj
          ·exact aj
          ·exact aj
          ·obtain⟨n1,n2⟩:=ar.out;subst n1 n2;have hg:=gJ (gJ (cT w7 D 0 (.string (bs l))) (cT _ D 1 (.slice ql ls2.length cl))) (cT _ D 2 (.slice qn z.length cn));have af:=World.ownsRow.kept HK.out.lnr hg (cQ HK.out.lnr ad.out b_);have Z:=HK.out.nod.other ad.out b_ b_ hg;have j:w.heap.size<=w1.heap.size:=Y.out.size;rw[<-U.out];refine⟨bs l,_,_,rfl,rfl,(show eD w.heap.size ⟨ls2,_⟩ _ _ _ from eD.keep (w:=((w7.setCell ⟨D,0,none⟩ (.string (bs l))).setCell ⟨D,1,none⟩ (.slice ql ls2.length cl)).setCell ⟨D,2,none⟩ (.slice qn z.length cn)) ⟨z,HZ.out,yH af j,Z.base j⟩ (aB _ _).drew),?_⟩;exact fa):P:=h
theorem qh(h:P:=by
 first
 |first|have:=xu|have:=xw
  obtain⟨R,G⟩:=exQ<|fM x lv a st;rw[G];unfold fM at G;obtain⟨i0,cy,cm,dg,dh⟩:=info_parts Tryz.infoYnode;unfold wG;have b0:=aL w (.cells (fO x) 45);have fW:=heap_alloc_new w (.cells (fO x) 45);have mo:w.heap.size<(w.alloc (.cells (fO x) 45)).heap.size:=e_
  have eV:=h.put b0 (aD _) fW;have ey: ∀k o,Pr k=some o->(Pr.put w.heap.size (.cells (fO x) 45)) k=some o:=aJ.put_less (λk o hk=>h.frLt k o hk) (aD _);have bn:=hid (h.keep b0);unfold fO at b0 fW bn eV mo ey;obtain⟨X,fd⟩:=exQ<|w.heap.size;obtain⟨W1,bo⟩:=exQ<|w.alloc (.cells #[x.kind,x.ind,x.fr,x.til,x.kf,x.kt,x.rf,x.rt,()] 45);rw[bo] at b0 fW bn eV mo;rw[fd] at fW eV mo ey;have HP:=hid eV;have HX:=hid fW;have ap:=hid ey;clear h b0 eV ey fW;by_cases h0:lv=0
  ·rw[if_pos h0] at G;have hlev:=hl.out;have d1:decide ((32:Int)<lev)=true:=aO a_;first|have:=xu;have CF:=hid (λw' hj=>pX (Pr:=Pr) (w0:=w0) (P:=P) (txt:=txt) (sp:=sp) (st:=st) (a0:=0) (e0:=0) a 5 w' hj)|have CF:=hid (λw' hj=>tC (Pr:=Pr) (w0:=w0) (P:=P) (txt:=txt) (sp:=sp) (st:=st) (a0:=0) (e0:=0) a 5 w' hj)
   have HR:=hid G;clear hlev h0 G;first|have:=xu;go_enter Tryz.func77,Tryz.ntmps77|go_enter Tryz.func38,Tryz.ntmps38
   go_wp2_with fail;refine(CF.out _ bn.out).mono ?_;exact k8
  rw[if_neg h0] at G;have d1:decide ((32:Int)<lev)=false:=aG EQ;obtain⟨z,sv,lvv,nv,hz,hK⟩:=HP.out;obtain⟨⟨c0,c1,c2,c3,c4,c5,c6⟩,f2,f3,f4,f5,f6⟩:=hK.cells;have hPl:=hK.lt;have cH:z.length=st.nodes.length:=E3
  by_cases h4:4096<=st.total
  ·rw[if_pos h4] at G;have d2:decide ((4096:Int)<=(st.total:Int))=true:=aO a_;first|have:=xu;have CF:=hid (λw' hj=>pX (Pr:=Pr) (w0:=w0) (P:=P) (txt:=txt) (sp:=sp) (st:=st) (a0:=0) (e0:=0) a 6 w' hj)|have CF:=hid (λw' hj=>tC (Pr:=Pr) (w0:=w0) (P:=P) (txt:=txt) (sp:=sp) (st:=st) (a0:=0) (e0:=0) a 6 w' hj)
   have HR:=hid G;clear h0 G h4 hK hz cH;first|have:=xu;go_enter Tryz.func77,Tryz.ntmps77|go_enter Tryz.func38,Tryz.ntmps38
   go_wp2_with fail;refine(CF.out _ (by first | exact bn.out | exact bn.out.keep (aB _ _).drew)).mono ?_;exact k8
  rw[if_neg h4] at G;have d2:decide ((4096:Int)<=(st.total:Int))=false:=aG a_;have p8:IntKind.i64.wrap ((st.total:Int)+1)=(st.total:Int)+1:=IntWalk.i64_in _ a_;have HR:=hid G;have te:=hK.count (st.total+1);rw[show ((st.total+1:Nat):Int)=(st.total:Int)+1 by omega] at te;obtain⟨n,hn⟩:=exQ<|z.length;have zb:n<=4096:=a_
  have fD:=hid (aK hz (aK cH hn));have wX:=hid te;clear h0 G h4 hK hz cH te hn hN
 |skip
 first
 |have:=xu;go_enter Tryz.func77,Tryz.ntmps77
 |have:=xw;go_enter Tryz.func38,Tryz.ntmps38
 |have G:=HR.out;rw[if_pos aw] at G;have bx:=hid G;rw[aG aw] at CT;clear G aw HR;go_wp2_with fail;refine(CT.out _ D0).mono ?_;rintro e w3 ⟨rfl,bI⟩;have da:=hid (ed.out.keep DS);clear bI;go_upto_region 5 with fail;obtain⟨W0,ai⟩:=exQ<|w3.drew;have bH:=da.out.keep (aB _ w3).drew;rw[ai] at bH;have bn:=hid bH;obtain⟨SA,ah⟩: ∃S:World->Prop,(λw'=>w'.cell? ⟨P,0,none⟩=some (.string (bs txt)))=S:=⟨_,rfl⟩;have ak:Hid (∀w',Below W0.heap.size W0 w'->SA w'):=hid (λw' hb=>by rw[<-ah];obtain⟨z,sv,lv,nv,hz,hK⟩:=bn.out.keep hb;exact hK.cells.1.1);have hbsz:=aM txt;clear bH;refine iW [17,18,19,20,21,22,23,24,25,26,27,5] [12] [12] 11 (nI W0 42 #[(0:Int),(0:Int)]) 72 [some P,some P,some P,bs txt,txt.length,some P,some P,some P,bs txt,txt.length, .agg #[txt.length,txt.length]] SA (uQ W0 42 #[txt.length,txt.length]) [11,12,0,1,2,4,5,6,7,9,10,3,8] j_ i_ ?_ ?_
  ·intro d a w' iq o' hO ho hi E aa F R' G;have Z:=eA aa [(0,some P)] rfl rfl;have hc:=F.all [(0,17),(1,18),(2,19),(3,20),(4,21),(5,22),(6,23),(7,24),(8,25),(9,26),(10,27)] b_;dsimp only[dX,dT,lk] at Z hc;clear aa;have ha:=E;have ad:=ho
   repeat' rcases hO with _ | ⟨_,hO⟩
   all_goals (simp only[dA,cR,bZ,cG] at ho;subst ho;try simp[Region.binds] at E)
   ·have hA:Below W0.heap.size W0 w':=F.at2 (j:=0) rfl (F.lastNot (f:=13) (i:=11) d' hi) (.inl rfl);have iA:=aL w' (.cells #[(0:Int),(0:Int)] 42);exact fl
   ·have sI:=F.gg 10 27 c_;have ab:=F.at2 (j:=0) rfl hi (.inl rfl);obtain⟨Y,hY,cb,bV⟩:=F.fb hi c_;have hY:a.tmps.getD 5 undef= .pointer (some ⟨Y,0,none⟩):=hY;have c5:a.tmps[5]?.getD undef= .pointer (some ⟨Y,0,none⟩):=by rw[<-aI];exact hY
    obtain⟨z0,z1,h0,h1⟩:=aBt bV;have hA:Below W0.heap.size W0 w':=ab;go_simp;exact G undef _ (F.ef 0 ad ha hi (.inl rfl) (λh=>absurd rfl h) (λh=>absurd rfl h) ⟨Y,hY,cb,aBu bV,aBv hA cb⟩)
   iterate 9 (go_simp;exact G _ _ (F.pu ad ha))
   all_goals
    have L:=F.ea hi;rw[<-ah] at L;have c0:=L;exact ag
  intro v wz au dl;obtain⟨X,hY,cb,bV,et⟩:=dl;have ej:v 5= .pointer (some ⟨X,0,none⟩):=hY;have dx:=bn.out.put et cb bV;have ap:=hid (λq o Z=>aJ.put_less (Pr:=Pr) (X:=X) (o:= .cells #[txt.length,txt.length] 42) (λq o' Z=>bn.out.frLt q o' Z) cb q o Z);have jK:=hid dx;simp only[cS,dF,cP,dG,ej];clear dx hY cb bV et au ej ak ah
 go_upto_region 6 with fail
 first
 |first|have:=xu|have:=xw
  clear bo fd;obtain⟨W2,aY⟩:=exQ<|(W1.setCell ⟨P,4,none⟩ (.int .i64 ((st.total:Int)+1))).drew;have av:=wX.out.keep (aB _ _).drew;rw[aY] at av
 |obtain⟨W2,aY⟩:=exQ<|wz.drew
  have fj:=jK.out.keep (aB _ wz).drew;rw[aY] at fj;obtain⟨z,sv,lv,nv,hz,av⟩:=fj;have kZ:z= []:=by simpa using hz
 obtain⟨pn,cn,pZ⟩:=av.ndSlice
 first
 |first|have:=xu|have:=xw
  rw[fD.out.2.2] at pZ;subst pZ
 |obtain⟨n,hn⟩:=exQ<|z.length
  rw[hn] at pZ;subst pZ;have zb:n<=4096:=by rw[<-hn,kZ];simp
  have fD:=hid (aK kZ hn)
 have bY:=hid av;have bh:=av.nod.row
 first
 |first|have:=xu|have:=xw
  rw[fD.out.2.2] at bh
 |rw[fD.out.2] at bh
 have cf:=hid bh;have dI:=hid av.bel.size
 first
 |first|have:=xu|have:=xw
  obtain⟨SB,cF⟩: ∃S:World->Prop,(λw'=>(w'.cell? ⟨P,3,none⟩=some (.slice pn n cn)/\w'.frozen? ⟨P,3,none⟩=false)/\w'.cell? ⟨X,0,none⟩=some (.int .i64 (x.kind:Int))/\w'.cell? ⟨X,1,none⟩=some (.int .i64 x.ind)/\w'.cell? ⟨X,2,none⟩=some (.int .i64 (x.fr:Int))/\w'.cell? ⟨X,3,none⟩=some (.int .i64 (x.til:Int))/\w'.cell? ⟨X,4,none⟩=some (.int .i64 x.kf)/\w'.cell? ⟨X,5,none⟩=some (.int .i64 x.kt)/\w'.cell? ⟨X,6,none⟩=some (.int .i64 x.rf)/\w'.cell? ⟨X,7,none⟩=some (.int .i64 x.rt)/\w'.cell? ⟨X,8,none⟩=some (.slice none 0 0))=S:=⟨_,rfl⟩;have cj:Hid (∀q c w',q<3->bM 45 w0.heap.size (.slice pn n cn) n (iC z) (fO x) P 3 W2 q c w'->SB w'):=hid (λq c w' Z hp=>by rw[<-cF];have hs:=bY.out.seenA cf.out b_ (λj o hj=>(bY.out.fr j o hj).2.2.2.1) Z hp;obtain⟨c2,f2⟩:=hs.c3;have hl:=hs.fr X _ (aJ.put_eq _ _ _);exact⟨⟨c2,f2⟩,oJ hl⟩);clear av bh wX HP c0 c1 c2 c3 c4 c5 c6 f2 f3 f4 f5 f6
 |skip
 first
 |have:=xu;refine iW [32,33,34,35,36,37,38,39,40,41] [10] [6,7,10] 1000000 (λ_ _=>True) 48 [some P,some P,some P, .pointer (some ⟨P,3,none⟩), .slice pn n cn, .agg #[x.kind,x.ind,x.fr,x.til,x.kf,x.kt,x.rf,x.rt,()],undef,undef,some P, .pointer (some ⟨P,3,none⟩)] SB (bM 45 w0.heap.size (.slice pn n cn) n (iC z) (fO x) P 3 W2) [6,7,10,0,1,2,3,8,9,4,5] m_ DP ?_ ?_
 |have:=xw;refine iW [30,31,32,33,34,35,36,37,38,39] [10] [6,7,10] 1000000 (λ_ _=>True) 46 [some P,some P,some P, .pointer (some ⟨P,3,none⟩), .slice pn n cn, .agg #[x.kind,x.ind,x.fr,x.til,x.kf,x.kt,x.rf,x.rt,()],undef,undef,some P, .pointer (some ⟨P,3,none⟩)] SB (bM 45 w0.heap.size (.slice pn n cn) n (iC z) (fO x) P 3 W2) [6,7,10,0,1,2,3,8,9,4,5] m_ DP ?_ ?_
 |obtain⟨i0,cy,cm,dg,dh⟩:=info_parts Tryz.infoYnode;obtain⟨SB,cF⟩: ∃S:World->Prop,(λw'=>(w'.cell? ⟨P,3,none⟩=some (.slice pn n cn)/\w'.frozen? ⟨P,3,none⟩=false)/\w'.cell? ⟨X,0,none⟩=some (.int .i64 (txt.length:Int))/\w'.cell? ⟨X,1,none⟩=some (.int .i64 (txt.length:Int)))=S:=⟨_,rfl⟩;have cj:Hid (∀q c w',q<3->bM 45 w0.heap.size (.slice pn n cn) n (iC z) (fO (⟨1,0,0,0,0,0,(txt.length:Int),(txt.length:Int),[]⟩:bA)) P 3 W2 q c w'->SB w'):=hid (λq c w' Z hp=>by rw[<-cF];have hs:=bY.out.seenA cf.out b_ (λj o hj=>(bY.out.fr j o hj).2.2.2.1) Z hp;obtain⟨c2,f2⟩:=hs.c3;have hl:=hs.fr X _ (aJ.put_eq _ _ _);exact⟨⟨c2,f2⟩,jG hl⟩);clear av bh hz kZ hn;refine iW [28,29,30,31,32,33,34,35,36,37,38] [11] [7,8,11] 1000000 (λ_ _=>True) 72 [some P,some P,some P, .pointer (some ⟨P,3,none⟩), .slice pn n cn, .agg #[txt.length,txt.length], .agg #[(1:Int),(0:Int),(0:Int),(0:Int),(0:Int),(0:Int),txt.length,txt.length,()],undef,undef,some P, .pointer (some ⟨P,3,none⟩)] SB (bM 45 w0.heap.size (.slice pn n cn) n (iC z) (fO (⟨1,0,0,0,0,0,(txt.length:Int),(txt.length:Int),[]⟩:bA)) P 3 W2) [7,8,11,0,1,2,3,6,9,10,4,5] m_ DP ?_ ?_
 ·intro d a w' iq o' hO ho hi E aa F R' G;have Z:=eA aa [(0,some P),(5,some X)] rfl rfl;first|have:=xu;have hc:=F.all [(0,32),(1,33),(2,34),(3,35),(4,36),(5,37),(8,40),(9,41)] b_|have:=xw;have hc:=F.all [(0,30),(1,31),(2,32),(3,33),(4,34),(5,35),(8,38),(9,39)] b_|have hc:=F.all [(0,28),(1,29),(2,30),(3,31),(4,32),(5,33),(6,34),(9,37),(10,38)] b_
  dsimp only[dX,dT,lk] at Z hc;clear aa;have ha:=E;have ad:=ho
  repeat' rcases hO with _ | ⟨_,hO⟩
  all_goals (simp only[dA,cR,bZ,cG] at ho;subst ho;try simp[Region.binds] at E)
  ·first|have:=xu;have sT:=F.gg 5 37 c_|have:=xw;have zn:=F.gg 5 35 c_|have vp:=F.gg 6 34 c_
   exact ew
  first
  |first|have:=xu|have:=xw
   ·first|have:=xu;have lG:=F.gg 4 36 c_|have vp:=F.gg 4 34 c_
    have ae:d 6=true:=c_;have ab:=F.at2 (j:=1) rfl hi (.inr ⟨6,rfl,ae⟩)
    first
    |have:=xu;have eO:a.tmps.getD 36 undef= .slice pn n cn:=by rw[aI];exact lG
     exact bM.app rfl (.tmp 36) (.tmp 38) 24 rfl Tryz.underlying24 cy cm dg dh rfl b_ rfl (Fh x) cf.out a_ b_ dI.out ab eO rfl (λv' w2 hp=>G _ _ (F.ef 1 ad ha hi (.inr ⟨6,rfl,ae⟩) (λ_ _ _=>trivial) (λ_=>cj.out 2 _ _ b_ hp) hp))
    |have eO:a.tmps.getD 34 undef= .slice pn n cn:=by rw[aI];exact vp
     exact bM.app rfl (.tmp 34) (.tmp 36) 24 rfl Tryz.underlying24 cy cm dg dh rfl b_ rfl (Fh x) cf.out a_ b_ dI.out ab eO rfl (λv' w2 hp=>G _ _ (F.ef 1 ad ha hi (.inr ⟨6,rfl,ae⟩) (λ_ _ _=>trivial) (λ_=>cj.out 2 _ _ b_ hp) hp))
  |·have AA:=F.gg 4 32 c_
    have ae:d 7=true:=c_;have ab:=F.at2 (j:=1) rfl hi (.inr ⟨7,rfl,ae⟩);have eO:a.tmps.getD 32 undef= .slice pn n cn:=by rw[aI];exact AA
    exact bM.app rfl (.tmp 32) (.tmp 35) 24 rfl Tryz.underlying24 cy cm dg dh rfl b_ rfl (Fh (⟨1,0,0,0,0,0,(txt.length:Int),(txt.length:Int),[]⟩:bA)) cf.out a_ b_ dI.out ab eO rfl (λv' w2 hp=>G _ _ (F.ef 1 ad ha hi (.inr ⟨7,rfl,ae⟩) (λ_ _ _=>trivial) (λ_=>cj.out 2 _ _ b_ hp) hp))
  ·first|have:=xu;have xH:=F.gg 9 41 c_|have:=xw;have tp:=F.gg 9 39 c_|skip
   first
   |first|have:=xu|have:=xw
    have ae:d 7=true:=c_;have ab:=F.at2 (j:=2) rfl hi (.inr ⟨7,rfl,ae⟩)
   |have zj:=F.gg 10 38 c_;have ae:d 8=true:=c_;have ab:=F.at2 (j:=2) rfl hi (.inr ⟨8,rfl,ae⟩)
   have L:=F.st hi;rw[<-cF] at L
   first
   |first|have:=xu|have:=xw
    obtain⟨⟨p3,tw⟩,b0,b1,b2,b3,b4,b5,b6,b7,b8⟩:=L
   |skip
   first|have:=xu;have cA:bM 45 w0.heap.size (.slice pn n cn) n (iC z) (fO x) P 3 W2 2 (a.tmps.getD 39 undef) w':=ab|have:=xw;have cA:bM 45 w0.heap.size (.slice pn n cn) n (iC z) (fO x) P 3 W2 2 (a.tmps.getD 37 undef) w':=ab|obtain⟨⟨p3,tw⟩,b0,b1⟩:=L;have cA:bM 45 w0.heap.size (.slice pn n cn) n (iC z) (fO (⟨1,0,0,0,0,0,(txt.length:Int),(txt.length:Int),[]⟩:bA)) P 3 W2 2 (a.tmps.getD 36 undef) w':=ab
   obtain⟨gz,cz,hz⟩:=cA.form;rw[hz] at cA;first|have:=xu;have tp:a.tmps[39]?.getD undef= .slice (some ⟨gz,0,none⟩) (n+1) cz:=by rw[<-aI];exact hz|have:=xw;have sT:a.tmps[37]?.getD undef= .slice (some ⟨gz,0,none⟩) (n+1) cz:=by rw[<-aI];exact hz|skip
   first
   |first|have:=xu|have:=xw
    exact ko
   |have lG:a.tmps[36]?.getD undef= .slice (some ⟨gz,0,none⟩) (n+1) cz:=by rw[<-aI];exact hz
    go_simp;exact G undef _ (F.ef 2 ad ha hi (.inr ⟨8,rfl,ae⟩) (λ_ _ _=>trivial) (λh=>absurd rfl h) ⟨_,_,cA,rfl⟩)
  first
  |first|have:=xu|have:=xw
   iterate 6 (go_simp;exact G _ _ (F.pu ad ha))
  |iterate 7 (go_simp;exact G _ _ (F.pu ad ha))
  all_goals
   have L:=F.ea hi;rw[<-cF] at L
   first
   |first|have:=xu|have:=xw
    obtain⟨⟨p3,tw⟩,b0,b1,b2,b3,b4,b5,b6,b7,b8⟩:=L
   |obtain⟨⟨p3,tw⟩,b0,b1⟩:=L
   exact ag
 intro v wy au cd
 first
 |first|have:=xu|have:=xw
  obtain⟨cz,f9⟩: ∃c,bM 45 w0.heap.size (.slice pn n cn) z.length (iC z) (fO x) P 3 W2 3 c wy:=⟨_,by rw[fD.out.2.2];exact cd⟩;obtain⟨g,cap,cI⟩:=bY.out.nodeA hx f9
 |obtain⟨cz,f9⟩: ∃c,bM 45 w0.heap.size (.slice pn n cn) z.length (iC z) (fO (⟨1,0,0,0,0,0,(txt.length:Int),(txt.length:Int),[]⟩:bA)) P 3 W2 3 c wy:=⟨_,by rw[fD.out.2];exact cd⟩;obtain⟨g,cap,cI⟩:=bY.out.nodeA (x:=(⟨1,0,0,0,0,0,(txt.length:Int),(txt.length:Int),[]⟩:bA)) rfl f9
 have cp:=cI.less ap.out
 first
 |first|have:=xu|have:=xw
  rw[fD.out.2.2] at cp;obtain⟨⟨_,_,_,c3,_⟩,_⟩:=cp.cells;have jp:=cp.lt;have HF:=hid cp
 |have HF:Hid (YJ YP Pr w0 P txt sp ⟨ls,[(⟨1,0,0,0,0,0,(txt.length:Int),(txt.length:Int),[]⟩:bA)],0⟩ 0 0 wy):=hid ⟨_,_,_,_,by rw[nE,fD.out.1];rfl,cp⟩
 clear cd cI cp f9 au cj cF aY;simp only[cS,dF,cP,dG];go_wp2_with fail
 first
 |first|have:=xu|have:=xw
  go_ret2;rw[<-HR.out];refine⟨by rw[<-fD.out.2.1,fD.out.2.2];first | rfl | (congr 3;omega),_,_,_,_,?_,HF.out⟩;rw[nE,fD.out.1];rfl
 |go_ret;rw[<-bx.out];exact .inl ⟨rfl,rfl,0,HF.out⟩):P:=h
theorem qy(h:P:=by
 have sl:=aM l;obtain⟨R,hR⟩:=exQ<|gT l a;rw[hR];unfold gT at hR
 first|have _:=v6;have HT:=hid hT;clear hT|skip
 by_cases hout:a<0\/(l.length:Int)<a
 ·rw[if_pos hout] at hR;subst hR;rcases hout with h | h
  first
  |have _:=v6
   ·go_enter Tryz.func148,Tryz.ntmps148;go_wp2_with fail;go_ret3;exact ab
  |·go_enter Tryz.func58,Tryz.ntmps58
    go_wp2_with fail;go_ret3;exact⟨rfl,rfl⟩
  ·have hn: ¬a<0:=a_;exact gv
 rw[if_neg hout] at hR;obtain⟨k,rfl⟩: ∃k:Nat,a=k:=⟨a.toNat,a_⟩;rw[fV] at hR;have hk0:decide ((k:Int)<0)=false:=aG a_;have cg:decide (l.length<k)=false:=aG a_;have cm:k<=l.length:=a_
 clear hout;by_cases h39:l[k]?=some 39
 ·rw [if_pos h39] at hR;have b8:k<l.length:=(aR.1 h39).1;have aw:k<(bs l).size:=a_
  have t1:((((bs l)[k]'aw).toNat:Int) !=39)=false:=by
   have:=cK l k aw;rw[h39] at this;have h2:(bs l)[k]'aw=39:=(by simpa using this.symm);rw[h2];rfl
  have t2:((k:Int)==(l.length:Int))=false:=aE.2 a_;have HR:=hid hR;clear hR h39
  first
  |have _:=v6;go_enter Tryz.func148,Tryz.ntmps148;go_wp2_with fail;go_loopw [1,8,9] (λs1 _ _ wr=> ∃(i f:Nat) (v:List UInt8),s1= .int .i64 i/\i<=l.length/\v.length<=i/\l.length<i+f/\Hid (jB f (l.drop i) i v=R)/\Hid (nP w.heap.size w.heap.size v wr)/\Hid (Below w.heap.size w wr)) (λs1 _ _ _=>l.length-(RowKit.intOf s1).toNat)
   case atStart=>exact⟨k+1,l.length+1,[],q_,a_,e_,a_,HR.out,nP.new w,aL w _⟩
  |go_enter Tryz.func58,Tryz.ntmps58;go_wp2_with fail;go_loop [7,8] (λs7 s8=> ∃(i f:Nat) (v:List UInt8),s7= .string (bs v)/\s8= .int .i64 i/\i<=l.length/\v.length<=i/\l.length<i+f/\Hid (jB f (l.drop i) i v=R)) (λ_ s8=>l.length-(RowKit.intOf s8).toNat)
   case atStart=>exact⟨k+1,l.length+1,[],rfl,q_,a_,e_,a_,HR.out⟩
  case round=>
   first|have _:=v6;obtain⟨i,f,v,rfl,hi,a2,hf,HG,a9,HW⟩:=hrel|obtain⟨i,f,v,rfl,rfl,hi,a2,hf,HG⟩:=hrel
   obtain⟨g,rfl⟩: ∃g,f=g+1:=⟨f-1,a_⟩;first|have _:=yt;have sa:=aM v|skip
   by_cases F:i<l.length
   ·have y:i<(bs l).size:=a_;have O:l.drop i=l[i]'F::l.drop (i+1):=fL F;have ay:=mB (bs l) i;rw[aQ] at ay;have A:=HG.out;rw[O,vV,<-O] at A;first|have _:=yt;have al:=cK l i y;rw[bC F] at al;have Y:(bs l)[i]'y=l[i]'F:=(by simpa using al.symm);have aa:=fU ((bs l)[i]'y) 39 39 rfl|skip
    have bp:=lH (bs l) i y;first|have _:=v6;have bI:=rO (bs l) i;have CD:=hid (λw hT=>Dy l i w F hT);have hz:w.heap.size<=wr.heap.size:=HW.out.size;have ar:=Vl l i F;have ai:=Vm l i F|skip
    have aW:(decodeL (l.drop i)).2=bG (bs l) i:=by rw[ay];rfl
    first
    |have _:=v6;have aI:l[i]'F=39->bL (bs l) i=39/\bG (bs l) i=1:=λh=>by
      have h1:=decodeL_ascii 39 (l.drop (i+1)) b_;rw[O,h] at ay;rw[h1] at ay;unfold bL bG;rw[<-ay];exact⟨rfl,rfl⟩
     have aS:l[i]'F≠39->iF (decodeL (l.drop i))=false->bL (bs l) i≠39:=λh hp e=>by
      obtain⟨q1,q2,q3,_⟩:=ar hp;rw[e,Kl] at q3;have hwp:=bp.1;rw[O] at q3;obtain⟨z,hz⟩: ∃z,bG (bs l) i=z+1:=⟨bG (bs l) i-1,a_⟩;rw[hz,List.take_succ_cons] at q3;injection q3 with q3 _;exact h q3.symm
     rw[aW] at A;obtain⟨rn,bH⟩:=exQ<|bL (bs l) i;obtain⟨wd,bu⟩:=exQ<|bG (bs l) i;rw[bH] at CD bI ar ai aI aS;rw[bu] at CD bp ar ai aI A;by_cases hc:l[i]'F=39
     ·rw[if_pos hc] at A;obtain⟨e1,e2⟩:=aI hc;subst e1 e2;obtain⟨P,hP⟩:=exQ<|Lib.hasPrefix (l.drop (i+1)) [39];have CP:Hid (∀w,Calls Tryz.prog 117 #[((bs l).extract (i+1) l.length), .string ⟨#[39]⟩] w λe w'=>e= .returned (.bool P)/\w=w'):=hid (λw=>by have:=Tryz.strings_HasPrefix ((bs l).extract (i+1) l.length) ⟨#[39]⟩ w;rw[iD _ _ _ rfl,aQ,show (⟨#[39]⟩:ByteArray).data.toList= [39] from rfl,hP] at this;rw[iD _ _ _ rfl];exact this.mono λ_ _ ⟨a,b⟩=>⟨a,b.symm⟩);rw[Vn] at hP;clear O ay ar ai aW aI aS bH bu hc;have hi1:(i:Int)+1<=(l.length:Int):=a_;cases P with
      | false=>
       rw[if_neg (by simpa using hP)] at A;have HF:=hid A;clear A hP;go_wp2_with fail;(with_reducible refine(CD.out _ (HT.out.keep HW.out)).mono ?_);rintro e w1 ⟨rfl,o⟩;have au:=hid (a9.out.keep o);have ak:=hid (aC HW.out o);clear o;go_wp2_with (go_at_call 117;refine(CP.out _).mono ?_;rintro e w' ⟨rfl,rfl⟩);refine(Tryz.Builder_String_any_k w.heap.size w.heap.size v _ au.out ak.out.size).mono ?_;rintro e W1 ⟨rfl,_,b1,_⟩;go_wp2_with fail;go_ret3;exact⟨by rw[<-HF.out];rfl,ak.out.trans b1⟩
      | true=>
       have bz:=beq_iff_eq.1 hP;rw[if_pos bz,jJ] at A;have cd:i+1<l.length:=by
        rw[List.head?_drop] at bz;exact(aR.1 bz).1
       have ag:=hid A;clear A hP bz;go_wp2_with fail;(with_reducible refine(CD.out _ (HT.out.keep HW.out)).mono ?_);rintro e w1 ⟨rfl,o⟩;have au:=hid (a9.out.keep o);have ak:=hid (aC HW.out o);clear o;go_wp2_with (go_at_call 117;refine(CP.out _).mono ?_;rintro e w' ⟨rfl,rfl⟩);refine(yS w.heap.size w.heap.size v 39 _ au.out ⟨a_,a_⟩ a_ ak.out.size).mono ?_;rintro e w2 ⟨rfl,h2,b2,_⟩;rw[Kl] at h2;have aN:=hid h2;have ah:=hid (ak.out.trans b2);clear h2 b2;go_wp2_with fail;go_roundw
       case rel=>exact⟨i+2,g,v++ [39],q_,a_,by simp;omega,a_,ag.out,aN.out,ah.out⟩
       case measure=>simp[RowKit.intOf];omega
     ·rw[if_neg hc] at A;cases hp:iF (decodeL (l.drop i)) with
      | true=>
       rw[hp,if_pos rfl] at A;have HF:=hid A;have hb:=ai hp;clear A hp ai ar O ay aW aI aS bH bu hc;by_cases h32:rn<32
       ·clear hb;exact jq
       ·obtain⟨b1,b2⟩:=hb.resolve_left h32;have cA:decide (rn<32)=false:=aG h32;have t3:(rn==65533)=true:=beq_iff_eq.2 b1;have t4:(((wd:Nat):Int)==1)=true:=beq_iff_eq.2 a_;clear hb b1 b2;exact jq
      | false=>
       rw[hp,if_neg e_,jJ] at A;obtain⟨q1,q2,q3,q4⟩:=ar hp;have bK:=aS hc hp;rw[<-q3] at A;have hel:(encodeRune rn).length<=wd:=by rw[q3,bT];omega
       have ag:=hid A;have cJ:=q1.1;have cQ:=q1.2.1;have cA:decide (rn<32)=false:=aG a_;have cp:(rn==39)=false:=aE.2 bK;have t5:(rn==65533&&((wd:Nat):Int)==1)=false:=by
        by_cases hx:rn=65533
        ·rw[aE.2 (q4 hx),Bool.and_false]
        ·rw[aE.2 hx];rfl
       clear A hp ai ar O ay aW aI aS bH bu hc q1 q3 bK;by_cases hx:rn=65533
       ·have t3:(rn==65533)=true:=beq_iff_eq.2 hx;have t4:(((wd:Nat):Int)==1)=false:=aE.2 (q4 hx);exact i8
       ·have t3:(rn==65533)=false:=aE.2 hx;exact i8
    |rw[aW,Yl l i F,<-Y] at A;by_cases hc:(bs l)[i]'y=39
     ·rw [if_pos hc,List.head?_drop] at A;rw[beq_iff_eq.2 hc] at aa;by_cases hn:l[i+1]?=some 39
      ·rw[if_pos hn,jJ] at A;have cd:i+1<l.length:=(aR.1 hn).1;have av:i+1<(bs l).size:=a_;have cH:((((bs l)[i+1]'av).toNat:Int) !=39)=false:=by
        have:=cK l (i+1) av;rw[hn] at this;rw[show (bs l)[i+1]'av=39 from (aV this).symm];rfl
       have b7:decide (l.length<=i+1)=false:=aG a_;have ag:=hid A;have bj: ¬9223372036854775807<(bs v).size+(⟨#[39]⟩:ByteArray).size:=by show ¬_<_+1;omega
       clear A hn hc al Y O ay aW;go_wp2_with fail;go_round
       case rel=>exact⟨i+2,g,v++ [39],by first | exact congrArg _ (kK v [39]) | rfl,q_,a_,by simp;omega,a_,ag.out⟩
       case measure=>simp[RowKit.intOf];omega
      ·rw[if_neg hn] at A;have HF:=hid A;by_cases cd:i+1<l.length
       ·have av:i+1<(bs l).size:=a_;have cH:((((bs l)[i+1]'av).toNat:Int) !=39)=true:=by
         rw[eF];intro h;apply hn;rw[cK l (i+1) av,show (bs l)[i+1]'av=39 from UInt8.toNat_inj.1 (by show _=39;omega)]
        have b7:decide (l.length<=i+1)=false:=aG a_;exact ly
       ·have b7:decide (l.length<=i+1)=true:=aO a_;exact ly
     ·rw [if_neg hc] at A;rw[aE.2 hc] at aa;have CG:=hid (λw=>vX (bs l) i w y a_);have CN:=hid (λw=>vW (bs l) i w y a_);obtain⟨c,bg⟩:=exQ<|(bs l)[i]'y;rw[bg] at A;obtain⟨n,hn⟩: ∃n:Int,(c.toNat:Int)=n:=⟨_,rfl⟩;have a3:(((bs l)[i]'y).toNat:Int)=n:=(by rw[bg,hn]);rw[a3] at aa;obtain⟨RU,a8⟩:=exQ<|bL (bs l) i;obtain⟨WD,aY⟩:=exQ<|bG (bs l) i;obtain⟨GB,ba⟩:=exQ<|fB (bs l) i;rw[ba] at CG A;rw[a8,aY] at CN;rw[aY] at bp A;clear ay a8 aY ba O al Y hc bg aW;by_cases h3:n<32
      ·rw[aO (show c.toNat<32 by omega),Bool.true_or,if_pos rfl] at A;have HF:=hid A;clear A hn;cases GB with
       | true=>exact fi
       | false=>exact fi
      ·have d3:decide (n<32)=false:=aG h3;rw[aG (show ¬c.toNat<32 by omega),Bool.false_or] at A;cases GB with
       | false=>
        rw[if_pos (show (!false)=true from rfl)] at A;have HF:=hid A;clear A hn;exact fi
       | true=>
        rw[if_neg e_,jJ] at A;have ag:=hid A;have aP:(bs l).extract i (i+WD)=bs ((l.drop i).take WD):=by
         apply ByteArray.ext;apply Array.ext';simp[bs,List.drop_take]
        have bO:=aM ((l.drop i).take WD);rw[bT,aU] at bO;have bj: ¬9223372036854775807<(bs v).size+(bs ((l.drop i).take WD)).size:=a_;clear A hn;go_wp2_with (go_at_call 91;refine(CG.out _).mono ?_;rintro e w' ⟨rfl,rfl⟩);refine(CN.out _).mono ?_;rintro e w' ⟨rfl,rfl⟩;go_wp2_with fail;go_round
        case rel=>exact⟨i+WD,g,v++(l.drop i).take WD,by congr 1<;>first | rw[aP,kK] | rw[aP] | rfl,q_,a_,by rw[aT,bT,aU];omega,a_,ag.out⟩
        case measure=>simp[RowKit.intOf];omega
   ·have A:=HG.out;rw[List.drop_of_length_le a_] at A;have HF:=hid (show ([],(i:Int),2)=R from A);obtain rfl:i=l.length:=a_;clear A HG;go_wp2_with fail;go_ret3;first|have _:=v6;exact em|exact⟨by rw[<-HF.out];rfl,rfl⟩
 ·rw[if_neg h39] at hR;subst hR;by_cases b8:k<l.length
  ·have aw:k<(bs l).size:=a_;have t1:((((bs l)[k]'aw).toNat:Int) !=39)=true:=by
    rw[eF];intro h;apply h39;rw[cK l k aw];have:((bs l)[k]'aw)=39:=UInt8.toNat_inj.1 (by show _=39;omega);rw[this]
   have t2:((k:Int)==(l.length:Int))=false:=aE.2 a_;clear h39;exact gv
  ·obtain rfl:k=l.length:=a_;clear h39 b8;exact gv):P:=h
theorem tz(h:P:=by
 obtain⟨A1,hA⟩:=exQ<|jO n
 first|have:=A8;have CA:=hid (λw=>Tq n w hd A1 hA)|have CA:=hid (λw=>aAx n w hd A1 hA)
 obtain⟨R,hR⟩:=exQ<|kB n;rw[hR];unfold kB at hR;rw[hA] at hR;have hb:A1=true->n.dig.length<=1000/\ -1000000<=n.exp/\n.exp<=1000000:=λh=>zT (hA.trans h)
 first
 |have:=A9;obtain⟨Q,hQ⟩:=exQ<|decide (n=cF)
  have CQ:=hid (λw=>aAy n w Q hQ);have bB:A1=true->(Q=true↔n.dig= []):=λh=>by
   rw[<-hQ,jS];constructor
   ·intro e;rw[e];rfl
   ·intro e;rcases of_decide_eq_true (hA.trans h) with g | g
    ·exact g
    ·exact absurd e (nR g.1).1
 |skip
 obtain⟨ng,d,ex⟩:=n;first|have:=A8;simp only[] at hR CA hb hd ⊢;have sd:=aM d;have HT:=hid (hT.keep (aL w (.cells #[ng,bs d,ex] 80)));clear hT hA|simp only[] at hR CA hb hd bB CQ ⊢;have sd:=aM d;have HN:=hid (pZ.new w ⟨ng,d,ex⟩);clear hA hQ
 cases A1 with
 | false=>
  rw[if_pos rfl] at hR;subst hR;first|have:=A8;go_enter Tryz.func34,Tryz.ntmps34;go_wp2_with (go_at_call 61;go_must (refine(CA.out _).mono ?_);rintro e w1 ⟨rfl,o⟩)|clear bB;go_enter Tryz.func89,Tryz.ntmps89;go_wp2_with (go_at_call 125;go_must (refine(CA.out _).mono ?_);rintro e w1 ⟨rfl,o⟩)
  go_ret;exact⟨rfl,(aL w _).trans (o.mono e_)⟩
 | true=>
  obtain⟨o,J,aH⟩:=hb rfl;first|have:=A9;have V:=bB rfl|skip
  rw[if_neg e_] at hR;first|have:=A8;have C2:=hid (λw hT=>Jq ex w a_ hT);have HR:=hid hR;clear hR;go_enter Tryz.func34,Tryz.ntmps34|have C2:=hid (λw=>aAw ex w a_);have cI:=zU ex a_;generalize Lib.itoa ex=I at *;have sI:=aM I;have HR:=hid hR;have HQ:=hid V;clear hR V bB hb;go_enter Tryz.func89,Tryz.ntmps89
  go_wp2_with fail;refine(CA.out _).mono ?_;rintro e w1 ⟨rfl,o⟩
  first
  |have:=A8;have cs:=hid ((o.block w.heap.size e_).trans (heap_alloc_new w _));have ch:=hid (HT.out.keep o);have G:=hid ((aL w _).trans (o.mono e_));obtain⟨r0,r1,r2,g0,g1,g2⟩:=iA cs.out;clear o;have br:(bs d).toList=d:=C';by_cases hne:d= []
   ·have hR:=HR.out;rw[if_pos hne] at hR;subst hR;rw[hne] at br;clear HR;exact gr
   ·have hR:=HR.out;rw[if_neg hne] at hR;have cv: ¬(bs d).toList= []:=by rw[br];exact hne
    have hDn2:((bs d).toList== [])=false:=aE.2 cv;have hDn3:(bs d).toList.isEmpty=false:=by rw[br];cases d with | nil=>exact absurd rfl hne | cons _ _=>rfl
    clear br hne HR;by_cases he:ex=0
    ·subst he;cases ng
     ·have HR:=hid (show d=R by simpa using hR);clear hR;go_wp2_with fail;go_ret;exact⟨by rw[<-HR.out];rfl,G.out⟩
     ·have HR:=hid (show 45::d=R by simpa using hR);clear hR;go_wp2_with fail;go_ret;exact⟨by rw[<-HR.out,uD];rfl,G.out⟩
    ·rw[if_pos he] at hR;have cl:(ex !=0)=true:=eF.2 he;have cI:=zU ex a_;generalize Lib.itoa ex=I at *;have sI:=aM I;have HR:=hid hR;clear hR he;cases ng
     ·go_wp2_with fail;refine(C2.out _ ch.out).mono ?_;rintro e w2 ⟨rfl,J⟩;go_wp2_with fail;go_ret;exact⟨by rw[<-HR.out,uD,kK];rfl,G.out.trans (J.mono G.out.size)⟩
     ·go_wp2_with (go_at_call 62;go_must (refine(C2.out _ ch.out).mono ?_);rintro e w2 ⟨rfl,J⟩);go_ret;exact⟨by rw[<-HR.out,uD,uD,kK];rfl,G.out.trans (J.mono G.out.size)⟩
  |have HO:=hid (uT.of (HN.out.keep o) ((aL w _).trans (o.mono e_)));obtain⟨c0,c1,c2⟩:=HO.out.1;simp only[] at c0 c1 c2;clear o;go_wp2_with fail;refine(CQ.out _).mono ?_;rintro e w2 ⟨rfl,J⟩;have cn:=hid (HO.out.step J);clear J HO c0 c1 c2;obtain⟨c0,c1,c2⟩:=cn.out.1;simp only[] at c0 c1 c2;have HB:=hid cn.out.2.out.2;cases Q with
   | true=>
    have hR:=HR.out;rw[if_pos (by simpa using HQ.out)] at hR;have HF:=hid hR;clear hR;go_wp2_with fail;go_ret;exact⟨by rw[<-HF.out];rfl,HB.out⟩
   | false=>
    have hR:=HR.out;rw[if_neg (by simpa using HQ.out)] at hR;have H2:=hid hR;clear hR HR;by_cases he:ex=0
    ·subst he;cases ng
     ·have HF:=hid (show d=R by simpa using H2.out);clear H2;go_wp2_with fail;go_ret;exact⟨by rw[<-HF.out];rfl,HB.out⟩
     ·have HF:=hid (show 45::d=R by simpa using H2.out);clear H2;go_wp2_with fail;go_ret;exact⟨by rw[<-HF.out,uD];rfl,HB.out⟩
    ·have cl:(ex !=0)=true:=eF.2 he;have hR:=H2.out;rw[if_pos he] at hR;have H3:=hid hR;clear hR he H2;cases ng
     ·have HF:=hid (show d++([101]++I)=R by simpa using H3.out);clear H3;go_wp2_with (go_at_call 127;go_must (refine(C2.out _).mono ?_);rintro e w3 ⟨rfl,aH⟩);go_ret;exact⟨by rw[<-HF.out,show (⟨#[101]⟩:ByteArray)=bs [101] from rfl,kK,kK,mU];rfl,HB.out.trans (aH.mono HB.out.size)⟩
     ·have HF:=hid (show 45::(d++([101]++I))=R by simpa using H3.out);clear H3;go_wp2_with (go_at_call 127;go_must (refine(C2.out _).mono ?_);rintro e w3 ⟨rfl,aH⟩);go_ret;exact⟨by rw[<-HF.out,uD,show (⟨#[101]⟩:ByteArray)=bs [101] from rfl,kK,kK,mU];rfl,HB.out.trans (aH.mono HB.out.size)⟩):P:=h
theorem rl(h:P:=by
 have sl:=aM l
 first
 |have:=zl;obtain⟨R,hR⟩:=exQ<|uG l
  rw[hR];have HR:=hid hR;have HT:=hid hT;clear hR hT;go_enter Tryz.func143,Tryz.ntmps143;go_wp2_with fail;go_loopw [4] (λ_ wr=> ∃p:Nat,p<=l.length/\Hid (Wr true l p (cX true l))/\Hid (wr.heap[w.heap.size]?=some (.stringIter (bs l) p))/\Hid (Below w.heap.size w wr)) (λ_ wr=>l.length-wr.iterPos w.heap.size)
  case atStart=>exact⟨0,a_,Wr.zero true l,World.iter_heap w (bs l) 0,(aB _ _).alloc (aD _) _⟩
 |obtain⟨R,hR⟩:=exQ<|mH l
  rw[hR];unfold mH at hR;have HR:=hid hR;have HV:=hid hV;clear hR hV;go_enter Tryz.func115,Tryz.ntmps115;go_wp2_with fail;go_loopw [4] (λ_ wr=> ∃p:Nat,p<=l.length/\Hid (Cl l p (sS l.length l))/\Hid (wr.heap[w.heap.size]?=some (.stringIter (bs l) p))/\Hid (Below w.heap.size w wr)) (λ_ wr=>l.length-wr.iterPos w.heap.size)
  case atStart=>exact⟨0,a_,Cl.zero l,World.iter_heap w (bs l) 0,(aB _ _).alloc (aD _) _⟩
 case round=>
  obtain⟨p,hp,HB,HI,HW⟩:=hrel;by_cases F:p<l.length
  ·have y:p<(bs l).size:=a_;have hw:=lH (bs l) p y;have bI:=rO (bs l) p;have bh: ∀ty,(Instr.next (.pointer (some ⟨w.heap.size,0,none⟩)) true ty).run Tryz.prog wr= .ok (.tuple #[true,p, .int .i32 (bL (bs l) p)]) (wr.iterAt w.heap.size (bs l) (p+bG (bs l) p)):=λty=>Lib.run_next_any_at wr _ (bs l) p ty HI.out y;have a7:=hid (Lib.iterAt_heap wr w.heap.size (bs l) p (p+bG (bs l) p) HI.out);have ah:=hid (Lib.below_iterAt HW.out (aD w.heap.size) (bs l) (p+bG (bs l) p));first|have:=zl;have cc:=HT.out.keep ah.out|skip
   have HM:=hid (iterPos_of HI.out);have b0:=hid (iterPos_of a7.out);obtain⟨K,af⟩:=HB.out.rune F;first|have:=zl;have CD:=hid (Dy l p _ F cc)|skip
   obtain⟨r,hr⟩:=exQ<|bL (bs l) p;obtain⟨n,hn⟩:=exQ<|bG (bs l) p
   first
   |have:=zl;rw[hr] at bh bI CD K af;rw[hn] at bh hw a7 ah b0 CD K af;clear cc hr hn;unfold xN at K af;by_cases hr1:r=65533
    ·by_cases h1:n=1
     ·have HG:=hid (K (by rw[hr1,h1];decide));have bQ:(r==65533)=true:=by rw[hr1];rfl
      have cL:(((n:Nat):Int)==1)=true:=by rw[h1];rfl
      clear hr1 h1 K af;go_wp2_with fail;(with_reducible refine CD.out.mono ?_);rintro e w1 ⟨rfl,hb⟩;go_wp2_with fail;go_ret2;exact⟨Ac (HR.out.symm.trans (Ab HG.out F)),aC ah.out hb⟩
     ·have HG:=hid (af (by rw[hr1,aE.2 h1];decide));have bQ:(r==65533)=true:=by rw[hr1];rfl
      have cL:(((n:Nat):Int)==1)=false:=aE.2 a_;have h3:decide (r<32)=false:=aG a_;have h4:(r==127)=false:=aE.2 a_;clear hr1 h1 K af;go_wp2_with fail;(with_reducible refine CD.out.mono ?_);rintro e w1 ⟨rfl,hb⟩;go_wp2_with fail;have b6:=hid ((hb.block w.heap.size (aF a7.out)).trans a7.out);go_roundw
      case rel=>exact⟨p+n,a_,HG.out,b6.out,aC ah.out hb⟩
      case measure=>rw[iterPos_of b6.out,HM.out];omega
    ·have bQ:(r==65533)=false:=aE.2 hr1;by_cases h3:r<32
     ·have HG:=hid (K (by rw[aO h3];rfl));clear hr1 K af;exact mu
     ·have b4:decide (r<32)=false:=aG h3;by_cases h4:r=127
      ·have HG:=hid (K (by rw[h4];simp));have bN:(r==127)=true:=beq_iff_eq.2 h4;clear hr1 h4 K af;exact mu
      ·have HG:=hid (af (by rw[b4,bQ,aE.2 h4];rfl));have bN:(r==127)=false:=aE.2 h4;clear hr1 h4 K af;exact ku
   |rw[hr] at bh bI K af;rw[hn] at bh hw a7 ah b0 af;clear hr hn;by_cases h3:r<32
    ·have HG:=hid (K (.inl h3));have b4:decide (r<32)=true:=aO h3;have HF:Hid (R=false):=hid (by rw[<-HR.out,HG.out,Bool.false_and]);clear K af;go_wp2_with fail;go_ret;exact⟨by rw[HF.out];rfl,ah.out⟩
    ·have b4:decide (r<32)=false:=aG h3;by_cases h4:r=127
     ·have HG:=hid (K (.inr h4));have bN:(r==127)=true:=beq_iff_eq.2 h4;have HF:Hid (R=false):=hid (by rw[<-HR.out,HG.out,Bool.false_and]);clear K af h4;go_wp2_with fail;go_ret;exact⟨by rw[HF.out];rfl,ah.out⟩
     ·have HG:=hid (af a_);have bN:(r==127)=false:=aE.2 h4;clear h4 K af;exact ku
  ·have bh: ∀ty,(Instr.next (.pointer (some ⟨w.heap.size,0,none⟩)) true ty).run Tryz.prog wr= .ok (.tuple #[false]) wr:=λty=>Lib.run_next_end_at wr _ (bs l) p ty HI.out a_;have HG:=hid (HB.out.fin a_)
   first
   |have:=zl;go_wp2_with fail;go_ret2;exact⟨Ac (HR.out.symm.trans (Ks (by rw[HG.out];omega))),HW.out⟩
   |have HF:Hid (validD l=R):=hid (by rw[<-HR.out,HG.out,Bool.true_and]);have C:=Wf (bs l) wr a_ (HV.out.keep HW.out).1.1;rw[La,aQ,HF.out] at C;obtain⟨N,hN⟩:=exQ<|(kQ (bs l)).1;rw[hN] at C;have HC:=hid C;clear C hN;go_wp2_with fail;refine HC.out.mono ?_;rintro e w1 ⟨rfl,o⟩;have G:=hid (aC HW.out o);clear o;exact gr):P:=h
theorem sh(h:P:=by
 have sl:=aM t;cases t with
 | nil=>
  first|have:=v8;have e0:((bs ([]:aA)).toList== [])=true:=pR [];have cB:(bs ([]:aA)).toList.isEmpty=true:=nZ [];unfold jM mG;go_enter Tryz.func48,Tryz.ntmps48|have C2:=hid (Fm [] w b_);have ap:nD []=false:=rfl;rw[ap] at C2;unfold jM mG;clear hR;go_enter Tryz.func33,Tryz.ntmps33;go_wp2_with fail;refine C2.out.mono ?_;rintro e w1 ⟨rfl,o⟩;have G:=hid o;clear o
  go_wp2_with fail;go_ret2;first|have:=v8;exact ab|exact⟨rfl,G.out⟩
 | cons c r=>
  first|have:=v8;have C1:=hid (Lh (c::r) c r rfl w hs hV);have C2:=hid (Lb (c::r) w hs hV.1)|have C1:=hid (hR w (aB _ _));have C2:=hid (Fm (c::r) w a_)
  have bc:=oA c 34;have a5:=oA c 39;first|have:=v8;unfold jM mG at *;simp only[]|have b5:=aAJ (c::r);have cj:jM (c::r)=if c=34\/c=39 then iT (c::r) else if nD (c::r) then(c::r,0) else([],2):=rfl;rw[cj]
  obtain⟨t,ht⟩:=exQ<|c::r
  first|have:=AI;have a6:t.head?=some c:=by rw[<-ht];rfl|skip
  have aJ:0<t.length:=by rw[<-ht];simp
  have cO:(bs t)[0]'(by rw[aM];exact aJ)=c:=by
   subst ht;rfl
  first
  |have:=v8;have hne:t≠ []:=by rw[<-ht];simp
   have e0:((bs t).toList== [])=false:=by rw[pR];cases t<;>simp at hne ⊢
   have cB:(bs t).toList.isEmpty=false:=by rw[nZ];cases t<;>simp at hne ⊢
   rw[ht] at hs sl C1 C2 ⊢;obtain⟨⟨S,er⟩,hS⟩:=exQ<|iT t;rw[hS] at C1;rw[hS]
  |have dl:decide ((0:Int)<(t.length:Int))=true:=aO a_;rw[ht] at hs sl C1 C2 b5 ⊢
  obtain⟨B,hB⟩:=exQ<|nD t;rw[hB] at C2;rw[hB]
  first
  |have:=v8;clear hS ht hV hB hne;by_cases h34:c=34
   ·have bF:((c.toNat:Int)==34)=true:=by rw[h34];rfl
    rw[if_pos (.inl h34)];clear h34 bc a5;go_enter Tryz.func48,Tryz.ntmps48;exact ed
   have bF:((c.toNat:Int)==34)=false:=aE.2 (λe=>h34 (UInt8.toNat_inj.1 EZ));by_cases h39:c=39
   ·have bm:((c.toNat:Int)==39)=true:=by rw[h39];rfl
    rw[if_pos (.inr h39)];clear h34 h39 bc a5;go_enter Tryz.func48,Tryz.ntmps48;exact ed
   have bm:((c.toNat:Int)==39)=false:=aE.2 (λe=>h39 (UInt8.toNat_inj.1 EZ));rw[if_neg (by simp[h34,h39])];clear h34 h39 bc a5
  |clear ht hB cj hR;by_cases V:c=34\/c=39
   ·rw[if_pos V];obtain⟨h1,h2⟩:=b5 (by rw[a6];rcases V with rfl|rfl;exact .inl rfl;exact .inr rfl);obtain⟨⟨S,er⟩,hS⟩:=exQ<|iT t;obtain⟨⟨T,er2⟩,hT⟩:=exQ<|iB t;rw[hS,hT] at h1 h2;rw[hT] at C1;rw[hS];simp only[] at h1 h2 C1;subst h2;unfold mG;have bg:((c.toNat:Int)==34)=true\/(((c.toNat:Int)==34)=false/\((c.toNat:Int)==39)=true):=by
     rcases V with rfl|rfl
     ·exact .inl rfl
     ·exact .inr ⟨rfl,rfl⟩
    clear hS hT V bc a5 C2 a6;rcases bg with bF | ⟨bF,bm⟩
    all_goals
     go_enter Tryz.func33,Tryz.ntmps33;go_wp2_with fail;refine C1.out.mono ?_;rintro e w2 ⟨⟨kv,iv,rfl,cb⟩,J⟩;obtain⟨pk,ck,px,cx,rfl,rfl⟩:=cb.form;have aq:=hid (aC J (aL w2 (.cells #[T.kind,bs T.text, .slice pk T.keys.length ck, .slice px T.items.length cx] 36)));rw[h1] at aq;unfold vv;rw[h1];clear cb J;go_wp2_with fail;go_ret2;exact⟨rfl,aq.out⟩
   have bF:((c.toNat:Int)==34)=false:=by rw[show (34:Int)=((34:UInt8).toNat:Int) from rfl,bc];exact aE.2 (λe=>V (.inl e))
   have bm:((c.toNat:Int)==39)=false:=by rw[show (39:Int)=((39:UInt8).toNat:Int) from rfl,a5];exact aE.2 (λe=>V (.inr e))
   rw[if_neg V];unfold mG;clear V bc a5 C1 b5 a6
  cases B with
  | true=>
   rw[if_pos rfl];exact ow
  | false=>
   rw[if_neg e_];exact ow):P:=h
theorem uy(h:P:=by
 obtain⟨R,m⟩:=exQ<|cV s.data.toList;rw[m];have l:=hid m;clear m
 first
 |have:=B6;go_enter Tryz.func96,Tryz.ntmps96;go_wp2_with fail;go_loopw [4] (λ_ wr=> ∃p:Nat,p<=s.size/\Hid (mY s p)/\Hid (wr.heap[w.heap.size]?=some (.stringIter s p))/\Hid (Below w.heap.size w wr)) (λ_ wr=>s.size-wr.iterPos w.heap.size)
  case atStart=>exact⟨0,a_,mY.zero s,World.iter_heap w s 0,(aB _ _).alloc (aD _) _⟩
 |go_enter Tryz.func163,Tryz.ntmps163;go_wp2_with fail;go_loopw [3] (λi wr=> ∃p:Nat,p<=s.size/\i= .int .i64 p/\Hid (mY s p)/\wr=w) (λi _=>s.size-(RowKit.intOf i).toNat)
  case atStart=>exact⟨0,a_,rfl,mY.zero s,rfl⟩
 case round=>
  first|have:=B6;obtain⟨p,u,k,g,o⟩:=hrel|obtain⟨p,u,rfl,k,rfl⟩:=hrel
  by_cases hlt:p<s.size
  ·first|have:=B6;have hw:=lH s p hlt;have hrb:=rO s p;have f: ∀ty,(Instr.next (.pointer (some ⟨w.heap.size,0,none⟩)) true ty).run Tryz.prog wr= .ok (.tuple #[true,p, .int .i32 (bL s p)]) (wr.iterAt w.heap.size s (p+bG s p)):=λty=>Lib.run_next_any_at wr _ s p ty g.out hlt;have b:=hid (Lib.iterAt_heap wr w.heap.size s p (p+bG s p) g.out);have c:=hid (Lib.below_iterAt o.out (aD w.heap.size) s (p+bG s p));have r:=hid (iterPos_of g.out)|have hlt':(p:Int)<(s.size:Int):=a_
   cases hd:dM (s[p]'hlt) with
   | true=>
    first|have:=B6;obtain⟨e1,e2⟩:=Jg s p hlt hd|skip
    have q:=hid (k.out.next hlt hd);have hb:=of_decide_eq_true hd;first|have:=B6;rw[e1,e2] at f;rw[e2] at b c;clear e1 e2 hd|clear hd
    go_wp2_with fail;go_roundw
    first
    |have:=B6;case rel=>exact⟨p+1,a_,q.out,b.out,c.out⟩
     case measure=>rw[iterPos_of b.out,r.out];omega
    |case rel=>exact⟨p+1,a_,by rw[show ((p:Int)+1)=((p+1:Nat):Int) by omega],q.out,by first | rfl | trivial⟩
     case measure=>simp[RowKit.intOf];omega
   | false=>
    first|have:=B6;have a:=Tc s p hlt hd|have a:(s[p]'hlt).toNat<48\/57<(s[p]'hlt).toNat:=by have h1:=of_decide_eq_false hd;omega
    have d:=hid (l.out.symm.trans (Jh hlt hd));clear hd;rcases a with a | a
    all_goals
     go_wp2_with fail;go_ret;first|have:=B6;exact⟨pL d.out.symm,c.out⟩|exact⟨pL d.out.symm,aB _ _⟩
  first
  |have:=B6
   ·have f: ∀ty,(Instr.next (.pointer (some ⟨w.heap.size,0,none⟩)) true ty).run Tryz.prog wr= .ok (.tuple #[false]) wr:=λty=>Lib.run_next_end_at wr _ s p ty g.out hlt;have d:=hid (l.out.symm.trans (k.out.fin a_));go_wp2_with fail;go_ret;exact⟨pL d.out.symm,o.out⟩
  |·have n:p=s.size:=a_
    subst n;have d:=hid (l.out.symm.trans (k.out.fin (aD _)));go_wp2_with fail;go_ret;refine⟨pL ?_,aB _ _⟩;rw[d.out,Lib.toList_data];have j:s.data.toList.length=s.size:=rfl;cases h:s.data.toList with
    | nil=>rw[h] at j;rw[<-j];rfl
    | cons x t=>rw[h] at j;rw[<-j];exact aO e_):P:=h
theorem qx(h:P:=by
 first
 |have:=yr;have q:(if V-(b.length:Int)+((D.length:Int)-((cN D).length:Int))< -1000000\/1000000<V-(b.length:Int)+((D.length:Int)-((cN D).length:Int)) then((cF,4):dU×Int) else(⟨n,cN D,V-(b.length:Int)+((D.length:Int)-((cN D).length:Int))⟩,0))=R:=ay.out;rw[show V-(b.length:Int)+((D.length:Int)-((cN D).length:Int))=V-(b.length:Int)+(D.length:Int)-((cN D).length:Int) from by omega] at q
 |have q:(if -V-(b.length:Int)+((D.length:Int)-((cN D).length:Int))< -1000000\/1000000< -V-(b.length:Int)+((D.length:Int)-((cN D).length:Int)) then((cF,4):dU×Int) else(⟨n,cN D, -V-(b.length:Int)+((D.length:Int)-((cN D).length:Int))⟩,0))=R:=ay.out;rw[show -V-(b.length:Int)+((D.length:Int)-((cN D).length:Int))= -V-(b.length:Int)+(D.length:Int)-((cN D).length:Int) from by omega] at q
 have aZ:=hid q;clear q;go_wp2_with (first | (go_at_call 29;go_must (refine(C2.out _).mono ?_);rintro e w' ⟨rfl,rfl⟩) | (go_at_call 99;go_must (refine(C3.out _).mono ?_);rintro e w' ⟨rfl,rfl⟩));refine(C4.out _ _).mono ?_;rw[aQ,ae.out j];rintro e w4 ⟨rfl,Q⟩;have q:=aZ.out;clear aZ ay ae C1 C2 C3 C4 g ao au aj an M;first|have:=yr;generalize V-(b.length:Int)+(D.length:Int)-((cN D).length:Int)=K at q Q ⊢|generalize -V-(b.length:Int)+(D.length:Int)-((cN D).length:Int)=K at q Q ⊢
 have HN:=hid ((Q.block wr.heap.size e_).trans (heap_alloc_new wr _));have aV:w.heap.size<wr.heap.size:=aF HO.out;have am:=hid ((Q.block w.heap.size h_).trans ((Below.heap_alloc _ _ _ aV).trans HO.out));have a7:=hid ((HW.out.alloc (Nat.le_of_lt aV) _).trans (Q.mono h_));clear Q r0 r1 r2 g0 g1 g2 x0 x1 x2 x3 x4 f0 f1 f2 f3 f4;obtain⟨r0,r1,r2,g0,g1,g2⟩:=iA am.out;obtain⟨m0,m1,m2,q0,q1,q2⟩:=iA HN.out;by_cases hk:K< -1000000\/1000000<K
 ·rw[if_pos hk] at q;have m:=hid q;clear q;rw[aG (λh=>h hk)];go_wp2_with fail;have P:=iA (bN (bN (bN am.out 0 (.bool false)) 1 (.string ⟨#[]⟩)) 2 (.int .i64 0));clear r0 r1 r2 g0 g1 g2;obtain⟨r0,r1,r2,g0,g1,g2⟩:=P;refine bodyPost_ret (v:= .tuple #[dV cF,(4:Int)]) ?_ rfl ⟨by rw[<-m.out];rfl,?_⟩
  ·exact gj
  ·exact ny
 ·rw[if_neg hk] at q;have m:=hid q;clear q;rw[aO hk];go_wp2_with fail;have P:=iA (bN (bN (bN am.out 0 (.bool n)) 1 (.string (bs (cN D)))) 2 (.int .i64 K));clear r0 r1 r2 g0 g1 g2;obtain⟨r0,r1,r2,g0,g1,g2⟩:=P;refine bodyPost_ret (v:= .tuple #[dV ⟨n,cN D,K⟩,(0:Int)]) ?_ rfl ⟨by rw[<-m.out];rfl,?_⟩
  ·exact gj
  ·exact ny):P:=h
theorem re(h:P:=by
 have sl:=aM l
 first
 |have:=ze;obtain⟨R,a⟩:=exQ<|gN l k c
 |obtain⟨R,a⟩:=exQ<|gN l k 58
 rw[a];unfold gN at a;by_cases hlt:k<l.length
 ·have b:k<(bs l).size:=a_
  have i:=Aj l k hlt b;first|have:=ze;have T1:=fU ((bs l)[k]'b) c _ rfl|have T1:=fU ((bs l)[k]'b) 58 58 rfl
  rw[bC hlt,<-i] at a;have d1:decide (k<l.length)=true:=aO hlt;first|have:=ze;obtain⟨n,p⟩: ∃n:Int,(c.toNat:Int)=n:=⟨_,rfl⟩;rw[p] at T1 ⊢|skip
  obtain⟨x,g⟩:=exQ<|(bs l)[k]'b;rw[g] at T1 a;have r:(((bs l)[k]'b).toNat:Int)=(x.toNat:Int):=by rw[g]
  obtain⟨y,m⟩: ∃y:Int,(x.toNat:Int)=y:=⟨_,rfl⟩;rw[m] at T1 r;first|have:=ze;by_cases he:x=c|by_cases he:x=58
  ·first|have:=ze;rw[show (x==c)=true from beq_iff_eq.2 he] at T1;rw[show (some x==some c)=true from by rw[he];exact beq_self_eq_true _,Bool.true_and] at a|rw[show (x==58)=true from beq_iff_eq.2 he] at T1;rw[show (some x==some 58)=true from by rw[he];exact beq_self_eq_true _,Bool.true_and] at a
   by_cases hl1:k+1=l.length
   ·have t2:((k:Int)+1==(l.length:Int))=true:=beq_iff_eq.2 a_;rw[List.getElem?_eq_none a_] at a;have f:R=true:=by rw[<-a];rfl
    subst f;first|have:=ze;clear a i he g m p hl1;go_enter Tryz.func179,Tryz.ntmps179|clear a i he g m hl1;go_enter Tryz.func101,Tryz.ntmps101
    exact aa
   ·have t2:((k:Int)+1==(l.length:Int))=false:=aE.2 a_;have o:k+1<l.length:=a_;have d:k+1<(bs l).size:=a_;have j:=Aj l (k+1) o d;have T2:=fU ((bs l)[k+1]'d) 32 32 rfl;rw[bC o,<-j] at a;have f:((bs l)[k+1]'d==32)=R:=by rw[<-a];simp
    rw[f] at T2;first|have:=ze;clear a i j he g m p hl1 f;go_enter Tryz.func179,Tryz.ntmps179|clear a i j he g m hl1 f;go_enter Tryz.func101,Tryz.ntmps101
    exact aa
  ·first|have:=ze;rw[show (x==c)=false from aE.2 he] at T1;rw[show (some x==some c)=false from aE.2 (λh=>he (aV h)),Bool.false_and] at a;subst a;clear i he g m p;go_enter Tryz.func179,Tryz.ntmps179|rw[show (x==58)=false from aE.2 he] at T1;rw[show (some x==some 58)=false from aE.2 (λh=>he (aV h)),Bool.false_and] at a;subst a;clear i he g m;go_enter Tryz.func101,Tryz.ntmps101
   exact aa
 ·have d1:decide (k<l.length)=false:=aG hlt;rw[List.getElem?_eq_none a_] at a;have q:R=false:=by rw[<-a];rfl
  subst q;clear a;first|have:=ze;go_enter Tryz.func179,Tryz.ntmps179|go_enter Tryz.func101,Tryz.ntmps101
  exact aa):P:=h
theorem qq(h:P:=by
 subst hn;refine Il hm (λL a w=>(a.defers=a0.defers/\a.tmps.size=a0.tmps.size/\ ∀k,k ∉ K->a.tmps.getD k undef=a0.tmps.getD k undef)/\F (λi=>L.getD i false) (λk=>a.tmps.getD k undef) w) ⟨⟨rfl,rfl,λk _=>rfl⟩,?_⟩ ?_ ?_
 ·have:(λi=>(Array.replicate ops.size false).getD i false)=λ_=>false:=by
   funext i;rw[aI,Array.getElem?_replicate];split<;>rfl
  rw[this];exact h0
 ·intro L a w i o u m g b D R H;obtain⟨⟨C,f,s⟩,y⟩:=D;have p:i<L.size:=by rw[u];exact(lI.1 m).1
  first
  |have _:=ym;have M:Region.wanted o (yielded ops a.tmps)=true:=by simp[Region.wanted,(Cw hback m).2]
   rw[if_pos M]
  |skip
  refine hs (λi=>L.getD i false) a w i o m ?_ b s y R λx w' I=>H _ _ ⟨⟨?_,?_,λk A=>?_⟩,?_⟩
  ·rw[aI,Array.getElem?_eq_getElem p] at g ⊢;simpa using g
  ·unfold Act.put;cases o.dst<;>exact C
  ·unfold Act.put;cases o.dst
   ·exact f
   ·rw[Array.size_setIfInBounds];exact f
  ·rw[<-s k A];have J:=congrFun (zK a o.dst x (λt r=>by rw[f];exact(vO hdst m t r).2)) k;have e: ∀t,o.dst=t->cB (λk=>a.tmps.getD k undef) t x k=a.tmps.getD k undef:=λt r=>by
    cases t with
    | none=>rfl
    | some t=>exact if_neg (λh=>A (by rw[h];exact(vO hdst m t r).1))
   exact J.trans (e _ rfl)
  ·rw[In L i p,zK a o.dst x (λt r=>by rw[f];exact(vO hdst m t r).2)];exact I
 ·intro L a w u D E;obtain⟨⟨C,f,s⟩,y⟩:=D;first|have _:=ym;have b:=Si hback u E|have b:=Xz hback u E
  have q:(λi=>L.getD i false)=λi=>decide (i<ops.size):=by
   funext i;by_cases g:i<ops.size
   ·rw[b i g,aO g]
   ·rw[aG g,aI,Array.getElem?_eq_none a_];rfl
  rw[q] at y;have:=hd _ w y;have G:a= { a0 with tmps:=cS a0.tmps (λk=>a.tmps.getD k undef) K }:=by
   cases a with
   | mk tmps defers=>
    simp only at C f s ⊢;rw[C];congr 1;refine Array.ext_getElem? λj=>?_;by_cases hj:j<a0.tmps.size
    ·rw[Cx _ _ j hj];have c:tmps[j]?=some (tmps.getD j undef):=by rw[aI,Array.getElem?_eq_getElem a_];rfl
     split
     ·exact c
     ·rename_i A;rw[c,s j A,aI,Array.getElem?_eq_getElem hj];rfl
    ·rw[Array.getElem?_eq_none a_,Array.getElem?_eq_none (by rw[zJ];omega)]
  rw[G];exact this):P:=h
theorem uf(h:P:=by
 first
 |have:=BG;have b:=hw.ls.2 k hk;unfold jW fM
 |have b:=hw.ls.2 k a_;have q:k<sp.length:=by have:=hw.ls.1;omega
  obtain⟨r1,r2⟩:=Eu (s:=s) (aS st.lines k).ind q;unfold pE fM;obtain⟨c,f⟩:=exQ<|oC s sp (aS st.lines k).ind k;rw[f] at r1 r2 ⊢
 split
 ·rename_i a e h;split at h
  ·exact mo
  ·split at h
   ·exact mo
   ·cases h
 ·rename_i n s1 h;split at h
  ·cases h
  ·split at h
   ·cases h
   ·rename_i ht;injection h with p o;subst p o;simp only[]
    first
    |have:=BG;split
     ·exact⟨b.rst.1,by have:=b.rst;omega,l_⟩
     ·split
      ·exact⟨b.rst.1,by have:=b.rst;omega,b_⟩
      ·split
       ·exact⟨b.rst.1,by have:=b.rst;omega,b_⟩
       ·rename_i h3;have f:=Er st.nodes ⟨1,(aS st.lines k).ind,k,k+1,kf,kt,(aS st.lines k).rf,(aS st.lines k).rt,[]⟩ [];have hsz:=zA (iB (eQ s (aS st.lines k).rf (aS st.lines k).rt)).1;have l:=hw.tot;refine⟨rfl,⟨_,List.cons_ne_nil _ _,rfl⟩,⟨[],e_⟩,?_,?_,⟨hw.ls,?_⟩⟩
        ·simp only[f];omega
        ·simp only[f];exact hlk
        ·simp only[aT,dS];omega
    |have tk:=Lz hsp ((sp.drop (k+1)).take (c-(k+1))) st.lines hw.ls ⟨(sp.drop (k+1)).drop (c-(k+1)),by rw[<-hk,rR]⟩;have j:((sp.drop (k+1)).take (c-(k+1))).length=c-(k+1):=by rw[bT,aU];omega
     cases htk:nF s ((sp.drop (k+1)).take (c-(k+1))) st.lines with
     | inr a=>rw[htk] at tk;exact⟨tk.1,tk.2,b_⟩
     | inl ls=>
      rw[htk] at tk;simp only[] at tk ⊢;obtain⟨t1,t2,m,t3⟩:=tk;rw[j] at t2;have g:=Er st.nodes ⟨4,(aS st.lines k).ind,k,c,kf,kt,(aS st.lines k).rf,(aS st.lines k).rt,[]⟩ [];have l:=hw.tot;refine⟨rfl,⟨_,List.cons_ne_nil _ _,rfl⟩,⟨m,t3⟩,?_,?_,⟨t1,?_⟩⟩
      ·simp only[g];omega
      ·simp only[g];intro i p o;omega
      ·simp only[aT,dS];omega):P:=h
theorem vf(h:P:=by
 go_wp2_with fail;first|have:=DI;go_loopw [9] (λi wr=> ∃k:Nat,k<=(bs u).size/\i= .int .i64 k/\Hid (mE eV (bs u) k)/\w=wr) (λi _=>(bs u).size-(RowKit.intOf i).toNat)|go_loopw [9] (λi wr=> ∃k:Nat,k<=(bs m).size/\i= .int .i64 k/\Hid (mE gV (bs m) k)/\w=wr) (λi _=>(bs m).size-(RowKit.intOf i).toNat)
 case atStart=>exact⟨0,a_,rfl,rfl,rfl⟩
 case round=>
  obtain⟨k,d,rfl,P,rfl⟩:=hrel
  first
  |have:=DI;by_cases hlt:k<(bs u).size
   ·cases hp:eV ((bs u)[k]'hlt) with
    | true=>
     have J:=hid (Bl P.out (.inr ⟨hlt,hp⟩));have T1:=vH ((bs u)[k]'hlt) 101 101 rfl;have T2:=vH ((bs u)[k]'hlt) 69 69 rfl;unfold eV at hp;by_cases A:(((bs u)[k]'hlt)==101)=true
     ·rw[A] at T1;clear hp A T2;exact du
     ·rw[Bool.not_eq_true] at A;rw[A,Bool.false_or] at hp;rw[A] at T1;rw[hp] at T2;clear hp A;exact du
    | false=>
     have HN:=hid (P.out.next hlt hp);have T1:=vH ((bs u)[k]'hlt) 101 101 rfl;have T2:=vH ((bs u)[k]'hlt) 69 69 rfl;unfold eV at hp;rw[Bool.or_eq_false_iff] at hp;rw[hp.1] at T1;rw[hp.2] at T2;exact kh
  |by_cases hlt:k<(bs m).size
   ·have T1:=vH ((bs m)[k]'hlt) 46 46 rfl;cases hp:gV ((bs m)[k]'hlt) with
    | true=>
     have J:=hid (Bl P.out (.inr ⟨hlt,hp⟩));unfold gV at hp;rw[hp] at T1;clear hp;exact du
    | false=>
     have HN:=hid (P.out.next hlt hp);unfold gV at hp;rw[hp] at T1;exact kh
  ·have J:=hid (Bl P.out (.inl a_));exact du):P:=h
theorem iw(h:P:=by
 go_wp2_with fail;refine(CO.out _).mono ?_;rintro e w3 ⟨rfl,D⟩;have y:=hid (aC m.out D);clear D;have j:=hid (iJ (t:=jC S) z.out C.out n.out (kY _ _ _ _) y.out o.out);obtain⟨r0,r1,r2,r3,f0,f1,f2,f3⟩:=bJ ((y.out.block R n.out).trans o.out);go_wp2_with fail;obtain⟨WF,d⟩:=exQ<|bB w3 R 4 S (.slice none 0 0) (.slice none 0 0);have g:fX w.heap.size (bB w3 R 4 S (.slice none 0 0) (.slice none 0 0)) (jC S).depth (jC S) (.slice none 0 0) (.slice none 0 0)/\Below w.heap.size w (bB w3 R 4 S (.slice none 0 0) (.slice none 0 0))/\(bB w3 R 4 S (.slice none 0 0) (.slice none 0 0)).heap[R]?=some (.cells #[(4:Int),bs S,(.slice none 0 0),(.slice none 0 0)] 36):=j.out;rw[d] at g;have b:=hid g;have f:(((w3.setCell ⟨R,0,none⟩ (.int .i64 4)).setCell ⟨R,1,none⟩ (.string (bs S))).setCell ⟨R,2,none⟩ (.slice none 0 0)).setCell ⟨R,3,none⟩ (.slice none 0 0)=WF:=d
 first
   | rw[f]
   | (have i:(((w3.setCell ⟨R,0,none⟩ (.int .i64 4)).setCell ⟨R,1,none⟩ (.string ⟨#[]⟩)).setCell ⟨R,2,none⟩ (.slice none 0 0)).setCell ⟨R,3,none⟩ (.slice none 0 0)=WF:=d
      rw[i])
 clear d f g r0 r1 r2 r3 f0 f1 f2 f3 j;obtain⟨d0,d1,d2,d3,_⟩:=bJ b.out.2.2;refine bodyPost_ret (v:= .tuple #[.agg #[(4:Int),bs S,(.slice none 0 0),(.slice none 0 0)],(0:Int)]) ?_ rfl ⟨⟨_,_,rfl,b.out.1⟩,b.out.2.1⟩;exact eu):P:=h
theorem rz(h:P:=by
 first|have:=AA;have g:Hid (bK u=(9,nn,0)):=hid (by have h:=d.out;rw[if_pos hz] at h;exact h);subst hz|have g:Hid (bK u=(0,0,pe)):=hid (by have h:=d.out;rw[if_neg hz] at h;exact h);have hzb:(pe==0)=false:=aE.2 hz;have V:=hid hz;clear hz
 clear d;go_enter Tryz.func166,Tryz.ntmps166;go_wp2_with fail;refine wp_loop_rounds 7 ?_;rw[rounds_succ];go_wp2_with fail
 ·next h=>exact(q0 (eq_of_beq h)).elim
 rw[rounds_succ];go_wp2_with fail
 ·next h=>exact(q1 (eq_of_beq h)).elim
 rw[rounds_succ];go_wp2_with fail
 ·next h=>exact(q2 (eq_of_beq h)).elim
 rw[rounds_succ];go_wp2_with fail
 ·next h=>exact(q3 (eq_of_beq h)).elim
 rw[rounds_succ];go_wp2_with fail
 ·next h=>exact(q4 (eq_of_beq h)).elim
 rw[rounds_succ];go_wp2_with fail
 ·next h=>exact(q5 (eq_of_beq h)).elim
 rw[rounds_succ];go_wp2_with (first | (go_at_call 196;(first | (with_reducible refine(A1.out _).mono ?_) | (with_reducible refine(A2.out _).mono ?_));rintro e w' ⟨rfl,rfl⟩) | (go_at_call 197;(with_reducible refine(R2.out _).mono ?_);rintro e w' ⟨rfl,rfl⟩) | (go_at_call 88;(rw[e1]);(with_reducible refine(CP.out _).mono ?_);rintro e w' ⟨rfl,X⟩));go_ret3;first|have:=AA;exact⟨lZ g.out (λ_=>rfl) (λh=>absurd rfl h) a_,aC l_ (aL _ _)⟩|exact⟨lZ g.out (λB=>absurd B V.out) (λ_=>by rw[if_neg S.out]) a_,aC l_ (aL _ _)⟩):P:=h
theorem r7(h:P:=by
 rw[hD] at C5;first|have:=AG;have HD:=hid hD;clear hD|have C:=hid (X.out (eW x) rfl rfl hD);clear hD
 go_wp2_with (first | (go_at_call 136;go_must (refine(C3.out _).mono ?_);rintro e w' ⟨rfl,rfl⟩) | (go_at_call 138;go_must (refine(C4.out _).mono ?_);rintro e w' ⟨rfl,rfl⟩));refine(C5.out _).mono ?_;rintro e w2 ⟨rfl,a⟩;have d:Hid (w2.heap[w.heap.size]?=some (.cells #[ng,false, .string ⟨#[]⟩, .string ⟨#[]⟩, .string ⟨#[]⟩] 139 (0,0))):=(a.block w.heap.size (by simp[World.setCell];exact E)).trans (bN i.out 1 _);have k:=hid ((Q.out.setCell (p:=⟨w.heap.size,1,none⟩) (aD _) (.bool false)).trans (a.mono DO))
 first
 |have:=AG;clear a;go_wp2_with fail;go_meet;exact⟨false,eW x,rfl,⟨λ_=>HD.out,rfl,by rw[f.out];rfl⟩,d.out,k.out⟩
 |clear a a0 a1 a2 a3 a4 f0 f1 f2 f3 f4;obtain⟨a0,a1,a2,a3,a4,f0,f1,f2,f3,f4⟩:=sH d.out;go_wp2_with fail;refine bodyPost_ret (v:= .tuple #[.agg #[ng,false, .string ⟨#[]⟩, .string ⟨#[]⟩, .string ⟨#[]⟩],false]) ?_ rfl ⟨⟨ng,false,[],[],[],false,rfl,?_⟩,?_⟩
  ·exact bz
  ·exact C.out
  ·exact fu):P:=h
theorem tv(h:P:=by
 first|have:=A6;rw[if_pos h3] at ng;subst ng h3|have:=A7;rw[if_neg h3] at ng;subst ng;have d3:((first:Int)==0)=false:=aE.2 a_;have d3n:(first==0)=false:=aE.2 h3;clear h3|rw[if_pos iE] at hg;rw[aO iE] at CB;have cE:=hid hg;clear iE hg fw
 go_wp2_with fail;refine(CT.out _ f_).mono ?_;rintro e w2 ⟨rfl,bp⟩;have a9:=hid bp;clear bp;go_wp2_with fail;refine(CB.out _ a9.out).mono ?_;rintro e w3 ⟨rfl,bI⟩
 first
 |first|have:=A6|have:=A7
  have ie:=aC a9.out bI;obtain⟨c2,b3⟩:=v9.out w3 ie;have bf:=hid (aC HB.out ie);clear bI ie
 |have bf:=hid (aC HB.out (aC a9.out bI));clear bI
 go_wp2_with fail;go_roundw
 first
 |have:=A6
  ·exact⟨i1,nb,i1,by first | rfl | rw[<-br],rfl,by first | rfl | rw[<-br],eo,cE,bf⟩
 |have:=A7
  ·exact⟨i1,first,i1,by first | rfl | rw[<-br],rfl,by first | rfl | rw[<-br],eo,cE,bf⟩
 |·exact⟨til,first,i1,rfl,rfl,by first | rfl | rw[<-br],eo,cE,bf⟩
 ·exact aq):P:=h
theorem sj(h:P:=by
 first|have:=vz;unfold dO|unfold yN
 by_cases h12:k=12
 ·subst h12;exact ce
 have d12:((k:Int)==12)=false:=aE.2 a_;rw[if_neg h12];by_cases h10:k=10
 ·subst h10;exact ce
 have d10:((k:Int)==10)=false:=aE.2 a_;by_cases h11:k=11
 ·subst h11;exact ce
 have d11:((k:Int)==11)=false:=aE.2 a_;rw[if_neg a_];by_cases h9:k=9
 ·subst h9;exact ce
 have d9:((k:Int)==9)=false:=aE.2 a_;rw[if_neg h9];by_cases h8:k=8
 ·subst h8;exact ce
 have d8:((k:Int)==8)=false:=aE.2 a_;rw[if_neg h8]
 first
 |have:=vz;by_cases h4:k=4
  ·subst h4;go_enter Tryz.func186,Tryz.ntmps186;exact aa
  have d4:((k:Int)==4)=false:=aE.2 a_;rw[if_neg h4];by_cases h2:k=2
  ·subst h2;go_enter Tryz.func186,Tryz.ntmps186;exact aa
  have d2:((k:Int)==2)=false:=aE.2 a_;rw[if_neg h2];clear h12 h10 h11 h9 h8 h4 h2;go_enter Tryz.func186,Tryz.ntmps186
 |clear h12 h10 h11 h9 h8;go_enter Tryz.func167,Tryz.ntmps167
 exact aa):P:=h
theorem um(h:P:=by
 obtain⟨rv,r,q,i,o⟩:=h;first|have:=BO;have c:=i.kids y (bD hy)|have c:=i.pcs y (bD hy)
 obtain⟨a1,a2⟩:=vR r q hg (λk m=>by obtain⟨f,p⟩:=kO c k m;exact⟨f,_,p,b_,b_⟩);have b:=i.row.kept hg (gI i.row c b_);obtain⟨f,a⟩:=kO b g rfl;first|have:=BO;obtain⟨b1,b2⟩:=vR a1 a2 (cT w1 g (n*7+5) kv) (λk m=>by have e:g=k:=aV m;subst e;exact⟨f,_,a,b_,b_⟩)|obtain⟨b1,b2⟩:=vR a1 a2 (cT w1 g (n*7+6) kv) (λk m=>by have e:g=k:=aV m;subst e;exact⟨f,_,a,b_,b_⟩)
 have j:B<=g:=(World.ownsRow.lt b g rfl).1;first|have:=BO;refine⟨⟨rv,?_,b2,i.kid hy hH hr hg hat,o⟩,(Fr.grown c b_ hg hB).trans (Fr.setM a b_ j)⟩|refine⟨⟨rv,?_,b2,i.pc hy hH hr hg hat,o⟩,(Fr.grown c b_ hg hB).trans (Fr.setM a b_ j)⟩
 rw[List.length_set];exact b1):P:=h
theorem vd(h:P:=by
 obtain⟨i0,b,p,f,m⟩:=info_parts Tryz.infoInt
 first
 |have:=DG;refine wpList_append_lies _ hgd s x 43 ho B 3 i0 _ 1 8 Tryz.underlying43 b p f m rfl b_ v _ (dJ l) hs (World.ownsRow.alloc hown _) ⟨w.heap.size,0,none⟩ 1 1 [k] hx DU (sF w #[k] _)
   (λu hu=>by rw[mX.1 hu];rfl) b_ o_ a_ h_ _ rfl ?_
 |refine step_append_lies _ hgd s x 43 ho B 3 i0 _ 1 8 Tryz.underlying43 b p f m rfl b_ v _ (dJ l) hs (World.ownsRow.alloc hown _) ⟨w.heap.size,0,none⟩ 1 1 [k] hx DU (sF w #[k] _)
   (λu hu=>by rw[mX.1 hu];rfl) b_ o_ a_ h_ _ rfl ?_
 intro g cap w' y A r _;refine hK _ w' y (tZ A) ?_;exact fp):P:=h
theorem tj(h:P:=by
 first|have:=AY;have f:=av.out;rw[if_pos t2] at f|have:=AZ;have f:=ar.out;rw[if_pos j] at f|skip
 first
 |first|have:=AY|have:=AZ
  have m:=hid f;clear f
 |skip
 first|have:=AZ;rw[j] at I|skip
 go_wp2_with fail;have P:=iA (bN (bN (bN C.out 0 (.bool false)) 1 (.string ⟨#[]⟩)) 2 (.int .i64 0));clear r0 r1 r2 g0 g1 g2;obtain⟨r0,r1,r2,g0,g1,g2⟩:=P
 first
 |first|have:=AY|have:=A3
  refine bodyPost_ret (v:= .tuple #[dV cF,(4:Int)]) ?_ rfl ⟨by rw[<-m.out];rfl,?_⟩
 |refine bodyPost_ret (v:= .tuple #[dV cF,(0:Int)]) ?_ rfl ⟨by rw[<-m.out];rfl,?_⟩
 ·exact gm
 ·exact dt):P:=h
theorem r8(h:P:=by
 have sl:=aM l;first|have:=vo;have C:=Hn l 0 w hs a_ hV hT|have C:=Ky l 0 w hs a_
 have a:dR l=if(bV l 0).2.2=0/\(bV l 0).2.1<l.length then([],(bV l 0).2.1,2) else bV l 0:=rfl;obtain⟨R,b⟩:=exQ<|bV l 0;obtain⟨s,k,er⟩:=R;rw[show ((0:Nat):Int)=0 from rfl,b] at C;rw[b] at a;simp only[] at a;have d:=hid C
 first|have:=vo;clear C b hV hT|clear C b
 by_cases h1:er=0
 ·subst h1;by_cases h2:k<l.length
  ·rw[a,if_pos ⟨rfl,h2⟩];clear a;exact ey
  ·rw[a,if_neg (λh=>h2 h.2)];clear a;exact ey
 ·rw[a,if_neg (λh=>h1 h.1)];have t1:(er==0)=false:=aE.2 h1;clear a h1;exact ey):P:=h
theorem i8(h:P:=by
 clear q4 hx t5;go_wp2_with fail;(with_reducible refine(CD.out _ (HT.out.keep HW.out)).mono ?_);rintro e w1 ⟨rfl,o⟩;have au:=hid (a9.out.keep o);have ak:=hid (aC HW.out o);clear o;go_wp2_with fail;refine(yS w.heap.size w.heap.size v rn _ au.out ⟨cJ,cQ⟩ a_ ak.out.size).mono ?_;rintro e w2 ⟨rfl,h2,b2,_⟩;have aN:=hid h2;have ah:=hid (ak.out.trans b2);clear h2 b2;go_wp2_with fail;go_roundw
 case rel=>exact⟨i+wd,g,v++encodeRune rn,q_,a_,by rw[aT];omega,a_,ag.out,aN.out,ah.out⟩
 case measure=>simp[RowKit.intOf];omega):P:=h
theorem uo(h:P:=by
 first|have:=BP;have m:=hid (H0.out rfl)|rw[if_pos t1] at f;have m:=hid f;clear f q1 q2 q3 p1 p2 p3
 go_wp2_with fail;have P:=iA (bN (bN (bN C.out 0 (.bool false)) 1 (.string ⟨#[]⟩)) 2 (.int .i64 0));clear r0 r1 r2 g0 g1 g2;obtain⟨r0,r1,r2,g0,g1,g2⟩:=P;first|have:=BP;refine bodyPost_ret (v:= .tuple #[dV cF,(2:Int)]) ?_ rfl ⟨by rw[m.out];rfl,?_⟩|refine bodyPost_ret (v:= .tuple #[dV cF,(3:Int)]) ?_ rfl ⟨by rw[m.out];rfl,?_⟩
 ·exact gm
 ·exact dt):P:=h
theorem ux(h:P:=by
 first|have:=B5;have ar:((q:Int)==0)=false:=aE.2 (λe=>hbq ⟨.inl (by rw[hc34] at j;exact beq_iff_eq.1 j.symm),a_⟩);subst hc34|have ar:((q:Int)==0)=false:=aE.2 (λe=>hbq ⟨.inr (by rw[hc39] at i;exact beq_iff_eq.1 i.symm),a_⟩);subst hc39
 clear hbq j i B;go_wp2_with fail;(with_reducible refine(CQ.out _ (HV.out.keep d.out.1.b) (HT.out.keep d.out.1.b)).mono ?_);rintro e w3 ⟨rfl,L⟩;go_wp2_with fail;go_meet;exact⟨rfl,d.out.1.keep L,d.out.2.keep L⟩):P:=h
theorem tr(h:P:=by
 obtain⟨rv,z,nv,b,a,_⟩:=h;obtain⟨c0,c1,c2,c3,c4,c5,c6,_⟩:=b.cells;first|have:=A4;have sl:=aM txt|skip
 cases rest with
 | nil=>
  obtain⟨p,c,rfl⟩:=a.empty;exact o9
 | cons t r=>
  obtain⟨g,o,c,rfl,hc,k0,k1,k2,_⟩:=a.head;have d0:(((r.length:Int)+1)==0)=false:=aE.2 a_;have d1:(((r.length+1:Nat):Int)==0)=false:=aE.2 a_;exact o9):P:=h
theorem jf(h:P:=by
 first|have:=vt;go_enter Tryz.func144,Tryz.ntmps144;go_wp2_with fail;with_reducible refine(CE.out _ HV.out HT.out).mono ?_|go_enter Tryz.func65,Tryz.ntmps65;go_wp2_with fail;with_reducible refine(CE.out _).mono ?_
 rintro e w1 ⟨rfl,o⟩;go_wp2_with fail;go_ret;exact⟨rfl,o⟩):P:=h
theorem jd(h:P:=by
 clear d f g r0 r1 r2 r3 f0 f1 f2 f3 j;obtain⟨d0,d1,d2,d3,_⟩:=bJ b.out.2.2;refine bodyPost_ret (v:= .tuple #[.agg #[rk,bs rs,(.slice none 0 0),(.slice none 0 0)],(0:Int)]) ?_ rfl ⟨⟨_,_,rfl,b.out.1⟩,b.out.2.1⟩;exact gy):P:=h
theorem jc(h:P:=by
 have sm:=F.gg 0 47 c_;have c48:=F.gg 1 48 c_;have yN:=F.gg 2 49 c_;have c52:=F.gg 5 52 c_;have ab:=F.at2 (j:=0) rfl hi (.inl rfl);have hA:Below W9.heap.size W9 w':=ab;go_simp;go_at_call 77;refine(CA.out _ (ee.out.keep hA)).mono ?_;exact oz):P:=h
theorem jk(h:P:=by
 intro j yj b;by_cases h2:j<z.length
 ·rw[qO h2] at b;exact .inl b
 ·have k:=(aR.1 b).1;rw[aT,dS] at k;rw[kT a_,show j-z.length=0 by omega] at b;simp only[cR,cG] at b;exact .inr ⟨a_,b.symm⟩):P:=h
theorem jo(h:P:=by
 cases R with
 | ok rr l ns=>exact⟨true,h.1,⟨rfl,h.2.1,hl _ _ _ rfl⟩,h.2.2⟩
 | bad a er=>
  refine⟨false,h.1,⟨rfl,?_⟩,h.2.2⟩;have:=h.2.1;rw[hn] at this;exact this):P:=h
theorem ju(h:P:=by
 obtain⟨q,hq,b,c⟩:=h.ph;by_cases hlt:q<eff.length
 ·have:=(b q _ (bC hlt)).1 (hd _ (List.getElem_mem hlt));omega
 ·obtain rfl:q=eff.length:=a_
  exact c):P:=h
theorem jv(h:P:=by
 rcases rT.1 b with b | b
 ·exact(h.kids y b).kept hg (gI (h.kids y b) h.row b_)
 ·rw[mX.1 b];simp only[];rw[hk];exact⟨rfl, .inl ⟨rfl,rfl⟩⟩):P:=h
theorem fd(h:P:=by
 exact(((h.setCell (p:=⟨X,0,none⟩) hX _).setCell (p:=⟨X,1,none⟩) hX _).setCell (p:=⟨X,2,none⟩) hX _).setCell (p:=⟨X,3,none⟩) hX _):P:=h
theorem jz(h:P:=by
 rcases h.row.2 with⟨_,b⟩ | ⟨g,cap,cur,b,c,e,f,_⟩
 ·exact absurd (List.length_eq_zero_iff.1 b) hz
 ·exact⟨g,cap,cur,b,f,c,e⟩):P:=h
theorem jp(h:P:=by
 go_enter Tryz.func60,Tryz.ntmps60;go_wp2_with fail;refine CC.out.mono ?_;rintro e w2 ⟨rfl,g⟩;have G:=hid g;clear g CC;exact eh):P:=h
theorem kl(h:P:=by
 refine⟨x,by rw[e1,mU,kT (aD _),Nat.sub_self];rfl,?_,?_⟩<;>
 ·have:=congrArg List.length e1;simp only[aT,bH] at this;omega):P:=h
theorem kh(h:P:=by
 clear hp;go_wp2_with fail;go_roundw
 case rel=>exact⟨k+1,a_,q_,HN.out,trivial⟩
 case measure=>simp[RowKit.intOf];omega):P:=h
theorem js(h:P:=by
 have lz:=F.g 6 62 c_;have yw:=F.g 14 70 c_;have zZ:=F.g 16 72 c_;refine rE lz ?_;have dd:=sh;go_simp;exact G _ _ F.sp):P:=h
theorem j8(h:P:=by
 obtain⟨v,k,⟨z,nv,g,j,i⟩,f⟩:=h;subst g;obtain⟨p,c,a,b⟩:=zX.of i;rw[j] at a b;subst a;exact⟨p,c,k,b,f⟩):P:=h
theorem ox(h:P:=by
 go_enter Tryz.func209,Tryz.ntmps209;go_wp2_with fail;refine(CM.out _).mono ?_;rintro e w' ⟨rfl,rfl⟩;exact bo):P:=h
theorem df(h:P:=by
 first|have:=vr;simp[results,Tryz.results79,go_sem,d0,d1,d2,d3]|simp[results,Tryz.results56,go_sem,d0,d1,d2,d3]):P:=h
theorem k7(h:P:=by
 cases hA:fM x lv a st with
 | ok n s1=>rw[hA] at c;exact c
 | bad b er=>rw[hA] at c;exact⟨⟨_,c.1⟩,c.2⟩):P:=h
theorem lf(h:P:=by
 rintro e w1 ⟨rfl,o⟩;go_wp2_with fail;go_ret3;exact⟨by rw[<-HF.out];rfl,HW.out.trans (o.mono hz)⟩):P:=h
theorem k9(h:P:=by
 go_wp2_with fail;go_roundw
 case rel=>exact⟨i+1,a_,q_,F⟩
 case measure=>simp[RowKit.intOf];omega):P:=h
theorem lw(h:P:=by
 rcases bz.2 with⟨h0,_⟩ | ⟨g,cap,dL,h1,_⟩
 ·exact⟨none,0,0,h0⟩
 ·exact⟨_,_,_,h1⟩):P:=h
theorem kw(h:P:=by
 go_round
 case rel=>exact⟨k+1,g,q_,a_,a_,a_,ag.out⟩
 case measure=>simp[RowKit.intOf];omega):P:=h
theorem pb(h:P:=by
 go_enter Tryz.func220,Tryz.ntmps220;go_wp2_with fail;refine(C1.out _ HV.out).mono ?_;exact an):P:=h
theorem fo(h:P:=by
 subst c;go_enter Tryz.func142,Tryz.ntmps142;go_wp2_with fail;go_ret;exact⟨rfl,aL _ _⟩):P:=h
theorem fq(h:P:=by
 repeat' split
 all_goals first | rfl | (exfalso;omega) | (apply Prod.ext<;>simp<;>omega)):P:=h
theorem ly(h:P:=by
 clear A hn hc al Y O ay aW;go_wp2_with fail;go_ret3;exact⟨by rw[<-HF.out];rfl,rfl⟩):P:=h
theorem mr(h:P:=by
 rw[List.getLastD_eq_getLast?,List.getLast?_eq_some_getLast h];exact List.getLast_mem h):P:=h
theorem mi(h:P:=by
 go_wp2_with fail;go_ret2;exact⟨u.out,by first | exact m.out | exact m.out.drew⟩):P:=h
theorem mv(h:P:=by
 cases hc:d 19 with
 | false=>rfl
 | true=>have:=h.up2 hc;rw[h16] at this;cases this):P:=h
theorem mt(h:P:=by
 rw[aU] at this;have a:=(aR.1 h1).1;simp only[Int.toNat_zero] at this a ⊢;omega):P:=h
theorem bf(h:P:=by
 have:=this ⟨c.toNat,c.toNat_lt⟩;simpa only[UInt8.ofNat_toNat] using this):P:=h
theorem na(h:P:=by
 have h1:=ih x lN;have h2:=ihl (λy c=>ih y (List.mem_cons_of_mem _ c));omega):P:=h
theorem nr(h:P:=by
 exact⟨_,by first | exact hW | exact hid (hW.out.keep (aB _ _).drew)⟩):P:=h
theorem fv(h:P:=by
 go_wp2_with fail;go_ret;rw[<-bx.out];exact .inr ⟨sL.out,rfl,HF.out⟩):P:=h
theorem oe(h:P:=by
 rcases u with rfl|rfl
 · exact .inl rfl
 · exact .inr ⟨rfl,rfl⟩):P:=h
theorem np(h:P:=by
 obtain⟨Y,c,f,b⟩:=h;exact⟨Y,c,f,(hb.block Y (aF b)).trans b⟩):P:=h
theorem lr(h:P:=by
 unfold Lib.encodeRuneZ;rw[if_neg a_,if_neg a_,if_neg a_,if_pos a_]):P:=h
theorem fx(h:P:=by
 injection hb with hb;injection hb with _ hb;exact absurd hb b_):P:=h
theorem bi(h:P:=by
 go_wp2_with fail;go_ret;exact⟨by rw[<-q.out];rfl,g.out⟩):P:=h
theorem od(h:P:=by
 injection I with I;injection I with _ I;exact absurd I b_):P:=h
theorem gp(h:P:=by
 go_wp2_with fail;go_meet;exact⟨by rw[<-HF.out],rfl⟩):P:=h
theorem af(h:P:=by
 go_simp;exact G _ _ (F.pure b_ ad ha rfl b_ b_ b_ rfl)):P:=h
theorem p_(h:P:=by first | exact cB.out | exact cB.out.keep (aB _ _).drew):P:=h
theorem C_(h:P:=by first | exact da.out | exact da.out.keep (aB _ _).drew):P:=h
theorem DZ(h:P:=by first | exact aN.out | exact aN.out.keep (aB _ _).drew):P:=h
theorem D6(h:P:=by first | exact HJ.out | exact HJ.out.keep (aB _ _).drew):P:=h
theorem m_(h:P:=by rw[aY];exact cj.out 0 undef _ (by decide) (aB _ _)):P:=h
theorem eu(h:P:=by
 simp[results,Tryz.results31,go_sem,d0,d1,d2,d3]):P:=h
theorem bj(h:P:=by
 go_wp2_with fail;go_ret2;rw[<-bx.out];exact ao):P:=h
theorem dv(h:P:=by
 simp[results,Tryz.results211,go_sem,c0,c1,c2]):P:=h
theorem gr(h:P:=by
 go_wp2_with fail;go_ret;exact⟨rfl,G.out⟩):P:=h
theorem eh(h:P:=by
 go_wp2_with fail;go_ret;exact⟨rfl,G.out⟩):P:=h
theorem t_(h:P:=by first | exact db | exact aC (aB _ _).drew db):P:=h
theorem DS(h:P:=by first | exact bI | exact aC (aB _ _).drew bI):P:=h
theorem z_(h:P:=by have:s.data.toList.length=s.size:=rfl;omega):P:=h
theorem ES(h:P:=by rcases HQ with h | ⟨_,h⟩<;>rw[h]<;>rfl):P:=h
theorem EM(h:P:=by rw[<-a6,<-hX];exact heap_alloc_new W2 _):P:=h
theorem em(h:P:=by
 exact⟨by rw[<-HF.out];rfl,HW.out⟩):P:=h
theorem bo(h:P:=by
 go_wp2_with fail;go_ret2;exact ab):P:=h
theorem gy(h:P:=by
 first|have:=v7;exact it|exact eu):P:=h
theorem ao(h:P:=by
 exact⟨⟨_,rfl⟩,HF.out⟩):P:=h
theorem ae(h:P:=by
 injection h with h _;cases h):P:=h
theorem DO(h:P:=by simp[World.setCell];omega):P:=h
theorem EN(h:P:=by simp only[bH] at bL;omega):P:=h
theorem br(h:P:=by
 rw[e3,c] at a;cases a):P:=h
theorem A_(h:P:=by simp[Value.oneCell']):P:=h
theorem i_(h:P:=by rw[ai];exact aB _ _):P:=h
theorem DP(h:P:=by rw[aY];exact aB _ _):P:=h
theorem EQ(h:P:=by have:=hl.out;omega):P:=h
theorem EV(h:P:=by simp only[];omega):P:=h
theorem E4(h:P:=by simpa using h0):P:=h
theorem DQ(h:P:=by decide+kernel):P:=h
theorem EA(h:P:=by rw[aM];omega):P:=h
theorem l_(h:P:=by assumption):P:=h
theorem n_(h:P:=by simp[j]):P:=h
theorem a_(h:P:=by omega):P:=h
end Go.Proofs.YtfhjncbdgjlcoaaGreatDoor
