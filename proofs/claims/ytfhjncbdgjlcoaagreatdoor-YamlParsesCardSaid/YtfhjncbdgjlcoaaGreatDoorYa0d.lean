import Derived.Test.YtfhjncbdgjlcoaaGreatDoorYa0a
set_option maxRecDepth 100000
namespace Go.Proofs.YtfhjncbdgjlcoaaGreatDoor
variable{P:Prop}
theorem qr(h:P:=by
 first
 |have _:=yn;obtain⟨R1,aU⟩: ∃R1,(if t.kind=4 then gG txt (bI txt lv) 5 false nodes.length r (t.sf,t.st) (nodes++ [⟨dO t.kind,t.sf,t.st,key,[],[]⟩]) else
    if t.kind=2 then gG txt (bI txt lv) 3 true nodes.length r (t.sf,t.st) (nodes++ [⟨dO t.kind,t.sf,t.st,key,[],[]⟩]) else
    JR.ok r (t.sf,t.st) (nodes++ [⟨dO t.kind,t.sf,t.st,key,[],[]⟩]))=R1:=⟨_,rfl⟩
  have bq:bI txt (lv+1) (t::r) l nodes key=tO nodes.length R1:=by
   rw[<-aU];show (if dO t.kind=0 then _ else _)=_;rw[if_neg hk,if_neg hm]
  rw[bq]
 |intro w k l nodes key lev h hb hN hN4 hl;obtain⟨R,n⟩:=exQ<|bI txt lv (L.drop k) l nodes key;rw[n];have HR:=hid n;have de:=hid IH;have bS:=hid hTB;have dv:=hid hsg;have HB:=hid hb;have V:w0.heap.size<=w.heap.size:=hb.size;have cO:=h.qN;have co:=hid cO;obtain⟨bk,bi⟩:=h.ptr;obtain⟨q,I⟩:=exQ<|dI (L.drop k);have bQ:=hid I;have b0:=aL w (.cells #[key.1,key.2] 42);have ae:=heap_alloc_new w (.cells #[key.1,key.2] 42);obtain⟨K,cp⟩:=exQ<|w.heap.size;obtain⟨W1,db⟩:=exQ<|w.alloc (.cells #[key.1,key.2] 42);rw[db] at b0 ae;rw[cp] at ae;have bM:=hid (h.keep b0);have bX:=hid ae;have cf:=hid (Fr.of_below (P:=P) b0 V);have cE:w0.heap.size<=W1.heap.size:=aZ V cf.out.sz;have CK:Hid (∀w',Below W1.heap.size W1 w'->Calls Tryz.prog 168 #[some P] w' λe w2=>e= .returned (.int .i64 (q:Int))/\Below w'.heap.size w' w2):=hid (λw' dY=>by have:=vC _ P txt L k nodes w' (bM.out.keep dY) a_;rw[I] at this;exact this);have CS:=hid (λw'=>aCo q w');obtain⟨kd,ak⟩:=exQ<|dO q;have bG:=hid ak;obtain⟨sc,bU⟩:=exQ<|yN q;rw[bU] at CS;have ax:(if q=2 then 6 else if q=4 then 5 else sc)=kd:=by rw[<-bU,<-aCn,ak]
  have dg:=hid ax;clear hb cO I b0 ae h ak ax n hTB hsg bU IH;have bg:=hid hl;clear hl;go_enter Tryz.func131,Tryz.ntmps131;go_upto_region 1 with fail;clear db cp;go_wp2_with fail;refine(CK.out _ (aB _ _)).mono ?_;rintro e w2 ⟨rfl,cI⟩;have cc:=hid cI;clear cI;go_wp2_with fail;refine(CS.out _).mono ?_;rintro e w3 ⟨rfl,rfl⟩;go_wp2_with fail;refine(CK.out _ cc.out).mono ?_;rintro e w4 ⟨rfl,cy⟩;have cb:=hid (aC cc.out cy);clear cy;go_upto_if 15 with fail;obtain⟨k1,aa⟩:=exQ (if q=4 then 5 else sc);have bE:=hid aa;clear aa;go_cut [7] (λs7 wx=>s7= .int .i64 (k1:Int)/\w4=wx)
  case first=>
   have aa:=bE.out;by_cases D:q=4
   ·rw[if_pos D] at aa;subst aa;have d4:((q:Int)==4)=true:=by rw[D];rfl
    clear D;exact ah
   ·rw[if_neg D] at aa;subst aa;have d4:((q:Int)==4)=false:=by simp;omega
    clear D;exact ah
  obtain⟨rfl,rfl⟩:=hcut;go_wp2_with fail;refine(CK.out _ cb.out).mono ?_;rintro e w5 ⟨rfl,cQ⟩;have bT:=hid (aC cb.out cQ);clear cQ;go_upto_if 18 with fail;go_cut [7] (λs7 wx=>s7= .int .i64 (kd:Int)/\w5=wx)
  case first=>
   have ax:=dg.out;have aa:=bE.out;by_cases h2:q=2
   ·rw[if_pos h2] at ax;subst ax;have d2:((q:Int)==2)=true:=by rw[h2];rfl
    clear h2 aa;exact ah
   ·rw[if_neg h2,aa] at ax;subst ax;have d2:((q:Int)==2)=false:=by simp;omega
    clear h2 aa;exact ah
  obtain⟨rfl,rfl⟩:=hcut;obtain⟨z,nv,hz,ce⟩:=bM.out.keep bT.out;have bd:z.length=nodes.length:=E3
  have aX:=hid ce;have HZ:=hid hz;have bf:=hid (cf.out.trans (Fr.of_below (P:=P) bT.out cE));have aQ:=hid ((bT.out.block _ (aF bX.out)).trans bX.out);have CW:=hid (λer=>wR _ P txt L k z nv er w5 ce a_ a_);clear hz ce cc cb bE dg CS CK bM bX cf;have T:Hid (∀er w6,(∃c9,cH w6 P txt c9 k nv (cA txt.length (L.drop k)) er)->dC P w5 w6->R= .bad (cA txt.length (L.drop k)) er->qG w0.heap.size P txt L R w (.returned (.bool false)) w6):=hid (λer w6 O ho n=>by obtain⟨c9,O⟩:=O;rw[n];refine⟨rfl,(lF.of aX.out ho O).mono ?_,bf.out.trans (dC.fr ho bi (aZ V bf.out.sz))⟩;have h1:=co.out;omega);by_cases hA:kd=0
  ·have n:R= .bad (cA txt.length (L.drop k)) 2:=by
    rw[<-HR.out];have h0:dO (dI (L.drop k))=0:=(by rw[bQ.out,bG.out,hA]);cases lv with
    | zero=>exact if_pos h0
    | succ m=>exact if_pos h0
   have d0:((kd:Int)==0)=true:=by rw[hA];rfl
   have a5:=hid n;clear n hA;go_wp2_with fail;refine(CW.out 2).mono ?_;rintro e w6 ⟨rfl,O,ho⟩;have HE:=hid (T.out 2 w6 O ho a5.out);clear O ho;exact cd
  have d0:((kd:Int)==0)=false:=by simp;omega
  have av: ¬dO (dI (L.drop k))=0:=by rw[bQ.out,bG.out];exact hA
  by_cases hlv0:lv=0
  ·subst hlv0;have n:R= .bad (cA txt.length (L.drop k)) 5:=by
    rw[<-HR.out];exact if_neg av
   have dl:decide (32<lev)=true:=aO EH;have a5:=hid n;clear n hA av;go_wp2_with fail;refine(CW.out 5).mono ?_;rintro e w6 ⟨rfl,O,ho⟩;have HE:=hid (T.out 5 w6 O ho a5.out);clear O ho;exact cd
  obtain⟨m,rfl⟩: ∃m,lv=m+1:=⟨lv-1,a_⟩;have dl:decide (32<lev)=false:=aG EH;obtain⟨p3,ad,rfl⟩:=aX.out.at_.slice;have c3:=aX.out.c3;rw[bd] at c3;by_cases hM:nodes.length=4096
  ·have n:R= .bad (cA txt.length (L.drop k)) 6:=by
    rw[<-HR.out];show (if _ then _ else _)=_;rw[if_neg av,if_pos hM]
   have dm:decide ((4096:Int)<=(nodes.length:Int))=true:=aO a_;have dc:decide (4096<=nodes.length)=true:=aO a_;have a5:=hid n;clear n hA av hM;go_wp2_with fail;refine(CW.out 6).mono ?_;rintro e w6 ⟨rfl,O,ho⟩;have HE:=hid (T.out 6 w6 O ho a5.out);clear O ho;exact cd
  have dm:decide ((4096:Int)<=(nodes.length:Int))=false:=aG a_;have dc:decide (4096<=nodes.length)=false:=aG a_;clear CW T;have cM:dI (L.drop k)≠0:=λh=>av (by rw[h];rfl);obtain⟨t,bb⟩: ∃t,L[k]?=some t:=⟨_,bC (yM cM)⟩;have cw:=(aR.1 bb).1;have hk0':(0:Int)<=(k:Int):=a_
  have hk1':(k:Int)<(L.length:Int):=a_
  have cT:=hid bb;obtain⟨q',dQ⟩:=exQ kd;obtain⟨lvv,qb,qt,_,qn,_⟩:=aX.out;obtain⟨g,o,c,rfl,hcc,t0,t1,t2,br,U⟩:=qt.tok bb;have qc:=qb.cells;have bJ:=aX.out.keep (aB _ w5).drew;have cg:=hid bJ;have ao:=hid bJ.at_;have E:w0.heap.size<=w5.drew.heap.size:=aZ V bf.out.sz;have aq:w5.drew.cell? ⟨K,0,none⟩=some (.int .i64 (key.1:Int)):=(lG aQ.out).1;have au:w5.drew.cell? ⟨K,1,none⟩=some (.int .i64 (key.2:Int)):=(lG aQ.out).2.1;have ay:w5.drew.cell? ⟨g,o+k*3+1,none⟩=some (.int .i64 (t.sf:Int)):=t1;have aw:w5.drew.cell? ⟨g,o+k*3+2,none⟩=some (.int .i64 (t.st:Int)):=t2;have a1:=aF aQ.out;have cv:=aF U;have aA:=qb.lt;have q4:w5.drew.cell? ⟨P,3,none⟩=some (.slice p3 nodes.length ad):=by rw[<-bd];exact aX.out.c3
  have a2:SQ w5.drew K g P (.slice (some ⟨g,o,none⟩) L.length c) k w5.drew:=⟨⟨rfl,rfl⟩,qc.2.1,qc.2.2.1⟩;obtain⟨OB,b7⟩: ∃ob:Obj, .cells #[kd, .int .i64 (t.sf:Int), .int .i64 (t.st:Int),key.1,key.2,(),()] 167=ob:=⟨_,rfl⟩;have ba:=aL w5.drew OB;have ap:Hid (SQ w5.drew K g P (.slice (some ⟨g,o,none⟩) L.length c) k (w5.drew.alloc OB)):=hid ⟨⟨ba.block _ a1,ba.block _ cv⟩,by rw[ba.cell (p:=⟨P,1,none⟩) aA];exact qc.2.1,by rw[ba.cell (p:=⟨P,2,none⟩) aA];exact qc.2.2.1⟩;have bB:g≠P:=λe=>by
   have I:=qb;unfold cH at I;rw[<-e,U] at I;exact od
  have du:K≠P:=λe=>by
   have I:=qb;unfold cH at I;rw[<-e,aQ.out] at I;exact od
  have al:Hid (∀w2,w5.drew.grownBy w2 (Value.slice p3 z.length ad).ownBlock->SQ w5.drew K g P (.slice (some ⟨g,o,none⟩) L.length c) k w2/\w2.cell? ⟨P,3,none⟩=some (.slice p3 nodes.length ad)/\w2.frozen? ⟨P,3,none⟩=false/\ ∀u,SQ w5.drew K g P (.slice (some ⟨g,o,none⟩) L.length c) k (w2.setCell ⟨P,3,none⟩ u)):=hid (λw2 hg=>by
   have am: ∀(k:Nat) (cs:Array Value) (tt:TypeId),w5.drew.heap[k]?=some (.cells cs tt (0,0))->167≠tt->w2.heap[k]?=w5.drew.heap[k]?:=λk cs tt hk bA=>hg.block k (aF hk) (λe=>by obtain⟨dK,hc⟩:=kO ao.out.row k e.symm;rw[hk] at hc;injection hc with hc;injection hc with _ hc;exact bA hc.symm);have oX:=am K _ _ aQ.out b_;have oG:=am g _ _ U b_;have oP:=am P _ _ qb b_;have j2:cH w2 P txt (.slice (some ⟨g,o,none⟩) L.length c) k (.slice p3 z.length ad) 0 0:=oP.trans qb;obtain⟨_,e1,e2,e3,_,_,_,_,g3,_⟩:=j2.cells;rw[bd] at e3;refine⟨⟨⟨oX,oG⟩,e1,e2⟩,e3,g3,λu=>⟨⟨?_,?_⟩,(j2.nodes u).cells.2.1,(j2.nodes u).cells.2.2.1⟩⟩
   ·rw[eC w2 ⟨P,3,none⟩ u _ du];exact oX
   ·rw[eC w2 ⟨P,3,none⟩ u _ bB];exact oG)
  have aS:Hid (∀d v w',QF (Pg P p3 nodes ad kd g o L.length c k t key (w5.drew).heap.size) (SQ w5.drew K g P (.slice (some ⟨g,o,none⟩) L.length c) k) w5.drew OB (λnv w2=>w2.ownsRow w0.heap.size 167 7 nv (z.length+1) (iZ z++gA (⟨kd,t.sf,t.st,key,[],[]⟩, .slice none 0 0, .slice none 0 0))/\w5.drew.grownBy w2 (Value.slice p3 z.length ad).ownBlock) P d v w'->d 4=false->w'.cell? ⟨P,3,none⟩=some (.slice p3 nodes.length ad)):=hid (λd v w' j D=>by
   have dM:d 20=false:=by
    cases hc:d 20 with
    | false=>rfl
    | true=>have:=(j.up hc).2;rw[D] at this;cases this
   cases h19:d 19 with
   | false=>rw[j.w0 h19];exact q4
   | true=>rw[j.w1 h19 dM,ba.cell (p:=⟨P,3,none⟩) aA];exact q4)
  have df:nodes.length<4096:=a_
  have ds:=hid df;have bl:L.drop k=t::L.drop (k+1):=by
   rw[fL cw];congr 1;have:=(aR.1 bb).2;exact this
  have ca:dO t.kind=kd:=by
   rw[<-bG.out,<-bQ.out,bl];rfl
  obtain⟨R1,aU⟩:=exQ (if t.kind=4 then gG txt (bI txt m) 5 false nodes.length (L.drop (k+1)) (t.sf,t.st) (nodes++ [⟨kd,t.sf,t.st,key,[],[]⟩]) else if t.kind=2 then gG txt (bI txt m) 3 true nodes.length (L.drop (k+1)) (t.sf,t.st) (nodes++ [⟨kd,t.sf,t.st,key,[],[]⟩]) else .ok (L.drop (k+1)) (t.sf,t.st) (nodes++ [⟨kd,t.sf,t.st,key,[],[]⟩]));have bY:Hid (tO nodes.length R1=R):=hid (by
   rw[<-HR.out,<-aU]
   conv=>rhs;unfold bI
   rw[if_neg av,if_neg hM,bl];simp only[ca])
 have Q:=hid aU
 first
 |have _:=yn;have bS:=hid ht;have HS:=hid (aK hSV hT);have dw:=hid h.nodesN;have h1:=h.keep (W1.bel w P key);have CK:=hid (tX _ P txt (t::r) l nodes _ h1 D7);have CO:=hid (zM (dI (t::r)) (W1 w P key));obtain⟨q,I⟩:=exQ<|dO t.kind;rw[show dO (dI (t::r))=q from I] at CO;rw[I] at hk Q;have HQ:=hid I;have d0:((q:Int)==0)=false:=aE.2 a_;have d1:decide (32<lev)=false:=aG a_;have hX:=(lQ (W1.X w P key)).1;have hY:=pP (W1.Y w P key);have HF:=hid (Fr.of_below (P:=P) (W1.bel w P key) hb.size);have HB:=hid hb;have V:=hb.size;have hPw:=h.box.1;obtain⟨bk,bi,_,_⟩:=h1.box;obtain⟨rv,z,nv,b1,b2,b3,b4,b5⟩:=h1;obtain⟨p0,c0,rfl⟩:=b4.slice;obtain⟨q0,q1,_,_,q4,_,_,_,_,_,f4,_⟩:=b1.cells;obtain⟨g,o,c,rfl,hc,k0,k1,k2,U⟩:=b2.head';have hz:z.length=nodes.length:=by rw[<-b3,bR]
  rw[hz] at q4;have dm:((nodes.length:Int)==4096)=false:=aE.2 a_;have c8:=(W1.bel w P key).size;have a1:w.heap.size<(W1 w P key).heap.size:=aF (W1.X w P key);have cX:w.heap.size+1<(W1 w P key).heap.size:=aF (W1.Y w P key);obtain⟨br,U⟩:=U;have E:w0.heap.size<=(W1 w P key).drew.heap.size:=aZ V c8;have bn:=b4.keep (aB _ (W1 w P key)).drew;have bh:=b1.keep (aB _ (W1 w P key)).drew;have cU:=b2.keep (aB _ (W1 w P key)).drew;have cK:JZ w0.heap.size P txt (t::r) l z (.slice p0 z.length c0) (W1 w P key).drew:=⟨_,bh,cU,bn,bi⟩;have e:(P:Nat)≠w.heap.size:=a_
  have al:Hid (∀w2,(W1 w P key).drew.grownBy w2 (Value.slice p0 z.length c0).ownBlock->SP (W1 w P key).drew w.heap.size (w.heap.size+1) g P (.slice (some ⟨g,o,none⟩) (r.length+1) c) w2/\w2.cell? ⟨P,4,none⟩=some (.slice p0 nodes.length c0)/\w2.frozen? ⟨P,4,none⟩=false/\ ∀u,SP (W1 w P key).drew w.heap.size (w.heap.size+1) g P (.slice (some ⟨g,o,none⟩) (r.length+1) c) (w2.setCell ⟨P,4,none⟩ u)):=hid (λw2 hg=>by
   have am: ∀(k:Nat) (cs:Array Value) (tt:TypeId),(W1 w P key).drew.heap[k]?=some (.cells cs tt (0,0))->167≠tt->w2.heap[k]?=(W1 w P key).drew.heap[k]?:=λk cs tt hk bA=>hg.block k (aF hk) (λe=>by obtain⟨dK,hc⟩:=kO bn.row k e.symm;rw[hk] at hc;injection hc with hc;injection hc with _ hc;exact bA hc.symm);have oX:=am _ _ _ (W1.X w P key) b_;have oY:=am _ _ _ (W1.Y w P key) b_;have oG:=am _ _ _ U b_;have oP:=am _ _ _ bh b_;have j2:cZ w2 P txt (.slice (some ⟨g,o,none⟩) (r.length+1) c) l (.slice p0 z.length c0) 0 0:=oP.trans bh;obtain⟨_,e1,_,_,e4,_,_,_,_,_,g4,_⟩:=j2.cells;rw[hz] at e4;have bB:g≠P:=λe=>by
    have I:=b1;unfold cZ at I;have cD:(W1 w P key).heap[P]?=some (.cells br 163 (0,0)):=e ▸ U;rw[cD] at I;injection I with I;injection I with _ I;exact absurd I b_
   refine⟨⟨⟨oX,oY,oG⟩,e1⟩,e4,g4,λu=>⟨⟨?_,?_,?_⟩,(j2.nodes u).cells.2.1⟩⟩
   ·rw[eC w2 ⟨P,4,none⟩ u _ h_];exact oX
   ·rw[eC w2 ⟨P,4,none⟩ u _ h_];exact oY
   ·rw[eC w2 ⟨P,4,none⟩ u _ bB];exact oG)
  have bD:=hid cK;have ao:=hid bn;have a2:SP (W1 w P key).drew w.heap.size (w.heap.size+1) g P (.slice (some ⟨g,o,none⟩) (r.length+1) c) (W1 w P key).drew:=⟨⟨rfl,rfl,rfl⟩,q1⟩;obtain⟨OB,b7⟩: ∃ob:Obj, .cells #[q, .int .i64 (t.sf:Int), .int .i64 (t.st:Int),key.1,key.2,(),()] 167=ob:=⟨_,rfl⟩;have ba:=aL (W1 w P key).drew OB;have ap:Hid (SP (W1 w P key).drew w.heap.size (w.heap.size+1) g P (.slice (some ⟨g,o,none⟩) (r.length+1) c) ((W1 w P key).drew.alloc OB)):=hid ⟨⟨ba.block _ a1,ba.block _ cX,ba.block _ (aF U)⟩,by rw[ba.cell (p:=⟨P,1,none⟩) bk];exact q1⟩;have aS:Hid (∀d v w',PF (Je P p0 nodes c0 q g o r c t key (W1 w P key).drew.heap.size) (SP (W1 w P key).drew w.heap.size (w.heap.size+1) g P (.slice (some ⟨g,o,none⟩) (r.length+1) c)) (W1 w P key).drew OB (λnv w2=>w2.ownsRow w0.heap.size 167 7 nv (z.length+1) (iZ z++gA (⟨q,t.sf,t.st,key,[],[]⟩, .slice none 0 0, .slice none 0 0))/\(W1 w P key).drew.grownBy w2 (Value.slice p0 z.length c0).ownBlock) P d v w'->d 4=false->w'.cell? ⟨P,4,none⟩=some (.slice p0 nodes.length c0)):=hid (λd v w' j D=>by
   have dn:d 16=false:=by
    cases hc:d 16 with
    | false=>rfl
    | true=>have:=(j.up hc).2;rw[D] at this;cases this
   cases h15:d 15 with
   | false=>rw[j.w0 h15];exact q4
   | true=>rw[j.w1 h15 dn,ba.cell (p:=⟨P,4,none⟩) bk];exact q4)
  have ae:(W1 w P key).drew.cell? ⟨w.heap.size,0,none⟩=some (.pointer (some ⟨P,0,none⟩)):=hX;have aq:(W1 w P key).drew.cell? ⟨w.heap.size+1,0,none⟩=some (.int .i64 (key.1:Int)):=hY.1;have au:(W1 w P key).drew.cell? ⟨w.heap.size+1,1,none⟩=some (.int .i64 (key.2:Int)):=hY.2;have ay:(W1 w P key).drew.cell? ⟨g,o+1,none⟩=some (.int .i64 (t.sf:Int)):=k1;have aw:(W1 w P key).drew.cell? ⟨g,o+2,none⟩=some (.int .i64 (t.st:Int)):=k2;have dr:(0:Int)<(r.length:Int)+1:=a_
 |have bm:=hid ca;have dN:=hid cw;have cN:(nodes++ [(⟨kd,t.sf,t.st,key,[],[]⟩:aH)]).length+(L.drop (k+1)).length<=131074:=by
   rw[aT,dS];rw[bl,bH] at hN;omega
  have da:=hid cN
 have bw:Tryz.prog.follows .mixedOrders=true:=d'
 first
 |have _:=yn;clear h hb b1 b2 b4 hm I bq aU ht hSV hT bh cU bn cK ba U c8 a1 cX bk e;go_enter Tryz.func151,Tryz.ntmps151;go_upto_region 1 with fail;change Code.wp _ _ _ _ (W1 w P key);go_wp2_with fail;refine CK.out.mono ?_;rintro e w2 ⟨rfl,rfl⟩;go_wp2_with fail;refine CO.out.mono ?_;rintro e w2 ⟨rfl,rfl⟩;go_upto_region 9 with fail;clear k0 k1 k2 q0 hX hY d0 d1 dm;obtain⟨W0,N⟩:=exQ<|(W1 w P key).drew;refine tR bw [38,39,40,41,42,43,44,45,46,47,48,49,50,51,52,53,54,55,56] 90 rfl d' d' (λd v w'=>PF (Je P p0 nodes c0 q g o r c t key (W1 w P key).drew.heap.size) (SP (W1 w P key).drew w.heap.size (w.heap.size+1) g P (.slice (some ⟨g,o,none⟩) (r.length+1) c)) (W1 w P key).drew OB (λnv w2=>w2.ownsRow w0.heap.size 167 7 nv (z.length+1) (iZ z++gA (⟨q,t.sf,t.st,key,[],[]⟩, .slice none 0 0, .slice none 0 0))/\(W1 w P key).drew.grownBy w2 (Value.slice p0 z.length c0).ownBlock) P d v w') ⟨λ_ _ _ h=>absurd h b_,a2,λh=>absurd h b_,λh=>absurd h b_,λ_=>rfl,λh=>absurd h b_,λh=>absurd h b_,λh=>absurd h b_⟩ ?_ ?_
 |clear bb df bl ca aU cN qb qt qn qc t0 t1 t2 bJ ba U a1 cv aA dQ hA av hM cM q';go_upto_region 13 with fail;clear d0 dl dm dc c3;obtain⟨W0,N⟩:=exQ<|w5.drew;refine tR bw [40,41,42,43,44,45,46,47,48,49,50,51,52,53,54,55,56,57,58,59,60,61,62] 105 rfl d' d' (λd v w'=>QF (Pg P p3 nodes ad kd g o L.length c k t key (w5.drew).heap.size) (SQ w5.drew K g P (.slice (some ⟨g,o,none⟩) L.length c) k) w5.drew OB (λnv w2=>w2.ownsRow w0.heap.size 167 7 nv (z.length+1) (iZ z++gA (⟨kd,t.sf,t.st,key,[],[]⟩, .slice none 0 0, .slice none 0 0))/\w5.drew.grownBy w2 (Value.slice p3 z.length ad).ownBlock) P d v w') ⟨λ_ _ _ h=>absurd h b_,a2,λh=>absurd h b_,λh=>absurd h b_,λ_=>rfl,λh=>absurd h b_,λh=>absurd h b_,λh=>absurd h b_⟩ ?_ ?_
 ·intro d a w' i o' ho hi f A j R' n
  first
  |have _:=yn;have a4:i<20:=(lI.1 ho).1;have q3:a.tmps[3]?.getD undef= .pointer (some ⟨w.heap.size,0,none⟩):=by rw[<-aI];exact A 3 b_
   have q5:a.tmps[5]?.getD undef= .pointer (some ⟨w.heap.size+1,0,none⟩):=by rw[<-aI];exact A 5 b_
   have q7:a.tmps[7]?.getD undef= .int .i64 (q:Int):=by rw[<-aI];exact A 7 b_
   clear A;rw[N] at j n ae aq au ay aw aS ap al ao E;rcases Ta a4 with rfl|rfl|rfl|rfl|rfl|rfl|rfl|rfl|rfl|rfl|rfl|rfl|rfl|rfl|rfl|rfl|rfl|rfl|rfl|rfl<;>simp only[dA,cR,bZ,cG] at ho<;>subst ho
  |have a4:i<24:=(lI.1 ho).1;have q0:a.tmps[0]?.getD undef= .pointer (some ⟨P,0,none⟩):=by rw[<-aI];exact A 0 b_
   have q5:a.tmps[5]?.getD undef= .pointer (some ⟨K,0,none⟩):=by rw[<-aI];exact A 5 b_
   have q7:a.tmps[7]?.getD undef= .int .i64 (kd:Int):=by rw[<-aI];exact A 7 b_
   clear A;rw[N] at j n aq au ay aw aS ap al ao E;rcases aCB a4 with rfl|rfl|rfl|rfl|rfl|rfl|rfl|rfl|rfl|rfl|rfl|rfl|rfl|rfl|rfl|rfl|rfl|rfl|rfl|rfl|rfl|rfl|rfl|rfl<;>simp only[dA,cR,bZ,cG] at ho<;>subst ho
  ·first|have _:=yn;have x0:=(iY j.st.1.1 0).trans ae|skip
   go_simp;exact n _ _ (j.pure (i:=0) rfl rfl b_ b_ b_)
  ·first|have _:=yn;have x0:=(iY j.st.1.1 0).trans ae|skip
   go_simp;exact n _ _ (j.pure (i:=1) rfl rfl b_ b_ b_)
  ·simp[Region.binds] at f;first|have _:=yn;have c39:a.tmps[39]?.getD undef= .pointer (some ⟨P,0,none⟩):=by rw[<-aI];exact j.cl 1 b_ b_ k_|have dP:a.tmps[41]?.getD undef= .pointer (some ⟨P,0,none⟩):=by rw[<-aI];exact j.cl 1 b_ b_ k_
   go_simp;exact n _ _ (j.pure (i:=2) rfl rfl b_ b_ b_)
  ·simp[Region.binds] at f;first|have _:=yn;have dk:a.tmps[40]?.getD undef= .pointer (some ⟨P,0,none⟩):=by rw[<-aI];exact j.cl 2 b_ b_ k_|have ct:a.tmps[42]?.getD undef= .pointer (some ⟨P,0,none⟩):=by rw[<-aI];exact j.cl 2 b_ b_ k_
   go_simp;exact n _ _ (j.pure (i:=3) rfl rfl b_ b_ b_)
  ·simp[Region.binds] at f;first|have _:=yn;have dP:a.tmps[41]?.getD undef= .pointer (some ⟨P,4,none⟩):=by rw[<-aI];exact j.cl 3 b_ b_ k_|have dT:a.tmps[43]?.getD undef= .pointer (some ⟨P,3,none⟩):=by rw[<-aI];exact j.cl 3 b_ b_ k_
   have x4:=aS.out d _ w' j hi;go_simp;exact n _ _ (j.pure (i:=4) rfl rfl b_ b_ b_)
  ·go_simp;exact n _ _ (j.pure (i:=5) rfl rfl b_ b_ b_)
  ·first|have _:=yn;have x0:=(iY j.st.1.1 0).trans ae|skip
   go_simp;exact n _ _ (j.pure (i:=6) rfl rfl b_ b_ b_)
  ·simp[Region.binds] at f;first|have _:=yn;have c5:a.tmps[44]?.getD undef= .pointer (some ⟨P,0,none⟩):=by rw[<-aI];exact j.cl 6 b_ b_ k_|have dR:a.tmps[46]?.getD undef= .pointer (some ⟨P,0,none⟩):=by rw[<-aI];exact j.cl 6 b_ b_ k_
   go_simp;exact n _ _ (j.pure (i:=7) rfl rfl b_ b_ b_)
  ·simp[Region.binds] at f;first|have _:=yn;have dZ:a.tmps[45]?.getD undef= .pointer (some ⟨P,0,none⟩):=by rw[<-aI];exact j.cl 7 b_ b_ k_|have d8:a.tmps[47]?.getD undef= .pointer (some ⟨P,0,none⟩):=by rw[<-aI];exact j.cl 7 b_ b_ k_
   go_simp;exact n _ _ (j.pure (i:=8) rfl rfl b_ b_ b_)
  ·simp[Region.binds] at f
   first
   |have _:=yn;have dR:a.tmps[46]?.getD undef= .pointer (some ⟨P,1,none⟩):=by rw[<-aI];exact j.cl 8 b_ b_ k_
    have x0:=j.st.2
   |have dE:a.tmps[48]?.getD undef= .pointer (some ⟨P,1,none⟩):=by rw[<-aI];exact j.cl 8 b_ b_ k_
    have x0:=j.st.2.1
   go_simp;exact n _ _ (j.pure (i:=9) rfl rfl b_ b_ b_)
  ·first|have _:=yn;simp[Region.binds] at f;have d8:a.tmps[47]?.getD undef= .slice (some ⟨g,o,none⟩) (r.length+1) c:=by rw[<-aI];exact j.cl 9 b_ b_ k_|skip
   go_simp;exact n _ _ (j.pure (i:=10) rfl rfl b_ b_ b_)
  ·simp[Region.binds] at f;first|have _:=yn;have dE:a.tmps[48]?.getD undef= .pointer (some ⟨g,o,none⟩):=by rw[<-aI];exact j.cl 10 b_ b_ k_|have dy:a.tmps[50]?.getD undef= .pointer (some ⟨P,0,none⟩):=by rw[<-aI];exact j.cl 10 b_ b_ k_
   go_simp;exact n _ _ (j.pure (i:=11) rfl rfl b_ b_ b_)
  ·simp[Region.binds] at f
   first
   |have _:=yn;have dU:a.tmps[49]?.getD undef= .pointer (some ⟨g,o+1,none⟩):=by rw[<-aI];exact j.cl 11 b_ b_ k_
    have x1:=(iY j.st.1.2.2 (o+1)).trans ay;have x2:=(iY j.st.1.2.2 (o+2)).trans aw
   |have di:a.tmps[51]?.getD undef= .pointer (some ⟨P,0,none⟩):=by rw[<-aI];exact j.cl 11 b_ b_ k_
   go_simp;exact n _ _ (j.pure (i:=12) rfl rfl b_ b_ b_)
  ·first
   |have _:=yn;have x1:=(iY j.st.1.2.1 0).trans aq;have x2:=(iY j.st.1.2.1 1).trans au
   |simp[Region.binds] at f;have dB:a.tmps[52]?.getD undef= .pointer (some ⟨P,2,none⟩):=by rw[<-aI];exact j.cl 12 b_ b_ k_
    have x0:=j.st.2.2
   go_simp;exact n _ _ (j.pure (i:=13) rfl rfl b_ b_ b_)
  ·simp[Region.binds] at f
   first
   |have _:=yn;have dT:a.tmps[43]?.getD undef= .int .i64 (q:Int):=by rw[<-aI];exact j.cl 5 b_ b_ k_
    have dy:a.tmps[50]?.getD undef= .agg #[.int .i64 (t.sf:Int), .int .i64 (t.st:Int)]:=by rw[<-aI];exact j.cl 12 b_ b_ k_
    have di:a.tmps[51]?.getD undef= .agg #[key.1,key.2]:=by rw[<-aI];exact j.cl 13 b_ b_ k_
   |have dU:a.tmps[49]?.getD undef= .slice (some ⟨g,o,none⟩) L.length c:=by rw[<-aI];exact j.cl 9 b_ b_ k_
    have cC:a.tmps[53]?.getD undef= .int .i64 (k:Int):=by rw[<-aI];exact j.cl 13 b_ b_ k_
   go_simp;exact n _ _ (j.pure (i:=14) rfl rfl b_ b_ b_)
  ·simp[Region.binds] at f
   first
   |have _:=yn;have dB:a.tmps[52]?.getD undef= .agg #[q, .int .i64 (t.sf:Int), .int .i64 (t.st:Int),key.1,key.2,(),()]:=by rw[<-aI];exact j.cl 14 b_ b_ k_
    obtain rfl:=j.w0 hi;go_simp;exact n _ _ (j.mk' hi rfl ap.out)
   |have dX:a.tmps[54]?.getD undef= .pointer (some ⟨g,o+k*3,none⟩):=by rw[<-aI];exact j.cl 14 b_ b_ k_
    go_simp;exact n _ _ (j.pure (i:=15) rfl rfl b_ b_ b_)
  ·simp[Region.binds] at f
   first
   |have _:=yn;have e4:d 4=true:=k_
    have bK:d 15=true:=k_;have ct:a.tmps.getD 42 undef= .slice p0 nodes.length c0:=EK;have cC:a.tmps.getD 53 undef= .slice (some ⟨W0.heap.size,0,none⟩) 1 1:=(by exact j.cl 15 b_ b_ (bK));obtain rfl:=j.w1 bK hi;rw[<-b7];exact Jd rfl (.tmp 42) (.tmp 53) rfl w0.heap.size W0 (.slice p0 z.length c0) z ⟨q,t.sf,t.st,key,[],[]⟩ _ rfl (by rw[hz];exact ct) ao.out.row cC a_ E (λnv w2 an M=>n _ _ (j.app bK e4 hi (al.out w2 M).1 ⟨an,M⟩))
   |have dj:a.tmps[55]?.getD undef= .pointer (some ⟨g,o+k*3+1,none⟩):=by rw[<-aI];exact j.cl 15 b_ b_ k_
    have x1:=(iY j.st.1.2 (o+k*3+1)).trans ay;have x2:=(iY j.st.1.2 (o+k*3+2)).trans aw;have dx:=x2;rw[show o+k*3+2=o+k*3+1+1 by omega] at dx;go_simp;exact n _ _ (j.pure (i:=16) rfl rfl b_ b_ b_)
  ·first|have _:=yn;simp[Region.binds] at f;have c38:a.tmps[38]?.getD undef= .pointer (some ⟨P,0,none⟩):=by rw[<-aI];exact j.cl 0 b_ b_ k_|have x1:=(iY j.st.1.1 0).trans aq;have x2:=(iY j.st.1.1 1).trans au
   go_simp;exact n _ _ (j.pure (i:=17) rfl rfl b_ b_ b_)
  ·simp[Region.binds] at f
   first
   |have _:=yn;have dj:a.tmps[55]?.getD undef= .pointer (some ⟨P,0,none⟩):=by rw[<-aI];exact j.cl 17 b_ b_ k_
   |have dZ:a.tmps[45]?.getD undef= .int .i64 (kd:Int):=by rw[<-aI];exact j.cl 5 b_ b_ k_
    have dL:a.tmps[56]?.getD undef= .agg #[.int .i64 (t.sf:Int), .int .i64 (t.st:Int)]:=by rw[<-aI];exact j.cl 16 b_ b_ k_
    have c57:a.tmps[57]?.getD undef= .agg #[key.1,key.2]:=by rw[<-aI];exact j.cl 17 b_ b_ k_
   go_simp;exact n _ _ (j.pure (i:=18) rfl rfl b_ b_ b_)
  first
  |have _:=yo
   ·simp[Region.binds] at f;have c58:a.tmps[58]?.getD undef= .agg #[kd, .int .i64 (t.sf:Int), .int .i64 (t.st:Int),key.1,key.2,(),()]:=by rw[<-aI];exact j.cl 18 b_ b_ k_
    obtain rfl:=j.w0 hi;go_simp;exact n _ _ (j.mkA hi rfl ap.out)
   ·simp[Region.binds] at f;have e4:d 4=true:=k_;have bP:d 19=true:=k_;have c5:a.tmps.getD 44 undef= .slice p3 nodes.length ad:=EK;have dD:a.tmps.getD 59 undef= .slice (some ⟨W0.heap.size,0,none⟩) 1 1:=(by exact j.cl 19 b_ b_ (bP));obtain rfl:=j.w1 bP hi;rw[<-b7];exact Jd rfl (.tmp 44) (.tmp 59) rfl w0.heap.size W0 (.slice p3 z.length ad) z ⟨kd,t.sf,t.st,key,[],[]⟩ _ rfl (by rw[bd];exact c5) ao.out.row dD a_ E (λnv w2 an M=>n _ _ (j.app bP e4 hi (al.out w2 M).1 ⟨an,M⟩))
   ·simp[Region.binds] at f;have dk:a.tmps[40]?.getD undef= .pointer (some ⟨P,0,none⟩):=by rw[<-aI];exact j.cl 0 b_ b_ k_
    go_simp;exact n _ _ (j.pure (i:=21) rfl rfl b_ b_ b_)
   ·simp[Region.binds] at f;have c61:a.tmps[61]?.getD undef= .pointer (some ⟨P,0,none⟩):=by rw[<-aI];exact j.cl 21 b_ b_ k_
    go_simp;exact n _ _ (j.pure (i:=22) rfl rfl b_ b_ b_)
  |skip
  ·simp[Region.binds] at f
   first
   |have _:=yn;have b6:d 16=true:=k_
    have dz:d 18=true:=k_;have dL:a.tmps[56]?.getD undef= .pointer (some ⟨P,4,none⟩):=by rw[<-aI];exact j.cl 18 b_ b_ (dz)
    obtain⟨_,x4,f4,b9⟩:=al.out w' (j.w2 b6 hi).2;obtain⟨gn,cn,hV⟩:=qP (j.w2 b6 hi).1;have hV:a.tmps.getD 54 undef= .slice (some ⟨gn,0,none⟩) (z.length+1) cn:=hV;rw[hz] at hV;have dX:a.tmps[54]?.getD undef= .slice (some ⟨gn,0,none⟩) (nodes.length+1) cn:=by rw[<-aI];exact hV
    have ai:=λx=>j.sto b6 hi (x:=x) (k:=none) rfl (b9 _)
   |have bO:d 20=true:=k_
    have dW:d 22=true:=k_;have c62:a.tmps[62]?.getD undef= .pointer (some ⟨P,3,none⟩):=by rw[<-aI];exact j.cl 22 b_ b_ (dW)
    obtain⟨_,x4,f4,b9⟩:=al.out w' (j.w2 bO hi).2;obtain⟨gn,cn,hV⟩:=qP (j.w2 bO hi).1;have hV:a.tmps.getD 60 undef= .slice (some ⟨gn,0,none⟩) (z.length+1) cn:=hV;rw[bd] at hV;have c60:a.tmps[60]?.getD undef= .slice (some ⟨gn,0,none⟩) (nodes.length+1) cn:=by rw[<-aI];exact hV
    have ai:=λx=>j.sto bO hi (x:=x) (k:=none) rfl (b9 _)
   simp only[hV] at ai;go_simp;exact n undef _ (ai undef)
 ·intro v W9 j;first|have _:=yn;rw[N] at j bD E|rw[N] at j cg E
  obtain⟨nv2,w1,⟨an,M⟩,hW⟩:=j.w3 b_;first|have _:=yn;obtain⟨Z,aY⟩:=bD.out.node (x:=⟨q,t.sf,t.st,key,[],[]⟩) rfl rfl E an M|obtain⟨Z,aY⟩:=cg.out.node (x:=⟨kd,t.sf,t.st,key,[],[]⟩) rfl rfl E an M
  rw[<-hW] at Z aY
  first
  |have _:=yn;have Z:=Z.cast (congrArg (· ++ [(⟨q,t.sf,t.st,key,[],[]⟩:aH)]) b3);have bL:W9.heap[w.heap.size]?=some (.cells #[some P] 177):=j.st.1.1.trans (by rw[<-N];exact W1.X w P key);have aP:=hid (HF.out.trans ((Fr.of_below (by rw[<-N];exact(aB _ (W1 w P key)).drew) (aZ V HF.out.sz)).trans aY));have x9:=(lQ bL).1;have bW:=hid bL;have dd:=hid (Dd _ P txt t r l _ W9 Z a_)
  |have Z:=Z.cast (congrArg (· ++ [(⟨kd,t.sf,t.st,key,[],[]⟩:aH)]) HZ.out);have aP:=hid (bf.out.trans ((Fr.of_below (by rw[<-N];exact(aB _ w5).drew) (aZ V bf.out.sz)).trans aY));obtain⟨c2,f2⟩:=Z.c2;obtain⟨ab,a6⟩:=Z.step dN.out;have ek:((k+1:Nat):Int)=(k:Int)+1:=a_;rw[ek] at ab a6;obtain⟨s,bF⟩:=exQ<|W9.setCell ⟨P,2,none⟩ (.int .i64 ((k:Int)+1));have H:=hid ab;have G:=hid (aP.out.trans a6);rw[bF] at H G
  simp only[cS,dF,cP,dG];first|have _:=yn;clear j an M hW Z aY bL bD aS ap al ao a2 ae aq au ay aw E q1 q4 f4 CK CO;go_wp2_with fail;refine dd.out.mono ?_;rintro e s ⟨rfl,ab,a7⟩;have dH:=aZ V aP.out.sz;have a0:s.heap[w.heap.size]?=some (.cells #[some P] 177):=(a7.block _ (aF bW.out) (λe=>by have:=aV e;omega)).trans bW.out;have G:=hid (aP.out.trans (Fr.ofP a7 bi dH));have W:=hid a0;have H:=hid ab;have dV:=(lQ a0).1|clear j an M hW Z aY ab a6 ek aS ap al ao a2 aq au ay aw E q4 aP cg aQ
  have a9:w0.heap.size<=s.heap.size:=aZ V G.out.sz;have aJ:Hid (Below w0.heap.size w0 s):=hid (HB.out.trans G.out.bel);first|have _:=yn;have aM:nodesN P s=nodes.length+1:=by rw[ab.nodesN,aT];rfl|have aM:qN P s=nodes.length+1:=by rw[H.out.qN,aT];rfl
  have bp:=hid aM
  first
  |have _:=yn;have bt:fW nodes (⟨q,t.sf,t.st,key,[],[]⟩:aH) [] (nodes++ [(⟨q,t.sf,t.st,key,[],[]⟩:aH)]):=⟨rfl,e_,e_,λy hy=>by cases hy⟩;have F:=hid bt;have bs:(nodes++ [(⟨q,t.sf,t.st,key,[],[]⟩:aH)]).length+r.length<=131074:=by rw[aT,dS];omega
   have bu:Hid (TB txt r):=hid (bS.out.drop 1);clear ab a7 a0 bW x9 dd aM bt aP;go_upto_block 1 with fail;go_cut [9] (λs9 wx=> ∃b,s9= .bool b/\Hid (KO w0.heap.size P txt nodes.length R1 b wx)/\Hid (Fr w0.heap.size P w wx)/\Hid (wx.heap[w.heap.size]?=some (.cells #[some P] 177)))
  |have F:Hid (fW nodes (⟨kd,t.sf,t.st,key,[],[]⟩:aH) [] (nodes++ [(⟨kd,t.sf,t.st,key,[],[]⟩:aH)])):=hid ⟨rfl,e_,e_,λy hy=>by cases hy⟩;have cY:Hid ((nodes++ [(⟨kd,t.sf,t.st,key,[],[]⟩:aH)]).length<=4096):=hid (by rw[aT,dS];have:=ds.out;omega);have bx:Hid (lev+1=33-(m:Int)):=hid EH;have bo:Hid (0<=lev/\lev<=32):=hid EH;clear aM;have ar:Hid (∀C a8,((C=5/\a8=false)\/(C=3/\a8=true))->gG txt (bI txt m) C a8 nodes.length (L.drop (k+1)) (t.sf,t.st) (nodes++ [⟨kd,t.sf,t.st,key,[],[]⟩])=R1->
     Calls Tryz.prog 169 #[some P,nodes.length,lev, .int .i64 (C:Int)] s (λe w'=> ∃b,e= .returned (.bool b)/\tH w0.heap.size P txt L nodes.length R1 b w'/\Fr w0.heap.size P s w')):=hid (λC a8 hc n=>by
    refine(aCA w0 P txt L m (de.out m rfl) s k t nodes _ [] _ lev C a8 H.out cT.out F.out aJ.out da.out cY.out bx.out bo.out hL hs bS.out dv.out hc).mono ?_;intro e w' hE;rw[n] at hE;exact tH.of hE bp.out (λrr ll ns he=>by
     obtain⟨x',a3,hm,_⟩:=xA (mV txt m) F.out (n.trans he);exact hm.lt))
   have c1:Hid (t.kind≠4->t.kind≠2->tH w0.heap.size P txt L nodes.length R1 true s):=hid (λD h2=>by have n:=Q.out;rw[if_neg D,if_neg h2] at n;rw[<-n];exact⟨rfl,⟨k,t,rfl,cT.out,rfl,H.out⟩,F.out.lt⟩);clear F cY bx bo da aJ de;go_upto_if 71 with fail;go_cut [9] (λs9 wx=> ∃b,s9= .bool b/\Hid (if t.kind=4 then tH w0.heap.size P txt L nodes.length R1 b wx/\Fr w0.heap.size P w wx else b=true/\wx=s))
  case first=>
   by_cases D:t.kind=4
   ·first
    |have _:=yn;have cL:q=5:=by rw[<-HQ.out,D];rfl
     subst cL
    |have ak:kd=5:=by rw[<-bm.out,D];rfl
    have n:=Q.out;rw[if_pos D] at n
    first
    |have _:=yn;have CA:=Sv w0 P txt lv IH s r (t.sf,t.st) nodes _ [] _ lev H.out F.out aJ.out bu.out bs hlev hlev0 hs;rw[n] at CA;have aW:=hid CA;have bV:Hid (∀e w',VE w0.heap.size P txt R1 s e w'-> ∃b,e= .returned (.bool b)/\KO w0.heap.size P txt nodes.length R1 b w'/\Fr w0.heap.size P s w'):=hid (λe w' hE=>KO.of hE bp.out (λrr ll ns he=>by obtain⟨x',a3,hm,_⟩:=xA (mV txt lv) F.out (n.trans he);exact hm.lt));clear CA n D Q
    |have aW:=hid (ar.out 5 false (.inl ⟨rfl,rfl⟩) n);have d5:((kd:Int)==5)=true:=by rw[ak];rfl
     have H4:=hid D;clear n D Q ak
    go_wp2_with fail;refine aW.out.mono ?_;first|have _:=yn;rintro e bN hE;obtain⟨b,rfl,af,A⟩:=bV.out _ _ hE|rintro e bN ⟨b,rfl,af,A⟩
    have aj:=hid af;first|have _:=yn;have bc:=hid (A.blk _ _ W.out a_ DU)|skip
    have ag:=hid (G.out.trans A);first|have _:=yn;clear af A hE|clear af A
    go_wp2_with fail;go_meet;first|have _:=yn;exact⟨b,rfl,aj,ag,bc⟩|exact⟨b,rfl,hid (by rw[if_pos H4.out];exact⟨aj.out,ag.out⟩)⟩
   first
   |have _:=yn
    ·by_cases h2:t.kind=2
     ·have cj:q=6:=by rw[<-HQ.out,h2];rfl
      subst cj;have n:=Q.out;rw[if_neg D,if_pos h2] at n;obtain⟨m1,m2,m3⟩:=WM.facts s;have b8:=H.out.keep m1;have ci:=(m1.block _ (aF W.out)).trans W.out;have d7:=aF W.out;have CA:=Sx w0 P txt lv IH s.heap.size w.heap.size (s.heap.size+1) (WM s) r (t.sf,t.st) nodes _ [] _ lev b8 F.out (aJ.out.trans (m1.mono a9)) bu.out bs hlev hlev0 hs ci m3 m2 a9 HS.out.1 HS.out.2;rw[n] at CA;have aW:=hid CA;have bV:Hid (∀e w',KE w0.heap.size P s.heap.size txt R1 (WM s) e w'-> ∃b,e= .returned (.bool b)/\KO w0.heap.size P txt nodes.length R1 b w'/\jT w0.heap.size P s.heap.size (WM s) w'):=hid (λe w' hE=>KO.ofX hE (by rw[b8.nodesN,aT];rfl) (λrr ll ns he=>by obtain⟨x',a3,hm,_⟩:=xA (mV txt lv) F.out (n.trans he);exact hm.lt));have cq:=hid m1;clear CA n D h2 Q m1 m2 m3 b8 ci;have hmm:= @run_makeMap Tryz.prog;go_wp2_with fail;refine aW.out.mono ?_;rintro e bN hE;obtain⟨b,rfl,af,A⟩:=bV.out _ _ hE;have aj:=hid af;have bc:=hid (A.blk _ _ ((cq.out.block _ d7).trans W.out) a_ a_ DU);have ag:=hid (G.out.trans (jT.out (Fr.of_below cq.out a9) A (aD _)));clear af A hE;go_wp2_with fail;go_meet;exact⟨b,rfl,aj,ag,bc⟩
     ·have n:=Q.out;rw[if_neg D,if_neg h2] at n;have cL:((q:Int)==5)=false:=aE.2 ER;have cj:((q:Int)==6)=false:=aE.2 ER;have HK:Hid (KO w0.heap.size P txt nodes.length R1 true s):=hid (by rw[<-n];exact⟨rfl,H.out,F.out.lt⟩);clear n D h2 Q;go_wp2_with fail;go_meet;exact⟨true,rfl,HK,G,W⟩
   |·have d5:((kd:Int)==5)=false:=aE.2 (by have:=aCC D;rw[bm.out] at this;omega)
     have H4:=hid D;clear D;go_wp2_with fail;go_meet;exact⟨true,rfl,hid (by rw[if_neg H4.out];exact⟨rfl,rfl⟩)⟩
  first
  |have _:=yn;case rest=>
    obtain⟨b,rfl,HK,d3,HX⟩:=hcut;obtain⟨lt,g',cap',dh,st,c3,c4,hnl,cst,cfz,bz,hPg,ai⟩:=HK.out.fin;have xX:=(lQ HX.out).1;have hXg:=bz _ _ _ HX.out b_;have dp:(0:Int)<=(nodes.length:Int):=a_;have c7:(nodes.length:Int)<(dh:Int):=a_;have cm:=hid (ai w (by rw[dw.out];omega) d3.out);clear bz ai F W H G HX HK dV;go_upto_region 18 with fail;go_region
    all_goals
     go_wp2_with fail;go_ret;exact cm.out.drew
  |case rest=>
    obtain⟨b,rfl,HA⟩:=hcut;go_upto_if 77 with fail;go_cut [9] (λs9 wx=> ∃b,s9= .bool b/\Hid (tH w0.heap.size P txt L nodes.length R1 b wx/\Fr w0.heap.size P w wx))
    case first=>
     by_cases h2:t.kind=2
     ·have ak:kd=6:=by rw[<-bm.out,h2];rfl
      have D:t.kind≠4:=a_;have n:=Q.out;rw[if_neg D,if_pos h2] at n;have aW:=hid (ar.out 3 true (.inr ⟨rfl,rfl⟩) n);have d6:((kd:Int)==6)=true:=by rw[ak];rfl
      have hA:=HA.out;rw[if_neg D] at hA;obtain⟨rfl,rfl⟩:=hA;clear n D h2 Q ak;go_wp2_with fail;refine aW.out.mono ?_;rintro e bN ⟨b,rfl,af,A⟩;have aj:=hid af;have ag:=hid (G.out.trans A);clear af A;go_wp2_with fail;go_meet;exact⟨b,rfl,hid ⟨aj.out,ag.out⟩⟩
     ·have d6:((kd:Int)==6)=false:=aE.2 (by have:=aCD h2;rw[bm.out] at this;omega);have HG:Hid (tH w0.heap.size P txt L nodes.length R1 b wc/\Fr w0.heap.size P w wc):=hid (by
       have hA:=HA.out;by_cases D:t.kind=4
       ·rw[if_pos D] at hA;exact hA
       ·rw[if_neg D] at hA;obtain⟨rfl,rfl⟩:=hA;exact⟨c1.out D h2,G.out⟩)
      clear h2;go_wp2_with fail;go_meet;exact⟨b,rfl,HG⟩
    case rest=>
     clear HA;obtain⟨b,rfl,HG⟩:=hcut;obtain⟨cJ,M⟩:=HG.out;have bj:=hid cJ;have ch:=hid M;clear cJ M HG H G ar c1 Q;cases R1 with
     | bad a er=>
      have hb:=bj.out.1;subst hb;have HE:Hid (qG w0.heap.size P txt L R w (.returned (.bool false)) wc):=hid (by rw[<-bY.out];refine⟨rfl,bj.out.2.mono ?_,ch.out⟩;rw[co.out];omega);exact cd
     | ok rr ll ns=>
      obtain⟨hb,⟨k5,t5,rfl,az,rfl,cB⟩,cF⟩:=bj.out;subst hb;obtain⟨g5,cap5,dq,n1,n2,n3,n4,cz,cu⟩:=cB.to cF t5.st;have HE:Hid (qG w0.heap.size P txt L R w (.returned (.bool true)) (wc.setCell ⟨g5,nodes.length*7+2,none⟩ (.int .i64 (t5.st:Int)))):=hid (by rw[<-bY.out];exact⟨rfl,⟨k5,t5,rfl,az,rfl,cz⟩,ch.out.trans cu⟩);obtain⟨z5,nv5,_,lv5,ck,cr,_⟩:=cB;obtain⟨g6,o6,c6,rfl,hc6,t60,t61,dJ,_⟩:=cr.tok az;obtain⟨_,e1,e2,_⟩:=ck.cells;have hk50:(0:Int)<=(k5:Int):=a_;have cV:=(aR.1 az).1;have hk51:(k5:Int)<(L.length:Int):=a_;have dt:((k5+1:Nat):Int)-1=(k5:Int):=a_;obtain⟨kk5,cx⟩:=exQ<|k5+1;rw[cx] at dt e2;have dp:(0:Int)<=(nodes.length:Int):=a_;have c7:(nodes.length:Int)<(ns.length:Int):=a_;have t62':wc.cell? ⟨g6,o6+k5*3+1+1,none⟩=some (.int .i64 (t5.st:Int)):=dJ;have n3':wc.cell? ⟨g5,nodes.length*7+1+1,none⟩=some (.int .i64 dq):=n3;clear cz cu az ck cr bj ch bY cF cx cV;go_upto_region 21 with fail;go_region
      all_goals
       go_wp2_with fail;go_ret;exact qG.drewn HE.out V):P:=h
theorem qd(h:P:=by
 first
 |first|have _:=xg|have _:=xh
  have iu:=hx
 |skip
 first
 |first|have _:=xg|have _:=xh|have _:=xj
  obtain⟨z,hz,bz,dN⟩:=id hD0
 |obtain⟨z,hz,bz,dN⟩:=hD
 first
 |first|have _:=xm|have _:=xg|have _:=xh
  obtain⟨y,hy⟩: ∃y,z[k]?=some y:=ma;have iw:y.1=x:=by
   rw[<-hz,dE,hy] at hx;exact aV hx
  obtain⟨gn,cn,dL,rfl,gZ,_,lF⟩:=dN.form (λe=>by rw[e] at hy;cases hy)
 |have hkl:k<d.nodes.length:=by obtain⟨x,hx,_⟩:=hT;exact(aR.1 hx).1
  have cH:z.length=d.nodes.length:=E3
  obtain⟨gn,cn,dL,rfl,gZ,_,lF⟩:=dN.form (λe=>by rw[e] at cH;simp at cH;omega)
 first
 |first|have _:=xg|have _:=xh|have _:=xj
  obtain⟨pl,nl,cl,rfl⟩: ∃p n c,lvv= .slice p n c:=lw
 |obtain⟨pl,nl,cl,rfl⟩: ∃p n c,lv= .slice p n c:=lw
 first
 |first|have _:=xm|have _:=xg|have _:=xh
  have gE:=dN.kids y (bD hy);obtain⟨pk,ck,cc⟩: ∃p c,y.2= .slice p y.1.kids.length c:=ij
 |skip
 first
 |first|have _:=xg|have _:=xh
  have wP:Hid (∀w',Below w.heap.size w w'-> ∀(j q:Nat),x.kids[j]?=some q-> ∃gk,pk=some ⟨gk,0,none⟩/\w'.cell? ⟨gk,j,none⟩=some (.int .i64 (q:Int))):=hid (λw' dt j q hj=>by
   have gY:=gE;rw[cc,iw] at gY;have yR:=(aR.1 hj).1;rcases gY.2 with⟨h0,h1⟩ | ⟨g,cap,dL,h1,_⟩
   ·omega
   ·injection h1 with e1;subst e1;refine⟨g,rfl,cM ?_ dt⟩;rw[World.ownsRow.cellAt gY _ a_];unfold dJ;rw[dE,hj];rfl)
 |skip
 first
 |first|have _:=xm|have _:=xg|have _:=xh
  obtain⟨mk,eK⟩:=exQ<|y.1.kids.length
 |skip
 obtain⟨nz,ik⟩:=exQ<|z.length
 first
 |first|have _:=xm|have _:=xg|have _:=xh
  have cH:z.length=d.nodes.length:=E3
  have ox:k<z.length:=(aR.1 hy).1
 |skip
 first
 |first|have _:=xg|have _:=xh|have _:=xj
  rw[ik] at hD0 ⊢
 |rw[ik]
 first
 |first|have _:=xm|have _:=xg|have _:=xh
  have gC:(0:Int)<=(k:Int):=a_
  have ge:(k:Int)<(nz:Int):=a_
 |skip
 first
 |first|have _:=xg|have _:=xh
  have kM:Hid (∀w',Below w.heap.size w w'-> ∀(q:Nat) (yq:bA),d.nodes[q]?=some yq->w'.cell? ⟨gn,q*9+4,none⟩=some (.int .i64 yq.kf)/\w'.cell? ⟨gn,q*9+5,none⟩=some (.int .i64 yq.kt)):=hid (λw' dt q yq Z=>by
   obtain⟨u,hu⟩: ∃u,z[q]?=some u:=by
    rw[<-hz,dE] at Z;cases hh:z[q]? with
    | none=>rw[hh] at Z;cases Z
    | some u=>exact⟨u,rfl⟩
   have rW:u.1=yq:=by
    rw[<-hz,dE,hu] at Z;exact aV Z
   have h4:=(dN.at_ hu 4 a_ rfl).1;have h5:=(dN.at_ hu 5 a_ rfl).1;rw[rW] at h4 h5;exact⟨cM h4 dt,cM h5 dt⟩)
 |have _:=xm;have dk:decide ((k:Int)<0)=false:=aG a_;have dk2:decide ((nz:Int)<=(k:Int))=false:=aG a_;have dk3:decide (nz<=k)=false:=aG a_
 |skip
 first
 |first|have _:=xm|have _:=xg|have _:=xh
  have HC:Hid (∀j u,j<9->(jX y)[j]?=some u->w.cell? ⟨gn,k*9+j,none⟩=some u):=hid (λj u hj hu=>(dN.at_ hy j hj hu).1);obtain⟨wU,uH,gT⟩:=hb.nd x (bD hx);rw[iw] at eK cc
 |skip
 first
 |first|have _:=xg|have _:=xh
  rw[eK] at cc gT
 |have _:=xm;rw[eK] at cc;obtain⟨Aq,qi,qK,pr,cr,bh,sG⟩:=aBF bz x
 |have vG:decide ((k:Int)<0)=false:=aG a_;have vJ:decide ((nz:Int)<=(k:Int))=false:=aG a_;have xE:decide (nz<=k)=false:=aG a_
 obtain⟨W1,bo⟩:=exQ<|w.alloc (.cells #[bs s, .slice pl nl cl, .slice (some ⟨gn,0,none⟩) nz cn] 26);obtain⟨D,mw⟩:=exQ<|w.heap.size;have b1:Below w.heap.size w W1:=by rw[<-bo];exact aL _ _
 have h1:W1.heap[D]?=some (.cells #[bs s, .slice pl nl cl, .slice (some ⟨gn,0,none⟩) nz cn] 26):=by rw[<-bo,<-mw];exact heap_alloc_new w _
 first
 |first|have _:=xg|have _:=xh|have _:=xj
  obtain⟨W2,aY⟩:=exQ<|W1.alloc (.cells #[(0:Int), .string ⟨#[]⟩,(),()] 36);obtain⟨R,gA⟩:=exQ<|W1.heap.size
 |obtain⟨W2,aY⟩:=exQ<|W1.alloc (.cells #[(4:Int),x.ind,x.fr,x.til,x.kf,x.kt,x.rf,x.rt, .slice pk mk ck] 45)
  obtain⟨X,fd⟩:=exQ<|W1.heap.size
 have b2:Below W1.heap.size W1 W2:=by rw[<-aY];exact aL _ _
 first
 |first|have _:=xg|have _:=xh|have _:=xj
  have h2:W2.heap[R]?=some (.cells #[(0:Int),bs [],(),()] 36):=by rw[<-aY,<-gA];exact heap_alloc_new W1 _
 |skip
 first
 |have _:=xg;obtain⟨W3,a6⟩:=exQ<|W2.alloc (.cells #[(1:Int),x.ind,x.fr,x.til,x.kf,x.kt,x.rf,x.rt, .slice pk mk ck] 45)
 |have _:=xh;obtain⟨W3,a6⟩:=exQ<|W2.alloc (.cells #[(4:Int),x.ind,x.fr,x.til,x.kf,x.kt,x.rf,x.rt, .slice pk mk ck] 45)
 |skip
 first
 |first|have _:=xg|have _:=xh
  obtain⟨X,fd⟩:=exQ<|W2.heap.size;have b3:Below W2.heap.size W2 W3:=by rw[<-a6];exact aL _ _
 |skip
 first|have _:=xg;have h3:W3.heap[X]?=some (.cells #[(1:Int),x.ind,x.fr,x.til,x.kf,x.kt,x.rf,x.rt, .slice pk mk ck] 45):=by rw[<-a6,<-fd];exact heap_alloc_new W2 _|have _:=xh;have h3:W3.heap[X]?=some (.cells #[(4:Int),x.ind,x.fr,x.til,x.kf,x.kt,x.rf,x.rt, .slice pk mk ck] 45):=by rw[<-a6,<-fd];exact heap_alloc_new W2 _|skip
 first
 |first|have _:=xg|have _:=xh
  obtain⟨W4,du⟩:=exQ<|W3.alloc (.cells #[(5:Int), .string ⟨#[]⟩,(),()] 36);obtain⟨Y,k7⟩:=exQ<|W3.heap.size;have b4:Below W3.heap.size W3 W4:=by rw[<-du];exact aL _ _
  have h4:W4.heap[Y]?=some (.cells #[(5:Int),bs [],(),()] 36):=by rw[<-du,<-k7];exact heap_alloc_new W3 _
 |have _:=xm;have h2:W2.heap[X]?=some (.cells #[(4:Int),x.ind,x.fr,x.til,x.kf,x.kt,x.rf,x.rt, .slice pk mk ck] 45):=by rw[<-aY,<-fd];exact heap_alloc_new W1 _
  have a9:=hid (aC b1 b2)
 |skip
 have cU:=(b2.block D (aF h1)).trans h1
 first
 |first|have _:=xg|have _:=xh
  have fq:=(b3.block D (aF cU)).trans cU;have gc:=(b3.block R (aF h2)).trans h2
 |skip
 first
 |first|have _:=xg|have _:=xh|have _:=xj
  have a9:=hid (aC b1 b2)
 |skip
 first
 |first|have _:=xg|have _:=xh
  have bf:=hid (aC a9.out b3);have zu:=hid (aC bf.out b4);have eU:=hid b4;have H3:=hid (aK fq (aK gc h3));have H4:=hid h4
 |skip
 first
 |have _:=xg;have bW:Hid (∀w',Below W3.heap.size W3 w'->(w'.cell? ⟨D,0,none⟩=some (.string (bs s))/\w'.cell? ⟨D,1,none⟩=some (.slice pl nl cl)/\w'.cell? ⟨D,2,none⟩=some (.slice (some ⟨gn,0,none⟩) nz cn))/\(w'.cell? ⟨X,0,none⟩=some (.int .i64 1)/\w'.cell? ⟨X,6,none⟩=some (.int .i64 x.rf)/\w'.cell? ⟨X,7,none⟩=some (.int .i64 x.rt)/\w'.cell? ⟨X,8,none⟩=some (.slice pk mk ck))/\w'.heap[R]?=some (.cells #[(0:Int),bs [],(),()] 36)):=hid (λw' h=>by obtain⟨e0,e1,e2,_⟩:=eE ((h.block D (aF fq)).trans fq);obtain⟨f0,f1,f2,f3,f4,f5,f6,f7,f8⟩:=oJ ((h.block X (aF h3)).trans h3);exact⟨⟨e0,e1,e2⟩,⟨f0,f6,f7,f8⟩,(h.block R (aF gc)).trans gc⟩)
 |have _:=xh;have bW:Hid (∀w',Below W3.heap.size W3 w'->(w'.cell? ⟨D,0,none⟩=some (.string (bs s))/\w'.cell? ⟨D,1,none⟩=some (.slice pl nl cl)/\w'.cell? ⟨D,2,none⟩=some (.slice (some ⟨gn,0,none⟩) nz cn))/\(w'.cell? ⟨X,0,none⟩=some (.int .i64 4)/\w'.cell? ⟨X,6,none⟩=some (.int .i64 x.rf)/\w'.cell? ⟨X,7,none⟩=some (.int .i64 x.rt)/\w'.cell? ⟨X,8,none⟩=some (.slice pk mk ck))/\w'.heap[R]?=some (.cells #[(0:Int),bs [],(),()] 36)):=hid (λw' h=>by obtain⟨e0,e1,e2,_⟩:=eE ((h.block D (aF fq)).trans fq);obtain⟨f0,f1,f2,f3,f4,f5,f6,f7,f8⟩:=oJ ((h.block X (aF h3)).trans h3);exact⟨⟨e0,e1,e2⟩,⟨f0,f6,f7,f8⟩,(h.block R (aF gc)).trans gc⟩)
 |skip
 first
 |first|have _:=xg|have _:=xh
  have kL:R<W3.heap.size:=aF gc;have cb:W3.heap.size<=Y:=a_
 |have _:=xj;have H2:=hid h2
 |skip
 first
 |first|have _:=xg|have _:=xh|have _:=xj
  have pY:w.heap.size<=R:=by rw[<-gA];exact b1.size
 |skip
 first
 |first|have _:=xg|have _:=xh
  have qg:w.heap.size<=W3.heap.size:=bf.out.size;have mD:Hid (∀w',Below W3.heap.size W3 w'->eD B d (.slice pl nl cl) (.slice (some ⟨gn,0,none⟩) nz cn) w'):=hid (λw' h=>(hD0.keep bf.out).keep h);have pB:Hid (∀w',Below W3.heap.size W3 w'->bU w'):=hid (λw' h=>(hV.keep bf.out).keep h);have gx:Hid (∀(a b:Int) w',Calls Tryz.prog 28 #[.agg #[bs s, .slice pl nl cl, .slice (some ⟨gn,0,none⟩) nz cn], .agg #[a,b]] w' λe w2=>e= .returned (.string (bs (kG s a b)))/\Below w'.heap.size w' w2):=hid (λa b w'=>Bv s _ _ ⟨_,_,_,rfl⟩ ⟨_,_,_,rfl⟩ a b w' D9);have cX: ∀j u,j<9->(jX y)[j]?=some u->W2.cell? ⟨gn,k*9+j,none⟩=some u:=λj u hj hu=>by
   exact cM (HC.out j u hj hu) a9.out
 |have _:=xm;have mV:Hid (∀w',Below W2.heap.size W2 w'->w'.heap[D]?=some (.cells #[bs s, .slice pl nl cl, .slice (some ⟨gn,0,none⟩) nz cn] 26)/\w'.heap[X]?=some (.cells #[(4:Int),x.ind,x.fr,x.til,x.kf,x.kt,x.rf,x.rt, .slice pk mk ck] 45)):=hid (λw' h=>⟨(h.block D (aF cU)).trans cU,(h.block X (aF h2)).trans h2⟩);have cX: ∀j u,j<9->(jX y)[j]?=some u->W1.cell? ⟨gn,k*9+j,none⟩=some u:=λj u hj hu=>by
   exact cM (HC.out j u hj hu) b1
 |skip
 first
 |first|have _:=xm|have _:=xg|have _:=xh
  have y0:=cX 0 _ a_ rfl;have y1:=cX 1 _ a_ rfl;have y2:=cX 2 _ a_ rfl;have y3:=cX 3 _ a_ rfl;have y4:=cX 4 _ a_ rfl;have y5:=cX 5 _ a_ rfl;have y6:=cX 6 _ a_ rfl;have y7:=cX 7 _ a_ rfl;have y8:=cX 8 _ a_ rfl;rw[iw] at y0 y1 y2 y3 y4 y5 y6 y7;rw[cc] at y8
 |skip
 first
 |first|have _:=xg|have _:=xh
  rw[hkd] at y0
 |have _:=xm;rw[hk4] at y0
 |skip
 first
 |first|have _:=xm|have _:=xg|have _:=xh
  simp only[Nat.add_zero] at y0
 |skip
 first
 |first|have _:=xg|have _:=xh
  have d2:W2.cell? ⟨D,2,none⟩=some (.slice (some ⟨gn,0,none⟩) nz cn):=(eE cU).2.2.1;have kP:=hid (aK eK gT);have gv:=hid (hT.kid iu);have fD:=hid (cH.symm.trans ik);have xD:=hlev.out;clear b1 b2 b3 b4 h1 h2 h3 h4 cU fq gc hz bz dN gE cc hx hy iw cH ox lF gZ cX eK ik hT hD0 hV
 |skip
 first
 |have _:=xg;obtain⟨t,ht⟩:=exQ<|kG s x.rf x.rt
  have CB:=hid (λw'=>gx.out x.rf x.rt w');rw[ht] at CB;have dD:=Gm s x.rf x.rt;rw[ht] at dD;obtain⟨⟨T,er⟩,sg⟩:=exQ<|iB t;have CR:Hid (∀w',Below W3.heap.size W3 w'->Calls Tryz.prog 47 #[.string (bs t)] w' (pS T er w')):=hid (λw' dt=>by have:=Lj t w' D9 (pB.out w' dt);rw[sg] at this;exact this);have dm:bS s d (lv+1) k=T:=by
   unfold bS;rw[iu];simp only[];rw[if_pos hkd,ht,sg]
  rw[dm];clear dm sg ht hkd iu
 |have _:=xh;obtain⟨t,ht⟩:=exQ<|wO s d.lines x
  have CL:Hid (∀w',Below W3.heap.size W3 w'->Calls Tryz.prog 11 #[.agg #[bs s, .slice pl nl cl, .slice (some ⟨gn,0,none⟩) nz cn],k] w' λe w2=>e= .returned (.tuple #[.string (bs t),true])/\Below w'.heap.size w' w2):=hid (λw' dt=>by have:=Oo s d _ _ B w' (mD.out w' dt) hb hi64 k x iu hkd;rw[ht] at this;exact this);have AD:=hid (λw'=>xP t w');have dm:bS s d (lv+1) k=jC t:=by
   unfold bS;rw[iu];simp only[];rw[if_neg a_,if_pos hkd,ht]
  rw[dm];clear dm ht hkd iu
 |skip
 first
 |first|have _:=xg|have _:=xh
  go_enter Tryz.func26,Tryz.ntmps26
 |have _:=xm;obtain⟨d0,d1,d2,_⟩:=eE h1;obtain⟨ts,kR⟩:=exQ<|rJ s d.lines x;obtain⟨rs,k6⟩:=exQ<|qE d.lines x;obtain⟨m,hm⟩:=exQ<|rs.length;rw[k6] at bh sG;rw[hm] at bh;have pj:m<=131072:=by rw[<-hm,<-k6,yI];have:=hb.lns;omega
  have A0:=hb.lns;have zy:Hid (∀w',Calls Tryz.prog 27 #[.agg #[bs s, .slice pl nl cl, .slice (some ⟨gn,0,none⟩) nz cn], .agg #[(4:Int),x.ind,x.fr,x.til,x.kf,x.kt,x.rf,x.rt, .slice pk mk ck]] w' λe w2=>e= .returned (.slice pr m cr)/\Below w'.heap.size w' w2):=hid (λw'=>by have:=aBE s pl nl cl (.slice (some ⟨gn,0,none⟩) nz cn) ⟨_,_,_,rfl⟩ x (.slice pk mk ck) ⟨_,_,_,rfl⟩ w' a_ qi qK wU uH;rw[bh] at this;unfold Ol at this;rw[hk4] at this;exact this.mono (λe w2 h=>⟨h.2,h.1⟩));have gx:Hid (∀(a b:Int) w',Calls Tryz.prog 28 #[.agg #[bs s, .slice pl nl cl, .slice (some ⟨gn,0,none⟩) nz cn], .agg #[a,b]] w' λe w2=>e= .returned (.string (bs (kG s a b)))/\Below w'.heap.size w' w2):=hid (λa b w'=>Bv s _ _ ⟨_,_,_,rfl⟩ ⟨_,_,_,rfl⟩ a b w' D9);have Ab:Hid (∀w',Below W2.heap.size W2 w'-> ∀(i:Nat) (r:aP),rs[i]?=some r-> ∃g o,pr=some ⟨g,o,none⟩/\ ∀j u,j<10->(rA r)[j]?=some u->w'.cell? ⟨g,o+i*10+j,none⟩=some u):=hid (λw' h i r hi=>by obtain⟨g,o,e1,e2,e3⟩:=sG i r hi;exact⟨g,o,e1,λj u hj hu=>cM (cM (e3 j u hj hu) a9.out) h⟩);have dD:ts.length=m:=by rw[<-kR,aBM,k6,hm]
  have la: ∀(i:Nat) (r:aP),rs[i]?=some r->ts[i]?=some (kG s r.sf r.st,r.ind):=λi r hi=>by
   rw[<-kR];unfold rJ;rw[dE,k6,hi];rfl
  have wp: ∀q∈ts,0<=q.2/\q.2<=1099511627776:=λq Z=>by
   rw[<-kR] at Z;unfold rJ at Z;obtain⟨r,hr,rfl⟩:=rQ.1 Z;have vs:r∈d.lines:=by unfold qE at hr;exact List.mem_of_mem_take (List.mem_of_mem_drop hr)
   exact⟨hb.ind r vs,hi64 r vs⟩
  have sC: ∀q∈ts,q.1.length<=65536:=λq Z=>by
   rw[<-kR] at Z;unfold rJ at Z;obtain⟨r,hr,rfl⟩:=rQ.1 Z;have:=Gm s r.sf r.st;have:=hb.txt;simp only[];omega
  obtain⟨Y,hY⟩:=exQ<|wO s d.lines x;have HY:=hid hY;rw[hY];unfold wO at hY;rw[kR] at hY;have HT:=hid (aK dD (aK la (aK wp sC)));have u6:=hid hY;obtain⟨i0,cy,cm,dg,dh⟩:=info_parts Tryz.infoString;have HM:=hid (aK hm k6);have HKX:=hid hk4;have pe:=hid hb;clear Aq ik A0 qi qK bh sG dD la wp sC kR k6 hm hY hz bz dN gE cc eK hx hy iw h1 h2 b1 b2 cU cH ox lF gZ hi64 cX hk4 hb;go_enter Tryz.func11,Tryz.ntmps11
 |have q6:R<W2.heap.size:=aF h2;obtain⟨T,sR⟩:=exQ<|bS s d 32 k;have CN:Hid (∀w',Below W2.heap.size W2 w'->Calls Tryz.prog 26 #[.agg #[bs s, .slice pl nl cl, .slice (some ⟨gn,0,none⟩) nz cn],k,(1:Int)] w' (mJ T w')):=hid (λw' h=>by have:=Oq s d hb hi64 32 B (.slice pl nl cl) (.slice (some ⟨gn,0,none⟩) nz cn) k m 1 w' hT (hid b_) (aD _) ((hD0.keep a9.out).keep h) ((hV.keep a9.out).keep h);rw[sR] at this;exact this);rw[sR];obtain⟨d0,d1,d2,_⟩:=eE cU;clear b1 b2 h1 h2 cU hz bz dN hkl cH lF gZ ik sR hT hD0 hV;go_enter Tryz.func10,Tryz.ntmps10
 go_upto_region 1 with fail
 first
 |first|have _:=xg|have _:=xh|have _:=xj
  clear bo aY mw gA
 |skip
 first
 |first|have _:=xg|have _:=xh
  go_upto_region 2 with fail;clear a6 fd y0 y1 y2 y3 y4 y5 y6 y7 y8 d2;have tg:=hid du;clear du
 |have _:=xm;clear bo
 |skip
 first
 |first|have _:=xm|have _:=xg|have _:=xh
  go_upto_region 3 with fail
 |skip
 first
 |first|have _:=xg|have _:=xh
  first | rw[tg.out] | skip
  clear k7;obtain⟨⟨e0,e1,e2⟩,⟨x0,x6,x7,x8⟩,hr⟩:=bW.out W4 eU.out
 |skip
 first|have _:=xg;have kz:=aF H4.out;go_wp2_with fail;refine(CB.out _).mono ?_|have _:=xh;go_wp2_with fail;refine(CL.out _ (by first | exact eU.out | exact eU.out.drew)).mono ?_|skip
 first
 |first|have _:=xg|have _:=xh
  rintro e w5 ⟨rfl,aj⟩;have dr:Hid (Below W4.heap.size W4 w5):=hid s_;clear aj e0 e1 e2 x0 x6 x7 x8 hr;go_wp2_with fail
 |skip
 first|have _:=xg;refine(CR.out _ (by first | exact eU.out.trans (dr.out.mono eU.out.size))).mono ?_|have _:=xj;go_wp2_with fail;refine(CN.out _ f_).mono ?_|skip
 first
 |first|have _:=xg|have _:=xj
  rintro e w6 ⟨⟨kv,iv,rfl,jf⟩,a8⟩
 |skip
 first|have _:=xg;have eh:=hid (aC dr.out a8)|have _:=xj;have eh:Hid (Below W2.heap.size W2 w6):=hid DR|skip
 first
 |first|have _:=xg|have _:=xj
  obtain⟨gQ,gN,gS,gG,rfl,rfl⟩:=jf.toVD.form
 |skip
 first
 |have _:=xg;have AH:Hid (fX W4.heap.size w6 T.depth T (.slice gQ T.keys.length gN) (.slice gS T.items.length gG)):=hid (jf.mono (λq Z _=>aZ dr.out.size Z));have nR:=hid (iJ (t:=T) eU.out cb kz AH.out eh.out H4.out);obtain⟨c0,c1,c2,c3,f0,f1,f2,f3⟩:=bJ ((eh.out.block Y kz).trans H4.out);unfold vv;clear jf a8;go_upto_region 6 with fail;have gt:(((w6.setCell ⟨Y,0,none⟩ (.int .i64 T.kind)).setCell ⟨Y,1,none⟩ (.string (bs T.text))).setCell ⟨Y,2,none⟩ (.slice gQ T.keys.length gN)).setCell ⟨Y,3,none⟩ (.slice gS T.items.length gG)=bB w6 Y T.kind T.text (.slice gQ T.keys.length gN) (.slice gS T.items.length gG):=rfl;rw[gt];obtain⟨WF,gX⟩:=exQ<|bB w6 Y T.kind T.text (.slice gQ T.keys.length gN) (.slice gS T.items.length gG);rw[gX] at nR ⊢;clear gt gX c0 c1 c2 c3 f0 f1 f2 f3;obtain⟨c0,c1,c2,c3,_⟩:=bJ nR.out.2.2;obtain⟨_,_,hr⟩:=bW.out WF nR.out.2.1
 |have _:=xh;refine(AD.out _).mono ?_;rintro e w6 ⟨rfl,a8⟩;have eh:Hid (Below W3.heap.size W3 w6):=hid (eU.out.trans ((aC dr.out a8).mono eU.out.size));obtain⟨_,_,hr⟩:=bW.out w6 eh.out
 |skip
 first
 |first|have _:=xg|have _:=xh
  obtain⟨r0,r1,r2,r3,g0,g1,g2,g3⟩:=bJ hr
 |skip
 first
 |have _:=xg;have iK:=hid (iJ (t:=T) bf.out pY kL nR.out.1 nR.out.2.1 H3.out.2.1);clear hr;go_wp2_with fail;have iZ:(((WF.setCell ⟨R,0,none⟩ (.int .i64 T.kind)).setCell ⟨R,1,none⟩ (.string (bs T.text))).setCell ⟨R,2,none⟩ (.slice gQ T.keys.length gN)).setCell ⟨R,3,none⟩ (.slice gS T.items.length gG)=bB WF R T.kind T.text (.slice gQ T.keys.length gN) (.slice gS T.items.length gG):=rfl;rw[iZ];obtain⟨WR,j4⟩:=exQ<|bB WF R T.kind T.text (.slice gQ T.keys.length gN) (.slice gS T.items.length gG)
 |have _:=xh;have iK:=hid (iJ (t:=jC t) bf.out pY kL (kY _ _ _ _) eh.out H3.out.2.1);clear hr a8;go_wp2_with fail;have iZ:(((w6.setCell ⟨R,0,none⟩ (.int .i64 4)).setCell ⟨R,1,none⟩ (.string (bs t))).setCell ⟨R,2,none⟩ (.slice none 0 0)).setCell ⟨R,3,none⟩ (.slice none 0 0)=bB w6 R (jC t).kind (jC t).text (.slice none 0 0) (.slice none 0 0):=rfl;rw[iZ];obtain⟨WR,j4⟩:=exQ<|bB w6 R (jC t).kind (jC t).text (.slice none 0 0) (.slice none 0 0)
 |have _:=xj;have iK:=hid (iJ (t:=T) a9.out pY q6 jf eh.out H2.out);obtain⟨r0,r1,r2,r3,g0,g1,g2,g3⟩:=bJ ((eh.out.block R q6).trans H2.out);unfold vv;clear jf a8 d0 d1 d2;go_wp2_with fail;have iZ:(((w6.setCell ⟨R,0,none⟩ (.int .i64 T.kind)).setCell ⟨R,1,none⟩ (.string (bs T.text))).setCell ⟨R,2,none⟩ (.slice gQ T.keys.length gN)).setCell ⟨R,3,none⟩ (.slice gS T.items.length gG)=bB w6 R T.kind T.text (.slice gQ T.keys.length gN) (.slice gS T.items.length gG):=rfl;rw[iZ];obtain⟨WR,j4⟩:=exQ<|bB w6 R T.kind T.text (.slice gQ T.keys.length gN) (.slice gS T.items.length gG)
 |skip
 first
 |first|have _:=xg|have _:=xh|have _:=xj
  rw[j4] at iK ⊢;clear iZ j4 r0 r1 r2 r3 g0 g1 g2 g3;obtain⟨d0,d1,d2,d3,_⟩:=bJ iK.out.2.2
 |skip
 first|have _:=xg;refine bodyPost_ret (v:= .agg #[T.kind,bs T.text, .slice gQ T.keys.length gN, .slice gS T.items.length gG]) ?_ rfl ⟨⟨_,_,rfl,iK.out.1⟩,iK.out.2.1⟩|have _:=xh;refine bodyPost_ret (v:= .agg #[.int .i64 (jC t).kind, .string (bs (jC t).text),(),()]) ?_ rfl ⟨⟨_,_,rfl,iK.out.1⟩,iK.out.2.1⟩|skip
 first
 |first|have _:=xg|have _:=xh
  simp[results,Tryz.results26,go_sem,d0,d1,d2,d3]
 |have _:=xm;go_upto_region 4 with fail;clear aY;clear y0 y1 y2 y3 y4 y5 y6 y7 y8 d0 d1 d2;obtain⟨cU,df⟩:=mV.out W2 (aB _ _);obtain⟨d0,d1,d2,_⟩:=eE cU;obtain⟨n0,n1,n2,n3,n4,n5,n6,n7,n8⟩:=oJ df;have hDl:D<W2.heap.size:=aF cU;have mo:X<W2.heap.size:=aF df;clear cU df;go_wp2_with fail;refine(zy.out _).mono ?_;rintro e w3 ⟨rfl,bI⟩;have bf:Hid (Below W2.heap.size W2 w3):=hid DS;clear bI n0 n1 n2 n3 n4 n5 n6 n7 n8 d0 d1 d2;go_wp2_with fail;go_loopw [42,7,8] (λkQ s7 s8 wr=> ∃i:Nat,kQ= .int .i64 (i:Int)/\i<=m/\s7= .int .i64 (lD (ts.take i))/\Hid (bP W2.heap.size ((ts.take i).map (·.1)) s8 wr)/\Hid (Below W2.heap.size W2 wr)) (λkQ _ _ _=>m-(RowKit.intOf kQ).toNat)
  case atStart=>exact⟨0,rfl,dY _,rfl,hid (bP.nil _ _),bf⟩
  case round=>
   clear bf;obtain⟨i,rfl,hi,rfl,HO,dQ⟩:=hrel;by_cases him:i<m
   ·have dk:decide ((i:Int)<(m:Int))=true:=aO a_;obtain⟨r,hr⟩: ∃r,rs[i]?=some r:=⟨_,bC (by have:=HM.out.1;omega)⟩;obtain⟨g,o,rfl,I⟩:=Ab.out wr dQ.out i r hr;have g0:=I 0 _ a_ rfl;have g1:=I 1 _ a_ rfl;have g2:=I 2 _ a_ rfl;have g3:=I 3 _ a_ rfl;have g4:=I 4 _ a_ rfl;have g5:=I 5 _ a_ rfl;have g6:=I 6 _ a_ rfl;have g7:=I 7 _ a_ rfl;have g8:=I 8 _ a_ rfl;have g9:=I 9 _ a_ rfl;simp only[Nat.add_zero] at g0;have hii0:(0:Int)<=(i:Int):=a_;have hii1:(i:Int)<(m:Int):=a_;obtain⟨i1,jw⟩:=exQ<|i+1;have br:(i:Int)+1=(i1:Int):=a_;have wM:i1<=m:=a_;have la:=HT.out.2.1 i r hr;obtain⟨t,ht⟩:=exQ<|kG s r.sf r.st;have CB:=hid (λw'=>gx.out r.sf r.st w');rw[ht] at CB la;have r9:ts.take i1=ts.take i++ [(t,r.ind)]:=by rw[<-jw,List.take_add_one,la];rfl
    have cY:=On t r.ind (ts.take i) (λq Z=>(HT.out.2.2.1 q (List.mem_of_mem_take Z)).1);rw[<-r9] at cY;have xx:Hid (((ts.take i).map (·.1)).length=i):=hid (by rw[bR,bT,HT.out.1];omega);have jv:Hid ((ts.take i1).map (·.1)=(ts.take i).map (·.1)++ [t]):=hid (by rw[r9,nE];rfl);obtain⟨c,hc⟩:=exQ<|lD (ts.take i);have xR:=hid (Gj (ts.take i) (λq Z=>HT.out.2.2.1 q (List.mem_of_mem_take Z)));rw[hc] at cY xR;have xY:=hid cY;have pg:=aL wr (.cells (lineA r) 68);have na:=heap_alloc_new wr (.cells (lineA r) 68);obtain⟨sD,qq⟩:=exQ<|wr.heap.size;obtain⟨W3,a6⟩:=exQ<|wr.alloc (.cells (lineA r) 68);rw[a6] at pg na;rw[qq] at na;have jL:=hid pg;have vV:=hid na;unfold lineA at a6;obtain⟨fq,zf⟩:=mV.out W3 (dQ.out.trans (pg.mono dQ.out.size));obtain⟨d0,d1,d2,_⟩:=eE fq;have bL:bF W3 sD r:=na;obtain⟨l0,l1,l2,l3,l4,l5,l6,l7,l8,l9,_⟩:=bL.cells;rw[hc];have CT:=hid (λw'=>aBH t w');obtain⟨q,Z⟩:=exQ<|Lib.trimLeftB t 32;have tI:=aBG t;rw[Z] at CT tI;have pw:=hid tI;clear I hr la r9 cY hc pg na fq zf bL Z tI ht jw;go_upto_region 9 with fail;clear a6 qq g0 g1 g2 g3 g4 g5 g6 g7 g8 g9;go_wp2_with fail;refine(CB.out _).mono ?_;rintro e w5 ⟨rfl,aj⟩;have dr:Hid (Below W3.heap.size W3 w5):=hid s_;clear aj l0 l1 l2 l3 l4 l5 l6 l7 l8 l9 d0 d1 d2;have q9:bF w5 sD r:=(dr.out.block sD (aF vV.out)).trans vV.out;obtain⟨_,_,_,l3,_⟩:=q9.cells;have oF:Hid (w5.ownsRow W2.heap.size 9 1 u8 i (iQ ((ts.take i).map (·.1)))):=hid (by have:=(HO.out.keep jL.out).keep dr.out;unfold bP at this;rw[xx.out] at this;exact this);clear q9;by_cases fo:c<0
    ·have dc:decide (c<0)=true:=aO fo;have cY:=xY.out;rw[if_pos fo] at cY;by_cases ih:q= []
     ·have e0:((bs q).toList== [])=true:=by rw[ih];exact pR []
      have yr:(bs q).toList.isEmpty=true:=by rw[ih];exact nZ []
      rw[if_neg (λh=>h (pw.out.1 ih))] at cY;have hcm:c= -1:=by have:=xR.out;omega
      exact iy
     ·have e0:((bs q).toList== [])=false:=by rw[pR];cases q<;>simp at ih ⊢
      have yr:(bs q).toList.isEmpty=false:=by rw[nZ];cases q<;>simp at ih ⊢
      rw[if_pos (λh=>ih (pw.out.2 h))] at cY;exact iy
    ·have dc:decide (c<0)=false:=aG fo;have cY:=xY.out;rw[if_neg fo] at cY;clear fo;have lP:W2.heap.size<=w5.heap.size:=aZ dQ.out.size (aZ jL.out.size dr.out.size);go_wp2_with (first | (fail) | (at_builtin;go_must (refine rM rfl _ _ 33 rfl W2.heap.size 9 i0 _ 1 16 Tryz.underlying33 cy cm dg dh rfl b_ w5 u8 i (iQ ((ts.take i).map (·.1))) rfl oF.out #[.string (bs t)] rfl rfl A_ a_ b_ lP ?_);intro v1 w7 nm wR nY pH uj));exact ol
   ·obtain rfl:i=m:=a_;have dk:decide ((i:Int)<(i:Int))=false:=aG a_;have sz:ts.take i=ts:=(by rw[<-HT.out.1,List.take_length]);obtain⟨tl,dD⟩:=exQ<|ts.map (·.1);obtain⟨c,hc⟩:=exQ<|lD ts;have hO:=HO.out;rw[sz,dD] at hO;rw[sz,hc];have lT:tl.length=i:=by rw[<-dD,bR];exact HT.out.1
    have Au:=Gj ts HT.out.2.2.1;rw[hc] at Au;have qo: ∀t∈tl,t.length<=65536:=λt ht=>by
     rw[<-dD] at ht;obtain⟨q,Z,rfl⟩:=rQ.1 ht;exact HT.out.2.2.2 q Z
    obtain⟨C,hC⟩:=exQ<|c.toNat;have hmx:max c 0=(C:Int):=a_;obtain⟨pu,cu,xc⟩:=hO.slice;rw[lT] at xc;subst xc;have je:=hid (aK lT (aK qo dD));have xy:=hid (aK hc hC);have tN:Hid (bP W2.heap.size (kH C 0 tl) (.slice pu i cu) wr):=hid (by rw[aBL];exact hO);clear hO HO sz hc dD lT qo hC;go_wp2_with fail;go_loopw [66,12,13] (λnL mC ia wx=> ∃j:Nat,nL= .int .i64 (j:Int)/\j<=i/\Hid (bP W2.heap.size (kH C j tl) (.slice pu i cu) wx)/\Hid (Below W2.heap.size W2 wx)) (λnL _ _ _=>i-(RowKit.intOf nL).toNat)
    case atStart=>exact⟨0,rfl,dY _,tN,dQ⟩
    case round=>
     clear tN dQ;obtain⟨j,rfl,hj,HO,dQ⟩:=hrel;by_cases hji:j<i
     ·have dj:decide ((j:Int)<(i:Int))=true:=aO a_;have bH:(0:Int)<=(j:Int):=a_;have sn:(j:Int)<(i:Int):=a_;obtain⟨t,ht⟩: ∃t,tl[j]?=some t:=⟨_,bC (by rw[je.out.1];exact hji)⟩;have ki:=aBI (c:=C) ht;have hO:=HO.out;obtain⟨g,rfl,AS⟩: ∃g,pu=some ⟨g,0,none⟩/\W2.heap.size<=g:=by
       rcases hO.2 with⟨h0,h1⟩ | ⟨g,cap,dL,h1,h2,_⟩
       ·rw[Gl,je.out.1] at h1;omega
       ·injection h1 with e1;exact⟨g,e1,h2⟩
      have cJ:(kH C j tl).length=i:=by rw[Gl];exact je.out.1
      have oS:bP W2.heap.size (kH C j tl) (.slice (some ⟨g,0,none⟩) (kH C j tl).length cu) wr:=by rw[cJ];exact hO
      have I:wr.cell? ⟨g,j,none⟩=some (.string (bs t)):=by
       rw[World.ownsRow.cellAt oS _ (by rw[cJ];omega)];unfold iQ;rw[dE,ki];rfl
      have hfz:wr.frozen? ⟨g,j,none⟩=false:=World.ownsRow.frozenAt oS _;have oi:=oS.stored j (t.drop C);rw[<-aBJ ht] at oi;have bO:(kH C (j+1) tl).length=i:=by rw[Gl];exact je.out.1
      rw[bO] at oi;have sC:=je.out.2.1 t (bD ht);obtain⟨e,he⟩:=exQ<|min C t.length;have hmn:min (C:Int) (t.length:Int)=(e:Int):=a_;have hel:e<=t.length:=a_;have mQ:(bs t).extract e t.length=bs (t.drop C):=by
       rw[gL,aQ];congr 1;rw[<-he];by_cases kp:C<=t.length
       ·rw[Nat.min_eq_left kp,uC (by rw[aU];exact aD _)]
       ·rw[Nat.min_eq_right a_,List.drop_length,List.drop_eq_nil_of_le a_];simp
      have mg:=aM t;have he1:(e:Int)<=(t.length:Int):=a_;have he0:(0:Int)<=(e:Int):=a_;obtain⟨j1,qv⟩:=exQ<|j+1;have hj1z:(j:Int)+1=(j1:Int):=a_;rw[qv] at oi;have yK:=hid oi;have pe:=hid (dQ.out.setCell (p:=⟨g,j,none⟩) AS (.string (bs (t.drop C))));clear ht ki hO cJ oS oi bO he qv;go_wp2_with fail;go_roundw
      ·exact⟨j1,rfl,a_,yK,pe⟩
      ·exact bw
     ·obtain rfl:j=i:=a_;have dj:decide ((j:Int)<(j:Int))=false:=aG a_;have hO:bP W2.heap.size (tl.map (·.drop C)) (.slice pu j cu) wr:=by
       have:=HO.out;rw[show kH C j tl=tl.map (·.drop C) by rw[<-je.out.1,aBK]] at this;exact this
      obtain⟨J,hJ⟩:=exQ<|qD (tl.map (·.drop C));have bp: ∀t∈tl.map (·.drop C),t.length<=65536:=λt ht=>by
       obtain⟨q,Z,rfl⟩:=rQ.1 ht;have:=je.out.2.1 q Z;simp only[aU];omega
      have tJ:(tl.map (·.drop C)).length=j:=by rw[bR];exact je.out.1
      have zX:=Gn 65536 _ bp;rw[hJ,tJ] at zX;have xI:j*(65536+1)<=131072*65537:=Nat.mul_le_mul_right _ pj;have hJsz:=aM J;have CJ:Hid (∀w',Below wr.heap.size wr w'->Calls Tryz.prog 30 #[.slice pu j cu, .string ⟨#[10]⟩] w' λe w2=>e= .returned (.string (bs J))/\Below w'.heap.size w' w2):=hid (λw' hb=>by have:=aBN (hO.keep hb) (by rw[tJ];exact pj) bp;rw[hJ] at this;exact this);have fP:=u6.out;rw[show (ts.map λt=>t.1.drop (lD ts).toNat)=tl.map (·.drop C) by rw[<-je.out.2.2,List.map_map,xy.out.1,xy.out.2];rfl,hJ] at fP;have qX:=hid fP;obtain⟨cU,df⟩:=mV.out wr dQ.out;have vh:Hid (Below w.heap.size w wr):=hid (a9.out.trans (dQ.out.mono a9.out.size));clear hO hJ bp tJ xI fP u6 HO cU df;have hJl2:J.length<=8590065664:=a_;go_wp2_with fail;refine(CJ.out _ f_).mono ?_;rintro e w6 ⟨rfl,a8⟩;have eh:Hid (Below wr.heap.size wr w6):=hid DR;obtain⟨cU,df⟩:=mV.out w6 (dQ.out.trans (eh.out.mono dQ.out.size));obtain⟨d0,d1,d2,_⟩:=eE cU;obtain⟨n0,n1,n2,n3,n4,n5,n6,n7,n8⟩:=oJ df;have r6:Hid (Below w.heap.size w w6):=hid (vh.out.trans (eh.out.mono vh.out.size));clear a8 cU df;by_cases bH:j=0
      ·subst bH;have fP:=qX.out;rw[if_neg (λe=>e.1 (List.length_eq_zero_iff.1 HT.out.1)),List.append_nil] at fP;have HF:=hid fP;clear fP;go_wp2_with fail;go_ret2;rw[<-HF.out];exact⟨rfl,by first | exact r6.out | exact r6.out.drew⟩
      ·have dj2:decide ((0:Int)<(j:Int))=true:=aO a_;have dj3:decide (0<j)=true:=aO a_;have ga:ts≠ []:=λe=>bH (by rw[<-HT.out.1,e];rfl);obtain⟨rb,wC⟩:=exQ<|kG s x.rf x.rt;have CR:=hid (λw'=>gx.out x.rf x.rt w');have fP:=qX.out;rw[wC] at CR fP;by_cases hrb2:rb= [124]
       ·rw[if_pos ⟨ga,hrb2⟩] at fP;have e1:=tF hrb2;have HF:=hid fP;have hcat:bs J++⟨#[10]⟩=bs (J++ [10]):=(kK J [10]).symm;exact jg
       ·rw[if_neg (λe=>hrb2 e.2),List.append_nil] at fP;have e1:=rI hrb2;have HF:=hid fP;exact jg
 |refine bodyPost_ret (v:= .tuple #[.agg #[T.kind,bs T.text, .slice gQ T.keys.length gN, .slice gS T.items.length gG],true]) ?_ rfl ⟨⟨_,_,rfl,iK.out.1⟩,iK.out.2.1⟩;simp[results,Tryz.results10,go_sem,d0,d1,d2,d3]):P:=h
theorem qj(h:P:=by
 first
 |have _:=ya;obtain⟨⟨r,at_,er⟩,G⟩:=exQ<|eZ txt x.1 x.2
  rw[G];obtain⟨i0,cy,cm,dg,dh⟩:=info_parts Tryz.infoLine;have ge:=(aR.1 hx).1;obtain⟨k,hk⟩:=exQ<|st.lines.length;rw[hk] at ge hx;obtain⟨W0,ai⟩:=exQ<|w.drew;have uo:Below w.heap.size w W0:=by rw[<-ai];exact(aB _ _).drew
  have h0:=h.keep uo;have HJ:=hid (h0.toJ hz)
 |have _:=yb;have kE:k=n:=by have:=of_decide_eq_true pC.out;have:=HL.out.1;have:=HN.out;omega
  have dU:Hid (ls.length=k):=hid (by rw[kE];exact HN.out);subst kE;have hr:=dw.out;rw[List.getElem?_eq_none (by have:=dU.out;omega)] at hr;simp only[] at hr;obtain⟨⟨r,at_,er⟩,kW⟩:=exQ<|eZ txt x.1 x.2;rw[kW] at hr;simp only[] at hr;obtain⟨W0,ai⟩:=exQ<|wr.drew;have h0:gU YQ Pr w0 P txt sp ls z nv st.total 0 0 W0:=by rw[<-ai];exact HJ.out.keep (aB _ _).drew
  have bn:=hid (h0.toJ (ns:=z.map (·.1)) rfl)
 |skip
 first
 |first|have _:=ya|have _:=yb
  obtain⟨sv,lv,hK⟩:=h0
 |skip
 first|have _:=ya;obtain⟨gs,cs,rfl,cY,_,_⟩:=hK.spanAt hx|have _:=yb;obtain⟨gs,cs,rfl,cY,_,_⟩:=hK.spanAt HX.out|skip
 first
 |first|have _:=ya|have _:=yb
  obtain⟨pl,cl,rfl⟩:=hK.lnSlice
 |skip
 first
 |have _:=ya;rw[hk] at hK;have HK:=hid hK;have uN:bU W0:=hV.keep hK.bel;have CL:Hid (∀w',Below W0.heap.size W0 w'->Calls Tryz.prog 105 #[bs txt, .agg #[x.1,x.2]] w' λe w2=>e=jV (r,at_,er)/\Below w'.heap.size w' w2):=hid (λw' hb=>by have hv:=uN.keep hb;have:=Xj txt x.1 x.2 w' a_ hv.2 hv.tabs hv.mvar;rw[G] at this;exact this)
 |have _:=yb;rw[dU.out] at hK;have HK:=hid hK;have CL:Hid (∀w',Below W0.heap.size W0 w'->Calls Tryz.prog 36 #[bs txt, .agg #[x.1,x.2]] w' λe w2=>e=jV (r,at_,er)/\Below w'.heap.size w' w2):=hid (λw' hb=>by have:=Yy txt x.1 x.2 w' a_;rw[kW] at this;exact this)
 |skip
 first
 |first|have _:=ya|have _:=yb
  unfold jV dW at CL;obtain⟨SA,ah⟩: ∃S:World->Prop,(λw'=>(w'.cell? ⟨P,0,none⟩=some (.string (bs txt))/\w'.cell? ⟨P,1,none⟩=some (.slice (some ⟨gs,0,none⟩) sp.length cs)/\w'.cell? ⟨P,2,none⟩=some (.slice pl k cl))/\w'.cell? ⟨gs,k*2,none⟩=some (.int .i64 (x.1:Int))/\w'.cell? ⟨gs,k*2+1,none⟩=some (.int .i64 (x.2:Int)))=S:=⟨_,rfl⟩
 |skip
 first
 |have _:=ya;have ak:Hid (∀w',Below W0.heap.size W0 w'->SA w'):=hid (λw' hb=>by rw[<-ah];have av:=HK.out.keep hb;obtain⟨⟨c0,c1,c2,_⟩,_⟩:=av.cells;obtain⟨g2,lC,e2,_,s0,s1⟩:=av.spanAt hx;injection e2 with e2;injection e2 with e2;injection e2 with e2;subst e2;exact⟨⟨c0,c1,c2⟩,s0,s1⟩);have gC:(0:Int)<=(k:Int):=a_
  have tr:(k:Int)<(sp.length:Int):=a_
  have HX:=hid hx;have dU:=hid hk;have HZ:=hid hz;clear hK h uo uN hz G hx hk;go_enter Tryz.func72,Tryz.ntmps72;go_upto_region 1 with fail;refine iW [7,8,9,10,11,12,13,14,15,16,17,18,19,20,21,22,6,23,24,25,3,4,5] [21] [21] 20 (nI W0 68 (lineA aW)) 42 [some P,some P,some P,bs txt,some P,some P, .pointer (some ⟨P,1,none⟩), .slice (some ⟨gs,0,none⟩) sp.length cs,some P,some P, .pointer (some ⟨P,2,none⟩), .slice pl k cl,k, .pointer (some ⟨gs,k*2,none⟩), .agg #[x.1,x.2], .tuple #[.agg #[r.kind,r.sf,r.st,r.ind,r.kf,r.kt,r.rf,r.rt,r.nf,r.nt],at_,er], .tuple #[.agg #[r.kind,r.sf,r.st,r.ind,r.kf,r.kt,r.rf,r.rt,r.nf,r.nt],at_,er], .agg #[r.kind,r.sf,r.st,r.ind,r.kf,r.kt,r.rf,r.rt,r.nf,r.nt],at_,er,undef,undef,at_,er] SA (uQ W0 68 (lineA r)) [15,20,21,0,1,2,4,5,6,8,9,10,12,16,17,18,19,22,23,3,7,11,13,14] j_ i_ ?_ ?_
 |have _:=yb;have ak:Hid (∀w',Below W0.heap.size W0 w'->SA w'):=hid (λw' hb=>by rw[<-ah];have av:=HK.out.keep hb;obtain⟨⟨c0,c1,c2,_⟩,_⟩:=av.cells;obtain⟨g2,lC,e2,_,s0,s1⟩:=av.spanAt HX.out;injection e2 with e2;injection e2 with e2;injection e2 with e2;subst e2;exact⟨⟨c0,c1,c2⟩,s0,s1⟩);have bi:=hid hr;clear hK hr kW pC;go_upto_region 5 with fail;refine iW [28,29,30,31,32,33,34,35,36,37,38,39,27,40,41,42,7,8,9] [17] [17] 16 (nI W0 68 (lineA aW)) 85 [some P,some P,some P,bs txt,some P,some P, .pointer (some ⟨P,1,none⟩), .slice (some ⟨gs,0,none⟩) sp.length cs,k, .pointer (some ⟨gs,k*2,none⟩), .agg #[x.1,x.2], .tuple #[.agg #[r.kind,r.sf,r.st,r.ind,r.kf,r.kt,r.rf,r.rt,r.nf,r.nt],at_,er], .tuple #[.agg #[r.kind,r.sf,r.st,r.ind,r.kf,r.kt,r.rf,r.rt,r.nf,r.nt],at_,er], .agg #[r.kind,r.sf,r.st,r.ind,r.kf,r.kt,r.rf,r.rt,r.nf,r.nt],at_,er,undef,undef,at_,er] SA (uQ W0 68 (lineA r)) [11,16,17,0,1,2,4,5,6,8,12,13,14,15,18,19,3,7,9,10] j_ i_ ?_ ?_
 |skip
 first
 |first|have _:=ya|have _:=yb
  ·intro d a w' iq o' hO ho hi E aa F R' G;first|have _:=ya;have Z:=eA aa [(0,some P)] rfl rfl;have hc:=F.all [(16,6),(0,7),(1,8),(2,9),(3,10),(4,11),(5,12),(6,13),(7,14),(8,15),(9,16),(10,17),(11,18),(12,19),(13,20),(14,21),(15,22),(17,23),(18,24),(19,25)] b_|have Z:=eA aa [(0,some P),(6,k)] rfl rfl;have hc:=F.all [(12,27),(0,28),(1,29),(2,30),(3,31),(4,32),(5,33),(6,34),(7,35),(8,36),(9,37),(10,38),(11,39),(13,40),(14,41),(15,42)] b_
   dsimp only[dX,dT,lk] at Z hc;clear aa;have ha:=E;have ad:=ho
   repeat' rcases hO with _ | ⟨_,hO⟩
   all_goals (simp only[dA,cR,bZ,cG] at ho;subst ho;try simp[Region.binds] at E)
   ·first|have _:=ya;have c10:=F.gg 3 10 c_;have xM:=F.gg 14 21 c_;have hA:Below W0.heap.size W0 w':=F.at2 (j:=0) rfl (F.lastNot (f:=24) (i:=15) d' hi) (.inl rfl);go_simp;go_at_call 105|have yH:=F.gg 3 31 c_;have zj:=F.gg 10 38 c_;have hA:Below W0.heap.size W0 w':=F.at2 (j:=0) rfl (F.ln hi) (.inl rfl);go_simp;go_at_call 36
    refine(CL.out _ hA).mono ?_;exact kg
   ·first|have _:=ya;have hA:Below W0.heap.size W0 w':=F.at2 (j:=0) rfl (F.lastNot (f:=24) (i:=20) d' hi) (.inl rfl)|have hA:Below W0.heap.size W0 w':=F.at2 (j:=0) rfl (F.ln hi) (.inl rfl)
    have iA:=aL w' (.cells (lineA aW) 68);exact fl
   ·first|have _:=ya;have u1:=F.gg 17 23 c_|have zH:=F.gg 13 40 c_
    have ab:=F.at2 (j:=0) rfl hi (.inl rfl);obtain⟨Y,hY,cb,bV⟩:=F.fb hi c_;first|have _:=ya;have hY:a.tmps.getD 3 undef= .pointer (some ⟨Y,0,none⟩):=hY;have c3:a.tmps[3]?.getD undef= .pointer (some ⟨Y,0,none⟩):=by rw[<-aI];exact hY|have hY:a.tmps.getD 7 undef= .pointer (some ⟨Y,0,none⟩):=hY;have c7:a.tmps[7]?.getD undef= .pointer (some ⟨Y,0,none⟩):=by rw[<-aI];exact hY
    have hL:bF w' Y aW:=bV;obtain⟨b0,b1,b2,b3,b4,b5,b6,b7,b8,b9,h0,h1,h2,h3,h4,h5,h6,h7,h8,h9⟩:=hL.cells;have hA:Below W0.heap.size W0 w':=ab;go_simp;exact G undef _ (F.ef 0 ad ha hi (.inl rfl) (λh=>absurd rfl h) (λh=>absurd rfl h) ⟨Y,hY,cb,bF.put (r2:=r) hL,Mj hA cb r⟩)
   first|have _:=ya;iterate 16 (go_simp;exact G _ _ (F.pu ad ha))|iterate 13 (go_simp;exact G _ _ (F.pu ad ha))
   all_goals
    have L:=F.ea hi;rw[<-ah] at L;obtain⟨⟨p0,p1,p2⟩,s0,s1⟩:=L;exact ag
  intro v wz au dl;obtain⟨Y,hY,cb,bV,et⟩:=dl
 |skip
 first|have _:=ya;have xf:v 3= .pointer (some ⟨Y,0,none⟩):=hY;have tS:v 4= .int .i64 at_:=au 22 b_ b_ b_ b_;have ej:v 5= .int .i64 er:=au 23 b_ b_ b_ b_;simp only[cS,dF,cP,dG,xf,tS,ej]|have _:=yb;have vQ:v 7= .pointer (some ⟨Y,0,none⟩):=hY;have hv:=Ay au [(18,8),(19,9)] b_;dsimp only[xZ,lk] at hv;simp only[cS,dF,cP,dG,vQ,hv]|skip
 first
 |first|have _:=ya|have _:=yb
  have HY:=hid bV;have AQ:=hid cb;have k5:=hid (HK.out.put et cb bV);have oT:=hid et
 |skip
 first|have _:=ya;clear au hY cb bV et xf tS ej ak ah CL|have _:=yb;clear au hY cb bV et vQ hv ak ah CL|skip
 first
 |first|have _:=ya|have _:=yb
  by_cases h0:er=0
 |obtain⟨i,f,rfl,hi,HF,dQ⟩:=hrel;have lg:=hid (jK.out.keep dQ.out);have ww:=hid (lg.out.at_ (aJ.put_eq _ _ _));obtain⟨y0,y1⟩:=pP ww.out;obtain⟨z,sv,lvv,nv,hz,hK⟩:=lg.out;obtain⟨⟨c0,c1,c2,_⟩,_⟩:=hK.cells;have hPl:=hK.lt;have mo:=aF ww.out;have vt:(0:Int)<=(i:Int):=a_
  by_cases hix:i<x.2
  ·have d1:decide ((i:Int)<(x.2:Int))=true:=aO a_;have iF:decide (i<x.2)=true:=aO hix;have x9:i<txt.length:=a_;have CN:Hid (∀w',Below wr.heap.size wr w'->Calls Tryz.prog 206 #[bs txt,i] w' λe w2=>e= .returned (.tuple #[.int .i32 ((decodeL (txt.drop i)).1:Int),((decodeL (txt.drop i)).2:Int)])/\Below w'.heap.size w' w2):=hid (λw' hb=>Zi txt i w' x9 a_ (HV.out w' (lc.out.trans ((aC dQ.out hb).mono lc.out.size))));have ga:txt.drop i≠ []:=λe=>by have:=congrArg List.length e;rw[aU] at this;simp at this;omega
   have o0:=decodeL_le (txt.drop i) ga;have qJ:1<=(decodeL (txt.drop i)).2:=by
    cases hd:txt.drop i with
    | nil=>exact absurd hd ga
    | cons c t=>exact decodeL_width (c::t)
   rw[aU] at o0;obtain⟨g,hg⟩: ∃g,f=g+1:=⟨f-1,by have:=HF.out.1;omega⟩;subst hg;have hM:=HF.out.2;have ys:=HF.out.1;unfold oD at hM;rw[if_neg a_] at hM;obtain⟨d,hd⟩:=exQ<|decodeL (txt.drop i);rw[hd] at CN o0 qJ hM;obtain⟨r,n⟩:=d;rw[Zg] at hM;simp only[] at CN o0 qJ hM;have CM:=hid (λw=>Zh (r:Int) (n:Int) w);obtain⟨m,hm⟩:=exQ<|yA (r:Int) (n:Int);rw[hm] at CM hM;clear hd hm ga HF hK hz;cases m with
   | false=>
    rw[if_pos DU] at hM;have oG:=hid hM;have za:=hid hix;have CF:=hid (λw' hj=>pX (Pr:=Pr.put X (.cells #[x.1,x.2] 42)) (w0:=w0) (P:=P) (txt:=txt) (sp:=sp) (st:=st) (a0:=0) (e0:=0) (i:Int) 2 w' hj);clear hM hix;go_wp2_with fail;refine(CN.out _ f_).mono ?_;rintro e w2 ⟨rfl,bp⟩;have bN:=hid (lg.out.keep DT);clear bp;go_wp2_with fail;refine(CM.out _).mono ?_;rintro e w3 ⟨rfl,rfl⟩;go_wp2_with fail;refine(CF.out _ n').mono ?_;rintro e w4 ⟨rfl,hj⟩;have oa:=hid (hj.less ap.out).bad;clear hj;go_wp2_with fail;go_ret;exact .inl ⟨by rw[<-oG.out];exact za.out,rfl,by rw[<-oG.out];exact oa.out⟩
   | true=>
    rw[if_neg e_] at hM;have oG:=hid hM;obtain⟨i1,cL⟩:=exQ<|i+n;have il:=hid cL;have br:(i:Int)+(n:Int)=(i1:Int):=a_;have hlt1:i<i1:=a_;have wI:i1<=65536:=a_;have vO:x.2<=i1+g:=a_;have HG:=hid vO;clear hM cL vO ys o0;go_wp2_with fail;refine(CN.out _ f_).mono ?_;rintro e w2 ⟨rfl,bp⟩;have a9:=hid (aC dQ.out DT);clear bp;go_wp2_with fail;refine(CM.out _).mono ?_;rintro e w3 ⟨rfl,rfl⟩;go_wp2_with fail;go_roundw
    ·exact⟨i1,g,by first | rfl | rw[<-br],wI,hid ⟨HG.out,by rw[<-il.out];exact oG.out⟩,a9⟩
    ·exact aq
 ·first
  |first|have _:=ya|have _:=yb
   subst h0
  |skip
  first|have _:=yb;have h2:=bi.out;rw[if_neg e_] at h2|skip
  first
  |first|have _:=ya|have _:=yb
   obtain⟨W2,aY⟩:=exQ<|wz.drew
  |skip
  first
  |have _:=ya;have av:YK YP (Pr.put Y (.cells (lineA r) 68)) w0 P txt sp st.lines z st.total 0 0 (.slice (some ⟨gs,0,none⟩) sp.length cs) (.slice pl k cl) nv W2:=by rw[<-aY];exact k5.out.keep (aB _ wz).drew
  |have _:=yb;have av:YK YQ (Pr.put Y (.cells (lineA r) 68)) w0 P txt sp ls z st.total 0 0 (.slice (some ⟨gs,0,none⟩) sp.length cs) (.slice pl k cl) nv W2:=by rw[<-aY];exact k5.out.keep (aB _ wz).drew
  |have d1:decide ((i:Int)<(x.2:Int))=false:=aG a_;have iF:decide (i<x.2)=false:=aG hix;have hM:=HF.out.2;rw[Mw _ _ _ _ a_] at hM;have Ak:=hid (show ¬M<x.2 by omega);have CB:=hid (λw' hj=>Mt (Pr:=Pr.put X (.cells #[x.1,x.2] 42)) (w0:=w0) (P:=P) (txt:=txt) (sp:=sp) (st:=st) (a0:=0) (e0:=0) q x w' hj HX.out cC.out hs);obtain⟨nb,fw⟩:=exQ<|aX (eJ txt x);obtain⟨bb,eb⟩:=exQ<|decide (aX (eJ txt x)=(eJ txt x).length);rw[eb,fw] at CB;have iO:=hid fw;clear hM hix fw eb HF hK hz;go_wp2_with fail;refine(CB.out _ (by first | exact lg.out | exact lg.out.keep (aB _ _).drew)).mono ?_;rintro e w2 ⟨rfl,bp⟩;have bN:=hid (lg.out.keep DT);clear bp y0 y1 c0 c1 c2;go_upto_region 9 with fail;obtain⟨W2,aY⟩:=exQ<|w2.drew;obtain⟨z,sv,lvv,nv,hz,av⟩:=bN.out.keep (aB _ w2).drew;rw[aY] at av;obtain⟨pl,cl,rfl⟩:=av.lnSlice;rw[dU.out] at av;have HZ:=hid hz
  have bY:=hid av
  first
  |first|have _:=ya|have _:=yb
   have ap:=hid (aJ.put_less (Pr:=Pr) (o:= .cells (lineA r) 68) (λq o' Z=>HK.out.frLt Z) AQ.out)
  |skip
  have bh:=av.lnr;rw[dU.out] at bh;have cf:=hid bh;have dI:=hid av.bel.size
  first
  |first|have _:=ya|have _:=yb
   obtain⟨SB,cF⟩: ∃S:World->Prop,(λw'=>(w'.cell? ⟨P,2,none⟩=some (.slice pl k cl)/\w'.frozen? ⟨P,2,none⟩=false)/\w'.cell? ⟨Y,0,none⟩=some (.int .i64 r.kind)/\w'.cell? ⟨Y,1,none⟩=some (.int .i64 r.sf)/\w'.cell? ⟨Y,2,none⟩=some (.int .i64 r.st)/\w'.cell? ⟨Y,3,none⟩=some (.int .i64 r.ind)/\w'.cell? ⟨Y,4,none⟩=some (.int .i64 r.kf)/\w'.cell? ⟨Y,5,none⟩=some (.int .i64 r.kt)/\w'.cell? ⟨Y,6,none⟩=some (.int .i64 r.rf)/\w'.cell? ⟨Y,7,none⟩=some (.int .i64 r.rt)/\w'.cell? ⟨Y,8,none⟩=some (.int .i64 r.nf)/\w'.cell? ⟨Y,9,none⟩=some (.int .i64 r.nt))=S:=⟨_,rfl⟩
  |skip
  first
  |have _:=ya;have cj:Hid (∀q c w',q<3->bM 68 w0.heap.size (.slice pl k cl) k (gK st.lines) (lineA r) P 2 W2 q c w'->SB w'):=hid (λq c w' Z hp=>by rw[<-cF];have hs:=bY.out.seenA cf.out b_ (λj o hj=>(bY.out.fr j o hj).2.2.1) Z hp;obtain⟨c2,f2⟩:=hs.c2;have hl:bF w' Y r:=hs.fr Y _ (aJ.put_eq _ _ _);obtain⟨b0,b1,b2,b3,b4,b5,b6,b7,b8,b9,_⟩:=hl.cells;exact⟨⟨c2,f2⟩,b0,b1,b2,b3,b4,b5,b6,b7,b8,b9⟩);clear av bh k5 HK HJ;go_upto_region 4 with fail;refine iW [32,33,34,35,36,37,38,39,40,41] [10] [6,7,10] 1000000 (λ_ _=>True) 42 [some P,some P,some P, .pointer (some ⟨P,2,none⟩), .slice pl k cl, .agg #[r.kind,r.sf,r.st,r.ind,r.kf,r.kt,r.rf,r.rt,r.nf,r.nt],undef,undef,some P, .pointer (some ⟨P,2,none⟩)] SB (bM 68 w0.heap.size (.slice pl k cl) k (gK st.lines) (lineA r) P 2 W2) [6,7,10,0,1,2,3,8,9,4,5] m_ DP ?_ ?_
  |have _:=yb;have cj:Hid (∀q c w',q<3->bM 68 w0.heap.size (.slice pl k cl) k (gK ls) (lineA r) P 2 W2 q c w'->SB w'):=hid (λq c w' Z hp=>by rw[<-cF];have hs:=bY.out.seenA cf.out b_ (λj o hj=>(bY.out.fr j o hj).2.2.1) Z hp;obtain⟨c2,f2⟩:=hs.c2;have hl:bF w' Y r:=hs.fr Y _ (aJ.put_eq _ _ _);obtain⟨b0,b1,b2,b3,b4,b5,b6,b7,b8,b9,_⟩:=hl.cells;exact⟨⟨c2,f2⟩,b0,b1,b2,b3,b4,b5,b6,b7,b8,b9⟩);have HB:=hid h2;have HA:Hid ((ls++ [r])[k]?=some r/\(ls++ [r]).length<=sp.length):=hid ⟨by rw[kT (by have:=dU.out;omega),show k-ls.length=0 by have:=dU.out;omega];rfl,by rw[aT,dS];have:=dU.out;omega⟩;clear av bh k5 HK h2 HJ;go_upto_region 8 with fail;refine iW [49,50,51,52,53,54,55,56,57,58] [10] [6,7,10] 1000000 (λ_ _=>True) 85 [some P,some P,some P, .pointer (some ⟨P,2,none⟩), .slice pl k cl, .agg #[r.kind,r.sf,r.st,r.ind,r.kf,r.kt,r.rf,r.rt,r.nf,r.nt],undef,undef,some P, .pointer (some ⟨P,2,none⟩)] SB (bM 68 w0.heap.size (.slice pl k cl) k (gK ls) (lineA r) P 2 W2) [6,7,10,0,1,2,3,8,9,4,5] m_ DP ?_ ?_
  |obtain⟨SB,cF⟩: ∃S:World->Prop,(λw'=>(w'.cell? ⟨P,2,none⟩=some (.slice pl k cl)/\w'.frozen? ⟨P,2,none⟩=false)/\w'.cell? ⟨X,0,none⟩=some (.int .i64 (x.1:Int))/\w'.cell? ⟨X,1,none⟩=some (.int .i64 (x.2:Int)))=S:=⟨_,rfl⟩;have cj:Hid (∀q c w',q<3->bM 68 w0.heap.size (.slice pl k cl) k (gK st.lines) (lineA (oK x nb)) P 2 W2 q c w'->SB w'):=hid (λq c w' Z hp=>by rw[<-cF];have hs:=bY.out.seenA cf.out b_ (λj o hj=>(bY.out.fr j o hj).2.2.1) Z hp;obtain⟨c2,f2⟩:=hs.c2;obtain⟨b0,b1⟩:=pP (hs.fr X _ (aJ.put_eq _ _ _));exact⟨⟨c2,f2⟩,b0,b1⟩);clear av bh hz;refine iW [49,50,51,52,53,54,55,56,57,58,59,60] [12] [8,9,12] 1000000 (λ_ _=>True) 61 [some P,some P,some P, .pointer (some ⟨P,2,none⟩), .slice pl k cl, .agg #[x.1,x.2],nb, .agg #[(6:Int),x.1,x.2,nb,(0:Int),(0:Int),(0:Int),(0:Int),(0:Int),(0:Int)],undef,undef,some P, .pointer (some ⟨P,2,none⟩)] SB (bM 68 w0.heap.size (.slice pl k cl) k (gK st.lines) (lineA (oK x nb)) P 2 W2) [8,9,12,0,1,2,3,6,7,10,11,4,5] m_ DP ?_ ?_
  ·intro d a w' iq o' hO ho hi E aa F R' G;first|have _:=ya;have Z:=eA aa [(0,some P),(3,some Y)] rfl rfl;have hc:=F.all [(0,32),(1,33),(2,34),(3,35),(4,36),(5,37),(8,40),(9,41)] b_|have _:=yb;have Z:=eA aa [(0,some P),(7,some Y)] rfl rfl;have hc:=F.all [(0,49),(1,50),(2,51),(3,52),(4,53),(5,54),(8,57),(9,58)] b_|have Z:=eA aa [(0,some P),(5,some X),(9,nb)] rfl rfl;have hc:=F.all [(0,49),(1,50),(2,51),(3,52),(4,53),(5,54),(6,55),(7,56),(10,59),(11,60)] b_
   dsimp only[dX,dT,lk] at Z hc;clear aa;have ha:=E;have ad:=ho
   repeat' rcases hO with _ | ⟨_,hO⟩
   all_goals (simp only[dA,cR,bZ,cG] at ho;subst ho;try simp[Region.binds] at E)
   ·first|have _:=ya;have sT:=F.gg 5 37 c_|have _:=yb;have AW:=F.gg 5 54 c_|have xF:=F.gg 7 56 c_
    exact ew
   ·first|have _:=ya;have lG:=F.gg 4 36 c_|have oB:=F.gg 4 53 c_
    first
    |first|have _:=ya|have _:=yb
     have ae:d 6=true:=c_;have ab:=F.at2 (j:=1) rfl hi (.inr ⟨6,rfl,ae⟩)
    |skip
    first
    |have _:=ya;have eO:a.tmps.getD 36 undef= .slice pl k cl:=by rw[aI];exact lG
     exact bM.app rfl (.tmp 36) (.tmp 38) 23 rfl Tryz.underlying23 cy cm dg dh rfl b_ rfl (Fe r) cf.out a_ b_ dI.out ab eO rfl (λv' w2 hp=>G _ _ (F.ef 1 ad ha hi (.inr ⟨6,rfl,ae⟩) (λ_ _ _=>trivial) (λ_=>cj.out 2 _ _ b_ hp) hp))
    |have _:=yc;have ae:d 8=true:=c_
     have ab:=F.at2 (j:=1) rfl hi (.inr ⟨8,rfl,ae⟩)
    |skip
    first
    |first|have _:=yb|have _:=yc
     have eO:a.tmps.getD 53 undef= .slice pl k cl:=by rw[aI];exact oB
    |skip
    first|have _:=yb;exact bM.app rfl (.tmp 53) (.tmp 55) 23 rfl Tryz.underlying23 cy cm dg dh rfl b_ rfl (Fe r) cf.out a_ b_ dI.out ab eO rfl (λv' w2 hp=>G _ _ (F.ef 1 ad ha hi (.inr ⟨6,rfl,ae⟩) (λ_ _ _=>trivial) (λ_=>cj.out 2 _ _ b_ hp) hp))|have _:=yc;exact bM.app rfl (.tmp 53) (.tmp 57) 23 rfl Tryz.underlying23 cy cm dg dh rfl b_ rfl (Fe (oK x nb)) cf.out a_ b_ dI.out ab eO rfl (λv' w2 hp=>G _ _ (F.ef 1 ad ha hi (.inr ⟨8,rfl,ae⟩) (λ_ _ _=>trivial) (λ_=>cj.out 2 _ _ b_ hp) hp))|skip
   ·first|have _:=ya;have xH:=F.gg 9 41 c_|have _:=yb;have qa:=F.gg 9 58 c_|skip
    first
    |first|have _:=ya|have _:=yb
     have ae:d 7=true:=c_;have ab:=F.at2 (j:=2) rfl hi (.inr ⟨7,rfl,ae⟩)
    |have xJ:=F.gg 11 60 c_;have ae:d 9=true:=c_;have ab:=F.at2 (j:=2) rfl hi (.inr ⟨9,rfl,ae⟩)
    have L:=F.st hi;rw[<-cF] at L
    first
    |first|have _:=ya|have _:=yb
     obtain⟨⟨p2,mB⟩,b0,b1,b2,b3,b4,b5,b6,b7,b8,b9⟩:=L
    |skip
    first|have _:=ya;have cA:bM 68 w0.heap.size (.slice pl k cl) k (gK st.lines) (lineA r) P 2 W2 2 (a.tmps.getD 39 undef) w':=ab|have _:=yb;have cA:bM 68 w0.heap.size (.slice pl k cl) k (gK ls) (lineA r) P 2 W2 2 (a.tmps.getD 56 undef) w':=ab|obtain⟨⟨p2,mB⟩,b0,b1⟩:=L;have cA:bM 68 w0.heap.size (.slice pl k cl) k (gK st.lines) (lineA (oK x nb)) P 2 W2 2 (a.tmps.getD 58 undef) w':=ab
    obtain⟨gz,cz,hz⟩:=cA.form;rw[hz] at cA;first|have _:=ya;have tp:a.tmps[39]?.getD undef= .slice (some ⟨gz,0,none⟩) (k+1) cz:=by rw[<-aI];exact hz|have _:=yb;have xF:a.tmps[56]?.getD undef= .slice (some ⟨gz,0,none⟩) (k+1) cz:=by rw[<-aI];exact hz|skip
    first
    |first|have _:=ya|have _:=yb
     exact ko
    |have qa:a.tmps[58]?.getD undef= .slice (some ⟨gz,0,none⟩) (k+1) cz:=by rw[<-aI];exact hz
     go_simp;exact G undef _ (F.ef 2 ad ha hi (.inr ⟨9,rfl,ae⟩) (λ_ _ _=>trivial) (λh=>absurd rfl h) ⟨_,_,cA,rfl⟩)
   first
   |first|have _:=ya|have _:=yb
    iterate 6 (go_simp;exact G _ _ (F.pu ad ha))
   |iterate 8 (go_simp;exact G _ _ (F.pu ad ha))
   all_goals
    have L:=F.ea hi;rw[<-cF] at L
    first
    |first|have _:=ya|have _:=yb
     obtain⟨⟨p2,mB⟩,b0,b1,b2,b3,b4,b5,b6,b7,b8,b9⟩:=L
    |obtain⟨⟨p2,mB⟩,b0,b1⟩:=L
    exact ag
  intro v wy au cd;first|have _:=ya;obtain⟨cz,f9⟩: ∃c,bM 68 w0.heap.size (.slice pl k cl) st.lines.length (gK st.lines) (lineA r) P 2 W2 3 c wy:=⟨_,by rw[dU.out];exact cd⟩|have _:=yb;obtain⟨cz,f9⟩: ∃c,bM 68 w0.heap.size (.slice pl k cl) ls.length (gK ls) (lineA r) P 2 W2 3 c wy:=⟨_,by rw[dU.out];exact cd⟩|obtain⟨cz,f9⟩: ∃c,bM 68 w0.heap.size (.slice pl k cl) st.lines.length (gK st.lines) (lineA (oK x nb)) P 2 W2 3 c wy:=⟨_,by rw[dU.out];exact cd⟩
  obtain⟨ot,cI⟩:=bY.out.lineA f9;first|have _:=ya;have HF:=hid (cI.less ap.out)|have _:=yb;have HF:Hid (gU YQ Pr w0 P txt sp (ls++ [r]) z nv st.total 0 0 wy):=hid ⟨_,_,cI.less ap.out⟩|skip
  first
  |first|have _:=ya|have _:=yb
   clear cd cI f9 au cj cF aY
  |have cp:=cI.less ap.out;rw[show oK x nb=pD txt x by rw[<-Mv txt x,iO.out]] at cp;have oa:=hid cp;clear cd cI cp f9 au cj cF aY
  simp only[cS,dF,cP,dG];go_wp2_with fail
  first
  |first|have _:=ya|have _:=yc
   go_ret
  |skip
  first|have _:=ya;exact .inr ⟨rfl,rfl,_,_,HF.out⟩|have _:=yb;go_meet;exact⟨ls++ [r],r,HA,HB,HF⟩|exact .inr ⟨Ak.out,rfl,z,_,_,_,HZ.out,oa.out⟩
 first
 |first|have _:=ya|have _:=yb
  ·first|have _:=ya;have CF:=hid (pX at_ er wz (HJ.out.keep oT.out))|have CF:=hid (tC at_ er wz (bn.out.keep oT.out))
   have d0:(er !=0)=true:=E4
   first|have _:=ya;have H0:=hid h0;clear h0 k5 HK HJ oT|have h2:=bi.out;rw[if_pos h0] at h2;have HB:=hid h2;clear h0 h2 k5 HK HJ oT
   go_wp2_with fail;refine CF.out.mono ?_;rintro e w7 ⟨rfl,hj⟩;have HF:=hid hj;clear hj;go_wp2_with fail;first|have _:=ya;go_ret;exact .inl ⟨H0.out,rfl,HF.out.bad⟩|go_ret2;rw[<-HB.out];exact⟨⟨_,rfl⟩,_,HF.out⟩
 |skip):P:=h
theorem py(h:P:=by
 first
 |have _:=we;rw[if_neg e_] at oV
 |rw[if_pos rfl] at oV;obtain⟨W5,kj⟩:=exQ<|W4.setCell ⟨Y,0,none⟩ (.int .i64 6);rw[kj] at oV
 have HC:=oV;go_upto_region 12 with fail;first|have _:=we;clear c0 c1 c2 c3 f0 f1 f2 f3|clear kj c0 c1 c2 c3 f0 f1 f2 f3 x0 x6 x7 x8 e0 e1 e2;obtain⟨⟨e0,e1,e2⟩,⟨x0,x6,x7,x8⟩,_⟩:=bW.out W5 HC.out.bel
 go_wp2_with fail;clear x0 x6 x7 x8 e0 e1 e2;go_loopw [50,12,13,14] (λli mC ia eP wr=> ∃(i:Nat) (kv ov:Value),li= .int .i64 (i:Int)/\i<=mk/\Hid (CS W3 Y kd [] (iN s d.nodes x.kind (x.kids.take i)) ((x.kids.take i).map (bS s d lv)) kv ov wr)) (λli _ _ _ _=>mk-(RowKit.intOf li).toNat)
 case atStart=>exact⟨0, .slice none 0 0, .slice none 0 0,rfl,dY _,by rw[List.take_zero,Op];first | exact HC | exact hid (HC.out.keep (aB _ _).drew)⟩
 case round=>
   clear HC;obtain⟨i,kv,ov,rfl,hi,HC⟩:=hrel;obtain⟨⟨e0,e1,e2⟩,⟨x0,x6,x7,x8⟩,hr⟩:=bW.out wr HC.out.bel;by_cases hil:i<mk
   · obtain⟨q,Z⟩: ∃q,x.kids[i]?=some q:=⟨_,bC (by rw[kP.out.1];exact hil)⟩;have kw:=bD Z;obtain⟨gk,rfl,kc⟩:=wP.out wr (bf.out.trans (HC.out.bel.mono qg)) i q Z;obtain⟨_,tj⟩:=gv.out q kw;have cL:(i:Int)<(mk:Int):=a_;have dk:decide ((i:Int)<(mk:Int))=true:=aO cL;have cy:(0:Int)<=(i:Int):=a_;have hqz:q<nz:=by have:=fD.out;omega
     have vG:decide ((q:Int)<0)=false:=aG a_;have vJ:decide ((nz:Int)<=(q:Int))=false:=aG a_;have xE:decide (nz<=q)=false:=aG a_;have ih:(0:Int)<=(q:Int):=a_;have le:(q:Int)<(nz:Int):=a_;have jv:=hid (vN Z);obtain⟨pa,ca,cc⟩:=HC.out.keys.slice;obtain⟨po,co,io⟩:=HC.out.its.slice;have aw:((x.kids.take i).map (bS s d lv)).length=i:=by rw[bR,bT];have:=kP.out.1;omega
     rw[aw] at io;obtain⟨nk,dH⟩:=exQ<|(iN s d.nodes x.kind (x.kids.take i)).length;have lZ:nk<=131072:=by
       rw[<-dH];unfold iN;split
       · rw[bR,bT];omega
       · exact dY _
     rw[dH] at cc;subst cc io;have lJ:=hid dH;have oW:=hid kw;obtain⟨yq,wv⟩: ∃yq,d.nodes[q]?=some yq:=⟨_,bC tj⟩;have ub:=hid wv;clear Z kw dH aw wv;go_upto_if 70 with fail;go_cut [71,72,73,74,75,76,77,78,79,80,81,82,83,84,85,86,87,88,13,14] (λwS xa ug xA vK wb wa x4 ve wV tX ut vi s84 s85 s86 s87 s88 ia eP wx=> ∃dM,Hid (CS W3 Y kd [] (iN s d.nodes x.kind (x.kids.take (i+1))) ((x.kids.take i).map (bS s d lv)) dM (.slice po i co) wx))
     case first=>
       first
       |have _:=we;have eG: ¬x.kind=3:=λe=>by have h1:=ll.out.1;have h2:=aE.1 ec.out;omega
        have hW:Hid (CS W3 Y kd [] (iN s d.nodes x.kind (x.kids.take (i+1))) ((x.kids.take i).map (bS s d lv)) (.slice pa nk ca) (.slice po i co) wr):=hid (by have:=HC.out;unfold iN at this ⊢;rw[if_neg eG] at this ⊢;exact this);clear eG
       |have eG:x.kind=3:=by have h1:=ll.out.1;have h2:=eq_of_beq ec.out;omega
        obtain⟨ml,od⟩:=exQ<|yq.kf;obtain⟨nW,mf⟩:=exQ<|yq.kt;obtain⟨qs,mL⟩:=exQ<|kG s ml nW;obtain⟨⟨key,ke⟩,jS⟩:=exQ<|jM qs;have i4:rK s d.nodes q=key:=by
          unfold rK;rw[ub.out];simp only[];rw[od,mf,mL,jS]
        have tY:=hid (λw'=>gx.out ml nW w');rw[mL] at tY;have qx:=Gm s ml nW;rw[mL] at qx;obtain⟨W0,ai⟩:=exQ<|wr.drew;have ev:Below wr.heap.size wr W0:=by rw[<-ai];exact(aB _ _).drew
        have dI:Hid (Below W3.heap.size W3 W0):=hid (aC HC.out.bel ev);have zB:Hid (∀w',Below W0.heap.size W0 w'->Calls Tryz.prog 48 #[bs qs] w' λe w2=>e= .returned (.tuple #[bs key,ke])/\Below w'.heap.size w' w2):=hid (λw' dt=>by have:=Li qs w' D9 (pB.out w' (aC dI.out dt));rw[jS] at this;exact this);have yz:Hid (∀w',Below W0.heap.size W0 w'->w'.cell? ⟨D,0,none⟩=some (.string (bs s))/\w'.cell? ⟨D,1,none⟩=some (.slice pl nl cl)/\w'.cell? ⟨D,2,none⟩=some (.slice (some ⟨gn,0,none⟩) nz cn)/\w'.cell? ⟨gn,q*9+4,none⟩=some (.int .i64 ml)/\w'.cell? ⟨gn,q*9+5,none⟩=some (.int .i64 nW)):=hid (λw' dt=>by obtain⟨⟨a3,a4,a5⟩,_,_⟩:=bW.out w' (aC dI.out dt);obtain⟨n4,n5⟩:=kM.out w' (aC bf.out (aC dI.out dt)) q yq ub.out;rw[od] at n4;rw[mf] at n5;exact⟨a3,a4,a5,n4,n5⟩);have Ac:Hid (CS W3 Y kd [] ((x.kids.take i).map (rK s d.nodes)) ((x.kids.take i).map (bS s d lv)) (.slice pa nk ca) (.slice po i co) wr):=hid (by have:=HC.out;unfold iN at this;rw[if_pos eG] at this;exact this);have gJ:((x.kids.take i).map (rK s d.nodes)).length<=4294967295:=by rw[bR,bT];omega
        have bO:((x.kids.take i).map (rK s d.nodes)++ [key]).length=nk+1:=by
          have:=lJ.out;unfold iN at this;rw[if_pos eG] at this;rw[aT,this,dS]
        have mH:=hid (aK eG i4);have fG:=hid (aK bO gJ);clear eG od mf mL jS i4 bO gJ ev qx;go_upto_region 18 with fail;clear x0 x6 x7 x8 e0 e1 e2 kc hr;refine lX [72,73,74,75,76,77,78,79,80,71,81,82,13,14] 101 [.agg #[bs s, .slice pl nl cl, .slice (some ⟨gn,0,none⟩) nz cn], .pointer (some ⟨D,2,none⟩), .slice (some ⟨gn,0,none⟩) nz cn, .int .i64 (q:Int), .pointer (some ⟨gn,q*9,none⟩), .pointer (some ⟨gn,q*9+4,none⟩), .agg #[ml,nW],bs qs, .tuple #[bs key,ke], .tuple #[bs key,ke],bs key,ke,bs key,ke] (λw'=>Below W0.heap.size W0 w') [7,8,0,1,2,3,4,5,6,9,10,11,12,13] i_ ?_ ?_
        · intro dd a w' iq o' hO ho hi E aa F R' G;have Z:=eA aa [(3,some D),(12, .int .i64 (q:Int))] rfl rfl;have hc:=F.all [(9,71),(0,72),(1,73),(2,74),(3,75),(4,76),(5,77),(6,78),(7,79),(8,80),(10,81),(11,82)] b_;dsimp only[dX,dT,lk] at Z hc;clear aa;obtain⟨s0,s1,s2,q4,q5⟩:=yz.out _ F.st
          repeat' rcases hO with _ | ⟨_,hO⟩
          all_goals (simp only[dA,cR,bZ,cG] at ho;subst ho;try simp[Region.binds] at E)
          · have zZ:=F.g 0 72 c_;have c78:=F.g 6 78 c_;refine jF ?_;go_simp;go_at_call 28;refine(tY.out _).mono ?_;exact cg
          · have c79:=F.g 7 79 c_;refine jF ?_;go_simp;go_at_call 48;refine(zB.out _ F.st).mono ?_;exact cg
          iterate 12 (refine jF ?_;go_simp;exact G _ _ F.sp)
        intro wz hS;simp only[jE,dF,cP,dG];have lc:=hid hS;have lq:Hid (CS W3 Y kd [] ((x.kids.take i).map (rK s d.nodes)) ((x.kids.take i).map (bS s d lv)) (.slice pa nk ca) (.slice po i co) wz):=hid ((Ac.out.keep (show Below wr.heap.size wr W0 from by rw[<-ai];exact(aB _ _).drew)).keep hS);clear hS;obtain⟨c0,c1,c2,c3,f0,f1,f2,f3⟩:=lq.out.cells;have yT:=aF lq.out.box;go_wp2_with (at_builtin;refine wpList_step λK hK=>?_;rw[if_pos DU];refine lO.app (W:=W3) (W0:=wz) (Y:=Y) (key:=key) (.tmp 84) (.tmp 86) rfl lq.out ⟨wz,aB _ _,rfl,rfl⟩ rfl rfl fG.out.2 (λv1 w7 bG=>?_);have gy:=hid bG;obtain⟨iI,cO,hz⟩:=bG.1.slice;rw[fG.out.1] at hz;subst hz;obtain⟨zs,xM,Ax,u1,f20,f21,f22,f23⟩:=bJ ((gy.out.2.2.2.1 Y yT lq.out.off).trans lq.out.box);clear bG c0 c1 c2 c3 f0 f1 f2 f3;refine hK _ _ ?_);obtain⟨nD,tT⟩:=lO.fin (c:=undef) (w':=w7.setCell ⟨Y,2,none⟩ (.slice iI (nk+1) cO)) lq.out ⟨_,_,gy.out,rfl⟩;have ez:Hid (CS W3 Y kd [] (iN s d.nodes x.kind (x.kids.take (i+1))) ((x.kids.take i).map (bS s d lv)) nD (.slice po i co) (w7.setCell ⟨Y,2,none⟩ (.slice iI (nk+1) cO))):=hid (by unfold iN;rw[if_pos mH.out.1,jv.out,nE];show CS W3 Y kd [] (_++ [rK s d.nodes q]) _ _ _ _;rw[mH.out.2];exact tT);clear tT
       go_wp2_with fail;go_meet;first|have _:=we;exact nr|exact nu
     case rest=>
       obtain⟨dM,hW⟩:=hcut;clear HC lJ lZ x0 x6 x7 x8 e0 e1 e2 kc hr;obtain⟨W0,ai⟩:=exQ<|wc.drew;have ev:Below wc.heap.size wc W0:=by rw[<-ai];exact(aB _ _).drew
       have a7:=hid (hW.out.keep ev);have bO:((x.kids.take i).map (bS s d lv)++ [bS s d lv q]).length=i+1:=by rw[aT,bR,bT,dS];have:=kP.out.1;omega
       have gJ:((x.kids.take i).map (bS s d lv)).length<=4294967295:=by rw[bR,bT];omega
       have fG:=hid (aK bO gJ);clear bO gJ ev;go_upto_region 20 with fail;obtain⟨SA,ah⟩: ∃S:World->Prop,(λw'=>(w'.cell? ⟨Y,3,none⟩=some (.slice po i co)/\w'.frozen? ⟨Y,3,none⟩=false)/\w'.cell? ⟨D,0,none⟩=some (.string (bs s))/\w'.cell? ⟨D,1,none⟩=some (.slice pl nl cl)/\w'.cell? ⟨D,2,none⟩=some (.slice (some ⟨gn,0,none⟩) nz cn))=S:=⟨_,rfl⟩;have ak:Hid (∀w',Below W0.heap.size W0 w'->SA w'):=hid (λw' hb=>by rw[<-ah];obtain⟨⟨a3,a4,a5⟩,_,_⟩:=bW.out w' (aC a7.out.bel hb);have q:=(a7.out.keep hb).cells;exact⟨⟨q.2.2.2.1,q.2.2.2.2.2.2.2⟩,a3,a4,a5⟩);have ir:Hid (∀w' c',gR W0 Y dM.ownBlock (bS s d lv q) ((x.kids.take i).map (bS s d lv)) (.slice po i co) 3 c' w'->SA w'):=hid (λw' c' hp=>by rw[<-ah];obtain⟨q1,q2,q3,q4⟩:=hp;have eF:=a7.out.box;have hn:=a7.out.new_;have jm:Below (Y+1) W0 w':=q2;have e2:w'.heap[Y]?=_:=(jm.block Y (tV _)).trans eF;have e3: ∀o',w'.cell? ⟨D,o',none⟩=W0.cell? ⟨D,o',none⟩:=λo'=>jm.cell (p:=⟨D,o',none⟩) (by show D<Y+1;omega);obtain⟨⟨a3,a4,a5⟩,_,_⟩:=bW.out W0 a7.out.bel;obtain⟨y0,y1,y2,y3,y4,y5,y6,y7⟩:=bJ e2;exact⟨⟨y3,y7⟩,by rw[e3];exact a3,by rw[e3];exact a4,by rw[e3];exact a5⟩);refine iW [89,90,91,92,93,94,95,96,97,98] [10] [6,7,8,10] 1000000 (λ_ _=>True) 101 [.pointer (some ⟨Y,3,none⟩), .slice po i co, .agg #[bs s, .slice pl nl cl, .slice (some ⟨gn,0,none⟩) nz cn], .int .i64 (q:Int),lev,(lev+1:Int),undef,undef,undef, .pointer (some ⟨Y,3,none⟩)] SA (gR W0 Y dM.ownBlock (bS s d lv q) ((x.kids.take i).map (bS s d lv)) (.slice po i co)) [6,7,8,10,0,3,4,5,9,1,2] j_ i_ ?_ ?_
       · intro dd a w' iq o' hO ho hi E aa F R' G;have Z:=eA aa [(2,lev),(3,some D),(8,some Y),(12, .int .i64 (q:Int))] rfl rfl;have hc:=F.all [(0,89),(1,90),(2,91),(3,92),(4,93),(5,94),(9,98)] b_;dsimp only[dX,dT,lk] at Z hc;clear aa;have ha:=E;have ad:=ho
         repeat' rcases hO with _ | ⟨_,hO⟩
         all_goals (simp only[dA,cR,bZ,cG] at ho;subst ho;try simp[Region.binds] at E)
         · have vT:=F.gg 2 91 c_;have vP:=F.gg 3 92 c_;have AE:=F.gg 5 94 c_;have ab:=F.at2 (j:=0) rfl hi (.inl rfl);have hA:Below W0.heap.size W0 w':=ab;go_simp;go_at_call 26;refine(oM.out _ (aC a7.out.bel hA) q oW.out).mono ?_;rintro e w5 ⟨⟨fF,fI,rfl,ej⟩,aj⟩;have a8:=aC hA aj;exact G _ _ (F.ef 0 ad ha hi (.inl rfl) (λ_ _ _=>trivial) (λ_=>ak.out _ a8) ⟨fF,fI,rfl,ej.mono (λq Z _=>aZ hA.size Z),a8⟩)
         · have ae:dd 6=true:=c_;have ab:=F.at2 (j:=1) rfl hi (.inr ⟨6,rfl,ae⟩);obtain⟨fF,fI,it,ej,aj⟩:=ab;have it:a.tmps.getD 95 undef=vv (bS s d lv q) fF fI:=it;have zQ:a.tmps[95]?.getD undef= .agg #[.int .i64 (bS s d lv q).kind, .string (bs (bS s d lv q).text),fF,fI]:=by rw[<-aI];exact it
           have a8:=λob=>aC aj (aL w' ob);go_simp;exact G _ _ (F.ef 1 ad ha hi (.inr ⟨6,rfl,ae⟩) (λ_ _ _=>trivial) (λ_=>ak.out _ (a8 _)) ⟨w',fF,fI,ej,aj,rfl,rfl⟩)
         · have t0:=F.gg 1 90 c_;have ae:dd 7=true:=c_;have ab:=F.at2 (j:=2) rfl hi (.inr ⟨7,rfl,ae⟩);have tZ:a.tmps.getD 90 undef= .slice po i co:=by rw[aI];exact t0
           exact gR.app (.tmp 90) (.tmp 96) rfl a7.out ab tZ rfl fG.out.2 (λv' w2 bG=>G _ _ (F.ef 2 ad ha hi (.inr ⟨7,rfl,ae⟩) (λ_ _ _=>trivial) (λ_=>ir.out _ _ bG) bG))
         · have c98:=F.gg 9 98 c_;have ae:dd 8=true:=c_;have ab:=F.at2 (j:=3) rfl hi (.inr ⟨8,rfl,ae⟩);have cd:gR W0 Y dM.ownBlock (bS s d lv q) ((x.kids.take i).map (bS s d lv)) (.slice po i co) 3 (a.tmps.getD 97 undef) w':=ab;have L:=F.st hi;rw[<-ah] at L;obtain⟨⟨x3,gF⟩,_⟩:=L;obtain⟨iI,cO,hz⟩:=cd.1.slice;rw[fG.out.1] at hz;rw[hz] at cd;have c97:a.tmps[97]?.getD undef= .slice iI (i+1) cO:=by rw[<-aI];exact hz
           go_simp;exact G undef _ (F.ef 3 ad ha hi (.inr ⟨8,rfl,ae⟩) (λ_ _ _=>trivial) (λh=>absurd rfl h) ⟨_,_,cd,rfl⟩)
         iterate 5 (go_simp;exact G _ _ (F.pu ad ha))
         all_goals
           have L:=F.ea hi;rw[<-ah] at L;obtain⟨⟨x3,gF⟩,s0,s1,s2⟩:=L;exact ag
       intro v wz au eI;obtain⟨o5,ez⟩:=gR.fin a7.out eI;have ez:Hid (CS W3 Y kd [] (iN s d.nodes x.kind (x.kids.take (i+1))) ((x.kids.take (i+1)).map (bS s d lv)) dM o5 wz):=hid (by
         have e:(x.kids.take (i+1)).map (bS s d lv)=(x.kids.take i).map (bS s d lv)++ [bS s d lv q]:=by rw[jv.out,nE];rfl
         rw[e];exact ez)
       clear au eI ir ak ah a7 ai hW;simp only[cS,dF,cP,dG];exact jn
   · have dk:decide ((i:Int)<(mk:Int))=false:=aG a_;obtain rfl:i=mk:=a_;have fo:=HC.out;rw[<-kP.out.1,List.take_length] at fo;have dZ:=hid fo;clear fo;obtain⟨pa,ca,cc⟩:=dZ.out.keys.slice;obtain⟨po,co,io⟩:=dZ.out.its.slice;obtain⟨nk,dH⟩:=exQ<|(iN s d.nodes x.kind x.kids).length;obtain⟨ni,mq⟩:=exQ<|(x.kids.map (bS s d lv)).length;rw[dH] at cc;rw[mq] at io;subst cc io;have HP:Hid (mJ (VT.mk kd [] (iN s d.nodes x.kind x.kids) (x.kids.map (bS s d lv))) w (.returned (.agg #[kd,bs [], .slice pa nk ca, .slice po ni co])) (bB wr R kd [] (.slice pa nk ca) (.slice po ni co))):=hid (by refine⟨⟨_,_,rfl,?_⟩,uI (aC bf.out dZ.out.bel) a_⟩;exact(dZ.out.put (R:=R) kL).mono (λq Z _=>aZ bf.out.size Z));have mi:Hid ((bB wr R kd [] (.slice pa nk ca) (.slice po ni co)).heap[R]?=some (.cells #[kd,bs [], .slice pa nk ca, .slice po ni co] 36)):=hid (uJ hr);obtain⟨r0,r1,r2,r3,f0,f1,f2,f3⟩:=bJ hr;obtain⟨y0,y1,y2,y3,_⟩:=dZ.out.cells;clear dH mq HC hr;go_wp2_with fail;obtain⟨WF,gX⟩:=exQ<|bB wr R kd [] (.slice pa nk ca) (.slice po ni co);rw[gX] at HP mi;have gt:(((wr.setCell ⟨R,0,none⟩ (.int .i64 kd)).setCell ⟨R,1,none⟩ (.string (bs []))).setCell ⟨R,2,none⟩ (.slice pa nk ca)).setCell ⟨R,3,none⟩ (.slice po ni co)=WF:=gX
     first
       | rw[gt]
       | (have uu:(((wr.setCell ⟨R,0,none⟩ (.int .i64 kd)).setCell ⟨R,1,none⟩ (.string ⟨#[]⟩)).setCell ⟨R,2,none⟩ (.slice pa nk ca)).setCell ⟨R,3,none⟩ (.slice po ni co)=WF:=gX
          rw[uu])
     clear gX gt r0 r1 r2 r3 f0 f1 f2 f3 y0 y1 y2 y3;obtain⟨d0,d1,d2,d3,_⟩:=bJ mi.out;refine bodyPost_ret (v:= .agg #[kd,bs [], .slice pa nk ca, .slice po ni co]) ?_ rfl HP.out;simp[results,Tryz.results26,go_sem,d0,d1,d2,d3]):P:=h
theorem qp(h:P:=by
 intro d a w' i o' ho hi j bn A R' C;first|have:=yl;have bu:i<19:=(lI.1 ho).1|have bu:i<22:=(lI.1 ho).1
 have q0:a.tmps[0]?.getD undef= .pointer (some ⟨P,0,none⟩):=by rw[<-aI];exact bn 0 b_
 have q1:a.tmps[1]?.getD undef= .int .i64 (pre.length:Int):=by rw[<-aI];exact bn 1 b_
 first
 |have:=yl;have q15:a.tmps[15]?.getD undef= .int .i64 (ns.length:Int):=by rw[<-aI];exact bn 15 b_
  clear bn;rcases aCw bu with rfl|rfl|rfl|rfl|rfl|rfl|rfl|rfl|rfl|rfl|rfl|rfl|rfl|rfl|rfl|rfl|rfl|rfl|rfl<;>simp only[dA,cR,bZ,cG] at ho<;>subst ho
 |have q10:a.tmps[10]?.getD undef= .int .i64 (ls.2:Int):=by rw[<-aI];exact bn 10 b_
  clear bn;rcases aCx bu with rfl|rfl|rfl|rfl|rfl|rfl|rfl|rfl|rfl|rfl|rfl|rfl|rfl|rfl|rfl|rfl|rfl|rfl|rfl|rfl|rfl|rfl<;>simp only[dA,cR,bZ,cG] at ho<;>subst ho
 ·go_simp;exact C _ _ (A.pure (i:=0) rfl rfl b_ b_ b_ (λh=>absurd h b_))
 ·simp[Region.binds] at j;first|have:=yl;have c81:a.tmps[81]?.getD undef= .pointer (some ⟨P,0,none⟩):=by rw[<-aI];exact A.cl 0 b_ b_ b_ n_|have c99:a.tmps[99]?.getD undef= .pointer (some ⟨P,0,none⟩):=by rw[<-aI];exact A.cl 0 b_ b_ b_ n_
  go_simp;exact C _ _ (A.pure (i:=1) rfl rfl b_ b_ b_ (λh=>absurd h b_))
 ·simp[Region.binds] at j;first|have:=yl;have c82:a.tmps[82]?.getD undef= .pointer (some ⟨P,0,none⟩):=by rw[<-aI];exact A.cl 1 b_ b_ b_ n_|have c100:a.tmps[100]?.getD undef= .pointer (some ⟨P,0,none⟩):=by rw[<-aI];exact A.cl 1 b_ b_ b_ n_
  go_simp;exact C _ _ (A.pure (i:=2) rfl rfl b_ b_ b_ (λh=>absurd h b_))
 ·simp[Region.binds] at j;first|have:=yl;have c83:a.tmps[83]?.getD undef= .pointer (some ⟨P,3,none⟩):=by rw[<-aI];exact A.cl 2 b_ b_ b_ n_|have c101:a.tmps[101]?.getD undef= .pointer (some ⟨P,3,none⟩):=by rw[<-aI];exact A.cl 2 b_ b_ b_ n_
  have x3:=A.st1;rw[<-ap] at x3;go_simp;exact C _ _ (A.pure (i:=3) rfl rfl b_ b_ b_ (λh=>absurd h b_))
 ·go_simp;exact C _ _ (A.pure (i:=4) rfl rfl b_ b_ b_ (λh=>absurd h b_))
 ·go_simp;exact C _ _ (A.pure (i:=5) rfl rfl b_ b_ b_ (λh=>absurd h b_))
 ·simp[Region.binds] at j;first|have:=yl;have c86:a.tmps[86]?.getD undef= .pointer (some ⟨P,0,none⟩):=by rw[<-aI];exact A.cl 5 b_ b_ b_ n_|have c104:a.tmps[104]?.getD undef= .pointer (some ⟨P,0,none⟩):=by rw[<-aI];exact A.cl 5 b_ b_ b_ n_
  go_simp;exact C _ _ (A.pure (i:=6) rfl rfl b_ b_ b_ (λh=>absurd h b_))
 ·simp[Region.binds] at j;first|have:=yl;have c87:a.tmps[87]?.getD undef= .pointer (some ⟨P,0,none⟩):=by rw[<-aI];exact A.cl 6 b_ b_ b_ n_|have c105:a.tmps[105]?.getD undef= .pointer (some ⟨P,0,none⟩):=by rw[<-aI];exact A.cl 6 b_ b_ b_ n_
  go_simp;exact C _ _ (A.pure (i:=7) rfl rfl b_ b_ b_ (λh=>absurd h b_))
 ·simp[Region.binds] at j;first|have:=yl;have c88:a.tmps[88]?.getD undef= .pointer (some ⟨P,3,none⟩):=by rw[<-aI];exact A.cl 7 b_ b_ b_ n_|have c106:a.tmps[106]?.getD undef= .pointer (some ⟨P,3,none⟩):=by rw[<-aI];exact A.cl 7 b_ b_ b_ n_
  have x3:=A.st1;rw[<-ap] at x3;go_simp;exact C _ _ (A.pure (i:=8) rfl rfl b_ b_ b_ (λh=>absurd h b_))
 ·go_simp;exact C _ _ (A.pure (i:=9) rfl rfl b_ b_ b_ (λh=>absurd h b_))
 ·simp[Region.binds] at j
  first
  |have:=yl;have c89:a.tmps[89]?.getD undef= .slice (some ⟨gn,0,none⟩) z4.length cap:=by rw[<-aI];exact A.cl 8 b_ b_ b_ n_
   have c90:a.tmps[90]?.getD undef= .int .i64 (pre.length:Int):=by rw[<-aI];exact A.cl 9 b_ b_ b_ n_
  |have c107:a.tmps[107]?.getD undef= .slice (some ⟨gn,0,none⟩) z6.length cap:=by rw[<-aI];exact A.cl 8 b_ b_ b_ n_
   have c108:a.tmps[108]?.getD undef= .int .i64 (pre.length:Int):=by rw[<-aI];exact A.cl 9 b_ b_ b_ n_
  go_simp;exact C _ _ (A.pure (i:=10) rfl rfl b_ b_ b_ (λh=>absurd h b_))
 ·simp[Region.binds] at j;first|have:=yl;have c91:a.tmps[91]?.getD undef= .pointer (some ⟨gn,pre.length*7,none⟩):=by rw[<-aI];exact A.cl 10 b_ b_ b_ n_|have c109:a.tmps[109]?.getD undef= .pointer (some ⟨gn,pre.length*7,none⟩):=by rw[<-aI];exact A.cl 10 b_ b_ b_ n_
  go_simp;exact C _ _ (A.pure (i:=11) rfl rfl b_ b_ b_ (λh=>absurd h b_))
 ·simp[Region.binds] at j;first|have:=yl;have c92:a.tmps[92]?.getD undef= .pointer (some ⟨gn,pre.length*7+5,none⟩):=by rw[<-aI];exact A.cl 11 b_ b_ b_ n_|have c110:a.tmps[110]?.getD undef= .pointer (some ⟨gn,pre.length*7+6,none⟩):=by rw[<-aI];exact A.cl 11 b_ b_ b_ n_
  have bV:=A.st (nM A.up2 (nM A.upl hi));rw[<-au] at bV;obtain⟨x5,eL⟩:=bV;go_simp;exact C _ _ (A.pure (i:=12) rfl rfl b_ b_ b_ (λh=>absurd h b_))
 first
 |have:=yl
  ·go_simp;exact C _ _ (A.pure (i:=13) rfl rfl b_ b_ b_ (λh=> .inl h))
 |·go_simp
   exact C _ _ (A.pure (i:=13) rfl rfl b_ b_ b_ (λh=>absurd h b_))
  ·go_simp;exact C _ _ (A.pure (i:=14) rfl rfl b_ b_ b_ (λh=>absurd h b_))
  ·simp[Region.binds] at j;have c113:a.tmps[113]?.getD undef= .pointer (some ⟨P,0,none⟩):=by rw[<-aI];exact A.cl 14 b_ b_ b_ n_
   have hA:=A.w0 (nM A.up0 (nM A.upc hi));go_simp;go_at_call 170;refine(CH.out _ hA).mono ?_;rintro e w5 ⟨rfl,ak⟩;exact C _ _ (A.call b_ hi rfl rfl (aV.out _ (aC hA ak)) (HS.out _ (aC hA ak)) (aC hA ak))
  ·simp[Region.binds] at j;have c112:a.tmps[112]?.getD undef= .int .i64 (ls.2:Int):=by rw[<-aI];exact A.cl 13 b_ b_ b_ n_
   have c114:a.tmps[114]?.getD undef= .int .i64 ((cA txt.length (L.drop (k3+1)):Nat):Int):=by rw[<-aI];exact A.cl 15 b_ b_ b_ n_
   go_simp;exact C _ _ (A.pure (i:=16) rfl rfl b_ b_ b_ (λ_=> .inr n_))
 ·simp[Region.binds] at j
  first
  |have:=yl;have e0:d 13=true:=n_
   have c94:a.tmps[94]?.getD undef= .int .i64 (ns.length:Int):=by rw[<-aI];exact A.cl 13 b_ b_ b_ n_
  |have e0:d 16=true:=n_
   have c115:a.tmps[115]?.getD undef= .agg #[ls.2,((cA txt.length (L.drop (k3+1)):Nat):Int)]:=by rw[<-aI];exact A.cl 16 b_ b_ b_ n_
  have hA:=A.w0 hi;have dO:=λob=>aC hA (aL w' ob);go_simp;exact C _ _ (A.alloc b_ hi e0 rfl (aV.out _ (dO _)) (HS.out _ (dO _)) ⟨_,hA,rfl,rfl⟩)
 ·simp[Region.binds] at j;have e0:d 12=true:=n_
  first
  |have:=yl;have e1:d 14=true:=n_
   have c6:a.tmps.getD 93 undef=y.2.1:=A.cl 12 b_ b_ b_ e0
  |have e1:d 17=true:=n_
   have c6:a.tmps.getD 111 undef=y.2.2:=A.cl 12 b_ b_ b_ e0
  obtain⟨w1,hA,hx,rfl⟩:=A.w1 e1 hi
  first
  |have:=yl;have hx:a.tmps.getD 95 undef= .slice (some ⟨w1.heap.size,0,none⟩) 1 1:=hx;exact Pe (ops:= #[]) (t:=a.tmps) (E:=True) rfl (aCr rfl (.tmp 93) (.tmp 95) rfl w0.heap.size w1 (y.2.1) y.1.kids ns.length c6 ((M.out.keep hA).at_.kids _ (bD HY.out)) hx a_ (by have:=hA.size;omega) (λkv w7 h1 h2 h3=>C _ _ (A.app b_ hi e1 e0 rfl (aQ.out _ _ hA h2).2.1 (aQ.out _ _ hA h2).1 ⟨w1,hA,h1,h2,h3⟩)))
  |have hx:a.tmps.getD 116 undef= .slice (some ⟨w1.heap.size,0,none⟩) 1 1:=hx;exact Pe (ops:= #[]) (t:=a.tmps) (E:=True) rfl (De rfl (.tmp 111) (.tmp 116) rfl w0.heap.size w1 (y.2.2) y.1.pcs (ls.2,cA txt.length (L.drop (k3+1))) c6 ((M.out.keep hA).at_.pcs ({ y.1 with kids:=y.1.kids++ [ns.length] },kv,y.2.2) (bD am.out)) hx a_ (by have:=hA.size;omega) (λkv w7 h1 h2 h3=>C _ _ (A.app b_ hi e1 e0 rfl (aQ.out _ _ hA h2).2.1 (aQ.out _ _ hA h2).1 ⟨w1,hA,h1,h2,h3⟩)))
 ·simp[Region.binds] at j
  first
  |have:=yl;have c84:a.tmps[84]?.getD undef= .slice (some ⟨gn,0,none⟩) z4.length cap:=by rw[<-aI];exact A.cl 3 b_ b_ b_ n_
   have c85:a.tmps[85]?.getD undef= .int .i64 (pre.length:Int):=by rw[<-aI];exact A.cl 4 b_ b_ b_ n_
   go_simp;exact C _ _ (A.pure (i:=16) rfl rfl b_ b_ b_ (λh=>absurd h b_))
  |have c102:a.tmps[102]?.getD undef= .slice (some ⟨gn,0,none⟩) z6.length cap:=by rw[<-aI];exact A.cl 3 b_ b_ b_ n_
   have c103:a.tmps[103]?.getD undef= .int .i64 (pre.length:Int):=by rw[<-aI];exact A.cl 4 b_ b_ b_ n_
   go_simp;exact C _ _ (A.pure (i:=19) rfl rfl b_ b_ b_ (λh=>absurd h b_))
 ·simp[Region.binds] at j
  first
  |have:=yl;have c97:a.tmps[97]?.getD undef= .pointer (some ⟨gn,pre.length*7,none⟩):=by rw[<-aI];exact A.cl 16 b_ b_ b_ n_
   go_simp;exact C _ _ (A.pure (i:=17) rfl rfl b_ b_ b_ (λh=>absurd h b_))
  |have c118:a.tmps[118]?.getD undef= .pointer (some ⟨gn,pre.length*7,none⟩):=by rw[<-aI];exact A.cl 19 b_ b_ b_ n_
   go_simp;exact C _ _ (A.pure (i:=20) rfl rfl b_ b_ b_ (λh=>absurd h b_))
 ·simp[Region.binds] at j
  first
  |have:=yl;have e0:d 15=true:=n_
   have e1:d 17=true:=n_;have c98:a.tmps[98]?.getD undef= .pointer (some ⟨gn,pre.length*7+5,none⟩):=by rw[<-aI];exact A.cl 17 b_ b_ b_ e1
  |have e0:d 18=true:=n_
   have e1:d 20=true:=n_;have c119:a.tmps[119]?.getD undef= .pointer (some ⟨gn,pre.length*7+6,none⟩):=by rw[<-aI];exact A.cl 20 b_ b_ b_ e1
  have bV:=A.st hi;rw[<-au] at bV;obtain⟨x5,eL⟩:=bV;have bX:=A.w2 e0 hi;obtain⟨gk,pk,hV⟩:=qP (bX.choose_spec.2.1);first|have:=yl;have hV:a.tmps.getD 96 undef= .slice (some ⟨gk,0,none⟩) (y.1.kids.length+1) pk:=hV|have hV:a.tmps.getD 117 undef= .slice (some ⟨gk,0,none⟩) (y.1.pcs.length+1) pk:=hV
  simp only[hV] at bX;first|have:=yl;have c96:a.tmps[96]?.getD undef= .slice (some ⟨gk,0,none⟩) (y.1.kids.length+1) pk:=by rw[<-aI];exact hV|have c117:a.tmps[117]?.getD undef= .slice (some ⟨gk,0,none⟩) (y.1.pcs.length+1) pk:=by rw[<-aI];exact hV
  have ex:=(aQ.out _ _ bX.choose_spec.1 bX.choose_spec.2.2.1).2.2;go_simp;exact C undef _ (A.sto b_ hi e0 (ex _) ⟨_,_,bX,rfl⟩)):P:=h
theorem rj(h:P:=by
 induction u using Nat.strongRecOn with
 | _ u ih=>
  first
  |have _:=zj;intro w hu
  |intro w h1 hu;obtain⟨N,hN⟩:=exQ<|-(u:Int);have hn0:N<0:=a_;rw[hN]
  by_cases h:u<10
  ·first
   |have _:=zj;rw[Nq u h,<-uS u h]
   |rw[Nq u h,<-uD,<-uS u h];have k1: -N=(u:Int):=a_;have cG: -10<N:=a_;have w1:IntKind.i64.wrap (-N)= -N:=IntWalk.i64_in _ a_;have K1:=hid k1;have t1:(-N).toNat=u:=a_;have t2:(-N+1).toNat=u+1:=a_;have aP: ∀wx,(Instr.slice 9 (.string ⟨#[48,49,50,51,52,53,54,55,56,57]⟩) (some (.int .i64 (-N))) (some (.int .i64 (-N+1))) none).run Tryz.prog wx= .ok (.string ((⟨#[48,49,50,51,52,53,54,55,56,57]⟩:ByteArray).extract u (u+1))) wx:=λwx=>by
     have:=run_slice_string (P:=Tryz.prog) wx 9 ⟨#[48,49,50,51,52,53,54,55,56,57]⟩ .i64 .i64 (-N) (-N+1) Tryz.underlying9 a_ a_ (by show -N+1<=((10:Nat):Int);omega);rw[t1,t2] at this;exact this
    have sE:((⟨#[48,49,50,51,52,53,54,55,56,57]⟩:ByteArray).extract u (u+1)).size=1:=by rw[uS u h,aM];rfl
    generalize (⟨#[48,49,50,51,52,53,54,55,56,57]⟩:ByteArray).extract u (u+1)=E at *;clear hN k1 t1 t2 ih
   go_enter Tryz.func127,Tryz.ntmps127;exact bn
  ·first|have _:=zj;rw[Nr u a_,<-kK,<-uS (u % 10) a_]|rw[Nr u a_,show (45:UInt8)::(Lib.decDigits (u / 10)++ [UInt8.ofNat (48+u % 10)])=(45::Lib.decDigits (u / 10))++ [UInt8.ofNat (48+u % 10)] from rfl,<-kK,<-uS (u % 10) a_]
   have bw:=ih (u / 10) a_;clear ih
   first
   |have _:=zj;have k1:(u:Int).tdiv 10=((u / 10:Nat):Int):=by rw[Int.tdiv_eq_ediv_of_nonneg a_];omega
    have k2:(u:Int) / 10=((u / 10:Nat):Int):=a_;have k3:(u:Int).tmod 10=((u % 10:Nat):Int):=by rw[Int.tmod_eq_emod_of_nonneg a_];omega
    have k4:(u:Int) % 10=((u % 10:Nat):Int):=a_
   |have k1:N.tdiv 10= -((u / 10:Nat):Int):=by rw[<-hN,Int.neg_tdiv,Int.tdiv_eq_ediv_of_nonneg a_];omega
    have k3:N.tmod 10= -((u % 10:Nat):Int):=by rw[<-hN,Int.neg_tmod,Int.tmod_eq_emod_of_nonneg a_];omega
   have hm:u % 10<10:=a_
   first
   |have _:=zj;have V:u / 10<=922337203685477580:=a_
   |have V:u / 10<=922337203685477580/\1<=u / 10:=a_
    have cG: ¬ -10<N:=a_
   generalize u / 10=q at *;generalize u % 10=m at *
   first
   |have _:=zj;have w1:IntKind.i64.wrap (q:Int)=q:=IntWalk.i64_in _ a_;have w2:IntKind.i64.wrap (m:Int)=m:=IntWalk.i64_in _ a_;have w3:IntKind.i64.wrap ((m:Int)+1)=(m:Int)+1:=IntWalk.i64_in _ a_;have t1:((m:Int)+1).toNat=m+1:=a_;have IH:=hid (λw=>bw w a_);have aP: ∀wx,(Instr.slice 9 (.string ⟨#[48,49,50,51,52,53,54,55,56,57]⟩) (some (.int .i64 (m:Int))) (some (.int .i64 ((m:Int)+1))) none).run Tryz.prog wx= .ok (.string ((⟨#[48,49,50,51,52,53,54,55,56,57]⟩:ByteArray).extract m (m+1))) wx:=λwx=>by
     have:=run_slice_string (P:=Tryz.prog) wx 9 ⟨#[48,49,50,51,52,53,54,55,56,57]⟩ .i64 .i64 (m:Int) ((m:Int)+1) Tryz.underlying9 a_ a_ (by show (m:Int)+1<=((10:Nat):Int);omega);simpa using this
    clear bw
   |obtain⟨Q,hQ⟩:=exQ<|-(q:Int)
    obtain⟨M,hM⟩:=exQ<|-(m:Int);rw[hQ] at k1;rw[hM] at k3;have w1:IntKind.i64.wrap Q=Q:=IntWalk.i64_in _ a_;have w2:IntKind.i64.wrap M=M:=IntWalk.i64_in _ a_;have w3:IntKind.i64.wrap (-M)= -M:=IntWalk.i64_in _ a_;have w4:IntKind.i64.wrap (-M+1)= -M+1:=IntWalk.i64_in _ a_;have IH:Hid (∀w,Calls Tryz.prog 127 #[Q] w λe w'=>e= .returned (.string (bs (45::Lib.decDigits q)))/\Below w.heap.size w w'):=
     hid (λw=>by rw[<-hQ];exact bw w V.2 a_)
    have aP: ∀wx,(Instr.slice 9 (.string ⟨#[48,49,50,51,52,53,54,55,56,57]⟩) (some (.int .i64 (-M))) (some (.int .i64 (-M+1))) none).run Tryz.prog wx= .ok (.string ((⟨#[48,49,50,51,52,53,54,55,56,57]⟩:ByteArray).extract m (m+1))) wx:=λwx=>by
     have:=run_slice_string (P:=Tryz.prog) wx 9 ⟨#[48,49,50,51,52,53,54,55,56,57]⟩ .i64 .i64 (-M) (-M+1) Tryz.underlying9 a_ a_ (by show -M+1<=((10:Nat):Int);omega);rw[show (-M).toNat=m by omega,show (-M+1).toNat=m+1 by omega] at this;exact this
    clear bw hN hM hQ
   have hD:(Lib.decDigits q).length<=19:=Cp q 19 a_ b_;have sE:((⟨#[48,49,50,51,52,53,54,55,56,57]⟩:ByteArray).extract m (m+1)).size=1:=by rw[uS m hm,aM];rfl
   first|have _:=zk;have cu:(45::Lib.decDigits q).length=(Lib.decDigits q).length+1:=rfl|skip
   generalize (⟨#[48,49,50,51,52,53,54,55,56,57]⟩:ByteArray).extract m (m+1)=E at *;first|have _:=zj;generalize Lib.decDigits q=D at *;have sD:=aM D|generalize (45::Lib.decDigits q)=D at *;have sD:=aM D;have hD2:D.length<=20:=a_;clear cu hD
   have hn1: ¬9223372036854775806<D.length:=a_;have hn2: ¬9223372036854775807<D.length+1:=a_;have hn3: ¬9223372036854775807<(bs D).size+E.size:=a_;go_enter Tryz.func127,Tryz.ntmps127;go_wp2_with fail;go_region_held3 (λw'=>Hid (Below w.heap.size w w')) ((first | exact(aB _ _).drew | exact aC (Hid.out l_) l_ | assumption))
    (first
    | (go_at_call 127;refine(IH.out _).mono ?_;rintro e w1 ⟨rfl,o⟩))
   all_goals rename_i hH
   all_goals go_wp2_with fail
   all_goals go_ret
   all_goals exact⟨rfl,hH.out⟩):P:=h
theorem u6(h:P:=by
 first|have:=DB;obtain⟨pl,nl,cl,rfl⟩:=hlv|obtain⟨R,h⟩: ∃R:Value,(if min x.til n<=x.fr+1 then .slice none 0 0 else .slice (pl.map λa=>a.add ((x.fr+1)*10)) (min x.til n-(x.fr+1)) (cl-(x.fr+1)))=R:=⟨_,rfl⟩;rw[h];have E:=hid h;clear h
 obtain⟨pn,nn,cn,rfl⟩:=hnv
 first
 |have:=DB;have sl:=aM s;obtain⟨R,h⟩:=exQ<|kG s a b;rw[h];unfold kG at h;obtain⟨W1,g⟩:=exQ<|w.alloc (.cells #[bs s, .slice pl nl cl, .slice pn nn cn] 26)
 |obtain⟨pk,nk,ck,rfl⟩:=hkv;obtain⟨W1,g⟩:=exQ<|w.alloc (.cells #[bs s, .slice pl n cl, .slice pn nn cn] 26)
 obtain⟨D,z⟩:=exQ<|w.heap.size;have b1:Below w.heap.size w W1:=by rw[<-g];exact aL _ _
 first
 |have:=DB;have o:W1.heap[D]?=some (.cells #[bs s, .slice pl nl cl, .slice pn nn cn] 26):=by rw[<-g,<-z];exact heap_alloc_new w _
  obtain⟨W2,f⟩:=exQ<|W1.alloc (.cells #[.int .i64 a,b] 42)
 |have o:W1.heap[D]?=some (.cells #[bs s, .slice pl n cl, .slice pn nn cn] 26):=by rw[<-g,<-z];exact heap_alloc_new w _
  obtain⟨W2,f⟩:=exQ<|W1.alloc (.cells #[x.kind,x.ind,x.fr,x.til,x.kf,x.kt,x.rf,x.rt, .slice pk nk ck] 45)
 obtain⟨S,y⟩:=exQ<|W1.heap.size;have b2:Below W1.heap.size W1 W2:=by rw[<-f];exact aL _ _
 first
 |have:=DB;have t:W2.heap[S]?=some (.cells #[.int .i64 a,b] 42):=by rw[<-f,<-y];exact heap_alloc_new W1 _
  obtain⟨d0,_⟩:=eE ((b2.block D (aF o)).trans o);obtain⟨y0,y1⟩:=jG t
 |have t:W2.heap[S]?=some (.cells #[x.kind,x.ind,x.fr,x.til,x.kf,x.kt,x.rf,x.rt, .slice pk nk ck] 45):=by rw[<-f,<-y];exact heap_alloc_new W1 _
  obtain⟨d0,d1,d2,_⟩:=eE ((b2.block D (aF o)).trans o);obtain⟨y0,y1,y2,y3,y4,y5,y6,y7,y8⟩:=oJ t
 have l:=hid (aC b1 b2);clear b1 b2 o t
 first
 |have:=DB;by_cases ha:a<0
  ·rw[if_pos (.inl ha)] at h;have da:decide (a<0)=true:=aO ha;clear ha;exact ez
  have da:decide (a<0)=false:=aG ha;by_cases hb:b<a
  ·rw[if_pos (.inr (.inl hb))] at h;have db:decide (b<a)=true:=aO hb;clear ha hb;exact ez
  have db:decide (b<a)=false:=aG hb;by_cases hc:(s.length:Int)<b
  ·rw[if_pos (.inr (.inr hc))] at h;have dc:decide ((s.length:Int)<b)=true:=aO hc;clear ha hb hc;exact ez
  have dc:decide ((s.length:Int)<b)=false:=aG hc;rw[if_neg a_] at h;obtain⟨a,rfl⟩: ∃k:Nat,a=k:=⟨a.toNat,a_⟩;obtain⟨b,rfl⟩: ∃k:Nat,b=k:=⟨b.toNat,a_⟩;have hab:(a:Int)<=(b:Int):=a_
  have hbl:(b:Int)<=(s.length:Int):=a_
  have ha0:(0:Int)<=(a:Int):=a_
  have hb0:(0:Int)<=(b:Int):=a_
  have B:=aBD s a b;rw[h] at B;clear ha hb hc;go_enter Tryz.func28,Tryz.ntmps28
 |go_enter Tryz.func27,Tryz.ntmps27
 go_upto_region 1 with fail;clear g f z y
 first
 |have:=DB;go_wp2_with fail;go_ret;exact⟨by first | rw[B] | simp[B],by first | exact l.out | exact l.out.drew⟩
 |obtain⟨f1,q⟩:=exQ<|x.fr+1
  have r:(x.fr:Int)+1=(f1:Int):=a_
  obtain⟨fr,i⟩:=exQ<|x.fr;obtain⟨til,d⟩:=exQ<|x.til;rw[d] at htil y3;rw[i] at r hfr y2;have A:=hid (aK q (aK i d));clear q i d;go_region
  all_goals
   obtain⟨tm,m⟩: ∃tm:Nat,min til n=tm:=⟨_,rfl⟩;have htmz:min (til:Int) (n:Int)=(tm:Int):=a_;have u:=hid m;by_cases hle:tm<=f1
   ·have C:decide ((tm:Int)<=(f1:Int))=true:=aO a_;have v:decide (tm<=f1)=true:=aO hle;have j:=hid hle;clear m hle;go_wp2_with fail;go_ret;refine⟨by first | exact l.out | exact l.out.drew,?_⟩;rw[<-E.out,A.out.1,A.out.2.2,u.out,if_pos j.out];rfl
   ·have C:decide ((tm:Int)<=(f1:Int))=false:=aG a_;have v:decide (tm<=f1)=false:=aG hle;have o:(f1:Int)<=(tm:Int):=a_;have t:(tm:Int)<=(cl:Int):=a_;have h3:(0:Int)<=(f1:Int):=a_;have h4:(0:Int)<=(tm:Int):=a_;have h1n:f1<=tm:=a_;have h2n:tm<=cl:=a_;obtain⟨pa,rfl⟩: ∃a,pl=some a:=by
     cases pl with
     | none=>have:=hpl rfl;omega
     | some a=>exact⟨a,rfl⟩
    have j:=hid hle;clear m hle;go_wp2_with fail
    all_goals
     go_ret;refine⟨by first | exact l.out | exact l.out.drew,?_⟩;rw[<-E.out,A.out.1,A.out.2.2,u.out,if_neg j.out]
     first | rfl | (exfalso;have:=j.out;omega)):P:=h
theorem q9(h:P:=by
 first
 |have _:=yx;obtain⟨R,hR⟩:=exQ<|pB T (n+1) ⟨3,x,y,n,0,0,x+n,x+n,0,0⟩
  have CR:Hid (∀W,bF W X ⟨3,x,y,n,0,0,x+n,x+n,0,0⟩->eB W->cW W->mF W->Calls Tryz.prog 146 #[some X,bs T, .int .i64 ((n:Int)+1)] W λe w'=>(∃v,e= .returned v)/\bF w' X R/\lV X W w'):=hid (λW t p r m=>by have:=Ej T (n+1) X ⟨3,x,y,n,0,0,x+n,x+n,0,0⟩ W ab (by have:=aM U;omega) t EJ ad p r m;rw[hR] at this;rw[show ((n:Int)+1)=((n+1:Nat):Int) by omega];exact this)
 |have _:=yz;obtain⟨R,hR⟩:=exQ<|pB T (n+0) ⟨5,x,y,n,0,0,x+n,x+n,0,0⟩
  have CR:Hid (∀W,bF W X ⟨5,x,y,n,0,0,x+n,x+n,0,0⟩->eB W->cW W->mF W->Calls Tryz.prog 146 #[some X,bs T,n] W λe w'=>(∃v,e= .returned v)/\bF w' X R/\lV X W w'):=hid (λW t p r m=>by have:=Ej T (n+0) X ⟨5,x,y,n,0,0,x+n,x+n,0,0⟩ W ab (by have:=aM U;omega) t EJ ad p r m;rw[hR] at this;rw[show (n:Int)=((n+0:Nat):Int) by omega];exact this)
 |obtain⟨R,hR⟩:=exQ<|pB T (n+(k+1)) ⟨4,x,y,n,x+n,x+n+k,x+n,x+n,0,0⟩
  have CR:Hid (∀W,bF W X ⟨4,x,y,n,x+n,x+n+k,x+n,x+n,0,0⟩->eB W->cW W->mF W->Calls Tryz.prog 146 #[some X,bs T, .int .i64 ((n:Int)+((k:Int)+1))] W λe w'=>(∃v,e= .returned v)/\bF w' X R/\lV X W w'):=hid (λW t p r m=>by have:=Ej T (n+(k+1)) X ⟨4,x,y,n,x+n,x+n+k,x+n,x+n,0,0⟩ W ab (by have:=aM U;omega) t EJ ad p r m;rw[hR] at this;rw[show ((n:Int)+((k:Int)+1))=((n+(k+1):Nat):Int) by omega];exact this)
 have HR:=hid hR;clear hR;go_wp2_with fail
 first
 |have _:=yx;have D:=hid (aK (A.out.1.set E 0 (.int .i64 (3))) (show bF (w4.setCell ⟨X,0,none⟩ (.int .i64 (3))) X ⟨3,x,y,n,0,0,x+n,x+n,0,0⟩ from (eP A.out.2 0 (.int .i64 (3)))))
 |have _:=yz;have D:=hid (aK (A.out.1.set E 0 (.int .i64 (5))) (show bF (w4.setCell ⟨X,0,none⟩ (.int .i64 (5))) X ⟨5,x,y,n,0,0,x+n,x+n,0,0⟩ from (eP A.out.2 0 (.int .i64 (5)))))
 |have D:=hid (aK (((A.out.1.set E 0 (.int .i64 (4))).set E 4 (.int .i64 ((x:Int)+(n:Int)))).set E 5 (.int .i64 ((x:Int)+(n:Int)+(k:Int)))) (show bF (((w4.setCell ⟨X,0,none⟩ (.int .i64 (4))).setCell ⟨X,4,none⟩ (.int .i64 ((x:Int)+(n:Int)))).setCell ⟨X,5,none⟩ (.int .i64 ((x:Int)+(n:Int)+(k:Int)))) X ⟨4,x,y,n,x+n,x+n+k,x+n,x+n,0,0⟩ from (eP (eP (eP A.out.2 0 (.int .i64 (4))) 4 (.int .i64 ((x:Int)+(n:Int)))) 5 (.int .i64 ((x:Int)+(n:Int)+(k:Int))))))
 clear s0 s1 a0 a1 a2 a3 a4 a5 a6 a7 a8 a9 g0 g1 g2 g3 g4 g5 g6 g7 g8 g9 b0 b1 b2 b3 b4 b5 b6 b7 b8 b9 I t p r m M F K G J;refine(CR.out _ D.out.2 (HV.out.keep D.out.1.b) (HT.out.keep D.out.1.b) (HM.out.keep D.out.1.b)).mono ?_;rintro e w5 ⟨⟨v,rfl⟩,ai,ak⟩;have Y:=hid (aK (D.out.1.only E ak) ai);clear ai ak;obtain⟨s0,s1⟩:=Y.out.1.s.cells;obtain⟨a0,a1,a2,a3,a4,a5,a6,a7,a8,a9,g0,g1,g2,g3,g4,g5,g6,g7,g8,g9⟩:=Y.out.2.cells;obtain⟨b0,b1,b2,b3,b4,b5,b6,b7,b8,b9,I,t,p,r,m,M,F,K,G,J⟩:=Y.out.1.l.cells;go_wp2_with fail;go_region;obtain⟨W,u⟩:=exQ<|(cY w5 (w.heap.size+1) R).drew;have N:=(bW.put (r2:=R) Y.out.1).drew;rw[u] at N;have g:=hid N;clear N;dsimp only[cY] at u;rw[u];clear u;clear s0 s1 a0 a1 a2 a3 a4 a5 a6 a7 a8 a9 g0 g1 g2 g3 g4 g5 g6 g7 g8 g9 b0 b1 b2 b3 b4 b5 b6 b7 b8 b9 I t p r m M F K G J;obtain⟨c0,c1,c2,c3,c4,c5,c6,c7,c8,c9,_⟩:=g.out.l.cells;go_wp2_with fail;refine bodyPost_ret (v:= .tuple #[dW R,y,(0:Int)]) ?_ rfl ⟨?_,g.out.b⟩
 ·exact fw
 first
 |have _:=yx
  ·rw[V.out];exact sX ((An U T n x y (3,0) P.out ag.out ⟨3,x,y,n,0,0,x+n,x+n,0,0⟩ rfl).trans HR.out)
 |have _:=yz
  ·rw[V.out];exact sX ((An U T n x y (5,0) P.out ag.out ⟨5,x,y,n,0,0,x+n,x+n,0,0⟩ rfl).trans HR.out)
 |·rw[V.out]
   exact sX ((An U T n x y (4,k) P.out ag.out ⟨4,x,y,n,x+n,x+n+k,x+n,x+n,0,0⟩ rfl).trans HR.out)):P:=h
theorem rp(h:P:=by
 first
 |first|have:=zo|have:=zp
  have f:=h.kids y (bD hy)
 |have f:=h.pcs y (bD hy)
 have q:=h.row.kept hg (gI h.row f b_);first|have:=zo;obtain⟨m,i⟩:=World.ownsRow.stored q (n*7+5) kv|have:=zp;obtain⟨m,i⟩:=World.ownsRow.stored q (n*9+8) kv|obtain⟨m,i⟩:=World.ownsRow.stored q (n*7+6) kv
 obtain⟨g',D,A,e,_,_,c⟩:=h.form (λe=>by rw[e] at hy;simp at hy);have C:g=g':=by injection e with e;injection e with e;injection e
 subst C
 first
 |first|have:=zo|have:=zq
  have b:w1.heap[g]?=some (.cells A 167 (0,0)):=ka
 |skip
 first|have:=zo;rw[zG z n y ({ y.1 with kids:=y.1.kids++ [k] },kv,y.2.2) hy 5 kv a_ rfl] at m|have:=zq;rw[zG z n y ({ y.1 with pcs:=y.1.pcs++ [k] },y.2.1,kv) hy 6 kv a_ rfl] at m|skip
 first
 |first|have:=zo|have:=zq
  refine⟨by rw[List.length_set];exact m,λx s=>?_,λx s=>?_,?_,?_⟩
 |have b:w1.heap[g]?=some (.cells A 45 (0,0)):=ka;rw[iC,xT _ 9 xU z n y ({ y.1 with kids:=y.1.kids++ [k] },kv) hy 8 kv a_ rfl] at m;refine⟨by rw[List.length_set];exact m,λx s=>?_,?_⟩
 first
 |have:=zq
  ·have F: ∀x∈z,(w1.setCell ⟨g,n*7+6,none⟩ kv).ownsRow B 3 1 x.2.1 x.1.kids.length (dJ x.1.kids):=λx s=>by
    have t:=h.kids x s;have r:=t.kept hg (gI t f b_);exact cb
   exact mj
 |skip
 ·obtain⟨j,u⟩:=List.getElem?_of_mem s;rw[List.getElem?_set] at u;by_cases hnj:n=j
  ·subst hnj;rw[if_pos rfl,if_pos (aR.1 hy).1] at u;obtain rfl:=aV u
   first
   |first|have:=zo|have:=zp
    have e:dJ (y.1.kids++ [k])=dJ y.1.kids++ [.int .i64 (k:Int)]:=by unfold dJ;simp
   |have e:kU (y.1.pcs++ [k])=kU y.1.pcs++ [.int .i64 (k.1:Int), .int .i64 (k.2:Int)]:=by unfold kU;simp
   simp only[e,aT,dS];exact hr.kept i (cQ hr b b_)
  ·rw[if_neg hnj] at u
   first
   |first|have:=zo|have:=zp
    have t:=h.kids x (bD u);have r:=t.kept hg (h.ak j n x y (Ne.symm hnj) u hy)
   |have t:=h.pcs x (bD u);have r:=t.kept hg (h.ap j n x y (Ne.symm hnj) u hy)
   exact cb
 first
 |have:=zo
  ·have F: ∀x∈z,(w1.setCell ⟨g,n*7+5,none⟩ kv).ownsRow B 42 2 x.2.2 x.1.pcs.length (kU x.1.pcs):=λx s=>by
    have t:=h.pcs x s;have r:=t.kept hg (gI t f b_);exact cb
   exact mj
 |have:=zq
  ·exact h.ak.set hy (.inl rfl)
 |skip
 ·first
  |first|have:=zo|have:=zp
   refine h.ak.set hy ?_
  |refine h.ap.set hy ?_
  rcases hat with hat | hat
  ·exact .inl hat
  ·refine .inr (λj yj u e=>?_)
   first
   |first|have:=zo|have:=zp
    have t:=h.kids yj (bD u)
   |have t:=h.pcs yj (bD u)
   simp only[] at e;rw[hat] at e;have:=(World.ownsRow.lt t H e).2;omega
 first
 |have:=zo
  ·exact h.ap.set hy (.inl rfl)
 |skip):P:=h
theorem td(h:P:=by
 first|have _:=AP;have q:Hid (((8:Int),(a:Int),ek,(0:Int))=R):=hid (by have:=i.out;rw[if_pos EX] at this;rw[<-this,t.out.1];unfold nU;simp);subst he0;clear i y t O h34|have _:=AQ;have q:Hid (((0:Int),ek,ek,ee)=R):=hid (by have:=i.out;rw[if_neg EX] at this;rw[<-this,t.out.1];unfold nU;simp only[];rw[if_neg EX,<-t.out.2]);have te:(ee !=0)=true:=eF.2 he0;clear i y t O h34 he0|skip
 first
 |first|have _:=AP|have _:=AQ
  go_wp2_with fail;(with_reducible refine(CE.out _ (HV.out.keep m.out.b) (HT.out.keep m.out.b)).mono ?_);rintro e w2 ⟨rfl,p⟩;have m:=hid (m.out.keep p);clear p0 q0 t0 t1 t2 f0 f1 f2 p
 |have hk5:=Ht c k hsg;have q:Hid (((2:Int)+(k:Int),(a:Int),(a:Int)+1,(0:Int))=R):=hid (by have:=HR.out;rw[hsg] at this;rw[<-this];unfold nU;simp);rw[hsg] at CI;clear hsg HR y HB t
 first
 |first|have _:=AR|have _:=AP
  obtain⟨p0,q0,t0,t1,t2,f0,f1,f2⟩:=m.out.cells
 |skip
 first|have _:=AR;(with_reducible refine(CI.out _).mono ?_);rintro e w' ⟨rfl,rfl⟩|skip
 first
 |first|have _:=AR|have _:=AP
  go_wp2_with fail;clear t0 t1 t2 f0 f1 f2 q0;with_reducible refine(TK.out _ _ _ p0).mono ?_
 |go_wp2_with fail;with_reducible refine(TF.out _ _ _).mono ?_
 rintro e w3 ⟨rfl,p⟩;have m:=hid (m.out.keep p)
 first
 |first|have _:=AR|have _:=AP
  clear p0 p
 |clear p
 obtain⟨p0,q0,t0,t1,t2,f0,f1,f2⟩:=m.out.cells;go_wp2_with fail
 first
 |have _:=AP;have j:=hid (m.out.put (8) ((a:Int)) (ek));obtain⟨WF,f⟩:=exQ<|gS w3 (w.heap.size+1) (8) ((a:Int)) (ek)
 |have _:=AQ;have j:=hid (m.out.put (0) (ek) (ek));obtain⟨WF,f⟩:=exQ<|gS w3 (w.heap.size+1) (0) (ek) (ek)
 |have j:=hid (m.out.put (2+(k:Int)) ((a:Int)) ((a:Int)+1));obtain⟨WF,f⟩:=exQ<|gS w3 (w.heap.size+1) (2+(k:Int)) ((a:Int)) ((a:Int)+1)
 rw[f] at j;dsimp only[gS] at f;rw[f]
 first
 |first|have _:=AP|have _:=AQ
  clear f;clear p0 q0 t0 t1 t2 f0 f1 f2
 |clear f p0 q0 t0 t1 t2 f0 f1 f2
 obtain⟨c0,c1,c2,_⟩:=j.out.1.cells;first|have _:=AP;refine bodyPost_ret (v:= .tuple #[.agg #[(8:Int), .int .i64 ((a:Int)),(ek:Int)],(0:Int)]) ?_ rfl ⟨by rw[<-q.out];rfl,j.out.2⟩|have _:=AQ;refine bodyPost_ret (v:= .tuple #[.agg #[(0:Int),(ek:Int),(ek:Int)],ee]) ?_ rfl ⟨by rw[<-q.out];rfl,j.out.2⟩|refine bodyPost_ret (v:= .tuple #[.agg #[.int .i64 (2+(k:Int)), .int .i64 ((a:Int)), .int .i64 ((a:Int)+1)],(0:Int)]) ?_ rfl ⟨by rw[<-q.out];rfl,j.out.2⟩
 exact dv):P:=h
theorem tg(h:P:=by
 have sl:=aM l
 first
 |have _:=AS;have CW:=hid (λw=>Eh l a b w hs);rw[h] at CW;clear h
 |have S:T.length=y-x:=by rw[<-hTd,bT,aU];omega
  have CW:Hid (∀w,Calls Tryz.prog 142 #[bs l, .agg #[x,y]] w λe w'=>e= .returned (.bool true)/\Below w.heap.size w w'):=hid (λw=>by
   have:=Eh l x y w hs;have e:pU l x y=true:=by
    unfold pU;rw[if_neg a_,fV,show ((y:Int)-(x:Int)).toNat=y-x by omega,hTd,h10];rfl
   rw[e] at this;exact this)
  have aq:(bs l).extract x y=bs T:=by rw[gL,aQ,hTd]
  have CG:Hid (∀w,cW w->Calls Tryz.prog 143 #[bs T] w λe w'=>e= .returned (.tuple #[k,true])/\Below w.heap.size w w'):=hid (λw hT=>by have:=Kt T w a_ hT;rw[Ab hw hk] at this;exact this);have sT:=aM T;have HT:=hid hT;have hxk:IntKind.i64.wrap ((x:Int)+(k:Int))=(x:Int)+(k:Int):=by rw[IntKind.wrap_i64];omega
  have hkb:(x:Int)+(k:Int)<=1073741824:=a_
  clear hT hw S;have ao:(x:Int)<=(y:Int):=a_
  have aj:(y:Int)<=(l.length:Int):=a_
 go_enter Tryz.func105,Tryz.ntmps105;go_wp2_with fail;first|have _:=AS;have Z:=hid (bW.start w a b)|have Z:=hid (bW.start w x y)
 (with_reducible refine(CW.out _).mono ?_);rintro e w1 ⟨rfl,O⟩
 have o:=hid (Z.out.keep O);clear O;obtain⟨s0,s1⟩:=o.out.s.cells
 first
 |have _:=AS;obtain⟨b0,b1,b2,b3,b4,b5,b6,b7,b8,b9,I,t,p,r,m,M,F,K,G,J⟩:=o.out.l.cells;go_wp2_with fail;have g:=hid (bW.put (r2:=aW) o.out);obtain⟨W,u⟩:=exQ<|cY w1 (w.heap.size+1) aW;rw[u] at g
 |go_wp2_with fail;have ae:=hid (HT.out.keep o.out.b);(with_reducible refine(CG.out _ ae.out).mono ?_);rintro e w2 ⟨rfl,Q⟩;have C:=hid (o.out.keep Q);clear Q s0 s1;obtain⟨s0,s1⟩:=C.out.s.cells;obtain⟨b0,b1,b2,b3,b4,b5,b6,b7,b8,b9,I,t,p,r,m,M,F,K,G,J⟩:=C.out.l.cells;go_wp2_with fail;go_region;obtain⟨W,u⟩:=exQ<|(cY w2 (w.heap.size+1) aW).drew;have N:=(bW.put (r2:=aW) C.out).drew;rw[u] at N;have g:=hid N;clear N
 dsimp only[cY,aW] at u;rw[u];clear u s0 s1 b0 b1 b2 b3 b4 b5 b6 b7 b8 b9 I t p r m M F K G J;obtain⟨c0,c1,c2,c3,c4,c5,c6,c7,c8,c9,_⟩:=g.out.l.cells;first|have _:=AS;refine bodyPost_ret (v:= .tuple #[dW aW,(0:Int),(1:Int)]) ?_ rfl ⟨rfl,g.out.b⟩|go_wp2_with fail;refine bodyPost_ret (v:= .tuple #[dW aW, .int .i64 ((x:Int)+k),(2:Int)]) ?_ rfl ⟨rfl,g.out.b⟩
 exact fw):P:=h
theorem qv(h:P:=by
 have sl:=aM l;obtain⟨R,hR⟩:=exQ<|cU l;rw[hR];unfold cU at hR
 first|have:=vt;have HV:=hid hV;have HT:=hid hT;clear hV hT|skip
 cases l with
 | nil=>
  simp at hR;subst hR;have he:(bs ([]:List UInt8)).toList= []:=C'
  have cl:(bs ([]:List UInt8)).toList.isEmpty=true:=by rw[Lib.toList_data,aQ];rfl
  exact pp
 | cons c r=>
  have h0:0<(bs (c::r)).size:=by rw[aM];simp
  have hne:(bs (c::r)).toList.isEmpty=false:=by rw[Lib.toList_data,aQ];rfl
  have hne2: ¬(bs (c::r)).toList= []:=by rw[Lib.toList_data,aQ];simp
  have ae:=iE (c::r) 34 34 rfl h0;have aa:=iE (c::r) 39 39 rfl h0;rw[List.head?_cons] at ae aa hR;have aJ:(c::r).length=r.length+1:=rfl;obtain⟨L,hL⟩:=exQ<|c::r
  first|have:=vt;have CE:=hid (λw hV hT=>Ho (c::r) 0 w hs hV hT);have CS:=hid (λw hT=>Ku (c::r) 0 w hs hT)|have CE:=hid (λw=>Kz (c::r) 0 w hs);have CS:=hid (λw=>Mn (c::r) 0 w hs)
  have eb:=Ed (c::r);have sb:=Ef (c::r);obtain⟨E,hE⟩:=exQ<|kL (c::r) 0;obtain⟨k1,e1⟩:=E;obtain⟨Q,hQ⟩:=exQ<|gT (c::r) 0;obtain⟨q1,k2,e2⟩:=Q;rw[hE] at CE eb hR;rw[hQ] at CS sb hR;unfold gP at CS;simp only[] at CE CS eb sb hR;obtain⟨x,hx⟩: ∃x:Int,(((bs (c::r))[0]'h0).toNat:Int)=x:=⟨_,rfl⟩;rw[hx] at ae aa;clear hE hQ hL;by_cases g1:c=34
  ·rw[if_pos (by rw[g1])] at hR;rw[show (some c==some 34)=true from by rw[g1];rfl] at ae;first|have:=vt;clear aa g1|rw[show (some c==some 39)=false from by rw[g1];rfl] at aa;clear g1
   by_cases ge:e1=0
   ·rw[if_pos ge] at hR;obtain⟨n,rfl⟩: ∃n:Nat,k1=n:=⟨k1.toNat,a_⟩;rw[fV] at hR;subst hR ge;exact jf
   ·rw[if_neg ge] at hR;subst hR;have te:(e1 !=0)=true:=eF.2 ge;clear ge;exact jf
  rw[if_neg (by simpa using g1)] at hR;rw[show (some c==some 34)=false from by rw[aE];simpa using g1] at ae;by_cases g2:c=39
  ·rw[if_pos (by rw[g2])] at hR;rw[show (some c==some 39)=true from by rw[g2];rfl] at aa;clear g1 g2;by_cases ge:e2=0
   ·rw[if_pos ge] at hR;obtain⟨n,rfl⟩: ∃n:Nat,k2=n:=⟨k2.toNat,a_⟩;rw[fV] at hR;subst hR ge;exact om
   ·rw[if_neg ge] at hR;subst hR;have te:(e2 !=0)=true:=eF.2 ge;clear ge;exact om
  ·rw[if_neg (by simpa using g2)] at hR;rw[show (some c==some 39)=false from by rw[aE];simpa using g2] at aa;subst hR;clear g1 g2;exact pp):P:=h
theorem r5(h:P:=by
 first
 |have:=AB;rw[if_pos u1] at b;have g:Hid (bK u=(10,ns,0)):=hid (by rw[b];rfl);rw[show (U== [116,114,117,101])=true from beq_iff_eq.2 u1] at t1;clear u1 b
 |have:=AC;rw[if_pos u2] at b;have g:Hid (bK u=(11,ns,0)):=hid (by rw[b];rfl);rw[show (U== [102,97,108,115,101])=true from beq_iff_eq.2 u2] at t2;clear u2 b
 |have:=AD;rw[if_pos u3] at b;have g:Hid (bK u=(12,ns,0)):=hid (by rw[b];rfl);rw[show (U== [110,117,108,108])=true from beq_iff_eq.2 u3] at t3;clear u3 b
 |have g:Hid (bK u=(1,nb,0)):=hid (by have h:=d.out;simp only[hbl,if_true] at h;rw[h,m.out.2.1]);rw[hbl] at A1;clear hbl d m f CE CP R2 R3 A2
 go_enter Tryz.func166,Tryz.ntmps166;go_wp2_with fail;refine wp_loop_rounds 7 ?_;rw[rounds_succ];go_wp2_with fail
 ·next h=>exact(q0 (eq_of_beq h)).elim
 rw[rounds_succ];go_wp2_with fail
 ·next h=>exact(q1 (eq_of_beq h)).elim
 rw[rounds_succ];go_wp2_with fail
 ·next h=>exact(q2 (eq_of_beq h)).elim
 rw[rounds_succ];go_wp2_with fail
 ·next h=>exact(q3 (eq_of_beq h)).elim
 rw[rounds_succ];go_wp2_with fail
 ·next h=>exact(q4 (eq_of_beq h)).elim
 rw[rounds_succ];go_wp2_with fail
 ·next h=>exact(q5 (eq_of_beq h)).elim
 rw[rounds_succ]
 first
 |first|have:=AB|have:=AC|have:=AD
  go_wp2_with (first | (go_at_call 196;(first | (with_reducible refine(A1.out _).mono ?_) | (with_reducible refine(A2.out _).mono ?_));rintro e w' ⟨rfl,rfl⟩) | (go_at_call 197;(with_reducible refine(R3.out _).mono ?_);rintro e w' ⟨rfl,rfl⟩))
 |go_wp2_with (first | (go_at_call 196;(with_reducible refine(A1.out _).mono ?_);rintro e w' ⟨rfl,rfl⟩) | (go_at_call 197;(with_reducible refine(R1.out _).mono ?_);rintro e w' ⟨rfl,rfl⟩))
 exact dn):P:=h
theorem iu(h:P:=by
 go_enter Tryz.func31,Tryz.ntmps31;go_upto_region 1 with fail;clear p K;go_wp2_with fail;refine(CS.out _).mono ?_;rintro e w2 ⟨rfl,rfl⟩;have m:=hid (aB W1.heap.size W1);have j:=hid (iJ (t:=fD) z.out C.out n.out (kY _ _ _ _) m.out o.out);obtain⟨r0,r1,r2,r3,f0,f1,f2,f3⟩:=bJ ((m.out.block R n.out).trans o.out);go_wp2_with fail;obtain⟨WF,d⟩:=exQ<|bB W1 R 0 ([]:aA) (.slice none 0 0) (.slice none 0 0);have g:fX w.heap.size (bB W1 R 0 ([]:aA) (.slice none 0 0) (.slice none 0 0)) (fD).depth (fD) (.slice none 0 0) (.slice none 0 0)/\Below w.heap.size w (bB W1 R 0 ([]:aA) (.slice none 0 0) (.slice none 0 0))/\(bB W1 R 0 ([]:aA) (.slice none 0 0) (.slice none 0 0)).heap[R]?=some (.cells #[(0:Int),bs ([]:aA),(.slice none 0 0),(.slice none 0 0)] 36):=j.out;rw[d] at g;have b:=hid g;have f:(((W1.setCell ⟨R,0,none⟩ (.int .i64 0)).setCell ⟨R,1,none⟩ (.string (bs ([]:aA)))).setCell ⟨R,2,none⟩ (.slice none 0 0)).setCell ⟨R,3,none⟩ (.slice none 0 0)=WF:=d
 first
   | rw[f]
   | (have i:(((W1.setCell ⟨R,0,none⟩ (.int .i64 0)).setCell ⟨R,1,none⟩ (.string ⟨#[]⟩)).setCell ⟨R,2,none⟩ (.slice none 0 0)).setCell ⟨R,3,none⟩ (.slice none 0 0)=WF:=d
      rw[i])
 clear d f g r0 r1 r2 r3 f0 f1 f2 f3 j;obtain⟨d0,d1,d2,d3,_⟩:=bJ b.out.2.2;refine bodyPost_ret (v:= .tuple #[.agg #[(0:Int),bs ([]:aA),(.slice none 0 0),(.slice none 0 0)],(2:Int)]) ?_ rfl ⟨⟨_,_,rfl,b.out.1⟩,b.out.2.1⟩;exact eu):P:=h
theorem vg(h:P:=by
 obtain⟨t1,t2,t3,t4⟩:=h.ty
 first
 |have:=DJ;have c:=h.box_grown h.lnr (Ne.symm t2) hg;have b:=cT w1 P 2 lv';have e:gK (lines++ [r])=gK lines++rA r:=by unfold gK;simp
  have f:=h.nod.grow h.lnr b_ b_ hg
 |have c:=h.box_grown h.nod.row (Ne.symm t3) hg;have b:=cT w1 P 3 nv';have f:=h.nod.push hx hr hg
 refine⟨?_,?_,?_,f.other c (Ne.symm t3) (Ne.symm t4) b,h.hB,h.ty,?_,λk o i=>?_⟩
 ·simp[World.setCell,Array.getElem?_modify,c]
 ·first|have:=DJ;have d:=h.spr.kept hg (gI h.spr h.lnr b_)|have d:=h.spr.kept hg (gI h.spr h.nod.row b_)
  exact d.kept b (cQ d c (Ne.symm t1))
 first
 |have:=DJ
  ·rw[e,aT];exact hr.kept b (cQ hr c (Ne.symm t2))
  ·exact(h.bel.grown hg h.bel.size (λk i=>(World.ownsRow.lt h.lnr k i).1)).setCell (p:=⟨P,2,none⟩) h.hB lv'
 |·have d:=h.lnr.kept hg (gI h.lnr h.nod.row b_)
   exact d.kept b (cQ d c (Ne.symm t2))
  ·exact(h.bel.grown hg h.bel.size (λk i=>(World.ownsRow.lt h.nod.row k i).1)).setCell (p:=⟨P,3,none⟩) h.hB nv'
 ·obtain⟨f1,f2,f3,f4,f5⟩:=h.fr k o i
  first
  |have:=DJ;refine⟨?_,f2,Eo hat hH (aF f1) f3,f4,f5⟩;rw[eC w1 ⟨P,2,none⟩ lv' k f2];exact pW hg f1 f3
  |refine⟨?_,f2,f3,Eo hat hH (aF f1) f4,λy g=>?_⟩
   ·rw[eC w1 ⟨P,3,none⟩ nv' k f2];exact pW hg f1 f4
   ·rcases rT.1 g with g | g
    ·exact f5 y g
    ·rw[mX.1 g];exact λe=>by cases e):P:=h
theorem uj(h:P:=by
 first|have:=BL;simp only[jH,mR,c1,if_false,c2,c3,and_self,if_true];by_cases hn:n<3|simp only[jH,mR,c1,if_false,c2,c3,c4,and_self,if_true];by_cases hn:n<4
 ·rw[if_pos a_,if_pos hn]
 ·rw[if_neg a_,if_neg hn];rw[Cc _ _ _ _ b_,e2,e3];first|have:=BL;simp only[show (3:Int).toNat-1=2 from rfl,yP,jI,if_true];rw[if_neg (show ¬(3:Int)=2 by decide)];have a:=tJ s (i+1);have b:=tJ s (i+2)|simp only[show (4:Int).toNat-1=3 from rfl,yP,jI,if_true];rw[if_neg (show ¬(4:Int)=2 by decide),if_neg (show ¬(4:Int)=3 by decide)];have a:=tJ s (i+1);have b:=tJ s (i+2);have hb3:=tJ s (i+3)
  generalize eU s (i+1)=b1 at *;generalize eU s (i+2)=b2 at *;first|have:=BM;generalize eU s (i+3)=b3 at *|skip
  by_cases h1:b1<128\/191<b1
  ·simp only[if_pos h1]
  by_cases h2:b2<128\/191<b2
  ·simp only[if_neg h1,if_pos h2]
  first
  |have:=BL;simp only[if_neg h1,if_neg h2];generalize hV:64*(64*(b0-224)+b1-128)+b2-128=V;by_cases hc:V<2048\/55296<=V/\V<57344
  |by_cases h3:b3<128\/191<b3
   ·simp only[if_neg h1,if_neg h2,if_pos h3]
   simp only[if_neg h1,if_neg h2,if_neg h3];generalize hV:64*(64*(64*(b0-240)+b1-128)+b2-128)+b3-128=V;by_cases hc:V<65536\/1114111<V
  ·rw[if_pos hc,if_pos];simp[oN];omega
  ·rw[if_neg hc,if_neg];simp[oN];omega):P:=h
theorem si(h:P:=by
 first|have:=AJ;have aX:1<E.size:=by omega|have aX:2<E.size:=by omega
 have hb:=aK a_;simp only[Nat.reduceSub] at hb;first|have:=AJ;have t1:((((⟨#[43,45,95]⟩:ByteArray)[1]' b_).toNat:Int) !=((E[1]'aX).toNat:Int))=true:=eF.2 (by show ((45:Nat):Int)≠_;omega);have CI:=hid (Hg (⟨#[43,45,95]⟩:ByteArray) 2 3 (E[1]'aX) a_)|have t1:((((⟨#[43,45,95]⟩:ByteArray)[2]' b_).toNat:Int) !=((E[2]'aX).toNat:Int))=true:=eF.2 (by show ((95:Nat):Int)≠_;omega);have CI:=hid (Hg (⟨#[43,45,95]⟩:ByteArray) 3 3 (E[2]'aX) a_)
 have hs3:(⟨#[43,45,95]⟩:ByteArray).size=3:=rfl;clear aK hn;go_wp2_with fail;first|have:=AJ;go_loopw [9] (λs9 wr=>s9= .int .i64 1/\w=wr) (λ_ _=>0)|go_loopw [9] (λs9 wr=>s9= .int .i64 2/\w=wr) (λ_ _=>0)
 case atStart=>exact⟨rfl,rfl⟩
 case round=>
  obtain⟨rfl,rfl⟩:=hrel;go_wp2_with fail;go_step3;go_wp2_with fail;go_quiet (fail);go_wp2_with fail;go_quiet ((go_at_call 41;first | exact quiet_left (CI.out _) | exact Hf (CI.out _)));go_wp2_with fail;show bodyPost Tryz.prog Tryz.f121 (λe w'=>e=Ending.returned (Value.int IntKind.i64 (-1))/\Below w.heap.size w w') Exit.ret _ _;go_ret;exact⟨rfl,below_drewN (aB _ _) _⟩):P:=h
theorem rg(h:P:=by
 obtain⟨R,c⟩:=exQ<|sN txt a b;rw[c];unfold sN at c;have d:=(aL w (.cells #[txt,nv] 134)).trans ((aL (w.alloc (.cells #[txt,nv] 134)) (.cells #[a,b] 42)).mono e_);have f:=hid d;clear d;by_cases h1:a<0
 ·rw[if_pos (.inl h1)] at c;have d1:decide (a<0)=true:=aO h1;subst c;exact ct
 have d1:decide (a<0)=false:=aG h1;by_cases h2:b<a
 ·rw[if_pos (.inr (.inl h2))] at c;have d2:decide (b<a)=true:=aO h2;subst c;exact ct
 have d2:decide (b<a)=false:=aG h2;by_cases h3:(txt.size:Int)<b
 ·rw[if_pos (.inr (.inr h3))] at c;have d3:decide ((txt.size:Int)<b)=true:=aO h3;subst c;exact ct
 have d3:decide ((txt.size:Int)<b)=false:=aG h3;rw[if_neg a_] at c;obtain⟨a',rfl⟩: ∃a':Nat,a=a':=⟨a.toNat,a_⟩;obtain⟨b',rfl⟩: ∃b':Nat,b=b':=⟨b.toNat,a_⟩;have i1:(0:Int)<=(a':Int):=a_
 have i2:(a':Int)<=(b':Int):=a_
 have i3:(b':Int)<=(txt.size:Int):=a_
 subst c;simp only[fV];exact ct):P:=h
theorem sx(h:P:=by
 first|have _:=AM;obtain rfl:R=false:=l.trans (aG (λh=>by have:=h.1;simp only[] at this;rw[hD] at this;cases this));have r:=hid (λw=>yC d w false hd hD);clear hD l|skip
 go_enter Tryz.func125,Tryz.ntmps125;go_wp2_with fail;refine(CN.out _).mono ?_;rintro en w1 ⟨rfl,b⟩;obtain⟨u,x⟩:=vD b;go_wp2_with fail;refine(r.out _).mono ?_;rintro en w2 ⟨rfl,o⟩;have C:=hid ((((aB _ _).alloc (aD _) _).trans (b.mono e_)).trans (o.mono (by have:=b.size;simp at this;omega)));have hz1:w.heap.size<w1.heap.size:=by have:=b.size;simp at this;omega
 obtain⟨hc2,hf2⟩:=vD o;clear b o;go_wp2_with fail
 all_goals go_ret
 first
 |have _:=AM;all_goals exact⟨rfl,C.out⟩
 |all_goals refine⟨pL ?_,C.out⟩
  all_goals rw[z.out]
  all_goals first
   | (simp;omega)
   | (simp[c1];done)
   | (simp[c1];omega)
   | (rename_i h;simp[c1,h];done)
   | (rename_i h;simp[c1,h];omega)):P:=h
theorem ul(h:P:=by
 obtain⟨lv,r,q,i,j,o⟩:=h;first|have:=BN;have d:=j.kids y (bD hy)|have d:=j.pcs y (bD hy)
 obtain⟨a1,a2⟩:=rL r q hg (λk i=>by obtain⟨f,p⟩:=kO d k i;exact⟨f,_,p,b_,b_⟩);have c:=j.row.kept hg (gI j.row d b_);obtain⟨f,b⟩:=kO c g rfl;first|have:=BN;obtain⟨b1,b2⟩:=rL a1 a2 (cT w1 g (n*7+5) kv) (λk i=>by have e:g=k:=aV i;subst e;exact⟨f,_,b,b_,b_⟩)|obtain⟨b1,b2⟩:=rL a1 a2 (cT w1 g (n*7+6) kv) (λk i=>by have e:g=k:=aV i;subst e;exact⟨f,_,b,b_,b_⟩)
 have l:B<=g:=(World.ownsRow.lt c g rfl).1;first|have:=BN;refine⟨⟨lv,?_,b2,i,j.kid hy hH hr hg hat,o⟩,(Fr.grown d b_ hg hB).trans (Fr.setM b b_ l)⟩|refine⟨⟨lv,?_,b2,i,j.pc hy hH hr hg hat,o⟩,(Fr.grown d b_ hg hB).trans (Fr.setM b b_ l)⟩
 rw[List.length_set];exact b1):P:=h
theorem tc(h:P:=by
 have sl:=aM l;unfold kL;by_cases h:a<0\/(l.length:Int)<a
 ·rw[if_pos h];rcases h with h | h
  all_goals
   first|have:=AO;go_enter Tryz.func178,Tryz.ntmps178|go_enter Tryz.func100,Tryz.ntmps100
   exact bo
 ·rw[if_neg h];have h1:0<=a:=a_
  have h2:a<=l.length:=a_
  first|have:=AO;have C:=Hn l a.toNat w hs a_ hV hT|have C:=Ky l a.toNat w hs a_
  rw[show ((a.toNat:Nat):Int)=a by omega] at C;obtain⟨R,hR⟩:=exQ<|bV l a;obtain⟨s,k,er⟩:=R;rw[hR] at C ⊢;have HC:=hid C
  first|have:=AO;clear C hR hV hT h;go_enter Tryz.func178,Tryz.ntmps178|clear C hR h;go_enter Tryz.func100,Tryz.ntmps100
  go_wp2_with fail;refine HC.out.mono ?_;unfold gP;exact an):P:=h
theorem u7(h:P:=by
 intro i
 induction i using Nat.strongRecOn with
 | _ i ih=>
  intro j;obtain⟨o,b⟩: ∃o,ops[i]?=some o:=⟨_,Array.getElem?_eq_getElem j⟩;cases hc:L.getD i false with
  | true=>rfl
  | false=>
   first|have:=DC;have g:i∈Region.ready .any ops L:=mem_ready.2 ⟨by rw[aI,Array.getElem?_eq_getElem a_] at hc ⊢;simpa using hc,o,b,λe f c=>ih _ ((Cw h b).1 e f c) (by have:=(Cw h b).1 e f c;omega)⟩|have g:i∈Region.ready .any ops L:=mem_ready.2 ⟨by rw[aI,Array.getElem?_eq_getElem a_] at hc ⊢;simpa using hc,o,b,λe f c=>ih _ (Me h b e f c) (by have:=Me h b e f c;omega)⟩
   rw[hr] at g;cases g):P:=h
theorem uq(h:P:=by
 have b:=h.keep hb;refine⟨b.box,b.spr,b.lnr,b.nod,b.hB,b.ty,b.bel,λk o' c=>?_⟩
 first
 |have:=BQ;by_cases hkX:k=X
 |rcases hp k o' c with d | ⟨hX,ho⟩
  ·exact b.fr k o' d
 ·first|have:=BQ;subst hkX;rw[aJ.put_eq] at c;obtain rfl:=aV c|skip
  have hP:=aF h.box;refine⟨ho,a_,λe=>?_,λe=>?_,λy f e=>?_⟩
  ·have:=(World.ownsRow.lt h.lnr k e).2;omega
  ·have:=(World.ownsRow.lt h.nod.row k e).2;omega
  ·have:=(World.ownsRow.lt (h.nod.kids y f) k e).2;omega
 first
 |have:=BQ
  ·rw[aJ.put_ne _ _ hkX] at c;exact b.fr k o' c
 |skip):P:=h
theorem ve(h:P:=by
 first|have:=DH;refine tR hm sl n hn hback hdst (λd v w'=>gQ ops sl eff fr Fb val S Ph d v w') ?_ hs (λv w h=>hd v w (λi g b c f=>h.cl i g c f (aO b)) (h.fin (λe l=>?_)))|refine tR hm K n hn hback hdst (λd v w'=>cC ops sl eff fr Fb val S Ph d v w') ?_ hs (λv w h=>hd v w (λi g b c f=>h.cl i g c f (aO b)) (h.fin (λe l=>?_)))
 ·exact⟨λ_ _ _ _ h=>Bool.noConfusion h,λ_ _ _ h=>Bool.noConfusion h,λ_=>h0,λ_ h=>Bool.noConfusion h,0,dY _,λj e _=>⟨λh=>Bool.noConfusion h,λh=>absurd h (rY _)⟩,hP⟩
 ·exact gW.1 heff e l):P:=h
theorem i9(h:P:=by
 intro d a w' iq o' hO ho hi E aa F R' G;have Z:=eA aa [(0,some P),(10,some X2),(14,false)] rfl rfl;have hc:=F.all [(0,56),(1,57),(4,60),(5,61),(6,62),(17,73),(18,74),(19,75),(30,86)] b_;dsimp only[dX,dT,lk] at Z hc;clear aa
 repeat' rcases hO with _ | ⟨_,hO⟩
 all_goals (simp only[dA,cR,bZ,cG] at ho;subst ho;try simp[Region.binds] at E)
 iterate 7 (refine jF ?_;go_simp;exact G _ _ F.sp)
 iterate 25 exact F.sk G (hd:=by simp[E])):P:=h
theorem vj(h:P:=by
 first|have:=DL;have c: ∀(j:Nat) (yj:ND),(z++ [y])[j]?=some yj->z[j]?=some yj\/(j=z.length/\yj=y):=jk|have c: ∀(j:Nat) (yj:YN),(z++ [y])[j]?=some yj->z[j]?=some yj\/(j=z.length/\yj=y):=jk
 intro i j yi yj g e b;rcases c i yi e with e | ⟨e,rfl⟩
 ·rcases c j yj b with b | ⟨b,rfl⟩
  ·exact h i j yi yj g e b
  ·first|have:=DL;by_cases hn:(f yi).ownBlock=none|by_cases hn:yi.2.ownBlock=none
   ·exact .inl hn
   ·exact .inr (by rw[hy];exact hn)
 ·exact .inl hy):P:=h
theorem oo(h:P:=by
 go_enter Tryz.func145,Tryz.ntmps145;go_wp2_with (go_at_call 179;refine(CS.out _).mono ?_;rintro e w' ⟨rfl,rfl⟩);(with_reducible refine(CQ.out _ HV.out HT.out).mono ?_);rintro e w1 ⟨rfl,o⟩;have G:=hid o;clear o;go_wp2_with (go_at_call 179;refine(am.out _).mono ?_;rintro e w' ⟨rfl,rfl⟩);go_ret2;exact⟨rfl,G.out⟩):P:=h
theorem je(h:P:=by
 refine⟨[], .slice (some ⟨g,0,none⟩) L.length c, .slice none 0 0, .slice none 0 0,rfl,⟨W.out,?_,⟨rfl, .inl ⟨rfl,rfl⟩⟩,fH.nil _ _,ci,b_,K.out,λk o hk=>by cases hk⟩⟩;have h:=S.out;unfold iK at h;rw[show eK i L=oF l by rw[<-ai.out,Gg,<-HL.out];rfl] at h;exact h):P:=h
theorem az(h:P:=by
 rintro e w7 hE;have HE:=hid (hE.less ap.out);clear hE;cases Q with
 | bad a er=>
  obtain⟨⟨m,rfl⟩,an⟩:=HE.out;have HF:=hid an;clear an HE;exact bj
 | ok nn sq=>
  obtain⟨rfl,fm⟩:=HE.out;have HF:=hid fm;clear fm HE;go_wp2_with fail;go_ret2;rw[<-bx.out];exact am):P:=h
theorem jj(h:P:=by
 subst hI;have hr:=HR.out;rw[List.drop_length] at hr;unfold lW at hr;have bi:=hid hr;have d1:decide ((sp.length:Int)<(sp.length:Int))=false:=aG a_;have HF:=HJ;clear hr hil;go_wp2_with fail;go_ret2;rw[<-bi.out];exact am):P:=h
theorem ew(h:P:=by
 have ab:=F.at2 (j:=0) rfl hi (.inl rfl);have hA:Below W2.heap.size W2 w':=ab;go_simp;exact G _ _ (F.ef 0 ad ha hi (.inl rfl) (λ_ _ _=>trivial) (λ_=>cj.out 1 _ _ b_ ⟨w',hA,rfl,rfl⟩) ⟨w',hA,rfl,rfl⟩)):P:=h
theorem jn(h:P:=by
 go_wp2_with fail;go_roundw
 case rel=>exact⟨i+1,dM,o5,q_,a_,by first | exact ez | exact hid (ez.out.keep (aB _ _).drew)⟩
 case measure=>simp[RowKit.intOf];omega):P:=h
theorem ez(h:P:=by
 go_enter Tryz.func28,Tryz.ntmps28;go_upto_region 1 with fail;clear g f z y;go_wp2_with fail;go_ret;rw[<-h];exact⟨rfl,by first | exact l.out | exact l.out.drew⟩):P:=h
theorem jr(h:P:=by
 go_wp2_with fail;go_roundw
 case rel=>exact⟨j+1,q_,a_,F,by first | exact D | exact hid (below_drewN D.out _)⟩
 case measure=>simp[RowKit.intOf];omega):P:=h
theorem d_(h:P:=by first | first | exact E | exact E.1 | exact E.2 | exact E.2.1 | exact E.2.2 | exact E.2.2.1 | exact E.2.2.2 | (exact ha ⟨_,_⟩ (by simp) rfl)):P:=h
theorem fg(h:P:=by
 have dw:=hid bX;clear bX;go_wp2_with fail;go_ret2;rw[<-dw.out];exact⟨rfl,by first | exact cv.out | exact cv.out.keep (aB _ _).drew⟩):P:=h
theorem gx(h:P:=by
 go_enter Tryz.func145,Tryz.ntmps145;go_wp2_with (go_at_call 179;refine(CS.out _).mono ?_;rintro e w' ⟨rfl,rfl⟩);go_ret2;exact ab):P:=h
theorem kg(h:P:=by
 rintro e w5 ⟨rfl,aj⟩;exact G _ _ (F.qu ad ha hi (λ_=>ak.out _ (aC hA aj)) (λk c _ hp=>hp.keep aj) (λx hx=>hx.keep aj))):P:=h
theorem fi(h:P:=by
 go_wp2_with (go_at_call 91;refine(CG.out _).mono ?_;rintro e w' ⟨rfl,rfl⟩);go_ret3;exact⟨by rw[<-HF.out];rfl,rfl⟩):P:=h
theorem km(h:P:=by
 first|have _:=vw;simp[results,Tryz.results81,go_sem,d0,d1,d2,d3,vv]|simp[results,Tryz.results59,go_sem,d0,d1,d2,d3,vv]):P:=h
theorem ku(h:P:=by
 go_wp2_with fail;go_roundw
 case rel=>exact⟨p+n,a_,HG.out,a7.out,ah.out⟩
 case measure=>rw[b0.out,HM.out];omega):P:=h
theorem k8(h:P:=by
 rintro e w2 ⟨rfl,hj⟩;have HF:=hid hj;clear hj;go_wp2_with fail;go_ret2;rw[<-HR.out];exact⟨rfl,HF.out.bad⟩):P:=h
theorem ky(h:P:=by
 rcases Nat.eq_zero_or_pos d.size with h | h
 ·exact absurd (List.eq_nil_of_length_eq_zero a_) this
 ·exact h):P:=h
theorem li(h:P:=by
 have h1:=HG.out;cases f with
 | zero=>exact hid h1.symm
 | succ f=>rw[Ak,if_pos hkN] at h1;exact hid h1.symm):P:=h
theorem o9(h:P:=by
 clear b a;first|have:=wa;go_enter Tryz.func187,Tryz.ntmps187|go_enter Tryz.func193,Tryz.ntmps193
 exact aa):P:=h
theorem la(h:P:=by
 repeat (first | refine iI ?_ (aD _) | refine Below.drew ?_)
 first|have:=vx;exact O.out|exact V.out):P:=h
theorem dh(h:P:=by
 cases hc:d (eff.getLastD 0) with
 | false=>rfl
 | true=>rw[h.clo.reach f _ _ hr hc] at hi;cases hi):P:=h
theorem pp(h:P:=by
 first|have:=vt;go_enter Tryz.func144,Tryz.ntmps144|go_enter Tryz.func65,Tryz.ntmps65
 exact bn):P:=h
theorem lz(h:P:=by
 go_wp2_with fail;go_quiet (fail);go_wp2_with fail;go_ret2;exact⟨rfl,below_drewN aq.out _⟩):P:=h
theorem me(h:P:=by
 obtain⟨z,sv,lvv,nv,hz,hK⟩:=da.out.keep jD;rw[nA];exact⟨z,sv,lvv,nv,hz,hK.count t2⟩):P:=h
theorem gw(h:P:=by
 have uq:=F.g 1 57 c_;have qa:=F.g 2 58 c_;have zp:=F.g 3 59 c_;refine rE uq ?_;exact bc):P:=h
theorem fm(h:P:=by
 go_round
 case rel=>exact⟨k+1,q_,a_,z.out⟩
 case measure=>simp[RowKit.intOf];omega):P:=h
theorem mg(h:P:=by
 go_wp2_with fail;go_meet;exact⟨false,rfl,hid (λh=>by cases h),hid (λ_=>o.out),m⟩):P:=h
theorem pd(h:P:=by
 all_goals go_ret
 all_goals exact⟨rfl,((aB _ _).alloc (aD _) _).trans (b.mono e_)⟩):P:=h
theorem fs(h:P:=by
 rw[aU] at this;have g:=(aR.1 h1.2).1;simp only[Int.toNat_zero] at this g ⊢;omega):P:=h
theorem mu(h:P:=by
 go_wp2_with fail;go_ret2;exact⟨Ac (HR.out.symm.trans (Ab HG.out F)),ah.out⟩):P:=h
theorem ft(h:P:=by
 go_wp2_with fail;go_region;go_wp2_with fail;go_ret;exact⟨rfl,l.out.drew⟩):P:=h
theorem mo(h:P:=by
 injection h with p o;subst p o;exact⟨b.rst.1,by have:=b.rst;omega,b_⟩):P:=h
theorem fu(h:P:=by
 repeat (first | refine iI ?_ (aD _) | refine Below.drew ?_)
 exact k.out):P:=h
theorem nu(h:P:=by
 exact⟨_,by first | exact ez | exact hid (ez.out.keep (aB _ _).drew)⟩):P:=h
theorem mw(h:P:=by
 go_ret;exact⟨v1,rfl,by rw[<-l.out];exact iK.snoc d,o.out.trans c⟩):P:=h
theorem pg(h:P:=by
 have h:=Tryz.strings_TrimLeft_one (bs t) 32 b_ w;rw[aQ] at h;exact av):P:=h
theorem an(h:P:=by
 rintro e w1 ⟨rfl,o⟩;go_wp2_with fail;go_ret2;exact⟨rfl,o⟩):P:=h
theorem pf(h:P:=by
 have Ao:=F.g 0 45 c_;have AN:=F.g 1 46 c_;refine jF ?_;exact bc):P:=h
theorem gj(h:P:=by
 simp[results,Tryz.results63,go_sem,r0,r1,r2,dV,cF];try rfl):P:=h
theorem nw(h:P:=by
 exact zW (((f.out.setCell e_ _).setCell e_ _).drew) _ rfl):P:=h
theorem bx(h:P:=by
 injection h with h _;injection h with _ h;rw[<-h];decide):P:=h
theorem du(h:P:=by
 go_wp2_with fail;go_meet;exact⟨by rw[<-J.out],rfl⟩):P:=h
theorem A'(h:P:=by first | exact ee.out | exact ee.out.keep (aB _ _).drew):P:=h
theorem DX(h:P:=by first | exact gy.out | exact gy.out.keep (aB _ _).drew):P:=h
theorem D4(h:P:=by first | exact pK.out | exact pK.out.keep (aB _ _).drew):P:=h
theorem ig(h:P:=by
 go_wp2_with fail;refine(CL.out _ DW).mono ?_;exact az):P:=h
theorem gq(h:P:=by
 injection h with d b;subst d b;exact⟨_,rfl⟩):P:=h
theorem ed(h:P:=by
 go_wp2_with fail;refine C1.out.mono ?_;exact bd):P:=h
theorem D'(h:P:=by have h:=bm.out;have B:=bK.out;simp at h B;omega):P:=h
theorem ED(h:P:=by intro e;apply hc;apply UInt8.toNat_inj.1;omega):P:=h
theorem gu(h:P:=by
 injection h with h _;exact hV _ _ _ _ _ _ _ h):P:=h
theorem gt(h:P:=by
 go_wp2_with fail;go_ret;exact⟨rfl,j.out⟩):P:=h
theorem io(h:P:=by
 go_enter Tryz.func225,Tryz.ntmps225;exact aa):P:=h
theorem ah(h:P:=by
 go_wp2_with fail;go_meet;exact⟨rfl,rfl⟩):P:=h
theorem aa(h:P:=by
 go_wp2_with fail;go_ret;exact⟨rfl,rfl⟩):P:=h
theorem f_(h:P:=by first | exact aB _ _ | exact(aB _ _).drew):P:=h
theorem aw(h:P:=by
 go_ret;exact⟨mA (by rw[u.out]),rfl⟩):P:=h
theorem EU(h:P:=by show w.heap.size<=w.heap.size+2;omega):P:=h
theorem nj(h:P:=by
 first|have _:=vy;exact ao|exact am):P:=h
theorem bn(h:P:=by
 go_wp2_with fail;go_ret;exact ab):P:=h
theorem bw(h:P:=by
 simp only[RowKit.intOf];omega):P:=h
theorem ep(h:P:=by
 unfold cH at h ⊢;exact ai):P:=h
theorem cb(h:P:=by
 exact r.kept i (cQ r b b_)):P:=h
theorem C'(h:P:=by rw[Lib.toList_data,aQ]):P:=h
theorem ab(h:P:=by
 exact⟨rfl,aB _ _⟩):P:=h
theorem am(h:P:=by
 exact⟨rfl,HF.out⟩):P:=h
theorem o_(h:P:=by unfold maxLen;omega):P:=h
theorem ar(h:P:=by
 simp[go_sem,d0,d1]):P:=h
theorem al(h:P:=by
 simp only[];omega):P:=h
theorem EZ(h:P:=by exact_mod_cast e):P:=h
theorem EC(h:P:=by simpa using hc):P:=h
theorem r_(h:P:=by simpa using h):P:=h
theorem y_(h:P:=by rw[aU];omega):P:=h
theorem d'(h:P:=by kernel_rfl):P:=h
theorem c_(h:P:=by simp[E]):P:=h
theorem b_(h:P:=by decide):P:=h
end Go.Proofs.YtfhjncbdgjlcoaaGreatDoor
