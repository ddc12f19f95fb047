import Derived.Test.YtfhjncbdgjlcoaaGreatDoorYn0a
set_option maxRecDepth 100000
namespace Go.Proofs.YtfhjncbdgjlcoaaGreatDoor
variable{P:Prop}
theorem PU(h:P:=by
 first
 |have _:=RX;obtain⟨R1,bz⟩: ∃R1,(if t.kind=4 then gV txt (bS txt lv) 5 false nodes.length r (t.sf,t.st) (nodes++ [⟨eD t.kind,t.sf,t.st,key,[],[]⟩]) else
    if t.kind=2 then gV txt (bS txt lv) 3 true nodes.length r (t.sf,t.st) (nodes++ [⟨eD t.kind,t.sf,t.st,key,[],[]⟩]) else
    JR.ok r (t.sf,t.st) (nodes++ [⟨eD t.kind,t.sf,t.st,key,[],[]⟩]))=R1:=⟨_,rfl⟩
  have eY:bS txt (lv+1) (t::r) l nodes key=uI nodes.length R1:=by
   rw[<-bz];show (if eD t.kind=0 then _ else _)=_;rw[if_neg hk,if_neg hm]
  rw[eY]
 |intro w k l nodes key lev h hb hN hN4 hl;obtain⟨R,hR⟩:=exQ<|bS txt lv (L.drop k) l nodes key;rw[hR];have HR:=hid hR;have gm:=hid IH;have fd:=hid hTB;have jB:=hid hsg;have HB:=hid hb;have bh:w0.heap.size<=w.heap.size:=hb.size;have iP:=h.qN;have iT:=hid iP;obtain⟨ew,ep⟩:=h.ptr;obtain⟨q,hq⟩:=exQ<|dY (L.drop k);have f9:=hid hq;have b0:=aL w (.cells #[key.1,key.2] 42);have bt:=heap_alloc_new w (.cells #[key.1,key.2] 42);obtain⟨K,ix⟩:=exQ<|w.heap.size;obtain⟨W1,dS⟩:=exQ<|w.alloc (.cells #[key.1,key.2] 42);rw[dS] at b0 bt;rw[ix] at bt;have fo:=hid (h.keep b0);have fi:=hid bt;have fc:=hid (Fr.of_below (P:=P) b0 bh);have gU:w0.heap.size<=W1.heap.size:=bF bh fc.out.sz;have CK:Hid (∀w',aA W1 w'->Calls prog 168 #[some P] w' (aT w' (.int .i64 (q:Int)))):=hid (λw' jl=>by have:=vM _ P txt L k nodes w' (fo.out.keep jl) a_;rw[hq] at this;exact this);have CS:=hid (λw'=>aDc q w');obtain⟨kd,bT⟩:=exQ<|eD q;have fG:=hid bT;obtain⟨sc,fO⟩:=exQ<|zE q;rw[fO] at CS;have cz:(if q=2 then 6 else if q=4 then 5 else sc)=kd:=by rw[<-fO,<-aDb,bT]
  have gr:=hid cz;clear hb iP hq b0 bt h bT cz hR hTB hsg fO IH;have es:=hid hl;clear hl;go_in;go_upto_region 1 with fail;clear dS ix;go_wp2_with fail;refine aH (CK.out _ (aD _ _)) λw2 cw=>?_;have ce:=hid cw;clear cw;go_wp2_with fail;refine(CS.out _).mono ?_;rintro e w3 ⟨rfl,rfl⟩;go_wp2_with fail;refine aH (CK.out _ ce.out) λw4 ap=>?_;have dH:=hid (aE ce.out ap);clear ap;go_upto_if 15 with fail;obtain⟨k1,aX⟩:=exQ (if q=4 then 5 else sc);have av:=hid aX;clear aX;go_cut [7] (λs7 wx=>s7= .int .i64 (k1:Int)/\w4=wx)
  case first=>
   have aX:=av.out;by_cases Q:q=4
   .rw[if_pos Q] at aX;subst aX;have d4:((q:Int)==4)=true:=by rw[Q];rfl
    clear Q;exact ag
   .rw[if_neg Q] at aX;subst aX;have d4:((q:Int)==4)=false:=by simp;omega
    clear Q;exact ag
  obtain⟨rfl,rfl⟩:=hcut;go_wp2_with fail;refine aH (CK.out _ dH.out) λw5 dd=>?_;have fY:=hid (aE dH.out dd);clear dd;go_upto_if 18 with fail;go_cut [7] (λs7 wx=>s7= .int .i64 (kd:Int)/\w5=wx)
  case first=>
   have cz:=gr.out;have aX:=av.out;by_cases G:q=2
   .rw[if_pos G] at cz;subst cz;have d2:((q:Int)==2)=true:=by rw[G];rfl
    clear G aX;exact ag
   .rw[if_neg G,aX] at cz;subst cz;have d2:((q:Int)==2)=false:=by simp;omega
    clear G aX;exact ag
  obtain⟨rfl,rfl⟩:=hcut;obtain⟨z,nv,hz,fX⟩:=fo.out.keep fY.out;have cg:z.length=nodes.length:=IP
  have dt:=hid fX;have HZ:=hid hz;have dG:=hid (fc.out.trans (Fr.of_below (P:=P) fY.out gU));have db:=hid ((fY.out.block _ (aG fi.out)).trans fi.out);have CW:=hid (λer=>xE _ P txt L k z nv er w5 fX a_ a_);clear hz fX ce dH av gr CS CK fo fi fc;have bb:Hid (∀er w6,(∃gQ,cN w6 P txt gQ k nv (cH txt.length (L.drop k)) er)->dT P w5 w6->R= .bad (cH txt.length (L.drop k)) er->rE w0.heap.size P txt L R w (.returned (.bool false)) w6):=hid (λer w6 aV ho hR=>by obtain⟨gQ,aV⟩:=aV;rw[hR];refine⟨rfl,(mE.of dt.out ho aV).mono ?_,dG.out.trans (dT.fr ho ep (bF bh dG.out.sz))⟩;have W:=iT.out;omega);by_cases hA:kd=0
  .have hR:R= .bad (cH txt.length (L.drop k)) 2:=by
    rw[<-HR.out];have O:eD (dY (L.drop k))=0:=(by rw[f9.out,fG.out,hA]);cases lv with
    | zero=>exact if_pos O
    | succ m=>exact if_pos O
   have d0:((kd:Int)==0)=true:=by rw[hA];rfl
   have ef:=hid hR;clear hR hA;go_wp2_with fail;refine(CW.out 2).mono ?_;rintro e w6 ⟨rfl,aV,ho⟩;have HE:=hid (bb.out 2 w6 aV ho ef.out);clear aV ho;exact cy
  have d0:((kd:Int)==0)=false:=by simp;omega
  have cD: ¬eD (dY (L.drop k))=0:=by rw[f9.out,fG.out];exact hA
  by_cases hlv0:lv=0
  .subst hlv0;have hR:R= .bad (cH txt.length (L.drop k)) 5:=by
    rw[<-HR.out];exact if_neg cD
   have dl:decide (32<lev)=true:=aQ GS;have ef:=hid hR;clear hR hA cD;go_wp2_with fail;refine(CW.out 5).mono ?_;rintro e w6 ⟨rfl,aV,ho⟩;have HE:=hid (bb.out 5 w6 aV ho ef.out);clear aV ho;exact cy
  obtain⟨m,rfl⟩: ∃m,lv=m+1:=⟨lv-1,a_⟩;have dl:decide (32<lev)=false:=aJ GS;obtain⟨p3,bq,rfl⟩:=dt.out.at_.slice;have c3:=dt.out.c3;rw[cg] at c3;by_cases hM:nodes.length=4096
  .have hR:R= .bad (cH txt.length (L.drop k)) 6:=by
    rw[<-HR.out];show (if _ then _ else _)=_;rw[if_neg cD,if_pos hM]
   have dm:decide ((4096:Int)<=(nodes.length:Int))=true:=aQ a_;have hI:decide (4096<=nodes.length)=true:=aQ a_;have ef:=hid hR;clear hR hA cD hM;go_wp2_with fail;refine(CW.out 6).mono ?_;rintro e w6 ⟨rfl,aV,ho⟩;have HE:=hid (bb.out 6 w6 aV ho ef.out);clear aV ho;exact cy
  have dm:decide ((4096:Int)<=(nodes.length:Int))=false:=aJ a_;have hI:decide (4096<=nodes.length)=false:=aJ a_;clear CW bb;have eh:dY (L.drop k)≠0:=λh=>cD (by rw[h];rfl);obtain⟨t,el⟩: ∃t,L[k]?=some t:=⟨_,bI (zD eh)⟩;have gD:=(aW.1 el).1;have hk0':(0:Int)<=(k:Int):=a_
  have hk1':(k:Int)<(L.length:Int):=a_
  have gz:=hid el;obtain⟨q',jH⟩:=exQ kd;obtain⟨lvv,qb,qt,_,qn,_⟩:=dt.out;obtain⟨g,o,c,rfl,gF,t0,t1,t2,eZ,bk⟩:=qt.tok el;have qc:=qb.cells;have fV:=dt.out.keep (aD _ w5).drew;have gi:=hid fV;have cd:=hid fV.at_;have al:w0.heap.size<=w5.drew.heap.size:=bF bh dG.out.sz;have cB:w5.drew.cell? (K,0)=some (.int .i64 (key.1:Int)):=(mF db.out).1;have ck:w5.drew.cell? (K,1)=some (.int .i64 (key.2:Int)):=(mF db.out).2.1;have cr:w5.drew.cell? (g,o+k*3+1)=some (.int .i64 (t.sf:Int)):=t1;have cx:w5.drew.cell? (g,o+k*3+2)=some (.int .i64 (t.st:Int)):=t2;have dn:=aG db.out;have gs:=aG bk;have cJ:=qb.lt;have q4:w5.drew.cell? (P,3)=some (.slice p3 nodes.length bq):=by rw[<-cg];exact dt.out.c3
  have dZ:SQ w5.drew K g P (.slice (some ⟨g,o,none⟩) L.length c) k w5.drew:=⟨⟨rfl,rfl⟩,qc.2.1,qc.2.2.1⟩;obtain⟨OB,gd⟩: ∃ob:Obj, .cells #[kd, .int .i64 (t.sf:Int), .int .i64 (t.st:Int),key.1,key.2,(),()] 167=ob:=⟨_,rfl⟩;have ba:=aL w5.drew OB;have cu:Hid (SQ w5.drew K g P (.slice (some ⟨g,o,none⟩) L.length c) k (w5.drew.alloc OB)):=hid ⟨⟨ba.block _ dn,ba.block _ gs⟩,by rw[ba.cell (p:=⟨P,1,none⟩) cJ];exact qc.2.1,by rw[ba.cell (p:=⟨P,2,none⟩) cJ];exact qc.2.2.1⟩;have fK:g≠P:=λe=>by
   have hq:=qb;unfold cN at hq;rw[<-e,bk] at hq;exact pd
  have jt:K≠P:=λe=>by
   have hq:=qb;unfold cN at hq;rw[<-e,db.out] at hq;exact pd
  have ca:Hid (∀w2,w5.drew.grownBy w2 (Value.slice p3 z.length bq).ownBlock->SQ w5.drew K g P (.slice (some ⟨g,o,none⟩) L.length c) k w2/\w2.cell? (P,3)=some (.slice p3 nodes.length bq)/\w2.frozen? ⟨P,3,none⟩=false/\ ∀u,SQ w5.drew K g P (.slice (some ⟨g,o,none⟩) L.length c) k (w2.setCell ⟨P,3,none⟩ u)):=hid (λw2 hg=>by
   have ch: ∀(k:Nat) (cs:Array Value) (tt:TypeId),w5.drew.heap[k]?=some (.cells cs tt (0,0))->167≠tt->w2.heap[k]?=w5.drew.heap[k]?:=λk cs tt hk N=>hg.block k (aG hk) (λe=>by obtain⟨i0,hc⟩:=lI cd.out.row k e.symm;rw[hk] at hc;injection hc with hc;injection hc with _ hc;exact N hc.symm);have oX:=ch K _ _ db.out b_;have oG:=ch g _ _ bk b_;have oP:=ch P _ _ qb b_;have j2:cN w2 P txt (.slice (some ⟨g,o,none⟩) L.length c) k (.slice p3 z.length bq) 0 0:=oP.trans qb;obtain⟨_,e1,e2,e3,_,_,_,_,g3,_⟩:=j2.cells;rw[cg] at e3;refine⟨⟨⟨oX,oG⟩,e1,e2⟩,e3,g3,λu=>⟨⟨?_,?_⟩,(j2.nodes u).cells.2.1,(j2.nodes u).cells.2.2.1⟩⟩
   .rw[eW w2 ⟨P,3,none⟩ u _ jt];exact oX
   .rw[eW w2 ⟨P,3,none⟩ u _ fK];exact oG)
  have cb:Hid (∀d v w',QF (Qf P p3 nodes bq kd g o L.length c k t key (w5.drew).heap.size) (SQ w5.drew K g P (.slice (some ⟨g,o,none⟩) L.length c) k) w5.drew OB (λnv w2=>w2.ownsRow w0.heap.size 167 7 nv (z.length+1) (jR z++gP (⟨kd,t.sf,t.st,key,[],[]⟩, .slice none 0 0, .slice none 0 0))/\w5.drew.grownBy w2 (Value.slice p3 z.length bq).ownBlock) P d v w'->d 4=false->w'.cell? (P,3)=some (.slice p3 nodes.length bq)):=hid (λd v w' C Q=>by
   have i7:d 20=false:=by
    cases hc:d 20 with
    | false=>rfl
    | true=>have:=(C.up hc).2;rw[Q] at this;cases this
   cases h19:d 19 with
   | false=>rw[C.w0 h19];exact q4
   | true=>rw[C.w1 h19 i7,ba.cell (p:=⟨P,3,none⟩) cJ];exact q4)
  have iu:nodes.length<4096:=a_
  have jd:=hid iu;have ev:L.drop k=t::L.drop (k+1):=by
   rw[gB gD];congr 1;have:=(aW.1 el).2;exact this
  have dp:eD t.kind=kd:=by
   rw[<-fG.out,<-f9.out,ev];rfl
  obtain⟨R1,bz⟩:=exQ (if t.kind=4 then gV txt (bS txt m) 5 false nodes.length (L.drop (k+1)) (t.sf,t.st) (nodes++ [⟨kd,t.sf,t.st,key,[],[]⟩]) else if t.kind=2 then gV txt (bS txt m) 3 true nodes.length (L.drop (k+1)) (t.sf,t.st) (nodes++ [⟨kd,t.sf,t.st,key,[],[]⟩]) else .ok (L.drop (k+1)) (t.sf,t.st) (nodes++ [⟨kd,t.sf,t.st,key,[],[]⟩]));have f6:Hid (uI nodes.length R1=R):=hid (by
   rw[<-HR.out,<-bz]
   conv=>rhs;unfold bS
   rw[if_neg cD,if_neg hM,ev];simp only[dp])
 have I:=hid bz
 first
 |have _:=RX;have fd:=hid ht;have HS:=hid (aK hSV hT);have jT:=hid h.nodesN;have W:=h.keep (W1.bel w P key);have CK:=hid (uQ _ P txt (t::r) l nodes _ W K');have CO:=hid (Ag (dY (t::r)) (W1 w P key));obtain⟨q,hq⟩:=exQ<|eD t.kind;rw[show eD (dY (t::r))=q from hq] at CO;rw[hq] at hk I;have HQ:=hid hq;have d0:((q:Int)==0)=false:=aI.2 a_;have d1:decide (32<lev)=false:=aJ a_;have hX:=(mQ (W1.X w P key)).1;have hY:=qO (W1.Y w P key);have HF:=hid (Fr.of_below (P:=P) (W1.bel w P key) hb.size);have HB:=hid hb;have bh:=hb.size;have hPw:=h.box.1;obtain⟨ew,ep,_,_⟩:=W.box;obtain⟨rv,z,nv,b1,b2,b3,b4,b5⟩:=W;obtain⟨p0,c0,rfl⟩:=b4.slice;obtain⟨q0,q1,_,_,q4,_,_,_,_,_,f4,_⟩:=b1.cells;obtain⟨g,o,c,rfl,hc,k0,k1,k2,bk⟩:=b2.head';have hz:z.length=nodes.length:=by rw[<-b3,bP]
  rw[hz] at q4;have dm:((nodes.length:Int)==4096)=false:=aI.2 a_;have eN:=(W1.bel w P key).size;have dn:w.heap.size<(W1 w P key).heap.size:=aG (W1.X w P key);have it:w.heap.size+1<(W1 w P key).heap.size:=aG (W1.Y w P key);obtain⟨eZ,bk⟩:=bk;have al:w0.heap.size<=(W1 w P key).drew.heap.size:=bF bh eN;have eA:=b4.keep (aD _ (W1 w P key)).drew;have en:=b1.keep (aD _ (W1 w P key)).drew;have iL:=b2.keep (aD _ (W1 w P key)).drew;have ha:JZ w0.heap.size P txt (t::r) l z (.slice p0 z.length c0) (W1 w P key).drew:=⟨_,en,iL,eA,ep⟩;have e:(P:Nat)≠w.heap.size:=a_
  have ca:Hid (∀w2,(W1 w P key).drew.grownBy w2 (Value.slice p0 z.length c0).ownBlock->SP (W1 w P key).drew w.heap.size (w.heap.size+1) g P (.slice (some ⟨g,o,none⟩) (r.length+1) c) w2/\w2.cell? (P,4)=some (.slice p0 nodes.length c0)/\w2.frozen? ⟨P,4,none⟩=false/\ ∀u,SP (W1 w P key).drew w.heap.size (w.heap.size+1) g P (.slice (some ⟨g,o,none⟩) (r.length+1) c) (w2.setCell ⟨P,4,none⟩ u)):=hid (λw2 hg=>by
   have ch: ∀(k:Nat) (cs:Array Value) (tt:TypeId),(W1 w P key).drew.heap[k]?=some (.cells cs tt (0,0))->167≠tt->w2.heap[k]?=(W1 w P key).drew.heap[k]?:=λk cs tt hk N=>hg.block k (aG hk) (λe=>by obtain⟨i0,hc⟩:=lI eA.row k e.symm;rw[hk] at hc;injection hc with hc;injection hc with _ hc;exact N hc.symm);have oX:=ch _ _ _ (W1.X w P key) b_;have oY:=ch _ _ _ (W1.Y w P key) b_;have oG:=ch _ _ _ bk b_;have oP:=ch _ _ _ en b_;have j2:dO w2 P txt (.slice (some ⟨g,o,none⟩) (r.length+1) c) l (.slice p0 z.length c0) 0 0:=oP.trans en;obtain⟨_,e1,_,_,e4,_,_,_,_,_,g4,_⟩:=j2.cells;rw[hz] at e4;have fK:g≠P:=λe=>by
    have hq:=b1;unfold dO at hq;have iG:(W1 w P key).heap[P]?=some (.cells eZ 163 (0,0)):=e ▸ bk;rw[iG] at hq;injection hq with hq;injection hq with _ hq;exact absurd hq b_
   refine⟨⟨⟨oX,oY,oG⟩,e1⟩,e4,g4,λu=>⟨⟨?_,?_,?_⟩,(j2.nodes u).cells.2.1⟩⟩
   .rw[eW w2 ⟨P,4,none⟩ u _ h_];exact oX
   .rw[eW w2 ⟨P,4,none⟩ u _ h_];exact oY
   .rw[eW w2 ⟨P,4,none⟩ u _ fK];exact oG)
  have fC:=hid ha;have cd:=hid eA;have dZ:SP (W1 w P key).drew w.heap.size (w.heap.size+1) g P (.slice (some ⟨g,o,none⟩) (r.length+1) c) (W1 w P key).drew:=⟨⟨rfl,rfl,rfl⟩,q1⟩;obtain⟨OB,gd⟩: ∃ob:Obj, .cells #[q, .int .i64 (t.sf:Int), .int .i64 (t.st:Int),key.1,key.2,(),()] 167=ob:=⟨_,rfl⟩;have ba:=aL (W1 w P key).drew OB;have cu:Hid (SP (W1 w P key).drew w.heap.size (w.heap.size+1) g P (.slice (some ⟨g,o,none⟩) (r.length+1) c) ((W1 w P key).drew.alloc OB)):=hid ⟨⟨ba.block _ dn,ba.block _ it,ba.block _ (aG bk)⟩,by rw[ba.cell (p:=⟨P,1,none⟩) ew];exact q1⟩;have cb:Hid (∀d v w',PF (Kg P p0 nodes c0 q g o r c t key (W1 w P key).drew.heap.size) (SP (W1 w P key).drew w.heap.size (w.heap.size+1) g P (.slice (some ⟨g,o,none⟩) (r.length+1) c)) (W1 w P key).drew OB (λnv w2=>w2.ownsRow w0.heap.size 167 7 nv (z.length+1) (jR z++gP (⟨q,t.sf,t.st,key,[],[]⟩, .slice none 0 0, .slice none 0 0))/\(W1 w P key).drew.grownBy w2 (Value.slice p0 z.length c0).ownBlock) P d v w'->d 4=false->w'.cell? (P,4)=some (.slice p0 nodes.length c0)):=hid (λd v w' C Q=>by
   have jM:d 16=false:=by
    cases hc:d 16 with
    | false=>rfl
    | true=>have:=(C.up hc).2;rw[Q] at this;cases this
   cases h15:d 15 with
   | false=>rw[C.w0 h15];exact q4
   | true=>rw[C.w1 h15 jM,ba.cell (p:=⟨P,4,none⟩) ew];exact q4)
  have bt:(W1 w P key).drew.cell? (w.heap.size,0)=some (.pointer (some ⟨P,0,none⟩)):=hX;have cB:(W1 w P key).drew.cell? (w.heap.size+1,0)=some (.int .i64 (key.1:Int)):=hY.1;have ck:(W1 w P key).drew.cell? (w.heap.size+1,1)=some (.int .i64 (key.2:Int)):=hY.2;have cr:(W1 w P key).drew.cell? (g,o+1)=some (.int .i64 (t.sf:Int)):=k1;have cx:(W1 w P key).drew.cell? (g,o+2)=some (.int .i64 (t.st:Int)):=k2;have dr:(0:Int)<(r.length:Int)+1:=a_
 |have eS:=hid dp;have jY:=hid gD;have iz:(nodes++ [(⟨kd,t.sf,t.st,key,[],[]⟩:aM)]).length+(L.drop (k+1)).length<=131074:=by
   rw[aZ,dF];rw[ev,bM] at hN;omega
  have gy:=hid iz
 have e5:prog.follows .mixedOrders=true:=d'
 first
 |have _:=RX;clear h hb b1 b2 b4 hm hq eY bz ht hSV hT en iL eA ha ba bk eN dn it ew e;go_in;go_upto_region 1 with fail;change Code.wp _ _ _ _ (W1 w P key);go_wp2_with fail;refine CK.out.mono ?_;rintro e w2 ⟨rfl,rfl⟩;go_wp2_with fail;refine CO.out.mono ?_;rintro e w2 ⟨rfl,rfl⟩;go_upto_region 9 with fail;clear k0 k1 k2 q0 hX hY d0 d1 dm;obtain⟨W0,aU⟩:=exQ<|(W1 w P key).drew;refine uL e5 [38,39,40,41,42,43,44,45,46,47,48,49,50,51,52,53,54,55,56] 90 rfl d' d' (λd v w'=>PF (Kg P p0 nodes c0 q g o r c t key (W1 w P key).drew.heap.size) (SP (W1 w P key).drew w.heap.size (w.heap.size+1) g P (.slice (some ⟨g,o,none⟩) (r.length+1) c)) (W1 w P key).drew OB (λnv w2=>w2.ownsRow w0.heap.size 167 7 nv (z.length+1) (jR z++gP (⟨q,t.sf,t.st,key,[],[]⟩, .slice none 0 0, .slice none 0 0))/\(W1 w P key).drew.grownBy w2 (Value.slice p0 z.length c0).ownBlock) P d v w') ⟨λ_ _ _ h=>absurd h b_,dZ,λh=>absurd h b_,λh=>absurd h b_,λ_=>rfl,λh=>absurd h b_,λh=>absurd h b_,λh=>absurd h b_⟩ ?_ ?_
 |clear el iu ev dp bz iz qb qt qn qc t0 t1 t2 fV ba bk dn gs cJ jH hA cD hM eh q';go_upto_region 13 with fail;clear d0 dl dm hI c3;obtain⟨W0,aU⟩:=exQ<|w5.drew;refine uL e5 [40,41,42,43,44,45,46,47,48,49,50,51,52,53,54,55,56,57,58,59,60,61,62] 105 rfl d' d' (λd v w'=>QF (Qf P p3 nodes bq kd g o L.length c k t key (w5.drew).heap.size) (SQ w5.drew K g P (.slice (some ⟨g,o,none⟩) L.length c) k) w5.drew OB (λnv w2=>w2.ownsRow w0.heap.size 167 7 nv (z.length+1) (jR z++gP (⟨kd,t.sf,t.st,key,[],[]⟩, .slice none 0 0, .slice none 0 0))/\w5.drew.grownBy w2 (Value.slice p3 z.length bq).ownBlock) P d v w') ⟨λ_ _ _ h=>absurd h b_,dZ,λh=>absurd h b_,λh=>absurd h b_,λ_=>rfl,λh=>absurd h b_,λh=>absurd h b_,λh=>absurd h b_⟩ ?_ ?_
 .intro d a w' i o' ho hi f ad C R' hR
  first
  |have _:=RX;have d7:i<20:=(mK.1 ho).1;have q3:a.tmps[3]?.getD undef= .pointer (some ⟨w.heap.size,0,none⟩):=by rw[<-aN];exact ad 3 b_
   have q5:a.tmps[5]?.getD undef= .pointer (some ⟨w.heap.size+1,0,none⟩):=by rw[<-aN];exact ad 5 b_
   have q7:a.tmps[7]?.getD undef= .int .i64 (q:Int):=by rw[<-aN];exact ad 7 b_
   clear ad;rw[aU] at C hR bt cB ck cr cx cb cu ca cd al;rcases Uu d7 with rfl|rfl|rfl|rfl|rfl|rfl|rfl|rfl|rfl|rfl|rfl|rfl|rfl|rfl|rfl|rfl|rfl|rfl|rfl|rfl<;>simp only[cR,cP,bY,cC] at ho<;>subst ho
  |have d7:i<24:=(mK.1 ho).1;have q0:a.tmps[0]?.getD undef= .pointer (some ⟨P,0,none⟩):=by rw[<-aN];exact ad 0 b_
   have q5:a.tmps[5]?.getD undef= .pointer (some ⟨K,0,none⟩):=by rw[<-aN];exact ad 5 b_
   have q7:a.tmps[7]?.getD undef= .int .i64 (kd:Int):=by rw[<-aN];exact ad 7 b_
   clear ad;rw[aU] at C hR cB ck cr cx cb cu ca cd al;rcases aDp d7 with rfl|rfl|rfl|rfl|rfl|rfl|rfl|rfl|rfl|rfl|rfl|rfl|rfl|rfl|rfl|rfl|rfl|rfl|rfl|rfl|rfl|rfl|rfl|rfl<;>simp only[cR,cP,bY,cC] at ho<;>subst ho
  .first|have _:=RX;have x0:=(jQ C.st.1.1 0).trans bt|skip
   go_simp;exact hR _ _ (C.pure (i:=0) rfl rfl b_ b_ b_)
  .first|have _:=RX;have x0:=(jQ C.st.1.1 0).trans bt|skip
   go_simp;exact hR _ _ (C.pure (i:=1) rfl rfl b_ b_ b_)
  .simp[Region.binds] at f;first|have _:=RX;have c39:a.tmps[39]?.getD undef= .pointer (some ⟨P,0,none⟩):=by rw[<-aN];exact C.cl 1 b_ b_ l_|have jh:a.tmps[41]?.getD undef= .pointer (some ⟨P,0,none⟩):=by rw[<-aN];exact C.cl 1 b_ b_ l_
   go_simp;exact hR _ _ (C.pure (i:=2) rfl rfl b_ b_ b_)
  .simp[Region.binds] at f;first|have _:=RX;have i3:a.tmps[40]?.getD undef= .pointer (some ⟨P,0,none⟩):=by rw[<-aN];exact C.cl 2 b_ b_ l_|have ie:a.tmps[42]?.getD undef= .pointer (some ⟨P,0,none⟩):=by rw[<-aN];exact C.cl 2 b_ b_ l_
   go_simp;exact hR _ _ (C.pure (i:=3) rfl rfl b_ b_ b_)
  .simp[Region.binds] at f;first|have _:=RX;have jh:a.tmps[41]?.getD undef= .pointer (some ⟨P,4,none⟩):=by rw[<-aN];exact C.cl 3 b_ b_ l_|have i1:a.tmps[43]?.getD undef= .pointer (some ⟨P,3,none⟩):=by rw[<-aN];exact C.cl 3 b_ b_ l_
   have x4:=cb.out d _ w' C hi;go_simp;exact hR _ _ (C.pure (i:=4) rfl rfl b_ b_ b_)
  .go_simp;exact hR _ _ (C.pure (i:=5) rfl rfl b_ b_ b_)
  .first|have _:=RX;have x0:=(jQ C.st.1.1 0).trans bt|skip
   go_simp;exact hR _ _ (C.pure (i:=6) rfl rfl b_ b_ b_)
  .simp[Region.binds] at f;first|have _:=RX;have iv:a.tmps[44]?.getD undef= .pointer (some ⟨P,0,none⟩):=by rw[<-aN];exact C.cl 6 b_ b_ l_|have jC:a.tmps[46]?.getD undef= .pointer (some ⟨P,0,none⟩):=by rw[<-aN];exact C.cl 6 b_ b_ l_
   go_simp;exact hR _ _ (C.pure (i:=7) rfl rfl b_ b_ b_)
  .simp[Region.binds] at f;first|have _:=RX;have jj:a.tmps[45]?.getD undef= .pointer (some ⟨P,0,none⟩):=by rw[<-aN];exact C.cl 7 b_ b_ l_|have jV:a.tmps[47]?.getD undef= .pointer (some ⟨P,0,none⟩):=by rw[<-aN];exact C.cl 7 b_ b_ l_
   go_simp;exact hR _ _ (C.pure (i:=8) rfl rfl b_ b_ b_)
  .simp[Region.binds] at f
   first
   |have _:=RX;have jC:a.tmps[46]?.getD undef= .pointer (some ⟨P,1,none⟩):=by rw[<-aN];exact C.cl 8 b_ b_ l_
    have x0:=C.st.2
   |have jo:a.tmps[48]?.getD undef= .pointer (some ⟨P,1,none⟩):=by rw[<-aN];exact C.cl 8 b_ b_ l_
    have x0:=C.st.2.1
   go_simp;exact hR _ _ (C.pure (i:=9) rfl rfl b_ b_ b_)
  .first|have _:=RX;simp[Region.binds] at f;have jV:a.tmps[47]?.getD undef= .slice (some ⟨g,o,none⟩) (r.length+1) c:=by rw[<-aN];exact C.cl 9 b_ b_ l_|skip
   go_simp;exact hR _ _ (C.pure (i:=10) rfl rfl b_ b_ b_)
  .simp[Region.binds] at f;first|have _:=RX;have jo:a.tmps[48]?.getD undef= .pointer (some ⟨g,o,none⟩):=by rw[<-aN];exact C.cl 10 b_ b_ l_|have j3:a.tmps[50]?.getD undef= .pointer (some ⟨P,0,none⟩):=by rw[<-aN];exact C.cl 10 b_ b_ l_
   go_simp;exact hR _ _ (C.pure (i:=11) rfl rfl b_ b_ b_)
  .simp[Region.binds] at f
   first
   |have _:=RX;have i9:a.tmps[49]?.getD undef= .pointer (some ⟨g,o+1,none⟩):=by rw[<-aN];exact C.cl 11 b_ b_ l_
    have x1:=(jQ C.st.1.2.2 (o+1)).trans cr;have x2:=(jQ C.st.1.2.2 (o+2)).trans cx
   |have i2:a.tmps[51]?.getD undef= .pointer (some ⟨P,0,none⟩):=by rw[<-aN];exact C.cl 11 b_ b_ l_
   go_simp;exact hR _ _ (C.pure (i:=12) rfl rfl b_ b_ b_)
  .first
   |have _:=RX;have x1:=(jQ C.st.1.2.1 0).trans cB;have x2:=(jQ C.st.1.2.1 1).trans ck
   |simp[Region.binds] at f;have i5:a.tmps[52]?.getD undef= .pointer (some ⟨P,2,none⟩):=by rw[<-aN];exact C.cl 12 b_ b_ l_
    have x0:=C.st.2.2
   go_simp;exact hR _ _ (C.pure (i:=13) rfl rfl b_ b_ b_)
  .simp[Region.binds] at f
   first
   |have _:=RX;have i1:a.tmps[43]?.getD undef= .int .i64 (q:Int):=by rw[<-aN];exact C.cl 5 b_ b_ l_
    have j3:a.tmps[50]?.getD undef= .agg #[.int .i64 (t.sf:Int), .int .i64 (t.st:Int)]:=by rw[<-aN];exact C.cl 12 b_ b_ l_
    have i2:a.tmps[51]?.getD undef= .agg #[key.1,key.2]:=by rw[<-aN];exact C.cl 13 b_ b_ l_
   |have i9:a.tmps[49]?.getD undef= .slice (some ⟨g,o,none⟩) L.length c:=by rw[<-aN];exact C.cl 9 b_ b_ l_
    have iC:a.tmps[53]?.getD undef= .int .i64 (k:Int):=by rw[<-aN];exact C.cl 13 b_ b_ l_
   go_simp;exact hR _ _ (C.pure (i:=14) rfl rfl b_ b_ b_)
  .simp[Region.binds] at f
   first
   |have _:=RX;have i5:a.tmps[52]?.getD undef= .agg #[q, .int .i64 (t.sf:Int), .int .i64 (t.st:Int),key.1,key.2,(),()]:=by rw[<-aN];exact C.cl 14 b_ b_ l_
    obtain rfl:=C.w0 hi;go_simp;exact hR _ _ (C.mk' hi rfl cu.out)
   |have jS:a.tmps[54]?.getD undef= .pointer (some ⟨g,o+k*3,none⟩):=by rw[<-aN];exact C.cl 14 b_ b_ l_
    go_simp;exact hR _ _ (C.pure (i:=15) rfl rfl b_ b_ b_)
  .simp[Region.binds] at f
   first
   |have _:=RX;have e4:d 4=true:=l_
    have fM:d 15=true:=l_;have ie:a.tmps.getD 42 undef= .slice p0 nodes.length c0:=E_;have iC:a.tmps.getD 53 undef= .slice (some ⟨W0.heap.size,0,none⟩) 1 1:=(by exact C.cl 15 b_ b_ (fM));obtain rfl:=C.w1 fM hi;rw[<-gd];exact Kf rfl (.tmp 42) (.tmp 53) rfl w0.heap.size W0 (.slice p0 z.length c0) z ⟨q,t.sf,t.st,key,[],[]⟩ _ rfl (by rw[hz];exact ie) cd.out.row iC a_ al (λnv w2 aw ay=>hR _ _ (C.app fM e4 hi (ca.out w2 ay).1 ⟨aw,ay⟩))
   |have jr:a.tmps[55]?.getD undef= .pointer (some ⟨g,o+k*3+1,none⟩):=by rw[<-aN];exact C.cl 15 b_ b_ l_
    have x1:=(jQ C.st.1.2 (o+k*3+1)).trans cr;have x2:=(jQ C.st.1.2 (o+k*3+2)).trans cx;have jO:=x2;rw[show o+k*3+2=o+k*3+1+1 by omega] at jO;go_simp;exact hR _ _ (C.pure (i:=16) rfl rfl b_ b_ b_)
  .first|have _:=RX;simp[Region.binds] at f;have c38:a.tmps[38]?.getD undef= .pointer (some ⟨P,0,none⟩):=by rw[<-aN];exact C.cl 0 b_ b_ l_|have x1:=(jQ C.st.1.1 0).trans cB;have x2:=(jQ C.st.1.1 1).trans ck
   go_simp;exact hR _ _ (C.pure (i:=17) rfl rfl b_ b_ b_)
  .simp[Region.binds] at f
   first
   |have _:=RX;have jr:a.tmps[55]?.getD undef= .pointer (some ⟨P,0,none⟩):=by rw[<-aN];exact C.cl 17 b_ b_ l_
   |have jj:a.tmps[45]?.getD undef= .int .i64 (kd:Int):=by rw[<-aN];exact C.cl 5 b_ b_ l_
    have jx:a.tmps[56]?.getD undef= .agg #[.int .i64 (t.sf:Int), .int .i64 (t.st:Int)]:=by rw[<-aN];exact C.cl 16 b_ b_ l_
    have c57:a.tmps[57]?.getD undef= .agg #[key.1,key.2]:=by rw[<-aN];exact C.cl 17 b_ b_ l_
   go_simp;exact hR _ _ (C.pure (i:=18) rfl rfl b_ b_ b_)
  first
  |have _:=RY
   .simp[Region.binds] at f;have c58:a.tmps[58]?.getD undef= .agg #[kd, .int .i64 (t.sf:Int), .int .i64 (t.st:Int),key.1,key.2,(),()]:=by rw[<-aN];exact C.cl 18 b_ b_ l_
    obtain rfl:=C.w0 hi;go_simp;exact hR _ _ (C.mkA hi rfl cu.out)
   .simp[Region.binds] at f;have e4:d 4=true:=l_;have gg:d 19=true:=l_;have iv:a.tmps.getD 44 undef= .slice p3 nodes.length bq:=E_;have jn:a.tmps.getD 59 undef= .slice (some ⟨W0.heap.size,0,none⟩) 1 1:=(by exact C.cl 19 b_ b_ (gg));obtain rfl:=C.w1 gg hi;rw[<-gd];exact Kf rfl (.tmp 44) (.tmp 59) rfl w0.heap.size W0 (.slice p3 z.length bq) z ⟨kd,t.sf,t.st,key,[],[]⟩ _ rfl (by rw[cg];exact iv) cd.out.row jn a_ al (λnv w2 aw ay=>hR _ _ (C.app gg e4 hi (ca.out w2 ay).1 ⟨aw,ay⟩))
   .simp[Region.binds] at f;have i3:a.tmps[40]?.getD undef= .pointer (some ⟨P,0,none⟩):=by rw[<-aN];exact C.cl 0 b_ b_ l_
    go_simp;exact hR _ _ (C.pure (i:=21) rfl rfl b_ b_ b_)
   .simp[Region.binds] at f;have c61:a.tmps[61]?.getD undef= .pointer (some ⟨P,0,none⟩):=by rw[<-aN];exact C.cl 21 b_ b_ l_
    go_simp;exact hR _ _ (C.pure (i:=22) rfl rfl b_ b_ b_)
  |skip
  .simp[Region.binds] at f
   first
   |have _:=RX;have fe:d 16=true:=l_
    have ju:d 18=true:=l_;have jx:a.tmps[56]?.getD undef= .pointer (some ⟨P,4,none⟩):=by rw[<-aN];exact C.cl 18 b_ b_ (ju)
    obtain⟨_,x4,f4,fW⟩:=ca.out w' (C.w2 fe hi).2;obtain⟨gn,cn,hV⟩:=rN (C.w2 fe hi).1;have hV:a.tmps.getD 54 undef= .slice (some ⟨gn,0,none⟩) (z.length+1) cn:=hV;rw[hz] at hV;have jS:a.tmps[54]?.getD undef= .slice (some ⟨gn,0,none⟩) (nodes.length+1) cn:=by rw[<-aN];exact hV
    have bD:=λx=>C.sto fe hi (x:=x) (k:=none) rfl (fW _)
   |have gb:d 20=true:=l_
    have i6:d 22=true:=l_;have c62:a.tmps[62]?.getD undef= .pointer (some ⟨P,3,none⟩):=by rw[<-aN];exact C.cl 22 b_ b_ (i6)
    obtain⟨_,x4,f4,fW⟩:=ca.out w' (C.w2 gb hi).2;obtain⟨gn,cn,hV⟩:=rN (C.w2 gb hi).1;have hV:a.tmps.getD 60 undef= .slice (some ⟨gn,0,none⟩) (z.length+1) cn:=hV;rw[cg] at hV;have c60:a.tmps[60]?.getD undef= .slice (some ⟨gn,0,none⟩) (nodes.length+1) cn:=by rw[<-aN];exact hV
    have bD:=λx=>C.sto gb hi (x:=x) (k:=none) rfl (fW _)
   simp only[hV] at bD;go_simp;exact hR undef _ (bD undef)
 .intro v W9 C;first|have _:=RX;rw[aU] at C fC al|rw[aU] at C gi al
  obtain⟨nv2,w1,⟨aw,ay⟩,hW⟩:=C.w3 b_;first|have _:=RX;obtain⟨bm,dh⟩:=fC.out.node (x:=⟨q,t.sf,t.st,key,[],[]⟩) rfl rfl al aw ay|obtain⟨bm,dh⟩:=gi.out.node (x:=⟨kd,t.sf,t.st,key,[],[]⟩) rfl rfl al aw ay
  rw[<-hW] at bm dh
  first
  |have _:=RX;have bm:=bm.cast (congrArg (· ++ [(⟨q,t.sf,t.st,key,[],[]⟩:aM)]) b3);have fm:W9.heap[w.heap.size]?=some (.cells #[some P] 177):=C.st.1.1.trans (by rw[<-aU];exact W1.X w P key);have dc:=hid (HF.out.trans ((Fr.of_below (by rw[<-aU];exact(aD _ (W1 w P key)).drew) (bF bh HF.out.sz)).trans dh));have x9:=(mQ fm).1;have fn:=hid fm;have ii:=hid (Ea _ P txt t r l _ W9 bm a_)
  |have bm:=bm.cast (congrArg (· ++ [(⟨kd,t.sf,t.st,key,[],[]⟩:aM)]) HZ.out);have dc:=hid (dG.out.trans ((Fr.of_below (by rw[<-aU];exact(aD _ w5).drew) (bF bh dG.out.sz)).trans dh));obtain⟨c2,f2⟩:=bm.c2;obtain⟨bn,d8⟩:=bm.step jY.out;have ek:((k+1:Nat):Int)=(k:Int)+1:=a_;rw[ek] at bn d8;obtain⟨af,fx⟩:=exQ<|W9.setCell ⟨P,2,none⟩ (.int .i64 ((k:Int)+1));have ar:=hid bn;have ao:=hid (dc.out.trans d8);rw[fx] at ar ao
  simp only[cU,cY,cQ,cZ];first|have _:=RX;clear C aw ay hW bm dh fm fC cb cu ca cd dZ bt cB ck cr cx al q1 q4 f4 CK CO;go_wp2_with fail;refine ii.out.mono ?_;rintro e af ⟨rfl,bn,dQ⟩;have iZ:=bF bh dc.out.sz;have dU:af.heap[w.heap.size]?=some (.cells #[some P] 177):=(dQ.block _ (aG fn.out) (λe=>by have:=bA e;omega)).trans fn.out;have ao:=hid (dc.out.trans (Fr.ofP dQ ep iZ));have bp:=hid dU;have ar:=hid bn;have jk:=(mQ dU).1|clear C aw ay hW bm dh bn d8 ek cb cu ca cd dZ cB ck cr cx al q4 dc gi db
  have dR:w0.heap.size<=af.heap.size:=bF bh ao.out.sz;have cI:Hid (aA w0 af):=hid (HB.out.trans ao.out.bel);first|have _:=RX;have cV:nodesN P af=nodes.length+1:=by rw[bn.nodesN,aZ];rfl|have cV:qN P af=nodes.length+1:=by rw[ar.out.qN,aZ];rfl
  have eV:=hid cV
  first
  |have _:=RX;have e8:gK nodes (⟨q,t.sf,t.st,key,[],[]⟩:aM) [] (nodes++ [(⟨q,t.sf,t.st,key,[],[]⟩:aM)]):=⟨rfl,e_,e_,λy hy=>by cases hy⟩;have am:=hid e8;have cK:(nodes++ [(⟨q,t.sf,t.st,key,[],[]⟩:aM)]).length+r.length<=131074:=by rw[aZ,dF];omega
   have e9:Hid (TB txt r):=hid (fd.out.drop 1);clear bn dQ dU fn x9 ii cV e8 dc;go_upto_block 1 with fail;go_cut [9] (λs9 wx=> ∃b,s9= .bool b/\Hid (KO w0.heap.size P txt nodes.length R1 b wx)/\Hid (Fr w0.heap.size P w wx)/\Hid (wx.heap[w.heap.size]?=some (.cells #[some P] 177)))
  |have am:Hid (gK nodes (⟨kd,t.sf,t.st,key,[],[]⟩:aM) [] (nodes++ [(⟨kd,t.sf,t.st,key,[],[]⟩:aM)])):=hid ⟨rfl,e_,e_,λy hy=>by cases hy⟩;have gl:Hid ((nodes++ [(⟨kd,t.sf,t.st,key,[],[]⟩:aM)]).length<=4096):=hid (by rw[aZ,dF];have:=jd.out;omega);have e6:Hid (lev+1=33-(m:Int)):=hid GS;have eX:Hid (0<=lev/\lev<=32):=hid GS;clear cV;have ct:Hid (∀aj dV,((aj=5/\dV=false)\/(aj=3/\dV=true))->gV txt (bS txt m) aj dV nodes.length (L.drop (k+1)) (t.sf,t.st) (nodes++ [⟨kd,t.sf,t.st,key,[],[]⟩])=R1->
     Calls prog 169 #[some P,nodes.length,lev, .int .i64 (aj:Int)] af (λe w'=> ∃b,e= .returned (.bool b)/\tZ w0.heap.size P txt L nodes.length R1 b w'/\Fr w0.heap.size P af w')):=hid (λaj dV hc hR=>by
    refine(aDo w0 P txt L m (gm.out m rfl) af k t nodes _ [] _ lev aj dV ar.out gz.out am.out cI.out gy.out gl.out e6.out eX.out hL hs fd.out jB.out hc).mono ?_;intro e w' hE;rw[hR] at hE;exact tZ.of hE eV.out (λrr ll ns he=>by
     obtain⟨x',em,hm,_⟩:=xP (nY txt m) am.out (hR.trans he);exact hm.lt))
   have iK:Hid (t.kind≠4->t.kind≠2->tZ w0.heap.size P txt L nodes.length R1 true af):=hid (λQ G=>by have hR:=I.out;rw[if_neg Q,if_neg G] at hR;rw[<-hR];exact⟨rfl,⟨k,t,rfl,gz.out,rfl,ar.out⟩,am.out.lt⟩);clear am gl e6 eX gy cI gm;go_upto_if 71 with fail;go_cut [9] (λs9 wx=> ∃b,s9= .bool b/\Hid (if t.kind=4 then tZ w0.heap.size P txt L nodes.length R1 b wx/\Fr w0.heap.size P w wx else b=true/\wx=af))
  case first=>
   by_cases Q:t.kind=4
   .first
    |have _:=RX;have iQ:q=5:=by rw[<-HQ.out,Q];rfl
     subst iQ
    |have bT:kd=5:=by rw[<-eS.out,Q];rfl
    have hR:=I.out;rw[if_pos Q] at hR
    first
    |have _:=RX;have CA:=Up w0 P txt lv IH af r (t.sf,t.st) nodes _ [] _ lev ar.out am.out cI.out e9.out cK hlev hlev0 hs;rw[hR] at CA;have de:=hid CA;have fj:Hid (∀e w',VE w0.heap.size P txt R1 af e w'-> ∃b,e= .returned (.bool b)/\KO w0.heap.size P txt nodes.length R1 b w'/\Fr w0.heap.size P af w'):=hid (λe w' hE=>KO.of hE eV.out (λrr ll ns he=>by obtain⟨x',em,hm,_⟩:=xP (nY txt lv) am.out (hR.trans he);exact hm.lt));clear CA hR Q I
    |have de:=hid (ct.out 5 false (.inl ⟨rfl,rfl⟩) hR);have d5:((kd:Int)==5)=true:=by rw[bT];rfl
     have H4:=hid Q;clear hR Q I bT
    go_wp2_with fail;refine de.out.mono ?_;first|have _:=RX;rintro e fS hE;obtain⟨b,rfl,bx,ad⟩:=fj.out _ _ hE|rintro e fS ⟨b,rfl,bx,ad⟩
    have bK:=hid bx;first|have _:=RX;have dX:=hid (ad.blk _ _ bp.out a_ DS)|skip
    have bE:=hid (ao.out.trans ad);first|have _:=RX;clear bx ad hE;go_wp2;go_meet;exact⟨b,rfl,bK,bE,dX⟩|clear bx ad;go_wp2;go_meet;exact⟨b,rfl,hid (by rw[if_pos H4.out];exact⟨bK.out,bE.out⟩)⟩
   first
   |have _:=RX
    .by_cases G:t.kind=2
     .have ir:q=6:=by rw[<-HQ.out,G];rfl
      subst ir;have hR:=I.out;rw[if_neg Q,if_pos G] at hR;obtain⟨m1,m2,m3⟩:=WM.facts af;have fv:=ar.out.keep m1;have ik:=(m1.block _ (aG bp.out)).trans bp.out;have jq:=aG bp.out;have CA:=Ur w0 P txt lv IH af.heap.size w.heap.size (af.heap.size+1) (WM af) r (t.sf,t.st) nodes _ [] _ lev fv am.out (cI.out.trans (m1.mono dR)) e9.out cK hlev hlev0 hs ik m3 m2 dR HS.out.1 HS.out.2;rw[hR] at CA;have de:=hid CA;have fj:Hid (∀e w',KE w0.heap.size P af.heap.size txt R1 (WM af) e w'-> ∃b,e= .returned (.bool b)/\KO w0.heap.size P txt nodes.length R1 b w'/\kL w0.heap.size P af.heap.size (WM af) w'):=hid (λe w' hE=>KO.ofX hE (by rw[fv.nodesN,aZ];rfl) (λrr ll ns he=>by obtain⟨x',em,hm,_⟩:=xP (nY txt lv) am.out (hR.trans he);exact hm.lt));have iR:=hid m1;clear CA hR Q G I m1 m2 m3 fv ik;have hmm:= @run_makeMap prog;go_wp2_with fail;refine de.out.mono ?_;rintro e fS hE;obtain⟨b,rfl,bx,ad⟩:=fj.out _ _ hE;have bK:=hid bx;have dX:=hid (ad.blk _ _ ((iR.out.block _ jq).trans bp.out) a_ a_ DS);have bE:=hid (ao.out.trans (kL.out (Fr.of_below iR.out dR) ad (aF _)));clear bx ad hE;go_wp2;go_meet;exact⟨b,rfl,bK,bE,dX⟩
     .have hR:=I.out;rw[if_neg Q,if_neg G] at hR;have iQ:((q:Int)==5)=false:=aI.2 H8;have ir:((q:Int)==6)=false:=aI.2 H8;have HK:Hid (KO w0.heap.size P txt nodes.length R1 true af):=hid (by rw[<-hR];exact⟨rfl,ar.out,am.out.lt⟩);clear hR Q G I;go_wp2;go_meet;exact⟨true,rfl,HK,ao,bp⟩
   |.have d5:((kd:Int)==5)=false:=aI.2 (by have:=aDq Q;rw[eS.out] at this;omega)
     have H4:=hid Q;clear Q;go_wp2;go_meet;exact⟨true,rfl,hid (by rw[if_neg H4.out];exact⟨rfl,rfl⟩)⟩
  first
  |have _:=RX;case rest=>
    obtain⟨b,rfl,HK,je,HX⟩:=hcut;obtain⟨lt,g',cap',jy,st,c3,c4,ec,cst,cfz,e7,hPg,bD⟩:=HK.out.fin;have xX:=(mQ HX.out).1;have hXg:=e7 _ _ _ HX.out b_;have jK:(0:Int)<=(nodes.length:Int):=a_;have hv:(nodes.length:Int)<(jy:Int):=a_;have hG:=hid (bD w (by rw[jT.out];omega) je.out);clear e7 bD am bp ar ao HX HK jk;go_upto_region 18 with fail;go_region
    all_goals
     go_wp2;go_ret;exact hG.out.drew
  |case rest=>
    obtain⟨b,rfl,HA⟩:=hcut;go_upto_if 77 with fail;go_cut [9] (λs9 wx=> ∃b,s9= .bool b/\Hid (tZ w0.heap.size P txt L nodes.length R1 b wx/\Fr w0.heap.size P w wx))
    case first=>
     by_cases G:t.kind=2
     .have bT:kd=6:=by rw[<-eS.out,G];rfl
      have Q:t.kind≠4:=a_;have hR:=I.out;rw[if_neg Q,if_pos G] at hR;have de:=hid (ct.out 3 true (.inr ⟨rfl,rfl⟩) hR);have d6:((kd:Int)==6)=true:=by rw[bT];rfl
      have hA:=HA.out;rw[if_neg Q] at hA;obtain⟨rfl,rfl⟩:=hA;clear hR Q G I bT;go_wp2_with fail;refine de.out.mono ?_;rintro e fS ⟨b,rfl,bx,ad⟩;have bK:=hid bx;have bE:=hid (ao.out.trans ad);clear bx ad;go_wp2;go_meet;exact⟨b,rfl,hid ⟨bK.out,bE.out⟩⟩
     .have d6:((kd:Int)==6)=false:=aI.2 (by have:=aDr G;rw[eS.out] at this;omega);have HG:Hid (tZ w0.heap.size P txt L nodes.length R1 b wc/\Fr w0.heap.size P w wc):=hid (by
       have hA:=HA.out;by_cases Q:t.kind=4
       .rw[if_pos Q] at hA;exact hA
       .rw[if_neg Q] at hA;obtain⟨rfl,rfl⟩:=hA;exact⟨iK.out Q G,ao.out⟩)
      clear G;go_wp2;go_meet;exact⟨b,rfl,HG⟩
    case rest=>
     clear HA;obtain⟨b,rfl,HG⟩:=hcut;obtain⟨ia,ay⟩:=HG.out;have eM:=hid ia;have ge:=hid ay;clear ia ay HG ar ao ct iK I;cases R1 with
     | bad a er=>
      have hb:=eM.out.1;subst hb;have HE:Hid (rE w0.heap.size P txt L R w (.returned (.bool false)) wc):=hid (by rw[<-f6.out];refine⟨rfl,eM.out.2.mono ?_,ge.out⟩;rw[iT.out];omega);exact cy
     | ok rr ll ns=>
      obtain⟨hb,⟨k5,t5,rfl,cE,rfl,iF⟩,ab⟩:=eM.out;subst hb;obtain⟨g5,cap5,iU,n1,n2,n3,n4,hO,gY⟩:=iF.to ab t5.st;have HE:Hid (rE w0.heap.size P txt L R w (.returned (.bool true)) (wc.setCell ⟨g5,nodes.length*7+2,none⟩ (.int .i64 (t5.st:Int)))):=hid (by rw[<-f6.out];exact⟨rfl,⟨k5,t5,rfl,cE,rfl,hO⟩,ge.out.trans gY⟩);obtain⟨z5,nv5,_,lv5,hC,gL,_⟩:=iF;obtain⟨g6,o6,c6,rfl,hc6,t60,t61,jX,_⟩:=gL.tok cE;obtain⟨_,e1,e2,_⟩:=hC.cells;have hk50:(0:Int)<=(k5:Int):=a_;have iA:=(aW.1 cE).1;have hk51:(k5:Int)<(L.length:Int):=a_;have jI:((k5+1:Nat):Int)-1=(k5:Int):=a_;obtain⟨kk5,gR⟩:=exQ<|k5+1;rw[gR] at jI e2;have jK:(0:Int)<=(nodes.length:Int):=a_;have hv:(nodes.length:Int)<(ns.length:Int):=a_;have t62':wc.cell? (g6,o6+k5*3+1+1)=some (.int .i64 (t5.st:Int)):=jX;have n3':wc.cell? (g5,nodes.length*7+1+1)=some (.int .i64 iU):=n3;clear hO gY cE hC gL eM ge f6 ab gR iA;go_upto_region 21 with fail;go_region
      all_goals
       go_wp2;go_ret;exact rE.drewn HE.out bh):P:=h
theorem PI(h:P:=by
 first
 |first|have _:=Q6|have _:=Q7
  have fl:=hx
 |skip
 first
 |first|have _:=Q6|have _:=Q8|have _:=Q7
  obtain⟨z,hz,bO,cS⟩:=id hD0
 |obtain⟨z,hz,bO,cS⟩:=hD
 first
 |first|have _:=Q9|have _:=Q6|have _:=Q7
  obtain⟨y,hy⟩: ∃y,z[k]?=some y:=EH;have fp:y.1=x:=by
   rw[<-hz,cF,hy] at hx;exact bA hx
  obtain⟨gn,cn,ec,rfl,eD,_,jk⟩:=cS.form (λe=>by rw[e] at hy;cases hy)
 |have hkl:k<d.nodes.length:=by obtain⟨x,hx,_⟩:=hT;exact(aW.1 hx).1
  have cA:z.length=d.nodes.length:=IP
  obtain⟨gn,cn,ec,rfl,eD,_,jk⟩:=cS.form (λe=>by rw[e] at cA;simp at cA;omega)
 first
 |first|have _:=Q6|have _:=Q8|have _:=Q7
  obtain⟨pl,nl,cl,rfl⟩: ∃p n c,lvv= .slice p n c:=fv
 |obtain⟨pl,nl,cl,rfl⟩: ∃p n c,lv= .slice p n c:=fv
 first
 |first|have _:=Q9|have _:=Q6|have _:=Q7
  have fh:=cS.kids y (bH hy);obtain⟨pk,ck,bu⟩: ∃p c,y.2= .slice p y.1.kids.length c:=ft
 |skip
 first
 |first|have _:=Q6|have _:=Q7
  have nE:Hid (∀w',aA w w'-> ∀(j q:Nat),x.kids[j]?=some q-> ∃gk,pk=some ⟨gk,0,none⟩/\w'.cell? ⟨gk,j,none⟩=some (.int .i64 (q:Int))):=hid (λw' bM j q hj=>by
   have fJ:=fh;rw[bu,fp] at fJ;have rF:=(aW.1 hj).1;rcases fJ.2 with⟨h0,h1⟩ | ⟨g,cap,ec,h1,_⟩
   .omega
   .injection h1 with e1;subst e1;refine⟨g,rfl,cB ?_ bM⟩;rw[World.ownsRow.cellAt fJ _ a_];unfold dH;rw[cF,hj];rfl)
 |skip
 first
 |first|have _:=Q9|have _:=Q6|have _:=Q7
  obtain⟨mk,dt⟩:=exQ<|y.1.kids.length
 |skip
 obtain⟨nz,fj⟩:=exQ<|z.length
 first
 |first|have _:=Q9|have _:=Q6|have _:=Q7
  have cA:z.length=d.nodes.length:=IP
  have kz:k<z.length:=(aW.1 hy).1
 |skip
 first
 |first|have _:=Q6|have _:=Q8|have _:=Q7
  rw[fj] at hD0 ⊢
 |rw[fj]
 first
 |first|have _:=Q9|have _:=Q6|have _:=Q7
  have gX:(0:Int)<=(k:Int):=a_
  have gm:(k:Int)<(nz:Int):=a_
 |skip
 first
 |first|have _:=Q6|have _:=Q7
  have kI:Hid (∀w',aA w w'-> ∀(q:Nat) (yq:aV),d.nodes[q]?=some yq->w'.cell? (gn,q*9+4)=some (.int .i64 yq.kf)/\w'.cell? (gn,q*9+5)=some (.int .i64 yq.kt)):=hid (λw' bM q yq Z=>by
   obtain⟨u,hu⟩: ∃u,z[q]?=some u:=by
    rw[<-hz,cF] at Z;cases hh:z[q]? with
    | none=>rw[hh] at Z;cases Z
    | some u=>exact⟨u,rfl⟩
   have o5:u.1=yq:=by
    rw[<-hz,cF,hu] at Z;exact bA Z
   have h4:=(cS.at_ hu 4 a_ rfl).1;have h5:=(cS.at_ hu 5 a_ rfl).1;rw[o5] at h4 h5;exact⟨cB h4 bM,cB h5 bM⟩)
 |have _:=Q9;have dk:decide ((k:Int)<0)=false:=aJ a_;have B8:decide ((nz:Int)<=(k:Int))=false:=aJ a_;have dk3:decide (nz<=k)=false:=aJ a_
 |skip
 first
 |first|have _:=Q9|have _:=Q6|have _:=Q7
  have HC:Hid (∀j u,j<9->(iK y)[j]?=some u->w.cell? ⟨gn,k*9+j,none⟩=some u):=hid (λj u hj hu=>(cS.at_ hy j hj hu).1);obtain⟨uJ,p8,hW⟩:=hb.nd x (bH hx);rw[fp] at dt bu
 |skip
 first
 |first|have _:=Q6|have _:=Q7
  rw[dt] at bu hW
 |have _:=Q9;rw[dt] at bu;obtain⟨Ca,tA,tz,pr,cr,bx,uM⟩:=aCw bO x
 |have rR:decide ((k:Int)<0)=false:=aJ a_;have rd:decide ((nz:Int)<=(k:Int))=false:=aJ a_;have v8:decide (nz<=k)=false:=aJ a_
 obtain⟨W1,bp⟩:=exQ<|w.alloc (.cells #[bs s, .slice pl nl cl,(gn,nz,cn)] 26);obtain⟨D,f9⟩:=exQ<|w.heap.size;have b1:aA w W1:=by rw[<-bp];exact aL _ _
 have h1:W1.heap[D]?=some (.cells #[bs s, .slice pl nl cl,(gn,nz,cn)] 26):=by rw[<-bp,<-f9];exact heap_alloc_new w _
 first
 |first|have _:=Q6|have _:=Q8|have _:=Q7
  obtain⟨W2,aw⟩:=exQ<|W1.alloc (.cells #[(0:Int), .string ⟨#[]⟩,(),()] 36);obtain⟨R,fP⟩:=exQ<|W1.heap.size
 |obtain⟨W2,aw⟩:=exQ<|W1.alloc (.cells #[(4:Int),x.ind,x.fr,x.til,x.kf,x.kt,x.rf,x.rt, .slice pk mk ck] 45)
  obtain⟨X,eo⟩:=exQ<|W1.heap.size
 have b2:aA W1 W2:=by rw[<-aw];exact aL _ _
 first
 |first|have _:=Q6|have _:=Q8|have _:=Q7
  have h2:W2.heap[R]?=some (.cells #[(0:Int),bs [],(),()] 36):=by rw[<-aw,<-fP];exact heap_alloc_new W1 _
 |skip
 first
 |first|have _:=Q6|have _:=Q7
  obtain⟨W3,a6⟩:=exQ<|W2.alloc (.cells #[(1:Int),x.ind,x.fr,x.til,x.kf,x.kt,x.rf,x.rt, .slice pk mk ck] 45);obtain⟨X,eo⟩:=exQ<|W2.heap.size;have b3:aA W2 W3:=by rw[<-a6];exact aL _ _
  have h3:W3.heap[X]?=some (.cells #[(1:Int),x.ind,x.fr,x.til,x.kf,x.kt,x.rf,x.rt, .slice pk mk ck] 45):=by rw[<-a6,<-eo];exact heap_alloc_new W2 _
 |skip
 first
 |have _:=Q6;obtain⟨W4,cH⟩:=exQ<|W3.alloc (.cells #[(5:Int), .string ⟨#[]⟩,(),()] 36)
  obtain⟨Y,fY⟩:=exQ<|W3.heap.size;have b4:aA W3 W4:=by rw[<-cH];exact aL _ _
  have h4:W4.heap[Y]?=some (.cells #[(5:Int),bs [],(),()] 36):=by rw[<-cH,<-fY];exact heap_alloc_new W3 _
 |have _:=Q9;have h2:W2.heap[X]?=some (.cells #[(4:Int),x.ind,x.fr,x.til,x.kf,x.kt,x.rf,x.rt, .slice pk mk ck] 45):=by rw[<-aw,<-eo];exact heap_alloc_new W1 _
  have bh:=hid (aE b1 b2)
 |skip
 have bo:=(b2.block D (aG h1)).trans h1
 first
 |first|have _:=Q6|have _:=Q7
  have d8:=(b3.block D (aG bo)).trans bo;have ey:=(b3.block R (aG h2)).trans h2
 |skip
 first
 |first|have _:=Q6|have _:=Q8|have _:=Q7
  have bh:=hid (aE b1 b2)
 |skip
 first
 |first|have _:=Q6|have _:=Q7
  have ax:=hid (aE bh.out b3)
 |skip
 first|have _:=Q6;have wV:=hid (aE ax.out b4);have ew:=hid b4|have _:=Q7;have jm:=hid (aD W3.heap.size W3)|skip
 first
 |first|have _:=Q6|have _:=Q7
  have H3:=hid (aK d8 (aK ey h3))
 |skip
 first|have _:=Q6;have H4:=hid h4|skip
 first
 |first|have _:=Q6|have _:=Q7
  have bN:Hid (∀w',aA W3 w'->(w'.cell? (D,0)=some (.string (bs s))/\w'.cell? (D,1)=some (.slice pl nl cl)/\w'.cell? (D,2)=some (.slice (some ⟨gn,0,none⟩) nz cn))/\(w'.cell? (X,0)=some (.int .i64 1)/\w'.cell? (X,6)=some (.int .i64 x.rf)/\w'.cell? (X,7)=some (.int .i64 x.rt)/\w'.cell? (X,8)=some (.slice pk mk ck))/\w'.heap[R]?=some (.cells #[(0:Int),bs [],(),()] 36)):=hid (λw' h=>by obtain⟨e0,e1,e2,_⟩:=eA ((h.block D (aG d8)).trans d8);obtain⟨f0,f1,f2,f3,f4,f5,f6,f7,f8⟩:=kD ((h.block X (aG h3)).trans h3);exact⟨⟨e0,e1,e2⟩,⟨f0,f6,f7,f8⟩,(h.block R (aG ey)).trans ey⟩);have j9:R<W3.heap.size:=aG ey
 |skip
 first|have _:=Q6;have cd:W3.heap.size<=Y:=by omega|have _:=Q8;have H2:=hid h2|skip
 first
 |first|have _:=Q6|have _:=Q8|have _:=Q7
  have np:w.heap.size<=R:=by rw[<-fP];exact b1.size
 |skip
 first
 |first|have _:=Q6|have _:=Q7
  have mJ:w.heap.size<=W3.heap.size:=ax.out.size;have jn:Hid (∀w',aA W3 w'->eP B d (.slice pl nl cl) (.slice (some ⟨gn,0,none⟩) nz cn) w'):=hid (λw' h=>(hD0.keep ax.out).keep h);have jg:Hid (∀w',aA W3 w'->bV w'):=hid (λw' h=>(hV.keep ax.out).keep h)
 |skip
 first|have _:=Q6;have iI:Hid (∀(a b:Int) w',Calls prog 28 #[.agg #[bs s, .slice pl nl cl,(gn,nz,cn)], .agg #[a,b]] w' (aT w' (.string (bs (iD s a b))))):=hid (λa b w'=>Cs s _ _ ⟨_,_,_,rfl⟩ ⟨_,_,_,rfl⟩ a b w' DO)|skip
 first
 |first|have _:=Q6|have _:=Q7
  have bU: ∀j u,j<9->(iK y)[j]?=some u->W2.cell? ⟨gn,k*9+j,none⟩=some u:=λj u hj hu=>by
   exact cB (HC.out j u hj hu) bh.out
 |have _:=Q9;have jR:Hid (∀w',aA W2 w'->w'.heap[D]?=some (.cells #[bs s, .slice pl nl cl,(gn,nz,cn)] 26)/\w'.heap[X]?=some (.cells #[(4:Int),x.ind,x.fr,x.til,x.kf,x.kt,x.rf,x.rt, .slice pk mk ck] 45)):=hid (λw' h=>⟨(h.block D (aG bo)).trans bo,(h.block X (aG h2)).trans h2⟩);have bU: ∀j u,j<9->(iK y)[j]?=some u->W1.cell? ⟨gn,k*9+j,none⟩=some u:=λj u hj hu=>by
   exact cB (HC.out j u hj hu) b1
 |skip
 first
 |first|have _:=Q9|have _:=Q6|have _:=Q7
  have y0:=bU 0 _ a_ rfl;have y1:=bU 1 _ a_ rfl;have y2:=bU 2 _ a_ rfl;have y3:=bU 3 _ a_ rfl;have y4:=bU 4 _ a_ rfl;have y5:=bU 5 _ a_ rfl;have y6:=bU 6 _ a_ rfl;have y7:=bU 7 _ a_ rfl;have y8:=bU 8 _ a_ rfl;rw[fp] at y0 y1 y2 y3 y4 y5 y6 y7;rw[bu] at y8
 |skip
 first
 |first|have _:=Q6|have _:=Q7
  rw[hkd] at y0
 |have _:=Q9;rw[hk4] at y0
 |skip
 first
 |first|have _:=Q9|have _:=Q6|have _:=Q7
  simp only[Nat.add_zero] at y0
 |skip
 first
 |first|have _:=Q6|have _:=Q7
  have d2:W2.cell? (D,2)=some (.slice (some ⟨gn,0,none⟩) nz cn):=(eA bo).2.2.1;have kK:=hid (aK dt hW);have gt:=hid (hT.kid fl);have fU:=hid (cA.symm.trans fj)
 |skip
 first|have _:=Q6;have uW:=hlev.out;clear b1 b2 b3 b4 h1 h2 h3 h4 bo d8 ey hz bO cS fh bu hx hy fp cA kz jk eD bU dt fj hT hD0 hV|have _:=Q7;have jV:=hid (hli x (bH fl));clear b1 b2 b3 h1 h2 h3 bo d8 ey hz bO cS fh bu hx hy fp cA kz jk eD bU dt fj hT hD0 hV;obtain⟨f,e,hf,he,pN,wW,i4⟩:=Qt jV.out.1.2|skip
 first
 |first|have _:=Q6|have _:=Q7
  obtain⟨t,ht⟩:=exQ<|iD s x.rf x.rt
 |skip
 first|have _:=Q6;have CB:=hid (λw'=>iI.out x.rf x.rt w');rw[ht] at CB|skip
 first
 |first|have _:=Q6|have _:=Q7
  have dK:=yZ s x.rf x.rt
 |skip
 first|have _:=Q6;rw[ht] at dK|have _:=Q7;rw[ht] at dK i4|skip
 first
 |first|have _:=Q6|have _:=Q7
  obtain⟨⟨T,er⟩,pZ⟩:=exQ<|gQ t
 |skip
 first|have _:=Q6;have CR:Hid (∀w',aA W3 w'->Calls prog 47 #[.string (bs t)] w' (pW T er w')):=hid (λw' bM=>by have:=Mk t w' DO (jg.out w' bM);rw[pZ] at this;exact this)|have _:=Q7;have CR:Hid (∀w',aA W3 w'->Calls prog 31 #[.string (bs t)] w' (pW T er w')):=hid (λw' bM=>by have:=HRd.out t w' DO (jg.out w' bM);rw[pZ] at this;exact this)|skip
 first
 |first|have _:=Q6|have _:=Q7
  have dT:aX s d (lv+1) k=T:=by
   unfold aX;rw[fl];simp only[];rw[if_pos hkd,ht,pZ]
  rw[dT]
 |skip
 first
 |have _:=Q6;clear dT pZ ht hkd fl
 |have _:=Q7;have Ac:(0:Int)<=(f:Int):=a_
  have xM:(f:Int)<=(e:Int):=a_
  have kA:=aP s;have yl:(e:Int)<=(s.length:Int):=a_
  have mc:=hb.txt;have pV:=hid (aK hf he);clear dT pZ ht hkd fl hf he
 |have _:=Q9;obtain⟨d0,d1,d2,_⟩:=eA h1;obtain⟨ts,jj⟩:=exQ<|nB s d.lines x;obtain⟨rs,nw⟩:=exQ<|qD d.lines x;obtain⟨m,hm⟩:=exQ<|rs.length;rw[nw] at bx uM;rw[hm] at bx;have se:m<=131072:=by rw[<-hm,<-nw,xB];have:=hb.lns;omega
  have ur:=hb.lns;have Aw:Hid (∀w',Calls prog 27 #[.agg #[bs s, .slice pl nl cl,(gn,nz,cn)], .agg #[(4:Int),x.ind,x.fr,x.til,x.kf,x.kt,x.rf,x.rt, .slice pk mk ck]] w' (aT w' (.slice pr m cr))):=hid (λw'=>by have:=aCv s pl nl cl (.slice (some ⟨gn,0,none⟩) nz cn) ⟨_,_,_,rfl⟩ x (.slice pk mk ck) ⟨_,_,_,rfl⟩ w' a_ tA tz uJ p8;rw[bx] at this;unfold Pm at this;rw[hk4] at this;exact this.mono (λe w2 h=>⟨h.2,h.1⟩));have iI:Hid (∀(a b:Int) w',Calls prog 28 #[.agg #[bs s, .slice pl nl cl,(gn,nz,cn)], .agg #[a,b]] w' (aT w' (.string (bs (iD s a b))))):=hid (λa b w'=>Cs s _ _ ⟨_,_,_,rfl⟩ ⟨_,_,_,rfl⟩ a b w' DO);have BU:Hid (∀w',aA W2 w'-> ∀(i:Nat) (r:aS),rs[i]?=some r-> ∃g o,pr=some ⟨g,o,none⟩/\ ∀j u,j<10->(rZ r)[j]?=some u->w'.cell? ⟨g,o+i*10+j,none⟩=some u):=hid (λw' h i r hi=>by obtain⟨g,o,e1,e2,e3⟩:=uM i r hi;exact⟨g,o,e1,λj u hj hu=>cB (cB (e3 j u hj hu) bh.out) h⟩);have dK:ts.length=m:=by rw[<-jj,Po,nw,hm]
  have jS: ∀(i:Nat) (r:aS),rs[i]?=some r->ts[i]?=some (iD s r.sf r.st,r.ind):=λi r hi=>by
   rw[<-jj];unfold nB;rw[cF,nw,hi];rfl
  have oc: ∀q∈ts,0<=q.2/\q.2<=1099511627776:=λq Z=>by
   rw[<-jj] at Z;unfold nB at Z;obtain⟨r,hr,rfl⟩:=qJ.1 Z;have ym:r∈d.lines:=by unfold qD at hr;exact List.mem_of_mem_take (List.mem_of_mem_drop hr)
   exact⟨hb.ind r ym,hi64 r ym⟩
  have uI: ∀q∈ts,q.1.length<=65536:=λq Z=>by
   rw[<-jj] at Z;unfold nB at Z;obtain⟨r,hr,rfl⟩:=qJ.1 Z;have:=yZ s r.sf r.st;have:=hb.txt;simp only[];omega
  obtain⟨Y,hY⟩:=exQ<|qE s d.lines x;have HY:=hid hY;rw[hY];unfold qE at hY;rw[jj] at hY;have HT:=hid (aK dK (aK jS (aK oc uI)));have wC:=hid hY;obtain⟨i0,du,ds,ee,ei⟩:=info_parts infoString;have HM:=hid (aK hm nw);have HKX:=hid hk4;have sI:=hid hb;clear Ca fj ur tA tz bx uM dK jS oc uI jj nw hm hY hz bO cS fh bu dt hx hy fp h1 h2 b1 b2 bo cA kz jk eD hi64 bU hk4 hb
 |have tH:R<W2.heap.size:=aG h2;obtain⟨T,up⟩:=exQ<|aX s d 32 k;have CN:Hid (∀w',aA W2 w'->Calls prog 26 #[.agg #[bs s, .slice pl nl cl,(gn,nz,cn)],k,(1:Int)] w' (jJ T w')):=hid (λw' h=>by have:=Pp s d hb hi64 32 B (.slice pl nl cl) (.slice (some ⟨gn,0,none⟩) nz cn) k m 1 w' hT (hid b_) (aF _) ((hD0.keep bh.out).keep h) ((hV.keep bh.out).keep h);rw[up] at this;exact this);rw[up];obtain⟨d0,d1,d2,_⟩:=eA bo;clear b1 b2 h1 h2 bo hz bO cS hkl cA jk eD fj up hT hD0 hV
 go_in;go_upto_region 1 with fail
 first
 |first|have _:=Q6|have _:=Q8|have _:=Q7
  clear bp aw f9 fP
 |skip
 first
 |first|have _:=Q6|have _:=Q7
  go_upto_region 2 with fail;clear a6 eo y0 y1 y2 y3 y4 y5 y6 y7 y8 d2
 |skip
 first|have _:=Q6;have nF:=hid cH;clear cH|have _:=Q9;clear bp|skip
 first
 |first|have _:=Q9|have _:=Q6
  go_upto_region 3 with fail
 |skip
 first
 |have _:=Q6;first | rw[nF.out] | skip
  clear fY;obtain⟨⟨e0,e1,e2⟩,⟨x0,x6,x7,x8⟩,hr⟩:=bN.out W4 ew.out;have mh:=aG H4.out;go_wp2_with fail;refine aH (CB.out _) λw5 ag=>?_;have dY:Hid (aA W4 w5):=hid p_;clear ag e0 e1 e2 x0 x6 x7 x8 hr;go_wp2_with fail;refine(CR.out _ (by first | exact ew.out.trans (dY.out.mono ew.out.size))).mono ?_
 |have _:=Q8;go_wp2_with fail;refine(CN.out _ f_).mono ?_
 |skip
 first
 |first|have _:=Q6|have _:=Q8
  rintro e w6 ⟨⟨kv,iv,rfl,iJ⟩,bj⟩
 |skip
 first|have _:=Q6;have dq:=hid (aE dY.out bj)|have _:=Q7;obtain⟨⟨e0,e1,e2⟩,⟨x0,x6,x7,x8⟩,hr⟩:=bN.out W3 jm.out;rw[pV.out.1] at x6;rw[pV.out.2] at x7;go_wp2_with fail;refine(CR.out _ GV).mono ?_;rintro e' w6 ⟨⟨kv,iv,rfl,iJ⟩,bj⟩;have dq:Hid (aA W3 w6):=hid E3|have _:=Q8;have dq:Hid (aA W2 w6):=hid E3|skip
 first
 |first|have _:=Q6|have _:=Q8|have _:=Q7
  obtain⟨eU,eT,eV,eR,rfl,rfl⟩:=iJ.toVD.form
 |skip
 first
 |have _:=Q6;have ut:Hid (gF W4.heap.size w6 T.depth T (.slice eU T.keys.length eT) (.slice eV T.items.length eR)):=hid (iJ.mono (λq Z _=>bF dY.out.size Z));have px:=hid (iA (t:=T) ew.out cd mh ut.out dq.out H4.out);obtain⟨c0,c1,c2,c3,f0,f1,f2,f3⟩:=bK ((dq.out.block Y mh).trans H4.out);unfold vv;clear iJ bj;go_upto_region 6 with fail;have iS:(((w6.setCell ⟨Y,0,none⟩ (.int .i64 T.kind)).setCell ⟨Y,1,none⟩ (.string (bs T.text))).setCell ⟨Y,2,none⟩ (.slice eU T.keys.length eT)).setCell ⟨Y,3,none⟩ (.slice eV T.items.length eR)=bD w6 Y T.kind T.text (.slice eU T.keys.length eT) (.slice eV T.items.length eR):=rfl;rw[iS];obtain⟨WF,ja⟩:=exQ<|bD w6 Y T.kind T.text (.slice eU T.keys.length eT) (.slice eV T.items.length eR);rw[ja] at px ⊢;clear iS ja c0 c1 c2 c3 f0 f1 f2 f3;obtain⟨c0,c1,c2,c3,_⟩:=bK px.out.2.2;obtain⟨_,_,hr⟩:=bN.out WF px.out.2.1
 |have _:=Q7;have ut:Hid (gF W3.heap.size w6 T.depth T (.slice eU T.keys.length eT) (.slice eV T.items.length eR)):=hid (by first | exact iJ | exact iJ.mono (λq Z _=>bF (aD _ _).drew.size Z));have b7:=aL w6 (.cells #[T.kind,bs T.text, .slice eU T.keys.length eT, .slice eV T.items.length eR] 36);have h7:=heap_alloc_new w6 (.cells #[T.kind,bs T.text, .slice eU T.keys.length eT, .slice eV T.items.length eR] 36);obtain⟨Y,fY⟩:=exQ<|w6.heap.size;obtain⟨W7,jH⟩:=exQ<|w6.alloc (.cells #[T.kind,bs T.text, .slice eU T.keys.length eT, .slice eV T.items.length eR] 36);rw[jH] at b7 h7;rw[fY] at h7;have qf:=hid (ut.out.keep b7);have rN:=hid (aE dq.out b7);obtain⟨c0,c1,c2,c3,_⟩:=bK h7;have ix:=hid (iA (t:=T) ax.out np j9 qf.out rN.out H3.out.2.1);clear hr;obtain⟨_,_,hr⟩:=bN.out W7 rN.out
 |skip
 first
 |first|have _:=Q6|have _:=Q7
  obtain⟨r0,r1,r2,r3,g0,g1,g2,g3⟩:=bK hr
 |skip
 first
 |have _:=Q6;have ix:=hid (iA (t:=T) ax.out np j9 px.out.1 px.out.2.1 H3.out.2.1);clear hr;go_wp2_with fail;have ib:(((WF.setCell ⟨R,0,none⟩ (.int .i64 T.kind)).setCell ⟨R,1,none⟩ (.string (bs T.text))).setCell ⟨R,2,none⟩ (.slice eU T.keys.length eT)).setCell ⟨R,3,none⟩ (.slice eV T.items.length eR)=bD WF R T.kind T.text (.slice eU T.keys.length eT) (.slice eV T.items.length eR):=rfl;rw[ib];obtain⟨WR,jp⟩:=exQ<|bD WF R T.kind T.text (.slice eU T.keys.length eT) (.slice eV T.items.length eR)
 |have _:=Q7;clear hr b7 h7 iJ bj;unfold vv;go_upto_region 5 with fail
  try rw[jH]
  try rw[fY]
  clear jH fY e0 e1 e2 x0 x6 x7 x8;go_wp2_with fail;have ib:(((W7.setCell ⟨R,0,none⟩ (.int .i64 T.kind)).setCell ⟨R,1,none⟩ (.string (bs T.text))).setCell ⟨R,2,none⟩ (.slice eU T.keys.length eT)).setCell ⟨R,3,none⟩ (.slice eV T.items.length eR)=bD W7 R T.kind T.text (.slice eU T.keys.length eT) (.slice eV T.items.length eR):=rfl;rw[ib];obtain⟨WR,jp⟩:=exQ<|bD W7 R T.kind T.text (.slice eU T.keys.length eT) (.slice eV T.items.length eR)
 |have _:=Q8;have ix:=hid (iA (t:=T) bh.out np tH iJ dq.out H2.out);obtain⟨r0,r1,r2,r3,g0,g1,g2,g3⟩:=bK ((dq.out.block R tH).trans H2.out);unfold vv;clear iJ bj d0 d1 d2;go_wp2_with fail;have ib:(((w6.setCell ⟨R,0,none⟩ (.int .i64 T.kind)).setCell ⟨R,1,none⟩ (.string (bs T.text))).setCell ⟨R,2,none⟩ (.slice eU T.keys.length eT)).setCell ⟨R,3,none⟩ (.slice eV T.items.length eR)=bD w6 R T.kind T.text (.slice eU T.keys.length eT) (.slice eV T.items.length eR):=rfl;rw[ib];obtain⟨WR,jp⟩:=exQ<|bD w6 R T.kind T.text (.slice eU T.keys.length eT) (.slice eV T.items.length eR)
 |skip
 first
 |first|have _:=Q6|have _:=Q8|have _:=Q7
  rw[jp] at ix ⊢;clear ib jp r0 r1 r2 r3 g0 g1 g2 g3;obtain⟨d0,d1,d2,d3,_⟩:=bK ix.out.2.2
 |skip
 first
 |first|have _:=Q6|have _:=Q7
  refine bodyPost_ret (v:= .agg #[T.kind,bs T.text, .slice eU T.keys.length eT, .slice eV T.items.length eR]) ?_ rfl ⟨⟨_,_,rfl,ix.out.1⟩,ix.out.2.1⟩
 |skip
 first
 |have _:=Q6;exact i8
 |have _:=Q7;exact i9
 |have _:=Q9;go_upto_region 4 with fail;clear aw;clear y0 y1 y2 y3 y4 y5 y6 y7 y8 d0 d1 d2;obtain⟨bo,cv⟩:=jR.out W2 (aD _ _);obtain⟨d0,d1,d2,_⟩:=eA bo;obtain⟨n0,n1,n2,n3,n4,n5,n6,n7,n8⟩:=kD cv;have hDl:D<W2.heap.size:=aG bo;have pm:X<W2.heap.size:=aG cv;clear bo cv;go_wp2_with fail;refine aH (Aw.out _) λw3 cj=>?_;have ax:Hid (aA W2 w3):=hid FI;clear cj n0 n1 n2 n3 n4 n5 n6 n7 n8 d0 d1 d2;go_wp2;go_loopw [42,7,8] (λnj s7 s8 wr=> ∃i:Nat,nj= .int .i64 (i:Int)/\i<=m/\s7= .int .i64 (jN (ts.take i))/\Hid (bZ W2.heap.size ((ts.take i).map (·.1)) s8 wr)/\Hid (aA W2 wr)) (λnj _ _ _=>m-(RowKit.intOf nj).toNat)
  case atStart=>exact⟨0,rfl,cI _,rfl,hid (bZ.nil _ _),ax⟩
  case round=>
   clear ax;obtain⟨i,rfl,hi,rfl,HO,cV⟩:=hrel;by_cases him:i<m
   .have dk:decide ((i:Int)<(m:Int))=true:=aQ a_;obtain⟨r,hr⟩: ∃r,rs[i]?=some r:=⟨_,bI (by have:=HM.out.1;omega)⟩;obtain⟨g,o,rfl,L⟩:=BU.out wr cV.out i r hr;have g0:=L 0 _ a_ rfl;have g1:=L 1 _ a_ rfl;have g2:=L 2 _ a_ rfl;have g3:=L 3 _ a_ rfl;have g4:=L 4 _ a_ rfl;have g5:=L 5 _ a_ rfl;have g6:=L 6 _ a_ rfl;have g7:=L 7 _ a_ rfl;have g8:=L 8 _ a_ rfl;have g9:=L 9 _ a_ rfl;simp only[Nat.add_zero] at g0;have yA:(0:Int)<=(i:Int):=a_;have yG:(i:Int)<(m:Int):=a_;obtain⟨i1,jc⟩:=exQ<|i+1;have bt:(i:Int)+1=(i1:Int):=a_;have yw:i1<=m:=a_;have jS:=HT.out.2.1 i r hr;obtain⟨t,ht⟩:=exQ<|iD s r.sf r.st;have CB:=hid (λw'=>iI.out r.sf r.st w');rw[ht] at CB jS;have lp:ts.take i1=ts.take i++ [(t,r.ind)]:=by rw[<-jc,List.take_add_one,jS];rfl
    have ct:=Hd t r.ind (ts.take i) (λq Z=>(HT.out.2.2.1 q (List.mem_of_mem_take Z)).1);rw[<-lp] at ct;have pJ:Hid (((ts.take i).map (·.1)).length=i):=hid (by rw[bP,bR,HT.out.1];omega);have kJ:Hid ((ts.take i1).map (·.1)=(ts.take i).map (·.1)++ [t]):=hid (by rw[lp,lJ];rfl);obtain⟨c,hc⟩:=exQ<|jN (ts.take i);have wH:=hid (yY (ts.take i) (λq Z=>HT.out.2.2.1 q (List.mem_of_mem_take Z)));rw[hc] at ct wH;have x4:=hid ct;have kF:=aL wr (.cells (lineA r) 68);have jo:=heap_alloc_new wr (.cells (lineA r) 68);obtain⟨ox,kg⟩:=exQ<|wr.heap.size;obtain⟨W3,a6⟩:=exQ<|wr.alloc (.cells (lineA r) 68);rw[a6] at kF jo;rw[kg] at jo;have k7:=hid kF;have yt:=hid jo;unfold lineA at a6;obtain⟨d8,sD⟩:=jR.out W3 (cV.out.trans (kF.mono cV.out.size));obtain⟨d0,d1,d2,_⟩:=eA d8;have cb:bL W3 ox r:=jo;obtain⟨l0,l1,l2,l3,l4,l5,l6,l7,l8,l9,_⟩:=cb.cells;rw[hc];have CT:=hid (λw'=>aCy t w');obtain⟨q,Z⟩:=exQ<|Lib.trimLeftB t 32;have vS:=aCx t;rw[Z] at CT vS;have sU:=hid vS;clear L hr jS lp ct hc kF jo d8 sD cb Z vS ht jc;go_upto_region 9 with fail;clear a6 kg g0 g1 g2 g3 g4 g5 g6 g7 g8 g9;go_wp2_with fail;refine aH (CB.out _) λw5 ag=>?_;have dY:Hid (aA W3 w5):=hid p_;clear ag l0 l1 l2 l3 l4 l5 l6 l7 l8 l9 d0 d1 d2;have tg:bL w5 ox r:=(dY.out.block ox (aG yt.out)).trans yt.out;obtain⟨_,_,_,l3,_⟩:=tg.cells;have sO:Hid (w5.ownsRow W2.heap.size 9 1 u8 i (jG ((ts.take i).map (·.1)))):=hid (by have:=(HO.out.keep k7.out).keep dY.out;unfold bZ at this;rw[pJ.out] at this;exact this);clear tg;by_cases ev:c<0
    .have dc:decide (c<0)=true:=aQ ev;have ct:=x4.out;rw[if_pos ev] at ct;by_cases io:q= []
     .have e0:((bs q).toList== [])=true:=by rw[io];exact qQ []
      have B0:(bs q).toList.isEmpty=true:=by rw[io];exact pC []
      rw[if_neg (λh=>h (sU.out.1 io))] at ct;have xX:c= -1:=by have:=wH.out;omega
      exact EX
     .have e0:((bs q).toList== [])=false:=by rw[qQ];cases q<;>simp at io ⊢
      have B0:(bs q).toList.isEmpty=false:=by rw[pC];cases q<;>simp at io ⊢
      rw[if_pos (λh=>io (sU.out.2 h))] at ct;exact EX
    .have dc:decide (c<0)=false:=aJ ev;have ct:=x4.out;rw[if_neg ev] at ct;clear ev;have rc:W2.heap.size<=w5.heap.size:=bF cV.out.size (bF k7.out.size dY.out.size);go_wp2_with (first | (fail) | (at_builtin;go_must (refine sN rfl _ _ 33 rfl W2.heap.size 9 i0 _ 1 16 underlying33 du ds ee ei rfl b_ w5 u8 i (jG ((ts.take i).map (·.1))) rfl sO.out #[.string (bs t)] rfl rfl B_ a_ b_ rc ?_);intro v1 w7 qk zh pL rn wI));exact GA
   .obtain rfl:i=m:=a_;have dk:decide ((i:Int)<(i:Int))=false:=aJ a_;have jl:ts.take i=ts:=GR;obtain⟨tl,dK⟩:=exQ<|ts.map (·.1);obtain⟨c,hc⟩:=exQ<|jN ts;have hO:=HO.out;rw[jl,dK] at hO;rw[jl,hc];have pP:tl.length=i:=by rw[<-dK,bP];exact HT.out.1
    have oN:=yY ts HT.out.2.2.1;rw[hc] at oN;have tP: ∀t∈tl,t.length<=65536:=λt ht=>by
     rw[<-dK] at ht;obtain⟨q,Z,rfl⟩:=qJ.1 ht;exact HT.out.2.2.2 q Z
    obtain⟨C,hC⟩:=exQ<|c.toNat;have hmx:max c 0=(C:Int):=a_;obtain⟨pu,cu,yr⟩:=hO.slice;rw[pP] at yr;subst yr;have kp:=hid (aK pP (aK tP dK));have wt:=hid (aK hc hC);have Am:Hid (bZ W2.heap.size (lC C 0 tl) (.slice pu i cu) wr):=hid (by rw[aCC];exact hO);clear hO HO jl hc dK pP tP hC;go_wp2;go_loopw [66,12,13] (λlW jT gp wx=> ∃j:Nat,lW= .int .i64 (j:Int)/\j<=i/\Hid (bZ W2.heap.size (lC C j tl) (.slice pu i cu) wx)/\Hid (aA W2 wx)) (λlW _ _ _=>i-(RowKit.intOf lW).toNat)
    case atStart=>exact⟨0,rfl,cI _,Am,cV⟩
    case round=>
     clear Am cV;obtain⟨j,rfl,hj,HO,cV⟩:=hrel;by_cases hji:j<i
     .have dj:decide ((j:Int)<(i:Int))=true:=aQ a_;have cg:(0:Int)<=(j:Int):=a_;have uv:(j:Int)<(i:Int):=a_;obtain⟨t,ht⟩: ∃t,tl[j]?=some t:=⟨_,bI (by rw[kp.out.1];exact hji)⟩;have mI:=aCz (c:=C) ht;have hO:=HO.out;obtain⟨g,rfl,Db⟩: ∃g,pu=some ⟨g,0,none⟩/\W2.heap.size<=g:=by
       rcases hO.2 with⟨h0,h1⟩ | ⟨g,cap,ec,h1,h2,_⟩
       .rw[Hf,kp.out.1] at h1;omega
       .injection h1 with e1;exact⟨g,e1,h2⟩
      have cO:(lC C j tl).length=i:=by rw[Hf];exact kp.out.1
      have r9:bZ W2.heap.size (lC C j tl) (.slice (some ⟨g,0,none⟩) (lC C j tl).length cu) wr:=by rw[cO];exact hO
      have L:wr.cell? ⟨g,j,none⟩=some (.string (bs t)):=by
       rw[World.ownsRow.cellAt r9 _ (by rw[cO];omega)];unfold jG;rw[cF,mI];rfl
      have hfz:wr.frozen? ⟨g,j,none⟩=false:=World.ownsRow.frozenAt r9 _;have mc:=r9.stored j (t.drop C);rw[<-aCA ht] at mc;have cy:(lC C (j+1) tl).length=i:=by rw[Hf];exact kp.out.1
      rw[cy] at mc;have uI:=kp.out.2.1 t (bH ht);obtain⟨e,he⟩:=exQ<|min C t.length;have hmn:min (C:Int) (t.length:Int)=(e:Int):=a_;have hel:e<=t.length:=a_;have i4:(bs t).extract e t.length=bs (t.drop C):=by
       rw[gO,aY];congr 1;rw[<-he];by_cases lV:C<=t.length
       .rw[Nat.min_eq_left lV,uV (by rw[bC];exact aF _)]
       .rw[Nat.min_eq_right a_,List.drop_length,List.drop_eq_nil_of_le a_];simp
      have kA:=aP t;have he1:(e:Int)<=(t.length:Int):=a_;have he0:(0:Int)<=(e:Int):=a_;obtain⟨j1,tp⟩:=exQ<|j+1;have hj1z:(j:Int)+1=(j1:Int):=a_;rw[tp] at mc;have A4:=hid mc;have sI:=hid (cV.out.setCell (p:=⟨g,j,none⟩) Db (.string (bs (t.drop C))));clear ht mI hO cO r9 mc cy he tp;go_wp2;go_roundw
      .exact⟨j1,rfl,a_,A4,sI⟩
      .exact aq
     .obtain rfl:j=i:=a_;have dj:decide ((j:Int)<(j:Int))=false:=aJ a_;have hO:bZ W2.heap.size (tl.map (·.drop C)) (.slice pu j cu) wr:=by
       have:=HO.out;rw[show lC C j tl=tl.map (·.drop C) by rw[<-kp.out.1,aCB]] at this;exact this
      obtain⟨J,hJ⟩:=exQ<|lB (tl.map (·.drop C));have bS: ∀t∈tl.map (·.drop C),t.length<=65536:=λt ht=>by
       obtain⟨q,Z,rfl⟩:=qJ.1 ht;have:=kp.out.2.1 q Z;simp only[bC];omega
      have uL:(tl.map (·.drop C)).length=j:=by rw[bP];exact kp.out.1
      have zl:=Ct 65536 _ bS;rw[hJ,uL] at zl;have xZ:j*(65536+1)<=131072*65537:=Nat.mul_le_mul_right _ se;have hJsz:=aP J;have CJ:Hid (∀w',aA wr w'->Calls prog 30 #[.slice pu j cu, .string ⟨#[10]⟩] w' (aT w' (.string (bs J)))):=hid (λw' hb=>by have:=aCD (hO.keep hb) (by rw[uL];exact se) bS;rw[hJ] at this;exact this);have ic:=wC.out;rw[show (ts.map λt=>t.1.drop (jN ts).toNat)=tl.map (·.drop C) by rw[<-kp.out.2.2,List.map_map,wt.out.1,wt.out.2];rfl,hJ] at ic;have tR:=hid ic;obtain⟨bo,cv⟩:=jR.out wr cV.out;have zI:Hid (aA w wr):=hid (bh.out.trans (cV.out.mono bh.out.size));clear hO hJ bS uL xZ ic wC HO bo cv;have hJl2:J.length<=8590065664:=a_;go_wp2_with fail;refine aH (CJ.out _ f_) λw6 bj=>?_;have dq:Hid (aA wr w6):=hid E3;obtain⟨bo,cv⟩:=jR.out w6 (cV.out.trans (dq.out.mono cV.out.size));obtain⟨d0,d1,d2,_⟩:=eA bo;obtain⟨n0,n1,n2,n3,n4,n5,n6,n7,n8⟩:=kD cv;have wl:Hid (aA w w6):=hid (zI.out.trans (dq.out.mono zI.out.size));clear bj bo cv;by_cases cg:j=0
      .subst cg;have ic:=tR.out;rw[if_neg (λe=>e.1 (List.length_eq_zero_iff.1 HT.out.1)),List.append_nil] at ic;have HF:=hid ic;clear ic;go_wp2;go_ret2;rw[<-HF.out];exact⟨rfl,by first | exact wl.out | exact wl.out.drew⟩
      .have dj2:decide ((0:Int)<(j:Int))=true:=aQ a_;have dj3:decide (0<j)=true:=aQ a_;have gj:ts≠ []:=λe=>cg (by rw[<-HT.out.1,e];rfl);obtain⟨rb,xc⟩:=exQ<|iD s x.rf x.rt;have CR:=hid (λw'=>iI.out x.rf x.rt w');have ic:=tR.out;rw[xc] at CR ic;by_cases hrb2:rb= [124]
       .rw[if_pos ⟨gj,hrb2⟩] at ic;have e1:=tY hrb2;have HF:=hid ic;have hcat:bs J++⟨#[10]⟩=bs (J++ [10]):=(jP J [10]).symm;exact O7
       .rw[if_neg (λe=>hrb2 e.2),List.append_nil] at ic;have e1:=sK hrb2;have HF:=hid ic;exact O7
 |refine bodyPost_ret (v:= .tuple #[.agg #[T.kind,bs T.text, .slice eU T.keys.length eT, .slice eV T.items.length eR],true]) ?_ rfl ⟨⟨_,_,rfl,ix.out.1⟩,ix.out.2.1⟩;simp[results,results10,go_sem,d0,d1,d2,d3]):P:=h
theorem PO(h:P:=by
 first
 |have _:=RJ;obtain⟨⟨r,at_,er⟩,I⟩:=exQ<|fN txt x.1 x.2
  rw[I];obtain⟨i0,du,ds,ee,ei⟩:=info_parts infoLine;have gm:=(aW.1 hx).1;obtain⟨k,hk⟩:=exQ<|st.lines.length;rw[hk] at gm hx;obtain⟨W0,al⟩:=exQ<|w.drew;have zj:aA w W0:=by rw[<-al];exact(aD _ _).drew
  have h0:=h.keep zj;have HJ:=hid (h0.toJ hz)
 |have _:=RK;have mR:k=n:=by have:=of_decide_eq_true sy.out;have:=HL.out.1;have:=HN.out;omega
  have eY:Hid (ls.length=k):=hid (by rw[mR];exact HN.out);subst mR;have hr:=eG.out;rw[List.getElem?_eq_none (by have:=eY.out;omega)] at hr;simp only[] at hr;obtain⟨⟨r,at_,er⟩,nG⟩:=exQ<|fN txt x.1 x.2;rw[nG] at hr;simp only[] at hr;obtain⟨W0,al⟩:=exQ<|wr.drew;have h0:iL YQ Pr w0 P txt sp ls z nv st.total 0 0 W0:=by rw[<-al];exact HJ.out.keep (aD _ _).drew
  have bT:=hid (h0.toJ (ns:=z.map (·.1)) rfl)
 |skip
 first
 |first|have _:=RJ|have _:=RK
  obtain⟨sv,lv,hK⟩:=h0
 |skip
 first|have _:=RJ;obtain⟨gs,cs,rfl,ct,_,_⟩:=hK.spanAt hx|have _:=RK;obtain⟨gs,cs,rfl,ct,_,_⟩:=hK.spanAt HX.out|skip
 first
 |first|have _:=RJ|have _:=RK
  obtain⟨pl,cl,rfl⟩:=hK.lnSlice
 |skip
 first
 |have _:=RJ;rw[hk] at hK;have HK:=hid hK;have xa:bV W0:=hV.keep hK.bel;have CL:Hid (∀w',aA W0 w'->Calls prog 105 #[bs txt, .agg #[x.1,x.2]] w' λe w2=>e=kM (r,at_,er)/\aA w' w2):=hid (λw' hb=>by have hv:=xa.keep hb;have:=Ze txt x.1 x.2 w' a_ hv.2 hv.tabs hv.mvar;rw[I] at this;exact this)
 |have _:=RK;rw[eY.out] at hK;have HK:=hid hK;have CL:Hid (∀w',aA W0 w'->Calls prog 36 #[bs txt, .agg #[x.1,x.2]] w' λe w2=>e=kM (r,at_,er)/\aA w' w2):=hid (λw' hb=>by have:=aAr txt x.1 x.2 w' a_;rw[nG] at this;exact this)
 |skip
 first
 |first|have _:=RJ|have _:=RK
  unfold kM eL at CL;obtain⟨SA,ak⟩: ∃S:World->Prop,(λw'=>(w'.cell? (P,0)=some (.string (bs txt))/\w'.cell? (P,1)=some (.slice (some ⟨gs,0,none⟩) sp.length cs)/\w'.cell? (P,2)=some (.slice pl k cl))/\w'.cell? (gs,k*2)=some (.int .i64 (x.1:Int))/\w'.cell? (gs,k*2+1)=some (.int .i64 (x.2:Int)))=S:=⟨_,rfl⟩
 |skip
 first
 |have _:=RJ;have am:Hid (∀w',aA W0 w'->SA w'):=hid (λw' hb=>by rw[<-ak];have bd:=HK.out.keep hb;obtain⟨⟨c0,c1,c2,_⟩,_⟩:=bd.cells;obtain⟨g2,mj,e2,_,s0,s1⟩:=bd.spanAt hx;injection e2 with e2;injection e2 with e2;injection e2 with e2;subst e2;exact⟨⟨c0,c1,c2⟩,s0,s1⟩);have gX:(0:Int)<=(k:Int):=a_
  have vi:(k:Int)<(sp.length:Int):=a_
  have HX:=hid hx;have eY:=hid hk;have HZ:=hid hz;clear hK h zj xa hz I hx hk;go_in;go_upto_region 1 with fail;refine iV [7,8,9,10,11,12,13,14,15,16,17,18,19,20,21,22,6,23,24,25,3,4,5] [21] [21] 20 (oJ W0 68 (lineA bG)) 42 [some P,some P,some P,bs txt,some P,some P,(P,1),(gs,sp.length,cs),some P,some P,(P,2), .slice pl k cl,k,(gs,k*2), .agg #[x.1,x.2], .tuple #[.agg #[r.kind,r.sf,r.st,r.ind,r.kf,r.kt,r.rf,r.rt,r.nf,r.nt],at_,er], .tuple #[.agg #[r.kind,r.sf,r.st,r.ind,r.kf,r.kt,r.rf,r.rt,r.nf,r.nt],at_,er], .agg #[r.kind,r.sf,r.st,r.ind,r.kf,r.kt,r.rf,r.rt,r.nf,r.nt],at_,er,undef,undef,at_,er] SA (vG W0 68 (lineA r)) [15,20,21,0,1,2,4,5,6,8,9,10,12,16,17,18,19,22,23,3,7,11,13,14] j_ i_ ?_ ?_
 |have _:=RK;have am:Hid (∀w',aA W0 w'->SA w'):=hid (λw' hb=>by rw[<-ak];have bd:=HK.out.keep hb;obtain⟨⟨c0,c1,c2,_⟩,_⟩:=bd.cells;obtain⟨g2,mj,e2,_,s0,s1⟩:=bd.spanAt HX.out;injection e2 with e2;injection e2 with e2;injection e2 with e2;subst e2;exact⟨⟨c0,c1,c2⟩,s0,s1⟩);have bw:=hid hr;clear hK hr nG sy;go_upto_region 5 with fail;refine iV [28,29,30,31,32,33,34,35,36,37,38,39,27,40,41,42,7,8,9] [17] [17] 16 (oJ W0 68 (lineA bG)) 85 [some P,some P,some P,bs txt,some P,some P,(P,1),(gs,sp.length,cs),k,(gs,k*2), .agg #[x.1,x.2], .tuple #[.agg #[r.kind,r.sf,r.st,r.ind,r.kf,r.kt,r.rf,r.rt,r.nf,r.nt],at_,er], .tuple #[.agg #[r.kind,r.sf,r.st,r.ind,r.kf,r.kt,r.rf,r.rt,r.nf,r.nt],at_,er], .agg #[r.kind,r.sf,r.st,r.ind,r.kf,r.kt,r.rf,r.rt,r.nf,r.nt],at_,er,undef,undef,at_,er] SA (vG W0 68 (lineA r)) [11,16,17,0,1,2,4,5,6,8,12,13,14,15,18,19,3,7,9,10] j_ i_ ?_ ?_
 |skip
 first
 |first|have _:=RJ|have _:=RK
  .intro d a w' iq o' hO ho hi F aa G R' I;first|have _:=RJ;have Z:=dW aa [(0,some P)] rfl rfl;have hc:=G.all [(16,6),(0,7),(1,8),(2,9),(3,10),(4,11),(5,12),(6,13),(7,14),(8,15),(9,16),(10,17),(11,18),(12,19),(13,20),(14,21),(15,22),(17,23),(18,24),(19,25)] b_|have Z:=dW aa [(0,some P),(6,k)] rfl rfl;have hc:=G.all [(12,27),(0,28),(1,29),(2,30),(3,31),(4,32),(5,33),(6,34),(7,35),(8,36),(9,37),(10,38),(11,39),(13,40),(14,41),(15,42)] b_
   dsimp only[dS,dM,lk] at Z hc;clear aa;have ha:=F;have aj:=ho
   repeat' rcases hO with _ | ⟨_,hO⟩
   all_goals (simp only[cR,cP,bY,cC] at ho;subst ho;try simp[Region.binds] at F)
   .first|have _:=RJ;have c10:=G.gg 3 10 c_;have vI:=G.gg 14 21 c_;have hA:aA W0 w':=G.at2 (j:=0) rfl (G.lastNot (f:=24) (i:=15) d' hi) (.inl rfl);go_simp;go_at_call 105|have C3:=G.gg 3 31 c_;have B7:=G.gg 10 38 c_;have hA:aA W0 w':=G.at2 (j:=0) rfl (G.ln hi) (.inl rfl);go_simp;go_at_call 36
    refine aH (CL.out _ hA) λw5 ag=>?_;exact me
   .first|have _:=RJ;have hA:aA W0 w':=G.at2 (j:=0) rfl (G.lastNot (f:=24) (i:=20) d' hi) (.inl rfl)|have hA:aA W0 w':=G.at2 (j:=0) rfl (G.ln hi) (.inl rfl)
    have jz:=aL w' (.cells (lineA bG) 68);exact EG
   .first|have _:=RJ;have wg:=G.gg 17 23 c_|have Ay:=G.gg 13 40 c_
    have ae:=G.at2 (j:=0) rfl hi (.inl rfl);obtain⟨Y,hY,cd,cx⟩:=G.fb hi c_;first|have _:=RJ;have hY:a.tmps.getD 3 undef= .pointer (some ⟨Y,0,none⟩):=hY;have c3:a.tmps[3]?.getD undef= .pointer (some ⟨Y,0,none⟩):=by rw[<-aN];exact hY|have hY:a.tmps.getD 7 undef= .pointer (some ⟨Y,0,none⟩):=hY;have c7:a.tmps[7]?.getD undef= .pointer (some ⟨Y,0,none⟩):=by rw[<-aN];exact hY
    have hL:bL w' Y bG:=cx;obtain⟨b0,b1,b2,b3,b4,b5,b6,b7,b8,b9,h0,h1,h2,h3,h4,h5,h6,h7,h8,h9⟩:=hL.cells;have hA:aA W0 w':=ae;go_simp;exact I undef _ (G.ef 0 aj ha hi (.inl rfl) (λh=>absurd rfl h) (λh=>absurd rfl h) ⟨Y,hY,cd,bL.put (r2:=r) hL,Nk hA cd r⟩)
   first|have _:=RJ;iterate 16 (go_simp;exact I _ _ (G.pu aj ha))|iterate 13 (go_simp;exact I _ _ (G.pu aj ha))
   all_goals
    have ab:=G.ea hi;rw[<-ak] at ab;obtain⟨⟨p0,p1,p2⟩,s0,s1⟩:=ab;exact ah
  intro v wz bf eg;obtain⟨Y,hY,cd,cx,dB⟩:=eg
 |skip
 first|have _:=RJ;have Ak:v 3= .pointer (some ⟨Y,0,none⟩):=hY;have Aa:v 4= .int .i64 at_:=bf 22 b_ b_ b_ b_;have d9:v 5= .int .i64 er:=bf 23 b_ b_ b_ b_;simp only[cU,cY,cQ,cZ,Ak,Aa,d9]|have _:=RK;have nr:v 7= .pointer (some ⟨Y,0,none⟩):=hY;have hv:=Bv bf [(18,8),(19,9)] b_;dsimp only[yQ,lk] at hv;simp only[cU,cY,cQ,cZ,nr,hv]|skip
 first
 |first|have _:=RJ|have _:=RK
  have HY:=hid cx;have BB:=hid cd;have nD:=hid (HK.out.put dB cd cx);have rO:=hid dB
 |skip
 first|have _:=RJ;clear bf hY cd cx dB Ak Aa d9 am ak CL|have _:=RK;clear bf hY cd cx dB nr hv am ak CL|skip
 first
 |first|have _:=RJ|have _:=RK
  by_cases h0:er=0
 |obtain⟨i,f,rfl,hi,HF,cV⟩:=hrel;have nJ:=hid (lG.out.keep cV.out);have xG:=hid (nJ.out.at_ (aO.put_eq _ _ _));obtain⟨y0,y1⟩:=qO xG.out;obtain⟨z,sv,lvv,nv,hz,hK⟩:=nJ.out;obtain⟨⟨c0,c1,c2,_⟩,_⟩:=hK.cells;have hPl:=hK.lt;have pm:=aG xG.out;have zc:(0:Int)<=(i:Int):=a_
  by_cases hix:i<x.2
  .have d1:decide ((i:Int)<(x.2:Int))=true:=aQ a_;have j3:decide (i<x.2)=true:=aQ hix;have oZ:i<txt.length:=a_;have CN:Hid (∀w',aA wr w'->Calls prog 206 #[bs txt,i] w' (aT w' (.tuple #[.int .i32 ((decodeL (txt.drop i)).1:Int),((decodeL (txt.drop i)).2:Int)]))):=hid (λw' hb=>aAB txt i w' oZ a_ (HV.out w' (iy.out.trans ((aE cV.out hb).mono iy.out.size))));have gj:txt.drop i≠ []:=λe=>by have:=congrArg List.length e;rw[bC] at this;simp at this;omega
   have sP:=decodeL_le (txt.drop i) gj;have uc:1<=(decodeL (txt.drop i)).2:=by
    cases hd:txt.drop i with
    | nil=>exact absurd hd gj
    | cons c t=>exact decodeL_width (c::t)
   rw[bC] at sP;obtain⟨g,hg⟩: ∃g,f=g+1:=⟨f-1,by have:=HF.out.1;omega⟩;subst hg;have hM:=HF.out.2;have AF:=HF.out.1;unfold pF at hM;rw[if_neg a_] at hM;obtain⟨d,hd⟩:=exQ<|decodeL (txt.drop i);rw[hd] at CN sP uc hM;obtain⟨r,n⟩:=d;rw[aAz] at hM;simp only[] at CN sP uc hM;have CM:=hid (λw=>aAA (r:Int) (n:Int) w);obtain⟨m,hm⟩:=exQ<|yR (r:Int) (n:Int);rw[hm] at CM hM;clear hd hm gj HF hK hz;cases m with
   | false=>
    rw[if_pos DS] at hM;have rU:=hid hM;have Dp:=hid hix;have CF:=hid (λw' hj=>qV (Pr:=Pr.put X (.cells #[x.1,x.2] 42)) (w0:=w0) (P:=P) (txt:=txt) (sp:=sp) (st:=st) (a0:=0) (e0:=0) (i:Int) 2 w' hj);clear hM hix;go_wp2_with fail;refine aH (CN.out _ f_) λw2 bS=>?_;have cm:=hid (nJ.out.keep FU);clear bS;go_wp2_with fail;refine(CM.out _).mono ?_;rintro e w3 ⟨rfl,rfl⟩;go_wp2_with fail;refine aH (CF.out _ k_) λw4 hj=>?_;have o8:=hid (hj.less av.out).bad;clear hj;go_wp2;go_ret;exact .inl ⟨by rw[<-rU.out];exact Dp.out,rfl,by rw[<-rU.out];exact o8.out⟩
   | true=>
    rw[if_neg e_] at hM;have rU:=hid hM;obtain⟨i1,cN⟩:=exQ<|i+n;have jr:=hid cN;have bt:(i:Int)+(n:Int)=(i1:Int):=a_;have hlt1:i<i1:=a_;have yX:i1<=65536:=a_;have wF:x.2<=i1+g:=a_;have HG:=hid wF;clear hM cN wF AF sP;go_wp2_with fail;refine aH (CN.out _ f_) λw2 bS=>?_;have bh:=hid (aE cV.out FU);clear bS;go_wp2_with fail;refine(CM.out _).mono ?_;rintro e w3 ⟨rfl,rfl⟩;go_wp2;go_roundw
    .exact⟨i1,g,by first | rfl | rw[<-bt],yX,hid ⟨HG.out,by rw[<-jr.out];exact rU.out⟩,bh⟩
    .exact ao
 .first
  |first|have _:=RJ|have _:=RK
   subst h0
  |skip
  first|have _:=RK;have h2:=bw.out;rw[if_neg e_] at h2|skip
  first
  |first|have _:=RJ|have _:=RK
   obtain⟨W2,aw⟩:=exQ<|wz.drew
  |skip
  first
  |have _:=RJ;have bd:YK YP (Pr.put Y (.cells (lineA r) 68)) w0 P txt sp st.lines z st.total 0 0 (.slice (some ⟨gs,0,none⟩) sp.length cs) (.slice pl k cl) nv W2:=by rw[<-aw];exact nD.out.keep (aD _ wz).drew
  |have _:=RK;have bd:YK YQ (Pr.put Y (.cells (lineA r) 68)) w0 P txt sp ls z st.total 0 0 (.slice (some ⟨gs,0,none⟩) sp.length cs) (.slice pl k cl) nv W2:=by rw[<-aw];exact nD.out.keep (aD _ wz).drew
  |have d1:decide ((i:Int)<(x.2:Int))=false:=aJ a_;have j3:decide (i<x.2)=false:=aJ hix;have hM:=HF.out.2;rw[Nw _ _ _ _ a_] at hM;have AA:=hid (show ¬M<x.2 by omega);have CB:=hid (λw' hj=>Nt (Pr:=Pr.put X (.cells #[x.1,x.2] 42)) (w0:=w0) (P:=P) (txt:=txt) (sp:=sp) (st:=st) (a0:=0) (e0:=0) q x w' hj HX.out dz.out hs);obtain⟨nb,fX⟩:=exQ<|bB (dL txt x);obtain⟨bb,fn⟩:=exQ<|decide (bB (dL txt x)=(dL txt x).length);rw[fn,fX] at CB;have jB:=hid fX;clear hM hix fX fn HF hK hz;go_wp2_with fail;refine aH (CB.out _ (by first | exact nJ.out | exact nJ.out.keep (aD _ _).drew)) λw2 bS=>?_;have cm:=hid (nJ.out.keep FU);clear bS y0 y1 c0 c1 c2;go_upto_region 9 with fail;obtain⟨W2,aw⟩:=exQ<|w2.drew;obtain⟨z,sv,lvv,nv,hz,bd⟩:=cm.out.keep (aD _ w2).drew;rw[aw] at bd;obtain⟨pl,cl,rfl⟩:=bd.lnSlice;rw[eY.out] at bd;have HZ:=hid hz
  have cJ:=hid bd
  first
  |first|have _:=RJ|have _:=RK
   have av:=hid (aO.put_less (Pr:=Pr) (o:= .cells (lineA r) 68) (λq o' Z=>HK.out.frLt Z) BB.out)
  |skip
  have bx:=bd.lnr;rw[eY.out] at bx;have cT:=hid bx;have da:=hid bd.bel.size
  first
  |first|have _:=RJ|have _:=RK
   obtain⟨SB,dN⟩: ∃S:World->Prop,(λw'=>(w'.cell? (P,2)=some (.slice pl k cl)/\w'.frozen? ⟨P,2,none⟩=false)/\w'.cell? (Y,0)=some (.int .i64 r.kind)/\w'.cell? (Y,1)=some (.int .i64 r.sf)/\w'.cell? (Y,2)=some (.int .i64 r.st)/\w'.cell? (Y,3)=some (.int .i64 r.ind)/\w'.cell? (Y,4)=some (.int .i64 r.kf)/\w'.cell? (Y,5)=some (.int .i64 r.kt)/\w'.cell? (Y,6)=some (.int .i64 r.rf)/\w'.cell? (Y,7)=some (.int .i64 r.rt)/\w'.cell? (Y,8)=some (.int .i64 r.nf)/\w'.cell? (Y,9)=some (.int .i64 r.nt))=S:=⟨_,rfl⟩
  |skip
  first
  |have _:=RJ;have cW:Hid (∀q c w',q<3->bW 68 w0.heap.size (.slice pl k cl) k (gY st.lines) (lineA r) P 2 W2 q c w'->SB w'):=hid (λq c w' Z hp=>by rw[<-dN];have hs:=cJ.out.seenA cT.out b_ (λj o hj=>(cJ.out.fr j o hj).2.2.1) Z hp;obtain⟨c2,f2⟩:=hs.c2;have hl:bL w' Y r:=hs.fr Y _ (aO.put_eq _ _ _);obtain⟨b0,b1,b2,b3,b4,b5,b6,b7,b8,b9,_⟩:=hl.cells;exact⟨⟨c2,f2⟩,b0,b1,b2,b3,b4,b5,b6,b7,b8,b9⟩);clear bd bx nD HK HJ;go_upto_region 4 with fail;refine iV [32,33,34,35,36,37,38,39,40,41] [10] [6,7,10] 1000000 (λ_ _=>True) 42 [some P,some P,some P,(P,2), .slice pl k cl, .agg #[r.kind,r.sf,r.st,r.ind,r.kf,r.kt,r.rf,r.rt,r.nf,r.nt],undef,undef,some P,(P,2)] SB (bW 68 w0.heap.size (.slice pl k cl) k (gY st.lines) (lineA r) P 2 W2) [6,7,10,0,1,2,3,8,9,4,5] DY E9 ?_ ?_
  |have _:=RK;have cW:Hid (∀q c w',q<3->bW 68 w0.heap.size (.slice pl k cl) k (gY ls) (lineA r) P 2 W2 q c w'->SB w'):=hid (λq c w' Z hp=>by rw[<-dN];have hs:=cJ.out.seenA cT.out b_ (λj o hj=>(cJ.out.fr j o hj).2.2.1) Z hp;obtain⟨c2,f2⟩:=hs.c2;have hl:bL w' Y r:=hs.fr Y _ (aO.put_eq _ _ _);obtain⟨b0,b1,b2,b3,b4,b5,b6,b7,b8,b9,_⟩:=hl.cells;exact⟨⟨c2,f2⟩,b0,b1,b2,b3,b4,b5,b6,b7,b8,b9⟩);have HB:=hid h2;have HA:Hid ((ls++ [r])[k]?=some r/\(ls++ [r]).length<=sp.length):=hid ⟨by rw[lR (by have:=eY.out;omega),show k-ls.length=0 by have:=eY.out;omega];rfl,by rw[aZ,dF];have:=eY.out;omega⟩;clear bd bx nD HK h2 HJ;go_upto_region 8 with fail;refine iV [49,50,51,52,53,54,55,56,57,58] [10] [6,7,10] 1000000 (λ_ _=>True) 85 [some P,some P,some P,(P,2), .slice pl k cl, .agg #[r.kind,r.sf,r.st,r.ind,r.kf,r.kt,r.rf,r.rt,r.nf,r.nt],undef,undef,some P,(P,2)] SB (bW 68 w0.heap.size (.slice pl k cl) k (gY ls) (lineA r) P 2 W2) [6,7,10,0,1,2,3,8,9,4,5] DY E9 ?_ ?_
  |obtain⟨SB,dN⟩: ∃S:World->Prop,(λw'=>(w'.cell? (P,2)=some (.slice pl k cl)/\w'.frozen? ⟨P,2,none⟩=false)/\w'.cell? (X,0)=some (.int .i64 (x.1:Int))/\w'.cell? (X,1)=some (.int .i64 (x.2:Int)))=S:=⟨_,rfl⟩;have cW:Hid (∀q c w',q<3->bW 68 w0.heap.size (.slice pl k cl) k (gY st.lines) (lineA (pI x nb)) P 2 W2 q c w'->SB w'):=hid (λq c w' Z hp=>by rw[<-dN];have hs:=cJ.out.seenA cT.out b_ (λj o hj=>(cJ.out.fr j o hj).2.2.1) Z hp;obtain⟨c2,f2⟩:=hs.c2;obtain⟨b0,b1⟩:=qO (hs.fr X _ (aO.put_eq _ _ _));exact⟨⟨c2,f2⟩,b0,b1⟩);clear bd bx hz;refine iV [49,50,51,52,53,54,55,56,57,58,59,60] [12] [8,9,12] 1000000 (λ_ _=>True) 61 [some P,some P,some P,(P,2), .slice pl k cl, .agg #[x.1,x.2],nb, .agg #[(6:Int),x.1,x.2,nb,(0:Int),(0:Int),(0:Int),(0:Int),(0:Int),(0:Int)],undef,undef,some P,(P,2)] SB (bW 68 w0.heap.size (.slice pl k cl) k (gY st.lines) (lineA (pI x nb)) P 2 W2) [8,9,12,0,1,2,3,6,7,10,11,4,5] DY E9 ?_ ?_
  .intro d a w' iq o' hO ho hi F aa G R' I;first|have _:=RJ;have Z:=dW aa [(0,some P),(3,some Y)] rfl rfl;have hc:=G.all [(0,32),(1,33),(2,34),(3,35),(4,36),(5,37),(8,40),(9,41)] b_|have _:=RK;have Z:=dW aa [(0,some P),(7,some Y)] rfl rfl;have hc:=G.all [(0,49),(1,50),(2,51),(3,52),(4,53),(5,54),(8,57),(9,58)] b_|have Z:=dW aa [(0,some P),(5,some X),(9,nb)] rfl rfl;have hc:=G.all [(0,49),(1,50),(2,51),(3,52),(4,53),(5,54),(6,55),(7,56),(10,59),(11,60)] b_
   dsimp only[dS,dM,lk] at Z hc;clear aa;have ha:=F;have aj:=ho
   repeat' rcases hO with _ | ⟨_,hO⟩
   all_goals (simp only[cR,cP,bY,cC] at ho;subst ho;try simp[Region.binds] at F)
   .first|have _:=RJ;have u6:=G.gg 5 37 c_|have _:=RK;have Dg:=G.gg 5 54 c_|have zB:=G.gg 7 56 c_
    exact fd
   .first|have _:=RJ;have na:=G.gg 4 36 c_|have sQ:=G.gg 4 53 c_
    first
    |first|have _:=RJ|have _:=RK
     have ad:d 6=true:=c_;have ae:=G.at2 (j:=1) rfl hi (.inr ⟨6,rfl,ad⟩)
    |skip
    first
    |have _:=RJ;have gb:a.tmps.getD 36 undef= .slice pl k cl:=by rw[aN];exact na
     exact bW.app rfl (.tmp 36) (.tmp 38) 23 rfl underlying23 du ds ee ei rfl b_ rfl (Fy r) cT.out a_ b_ da.out ae gb rfl (λv' w2 hp=>I _ _ (G.ef 1 aj ha hi (.inr ⟨6,rfl,ad⟩) (λ_ _ _=>trivial) (λ_=>cW.out 2 _ _ b_ hp) hp))
    |have _:=RL;have ad:d 8=true:=c_
     have ae:=G.at2 (j:=1) rfl hi (.inr ⟨8,rfl,ad⟩)
    |skip
    first
    |first|have _:=RK|have _:=RL
     have gb:a.tmps.getD 53 undef= .slice pl k cl:=by rw[aN];exact sQ
    |skip
    first|have _:=RK;exact bW.app rfl (.tmp 53) (.tmp 55) 23 rfl underlying23 du ds ee ei rfl b_ rfl (Fy r) cT.out a_ b_ da.out ae gb rfl (λv' w2 hp=>I _ _ (G.ef 1 aj ha hi (.inr ⟨6,rfl,ad⟩) (λ_ _ _=>trivial) (λ_=>cW.out 2 _ _ b_ hp) hp))|have _:=RL;exact bW.app rfl (.tmp 53) (.tmp 57) 23 rfl underlying23 du ds ee ei rfl b_ rfl (Fy (pI x nb)) cT.out a_ b_ da.out ae gb rfl (λv' w2 hp=>I _ _ (G.ef 1 aj ha hi (.inr ⟨8,rfl,ad⟩) (λ_ _ _=>trivial) (λ_=>cW.out 2 _ _ b_ hp) hp))|skip
   .first|have _:=RJ;have xj:=G.gg 9 41 c_|have _:=RK;have rA:=G.gg 9 58 c_|skip
    first
    |first|have _:=RJ|have _:=RK
     have ad:d 7=true:=c_;have ae:=G.at2 (j:=2) rfl hi (.inr ⟨7,rfl,ad⟩)
    |have yf:=G.gg 11 60 c_;have ad:d 9=true:=c_;have ae:=G.at2 (j:=2) rfl hi (.inr ⟨9,rfl,ad⟩)
    have ab:=G.st hi;rw[<-dN] at ab
    first
    |first|have _:=RJ|have _:=RK
     obtain⟨⟨p2,pB⟩,b0,b1,b2,b3,b4,b5,b6,b7,b8,b9⟩:=ab
    |skip
    first|have _:=RJ;have dC:bW 68 w0.heap.size (.slice pl k cl) k (gY st.lines) (lineA r) P 2 W2 2 (a.tmps.getD 39 undef) w':=ae|have _:=RK;have dC:bW 68 w0.heap.size (.slice pl k cl) k (gY ls) (lineA r) P 2 W2 2 (a.tmps.getD 56 undef) w':=ae|obtain⟨⟨p2,pB⟩,b0,b1⟩:=ab;have dC:bW 68 w0.heap.size (.slice pl k cl) k (gY st.lines) (lineA (pI x nb)) P 2 W2 2 (a.tmps.getD 58 undef) w':=ae
    obtain⟨gz,cz,hz⟩:=dC.form;rw[hz] at dC;first|have _:=RJ;have uA:a.tmps[39]?.getD undef= .slice (some ⟨gz,0,none⟩) (k+1) cz:=by rw[<-aN];exact hz|have _:=RK;have zB:a.tmps[56]?.getD undef= .slice (some ⟨gz,0,none⟩) (k+1) cz:=by rw[<-aN];exact hz|skip
    first
    |first|have _:=RJ|have _:=RK
     exact lf
    |have rA:a.tmps[58]?.getD undef= .slice (some ⟨gz,0,none⟩) (k+1) cz:=by rw[<-aN];exact hz
     go_simp;exact I undef _ (G.ef 2 aj ha hi (.inr ⟨9,rfl,ad⟩) (λ_ _ _=>trivial) (λh=>absurd rfl h) ⟨_,_,dC,rfl⟩)
   first
   |first|have _:=RJ|have _:=RK
    iterate 6 (go_simp;exact I _ _ (G.pu aj ha))
   |iterate 8 (go_simp;exact I _ _ (G.pu aj ha))
   all_goals
    have ab:=G.ea hi;rw[<-dN] at ab
    first
    |first|have _:=RJ|have _:=RK
     obtain⟨⟨p2,pB⟩,b0,b1,b2,b3,b4,b5,b6,b7,b8,b9⟩:=ab
    |obtain⟨⟨p2,pB⟩,b0,b1⟩:=ab
    exact ah
  intro v wy bf cw;first|have _:=RJ;obtain⟨cz,iM⟩: ∃c,bW 68 w0.heap.size (.slice pl k cl) st.lines.length (gY st.lines) (lineA r) P 2 W2 3 c wy:=⟨_,by rw[eY.out];exact cw⟩|have _:=RK;obtain⟨cz,iM⟩: ∃c,bW 68 w0.heap.size (.slice pl k cl) ls.length (gY ls) (lineA r) P 2 W2 3 c wy:=⟨_,by rw[eY.out];exact cw⟩|obtain⟨cz,iM⟩: ∃c,bW 68 w0.heap.size (.slice pl k cl) st.lines.length (gY st.lines) (lineA (pI x nb)) P 2 W2 3 c wy:=⟨_,by rw[eY.out];exact cw⟩
  obtain⟨rJ,dJ⟩:=cJ.out.lineA iM;first|have _:=RJ;have HF:=hid (dJ.less av.out)|have _:=RK;have HF:Hid (iL YQ Pr w0 P txt sp (ls++ [r]) z nv st.total 0 0 wy):=hid ⟨_,_,dJ.less av.out⟩|skip
  first
  |first|have _:=RJ|have _:=RK
   clear cw dJ iM bf cW dN aw
  |have dr:=dJ.less av.out;rw[show pI x nb=jC txt x by rw[<-Nv txt x,jB.out]] at dr;have o8:=hid dr;clear cw dJ dr iM bf cW dN aw
  simp only[cU,cY,cQ,cZ];go_wp2
  first
  |first|have _:=RJ|have _:=RL
   go_ret
  |skip
  first|have _:=RJ;exact .inr ⟨rfl,rfl,_,_,HF.out⟩|have _:=RK;go_meet;exact⟨ls++ [r],r,HA,HB,HF⟩|exact .inr ⟨AA.out,rfl,z,_,_,_,HZ.out,o8.out⟩
 first
 |first|have _:=RJ|have _:=RK
  .first|have _:=RJ;have CF:=hid (qV at_ er wz (HJ.out.keep rO.out))|have CF:=hid (tV at_ er wz (bT.out.keep rO.out))
   have d0:(er !=0)=true:=JH
   first|have _:=RJ;have H0:=hid h0;clear h0 nD HK HJ rO|have h2:=bw.out;rw[if_pos h0] at h2;have HB:=hid h2;clear h0 h2 nD HK HJ rO
   go_wp2_with fail;refine aH CF.out λw7 hj=>?_;have HF:=hid hj;clear hj;go_wp2;first|have _:=RJ;go_ret;exact .inl ⟨H0.out,rfl,HF.out.bad⟩|go_ret2;rw[<-HB.out];exact⟨⟨_,rfl⟩,_,HF.out⟩
 |skip):P:=h
theorem PN(h:P:=by
 have sl:=aP l;obtain⟨I,h,i⟩:=En l;first|have:=RH;have an:=hid (aDt l)|skip
 have hp:gE l=if(dX l).2.2≠0 then([],(dX l).2.1,(dX l).2.2) else
  uX l.length (bS l 32 (eT (dX l).1) (0,0) [] (0,0)):=by
  unfold gE eT uX;rfl
 rw[hp];clear hp;have b1:=aL w (.cells #[.string ⟨#[]⟩,()] 134);first|have:=RI;have C:=Wu l (w.alloc (.cells #[.string ⟨#[]⟩,()] 134)) hs (hV.keep b1) (hT.keep b1)|have C:=aCX l (w.alloc (.cells #[.string ⟨#[]⟩,()] 134)) hs
 obtain⟨r,hr⟩:=exQ<|dX l
 first|have:=RI;rw[hr] at C I h i ⊢|rw[hr] at C an I h i ⊢
 obtain⟨T,at_,er⟩:=r;have CT:=hid C;have aO:=hid b1;first|have:=RI;simp only[] at I h i|simp only[] at I h i an
 by_cases he:er=0
 case neg=>
  have hen:(er !=0)=true:=eN.2 he;clear C b1 hr h i;go_in;go_wp2_with fail;refine CT.out.mono ?_;rintro e w2 ⟨v,rfl,ho,hn,hb⟩;have hD:w2.heap[w.heap.size]?=some (.cells #[.string ⟨#[]⟩,()] 134):=(hb.block _ e_).trans (heap_alloc_new w _);obtain⟨c0,c1⟩:=qO hD;obtain⟨f0,f1⟩:=Ar hD;have hB:aA w w2:=aO.out.trans (hb.mono e_);have U:=hid hB;clear hD ho hn hb hB;go_wp2_with fail
  try simp only[Exit.inBlock,Exit.then]
  refine bodyPost_ret (tJ rfl _ _ rfl (u:= .string ⟨#[]⟩) (v:= .slice none 0 0) ?_ ?_) rfl ?_
  .simp[go_sem,c0,c1]
  .simp[go_sem,c0,c1]
  .refine⟨_,rfl,⟨[], .slice none 0 0,rfl,rfl,cK.nil _ _⟩,(U.out.setCell e_ _).setCell e_ _⟩
 subst he;obtain⟨R,hR⟩:=exQ<|bS l 32 (eT T) (0,0) [] (0,0);rw[if_neg e_];simp only[];rw[hR];have hl:=i rfl;have HR:=hid hR;have ay:=hid h
 first|have:=RI;have aR:=hid (aK hV hT);clear C b1 hr hR h i hV hT|clear C b1 hr hR h i
 go_in;go_wp2_with fail;refine CT.out.mono ?_;rintro e w2 ⟨v,rfl,ho,hn,hb⟩;have hD:w2.heap[w.heap.size]?=some (.cells #[.string ⟨#[]⟩,()] 134):=(hb.block _ e_).trans (heap_alloc_new w _);have hB:aA w w2:=aO.out.trans (hb.mono e_);have U:=hid hB;have E:=hid hD;have bb:w.heap.size<w2.heap.size:=aG hD;obtain⟨p0,c0,hv,hvc,aT⟩:=fV.toTV ho;subst hv;have au:Hid (∀j t,T[j]?=some t-> ∃g o,p0=some ⟨g,o,none⟩/\g<w2.heap.size/\w2.cell? ⟨g,o+j*3,none⟩=some (.int .i64 t.kind)/\w2.cell? ⟨g,o+j*3+1,none⟩=some (.int .i64 t.sf)/\w2.cell? ⟨g,o+j*3+2,none⟩=some (.int .i64 t.st)):=hid (λj t Z=>by
  rcases aT with h0 | ⟨g,o,cur,h0,V,h2⟩
  .simp only[] at h0;rw[h0] at Z;simp at Z
  .exact⟨g,o,h0,aG V,h2 j t Z⟩)
 clear hD ho hn hb hB aT;obtain⟨P,hP⟩:=exQ<|w2.heap.size
 first
 |have:=RI;have af:dO (w2.alloc (.cells #[bs l,(),(0:Int),(0:Int),(),(0:Int),(0:Int)] 179)) P l (.slice none 0 0) (0,0) (.slice none 0 0) 0 0:=by
   rw[<-hP];exact heap_alloc_new w2 _
 |have af:cN (w2.alloc (.cells #[bs l,(),(0:Int),(),(0:Int),(0:Int)] 161)) P l (.slice none 0 0) 0 (.slice none 0 0) 0 0:=by
   rw[<-hP];exact heap_alloc_new w2 _
 have a7:=hid af
 first
 |have:=RI;have aI:Hid (Below P w2 (w2.alloc (.cells #[bs l,(),(0:Int),(0:Int),(),(0:Int),(0:Int)] 179))):=hid (by rw[<-hP];exact aL w2 _);have aN:Hid (fV (P+1) (w2.alloc (.cells #[bs l,(),(0:Int),(0:Int),(),(0:Int),(0:Int)] 179)) (.slice none 0 0) (eT (T.take 0))):=hid ⟨rfl, .inl ⟨rfl,rfl⟩⟩
 |have aI:Hid (Below P w2 (w2.alloc (.cells #[bs l,(),(0:Int),(),(0:Int),(0:Int)] 161))):=hid (by rw[<-hP];exact aL w2 _);have aN:Hid (fV (P+1) (w2.alloc (.cells #[bs l,(),(0:Int),(),(0:Int),(0:Int)] 161)) (.slice none 0 0) (eT (T.take 0))):=hid ⟨rfl, .inl ⟨rfl,rfl⟩⟩
 clear af;rw[hP] at bb au;go_wp2;first|have:=RI;go_loopw [28] (λah wr=> ∃(k:Nat) (rv:Value),ah= .int .i64 (k:Int)/\k<=T.length/\Hid (dO wr P l rv (0,0) (.slice none 0 0) 0 0)/\Hid (fV (P+1) wr rv (eT (T.take k)))/\Hid (Below P w2 wr)) (λah _=>T.length-(RowKit.intOf ah).toNat)|go_loopw [9] (λs9 wr=> ∃(k:Nat) (rv:Value),s9= .int .i64 (k:Int)/\k<=T.length/\Hid (cN wr P l rv 0 (.slice none 0 0) 0 0)/\Hid (fV (P+1) wr rv (eT (T.take k)))/\Hid (Below P w2 wr)) (λs9 _=>T.length-(RowKit.intOf s9).toNat)
 case atStart=>exact⟨0,_,rfl,a_,a7,aN,aI⟩
 case round=>
  obtain⟨k,rv,rfl,hk,HJ,HO,n⟩:=hrel;by_cases hkl:k<T.length
  .obtain⟨t,B⟩: ∃t,T[k]?=some t:=⟨_,bI hkl⟩;obtain⟨g,o,rfl,hg,e0,e1,e2⟩:=au.out k t B;have hgP:g<P:=hg;have a0:wr.cell? ⟨g,o+k*3,none⟩=some (.int .i64 (t.kind:Int)):=by rw[n.out.cell (p:=⟨g,o+k*3,none⟩) hg];exact e0
   have a1:wr.cell? ⟨g,o+k*3+1,none⟩=some (.int .i64 (t.sf:Int)):=by rw[n.out.cell (p:=⟨g,o+k*3+1,none⟩) hg];exact e1
   have a2:wr.cell? ⟨g,o+k*3+2,none⟩=some (.int .i64 (t.st:Int)):=by rw[n.out.cell (p:=⟨g,o+k*3+2,none⟩) hg];exact e2
   have hk0:(0:Int)<=(k:Int):=a_;have bc:(k:Int)<(T.length:Int):=a_;have dk:decide ((k:Int)<(T.length:Int))=true:=aQ bc;obtain⟨k1,aM⟩:=exQ<|k+1;have K:(k:Int)+1=(k1:Int):=a_;have b:=Ll T k t B;rw[aM] at b;have D:k1<=T.length:=a_;have az:=HJ.out.lt
   first|have:=RI;obtain⟨aj,H⟩: ∃o:Obj, .cells #[.int .i64 (t.kind:Int), .int .i64 (t.sf:Int), .int .i64 (t.st:Int)] 163=o:=⟨_,rfl⟩;have bt:=aL wr aj;have A:=hid (HJ.out.keep bt);have F:Hid (fV (P+1) (wr.alloc aj) rv (eT (T.take k))):=hid (World.ownsRow.alloc HO.out _);have Q:Hid (Below P w2 (wr.alloc aj)):=hid (n.out.trans (bt.mono a_));rw[<-H] at A F Q|skip
   by_cases V:t.kind=1
   .have d1:((t.kind:Int) !=1)=false:=by rw[V];rfl
    rw[if_pos V,List.append_nil] at b;first|have:=RI;rw[<-b] at F;clear e0 e1 e2 b B bt H V|have aE:=HO;rw[<-b] at aE;clear e0 e1 e2 b B V
    go_wp2;go_roundw
    first
    |have:=RI
     .exact⟨k1,rv,by rw[<-K],D,A,F,Q⟩
    |.exact⟨k1,rv,by rw[<-K],D,HJ,aE,n⟩
    .exact aq
   .have d1:((t.kind:Int) !=1)=true:=eN.2 a_;rw[if_neg V] at b;first|have:=RI;clear e0 e1 e2 B bt H V|clear e0 e1 e2 B V
    go_upto_region 9 with fail
    first
    |have:=RI;obtain⟨X,hX⟩:=exQ<|wr.heap.size
     have x0:=xU wr #[.int .i64 (t.kind:Int), .int .i64 (t.sf:Int), .int .i64 (t.st:Int)] 163 0 _ rfl;have x1:=xU wr #[.int .i64 (t.kind:Int), .int .i64 (t.sf:Int), .int .i64 (t.st:Int)] 163 1 _ rfl;have x2:=xU wr #[.int .i64 (t.kind:Int), .int .i64 (t.sf:Int), .int .i64 (t.st:Int)] 163 2 _ rfl;rw[hX] at x0 x1 x2
     try rw[hX]
     obtain⟨W,hW⟩:=exQ<|wr.alloc (.cells #[.int .i64 (t.kind:Int), .int .i64 (t.sf:Int), .int .i64 (t.st:Int)] 163);rw[hW] at x0 x1 x2 A F Q;rw[hW];have a6:P<W.heap.size:=A.out.lt;have hXW:X<W.heap.size:=by rw[<-hW,<-hX];simp
     have q1:=A.out.cells.2.1
    |have q1:=HJ.out.cells.2.1
    have Y:(eT (T.take k)).length<=4294967295:=by
     refine bF (List.length_filter_le _ _) ?_;rw[bR];omega
    first
    |have:=RI;have x:fV (P+1) W.drew rv (eT (T.take k)):=F.out;clear hW hX a0 a1 a2;go_region_law (refine Li DS (.tmp 39) (.tmp 41) DS (P+1) W.drew rv (eT (T.take k)) t DS x DS Y a6 ?_;intro kv w5 m L;obtain⟨j5,o5,b5,c5,f5⟩:=Wx (w:=W.drew) (w2:=w2) (A.out.keep (aD _ _).drew) x Q.out.drew L m;obtain⟨gk,pk,rfl⟩:=Lj m)
    |have x:fV (P+1) wr.drew rv (eT (T.take k)):=HO.out;go_region_law (refine Li DS (.tmp 41) (.tmp 46) DS (P+1) wr.drew rv (eT (T.take k)) t DS x DS Y az ?_;intro kv w5 m L;obtain⟨j5,o5,b5,c5,f5⟩:=aDu (w:=wr.drew) (w2:=w2) (HJ.out.keep (aD _ _).drew) x n.out.drew L m;obtain⟨gk,pk,rfl⟩:=Lj m)
    all_goals
     rw[<-b] at o5;have ao:=hid j5;have a9:=hid o5;have bd:=hid b5;first|have:=RI;clear j5 o5 b5 c5 f5 m L b x q1 x0 x1 x2|clear j5 o5 b5 c5 f5 m L b x q1
     go_wp2;go_roundw
     .exact⟨k1,_,by rw[<-K],D,ao,a9,bd⟩
     .exact aq
  .have ba:k=T.length:=a_;subst ba;rw[List.take_length] at HO;have dk:decide ((T.length:Int)<(T.length:Int))=false:=aJ a_;have az:=HJ.out.lt;first|have:=RI;have Z:J w2.heap.size P l (eT T) (0,0) [] wr:=⟨rv,[], .slice none 0 0,HJ.out,fV.toTV HO.out,rfl,cK.nil _ _,a_⟩|have Z:QJ w2.heap.size P l (eT T) 0 [] wr:=⟨[], .slice none 0 0,rfl,rv,HJ.out,fV.toTV HO.out,a_,cK.nil _ _,a_⟩
   have bg:(eT T).length<=65536:=bF (List.length_filter_le _ _) I;have N:Below w2.heap.size w2 wr:=by rw[hP];exact n.out
   first|have:=RI;have CV:=Kh w2 P l hl (aR.out.1.keep U.out) (aR.out.2.keep U.out) 32 a_ wr (eT T) (0,0) [] (0,0) 1 Z N ⟨a_,λt B=>ay.out t (List.mem_filter.1 B).1⟩ h_ a_;rw[HR.out] at CV|have CV:=Qh w2 P l (eT T) bg hl (λt B=>ay.out t (List.mem_filter.1 B).1) (λt B=>an.out t (List.mem_filter.1 B).1) 32 a_ wr 0 (0,0) [] (0,0) 1 Z N (by rw[List.drop_zero,lQ];omega) e_ a_;rw[List.drop_zero,HR.out] at CV
   have M:=hid CV;have c:=hid N;clear CV Z N;cases R with
   | bad a er=>
    go_wp2_with fail;refine M.out.mono ?_;first|have:=RI;rintro e w4 ⟨rfl,⟨ab,ap,l4,z4,ai,jb, -, -, -⟩,z⟩;obtain⟨_,_,_,_,_,c5,c6,_⟩:=jb.cells|rintro e w4 ⟨rfl,⟨ab,lv4,k4,z4,ai,jb, -, -, -⟩,z⟩;obtain⟨_,_,_,_,c4,c5,_⟩:=jb.cells
    obtain⟨d0,d1,d2,d3,dD⟩:=wD E.out c.out z;have f:Hid (aA w w4):=hid (U.out.trans ((c.out.trans z.bel).mono a_));have O:w.heap.size≠P:=a_;clear z jb
    first
    |have:=RH;go_upto_region 11 with fail;go_region
    |skip
    go_upto_region 15 with fail;go_region
    all_goals
     go_wp2_with fail
     try simp only[Exit.inBlock,Exit.then]
     refine bodyPost_ret (tJ rfl _ _ rfl (u:= .string ⟨#[]⟩) (v:= .slice none 0 0) ?_ ?_) rfl ?_
     .exact ar
     .exact ar
     first
     |have:=RI
      .exact F7
     |.exact As (((f.out.drew.setCell (aF _) _).setCell (aF _) _).drew) _ rfl
   | ok rr l2 ns=>
    first
    |have:=RI;cases rr with
     | cons t rr=>
      obtain⟨aa,_,_,ag,_⟩:=nY l 32 _ _ _ _ _ _ _ HR.out;simp only[bM] at ag;go_wp2_with fail;refine M.out.mono ?_;rintro e w4 ⟨rfl,aS,z⟩;have CF:=hid (qM _ P l (t::rr) l2 ns 2 w4 aS K' a_);obtain⟨ap,z4,ai,j1,j2,_⟩:=aS;obtain⟨g4,o4,c4,rfl,_⟩:=j2.head;have r1:=j1.cells.2.1;have s:=hid z;have drr:decide ((0:Int)<(rr.length:Int)+1)=true:=aQ a_;clear z j1 j2;go_wp2_with fail;refine CF.out.mono ?_;rintro e w5 ⟨rfl,⟨ab,rv5,l5,z5,aU,jb, -, -, -⟩,q⟩;obtain⟨_,_,_,_,_,c5,c6,_⟩:=jb.cells;obtain⟨d0,d1,d2,d3,dD⟩:=wD E.out c.out (s.out.trans q);have f:Hid (aA w w5):=hid (U.out.trans ((c.out.trans (s.out.trans q).bel).mono a_));have O:w.heap.size≠P:=a_;clear q jb;go_upto_region 15 with fail;go_region
      all_goals
       go_wp2_with fail
       try simp only[Exit.inBlock,Exit.then]
       refine bodyPost_ret (tJ rfl _ _ rfl (u:= .string ⟨#[]⟩) (v:= .slice none 0 0) ?_ ?_) rfl ?_
       .exact ar
       .exact ar
       .exact F7
     | nil=>
      obtain⟨aa,ae,aV,ag,_⟩:=nY l 32 _ _ _ _ _ _ _ HR.out;go_wp2_with fail;refine M.out.mono ?_;rintro e w4 ⟨rfl,⟨ap,z4,ai,j1,j2,j3,j4,j5⟩,z⟩;obtain⟨p4,c4,rfl⟩:=j2.empty;obtain⟨_,q1,_,_,q4,_⟩:=j1.cells;obtain⟨d0,d1,d2,d3,dD⟩:=wD E.out c.out z;obtain⟨p5,c5,rfl⟩:=j4.slice;have f:Hid (aA w w4):=hid (U.out.trans ((c.out.trans z.bel).mono a_));have O:w.heap.size≠P:=a_;have a4:=hid (aK j3 j4);clear z j1 j2 j4;have ak:=hid dD;clear dD;go_wp2_with fail
      try simp only[Exit.inBlock,Exit.then]
      refine bodyPost_ret (tJ rfl _ _ rfl (u:= .string (bs l)) (v:= .slice p5 z4.length c5) ?_ ?_) rfl ?_
      .exact ar
      .exact ar
      .refine⟨_,rfl,⟨z4, .slice p5 z4.length c5,?_,a4.out.1,?_⟩,(f.out.setCell e_ _).setCell e_ _⟩
       .exact FG
       .exact(a4.out.2.other ak.out b_ b_ b_ (gX (dP w4 w.heap.size 0 (.string (bs l))) (dP _ w.heap.size 1 (.slice p5 z4.length c5)))).base a_
    |obtain⟨aa,ae,aV,ag,_⟩:=nY l 32 _ _ _ _ _ _ _ HR.out;go_wp2_with fail;refine M.out.mono ?_;rintro e w4 ⟨rfl,⟨k5,t5,aX,ax,hl2,aH⟩,z⟩;have ao:=hid aH;have hk5:=(aW.1 ax).1;obtain⟨z5,aU,aB,a3⟩:=aH;have G:=hid a3;have s:=hid z;obtain⟨lv5,aZ,aY,_,a8,_⟩:=a3;obtain⟨p6,c6,rfl⟩:=aY.slice;obtain⟨_,e1,e2,_⟩:=aZ.cells;obtain⟨kk,D⟩:=exQ<|k5+1;have bf:=hid aB;have am:=hid aX;rw[D] at e2 G am ao;clear aZ aY a8 z aX aB;have hkk2:kk<=(eT T).length:=a_;by_cases hkl:kk<(eT T).length
     .have aw:decide ((kk:Int)<((eT T).length:Int))=true:=aQ a_;have ad:decide (kk<(eT T).length)=true:=aQ hkl;obtain⟨tn,av⟩: ∃tn,(eT T)[kk]?=some tn:=⟨_,bI hkl⟩;have CW:=hid (xE _ P l (eT T) kk z5 aU 2 w4.drew (G.out.keep (aD _ w4).drew) a_ a_);have al:(eT T).drop kk=tn::(eT T).drop (kk+1):=by
       rw[gB hkl];congr 1;exact(aW.1 av).2
      have HE:Hid (uX l.length (.ok rr l2 ns)=([],(tn.sf:Int),2)):=hid (by rw[am.out,al];rfl);have HH:Hid (cH l.length ((eT T).drop kk)=tn.sf):=hid (by rw[al];rfl);clear al av;go_upto_region 11 with fail;go_region;go_wp2_with fail;refine CW.out.mono ?_;rintro e w5 ⟨rfl,⟨lv6,jb⟩,ho⟩;have hsz:=s.out.sz;have q:Fr w2.heap.size P wr w5:=s.out.trans ((Fr.of_below (aD _ w4).drew a_).trans (dT.fr ho a_ (show w2.heap.size<=w4.heap.size by omega)));obtain⟨_,_,_,_,c4,c5,_⟩:=jb.cells;rw[HH.out] at c4;obtain⟨d0,d1,d2,d3,dD⟩:=wD E.out c.out q;have f:Hid (aA w w5):=hid (U.out.trans ((c.out.trans q.bel).mono a_));have O:w.heap.size≠P:=a_;clear q jb ho aw ad e1 e2;go_upto_region 15 with fail;go_region
      all_goals
       go_wp2_with fail
       try simp only[Exit.inBlock,Exit.then]
       refine bodyPost_ret (tJ rfl _ _ rfl (u:= .string ⟨#[]⟩) (v:= .slice none 0 0) ?_ ?_) rfl ?_
       .exact ar
       .exact ar
       .exact As (((f.out.setCell (aF _) _).setCell (aF _) _).drew) _ HE.out
     .have aw:decide ((kk:Int)<((eT T).length:Int))=false:=aJ a_;have ad:decide (kk<(eT T).length)=false:=aJ hkl;have a5:rr= []:=by rw[am.out];exact List.drop_eq_nil_of_le a_
      subst a5;obtain⟨p5,c5,rfl⟩:=G.out.at_.slice;have q4:=G.out.c3;obtain⟨d0,d1,d2,d3,dD⟩:=wD E.out c.out s.out;have f:Hid (aA w w4):=hid (U.out.trans ((c.out.trans s.out.bel).mono a_));have O:w.heap.size≠P:=a_;have ak:=hid dD;clear dD;go_upto_region 11 with fail;go_region;go_wp2_with fail
      try simp only[Exit.inBlock,Exit.then]
      refine bodyPost_ret (tJ rfl _ _ rfl (u:= .string (bs l)) (v:= .slice p5 z5.length c5) ?_ ?_) rfl ?_
      .exact ar
      .exact ar
      .refine⟨_,rfl,⟨z5, .slice p5 z5.length c5,?_,bf.out,?_⟩,(f.out.drew.setCell (aF _) _).setCell (aF _) _⟩
       .exact FG
       .exact((G.out.keep (aD _ w4).drew).at_.other ak.out b_ b_ b_ (gX (dP w4.drew w.heap.size 0 (.string (bs l))) (dP _ w.heap.size 1 (.slice p5 z5.length c5)))).base a_):P:=h
theorem G3(h:P:=by
 have sl:=aP l;obtain⟨R,hR⟩:=exQ<|iJ l a;rw[hR];unfold iJ at hR
 first|have _:=KD;have HT:=hid hT;clear hT|skip
 by_cases hout:a<0\/(l.length:Int)<a
 .rw[if_pos hout] at hR;subst hR;rcases hout with h | h
  .exact ej
  .have hn: ¬a<0:=a_;exact ej
 rw[if_neg hout] at hR;obtain⟨k,rfl⟩: ∃k:Nat,a=k:=⟨a.toNat,a_⟩;rw[gA] at hR;have hk0:decide ((k:Int)<0)=false:=aJ a_;have cd:decide (l.length<k)=false:=aJ a_;have cm:k<=l.length:=a_
 clear hout;by_cases h39:l[k]?=some 39
 .rw [if_pos h39] at hR;have ce:k<l.length:=(aW.1 h39).1;have aw:k<(bs l).size:=a_
  have t1:((((bs l)[k]'aw).toNat:Int) !=39)=false:=by
   have:=cT l k aw;rw[h39] at this;have h2:(bs l)[k]'aw=39:=(by simpa using this.symm);rw[h2];rfl
  have t2:((k:Int)==(l.length:Int))=false:=aI.2 a_;have HR:=hid hR;clear hR h39;go_in;go_wp2
  first
  |have _:=KD;go_loopw [1,8,9] (λs1 _ _ wr=> ∃(i f:Nat) (v:aC),s1= .int .i64 i/\i<=l.length/\v.length<=i/\l.length<i+f/\Hid (jT f (l.drop i) i v=R)/\Hid (oS w.heap.size w.heap.size v wr)/\Hid (aA w wr)) (λs1 _ _ _=>l.length-(RowKit.intOf s1).toNat)
   case atStart=>exact⟨k+1,l.length+1,[],t_,a_,e_,a_,HR.out,oS.new w,aL w _⟩
  |go_loop [7,8] (λs7 s8=> ∃(i f:Nat) (v:aC),s7= .string (bs v)/\s8= .int .i64 i/\i<=l.length/\v.length<=i/\l.length<i+f/\Hid (jT f (l.drop i) i v=R)) (λ_ s8=>l.length-(RowKit.intOf s8).toNat)
   case atStart=>exact⟨k+1,l.length+1,[],rfl,t_,a_,e_,a_,HR.out⟩
  case round=>
   first|have _:=KD;obtain⟨i,f,v,rfl,hi,a6,hf,HG,bb,HW⟩:=hrel|obtain⟨i,f,v,rfl,rfl,hi,a6,hf,HG⟩:=hrel
   obtain⟨g,rfl⟩: ∃g,f=g+1:=⟨f-1,a_⟩;first|have _:=R0;have sa:=aP v|skip
   by_cases F:i<l.length
   .have y:i<(bs l).size:=a_;have O:l.drop i=l[i]'F::l.drop (i+1):=gB F;have av:=nF (bs l) i;rw[aY] at av;have A:=HG.out;rw[O,wF,<-O] at A;first|have _:=R0;have an:=cT l i y;rw[bI F] at an;have Y:(bs l)[i]'y=l[i]'F:=(by simpa using an.symm);have aa:=gJ ((bs l)[i]'y) 39 39 rfl|skip
    have bp:=mJ (bs l) i y;first|have _:=KD;have bD:=sP (bs l) i;have CD:=hid (λw hT=>Ex l i w F hT);have hz:w.heap.size<=wr.heap.size:=HW.out.size;have ao:=Xi l i F;have ah:=Xj l i F|skip
    have aX:(decodeL (l.drop i)).2=bN (bs l) i:=by rw[av];rfl
    first
    |have _:=KD;have aM:l[i]'F=39->bU (bs l) i=39/\bN (bs l) i=1:=λh=>by
      have h1:=decodeL_ascii 39 (l.drop (i+1)) b_;rw[O,h] at av;rw[h1] at av;unfold bU bN;rw[<-av];exact⟨rfl,rfl⟩
     have aS:l[i]'F≠39->iY (decodeL (l.drop i))=false->bU (bs l) i≠39:=λh hp e=>by
      obtain⟨q1,q2,q3,_⟩:=ao hp;rw[e,Lo] at q3;have hwp:=bp.1;rw[O] at q3;obtain⟨z,hz⟩: ∃z,bN (bs l) i=z+1:=⟨bN (bs l) i-1,a_⟩;rw[hz,List.take_succ_cons] at q3;injection q3 with q3 _;exact h q3.symm
     rw[aX] at A;obtain⟨rn,bt⟩:=exQ<|bU (bs l) i;obtain⟨wd,bH⟩:=exQ<|bN (bs l) i;rw[bt] at CD bD ao ah aM aS;rw[bH] at CD bp ao ah aM A;by_cases hc:l[i]'F=39
     .rw[if_pos hc] at A;obtain⟨e1,e2⟩:=aM hc;subst e1 e2;obtain⟨P,hP⟩:=exQ<|Lib.hasPrefix (l.drop (i+1)) [39];have CP:Hid (∀w,Calls prog 117 #[((bs l).extract (i+1) l.length), .string ⟨#[39]⟩] w λe w'=>e= .returned (.bool P)/\w=w'):=hid (λw=>by have:=strings_HasPrefix ((bs l).extract (i+1) l.length) ⟨#[39]⟩ w;rw[iW _ _ _ rfl,aY,show (⟨#[39]⟩:ByteArray).data.toList= [39] from rfl,hP] at this;rw[iW _ _ _ rfl];exact this.mono λ_ _ ⟨a,b⟩=>⟨a,b.symm⟩);rw[Xk] at hP;clear O av ao ah aX aM aS bt bH hc;have hi1:(i:Int)+1<=(l.length:Int):=a_;cases P with
      | false=>
       rw[if_neg (by simpa using hP)] at A;have HF:=hid A;clear A hP;go_wp2_with fail;(with_reducible refine(CD.out _ (HT.out.keep HW.out)).mono ?_);rintro e w1 ⟨rfl,o⟩;have au:=hid (bb.out.keep o);have am:=hid (aE HW.out o);clear o;go_wp2_with (go_at_call 117;refine(CP.out _).mono ?_;rintro e w' ⟨rfl,rfl⟩);refine(Builder_String_any_k w.heap.size w.heap.size v _ au.out am.out.size).mono ?_;rintro e W1 ⟨rfl,_,b1,_⟩;go_wp2;go_ret3;exact⟨by rw[<-HF.out];rfl,am.out.trans b1⟩
      | true=>
       have bK:=beq_iff_eq.1 hP;rw[if_pos bK,jO] at A;have cl:i+1<l.length:=by
        rw[List.head?_drop] at bK;exact(aW.1 bK).1
       have ag:=hid A;clear A hP bK;go_wp2_with fail;(with_reducible refine(CD.out _ (HT.out.keep HW.out)).mono ?_);rintro e w1 ⟨rfl,o⟩;have au:=hid (bb.out.keep o);have am:=hid (aE HW.out o);clear o;go_wp2_with (go_at_call 117;refine(CP.out _).mono ?_;rintro e w' ⟨rfl,rfl⟩);refine(zL w.heap.size w.heap.size v 39 _ au.out ⟨a_,a_⟩ a_ am.out.size).mono ?_;rintro e w2 ⟨rfl,h2,b2,_⟩;rw[Lo] at h2;have a2:=hid h2;have ai:=hid (am.out.trans b2);clear h2 b2;go_wp2;go_roundw
       case rel=>exact⟨i+2,g,v++ [39],t_,a_,by simp;omega,a_,ag.out,a2.out,ai.out⟩
       case measure=>simp[RowKit.intOf];omega
     .rw[if_neg hc] at A;cases hp:iY (decodeL (l.drop i)) with
      | true=>
       rw[hp,if_pos rfl] at A;have HF:=hid A;have hb:=ah hp;clear A hp ah ao O av aX aM aS bt bH hc;by_cases h32:rn<32
       .clear hb;exact kg
       .obtain⟨b1,b2⟩:=hb.resolve_left h32;have cy:decide (rn<32)=false:=aJ h32;have t3:(rn==65533)=true:=beq_iff_eq.2 b1;have t4:(((wd:Nat):Int)==1)=true:=beq_iff_eq.2 a_;clear hb b1 b2;exact kg
      | false=>
       rw[hp,if_neg e_,jO] at A;obtain⟨q1,q2,q3,q4⟩:=ao hp;have bM:=aS hc hp;rw[<-q3] at A;have hel:(encodeRune rn).length<=wd:=by rw[q3,bR];omega
       have ag:=hid A;have cP:=q1.1;have cN:=q1.2.1;have cy:decide (rn<32)=false:=aJ a_;have cJ:(rn==39)=false:=aI.2 bM;have t5:(rn==65533&&((wd:Nat):Int)==1)=false:=by
        by_cases hx:rn=65533
        .rw[aI.2 (q4 hx),Bool.and_false]
        .rw[aI.2 hx];rfl
       clear A hp ah ao O av aX aM aS bt bH hc q1 q3 bM;by_cases hx:rn=65533
       .have t3:(rn==65533)=true:=beq_iff_eq.2 hx;have t4:(((wd:Nat):Int)==1)=false:=aI.2 (q4 hx);exact EY
       .have t3:(rn==65533)=false:=aI.2 hx;exact EY
    |rw[aX,aAe l i F,<-Y] at A;by_cases hc:(bs l)[i]'y=39
     .rw [if_pos hc,List.head?_drop] at A;rw[beq_iff_eq.2 hc] at aa;by_cases hn:l[i+1]?=some 39
      .rw[if_pos hn,jO] at A;have cl:i+1<l.length:=(aW.1 hn).1;have ay:i+1<(bs l).size:=a_;have cK:((((bs l)[i+1]'ay).toNat:Int) !=39)=false:=by
        have:=cT l (i+1) ay;rw[hn] at this;rw[show (bs l)[i+1]'ay=39 from (bA this).symm];rfl
       have cn:decide (l.length<=i+1)=false:=aJ a_;have ag:=hid A;have bq: ¬9223372036854775807<(bs v).size+(⟨#[39]⟩:ByteArray).size:=by show ¬_<_+1;omega
       clear A hn hc an Y O av aX;go_wp2;go_round
       case rel=>exact⟨i+2,g,v++ [39],by first | exact congrArg _ (jP v [39]) | rfl,t_,a_,by simp;omega,a_,ag.out⟩
       case measure=>simp[RowKit.intOf];omega
      .rw[if_neg hn] at A;have HF:=hid A;by_cases cl:i+1<l.length
       .have ay:i+1<(bs l).size:=a_;have cK:((((bs l)[i+1]'ay).toNat:Int) !=39)=true:=by
         rw[eN];intro h;apply hn;rw[cT l (i+1) ay,show (bs l)[i+1]'ay=39 from UInt8.toNat_inj.1 (by show _=39;omega)]
        have cn:decide (l.length<=i+1)=false:=aJ a_;exact np
       .have cn:decide (l.length<=i+1)=true:=aQ a_;exact np
     .rw [if_neg hc] at A;rw[aI.2 hc] at aa;have CG:=hid (λw=>wH (bs l) i w y a_);have CN:=hid (λw=>wG (bs l) i w y a_);obtain⟨c,bj⟩:=exQ<|(bs l)[i]'y;rw[bj] at A;obtain⟨n,hn⟩: ∃n:Int,(c.toNat:Int)=n:=⟨_,rfl⟩;have a5:(((bs l)[i]'y).toNat:Int)=n:=(by rw[bj,hn]);rw[a5] at aa;obtain⟨RU,a7⟩:=exQ<|bU (bs l) i;obtain⟨WD,aR⟩:=exQ<|bN (bs l) i;obtain⟨GB,bc⟩:=exQ<|fP (bs l) i;rw[bc] at CG A;rw[a7,aR] at CN;rw[aR] at bp A;clear av a7 aR bc O an Y hc bj aX;by_cases h3:n<32
      .rw[aQ (show c.toNat<32 by omega),Bool.true_or,if_pos rfl] at A;have HF:=hid A;clear A hn;cases GB with
       | true=>exact fo
       | false=>exact fo
      .have d3:decide (n<32)=false:=aJ h3;rw[aJ (show ¬c.toNat<32 by omega),Bool.false_or] at A;cases GB with
       | false=>
        rw[if_pos (show (!false)=true from rfl)] at A;have HF:=hid A;clear A hn;exact fo
       | true=>
        rw[if_neg e_,jO] at A;have ag:=hid A;have a0:(bs l).extract i (i+WD)=bs ((l.drop i).take WD):=by
         apply ByteArray.ext;apply Array.ext';simp[bs,List.drop_take]
        have bT:=aP ((l.drop i).take WD);rw[bR,bC] at bT;have bq: ¬9223372036854775807<(bs v).size+(bs ((l.drop i).take WD)).size:=a_;clear A hn;go_wp2_with (go_at_call 91;refine(CG.out _).mono ?_;rintro e w' ⟨rfl,rfl⟩);refine(CN.out _).mono ?_;rintro e w' ⟨rfl,rfl⟩;go_wp2;go_round
        case rel=>exact⟨i+WD,g,v++(l.drop i).take WD,by congr 1<;>first | rw[a0,jP] | rw[a0] | rfl,t_,a_,by rw[aZ,bR,bC];omega,a_,ag.out⟩
        case measure=>simp[RowKit.intOf];omega
   .have A:=HG.out;rw[List.drop_of_length_le a_] at A;have HF:=hid (show ([],(i:Int),2)=R from A);obtain rfl:i=l.length:=a_;clear A HG;go_wp2;go_ret3;first|have _:=KD;exact eu|exact⟨by rw[<-HF.out];rfl,rfl⟩
 .rw[if_neg h39] at hR;subst hR;by_cases ce:k<l.length
  .have aw:k<(bs l).size:=a_;have t1:((((bs l)[k]'aw).toNat:Int) !=39)=true:=by
    rw[eN];intro h;apply h39;rw[cT l k aw];have:((bs l)[k]'aw)=39:=UInt8.toNat_inj.1 (by show _=39;omega);rw[this]
   have t2:((k:Int)==(l.length:Int))=false:=aI.2 a_;clear h39;exact ej
  .obtain rfl:k=l.length:=a_;clear h39 ce;exact ej):P:=h
theorem PY(h:P:=by
 have sl:=aP l;obtain⟨R,hR⟩:=exQ<|cD l a;rw[hR];unfold cD at hR;rw[gA] at hR
 first|have _:=R6;have HV:=hid hV;have HT:=hid hT;clear hV hT|skip
 by_cases h34:l[a]?=some 34
 .rw [if_pos ⟨a_,h34⟩] at hR;have cR:a<l.length:=(aW.1 h34).1;have aj:a<(bs l).size:=a_
  have t1:((((bs l)[a]'aj).toNat:Int) !=34)=false:=by
   have:=cT l a aj;rw[h34] at this;have h2:(bs l)[a]'aj=34:=(by simpa using this.symm);rw[h2];rfl
  first|have _:=R7;have t1':(((bs l)[a]'aj).toNat:Int)=34:=by simpa using t1|skip
  have d1:decide (l.length<=a)=false:=aJ a_;have HR:=hid hR;clear hR h34;go_in;go_wp2
  first
  |have _:=R6;go_loopw [1,8,9] (λs1 _ _ wr=> ∃(i f:Nat) (v:aC),s1= .int .i64 i/\i<=l.length/\v.length<=4*i/\l.length<i+f/\Hid (eG f (l.drop i) i v=R)/\Hid (oS w.heap.size w.heap.size v wr)/\Hid (aA w wr)) (λs1 _ _ _=>l.length-(RowKit.intOf s1).toNat)
   case atStart=>exact⟨a+1,l.length+1,[],t_,a_,e_,a_,HR.out,oS.new w,aL w _⟩
  |go_loopw [7,8,9,10,11,12,13] (λs7 s8 _ _ _ _ _ wr=> ∃(i f:Nat) (v:aC),s7= .string (bs v)/\s8= .int .i64 i/\i<=l.length/\v.length<=4*i/\l.length<i+f/\Hid (eG f (l.drop i) i v=R)/\Hid (aA w wr)) (λ_ s8 _ _ _ _ _ _=>l.length-(RowKit.intOf s8).toNat)
   case atStart=>exact⟨a+1,l.length+1,[],rfl,t_,a_,e_,a_,HR.out,aD _ _⟩
  case round=>
   first|have _:=R6;obtain⟨i,f,v,rfl,hi,a6,hf,HG,bb,HW⟩:=hrel|obtain⟨i,f,v,rfl,rfl,hi,a6,hf,HG,HW⟩:=hrel
   obtain⟨g,rfl⟩: ∃g,f=g+1:=⟨f-1,a_⟩;first|have _:=R7;have sa:=aP v|skip
   by_cases F:i<l.length
   .have y:i<(bs l).size:=a_;have O:l.drop i=l[i]'F::l.drop (i+1):=gB F;have an:=cT l i y;rw[bI F] at an;have Y:(bs l)[i]'y=l[i]'F:=(by simpa using an.symm);have ae:=gJ ((bs l)[i]'y) 34 34 rfl;first|have _:=R7;have bW:=gJ ((bs l)[i]'y) 92 92 rfl|skip
    have A:=HG.out;rw[O] at A;unfold eG at A;rw[<-O,<-Y] at A;clear HG;by_cases V:(bs l)[i]'y=34
    .rw[if_pos V] at A;have HF:=hid A;rw[beq_iff_eq.2 V] at ae;first|have _:=R6;clear A O an Y V;go_wp2_with fail;refine(Builder_String_any_k w.heap.size w.heap.size v _ bb.out HW.out.size).mono ?_;rintro e W1 ⟨rfl,_,b1,_⟩;go_wp2;go_ret3;exact⟨by rw[<-HF.out];rfl,HW.out.trans b1⟩|clear A O an Y V bW;go_wp2;go_ret3;exact eu
    .rw[if_neg V] at A;rw[aI.2 V] at ae;have hne:l.drop i≠ []:=by rw[O];exact List.cons_ne_nil _ _
     have ah:=sR (l.drop i) hne;rw[bC] at ah
     first
     |have _:=R6;obtain⟨P,hP⟩:=exQ<|fK (l.drop i)
      obtain⟨rn,wd⟩:=P;have CP:Hid (∀w,eQ w->dE w->Calls prog 184 #[((bs l).extract i l.length)] w (aT w (.tuple #[.int .i32 rn,wd]))):=hid (λw h1 h2=>by have:=Tc (l.drop i) w hne DJ h1 h2;rw[hP] at this;rw[iW _ _ _ rfl];exact this);rw[hP] at A ah;simp only[] at A ah;obtain⟨p0,p1,p2⟩:=ah;have hz:w.heap.size<=wr.heap.size:=HW.out.size;clear O an Y V hne hP;by_cases hw0:wd=0
      .rw[if_pos hw0] at A;have HF:=hid A;subst hw0;clear A p2;go_wp2_with fail;refine aH (CP.out _ (HV.out.keep HW.out) (HT.out.keep HW.out)) λw1 o=>?_;exact oy
      .rw[if_neg hw0] at A;obtain⟨N,rfl⟩: ∃N:Nat,wd=N:=⟨wd.toNat,a_⟩;rw[gA,jO] at A;have hN:1<=N/\N<=l.length-i:=a_;have b7:=Lib.runeCells_le rn;rw[Lib.runeCells_length] at b7;have cu:((N:Int)==0)=false:=aI.2 hw0;have ag:=hid A;clear A hw0 p2;go_wp2_with fail;refine aH (CP.out _ (HV.out.keep HW.out) (HT.out.keep HW.out)) λw1 o=>?_;have au:=hid (bb.out.keep o);have am:=hid (HW.out.trans (o.mono hz));clear o;go_wp2_with fail;refine(zL w.heap.size w.heap.size v rn _ au.out ⟨p0,p1⟩ a_ am.out.size).mono ?_;rintro e w2 ⟨rfl,h2,b2,_⟩;have a2:=hid h2;have ai:=hid (am.out.trans b2);clear h2 b2;go_wp2;go_roundw
       case rel=>exact⟨i+N,g,v++Lib.encodeRune rn,t_,a_,by rw[aZ];omega,a_,ag.out,a2.out,ai.out⟩
       case measure=>simp[RowKit.intOf];omega
     |by_cases h92:(bs l)[i]'y=92
      .rw[beq_iff_eq.2 h92] at bW;have cf:fK (l.drop i)=oR (l.drop i):=by
        unfold fK;rw[O,if_pos (by rw[List.head?_cons,<-Y,h92])]
       obtain⟨P,hP⟩:=exQ<|fK (l.drop i);have CE:Hid (∀w,Calls prog 128 #[bs l,i] w λe w'=>e=Ba P/\aA w w'):=hid (λw=>by have:=Xy (bs l) i w y a_;rw[aY,<-cf,hP] at this;exact this);rw[hP] at A ah;obtain⟨rn,wd⟩:=P;have bi:=Ya (rn,wd);unfold Ba at CE;simp only[] at A ah CE bi;obtain⟨p0,p1,p2⟩:=ah;obtain⟨E,hE⟩:=exQ<|yD (rn,wd);rw[hE] at CE bi;have hz:w.heap.size<=wr.heap.size:=HW.out.size;clear O an Y V hne hP cf h92 hE;by_cases hw0:wd=0
       .rw[if_pos hw0] at A;have HF:=hid A;subst hw0;clear A p2 bi;go_wp2_with fail;refine aH (CE.out _) λw1 o=>?_;exact oy
       .rw[if_neg hw0] at A;have cw:=bi hw0;subst cw;obtain⟨N,rfl⟩: ∃N:Nat,wd=N:=⟨wd.toNat,a_⟩;rw[gA,jO] at A;have hN:1<=N/\N<=l.length-i:=a_;have b7:=Lib.runeCells_le rn;rw[Lib.runeCells_length] at b7;have se:=aP (Lib.encodeRune rn);have cu:((N:Int)==0)=false:=aI.2 hw0;have bq: ¬9223372036854775807<(bs v).size+(bs (Lib.encodeRune rn)).size:=a_;have ag:=hid A;clear A hw0 p2 bi;go_wp2_with fail;refine aH (CE.out _) λw1 o=>?_;have am:=hid (HW.out.trans (o.mono hz));clear o;go_wp2;go_roundw
        case rel=>exact⟨i+N,g,v++Lib.encodeRune rn,by first | rw[jP] | (congr 1;exact(jP _ _)) | rfl,t_,a_,by rw[aZ];omega,a_,ag.out,am.out⟩
        case measure=>simp[RowKit.intOf];omega
      .rw[aI.2 h92] at bW;have bO: ¬l[i]'F=92:=by rw[<-Y];exact h92
       have a4:=nF (bs l) i;rw[aY] at a4;have ao:=Xz (l.drop (i+1)) (l[i]'F) bO (fP (bs l) i) (by rw[<-O,a4];unfold fP bU bN;rw[Bool.eq_iff_iff];simp;omega);rw[<-O,a4] at ao;have CG:=hid (λw=>wH (bs l) i w y a_);have CN:=hid (λw=>wG (bs l) i w y a_);have bp:=mJ (bs l) i y;have a5:(l[i]'F).toNat=((bs l)[i]'y).toNat:=(by rw[Y]);rw[a5] at ao;obtain⟨RU,a7⟩:=exQ<|bU (bs l) i;obtain⟨WD,aR⟩:=exQ<|bN (bs l) i;obtain⟨GB,bc⟩:=exQ<|fP (bs l) i;have e1:((Utf8.decode (bs l) i).1:Int)=RU:=a7;have e2:(Utf8.decode (bs l) i).2=WD:=aR;rw[e1,e2,bc] at ao;rw[bc] at CG;rw[a7,aR] at CN;rw[aR] at bp;obtain⟨bX,b6⟩:=ao;clear a4 a7 aR bc e1 e2 bO a5 O an Y V hne h92 ah;by_cases hb32:((bs l)[i]'y).toNat<32\/GB=false
       .have hP:=bX hb32;rw[hP,if_pos rfl] at A;have HF:=hid A;clear A hP bX b6;by_cases h3:(((bs l)[i]'y).toNat:Int)<32
        .exact ky
        .have:GB=false:=hb32.resolve_left a_;subst this;exact ky
       .have h3: ¬(((bs l)[i]'y).toNat:Int)<32:=a_;have cS:GB=true:=(by cases GB with | true=>rfl | false=>exact absurd (.inr rfl) hb32);subst cS;obtain⟨hP,cj⟩:=b6 a_ rfl;rw[hP] at A;simp only[] at A;rw[if_neg a_,gA,jO,cj] at A;have ag:=hid A;have a0:(bs l).extract i (i+WD)=bs ((l.drop i).take WD):=by
         apply ByteArray.ext;apply Array.ext';simp[bs,List.drop_take]
        have bT:=aP ((l.drop i).take WD);rw[bR,bC] at bT;have bq: ¬9223372036854775807<(bs v).size+(bs ((l.drop i).take WD)).size:=a_;clear hb32 A hP cj bX b6;go_wp2_with (go_at_call 91;refine(CG.out _).mono ?_;rintro e w' ⟨rfl,rfl⟩);refine(CN.out _).mono ?_;rintro e w' ⟨rfl,rfl⟩;go_wp2;go_roundw
        case rel=>exact⟨i+WD,g,v++(l.drop i).take WD,by congr 1<;>first | rw[a0,jP] | rw[a0] | rfl,t_,a_,by rw[aZ,bR,bC];omega,a_,ag.out,HW.out⟩
        case measure=>simp[RowKit.intOf];omega
   .have A:=HG.out;rw[List.drop_of_length_le a_] at A;have HF:=hid (show ([],(i:Int),2)=R from A);obtain rfl:i=l.length:=a_;clear A HG;go_wp2;go_ret3;exact eu
 .rw[if_neg (λh=>h34 h.2)] at hR;subst hR;by_cases cR:a<l.length
  .have aj:a<(bs l).size:=a_;have t1:((((bs l)[a]'aj).toNat:Int) !=34)=true:=by
    rw[eN];intro h;first|have _:=R6;apply h34;rw[cT l a aj];have:((bs l)[a]'aj)=34:=UInt8.toNat_inj.1 (by show _=34;omega);rw[this]|refine h34 ?_;rw[cT l a aj];congr 1;exact UInt8.toNat_inj.1 (by have:((34:UInt8).toNat)=34:=rfl;omega)
   clear h34;go_in;go_wp2;go_ret3;exact ab
  .first|have _:=R7;obtain rfl:a=l.length:=by omega|skip
   clear h34;go_in;go_wp2;go_ret3;exact ab):P:=h
theorem ID(h:P:=by
 induction u using Nat.strongRecOn with
 | _ u ih=>
  first
  |have _:=MD;intro w hu
  |intro w h1 hu;obtain⟨N,hN⟩:=exQ<|-(u:Int);have hn0:N<0:=a_;rw[hN]
  by_cases h:u<10
  .first
   |have _:=MD;rw[Op u h,<-vI u h]
   |rw[Op u h,<-uW,<-vI u h];have k1: -N=(u:Int):=a_;have cv: -10<N:=a_;have w1:IntKind.i64.wrap (-N)= -N:=IntWalk.i64_in _ a_;have K1:=hid k1;have t1:(-N).toNat=u:=a_;have t2:(-N+1).toNat=u+1:=a_;have a0: ∀wx,(Instr.slice 9 (.string ⟨#[48,49,50,51,52,53,54,55,56,57]⟩) (some (.int .i64 (-N))) (some (.int .i64 (-N+1))) none).run prog wx= .ok (.string ((⟨#[48,49,50,51,52,53,54,55,56,57]⟩:ByteArray).extract u (u+1))) wx:=λwx=>by
     have:=run_slice_string (P:=prog) wx 9 ⟨#[48,49,50,51,52,53,54,55,56,57]⟩ .i64 .i64 (-N) (-N+1) underlying9 a_ a_ (by show -N+1<=((10:Nat):Int);omega);rw[t1,t2] at this;exact this
    have sE:((⟨#[48,49,50,51,52,53,54,55,56,57]⟩:ByteArray).extract u (u+1)).size=1:=by rw[vI u h,aP];rfl
    generalize (⟨#[48,49,50,51,52,53,54,55,56,57]⟩:ByteArray).extract u (u+1)=E at *;clear hN k1 t1 t2 ih
   exact DX
  .first|have _:=MD;rw[Oq u a_,<-jP,<-vI (u % 10) a_]|rw[Oq u a_,show (45:UInt8)::(Lib.decDigits (u / 10)++ [UInt8.ofNat (48+u % 10)])=(45::Lib.decDigits (u / 10))++ [UInt8.ofNat (48+u % 10)] from rfl,<-jP,<-vI (u % 10) a_]
   have bw:=ih (u / 10) a_;clear ih
   first
   |have _:=MD;have k1:(u:Int).tdiv 10=((u / 10:Nat):Int):=by rw[Int.tdiv_eq_ediv_of_nonneg a_];omega
    have k2:(u:Int) / 10=((u / 10:Nat):Int):=a_;have k3:(u:Int).tmod 10=((u % 10:Nat):Int):=by rw[Int.tmod_eq_emod_of_nonneg a_];omega
    have k4:(u:Int) % 10=((u % 10:Nat):Int):=a_
   |have k1:N.tdiv 10= -((u / 10:Nat):Int):=by rw[<-hN,Int.neg_tdiv,Int.tdiv_eq_ediv_of_nonneg a_];omega
    have k3:N.tmod 10= -((u % 10:Nat):Int):=by rw[<-hN,Int.neg_tmod,Int.tmod_eq_emod_of_nonneg a_];omega
   have hm:u % 10<10:=a_
   first
   |have _:=MD;have V:u / 10<=922337203685477580:=a_
   |have V:u / 10<=922337203685477580/\1<=u / 10:=a_
    have cv: ¬ -10<N:=a_
   generalize u / 10=q at *;generalize u % 10=m at *
   first
   |have _:=MD;have w1:IntKind.i64.wrap (q:Int)=q:=IntWalk.i64_in _ a_;have w2:IntKind.i64.wrap (m:Int)=m:=IntWalk.i64_in _ a_;have w3:IntKind.i64.wrap ((m:Int)+1)=(m:Int)+1:=IntWalk.i64_in _ a_;have t1:((m:Int)+1).toNat=m+1:=a_;have IH:=hid (λw=>bw w a_);have a0: ∀wx,(Instr.slice 9 (.string ⟨#[48,49,50,51,52,53,54,55,56,57]⟩) (some (.int .i64 (m:Int))) (some (.int .i64 ((m:Int)+1))) none).run prog wx= .ok (.string ((⟨#[48,49,50,51,52,53,54,55,56,57]⟩:ByteArray).extract m (m+1))) wx:=λwx=>by
     have:=run_slice_string (P:=prog) wx 9 ⟨#[48,49,50,51,52,53,54,55,56,57]⟩ .i64 .i64 (m:Int) ((m:Int)+1) underlying9 a_ a_ (by show (m:Int)+1<=((10:Nat):Int);omega);simpa using this
    clear bw
   |obtain⟨Q,hQ⟩:=exQ<|-(q:Int)
    obtain⟨M,hM⟩:=exQ<|-(m:Int);rw[hQ] at k1;rw[hM] at k3;have w1:IntKind.i64.wrap Q=Q:=IntWalk.i64_in _ a_;have w2:IntKind.i64.wrap M=M:=IntWalk.i64_in _ a_;have w3:IntKind.i64.wrap (-M)= -M:=IntWalk.i64_in _ a_;have w4:IntKind.i64.wrap (-M+1)= -M+1:=IntWalk.i64_in _ a_;have IH:Hid (∀w,Calls prog 127 #[Q] w (aT w (.string (bs (45::Lib.decDigits q))))):=
     hid (λw=>by rw[<-hQ];exact bw w V.2 a_)
    have a0: ∀wx,(Instr.slice 9 (.string ⟨#[48,49,50,51,52,53,54,55,56,57]⟩) (some (.int .i64 (-M))) (some (.int .i64 (-M+1))) none).run prog wx= .ok (.string ((⟨#[48,49,50,51,52,53,54,55,56,57]⟩:ByteArray).extract m (m+1))) wx:=λwx=>by
     have:=run_slice_string (P:=prog) wx 9 ⟨#[48,49,50,51,52,53,54,55,56,57]⟩ .i64 .i64 (-M) (-M+1) underlying9 a_ a_ (by show -M+1<=((10:Nat):Int);omega);rw[show (-M).toNat=m by omega,show (-M+1).toNat=m+1 by omega] at this;exact this
    clear bw hN hM hQ
   have hD:(Lib.decDigits q).length<=19:=Dn q 19 a_ b_;have sE:((⟨#[48,49,50,51,52,53,54,55,56,57]⟩:ByteArray).extract m (m+1)).size=1:=by rw[vI m hm,aP];rfl
   first|have _:=MF;have cB:(45::Lib.decDigits q).length=(Lib.decDigits q).length+1:=rfl|skip
   generalize (⟨#[48,49,50,51,52,53,54,55,56,57]⟩:ByteArray).extract m (m+1)=E at *;first|have _:=MD;generalize Lib.decDigits q=D at *;have sD:=aP D|generalize (45::Lib.decDigits q)=D at *;have sD:=aP D;have hD2:D.length<=20:=a_;clear cB hD
   have hn1: ¬9223372036854775806<D.length:=a_;have hn2: ¬9223372036854775807<D.length+1:=a_;have hn3: ¬9223372036854775807<(bs D).size+E.size:=a_;go_in;go_wp2;go_region_held3 (λw'=>Hid (aA w w')) ((first | exact(aD _ _).drew | exact aE (Hid.out m_) m_ | assumption))
    (first
    | (go_at_call 127;refine(IH.out _).mono ?_;rintro e w1 ⟨rfl,o⟩))
   all_goals rename_i hH
   all_goals go_wp2_with fail
   all_goals go_ret
   all_goals exact⟨rfl,hH.out⟩):P:=h
theorem G9(h:P:=by
 first
 |have _:=L0;obtain⟨R,hR⟩:=exQ<|pX T (n+1) ⟨3,x,y,n,0,0,x+n,x+n,0,0⟩
  have CR:Hid (∀W,bL W X ⟨3,x,y,n,0,0,x+n,x+n,0,0⟩->eQ W->dE W->nJ W->Calls prog 146 #[some X,bs T, .int .i64 ((n:Int)+1)] W λe w'=>(∃v,e= .returned v)/\bL w' X R/\mW X W w'):=hid (λW r o m p=>by have:=Fk T (n+1) X ⟨3,x,y,n,0,0,x+n,x+n,0,0⟩ W P (by have:=aP U;omega) r GU aa o m p;rw[hR] at this;rw[show ((n:Int)+1)=((n+1:Nat):Int) by omega];exact this)
 |have _:=L1;obtain⟨R,hR⟩:=exQ<|pX T (n+0) ⟨5,x,y,n,0,0,x+n,x+n,0,0⟩
  have CR:Hid (∀W,bL W X ⟨5,x,y,n,0,0,x+n,x+n,0,0⟩->eQ W->dE W->nJ W->Calls prog 146 #[some X,bs T,n] W λe w'=>(∃v,e= .returned v)/\bL w' X R/\mW X W w'):=hid (λW r o m p=>by have:=Fk T (n+0) X ⟨5,x,y,n,0,0,x+n,x+n,0,0⟩ W P (by have:=aP U;omega) r GU aa o m p;rw[hR] at this;rw[show (n:Int)=((n+0:Nat):Int) by omega];exact this)
 |obtain⟨R,hR⟩:=exQ<|pX T (n+(k+1)) ⟨4,x,y,n,x+n,x+n+k,x+n,x+n,0,0⟩
  have CR:Hid (∀W,bL W X ⟨4,x,y,n,x+n,x+n+k,x+n,x+n,0,0⟩->eQ W->dE W->nJ W->Calls prog 146 #[some X,bs T, .int .i64 ((n:Int)+((k:Int)+1))] W λe w'=>(∃v,e= .returned v)/\bL w' X R/\mW X W w'):=hid (λW r o m p=>by have:=Fk T (n+(k+1)) X ⟨4,x,y,n,x+n,x+n+k,x+n,x+n,0,0⟩ W P (by have:=aP U;omega) r GU aa o m p;rw[hR] at this;rw[show ((n:Int)+((k:Int)+1))=((n+(k+1):Nat):Int) by omega];exact this)
 have HR:=hid hR;clear hR;go_wp2_with fail
 first
 |have _:=L0;have t:=hid (aK (i.out.1.set A 0 (.int .i64 (3))) (show bL (w4.setCell ⟨X,0,none⟩ (.int .i64 (3))) X ⟨3,x,y,n,0,0,x+n,x+n,0,0⟩ from (fE i.out.2 0 (.int .i64 (3)))))
 |have _:=L1;have t:=hid (aK (i.out.1.set A 0 (.int .i64 (5))) (show bL (w4.setCell ⟨X,0,none⟩ (.int .i64 (5))) X ⟨5,x,y,n,0,0,x+n,x+n,0,0⟩ from (fE i.out.2 0 (.int .i64 (5)))))
 |have t:=hid (aK (((i.out.1.set A 0 (.int .i64 (4))).set A 4 (.int .i64 ((x:Int)+(n:Int)))).set A 5 (.int .i64 ((x:Int)+(n:Int)+(k:Int)))) (show bL (((w4.setCell ⟨X,0,none⟩ (.int .i64 (4))).setCell ⟨X,4,none⟩ (.int .i64 ((x:Int)+(n:Int)))).setCell ⟨X,5,none⟩ (.int .i64 ((x:Int)+(n:Int)+(k:Int)))) X ⟨4,x,y,n,x+n,x+n+k,x+n,x+n,0,0⟩ from (fE (fE (fE i.out.2 0 (.int .i64 (4))) 4 (.int .i64 ((x:Int)+(n:Int)))) 5 (.int .i64 ((x:Int)+(n:Int)+(k:Int))))))
 clear s0 s1 a0 a1 a2 a3 a4 a5 a6 a7 a8 a9 g0 g1 g2 g3 g4 g5 g6 g7 g8 g9 b0 b1 b2 b3 b4 b5 b6 b7 b8 b9 G r o m p E J I F K;refine(CR.out _ t.out.2 (HV.out.keep t.out.1.b) (HT.out.keep t.out.1.b) (HM.out.keep t.out.1.b)).mono ?_;rintro e w5 ⟨⟨v,rfl⟩,ad,ai⟩;have M:=hid (aK (t.out.1.only A ai) ad);clear ad ai;obtain⟨s0,s1⟩:=M.out.1.s.cells;obtain⟨a0,a1,a2,a3,a4,a5,a6,a7,a8,a9,g0,g1,g2,g3,g4,g5,g6,g7,g8,g9⟩:=M.out.2.cells;obtain⟨b0,b1,b2,b3,b4,b5,b6,b7,b8,b9,G,r,o,m,p,E,J,I,F,K⟩:=M.out.1.l.cells;go_wp2;go_region;obtain⟨W,C⟩:=exQ<|(dJ w5 (w.heap.size+1) R).drew;have L:=(cG.put (r2:=R) M.out.1).drew;rw[C] at L;have u:=hid L;clear L;dsimp only[dJ] at C;rw[C];clear C;clear s0 s1 a0 a1 a2 a3 a4 a5 a6 a7 a8 a9 g0 g1 g2 g3 g4 g5 g6 g7 g8 g9 b0 b1 b2 b3 b4 b5 b6 b7 b8 b9 G r o m p E J I F K;obtain⟨c0,c1,c2,c3,c4,c5,c6,c7,c8,c9,_⟩:=u.out.l.cells;go_wp2_with fail;refine bodyPost_ret (v:= .tuple #[eL R,y,(0:Int)]) ?_ rfl ⟨?_,u.out.b⟩
 .exact EK
 first
 |have _:=L0
  .rw[O.out];exact tS ((Bl U T n x y (3,0) D.out S.out ⟨3,x,y,n,0,0,x+n,x+n,0,0⟩ rfl).trans HR.out)
 |have _:=L1
  .rw[O.out];exact tS ((Bl U T n x y (5,0) D.out S.out ⟨5,x,y,n,0,0,x+n,x+n,0,0⟩ rfl).trans HR.out)
 |.rw[O.out]
   exact tS ((Bl U T n x y (4,k) D.out S.out ⟨4,x,y,n,x+n,x+n+k,x+n,x+n,0,0⟩ rfl).trans HR.out)):P:=h
theorem QE(h:P:=by
 obtain⟨x1,x2⟩:=hsp x (bH hx);have O:=(aW.1 hx).1;first|have _:=SS;have g:=yJ x1 x2;have L:(bs txt).extract x.1 x.2=bs (dL txt x):=by rw[gO,aY];rfl|skip
 obtain⟨t,s⟩:=exQ<|dL txt x
 first
 |have _:=SU;have g:=yJ x1 x2;have F:=jU t;rw[s] at g ⊢;have CB:Hid (∀w',aA w w'->Calls prog 107 #[some P, .agg #[x.1,x.2]] w' (aT w' (.string (bs t)))):=hid (λw' q=>by have:=Bs (x.1:Int) (x.2:Int) w' (h.keep q) a_ a_ a_ a_;rw[aAx,s] at this;exact this)
 |rw[s] at g L ⊢;have p:=jU t;have G:=pA t;have C:=pB t;obtain⟨nb,d⟩:=exQ<|bB t;rw[d] at p G C ⊢
 obtain⟨z,sv,lv,nv,_,o⟩:=h;obtain⟨gs,cs,rfl,v,s0,s1⟩:=o.spanAt hx;first|have _:=SU;obtain⟨⟨_,c1,_⟩,_⟩:=o.cells;have D:=o.lt;have st:=aP t|obtain⟨⟨c0,c1,_⟩,_⟩:=o.cells;have D:=o.lt;have sl:=aP txt;have stt:=aP t
 have hk0:(0:Int)<=(k:Int):=a_
 have hk1:(k:Int)<(sp.length:Int):=a_
 have htl2:t.length<=65536:=a_
 first
 |have _:=SU;obtain⟨nb,d⟩:=exQ<|bB t
  rw[d] at F ⊢;have CT:Hid (∀w,∃r:aB,r.length=t.length-nb/\Calls prog 29 #[bs t, .string ⟨#[32]⟩] w λe w'=>e= .returned (.string (bs r))/\w=w'):=hid (λw=>by rw[<-d];exact aAy t w);clear o hx hsp s g d x1 x2 hs v;go_in;go_wp2_with fail;refine aH (CB.out _ f_) λw2 a=>?_;have K:=hid (show aA w w2 from by first | exact a | exact aE (aD _ _).drew a);clear a;obtain⟨r,J,y⟩:=CT.out w2;have sr:=aP r;have CR:=hid y;clear y;go_wp2_with fail;refine CR.out.mono ?_;rintro e w3 ⟨rfl,rfl⟩;have e1:(t.length:Int)-(r.length:Int)=(nb:Int):=a_
  have hwr:IntKind.i64.wrap ((t.length:Int)-(r.length:Int))=(nb:Int):=by rw[e1,IntKind.wrap_i64];omega
  clear J;go_wp2;go_ret2;refine⟨?_,K.out⟩;simp[e1];rw[Bool.eq_iff_iff,beq_iff_eq,kB];omega
 |have hx12:(x.1:Int)<=(x.2:Int):=a_
  have hx2l:(x.2:Int)<=(txt.length:Int):=a_
  have M:=hid G;have N:=hid C;have H:=hid p;have Q:Hid (aA w w):=hid (aD _ _);clear o hx hsp s g d x1 x2 hs v G C p O;go_in;go_wp2;go_region;go_wp2;go_loopw [7] (λs7 wr=> ∃j:Nat,s7= .int .i64 (j:Int)/\j<=t.length/\Hid (j<=nb)/\Hid (aA w wr)) (λs7 _=>t.length-(RowKit.intOf s7).toNat)
  case atStart=>exact⟨0,rfl,cI _,hid (cI _),hid Q.out.drew⟩
  case round=>
   obtain⟨j,rfl,hj,E,m⟩:=hrel;have A: ∀(n:Nat),n=nb->Hid (Ending.returned (.tuple #[n, .bool ((n:Int)==(t.length:Int))])= .returned (.tuple #[nb,(decide (nb=t.length))])):=λn e=>hid (by subst e;rw[show ((n:Int)==(t.length:Int))=decide (n=t.length) by rw[Bool.eq_iff_iff,beq_iff_eq,kB];omega]);by_cases hlt:j<t.length
   .have i:j<(bs t).size:=a_;have l:=cT t j i;obtain⟨b,q⟩:=exQ<|(bs t)[j]'i;rw[q] at l;obtain⟨c,B⟩: ∃c:Int,(b.toNat:Int)=c:=⟨_,rfl⟩;have hge:(((bs t)[j]'i).toNat:Int)=c:=(by rw[q,B]);have dk:decide ((j:Int)<(t.length:Int))=true:=aQ a_;have hjz:(j:Int)<(t.length:Int):=a_;by_cases h32:c=32
    .have a:b=32:=by rw[<-UInt8.toNat_inj];show b.toNat=32;omega
     have I:Hid (j+1<=nb):=hid (by
      have:=E.out;by_cases e:j=nb
      .exact absurd (by rw[<-e,l,a]) N.out
      .omega)
     subst h32;clear a l q B A;go_wp2;go_roundw
     case rel=>exact⟨j+1,t_,a_,I,by first | exact m | exact hid m.out.drew⟩
     case measure=>simp[RowKit.intOf];omega
    .have f:j=nb:=by
      have:=E.out;by_cases e:j<nb
      .have e2:=M.out j e;rw[l] at e2;injection e2 with e2;exact absurd (by rw[<-B,e2];rfl) h32
      .omega
     have d32:(c==32)=false:=aI.2 h32;have u:=A j f;clear l q B h32 A f;exact oe
   .have f:j=nb:=by have:=E.out;have:=H.out;omega
    have dk:decide ((j:Int)<(t.length:Int))=false:=aJ a_;have u:=A j f;clear A f;exact oe):P:=h
theorem PZ(h:P:=by
 have ba:=aL w (.cells #[(0:Int),bs [],(),()] 36);have b:=jI.new w 0 [];obtain⟨W1,f⟩:=exQ<|w.alloc (.cells #[(0:Int),bs [],(),()] 36);rw[f] at ba b
 first|have _:=R8;have n:=hid ba;have i:=hid b;have p:=hid (hV.keep ba)|skip
 obtain⟨y0,y1,y2,y3,f0,f1,f2,f3⟩:=b.cells;have hW1':w.alloc (.cells #[(0:Int), .string ⟨#[]⟩,(),()] 36)=W1:=f
 first
 |first|have _:=R9|have _:=SC
  go_in
 |have C1:=hid (Vm 1 W1 a_ p.out.1.2);have C2:Hid (∀w',mU w'->Calls prog 34 #[.agg #[.bool (rI 1).neg,bs (rI 1).dig, .int .i64 (rI 1).exp]] w' (aT w' (.string (bs [49])))):=hid (λw' r=>by have:=Eh (rI 1) w' DQ r.1.2;rw[aCM] at this;exact this);unfold eK at C1;obtain⟨N,q⟩:=exQ<|rI 1;rw[q] at C1 C2;clear hV ba b f q;go_in;go_wp2_with fail;refine aH C1.out λw2 e=>?_;have j:=hid (i.out.keep e);have m:=hid (aE n.out e);have l:=hid (p.out.keep e);clear e y0 y1 y2 y3 f0 f1 f2 f3;go_wp2_with fail;refine aH (C2.out _ l.out) λw4 g=>?_;have h:=hid (j.out.keep g);have o:=hid (aE m.out g);clear g;obtain⟨y0,y1,y2,y3,f0,f1,f2,f3⟩:=h.out.cells
 go_wp2_with fail;clear y0 y1 y2 y3 f0 f1 f2 f3
 first
 |first|have _:=R9|have _:=SC
  have hP:=(b).put (k2:=4) (t2:=s);have d:=pV (k:=4) (t:=s) (ba) (aF w.heap.size);obtain⟨WF,c⟩:=exQ<|mV W1 w.heap.size 4 s
 |have hP:=(h.out).put (k2:=3) (t2:= [49]);have d:=pV (k:=3) (t:= [49]) (o.out) (aF w.heap.size);obtain⟨WF,c⟩:=exQ<|mV w4 w.heap.size 3 [49]
 rw[c] at hP d
 first
 |first|have _:=R9|have _:=SC
  have a:(((W1.setCell ⟨w.heap.size,0,none⟩ (.int .i64 4)).setCell ⟨w.heap.size,1,none⟩ (.string (bs s))).setCell ⟨w.heap.size,2,none⟩ (.slice none 0 0)).setCell ⟨w.heap.size,3,none⟩ (.slice none 0 0)=WF:=c
 |have a:(((w4.setCell ⟨w.heap.size,0,none⟩ (.int .i64 3)).setCell ⟨w.heap.size,1,none⟩ (.string (bs [49]))).setCell ⟨w.heap.size,2,none⟩ (.slice none 0 0)).setCell ⟨w.heap.size,3,none⟩ (.slice none 0 0)=WF:=c
 rw[a];obtain⟨d0,d1,d2,d3,_⟩:=hP.cells;clear c a
 first
 |first|have _:=R9|have _:=SC
  refine bodyPost_ret (v:= .agg #[(4:Int),bs s,(),()]) ?_ rfl ⟨rfl,d⟩
 |skip
 first|have _:=R9;simp[results,results18,go_sem,d0,d1,d2,d3]|have _:=SC;simp[results,results32,go_sem,d0,d1,d2,d3]|refine bodyPost_ret (v:= .agg #[(3:Int),bs [49],(),()]) ?_ rfl ⟨rfl,d⟩;simp[results,results16,go_sem,d0,d1,d2,d3]):P:=h
theorem PX(h:P:=by
 first
 |have:=R5;have O:(if V-(b.length:Int)+((D.length:Int)-((cW D).length:Int))< -1000000\/1000000<V-(b.length:Int)+((D.length:Int)-((cW D).length:Int)) then((cM,4):eJ×Int) else(⟨n,cW D,V-(b.length:Int)+((D.length:Int)-((cW D).length:Int))⟩,0))=R:=f8.out;rw[show V-(b.length:Int)+((D.length:Int)-((cW D).length:Int))=V-(b.length:Int)+(D.length:Int)-((cW D).length:Int) from by omega] at O
 |have O:(if -V-(b.length:Int)+((D.length:Int)-((cW D).length:Int))< -1000000\/1000000< -V-(b.length:Int)+((D.length:Int)-((cW D).length:Int)) then((cM,4):eJ×Int) else(⟨n,cW D, -V-(b.length:Int)+((D.length:Int)-((cW D).length:Int))⟩,0))=R:=f8.out;rw[show -V-(b.length:Int)+((D.length:Int)-((cW D).length:Int))= -V-(b.length:Int)+(D.length:Int)-((cW D).length:Int) from by omega] at O
 have et:=hid O;clear O;go_wp2_with (first | (go_at_call 29;go_must (refine(C2.out _).mono ?_);rintro e w' ⟨rfl,rfl⟩) | (go_at_call 99;go_must (refine(C3.out _).mono ?_);rintro e w' ⟨rfl,rfl⟩));refine(C4.out _ _).mono ?_;rw[aY,ea.out N];rintro e w4 ⟨rfl,ap⟩;have O:=et.out;clear et f8 ea C1 C2 C3 C4 HE gk fb eT fU cm;first|have:=R5;generalize V-(b.length:Int)+(D.length:Int)-((cW D).length:Int)=K at O ap ⊢|generalize -V-(b.length:Int)+(D.length:Int)-((cW D).length:Int)=K at O ap ⊢
 have HN:=hid ((ap.block wr.heap.size e_).trans (heap_alloc_new wr _));have gt:w.heap.size<wr.heap.size:=aG HO.out;have fh:=hid ((ap.block w.heap.size h_).trans ((Below.heap_alloc _ _ _ gt).trans HO.out));have dH:=hid ((HW.out.alloc (Nat.le_of_lt gt) _).trans (ap.mono h_));clear ap r0 r1 r2 g0 g1 g2 x0 x1 x2 x3 x4 f0 f1 f2 f3 f4;obtain⟨r0,r1,r2,g0,g1,g2⟩:=iS fh.out;obtain⟨m0,m1,m2,q0,q1,q2⟩:=iS HN.out;by_cases hk:K< -1000000\/1000000<K
 .rw[if_pos hk] at O;have I:=hid O;clear O;rw[aJ (λh=>h hk)];go_wp2_with fail;have hf:=iS (cA (cA (cA fh.out 0 (.bool false)) 1 (.string ⟨#[]⟩)) 2 (.int .i64 0));clear r0 r1 r2 g0 g1 g2;obtain⟨r0,r1,r2,g0,g1,g2⟩:=hf;refine bodyPost_ret (v:= .tuple #[eK cM,(4:Int)]) ?_ rfl ⟨by rw[<-I.out];rfl,?_⟩
  .exact EN
  .exact F8
 .rw[if_neg hk] at O;have I:=hid O;clear O;rw[aQ hk];go_wp2_with fail;have hf:=iS (cA (cA (cA fh.out 0 (.bool n)) 1 (.string (bs (cW D)))) 2 (.int .i64 K));clear r0 r1 r2 g0 g1 g2;obtain⟨r0,r1,r2,g0,g1,g2⟩:=hf;refine bodyPost_ret (v:= .tuple #[eK ⟨n,cW D,K⟩,(0:Int)]) ?_ rfl ⟨by rw[<-I.out];rfl,?_⟩
  .exact EN
  .exact F8):P:=h
theorem JC(h:P:=by
 first|have _:=NS;rw[fQ] at hr;have hdl:=h.lastNot hr.1 hi|have _:=NT;subst hfr|skip
 have g: ∀e∈eff,fY sl (cE v (some k) x) e=fY sl v e:=λe m=>qA hnd hk x (λe2=>hne (e2 ▸ m));have A: ∀e∈eff,bE d i e=d e:=λe m=>iQ (λe2=>hne (e2 ▸ m))
 first
 |first|have _:=NU|have _:=NT
  have l:bE d i (eff.getLastD 0)=d (eff.getLastD 0):=A _ (Ng hel)
 |skip
 first|have _:=NU;refine⟨λj u p f b=>?_,h.clo.step ho hall,λs=>h.st JN,λs t=>?_,?_⟩|have _:=NS;refine⟨λj u p f b=>?_,h.clo.step ho hall,λs=>hS (h.st hdl),λs t=>?_,?_⟩|skip
 first
 |first|have _:=NU|have _:=NS
  .by_cases hji:j=i
   .subst hji;rw[Bt hk];exact hx
   .rw[qA hnd hk x hji];rw[iQ hji] at b
    first
    |have _:=NU;exact h.cl j u p f b
    |rw[h.cl j u p f b];have H:D.contains (0+j)=false:=by
      cases hc:D.contains (0+j) with
      | false=>rfl
      | true=>
       rw[Nat.zero_add] at hc;have:=h.clo.reach _ _ _ (iN.1 hr.2 j F_) b;rw[hi] at this;cases this
     rw[<-yP D v0 0 j H,<-yP D vl 0 j H,hag]
  .rw[qA hnd hk x (Ne.symm hfr)];rw[iQ (Ne.symm hfr)] at t;first|have _:=NU;exact h.fb JN t|exact hF _ (h.fb hdl t)
 |refine⟨λj u p f b=>?_,h.clo.step ho hall,λs=>hS (h.st hdl),λs t=>by rw[Bt hk];exact hx,?_⟩
  .rw[qA hnd hk x f];rw[iQ f] at b;exact h.cl j u p f b
 .obtain⟨q,E,C,y⟩:=h.ph
  first
  |have _:=NS;have G:q<eff.length:=by
    refine Nat.lt_of_le_of_ne E (λe=>?_);have hpos:0<eff.length:=rS.2 hel;have I:eff[eff.length-1]?=some (eff.getLastD 0):=by
     rw[List.getLastD_eq_getLast?,List.getLast?_eq_getElem?,bI a_];rfl
    have:=(C (eff.length-1) _ I).2 a_;rw[hdl] at this;cases this
  |skip
  refine⟨q,E,λj e m=>?_,?_⟩
  .rw[A e (bH m)];exact C j e m
  first
  |have _:=NU
   .rw[Nh g (qA hnd hk x (Ne.symm hfr))];exact y
  |have _:=NS
   .rw[Nh g (qA hnd hk x (Ne.symm hfr))];exact hP _ _ G y
  |.have F:pH eff sl i (cE v (some k) x) q=pH eff sl i v q:=by
     cases q with
     | zero=>rfl
     | succ q=>
      rw[yM,yM];cases m:eff[q]? with
      | none=>rfl
      | some e=>
       simp only[];cases hs:gI sl e with
       | some z=>exact g e (bH m)
       | none=>
        have r:=iN.1 hsl e (bH m);rw[Bool.or_eq_true] at r;rcases r with r | r
        .exact FT
        .rw[hs] at r;cases r
    rw[F];exact hP _ _ y):P:=h
theorem H9(h:P:=by
 have sl:=aP l
 first
 |have:=MA;obtain⟨R,d⟩:=exQ<|gZ l k c
 |obtain⟨R,d⟩:=exQ<|gZ l k 58
 rw[d];unfold gZ at d;by_cases hlt:k<l.length
 .have f:k<(bs l).size:=a_
  have j:=Bi l k hlt f;first|have:=MA;have T1:=gJ ((bs l)[k]'f) c _ rfl|have T1:=gJ ((bs l)[k]'f) 58 58 rfl
  rw[bI hlt,<-j] at d;have d1:decide (k<l.length)=true:=aQ hlt;first|have:=MA;obtain⟨n,q⟩: ∃n:Int,(c.toNat:Int)=n:=⟨_,rfl⟩;rw[q] at T1 ⊢|skip
  obtain⟨x,s⟩:=exQ<|(bs l)[k]'f;rw[s] at T1 d;have F:(((bs l)[k]'f).toNat:Int)=(x.toNat:Int):=by rw[s]
  obtain⟨y,u⟩: ∃y:Int,(x.toNat:Int)=y:=⟨_,rfl⟩;rw[u] at T1 F;first|have:=MA;by_cases he:x=c|by_cases he:x=58
  .first|have:=MA;rw[show (x==c)=true from beq_iff_eq.2 he] at T1;rw[show (some x==some c)=true from by rw[he];exact beq_self_eq_true _,Bool.true_and] at d|rw[show (x==58)=true from beq_iff_eq.2 he] at T1;rw[show (some x==some 58)=true from by rw[he];exact beq_self_eq_true _,Bool.true_and] at d
   by_cases hl1:k+1=l.length
   .have t2:((k:Int)+1==(l.length:Int))=true:=beq_iff_eq.2 a_;rw[List.getElem?_eq_none a_] at d;have m:R=true:=by rw[<-d];rfl
    subst m;first|have:=MA;clear d j he s u q hl1|clear d j he s u hl1
    exact bj
   .have t2:((k:Int)+1==(l.length:Int))=false:=aI.2 a_;have C:k+1<l.length:=a_;have i:k+1<(bs l).size:=a_;have v:=Bi l (k+1) C i;have T2:=gJ ((bs l)[k+1]'i) 32 32 rfl;rw[bI C,<-v] at d;have m:((bs l)[k+1]'i==32)=R:=by rw[<-d];simp
    rw[m] at T2;first|have:=MA;clear d j v he s u q hl1 m|clear d j v he s u hl1 m
    exact bj
  .first|have:=MA;rw[show (x==c)=false from aI.2 he] at T1;rw[show (some x==some c)=false from aI.2 (λh=>he (bA h)),Bool.false_and] at d;subst d;clear j he s u q|rw[show (x==58)=false from aI.2 he] at T1;rw[show (some x==some 58)=false from aI.2 (λh=>he (bA h)),Bool.false_and] at d;subst d;clear j he s u
   exact bj
 .have d1:decide (k<l.length)=false:=aJ hlt;rw[List.getElem?_eq_none a_] at d;have G:R=false:=by rw[<-d];rfl
  subst G;clear d;exact bj):P:=h
theorem IR(h:P:=by
 have ba:=aL w (.cells #[(0:Int),bs [],(),()] 36);have e:=jI.new w 0 [];obtain⟨W1,h⟩:=exQ<|w.alloc (.cells #[(0:Int),bs [],(),()] 36);rw[h] at ba e;obtain⟨y0,y1,y2,y3,f0,f1,f2,f3⟩:=e.cells;have hW1':w.alloc (.cells #[(0:Int), .string ⟨#[]⟩,(),()] 36)=W1:=h;go_in;go_wp2_with fail;clear y0 y1 y2 y3 f0 f1 f2 f3
 first
 |have:=MY;have hP:=e.putv (k2:=5) (t2:= []) (kv:= .slice none 0 0) (iv:= .slice p n c);have f:=Pv (k:=5) (t:= []) (kv:= .slice none 0 0) (iv:= .slice p n c) ba (aF w.heap.size);obtain⟨WF,a⟩:=exQ<|xC W1 w.heap.size 5 [] (.slice none 0 0) (.slice p n c)
 |have hP:=e.putv (k2:=6) (t2:= []) (kv:= .slice q m d) (iv:= .slice p n c);have f:=Pv (k:=6) (t:= []) (kv:= .slice q m d) (iv:= .slice p n c) ba (aF w.heap.size);obtain⟨WF,a⟩:=exQ<|xC W1 w.heap.size 6 [] (.slice q m d) (.slice p n c)
 rw[a] at hP f;first|have:=MY;have b:(((W1.setCell ⟨w.heap.size,0,none⟩ (.int .i64 5)).setCell ⟨w.heap.size,1,none⟩ (.string ⟨#[]⟩)).setCell ⟨w.heap.size,2,none⟩ (.slice none 0 0)).setCell ⟨w.heap.size,3,none⟩ (.slice p n c)=WF:=a|have b:(((W1.setCell ⟨w.heap.size,0,none⟩ (.int .i64 6)).setCell ⟨w.heap.size,1,none⟩ (.string ⟨#[]⟩)).setCell ⟨w.heap.size,2,none⟩ (.slice q m d)).setCell ⟨w.heap.size,3,none⟩ (.slice p n c)=WF:=a
 rw[b];obtain⟨d0,d1,d2,d3⟩:=hP.cells;clear a b;first|have:=MY;refine bodyPost_ret (v:= .agg #[(5:Int), .string ⟨#[]⟩,(), .slice p n c]) ?_ rfl ⟨rfl,f⟩|refine bodyPost_ret (v:= .agg #[(6:Int), .string ⟨#[]⟩, .slice q m d, .slice p n c]) ?_ rfl ⟨rfl,f⟩
 have g:WF.cell? (w.heap.size,1)=some (.string ⟨#[]⟩):=d1;first|have:=MY;simp[results,results17,go_sem,d0,g,d2,d3]|simp[results,results15,go_sem,d0,g,d2,d3]):P:=h
theorem J3(h:P:=by
 first|have:=OV;have ic: ∀ty,(Instr.next (.pointer (some ⟨w1.heap.size+1,0,none⟩)) true ty).run prog wr= .ok (.tuple #[true,p, .int .i32 (bU S p)]) (wr.iterAt (w1.heap.size+1) S (p+bN S p)):=λty=>Lib.run_next_any_at wr _ S p ty HI.out ab|skip
 have eP:=fU.out p ab;first|have:=OV;obtain⟨e1,e2⟩:=Ki S p ab eP|skip
 have hb:=of_decide_eq_true eP;first|have:=OV;rw[e1,e2] at ic|skip
 have bQ:fA (S.data.toList.take (p+1))=10*fA (S.data.toList.take p)+(((S[p]'ab).toNat:Int)-48):=by rw[Aj S p ab,Dc]
 have b1:=cm.out p;have b2:=cm.out (p+1)
 first
 |have:=OV;have iI:=hid (Lib.iterAt_heap wr (w1.heap.size+1) S p (p+1) HI.out);have jv:=hid (Lib.below_iterAt HW.out (show w.heap.size<=w1.heap.size+1 by omega) S (p+1));have HM:=hid (iterPos_of HI.out);have fF:Hid ((wr.iterAt (w1.heap.size+1) S (p+1)).heap[w1.heap.size]?=some (.cells #[n,lo,bs a,bs b,bs c] 139 (0,0))):=by
   exact(Lib.iterAt_other wr _ _ S _ a_).trans HX.out
  have jD:Hid ((wr.iterAt (w1.heap.size+1) S (p+1)).heap[w.heap.size]?=some (.cells #[false, .string ⟨#[]⟩,(0:Int)] 80 (0,0))):=by
   exact(Lib.iterAt_other wr _ _ S _ a_).trans HO.out
  generalize fA (S.data.toList.take p)=V at *
 |generalize fA (S.data.toList.take p)=U at *
 have HS:=hid bQ;rw[bQ] at b2;first|have:=OV;clear e1 e2 eP bQ|clear eP bQ
 go_wp2;go_roundw
 first
 |have:=OV;case rel=>exact⟨p+1,a_,by rw[HS.out],iI.out,fF.out,jD.out,jv.out⟩
  case measure=>rw[iterPos_of iI.out,HM.out];omega
 |case rel=>exact⟨p+1,a_,t_,by rw[HS.out],trivial⟩
  case measure=>simp[RowKit.intOf];omega):P:=h
theorem QM(h:P:=by
 obtain⟨t1,t2,t3,t4⟩:=h.ty
 first
 |have:=S5;have c:=h.box_grown h.lnr (Ne.symm t2) hg;have b:=dP w1 P 2 lv';have e:gY (lines++ [r])=gY lines++rZ r:=by unfold gY;simp
  have g:=h.nod.grow h.lnr b_ b_ hg
 |have c:=h.box_grown h.nod.row (Ne.symm t3) hg;have b:=dP w1 P 3 nv';have g:=h.nod.push hx hr hg
 refine⟨?_,?_,?_,g.other c (Ne.symm t3) (Ne.symm t4) b,h.hB,h.ty,?_,λk o i=>?_⟩
 .simp[World.setCell,Array.getElem?_modify,c]
 .first|have:=S5;have d:=h.spr.kept hg (gW h.spr h.lnr b_)|have d:=h.spr.kept hg (gW h.spr h.nod.row b_)
  exact d.kept b (dG d c (Ne.symm t1))
 first
 |have:=S5
  .rw[e,aZ];exact hr.kept b (dG hr c (Ne.symm t2))
  .exact(h.bel.grown hg h.bel.size (λk i=>(World.ownsRow.lt h.lnr k i).1)).setCell (p:=⟨P,2,none⟩) h.hB lv'
 |.have d:=h.lnr.kept hg (gW h.lnr h.nod.row b_)
   exact d.kept b (dG d c (Ne.symm t2))
  .exact(h.bel.grown hg h.bel.size (λk i=>(World.ownsRow.lt h.nod.row k i).1)).setCell (p:=⟨P,3,none⟩) h.hB nv'
 .obtain⟨f1,f2,f3,f4,f5⟩:=h.fr k o i
  first
  |have:=S5;refine⟨?_,f2,Fo hat hH (aG f1) f3,f4,f5⟩;rw[eW w1 ⟨P,2,none⟩ lv' k f2];exact qU hg f1 f3
  |refine⟨?_,f2,f3,Fo hat hH (aG f1) f4,λy f=>?_⟩
   .rw[eW w1 ⟨P,3,none⟩ nv' k f2];exact qU hg f1 f4
   .rcases pO.1 f with f | f
    .exact f5 y f
    .rw[kT.1 f];exact λe=>by cases e):P:=h
theorem JJ(h:P:=by
 first|have:=N7;simp only[jZ,nU,c1,if_false,c2,c3,and_self,if_true];by_cases hn:n<3|simp only[jZ,nU,c1,if_false,c2,c3,c4,and_self,if_true];by_cases hn:n<4
 .rw[if_pos a_,if_pos hn]
 .rw[if_neg a_,if_neg hn];rw[Db _ _ _ _ b_,e2,e3];first|have:=N7;simp only[show (3:Int).toNat-1=2 from rfl,zI,kA,if_true];rw[if_neg (show ¬(3:Int)=2 by decide)];have a:=uD s (i+1);have b:=uD s (i+2)|simp only[show (4:Int).toNat-1=3 from rfl,zI,kA,if_true];rw[if_neg (show ¬(4:Int)=2 by decide),if_neg (show ¬(4:Int)=3 by decide)];have a:=uD s (i+1);have b:=uD s (i+2);have hb3:=uD s (i+3)
  generalize fH s (i+1)=b1 at *;generalize fH s (i+2)=b2 at *;first|have:=N8;generalize fH s (i+3)=b3 at *|skip
  by_cases h1:b1<128\/191<b1
  .simp only[if_pos h1]
  by_cases h2:b2<128\/191<b2
  .simp only[if_neg h1,if_pos h2]
  first
  |have:=N7;simp only[if_neg h1,if_neg h2];generalize hV:64*(64*(b0-224)+b1-128)+b2-128=V;by_cases hc:V<2048\/55296<=V/\V<57344
  |by_cases h3:b3<128\/191<b3
   .simp only[if_neg h1,if_neg h2,if_pos h3]
   simp only[if_neg h1,if_neg h2,if_neg h3];generalize hV:64*(64*(64*(b0-240)+b1-128)+b2-128)+b3-128=V;by_cases hc:V<65536\/1114111<V
  .rw[if_pos hc,if_pos];simp[pL];omega
  .rw[if_neg hc,if_neg];simp[pL];omega):P:=h
theorem IV(h:P:=by
 first|have:=M2;have aV:1<E.size:=by omega|have aV:2<E.size:=by omega
 have hb:=aO a_;simp only[Nat.reduceSub] at hb;first|have:=M2;have t1:((((⟨#[43,45,95]⟩:ByteArray)[1]' b_).toNat:Int) !=((E[1]'aV).toNat:Int))=true:=eN.2 (by show ((45:Nat):Int)≠_;omega);have CI:=hid (Ig (⟨#[43,45,95]⟩:ByteArray) 2 3 (E[1]'aV) a_)|have t1:((((⟨#[43,45,95]⟩:ByteArray)[2]' b_).toNat:Int) !=((E[2]'aV).toNat:Int))=true:=eN.2 (by show ((95:Nat):Int)≠_;omega);have CI:=hid (Ig (⟨#[43,45,95]⟩:ByteArray) 3 3 (E[2]'aV) a_)
 have hs3:(⟨#[43,45,95]⟩:ByteArray).size=3:=rfl;clear aO hn;go_wp2;first|have:=M2;go_loopw [9] (λs9 wr=>s9= .int .i64 1/\w=wr) (λ_ _=>0)|go_loopw [9] (λs9 wr=>s9= .int .i64 2/\w=wr) (λ_ _=>0)
 case atStart=>exact⟨rfl,rfl⟩
 case round=>
  obtain⟨rfl,rfl⟩:=hrel;go_wp2_with fail;go_step3;go_wp2;go_quiet (fail);go_wp2;go_quiet ((go_at_call 41;first | exact quiet_left (CI.out _) | exact If (CI.out _)));go_wp2_with fail;show bodyPost prog f121 (λe w'=>e=Ending.returned (Value.int IntKind.i64 (-1))/\aA w w') Exit.ret _ _;go_ret;exact⟨rfl,below_drewN (aD _ _) _⟩):P:=h
theorem IJ(h:P:=by
 have hle:=h.le;first|have:=MM;have sl:=aP txt|skip
 obtain⟨z,nv,_,lv,A,u,_⟩:=h;obtain⟨c0,c1,c2,c3,c4,c5,_⟩:=A.cells;have F:(0:Int)<=(k:Int):=a_
 have q:=hid (aD w.heap.size w);by_cases hk:k<L.length
 .obtain⟨t,i⟩: ∃t,L[k]?=some t:=⟨_,bI hk⟩;obtain⟨g,o,c,rfl,hc,k0,k1,k2,_⟩:=u.tok i;first|have:=MN;have e:dY (L.drop k)=t.kind:=by rw[xD i];rfl|have e:cH txt.length (L.drop k)=t.sf:=by rw[xD i];rfl
  rw[e];have d0:decide ((L.length:Int)<=(k:Int))=false:=aJ a_;have d1:decide (L.length<=k)=false:=aJ a_;have E:(k:Int)<(L.length:Int):=a_
  clear A u i e;go_in;go_wp2;go_region;go_wp2;go_region;go_wp2;go_ret;exact⟨rfl,q.out.drew.drew⟩
 .first|have:=MN;have e:dY (L.drop k)=0:=by rw[List.drop_of_length_le a_];rfl|have e:cH txt.length (L.drop k)=txt.length:=by rw[List.drop_of_length_le a_];rfl
  rw[e];obtain⟨p,c,rfl⟩:=u.slice;have d0:decide ((L.length:Int)<=(k:Int))=true:=aQ a_;have d1:decide (L.length<=k)=true:=aQ a_;clear A u e;go_in;exact gy):P:=h
theorem IK(h:P:=by
 first|have:=MO;have dk:decide (k<0)=true:=aQ h0|have dk:decide (k<0)=false:=aJ h0;have l:=hk.resolve_left h0;have dk2:decide ((nn:Int)<=k)=true:=aQ l
 clear hk;go_wp2_with fail;have b:(((W2.setCell ⟨R,0,none⟩ (.int .i64 0)).setCell ⟨R,1,none⟩ (.string ⟨#[]⟩)).setCell ⟨R,2,none⟩ (.slice none 0 0)).setCell ⟨R,3,none⟩ (.slice none 0 0)=bD W2 R (eE).kind (eE).text (.slice none 0 0) (.slice none 0 0):=rfl;rw[b];obtain⟨WR,i⟩:=exQ<|bD W2 R (eE).kind (eE).text (.slice none 0 0) (.slice none 0 0);have f:=m.out;rw[i] at f ⊢;clear b i r0 r1 r2 r3 f0 f1 f2 f3 d0 d1 d2;obtain⟨d0,d1,d2,d3,_⟩:=bK f.2.2;refine bodyPost_ret (v:= .tuple #[.agg #[(0:Int),bs [],(),()],false]) ?_ rfl ⟨rfl,f.2.1⟩;simp[results,results10,go_sem,d0,d1,d2,d3];exact bo):P:=h
theorem JL(h:P:=by
 obtain⟨rv,q,p,i,o⟩:=h;first|have:=OA;have b:=i.kids y (bH hy)|have b:=i.pcs y (bH hy)
 obtain⟨a1,a2⟩:=wB q p hg (λk j=>by obtain⟨f,r⟩:=lI b k j;exact⟨f,_,r,b_,b_⟩);have c:=i.row.kept hg (gW i.row b b_);obtain⟨f,a⟩:=lI c g rfl;first|have:=OA;obtain⟨b1,b2⟩:=wB a1 a2 (dP w1 g (n*7+5) kv) (λk j=>by have e:g=k:=bA j;subst e;exact⟨f,_,a,b_,b_⟩)|obtain⟨b1,b2⟩:=wB a1 a2 (dP w1 g (n*7+6) kv) (λk j=>by have e:g=k:=bA j;subst e;exact⟨f,_,a,b_,b_⟩)
 have m:B<=g:=(World.ownsRow.lt c g rfl).1;first|have:=OA;refine⟨⟨rv,?_,b2,i.kid hy hH hr hg hat,o⟩,(Fr.grown b b_ hg hB).trans (Fr.setM a b_ m)⟩|refine⟨⟨rv,?_,b2,i.pc hy hH hr hg hat,o⟩,(Fr.grown b b_ hg hB).trans (Fr.setM a b_ m)⟩
 rw[List.length_set];exact b1):P:=h
theorem JT(h:P:=by
 intro i
 induction i using Nat.strongRecOn with
 | _ i ih=>
  intro j;obtain⟨o,b⟩: ∃o,ops[i]?=some o:=⟨_,Array.getElem?_eq_getElem j⟩;cases hc:L.getD i false with
  | true=>rfl
  | false=>
   first|have:=OJ;have g:i∈Region.ready .any ops L:=mem_ready.2 ⟨by rw[aN,Array.getElem?_eq_getElem a_] at hc ⊢;simpa using hc,o,b,λe c f=>ih _ ((Dt h b).1 e c f) (by have:=(Dt h b).1 e c f;omega)⟩|have g:i∈Region.ready .any ops L:=mem_ready.2 ⟨by rw[aN,Array.getElem?_eq_getElem a_] at hc ⊢;simpa using hc,o,b,λe c f=>ih _ (Nc h b e c f) (by have:=Nc h b e c f;omega)⟩
   rw[hr] at g;cases g):P:=h
theorem I4(h:P:=by
 first|have:=NE;have hR:=da.out;rw[if_pos t2] at hR|have:=NF;have hR:=fa.out;rw[if_pos N] at hR|skip
 first
 |first|have:=NE|have:=NF
  have I:=hid hR;clear hR
 |skip
 first|have:=NF;rw[N] at bZ|skip
 go_wp2_with fail;have hf:=iS (cA (cA (cA av.out 0 (.bool false)) 1 (.string ⟨#[]⟩)) 2 (.int .i64 0));clear r0 r1 r2 g0 g1 g2;obtain⟨r0,r1,r2,g0,g1,g2⟩:=hf
 first
 |first|have:=NE|have:=NG
  refine bodyPost_ret (v:= .tuple #[eK cM,(4:Int)]) ?_ rfl ⟨by rw[<-I.out];rfl,?_⟩
 |refine bodyPost_ret (v:= .tuple #[eK cM,(0:Int)]) ?_ rfl ⟨by rw[<-I.out];rfl,?_⟩
 .exact EO
 .exact D4):P:=h
theorem D0(h:P:=by
 obtain⟨e0,e1,e2,aO,aR,aT⟩:=eA d;have aM:D≠P:=a_
 have bG:=hid b.bel;clear b K d d0 d1 d2 f0 f1 f2 c0 c1 c2 c3 c4 C B t A s HF;go_upto_region 19 with fail;go_region
 all_goals
  go_wp2_with fail
  try simp only[Exit.inBlock,Exit.then]
  refine bodyPost_ret (rA rfl _ _ rfl (u:= .string ⟨#[]⟩) (v:= .slice none 0 0) (x:= .slice none 0 0) ?_ ?_ ?_) rfl ?_
  .exact al
  .exact al
  .exact al
  .have j:w.heap.size<=w1.heap.size:=W.out.size;rw[<-T.out.1];refine⟨⟨#[]⟩,_,_,rfl,by rw[if_neg T.out.2],eP.nil _ _,?_⟩;exact p8):P:=h
theorem I0(h:P:=by
 have sl:=aP l;unfold lF;by_cases h:a<0\/(l.length:Int)<a
 .rw[if_pos h];rcases h with h | h
  all_goals exact OY
 .rw[if_neg h];have h1:0<=a:=a_
  have h2:a<=l.length:=a_
  first|have:=M8;have C:=In l a.toNat w hs a_ hV hT|have C:=Ma l a.toNat w hs a_
  rw[show ((a.toNat:Nat):Int)=a by omega] at C;obtain⟨R,hR⟩:=exQ<|cD l a;obtain⟨s,k,er⟩:=R;rw[hR] at C ⊢;have HC:=hid C
  first|have:=M8;clear C hR hV hT h|clear C hR h
  go_in;go_wp2_with fail;refine HC.out.mono ?_;unfold iF;rintro e w1 ⟨rfl,o⟩;exact bu):P:=h
theorem EW(h:P:=by
 subst hR;clear o cc
 first
 |have:=J6;by_cases hx34:x=34
  .subst hx34;clear ae aa V TQ;exact pw
  .have bk:(x==34)=false:=aI.2 hx34;have cJ:(x==39)=true:=by rw[bk] at TQ;simpa using TQ
   clear ae aa V TQ hx34;exact pw
 |rcases HQ with rfl | ⟨bk,rfl⟩
  all_goals
   go_in;go_wp2_with fail;(with_reducible refine(CQ.out _).mono ?_);rintro e w1 ⟨rfl,o⟩;have G:=hid o;clear o;go_wp2_with (go_at_call 101;refine(ak.out _).mono ?_;rintro e w' ⟨rfl,rfl⟩);go_ret2;exact bx):P:=h
theorem EX(h:P:=by
 clear ev io;have rc:W2.heap.size<=w5.heap.size:=bF cV.out.size (bF k7.out.size dY.out.size);go_wp2_with (first | (go_at_call 29;refine(CT.out _).mono ?_;rintro e w6 ⟨rfl,rfl⟩) | (at_builtin;go_must (refine sN rfl _ _ 33 rfl W2.heap.size 9 i0 _ 1 16 underlying33 du ds ee ei rfl b_ w5 u8 i (jG ((ts.take i).map (·.1))) rfl sO.out #[bs t] rfl rfl B_ a_ b_ rc ?_);intro v1 w7 qk zh pL rn wI));exact GA):P:=h
theorem GA(h:P:=by
 have C7:Hid (bZ W2.heap.size ((ts.take i1).map (·.1)) v1 w7):=hid (by rw[kJ.out];exact bZ.snoc (by rw[pJ.out];exact qk));have sI:Hid (aA W2 w7):=hid ((cV.out.trans ((k7.out.trans (dY.out.mono k7.out.size)).mono cV.out.size)).trans pL);go_roundw
 .exact⟨i1,by rw[<-bt],yw,by rw[ct],C7,sI⟩
 .exact aq):P:=h
theorem az(h:P:=by
 rintro e w7 hE;have HE:=hid (hE.less av.out);clear hE;cases Q with
 | bad a er=>
  obtain⟨⟨m,rfl⟩,ar⟩:=HE.out;have HF:=hid ar;clear ar HE;exact ay
 | ok nn sq=>
  obtain⟨rfl,ga⟩:=HE.out;have HF:=hid ga;clear ga HE;go_wp2;go_ret2;rw[<-cf.out];exact an):P:=h
theorem jr(h:P:=by
 go_wp2_with (first | (go_at_call 91;refine(CG.out _).mono ?_;rintro e w' ⟨rfl,rfl⟩) | (go_at_call 92;refine(CN.out _).mono ?_;rintro e w' ⟨rfl,rfl⟩));go_round
 case rel=>exact⟨p+WD,t_,a_,t.out⟩
 case measure=>simp[RowKit.intOf];omega):P:=h
theorem jy(h:P:=by
 intro j u f;rw[Array.getElem?_toList] at f;have e1:((⟨w.heap.size,0,none⟩:Addr).add j)=⟨w.heap.size,j,none⟩:=by unfold Addr.add;split<;>simp_all
 rw[e1,World.cell?_alloc_new];exact f):P:=h
theorem O7(h:P:=by
 clear ic gj xc hrb2;go_wp2_with fail;refine aH (CR.out _) λw7 dm=>?_;have rN:Hid (aA w6 w7):=hid EV;clear dm;go_wp2;go_ret2;rw[<-HF.out];exact⟨rfl,aE wl.out rN.out⟩):P:=h
theorem kg(h:P:=by
 go_wp2_with fail;(with_reducible refine(CD.out _ (HT.out.keep HW.out)).mono ?_);rintro e w1 ⟨rfl,o⟩;go_wp2;go_ret3;exact⟨by rw[<-HF.out];rfl,aE HW.out o⟩):P:=h
theorem p9(h:P:=by
 have hmf: ∀(fn:Fn) (first cap:Array Value) (w:World),(Instr.makeFunc fn first cap).run prog w= .ok (.func fn first cap) w:=λ_ _ _ _=>rfl;exact bj):P:=h
theorem kh(h:P:=by
 go_wp2;go_roundw
 case rel=>exact⟨j+1,t_,a_,E,by first | exact D | exact hid (below_drewN D.out _)⟩
 case measure=>simp[RowKit.intOf];omega):P:=h
theorem FG(h:P:=by
 have hd:tI l (uX l.length (JR.ok [] l2 ns)).1=l:=by
  rw[rJ] at ae;subst ae;cases ns with
  | nil=>simp at aV
  | cons y ys=>rfl
 rw[hd]):P:=h
theorem FA(h:P:=by
 go_wp2;go_meet;refine⟨Bz M_,bX.out.1,?_⟩;have h:=eB.out;simp only[Nat.reduceEqDiff,if_false] at h;rw[<-h.1,<-h.2];exact bX.out.2):P:=h
theorem FJ(h:P:=by
 cases hN:eX txt sp k st.lines with
 | ok m ls=>
  rw[hN] at b;exact⟨b.1,iL.toJ b.2 c⟩
 | bad a er=>
  rw[hN] at b;exact b):P:=h
theorem lf(h:P:=by
 go_simp;exact I undef _ (G.ef 2 aj ha hi (.inr ⟨7,rfl,ad⟩) (λ_ _ _=>trivial) (λh=>absurd rfl h) ⟨_,_,dC,rfl⟩)):P:=h
theorem FB(h:P:=by
 have nm:=G.g 6 62 c_;have Ci:=G.g 14 70 c_;have Bc:=G.g 16 72 c_;refine nO nm ?_;have dd:=v7;go_simp;exact I _ _ G.sp):P:=h
theorem dv(h:P:=by
 first|have:=QO;simp[results,results79,go_sem,d0,d1,d2,d3]|simp[results,results56,go_sem,d0,d1,d2,d3]):P:=h
theorem lr(h:P:=by
 rcases Nat.eq_zero_or_pos d.size with h | h
 .exact absurd (List.eq_nil_of_length_eq_zero a_) this
 .exact h):P:=h
theorem lw(h:P:=by
 exact I _ _ (G.sc ⟨aE hb ag,λv hv=>by obtain⟨kv,iv,h1,h2⟩:=ad v hv;exact⟨kv,iv,h1,h2.keep ag⟩⟩)):P:=h
theorem mh(h:P:=by
 (with_reducible refine(CS.out _ HT.out).mono ?_);rintro e w1 ⟨rfl,o⟩
 go_wp2;go_ret;exact⟨rfl,o⟩):P:=h
theorem FP(h:P:=by
 repeat (first | refine jA ?_ (aF _) | refine Below.drew ?_)
 first|have:=wm;exact K.out|exact aa.out):P:=h
theorem me(h:P:=by
 exact I _ _ (G.qu aj ha hi (λ_=>am.out _ (aE hA ag)) (λk c _ hp=>hp.keep ag) (λx hx=>hx.keep ag))):P:=h
theorem FQ(h:P:=by
 obtain⟨x',post',i1,i2,i3,i4,i5,i6,i7⟩:=Dl hV _ hm h;exact⟨x',post',i1,i2,i3,i4,a_,a_,i7⟩):P:=h
theorem lm(h:P:=by
 go_round
 case rel=>exact⟨k+1,g,t_,a_,a_,a_,ag.out⟩
 case measure=>simp[RowKit.intOf];omega):P:=h
theorem mu(h:P:=by
 obtain⟨z,sv,lvv,nv,hz,hK⟩:=ex.out.keep lD;rw[iw];exact⟨z,sv,lvv,nv,hz,hK.count t2⟩):P:=h
theorem mw(h:P:=by
 go_wp2;go_meet;exact⟨_,by first | exact ji | exact hid (ji.out.keep (aD _ _).drew)⟩):P:=h
theorem iw(h:P:=by
 go_wp2_with (go_at_call 91;refine(CG.out _).mono ?_;rintro e w' ⟨rfl,rfl⟩);exact aa):P:=h
theorem p8(h:P:=by
 exact(((((W.out.trans (bG.out.mono j)).setCell v_ _).setCell v_ _).setCell v_ _)).drew):P:=h
theorem mv(h:P:=by
 have aq:=hid (aE G.out J);clear J;go_wp2;go_ret2;exact⟨by rw[HX.out];rfl,aq.out⟩):P:=h
theorem nw(h:P:=by
 cases hc:d 19 with
 | false=>rfl
 | true=>have:=h.up2 hc;rw[h16] at this;cases this):P:=h
theorem oj(h:P:=by
 have HF:=hid hj;clear hj;go_wp2;go_ret2;rw[<-HR.out];exact⟨rfl,HF.out.bad⟩):P:=h
theorem np(h:P:=by
 clear A hn hc an Y O av aX;go_wp2;go_ret3;exact⟨by rw[<-HF.out];rfl,rfl⟩):P:=h
theorem F5(h:P:=by
 have W:=HZ.out;rw[<-dN.out,iN] at W;exact W _ (Array.getElem_mem_toList _)):P:=h
theorem na(h:P:=by
 injection h with p o;subst p o;exact⟨b.rst.1,by have:=b.rst;omega,b_⟩):P:=h
theorem qm(h:P:=by
 rcases fh.2 with⟨h0,h1⟩ | ⟨g,cap,ec,h1,_⟩
 .exact bi
 .exact bn):P:=h
theorem DV(h:P:=by
 simp[results,results36,go_sem,eL,bG,c0,c1,c2,c3,c4,c5,c6,c7,c8,c9]):P:=h
theorem oy(h:P:=by
 go_wp2;go_ret3;exact⟨by rw[<-HF.out];rfl,HW.out.trans (o.mono hz)⟩):P:=h
theorem pf(h:P:=by
 rcases u with rfl|rfl
 · exact .inl rfl
 · exact .inr ⟨rfl,rfl⟩):P:=h
theorem my(h:P:=by
 go_wp2;go_roundw
 .exact⟨nx,p2,n2,c9,rfl,rfl,h7,rH⟩
 .exact aq):P:=h
theorem mr(h:P:=by
 unfold Lib.encodeRuneZ;rw[if_neg a_,if_neg a_,if_neg a_,if_pos a_]):P:=h
theorem pm(h:P:=by
 have:=c8.out;simp only[I,bK,if_true,if_false] at this;exact this):P:=h
theorem OZ(h:P:=by
 go_in;go_wp2_with fail;refine aH HC.out λw1 o=>?_;exact bu):P:=h
theorem O0(h:P:=by
 go_in;go_wp2_with fail;refine aH C1.out λw1 o=>?_;exact ax):P:=h
theorem F7(h:P:=by
 exact As (((f.out.setCell e_ _).setCell e_ _).drew) _ rfl):P:=h
theorem ej(h:P:=by
 go_in;go_wp2;go_ret3;first|have _:=KD;exact ab|exact bo):P:=h
theorem k_(h:P:=by first | exact cm.out | exact cm.out.keep (aD _ _).drew):P:=h
theorem E7(h:P:=by first | exact dI.out | exact dI.out.keep (aD _ _).drew):P:=h
theorem H'(h:P:=by first | exact aS.out | exact aS.out.keep (aD _ _).drew):P:=h
theorem GM(h:P:=by first | exact dA.out | exact dA.out.keep (aD _ _).drew):P:=h
theorem cj(h:P:=by
 simp[results,results98,go_sem,a0,a1,a2,a3,a4]):P:=h
theorem EP(h:P:=by
 subst c;go_in;go_wp2;go_ret;exact⟨rfl,aL _ _⟩):P:=h
theorem ez(h:P:=by
 simp[results,results31,go_sem,d0,d1,d2,d3]):P:=h
theorem GO(h:P:=by unfold fO;rw[if_pos jA.out,kJ.out,lJ];exact fH):P:=h
theorem GP(h:P:=by cases r with | nil=>simp at h | cons _ _=>simp):P:=h
theorem ii(h:P:=by
 injection h with h _;exact hV _ _ _ _ _ _ _ h):P:=h
theorem E3(h:P:=by first | exact bj | exact aE (aD _ _).drew bj):P:=h
theorem A'(h:P:=by have:s.data.toList.length=s.size:=rfl;omega):P:=h
theorem f_(h:P:=by first | exact aD _ _ | exact(aD _ _).drew):P:=h
theorem GV(h:P:=by first | exact jm.out | exact jm.out.drew):P:=h
theorem G1(h:P:=by rw[<-a6,<-hX];exact heap_alloc_new W2 _):P:=h
theorem ao(h:P:=by
 (try simp only[RowKit.intOf]);omega):P:=h
theorem ev(h:P:=by
 go_wp2;go_ret;exact⟨rfl,F.out⟩):P:=h
theorem GR(h:P:=by rw[<-HT.out.1,List.take_length]):P:=h
theorem bw(h:P:=by
 go_in;go_wp2;go_ret2;exact bo):P:=h
theorem OY(h:P:=by
 go_in;go_wp2;go_ret2;exact ab):P:=h
theorem DX(h:P:=by
 go_in;go_wp2;go_ret;exact ab):P:=h
theorem cy(h:P:=by
 go_wp2;go_ret;exact HE.out):P:=h
theorem D'(h:P:=by simp[World.setCell];omega):P:=h
theorem O_(h:P:=by intro e;injection e;omega):P:=h
theorem br(h:P:=by
 rw[e3,c] at a;cases a):P:=h
theorem v_(h:P:=by rw[O.out];exact aF _):P:=h
theorem B_(h:P:=by simp[Value.oneCell']):P:=h
theorem r_(h:P:=by unfold maxLen;omega):P:=h
theorem ar(h:P:=by
 simp[go_sem,d0,d1]):P:=h
theorem am(h:P:=by
 simp only[];omega):P:=h
theorem JB(h:P:=by exact_mod_cast e):P:=h
theorem JU(h:P:=by rw[e];exact hk):P:=h
theorem I3(h:P:=by simpa using d):P:=h
theorem M'(h:P:=by rw[aP];omega):P:=h
theorem d'(h:P:=by kernel_rfl):P:=h
theorem m_(h:P:=by assumption):P:=h
theorem t_(h:P:=by go_num):P:=h
end Go.Proofs.YtfhjncbdgjlcoaaGreatDoor
