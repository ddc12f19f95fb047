import Derived.Test.YtfhjncbdgjlcoaaGreatDoorYa37
set_option maxRecDepth 100000
set_option maxHeartbeats 8000000
set_option linter.unusedVariables false
set_option linter.unusedSimpArgs false
namespace Go.Proofs.YtfhjncbdgjlcoaaGreatDoor
open Go.RowKit
open Go.Lib hiding intOf
theorem lE.kid {ns:List bA}{lv k hi:Nat}{x:bA} (h:lE ns (lv+1) k hi) (hx:ns[k]?=some x): ∀q∈x.kids,(∃m,lE ns lv q m)/\q<ns.length:=by
 obtain⟨x',c,f⟩:=h;rw[hx] at c;obtain rfl:=aV c;have d: ∀(l:List Nat) (a:Nat),gY (lE ns lv) l a hi-> ∀q∈l,∃m,lE ns lv q m:=by
  intro l
  induction l with
  | nil=>intro a _ q b;cases b
  | cons y l ih=>
   intro a h q b;obtain⟨rfl,m,g,j⟩:=h;rcases fY.1 b with rfl | b
   ·exact⟨m,g⟩
   ·exact ih m j q b
 intro q b;obtain⟨m,e⟩:=d _ _ f q b;refine⟨⟨m,e⟩,?_⟩;cases lv with
 | zero=>exact e.elim
 | succ lv=>obtain⟨y,i,_⟩:=e;exact(aR.1 i).1
def iN (s:aA) (ns:List bA) (kd:Nat) (l:List Nat):List aA:=if kd=3 then l.map (rK s ns) else []
theorem Op (s:aA) (ns:List bA) (kd:Nat):iN s ns kd []= []:=by unfold iN;split<;>rfl
def Bw (s:aA) (d:gD) (lv:Nat):Prop:= ∀(B:Nat) (lvv nv:Value) (k m:Nat) (lev:Int) (w:World),lE d.nodes lv k m->Hid (lev=33-(lv:Int))->lv<=32->eD B d lvv nv w->bU w->
 Calls Tryz.prog 26 #[.agg #[bs s,lvv,nv],k,lev] w (mJ (bS s d lv k) w)
theorem aBO (s:aA) (d:gD) (hb:vA s d) (hi64: ∀l∈d.lines,l.ind<=1099511627776) (lv:Nat) (IH:Bw s d lv) (B:Nat) (lvv nv:Value) (k m:Nat) (lev:Int) (w:World) (hT:lE d.nodes (lv+1) k m) (hlev:Hid (lev=33-((lv+1:Nat):Int))) (hlv:lv+1<=32) (hD0:eD B d lvv nv w) (hV:bU w) (x:bA) (hx:d.nodes[k]?=some x) (hkd:x.kind=1):
  Calls Tryz.prog 26 #[.agg #[bs s,lvv,nv],k,lev] w (mJ (bS s d (lv+1) k) w):=by
 have xg:=trivial;exact qd
theorem aBP (s:aA) (d:gD) (hb:vA s d) (hi64: ∀l∈d.lines,l.ind<=1099511627776) (lv:Nat) (IH:Bw s d lv) (B:Nat) (lvv nv:Value) (k m:Nat) (lev:Int) (w:World) (hT:lE d.nodes (lv+1) k m) (hlev:Hid (lev=33-((lv+1:Nat):Int))) (hlv:lv+1<=32) (hD0:eD B d lvv nv w) (hV:bU w) (x:bA) (hx:d.nodes[k]?=some x) (hkd:x.kind=4):
  Calls Tryz.prog 26 #[.agg #[bs s,lvv,nv],k,lev] w (mJ (bS s d (lv+1) k) w):=by
 have xh:=trivial;exact qd
theorem aBQ (s:aA) (d:gD) (hb:vA s d) (hi64: ∀l∈d.lines,l.ind<=1099511627776) (lv:Nat) (IH:Bw s d lv) (B:Nat) (lvv nv:Value) (k m:Nat) (lev:Int) (w:World) (hT:lE d.nodes (lv+1) k m) (hlev:Hid (lev=33-((lv+1:Nat):Int))) (hlv:lv+1<=32) (hD0:eD B d lvv nv w) (hV:bU w) (x:bA) (hx:d.nodes[k]?=some x) (h1:x.kind≠1) (h4:x.kind≠4):
    Calls Tryz.prog 26 #[.agg #[bs s,lvv,nv],k,lev] w (mJ (bS s d (lv+1) k) w):=by
  have iu:=hx;obtain⟨z,hz,bz,dN⟩:=id hD0;obtain⟨y,hy⟩: ∃y,z[k]?=some y:=ma;have iw:y.1=x:=by
    rw[<-hz,dE,hy] at hx;exact aV hx
  obtain⟨gn,cn,dL,rfl,gZ,_,lF⟩:=dN.form (λe=>by rw[e] at hy;cases hy);obtain⟨pl,nl,cl,rfl⟩: ∃p n c,lvv= .slice p n c:=by
    rcases bz.2 with⟨h0,_⟩ | ⟨g,cap,dL,h1,_⟩
    · exact⟨none,0,0,h0⟩
    · exact⟨_,_,_,h1⟩
  have gE:=dN.kids y (bD hy);obtain⟨pk,ck,cc⟩: ∃p c,y.2= .slice p y.1.kids.length c:=ij;have wP:Hid (∀w',Below w.heap.size w w'-> ∀(j q:Nat),x.kids[j]?=some q-> ∃gk,pk=some ⟨gk,0,none⟩/\w'.cell? ⟨gk,j,none⟩=some (.int .i64 (q:Int))):=hid (λw' dt j q hj=>by
    have gY:=gE;rw[cc,iw] at gY;have yR:=(aR.1 hj).1;rcases gY.2 with⟨h0,h1⟩ | ⟨g,cap,dL,h1,_⟩
    · omega
    · injection h1 with e1;subst e1;refine⟨g,rfl,cM ?_ dt⟩;rw[World.ownsRow.cellAt gY _ a_];unfold dJ;rw[dE,hj];rfl)
  obtain⟨mk,eK⟩:=exQ<|y.1.kids.length;obtain⟨nz,ik⟩:=exQ<|z.length;have cH:z.length=d.nodes.length:=E3
  have ox:k<z.length:=(aR.1 hy).1;rw[ik] at hD0 ⊢;have gC:(0:Int)<=(k:Int):=a_
  have ge:(k:Int)<(nz:Int):=a_
  have kM:Hid (∀w',Below w.heap.size w w'-> ∀(q:Nat) (yq:bA),d.nodes[q]?=some yq->w'.cell? ⟨gn,q*9+4,none⟩=some (.int .i64 yq.kf)/\w'.cell? ⟨gn,q*9+5,none⟩=some (.int .i64 yq.kt)):=hid (λw' dt q yq Z=>by
    obtain⟨u,hu⟩: ∃u,z[q]?=some u:=by
      rw[<-hz,dE] at Z;cases hh:z[q]? with
      | none=>rw[hh] at Z;cases Z
      | some u=>exact⟨u,rfl⟩
    have rW:u.1=yq:=by
      rw[<-hz,dE,hu] at Z;exact aV Z
    have h4:=(dN.at_ hu 4 a_ rfl).1;have h5:=(dN.at_ hu 5 a_ rfl).1;rw[rW] at h4 h5;exact⟨cM h4 dt,cM h5 dt⟩)
  have HC:Hid (∀j u,j<9->(jX y)[j]?=some u->w.cell? ⟨gn,k*9+j,none⟩=some u):=hid (λj u hj hu=>(dN.at_ hy j hj hu).1);obtain⟨wU,uH,gT⟩:=hb.nd x (bD hx);rw[iw] at eK cc;rw[eK] at cc gT;obtain⟨W1,bo⟩:=exQ<|w.alloc (.cells #[bs s, .slice pl nl cl, .slice (some ⟨gn,0,none⟩) nz cn] 26);obtain⟨D,mw⟩:=exQ<|w.heap.size;have b1:Below w.heap.size w W1:=by rw[<-bo];exact aL _ _
  have h1:W1.heap[D]?=some (.cells #[bs s, .slice pl nl cl, .slice (some ⟨gn,0,none⟩) nz cn] 26):=by rw[<-bo,<-mw];exact heap_alloc_new w _
  obtain⟨W2,aY⟩:=exQ<|W1.alloc (.cells #[(0:Int), .string ⟨#[]⟩,(),()] 36);obtain⟨R,gA⟩:=exQ<|W1.heap.size;have b2:Below W1.heap.size W1 W2:=by rw[<-aY];exact aL _ _
  have h2:W2.heap[R]?=some (.cells #[(0:Int),bs [],(),()] 36):=by rw[<-aY,<-gA];exact heap_alloc_new W1 _
  obtain⟨W3,a6⟩:=exQ<|W2.alloc (.cells #[x.kind,x.ind,x.fr,x.til,x.kf,x.kt,x.rf,x.rt, .slice pk mk ck] 45);obtain⟨X,fd⟩:=exQ<|W2.heap.size;have b3:Below W2.heap.size W2 W3:=by rw[<-a6];exact aL _ _
  have h3:W3.heap[X]?=some (.cells #[x.kind,x.ind,x.fr,x.til,x.kf,x.kt,x.rf,x.rt, .slice pk mk ck] 45):=by rw[<-a6,<-fd];exact heap_alloc_new W2 _
  obtain⟨W4,du⟩:=exQ<|W3.alloc (.cells #[(5:Int), .string ⟨#[]⟩,(),()] 36);obtain⟨Y,k7⟩:=exQ<|W3.heap.size;have b4:Below W3.heap.size W3 W4:=by rw[<-du];exact aL _ _
  have h4:W4.heap[Y]?=some (.cells #[(5:Int),bs [],(),()] 36):=by rw[<-du,<-k7];exact heap_alloc_new W3 _
  have cU:=(b2.block D (aF h1)).trans h1;have fq:=(b3.block D (aF cU)).trans cU;have gc:=(b3.block R (aF h2)).trans h2;have a9:=hid (aC b1 b2);have bf:=hid (aC a9.out b3);have zu:=hid (aC bf.out b4);have eU:=hid b4;have H3:=hid (aK fq (aK gc h3));have H4:=hid h4;have bW:Hid (∀w',Below W3.heap.size W3 w'->(w'.cell? ⟨D,0,none⟩=some (.string (bs s))/\w'.cell? ⟨D,1,none⟩=some (.slice pl nl cl)/\w'.cell? ⟨D,2,none⟩=some (.slice (some ⟨gn,0,none⟩) nz cn))/\(w'.cell? ⟨X,0,none⟩=some (.int .i64 (x.kind:Int))/\w'.cell? ⟨X,6,none⟩=some (.int .i64 x.rf)/\w'.cell? ⟨X,7,none⟩=some (.int .i64 x.rt)/\w'.cell? ⟨X,8,none⟩=some (.slice pk mk ck))/\w'.heap[R]?=some (.cells #[(0:Int),bs [],(),()] 36)):=hid (λw' h=>by obtain⟨e0,e1,e2,_⟩:=eE ((h.block D (aF fq)).trans fq);obtain⟨f0,f1,f2,f3,f4,f5,f6,f7,f8⟩:=oJ ((h.block X (aF h3)).trans h3);exact⟨⟨e0,e1,e2⟩,⟨f0,f6,f7,f8⟩,(h.block R (aF gc)).trans gc⟩);have kL:R<W3.heap.size:=aF gc;have cb:W3.heap.size<=Y:=a_
  have pY:w.heap.size<=R:=by rw[<-gA];exact b1.size
  have qg:w.heap.size<=W3.heap.size:=bf.out.size;have mD:Hid (∀w',Below W3.heap.size W3 w'->eD B d (.slice pl nl cl) (.slice (some ⟨gn,0,none⟩) nz cn) w'):=hid (λw' h=>(hD0.keep bf.out).keep h);have pB:Hid (∀w',Below W3.heap.size W3 w'->bU w'):=hid (λw' h=>(hV.keep bf.out).keep h);have gx:Hid (∀(a b:Int) w',Calls Tryz.prog 28 #[.agg #[bs s, .slice pl nl cl, .slice (some ⟨gn,0,none⟩) nz cn], .agg #[a,b]] w' λe w2=>e= .returned (.string (bs (kG s a b)))/\Below w'.heap.size w' w2):=hid (λa b w'=>Bv s _ _ ⟨_,_,_,rfl⟩ ⟨_,_,_,rfl⟩ a b w' D9);have cX: ∀j u,j<9->(jX y)[j]?=some u->W2.cell? ⟨gn,k*9+j,none⟩=some u:=λj u hj hu=>by
    exact cM (HC.out j u hj hu) a9.out
  have y0:=cX 0 _ a_ rfl;have y1:=cX 1 _ a_ rfl;have y2:=cX 2 _ a_ rfl;have y3:=cX 3 _ a_ rfl;have y4:=cX 4 _ a_ rfl;have y5:=cX 5 _ a_ rfl;have y6:=cX 6 _ a_ rfl;have y7:=cX 7 _ a_ rfl;have y8:=cX 8 _ a_ rfl;rw[iw] at y0 y1 y2 y3 y4 y5 y6 y7;rw[cc] at y8;simp only[Nat.add_zero] at y0;have d2:W2.cell? ⟨D,2,none⟩=some (.slice (some ⟨gn,0,none⟩) nz cn):=(eE cU).2.2.1;have kP:=hid (aK eK gT);have gv:=hid (hT.kid iu);have fD:=hid (cH.symm.trans ik);have xD:=hlev.out;clear b1 b2 b3 b4 h1 h2 h3 h4 cU fq gc hz bz dN gE cc hx hy iw cH ox lF gZ cX eK ik hT hD0 hV;obtain⟨kd,kO⟩: ∃kd:Int,(if x.kind=3 then 6 else 5:Int)=kd:=⟨_,rfl⟩;obtain⟨xk,eY⟩: ∃xk:Int,(x.kind:Int)=xk:=⟨_,rfl⟩;have dm:bS s d (lv+1) k= .mk kd [] (iN s d.nodes x.kind x.kids) (x.kids.map (bS s d lv)):=by
    rw[<-kO];show bS s d (lv+1) k=_
    conv=>lhs;unfold bS
    rw[iu];simp only[];rw[if_neg h1,if_neg h4];rfl
  rw[dm];rw[eY] at a6 bW H3 y0;have k1:(xk==1)=false:=aE.2 a_;have k4:(xk==4)=false:=aE.2 a_;have ll:=hid (aK eY kO);have oM:Hid (∀w',Below W3.heap.size W3 w'-> ∀q∈x.kids,Calls Tryz.prog 26 #[.agg #[bs s, .slice pl nl cl, .slice (some ⟨gn,0,none⟩) nz cn],q,(lev+1:Int)] w' (mJ (bS s d lv q) w')):=hid (λw' dt q Z=>by obtain⟨⟨m',lK⟩,_⟩:=gv.out q Z;exact IH B _ _ q m' (lev+1) w' lK (hid (by have:=hlev.out;omega)) a_ (mD.out w' dt) (pB.out w' dt));have xv:Hid (CS W3 Y 5 [] [] [] (.slice none 0 0) (.slice none 0 0) W4):=hid (by have:=CS.start (aB W3.heap.size W3) 5 [];rw[k7] at this;rw[<-du];exact this);have ek:decide ((32:Int)<lev)=false:=aG a_;have iG:IntKind.i64.wrap (lev+1)=lev+1:=IntWalk.i64_in _ a_;have hDR3:D<W3.heap.size:=aF H3.out.1;have gT:=kP.out.2;have hmk0:(0:Int)<=(mk:Int):=a_
  clear dm kO eY h1 h4 iu IH xD;go_enter Tryz.func26,Tryz.ntmps26;go_upto_region 1 with fail;clear bo aY mw gA;go_upto_region 2 with fail;clear a6 fd y0 y1 y2 y3 y4 y5 y6 y7 y8 d2;have tg:=hid du;clear du;go_upto_region 3 with fail
  first | rw[tg.out] | skip
  clear k7;obtain⟨⟨e0,e1,e2⟩,⟨x0,x6,x7,x8⟩,hr⟩:=bW.out W4 eU.out;have kz:=aF H4.out;obtain⟨c0,c1,c2,c3,f0,f1,f2,f3⟩:=bJ H4.out;clear hr;obtain⟨W5,kj⟩: ∃W5,(W5=W4\/W5=W4.setCell ⟨Y,0,none⟩ (.int .i64 6))/\Hid (CS W3 Y kd [] [] [] (.slice none 0 0) (.slice none 0 0) W5)/\((xk==3)=true->W5=W4.setCell ⟨Y,0,none⟩ (.int .i64 6))/\((xk==3)=false->W5=W4):=by
    by_cases h3:xk=3
    · have zS:kd=6:=(by rw[<-ll.out.2,if_pos (by have:=ll.out.1;omega)]);refine⟨_, .inr rfl,hid ?_,λ_=>rfl,λe=>absurd h3 (aE.1 e)⟩;have h:=xv.out;refine⟨?_,bP.nil _ _,λe=>(by cases e),gB.nil _ _ _,h.bel.setCell (p:=⟨Y,0,none⟩) h.new_ _,h.new_⟩;rw[zS];exact rZ h.box 0 _
    · have AI:kd=5:=(by rw[<-ll.out.2,if_neg (by have:=ll.out.1;omega)]);exact⟨_, .inl rfl,by rw[AI];exact xv,λe=>absurd (eq_of_beq e) h3,λ_=>rfl⟩
  obtain⟨wZ,HC,qN,ra⟩:=kj;have xU: ∀(b:Bool),(xk==3)=b->Hid (CS W3 Y kd [] [] [] (.slice none 0 0) (.slice none 0 0) (if b then W4.setCell ⟨Y,0,none⟩ (.int .i64 6) else W4)):=λb bp=>by
    cases b with
    | true=>rw[if_pos rfl,<-qN bp];exact HC
    | false=>rw[if_neg e_,<-ra bp];exact HC
  clear wZ HC qN ra;obtain⟨b3,bI⟩:=exQ (xk==3);have oV:=xU b3 bI;have ec:=hid bI;clear xU;cases b3 with
  | false =>
    have we:=trivial;exact py
  | true=>exact py
theorem Oq (s:aA) (d:gD) (hb:vA s d) (hi64: ∀l∈d.lines,l.ind<=1099511627776): ∀lv,Bw s d lv
 | 0=>λ_ _ _ _ _ _ _ h=>h.elim
 | lv+1=>λB lvv nv k m lev w hT hlev hlv hD hV=>by
  obtain⟨x,hx⟩: ∃x,d.nodes[k]?=some x:=by obtain⟨x,hx,_⟩:=hT;exact⟨x,hx⟩
  have IH:=Oq s d hb hi64 lv;by_cases h1:x.kind=1
  ·exact aBO s d hb hi64 lv IH B lvv nv k m lev w hT hlev hlv hD hV x hx h1
  ·by_cases h4:x.kind=4
   ·exact aBP s d hb hi64 lv IH B lvv nv k m lev w hT hlev hlv hD hV x hx h4
   ·exact aBQ s d hb hi64 lv IH B lvv nv k m lev w hT hlev hlv hD hV x hx h1 h4
end Go.Proofs.YtfhjncbdgjlcoaaGreatDoor
