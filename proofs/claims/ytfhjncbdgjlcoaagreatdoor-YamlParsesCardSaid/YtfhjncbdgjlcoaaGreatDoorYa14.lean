import Derived.Test.YtfhjncbdgjlcoaaGreatDoorYa10
import Derived.Test.YtfhjncbdgjlcoaaGreatDoorYa13
set_option maxRecDepth 100000
set_option maxHeartbeats 4000000
set_option linter.unusedVariables false
set_option linter.unusedSimpArgs false
namespace Go.Proofs.YtfhjncbdgjlcoaaGreatDoor
open Go.RowKit Go.Maps Go.WideMaps
open Go.Lib hiding intOf
def bU (w:World):Prop:=lT w/\eB w
theorem bU.keep {w w':World} (h:bU w) (hb:Below w.heap.size w w'):bU w':=⟨h.1.keep hb,h.2.keep hb⟩
theorem bU.tabs {w:World} (h:bU w):cW w:=h.1.1.1
theorem Eb (txt:aA) (a b:Nat):sN (bs txt) (a:Int) (b:Int)=bs (fZ txt (a,b)):=by
 unfold sN fZ;simp only[];have sl:=aM txt;by_cases h:b<a\/txt.length<b
 ·rw[if_pos h,if_pos (by rcases h with h | h;exact .inr (.inl a_);exact .inr (.inr a_))];rfl
 ·rw[if_neg h,if_neg a_,fV,fV,gL,aQ,List.drop_take]
theorem vZ (txt:aA) (s:Sp):(fZ txt s).length<=txt.length:=by
 unfold fZ;split
 ·exact dY _
 ·rw[aU,bT];omega
theorem Lc (s:aA):(dP s).1.dig.length<=1000:=by
 by_cases he:(dP s).2=0
 ·exact Ea s he
 ·unfold dP at he ⊢;cases hl:kJ s with
  | none=>exact dY _
  | some x=>
   rw[hl] at he;simp only[] at he ⊢;obtain⟨q,a⟩:=exQ<|nN x;rw[a] at he ⊢;unfold nN at a;simp only[] at a
   (repeat' split at a)<;>subst a<;>first | exact dY _ | exact absurd rfl he
abbrev kX (W:World) (D:Nat) (txt:ByteArray) (p:Option Addr) (n c g k:Nat) (k1 k2:Int) (w:World):Prop:=
 (w.cell? ⟨D,0,none⟩=some (.string txt)/\w.cell? ⟨D,1,none⟩=some (.slice p n c)/\w.cell? ⟨g,k*7+3,none⟩=some (.int .i64 k1)/\w.cell? ⟨g,k*7+4,none⟩=some (.int .i64 k2))/\Hid (Below W.heap.size W w)
section
variable {W w w2:World}{D:Nat}{txt:ByteArray}{p:Option Addr}{n c g k:Nat}{k1 k2:Int}
theorem kX.bel (h:kX W D txt p n c g k k1 k2 w):Below W.heap.size W w:=h.2.out
theorem kX.step (h:kX W D txt p n c g k k1 k2 w) (hb:Below w.heap.size w w2):kX W D txt p n c g k k1 k2 w2:=by
 obtain⟨⟨a,e,b,d⟩,f⟩:=h;exact⟨⟨cM a hb,cM e hb,cM b hb,cM d hb⟩,hid (aC f.out hb)⟩
theorem kX.drew (h:kX W D txt p n c g k k1 k2 w):kX W D txt p n c g k k1 k2 w.drew:=h.step (aB _ _).drew
end
theorem Wn (txt:aA) (ns:List aH) (p:Option Addr) (c k:Nat) (x:aH) (w:World) (hx:ns[k]?=some x) (hn:qT w p ns) (hN:ns.length<=65536) (hs:txt.length<=1073741824) (hV:bU w):
  Calls Tryz.prog 155 #[.agg #[bs txt, .slice p ns.length c],k] w λe w'=>e= .returned (.string (bs (eN txt ns k)))/\Below w.heap.size w w':=by
 obtain⟨g,rfl,kv,pv,n0,n1,n2,n3,n4,n5,n6,_,_⟩:=hn k x hx;have q:=(aR.1 hx).1;obtain⟨D,l⟩:=exQ<|w.heap.size;obtain⟨W1,b⟩:=exQ<|w.alloc (.cells #[bs txt, .slice (some ⟨g,0,none⟩) ns.length c] 134);have a:Hid (Below w.heap.size w W1):=hid (by rw[<-b];exact aL _ _);have f:Hid (vU W1 D (bs txt) (some ⟨g,0,none⟩) ns.length c):=hid (by rw[<-b,<-l];exact vU.new w _ _ _ _);have m3:=cM n3 a.out;have m4:=cM n4 a.out;have d:eN txt ns k=(dR (fZ txt x.key)).1:=by unfold eN;rw[hx]
 rw[d];have i:Hid (∀w',Calls Tryz.prog 154 #[.agg #[bs txt, .slice (some ⟨g,0,none⟩) ns.length c], .agg #[x.key.1,x.key.2]] w' λe w2=>e= .returned (.string (bs (fZ txt x.key)))/\Below w'.heap.size w' w2):=hid (λw'=>by have:=Kk (bs txt) (.slice (some ⟨g,0,none⟩) ns.length c) rfl (x.key.1:Int) (x.key.2:Int) w';rw[Eb] at this;exact this);have hsl:=vZ txt x.key;have m:=hid (hV.keep a.out);have CU:Hid (∀w',Below W1.heap.size W1 w'->Calls Tryz.prog 112 #[bs (fZ txt x.key)] w' λe w2=>e=gP (dR (fZ txt x.key))/\Below w'.heap.size w' w2):=hid (λw' j=>yT _ w' a_ (m.out.keep j).2 (m.out.keep j).tabs);unfold gP at CU;obtain⟨⟨U,ua,ue⟩,h⟩:=exQ<|dR (fZ txt x.key);rw[h] at CU;rw[h];have hk0:(0:Int)<=(k:Int):=a_
 have hk1:(k:Int)<(ns.length:Int):=a_
 have c0:W1.cell? ⟨D,0,none⟩=some (.string (bs txt)):=by have:=f.out;unfold vU at this;simp[World.cell?,this]
 have c1:W1.cell? ⟨D,1,none⟩=some (.slice (some ⟨g,0,none⟩) ns.length c):=by have:=f.out;unfold vU at this;simp[World.cell?,this]
 have HS0:kX W1 D (bs txt) (some ⟨g,0,none⟩) ns.length c g k (x.key.1:Int) (x.key.2:Int) W1:=⟨⟨c0,c1,m3,m4⟩,hid (aB _ _)⟩;clear hn n0 n1 n2 n3 n4 n5 n6 hV h d hx q;go_enter Tryz.func155,Tryz.ntmps155;go_upto_region 1 with fail;clear b;go_region_held3 (λw'=>kX W1 D (bs txt) (some ⟨g,0,none⟩) ns.length c g k (x.key.1:Int) (x.key.2:Int) w') ((first | exact kX.drew l_ | exact kX.step l_ l_ | assumption))
  ((first
   | (go_at_call 154;(refine(i.out _).mono ?_);rintro e w5 ⟨rfl,hb5⟩)
   | (go_at_call 112;(refine(CU.out _ (kX.bel (by assumption:kX W1 D (bs txt) (some ⟨g,0,none⟩) ns.length c g k (x.key.1:Int) (x.key.2:Int) _))).mono ?_);rintro e w6 ⟨rfl,hb6⟩)))
 all_goals
  have o:Hid (Below w.heap.size w w6):=hid (aC a.out (kX.bel (by assumption:kX W1 D (bs txt) (some ⟨g,0,none⟩) ns.length c g k (x.key.1:Int) (x.key.2:Int) w6)));go_wp2_with fail;go_ret;exact⟨rfl,by first | exact o.out | (rw[<-l];exact o.out)⟩
theorem Wo (kd:Nat) (s:aA) (w:World) (hs:s.length<=1073741824) (hV:bU w):
  Calls Tryz.prog 153 #[kd,bs s] w λe w'=>e= .returned (.string (bs (nT kd s)))/\Below w.heap.size w w':=by
 unfold nT;by_cases h2:kd=2
 ·subst h2;rw[if_pos rfl];go_enter Tryz.func153,Tryz.ntmps153;exact bn
 have d2:((kd:Int)==2)=false:=aE.2 a_;rw[if_neg h2];by_cases h3:kd=3
 ·subst h3;rw[if_pos rfl];have CP:=hid (λw=>zS s w a_);have bX:=Lc s;obtain⟨P,hP⟩:=exQ<|dP s;rw[hP] at CP bX;rw[hP];obtain⟨n,er⟩:=P;simp only[] at bX ⊢;have HV:=hid hV;have CT:Hid (∀w',Below w.heap.size w w'->Calls Tryz.prog 34 #[.agg #[n.neg,bs n.dig,n.exp]] w' λe w2=>e= .returned (.string (bs (kB n)))/\Below w'.heap.size w' w2):=hid (λw' hb=>Dk n w' a_ (HV.out.keep hb).1.1.2);clear hV hP bX h2;go_enter Tryz.func153,Tryz.ntmps153;go_wp2_with fail;refine(CP.out _).mono ?_;unfold oU dV;rintro e w1 ⟨rfl,o⟩;have J:Below w.heap.size w (w1.alloc (.cells #[n.neg,bs n.dig,n.exp] 80)):=aC o (aL _ _);have aq:=hid J;clear o J;go_wp2_with fail;refine(CT.out _ aq.out).mono ?_;rintro e w3 ⟨rfl,aH⟩;have bS:=hid (aC aq.out aH);clear aH;go_wp2_with fail;go_ret;exact⟨rfl,bS.out⟩
 have d3:((kd:Int)==3)=false:=aE.2 a_;rw[if_neg h3];by_cases h4:kd=4
 ·subst h4;rw[if_pos rfl];have CU:=hid (yT s w a_ hV.2 hV.tabs);unfold gP at CU;obtain⟨⟨U,ua,ue⟩,hU⟩:=exQ<|dR s;rw[hU] at CU;rw[hU];clear hU hV;go_enter Tryz.func153,Tryz.ntmps153;go_wp2_with fail;refine CU.out.mono ?_;rintro e w1 ⟨rfl,o⟩;have G:=hid o;clear o;exact gr
 have d4:((kd:Int)==4)=false:=aE.2 a_;rw[if_neg h4];go_enter Tryz.func153,Tryz.ntmps153;exact bn
def xQ (W W0:World) (kd:Int) (sl tx:aA):Nat->Value->World->Prop
 | 0,_,w'=>Below W0.heap.size W0 w'
 | 1,c,w'=>c= .string (bs sl)/\Below W0.heap.size W0 w'
 | 2,c,w'=>c= .string (bs tx)/\Below W0.heap.size W0 w'
 | 3,c,w'=>c= .agg #[kd,bs tx,(),()]/\Below W0.heap.size W0 w'
 | _,c,w'=> ∃Y,c= .pointer (some ⟨Y,0,none⟩)/\CS W Y kd tx [] [] (.slice none 0 0) (.slice none 0 0) w'
theorem xQ.keep {W W0:World}{kd:Int}{sl tx:aA}{k:Nat}{c:Value}{w' w2:World} (h:xQ W W0 kd sl tx k c w') (hb:Below w'.heap.size w' w2):xQ W W0 kd sl tx k c w2:=by
 match k,h with
 | 0,h=>exact aC (show Below W0.heap.size W0 w' from h) hb
 | 1,h=>exact⟨h.1,aC h.2 hb⟩
 | 2,h=>exact⟨h.1,aC h.2 hb⟩
 | 3,h=>exact⟨h.1,aC h.2 hb⟩
 | k+4,⟨Y,h1,h2⟩=>exact⟨Y,h1,h2.keep hb⟩
theorem Ld {P:Nat->Nat->Prop} (hlt: ∀k m,P k m->k<m) {hi N:Nat}: ∀ {l:List Nat}{a:Nat},gY P l a hi->(∀k∈l,k<N)->a<=N->a+l.length<=N
 | [],a,_,_,h=>h
 | y::l,a,h,hm,_=>by
  obtain⟨rfl,m,h2,h3⟩:=h;have h4:=hlt _ _ h2;have h5:=hm y lN;cases l with
  | nil=>simp only[dS];omega
  | cons z l=>
   have h6:=hm z (List.mem_cons_of_mem _ lN);have h7:z=m:=h3.1;have:=Ld hlt h3 (λk b=>hm k (List.mem_cons_of_mem _ b)) a_;rw[bH];omega
theorem Le {ns:List aH}{lv k m:Nat}{x:aH} (hT:fF ns (lv+1) k m) (hx:ns[k]?=some x) (hN:ns.length<=65536):x.kids.length<=65536:=by
 have hk:=(aR.1 hx).1;have b:=λq (hq:q∈x.kids)=>(hT.kid hx hq).2;obtain⟨x',a,d⟩:=hT;rw[hx] at a;injection a with e;subst e;have:=Ld (λ_ _=>fF.lt) d b a_;omega
def fA (txt:aA) (ns:List aH) (kd:Nat) (l:List Nat):List aA:=if kd=6 then l.map (eN txt ns) else []
theorem Lf (txt:aA) (ns:List aH) (kd:Nat):fA txt ns kd []= []:=by unfold fA;split<;>rfl
def Ec (txt:aA) (ns:List aH) (p:Option Addr) (c:Nat) (lv:Nat):Prop:= ∀(k m:Nat) (lev:Int) (w:World),fF ns lv k m->Hid (lev=33-(lv:Int))->lv<=32->qT w p ns->bU w->
 Calls Tryz.prog 114 #[.agg #[bs txt, .slice p ns.length c],k,lev] w (mJ (bE txt ns lv k) w)
theorem mK {w:World}{X:Nat}{cs:Array Value}{t:TypeId} (h:w.heap[X]?=some (.cells cs t (0,0))) (i:Nat):w.cell? ⟨X,i,none⟩=cs[i]?:=by
 simp[World.cell?,h]
theorem Wp (txt:aA) (ns:List aH) (p:Option Addr) (c:Nat) (hN:ns.length<=65536) (hs:txt.length<=1073741824) (lv:Nat) (IH:Ec txt ns p c lv):Ec txt ns p c (lv+1):=by
 intro k m lev w hT hlev hlv hn hV;obtain⟨x,hx⟩: ∃x,ns[k]?=some x:=by obtain⟨x,hx,_⟩:=hT;exact⟨x,hx⟩
 have gv:=hid (λq (Z:q∈x.kids)=>hT.kid hx Z);obtain⟨g,hp,kv,pv,n0,n1,n2,n3,n4,n5,n6,n7,n8⟩:=hn k x hx;obtain⟨pq,cq,rfl,Z⟩:=n7;obtain⟨pz,cz,rfl,_⟩:=n8;have hk:=(aR.1 hx).1;have dm:bE txt ns (lv+1) k= .mk (x.kind:Int) (nT x.kind (fZ txt (x.sf,x.st))) (fA txt ns x.kind x.kids) (x.kids.map (bE txt ns lv)):=by rw[bE,hx];rfl
 rw[dm];have ks:=hp;subst hp;obtain⟨D,hD⟩:=exQ<|w.heap.size;obtain⟨W1,bo⟩:=exQ<|w.alloc (.cells #[bs txt, .slice (some ⟨g,0,none⟩) ns.length c] 134);obtain⟨R,G⟩:=exQ<|W1.heap.size;obtain⟨W2,aY⟩:=exQ<|W1.alloc (.cells #[(0:Int), .string ⟨#[]⟩,(),()] 36);obtain⟨X,hX⟩:=exQ<|W2.heap.size;obtain⟨W3,a6⟩:=exQ<|W2.alloc (.cells #[.int .i64 (x.kind:Int), .int .i64 (x.sf:Int), .int .i64 (x.st:Int), .int .i64 (x.key.1:Int), .int .i64 (x.key.2:Int), .slice pq x.kids.length cq, .slice pz x.pcs.length cz] 167);have lU:Below w.heap.size w W1:=by rw[<-bo];exact aL _ _
 have ex:Below W1.heap.size W1 W2:=by rw[<-aY];exact aL _ _
 have fy:Below W2.heap.size W2 W3:=by rw[<-a6];exact aL _ _
 have a9:=hid (aC lU ex);have bf:=hid (aC a9.out fy);have jd:W1.heap[D]?=some (.cells #[bs txt, .slice (some ⟨g,0,none⟩) ns.length c] 134):=by rw[<-bo,<-hD];exact heap_alloc_new w _
 have gf:=aF jd;have jO:Hid (W3.heap[D]?=some (.cells #[bs txt, .slice (some ⟨g,0,none⟩) ns.length c] 134)):=hid ((fy.block D (iX gf ex.size)).trans ((ex.block D gf).trans jd));have ka:W2.heap[R]?=some (.cells #[(0:Int),bs [],(),()] 36):=by rw[<-aY,<-G];exact heap_alloc_new W1 _
 have gj:Hid (W3.heap[R]?=some (.cells #[(0:Int),bs [],(),()] 36)):=hid ((fy.block R (aF ka)).trans ka);have ec:Hid (W3.heap[X]?=some (.cells #[.int .i64 (x.kind:Int), .int .i64 (x.sf:Int), .int .i64 (x.st:Int), .int .i64 (x.key.1:Int), .int .i64 (x.key.2:Int), .slice pq x.kids.length cq, .slice pz x.pcs.length cz] 167)):=hid EM;have pM:R<W3.heap.size:=aF gj.out;have HQ:Hid (∀(w':World),Below W3.heap.size W3 w'-> ∀(j q:Nat),x.kids[j]?=some q-> ∃gk,pq=some ⟨gk,0,none⟩/\w'.cell? ⟨gk,j,none⟩=some (.int .i64 (q:Int))):=hid (λw' hb j q hj=>by obtain⟨gk,e1,e2⟩:=Z j q hj;exact⟨gk,e1,cM (cM e2 bf.out) hb⟩);have nU:Hid (∀w',Below W3.heap.size W3 w'->qT w' (some ⟨g,0,none⟩) ns):=hid (λw' hb=>(hn.keep bf.out).keep hb);have HV:Hid (∀w',Below W3.heap.size W3 w'->bU w'):=hid (λw' hb=>(hV.keep bf.out).keep hb);have oM:Hid (∀w',Below W3.heap.size W3 w'-> ∀q∈x.kids,Calls Tryz.prog 114 #[.agg #[bs txt, .slice (some ⟨g,0,none⟩) ns.length c],q,(lev+1:Int)] w' (mJ (bE txt ns lv q) w')):=hid (λw' hb q Z=>by obtain⟨⟨m',lK⟩,_⟩:=gv.out q Z;exact IH q m' (lev+1) w' lK (hid (by rw[hlev.out];omega)) a_ (nU.out w' hb) (HV.out w' hb));have AO:Hid (∀w',Below W3.heap.size W3 w'-> ∀q∈x.kids,Calls Tryz.prog 155 #[.agg #[bs txt, .slice (some ⟨g,0,none⟩) ns.length c],q] w' λe w2=>e= .returned (.string (bs (eN txt ns q)))/\Below w'.heap.size w' w2):=hid (λw' hb q Z=>by obtain⟨_,uT⟩:=gv.out q Z;exact Wn txt ns _ c q _ w' (bC uT) (nU.out w' hb) hN hs (HV.out w' hb));obtain⟨sl,fc⟩:=exQ<|fZ txt (x.sf,x.st);have lL:=vZ txt (x.sf,x.st);rw[fc] at lL ⊢;have om:Hid (∀w',Calls Tryz.prog 154 #[.agg #[bs txt, .slice (some ⟨g,0,none⟩) ns.length c], .agg #[.int .i64 (x.sf:Int), .int .i64 (x.st:Int)]] w' λe w2=>e= .returned (.string (bs sl))/\Below w'.heap.size w' w2):=hid (λw'=>by have:=Kk (bs txt) (.slice (some ⟨g,0,none⟩) ns.length c) rfl (x.sf:Int) (x.st:Int) w';rw[Eb,fc] at this;exact this);obtain⟨tx,cV⟩:=exQ<|nT x.kind sl;rw[cV];have CT:Hid (∀w',Below W3.heap.size W3 w'->Calls Tryz.prog 153 #[.int .i64 (x.kind:Int),bs sl] w' λe w2=>e= .returned (.string (bs tx))/\Below w'.heap.size w' w2):=hid (λw' hb=>by have:=Wo x.kind sl w' a_ (HV.out w' hb);rw[cV] at this;exact this);have gC:(0:Int)<=(k:Int):=a_
 have ge:(k:Int)<(ns.length:Int):=a_
 have hl0:(-1:Int)<=lev/\lev<=32:=by have:=hlev.out;omega
 have ek:decide ((32:Int)<lev)=false:=aG a_;have iG:IntKind.i64.wrap (lev+1)=lev+1:=IntWalk.i64_in _ a_;have hkl:x.kids.length<=65536:=Le hT hx hN;have e0:W2.cell? ⟨g,k*7,none⟩=some (.int .i64 (x.kind:Int)):=cM n0 a9.out;have e1:W2.cell? ⟨g,k*7+1,none⟩=some (.int .i64 (x.sf:Int)):=cM n1 a9.out;have e2:W2.cell? ⟨g,k*7+2,none⟩=some (.int .i64 (x.st:Int)):=cM n2 a9.out;have e3:W2.cell? ⟨g,k*7+3,none⟩=some (.int .i64 (x.key.1:Int)):=cM n3 a9.out;have e4:W2.cell? ⟨g,k*7+4,none⟩=some (.int .i64 (x.key.2:Int)):=cM n4 a9.out;have e5:W2.cell? ⟨g,k*7+5,none⟩=some (.slice pq x.kids.length cq):=cM n5 a9.out;have e6:W2.cell? ⟨g,k*7+6,none⟩=some (.slice pz x.pcs.length cz):=cM n6 a9.out;have c1:W2.cell? ⟨D,1,none⟩=some (.slice (some ⟨g,0,none⟩) ns.length c):=by rw[mK ((ex.block D gf).trans jd) 1];rfl
 have AK:D<R:=by rw[<-G,<-hD,<-bo];simp
 obtain⟨kd,hkd⟩: ∃kd:Int,(x.kind:Int)=kd:=⟨_,rfl⟩;have lR:x.kind=6↔kd=6:=a_
 have H6:=hid lR;rw[hkd] at ec a6 CT e0 ⊢;clear hn n0 n1 n2 n3 n4 n5 n6 hV dm hx hk hT lU ex fy jd ka fc cV ks Z gf hkd lR IH;go_enter Tryz.func114,Tryz.ntmps114;go_upto_region 1 with fail;clear bo G;go_upto_region 2 with fail;obtain⟨W0,ai⟩:=exQ<|W3.drew;have rU:Below W3.heap.size W3 W0:=by rw[<-ai];exact(aB _ _).drew
 have tH:=hid rU;have bW:Hid (∀w',Below W3.heap.size W3 w'->(w'.cell? ⟨X,0,none⟩=some (.int .i64 kd)/\w'.cell? ⟨X,1,none⟩=some (.int .i64 (x.sf:Int))/\w'.cell? ⟨X,2,none⟩=some (.int .i64 (x.st:Int))/\w'.cell? ⟨X,5,none⟩=some (.slice pq x.kids.length cq))/\w'.cell? ⟨D,0,none⟩=some (.string (bs txt))/\w'.cell? ⟨D,1,none⟩=some (.slice (some ⟨g,0,none⟩) ns.length c)):=hid (λw' hb=>by have hx:=(hb.block X (aF ec.out)).trans ec.out;have hd:=(hb.block D (aF jO.out)).trans jO.out;exact⟨⟨by rw[mK hx];rfl,by rw[mK hx];rfl,by rw[mK hx];rfl,by rw[mK hx];rfl⟩,by rw[mK hd];rfl,by rw[mK hd];rfl⟩);obtain⟨SA,ah⟩: ∃S:World->Prop,(λw'=>((w'.cell? ⟨X,0,none⟩=some (.int .i64 kd)/\w'.cell? ⟨X,1,none⟩=some (.int .i64 (x.sf:Int))/\w'.cell? ⟨X,2,none⟩=some (.int .i64 (x.st:Int))/\w'.cell? ⟨D,0,none⟩=some (.string (bs txt))/\w'.cell? ⟨D,1,none⟩=some (.slice (some ⟨g,0,none⟩) ns.length c))/\W0.heap.size<=w'.heap.size))=S:=⟨_,rfl⟩;have ak:Hid (∀w',Below W0.heap.size W0 w'->SA w'):=hid (λw' hb=>by rw[<-ah];obtain⟨⟨a0,a1,a2,_⟩,a3,a4⟩:=bW.out w' (aC rU hb);exact⟨⟨a0,a1,a2,a3,a4⟩,hb.size⟩);have vS:Hid (∀w1 w2,SA w1->Below w1.heap.size w1 w2->SA w2):=hid (λw1 w2 h1 hb=>by rw[<-ah] at h1 ⊢;obtain⟨⟨a0,a1,a2,a3,a4⟩,a5⟩:=h1;exact⟨⟨cM a0 hb,cM a1 hb,cM a2 hb,cM a3 hb,cM a4 hb⟩,aZ a5 hb.size⟩);clear e0 e1 e2 e3 e4 e5 e6 c1;have i3:Tryz.prog.follows .mixedOrders=true:=d'
 refine zL i3 [16,17,18,19,20,21,22,23,24,25,8] [7,8,9,11] 10 (qY W0) 74 rfl d' d' d' (λiz=>match iz with | 0=> .pointer (some ⟨X,0,none⟩) | 1=> .int .i64 kd | 2=> .pointer (some ⟨X,0,none⟩) | 3=> .int .i64 kd | 4=> .agg #[bs txt, .slice (some ⟨g,0,none⟩) ns.length c] | 5=> .pointer (some ⟨X,1,none⟩) | 6=> .agg #[.int .i64 (x.sf:Int), .int .i64 (x.st:Int)] | _=>undef) SA (xQ W3 W0 kd sl tx) j_ i_ ?_ ?_
 ·intro d a w' iq o' ho hi E aa F R' G;have j7:iq<12:=(lI.1 ho).1;have q3:a.tmps[3]?.getD undef= .pointer (some ⟨D,0,none⟩):=by rw[<-aI];exact aa 3 b_
  have q7:a.tmps[7]?.getD undef= .pointer (some ⟨X,0,none⟩):=by rw[<-aI];exact aa 7 b_
  clear aa;have ha:=E;have ad:=ho;have cY:iq=0\/iq=1\/iq=2\/iq=3\/iq=4\/iq=5\/iq=6\/iq=7\/iq=8\/iq=9\/iq=10\/iq=11:=a_
  clear j7;rcases cY with rfl|rfl|rfl|rfl|rfl|rfl|rfl|rfl|rfl|rfl|rfl|rfl<;>simp only[dA,cR,bZ,cG] at ho<;>subst ho
  ·exact af
  ·have DM:=trivial;exact vk
  ·exact af
  ·have DN:=trivial;exact vk
  ·have L:=F.early (f:=12) (i:=4) d' hi;rw[<-ah] at L;obtain⟨⟨s0,s1,s2,s3,s4⟩,_⟩:=L;exact af
  ·exact af
  ·exact vk
  ·simp[Region.binds] at E;have zs:a.tmps[20]?.getD undef= .agg #[bs txt, .slice (some ⟨g,0,none⟩) ns.length c]:=by rw[<-aI];exact F.cl 4 b_ b_ b_ c_
   have Ax:a.tmps[22]?.getD undef= .agg #[.int .i64 (x.sf:Int), .int .i64 (x.st:Int)]:=by rw[<-aI];exact F.cl 6 b_ b_ b_ c_
   have ab:=F.at2 (j:=0) rfl hi (.inl rfl);have hA:Below W0.heap.size W0 w':=ab;go_simp;go_at_call 154;refine(om.out _).mono ?_;rintro e w5 ⟨rfl,aj⟩;have a8:=aC hA aj;exact G _ _ (F.eff2 b_ b_ 0 ad ha rfl hi (.inl rfl) rfl b_ (λ_ x hx=>qY.keep hx aj) (λ_=>ak.out _ a8) ⟨rfl,a8⟩)
  ·simp[Region.binds] at E;have c19:a.tmps[19]?.getD undef= .int .i64 kd:=by rw[<-aI];exact F.cl 3 b_ b_ b_ c_
   have ae:d 7=true:=by first | first | exact E | exact E.1 | exact E.2 | exact E.2.1 | exact E.2.2 | exact E.2.2.1 | exact E.2.2.2 | (exact ha ⟨_,_⟩ e_ rfl)
   have ab:=F.at2 (j:=1) rfl hi (.inr ⟨7,rfl,ae⟩);obtain⟨hc,hA⟩:=ab;have hc:a.tmps.getD 23 undef= .string (bs sl):=hc;have u1:a.tmps[23]?.getD undef= .string (bs sl):=by rw[<-aI];exact hc
   go_simp;go_at_call 153;refine(CT.out _ (aC tH.out hA)).mono ?_;rintro e w5 ⟨rfl,aj⟩;have a8:=aC hA aj;exact G _ _ (F.eff2 b_ b_ 1 ad ha rfl hi (.inr ⟨7,rfl,ae⟩) rfl b_ (λ_ x hx=>qY.keep hx aj) (λ_=>ak.out _ a8) ⟨rfl,a8⟩)
  ·simp[Region.binds] at E;have c17:a.tmps[17]?.getD undef= .int .i64 kd:=by rw[<-aI];exact F.cl 1 b_ b_ b_ c_
   have ae:d 8=true:=by first | first | exact E | exact E.1 | exact E.2 | exact E.2.1 | exact E.2.2 | exact E.2.2.1 | exact E.2.2.2 | (exact ha ⟨_,_⟩ e_ rfl)
   have ab:=F.at2 (j:=2) rfl hi (.inr ⟨8,rfl,ae⟩);obtain⟨hc,hA⟩:=ab;have hc:a.tmps.getD 24 undef= .string (bs tx):=hc;have c24:a.tmps[24]?.getD undef= .string (bs tx):=by rw[<-aI];exact hc
   go_simp;exact G _ _ (F.eff2 b_ b_ 2 ad ha rfl hi (.inr ⟨8,rfl,ae⟩) rfl b_ (λ_ x hx=>hx) (λ_=>ak.out _ hA) ⟨rfl,hA⟩)
  ·have iA:=aL w' (.cells #[(0:Int), .string ⟨#[]⟩,(),()] 36);have mg:=F.st (F.lastNot (f:=12) (i:=10) d' hi);rw[<-ah] at mg;have zi:=qY.new (W0:=W0) (w':=w') mg.2;clear mg;go_simp;exact G _ _ (F.free b_ ad ha rfl b_ rfl b_ b_ b_ (F.lastNot (f:=12) (i:=10) d' hi) (λhs=>vS.out _ _ hs iA) (λk c hp=>xQ.keep hp iA) zi)
  ·simp[Region.binds] at E;have ae:d 9=true:=by first | first | exact E | exact E.1 | exact E.2 | exact E.2.1 | exact E.2.2 | exact E.2.2.1 | exact E.2.2.2 | (exact ha ⟨_,_⟩ e_ rfl)
   have ab:=F.at2 (j:=3) rfl hi (.inr ⟨9,rfl,ae⟩);obtain⟨sd,hA⟩:=ab;have sd:a.tmps.getD 25 undef= .agg #[kd,bs tx,(),()]:=sd;have zc:a.tmps[25]?.getD undef= .agg #[kd,bs tx,(),()]:=by rw[<-aI];exact sd
   obtain⟨Y,hY,cb,bV⟩:=F.fb hi c_;have hY:a.tmps.getD 8 undef= .pointer (some ⟨Y,0,none⟩):=hY;have c8:a.tmps[8]?.getD undef= .pointer (some ⟨Y,0,none⟩):=by rw[<-aI];exact hY
   obtain⟨y0,y1,y2,y3,g0,g1,g2,g3⟩:=bJ bV;go_simp;exact G undef _ (F.eff2 b_ b_ 3 ad ha rfl hi (.inr ⟨9,rfl,ae⟩) rfl b_ (λh=>absurd rfl h) (λh=>absurd rfl h) ⟨Y,hY,CS.ofStore tH.out hA (bP.nil _ _) cb bV⟩)
 intro v wz au eI;obtain⟨Y,hY,hC⟩:=eI;have hY:v 8= .pointer (some ⟨Y,0,none⟩):=hY;have HC:=hid hC;simp only[cS,dF,cP,dG,hY];clear au hC vS ak ah ai rU tH SA W0 om CT;obtain⟨⟨x0,x1,x2,x5⟩,z0,z1⟩:=bW.out wz HC.out.bel;go_wp2_with fail;clear x0 x1 x2 x5 z0 z1 hY;go_loopw [29,9,10] (λoc s9 pc wr=> ∃(i:Nat) (kv ov:Value),oc= .int .i64 (i:Int)/\i<=x.kids.length/\Hid (CS W3 Y kd tx (fA txt ns x.kind (x.kids.take i)) ((x.kids.take i).map (bE txt ns lv)) kv ov wr)) (λoc _ _ _=>x.kids.length-(RowKit.intOf oc).toNat)
 case atStart=>exact⟨0, .slice none 0 0, .slice none 0 0,rfl,dY _,by rw[List.take_zero,Lf];first | exact HC | exact hid (HC.out.keep (aB _ _).drew)⟩
 case round=>
  have xo:=trivial;exact qf
theorem Lg (txt:aA) (ns:List aH) (p:Option Addr) (c:Nat) (hN:ns.length<=65536) (hs:txt.length<=1073741824): ∀lv,Ec txt ns p c lv
 | 0=>λ_ _ _ _ h=>h.elim
 | lv+1=>Wp txt ns p c hN hs lv (Lg txt ns p c hN hs lv)
end Go.Proofs.YtfhjncbdgjlcoaaGreatDoor
