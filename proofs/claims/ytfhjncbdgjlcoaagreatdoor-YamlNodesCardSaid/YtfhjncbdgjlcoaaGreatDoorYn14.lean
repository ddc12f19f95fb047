import Derived.Test.YtfhjncbdgjlcoaaGreatDoorYn10
import Derived.Test.YtfhjncbdgjlcoaaGreatDoorYn13
set_option linter.unusedVariables false
set_option linter.unusedSimpArgs false
set_option maxRecDepth 100000
set_option maxHeartbeats 4000000
namespace Go.Proofs.YtfhjncbdgjlcoaaGreatDoor
open Tryz
open Go.RowKit Go.Maps Go.WideMaps
open Go.Lib hiding intOf
def bV (w:World):Prop:=mU w/\eQ w
theorem bV.keep {w w':World} (h:bV w) (hb:aA w w'):bV w':=⟨h.1.keep hb,h.2.keep hb⟩
theorem bV.tabs {w:World} (h:bV w):dE w:=h.1.1.1
theorem Fa (txt:aB) (a b:Nat):tK (bs txt) (a:Int) (b:Int)=bs (gL txt (a,b)):=by
 unfold tK gL;simp only[];have sl:=aP txt;by_cases h:b<a\/txt.length<b
 .rw[if_pos h,if_pos (by rcases h with h | h;exact .inr (.inl a_);exact .inr (.inr a_))];rfl
 .rw[if_neg h,if_neg a_,gA,gA,gO,aY,List.drop_take]
theorem wJ (txt:aB) (s:Sp):(gL txt s).length<=txt.length:=by
 unfold gL;split
 .exact cI _
 .rw[bC,bR];omega
theorem Me (s:aB):(eF s).1.dig.length<=1000:=by
 by_cases he:(eF s).2=0
 .exact Ez s he
 .unfold eF at he ⊢;cases hl:lE s with
  | none=>exact cI _
  | some x=>
   rw[hl] at he;simp only[] at he ⊢;obtain⟨q,a⟩:=exQ<|oO x;rw[a] at he ⊢;unfold oO at a;simp only[] at a
   (repeat' split at a)<;>subst a<;>first | exact cI _ | exact absurd rfl he
abbrev lV (W:World) (D:Nat) (txt:ByteArray) (p:Option Addr) (n c g k:Nat) (k1 k2:Int) (w:World):Prop:=
 (w.cell? (D,0)=some (.string txt)/\w.cell? (D,1)=some (.slice p n c)/\w.cell? (g,k*7+3)=some (.int .i64 k1)/\w.cell? (g,k*7+4)=some (.int .i64 k2))/\Hid (Below W.heap.size W w)
section
variable {W w w2:World}{D:Nat}{txt:ByteArray}{p:Option Addr}{n c g k:Nat}{k1 k2:Int}
theorem lV.bel (h:lV W D txt p n c g k k1 k2 w):aA W w:=h.2.out
theorem lV.step (h:lV W D txt p n c g k k1 k2 w) (hb:aA w w2):lV W D txt p n c g k k1 k2 w2:=by
 obtain⟨⟨b,a,f,d⟩,e⟩:=h;exact⟨⟨cB b hb,cB a hb,cB f hb,cB d hb⟩,hid (aE e.out hb)⟩
theorem lV.drew (h:lV W D txt p n c g k k1 k2 w):lV W D txt p n c g k k1 k2 w.drew:=h.step (aD _ _).drew
end
theorem Yj (txt:aB) (ns:List aM) (p:Option Addr) (c k:Nat) (x:aM) (w:World) (hx:ns[k]?=some x) (hn:rQ w p ns) (hN:ns.length<=65536) (hs:txt.length<=1073741824) (hV:bV w):
  Calls prog 155 #[.agg #[bs txt, .slice p ns.length c],k] w (aT w (.string (bs (eS txt ns k)))):=by
 obtain⟨g,rfl,kv,pv,n0,n1,n2,n3,n4,n5,n6,_,_⟩:=hn k x hx;have q:=(aW.1 hx).1;obtain⟨D,l⟩:=exQ<|w.heap.size;obtain⟨W1,b⟩:=exQ<|w.alloc (.cells #[bs txt,(g,ns.length,c)] 134);have a:Hid (aA w W1):=hid (by rw[<-b];exact aL _ _);have d:Hid (wE W1 D (bs txt) (some ⟨g,0,none⟩) ns.length c):=hid (by rw[<-b,<-l];exact wE.new w _ _ _ _);have m3:=cB n3 a.out;have m4:=cB n4 a.out;have f:eS txt ns k=(eH (gL txt x.key)).1:=by unfold eS;rw[hx]
 rw[f];have i:Hid (∀w',Calls prog 154 #[.agg #[bs txt,(g,ns.length,c)], .agg #[x.key.1,x.key.2]] w' (aT w' (.string (bs (gL txt x.key))))):=hid (λw'=>by have:=Ln (bs txt) (.slice (some ⟨g,0,none⟩) ns.length c) rfl (x.key.1:Int) (x.key.2:Int) w';rw[Fa] at this;exact this);have hsl:=wJ txt x.key;have o:=hid (hV.keep a.out);have CU:Hid (∀w',aA W1 w'->Calls prog 112 #[bs (gL txt x.key)] w' λe w2=>e=iF (eH (gL txt x.key))/\aA w' w2):=hid (λw' j=>zM _ w' a_ (o.out.keep j).2 (o.out.keep j).tabs);unfold iF at CU;obtain⟨⟨U,ua,ue⟩,h⟩:=exQ<|eH (gL txt x.key);rw[h] at CU;rw[h];have hk0:(0:Int)<=(k:Int):=a_
 have hk1:(k:Int)<(ns.length:Int):=a_
 have c0:W1.cell? (D,0)=some (.string (bs txt)):=by have:=d.out;unfold wE at this;simp[World.cell?,this]
 have c1:W1.cell? (D,1)=some (.slice (some ⟨g,0,none⟩) ns.length c):=by have:=d.out;unfold wE at this;simp[World.cell?,this]
 have HS0:lV W1 D (bs txt) (some ⟨g,0,none⟩) ns.length c g k (x.key.1:Int) (x.key.2:Int) W1:=⟨⟨c0,c1,m3,m4⟩,hid (aD _ _)⟩;clear hn n0 n1 n2 n3 n4 n5 n6 hV h f hx q;go_in;go_upto_region 1 with fail;clear b;go_region_held3 (λw'=>lV W1 D (bs txt) (some ⟨g,0,none⟩) ns.length c g k (x.key.1:Int) (x.key.2:Int) w') ((first | exact lV.drew m_ | exact lV.step m_ m_ | assumption))
  ((first
   | (go_at_call 154;(refine(i.out _).mono ?_);rintro e w5 ⟨rfl,hb5⟩)
   | (go_at_call 112;(refine(CU.out _ (lV.bel (by assumption:lV W1 D (bs txt) (some ⟨g,0,none⟩) ns.length c g k (x.key.1:Int) (x.key.2:Int) _))).mono ?_);rintro e w6 ⟨rfl,hb6⟩)))
 all_goals
  have m:Hid (aA w w6):=hid (aE a.out (lV.bel (by assumption:lV W1 D (bs txt) (some ⟨g,0,none⟩) ns.length c g k (x.key.1:Int) (x.key.2:Int) w6)));go_wp2;go_ret;exact⟨rfl,by first | exact m.out | (rw[<-l];exact m.out)⟩
theorem Yk (kd:Nat) (s:aB) (w:World) (hs:s.length<=1073741824) (hV:bV w):
  Calls prog 153 #[kd,bs s] w (aT w (.string (bs (nZ kd s)))):=by
 unfold nZ;by_cases h2:kd=2
 .subst h2;rw[if_pos rfl];exact DX
 have d2:((kd:Int)==2)=false:=aI.2 a_;rw[if_neg h2];by_cases h3:kd=3
 .subst h3;rw[if_pos rfl];have CP:=hid (λw=>An s w a_);have b0:=Me s;obtain⟨P,hP⟩:=exQ<|eF s;rw[hP] at CP b0;rw[hP];obtain⟨n,er⟩:=P;simp only[] at b0 ⊢;have HV:=hid hV;have CT:Hid (∀w',aA w w'->Calls prog 34 #[.agg #[n.neg,bs n.dig,n.exp]] w' (aT w' (.string (bs (kS n))))):=hid (λw' hb=>Eh n w' a_ (HV.out.keep hb).1.1.2);clear hV hP b0 h2;go_in;go_wp2_with fail;refine(CP.out _).mono ?_;unfold pR eK;rintro e w1 ⟨rfl,o⟩;have J:aA w (w1.alloc (.cells #[n.neg,bs n.dig,n.exp] 80)):=aE o (aL _ _);have aq:=hid J;clear o J;go_wp2_with fail;refine aH (CT.out _ aq.out) λw3 az=>?_;have b4:=hid (aE aq.out az);clear az;go_wp2;go_ret;exact⟨rfl,b4.out⟩
 have d3:((kd:Int)==3)=false:=aI.2 a_;rw[if_neg h3];by_cases h4:kd=4
 .subst h4;rw[if_pos rfl];have CU:=hid (zM s w a_ hV.2 hV.tabs);unfold iF at CU;obtain⟨⟨U,ua,ue⟩,hU⟩:=exQ<|eH s;rw[hU] at CU;rw[hU];clear hU hV;go_in;go_wp2_with fail;refine aH CU.out λw1 o=>?_;have G:=hid o;clear o;go_wp2;go_ret;exact bx
 have d4:((kd:Int)==4)=false:=aI.2 a_;rw[if_neg h4];exact DX
def yF (W W0:World) (kd:Int) (sl tx:aB):Nat->Value->World->Prop
 | 0,_,w'=>Below W0.heap.size W0 w'
 | 1,c,w'=>c= .string (bs sl)/\Below W0.heap.size W0 w'
 | 2,c,w'=>c= .string (bs tx)/\Below W0.heap.size W0 w'
 | 3,c,w'=>c= .agg #[kd,bs tx,(),()]/\Below W0.heap.size W0 w'
 | _,c,w'=> ∃Y,c= .pointer (some ⟨Y,0,none⟩)/\CS W Y kd tx [] [] (.slice none 0 0) (.slice none 0 0) w'
theorem yF.keep {W W0:World}{kd:Int}{sl tx:aB}{k:Nat}{c:Value}{w' w2:World} (h:yF W W0 kd sl tx k c w') (hb:aA w' w2):yF W W0 kd sl tx k c w2:=by
 match k,h with
 | 0,h=>exact aE (show aA W0 w' from h) hb
 | 1,h=>exact⟨h.1,aE h.2 hb⟩
 | 2,h=>exact⟨h.1,aE h.2 hb⟩
 | 3,h=>exact⟨h.1,aE h.2 hb⟩
 | k+4,⟨Y,h1,h2⟩=>exact⟨Y,h1,h2.keep hb⟩
theorem Mf {P:Nat->Nat->Prop} (hlt: ∀k m,P k m->k<m) {hi N:Nat}: ∀ {l:List Nat}{a:Nat},eV P l a hi->(∀k∈l,k<N)->a<=N->a+l.length<=N
 | [],a,_,_,h=>h
 | y::l,a,h,hm,_=>by
  obtain⟨rfl,m,h2,h3⟩:=h;have h4:=hlt _ _ h2;have h5:=hm y kR;cases l with
  | nil=>simp only[dF];omega
  | cons z l=>
   have h6:=hm z (List.mem_cons_of_mem _ kR);have h7:z=m:=h3.1;have:=Mf hlt h3 (λk b=>hm k (List.mem_cons_of_mem _ b)) a_;rw[bM];omega
theorem Fc {ns:List aM}{lv k m:Nat}{x:aM} (hT:fR ns (lv+1) k m) (hx:ns[k]?=some x) (hN:ns.length<=65536):x.kids.length<=65536:=by
 have hk:=(aW.1 hx).1;have b:=λq (hq:q∈x.kids)=>(hT.kid hx hq).2;obtain⟨x',a,d⟩:=hT;rw[hx] at a;injection a with e;subst e;have:=Mf (λ_ _=>fR.lt) d b a_;omega
def fO (txt:aB) (ns:List aM) (kd:Nat) (l:List Nat):List aB:=if kd=6 then l.map (eS txt ns) else []
theorem Mg (txt:aB) (ns:List aM) (kd:Nat):fO txt ns kd []= []:=by unfold fO;split<;>rfl
def Fd (txt:aB) (ns:List aM) (p:Option Addr) (c:Nat) (lv:Nat):Prop:= ∀(k m:Nat) (lev:Int) (w:World),fR ns lv k m->Hid (lev=33-(lv:Int))->lv<=32->rQ w p ns->bV w->
 Calls prog 114 #[.agg #[bs txt, .slice p ns.length c],k,lev] w (jJ (bJ txt ns lv k) w)
theorem nM {w:World}{X:Nat}{cs:Array Value}{t:TypeId} (h:w.heap[X]?=some (.cells cs t (0,0))) (i:Nat):w.cell? (X,i)=cs[i]?:=by
 simp[World.cell?,h]
theorem Yl (txt:aB) (ns:List aM) (p:Option Addr) (c:Nat) (hN:ns.length<=65536) (hs:txt.length<=1073741824) (lv:Nat) (IH:Fd txt ns p c lv):Fd txt ns p c (lv+1):=by
 intro k m lev w hT hlev hlv hn hV;obtain⟨x,hx⟩: ∃x,ns[k]?=some x:=by obtain⟨x,hx,_⟩:=hT;exact⟨x,hx⟩
 have gt:=hid (λq (Z:q∈x.kids)=>hT.kid hx Z);obtain⟨g,hp,kv,pv,n0,n1,n2,n3,n4,n5,n6,n7,n8⟩:=hn k x hx;obtain⟨pq,cq,rfl,Z⟩:=n7;obtain⟨pz,cz,rfl,_⟩:=n8;have hk:=(aW.1 hx).1;have dT:bJ txt ns (lv+1) k= .mk (x.kind:Int) (nZ x.kind (gL txt (x.sf,x.st))) (fO txt ns x.kind x.kids) (x.kids.map (bJ txt ns lv)):=by rw[bJ,hx];rfl
 rw[dT];have mr:=hp;subst hp;obtain⟨D,hD⟩:=exQ<|w.heap.size;obtain⟨W1,bp⟩:=exQ<|w.alloc (.cells #[bs txt,(g,ns.length,c)] 134);obtain⟨R,I⟩:=exQ<|W1.heap.size;obtain⟨W2,aw⟩:=exQ<|W1.alloc (.cells #[(0:Int), .string ⟨#[]⟩,(),()] 36);obtain⟨X,hX⟩:=exQ<|W2.heap.size;obtain⟨W3,a6⟩:=exQ<|W2.alloc (.cells #[.int .i64 (x.kind:Int), .int .i64 (x.sf:Int), .int .i64 (x.st:Int), .int .i64 (x.key.1:Int), .int .i64 (x.key.2:Int), .slice pq x.kids.length cq, .slice pz x.pcs.length cz] 167);have pb:aA w W1:=by rw[<-bp];exact aL _ _
 have fA:aA W1 W2:=by rw[<-aw];exact aL _ _
 have gw:aA W2 W3:=by rw[<-a6];exact aL _ _
 have bh:=hid (aE pb fA);have ax:=hid (aE bh.out gw);have kG:W1.heap[D]?=some (.cells #[bs txt,(g,ns.length,c)] 134):=by rw[<-bp,<-hD];exact heap_alloc_new w _
 have il:=aG kG;have j2:Hid (W3.heap[D]?=some (.cells #[bs txt,(g,ns.length,c)] 134)):=hid ((gw.block D (iG il fA.size)).trans ((fA.block D il).trans kG));have mo:W2.heap[R]?=some (.cells #[(0:Int),bs [],(),()] 36):=by rw[<-aw,<-I];exact heap_alloc_new W1 _
 have ij:Hid (W3.heap[R]?=some (.cells #[(0:Int),bs [],(),()] 36)):=hid ((gw.block R (aG mo)).trans mo);have em:Hid (W3.heap[X]?=some (.cells #[.int .i64 (x.kind:Int), .int .i64 (x.sf:Int), .int .i64 (x.st:Int), .int .i64 (x.key.1:Int), .int .i64 (x.key.2:Int), .slice pq x.kids.length cq, .slice pz x.pcs.length cz] 167)):=hid G1;have rg:R<W3.heap.size:=aG ij.out;have HQ:Hid (∀(w':World),aA W3 w'-> ∀(j q:Nat),x.kids[j]?=some q-> ∃gk,pq=some ⟨gk,0,none⟩/\w'.cell? ⟨gk,j,none⟩=some (.int .i64 (q:Int))):=hid (λw' hb j q hj=>by obtain⟨gk,e1,e2⟩:=Z j q hj;exact⟨gk,e1,cB (cB e2 ax.out) hb⟩);have pY:Hid (∀w',aA W3 w'->rQ w' (some ⟨g,0,none⟩) ns):=hid (λw' hb=>(hn.keep ax.out).keep hb);have HV:Hid (∀w',aA W3 w'->bV w'):=hid (λw' hb=>(hV.keep ax.out).keep hb);have og:Hid (∀w',aA W3 w'-> ∀q∈x.kids,Calls prog 114 #[.agg #[bs txt,(g,ns.length,c)],q,(lev+1:Int)] w' (jJ (bJ txt ns lv q) w')):=hid (λw' hb q Z=>by obtain⟨⟨m',lP⟩,_⟩:=gt.out q Z;exact IH q m' (lev+1) w' lP (hid (by rw[hlev.out];omega)) a_ (pY.out w' hb) (HV.out w' hb));have Av:Hid (∀w',aA W3 w'-> ∀q∈x.kids,Calls prog 155 #[.agg #[bs txt,(g,ns.length,c)],q] w' (aT w' (.string (bs (eS txt ns q))))):=hid (λw' hb q Z=>by obtain⟨_,nu⟩:=gt.out q Z;exact Yj txt ns _ c q _ w' (bI nu) (pY.out w' hb) hN hs (HV.out w' hb));obtain⟨sl,eb⟩:=exQ<|gL txt (x.sf,x.st);have oA:=wJ txt (x.sf,x.st);rw[eb] at oA ⊢;have qa:Hid (∀w',Calls prog 154 #[.agg #[bs txt,(g,ns.length,c)], .agg #[.int .i64 (x.sf:Int), .int .i64 (x.st:Int)]] w' (aT w' (.string (bs sl)))):=hid (λw'=>by have:=Ln (bs txt) (.slice (some ⟨g,0,none⟩) ns.length c) rfl (x.sf:Int) (x.st:Int) w';rw[Fa,eb] at this;exact this);obtain⟨tx,cE⟩:=exQ<|nZ x.kind sl;rw[cE];have CT:Hid (∀w',aA W3 w'->Calls prog 153 #[.int .i64 (x.kind:Int),bs sl] w' (aT w' (.string (bs tx)))):=hid (λw' hb=>by have:=Yk x.kind sl w' a_ (HV.out w' hb);rw[cE] at this;exact this);have gX:(0:Int)<=(k:Int):=a_
 have gm:(k:Int)<(ns.length:Int):=a_
 have hl0:(-1:Int)<=lev/\lev<=32:=by have:=hlev.out;omega
 have fD:decide ((32:Int)<lev)=false:=aJ a_;have jI:IntKind.i64.wrap (lev+1)=lev+1:=IntWalk.i64_in _ a_;have hkl:x.kids.length<=65536:=Fc hT hx hN;have e0:W2.cell? (g,k*7)=some (.int .i64 (x.kind:Int)):=cB n0 bh.out;have e1:W2.cell? (g,k*7+1)=some (.int .i64 (x.sf:Int)):=cB n1 bh.out;have e2:W2.cell? (g,k*7+2)=some (.int .i64 (x.st:Int)):=cB n2 bh.out;have e3:W2.cell? (g,k*7+3)=some (.int .i64 (x.key.1:Int)):=cB n3 bh.out;have e4:W2.cell? (g,k*7+4)=some (.int .i64 (x.key.2:Int)):=cB n4 bh.out;have e5:W2.cell? (g,k*7+5)=some (.slice pq x.kids.length cq):=cB n5 bh.out;have e6:W2.cell? (g,k*7+6)=some (.slice pz x.pcs.length cz):=cB n6 bh.out;have c1:W2.cell? (D,1)=some (.slice (some ⟨g,0,none⟩) ns.length c):=by rw[nM ((fA.block D il).trans kG) 1];rfl
 have De:D<R:=by rw[<-I,<-hD,<-bp];simp
 obtain⟨kd,hkd⟩: ∃kd:Int,(x.kind:Int)=kd:=⟨_,rfl⟩;have oB:x.kind=6↔kd=6:=a_
 have H6:=hid oB;rw[hkd] at em a6 CT e0 ⊢;clear hn n0 n1 n2 n3 n4 n5 n6 hV dT hx hk hT pb fA gw kG mo eb cE mr Z il hkd oB IH;go_in;go_upto_region 1 with fail;clear bp I;go_upto_region 2 with fail;obtain⟨W0,al⟩:=exQ<|W3.drew;have we:aA W3 W0:=by rw[<-al];exact(aD _ _).drew
 have vd:=hid we;have bN:Hid (∀w',aA W3 w'->(w'.cell? (X,0)=some (.int .i64 kd)/\w'.cell? (X,1)=some (.int .i64 (x.sf:Int))/\w'.cell? (X,2)=some (.int .i64 (x.st:Int))/\w'.cell? (X,5)=some (.slice pq x.kids.length cq))/\w'.cell? (D,0)=some (.string (bs txt))/\w'.cell? (D,1)=some (.slice (some ⟨g,0,none⟩) ns.length c)):=hid (λw' hb=>by have hx:=(hb.block X (aG em.out)).trans em.out;have hd:=(hb.block D (aG j2.out)).trans j2.out;exact⟨⟨by rw[nM hx];rfl,by rw[nM hx];rfl,by rw[nM hx];rfl,by rw[nM hx];rfl⟩,by rw[nM hd];rfl,by rw[nM hd];rfl⟩);obtain⟨SA,ak⟩: ∃S:World->Prop,(λw'=>((w'.cell? (X,0)=some (.int .i64 kd)/\w'.cell? (X,1)=some (.int .i64 (x.sf:Int))/\w'.cell? (X,2)=some (.int .i64 (x.st:Int))/\w'.cell? (D,0)=some (.string (bs txt))/\w'.cell? (D,1)=some (.slice (some ⟨g,0,none⟩) ns.length c))/\W0.heap.size<=w'.heap.size))=S:=⟨_,rfl⟩;have am:Hid (∀w',aA W0 w'->SA w'):=hid (λw' hb=>by rw[<-ak];obtain⟨⟨a0,a1,a2,_⟩,a3,a4⟩:=bN.out w' (aE we hb);exact⟨⟨a0,a1,a2,a3,a4⟩,hb.size⟩);have xC:Hid (∀w1 w2,SA w1->aA w1 w2->SA w2):=hid (λw1 w2 h1 hb=>by rw[<-ak] at h1 ⊢;obtain⟨⟨a0,a1,a2,a3,a4⟩,a5⟩:=h1;exact⟨⟨cB a0 hb,cB a1 hb,cB a2 hb,cB a3 hb,cB a4 hb⟩,bF a5 hb.size⟩);clear e0 e1 e2 e3 e4 e5 e6 c1;have j5:prog.follows .mixedOrders=true:=d'
 refine Af j5 [16,17,18,19,20,21,22,23,24,25,8] [7,8,9,11] 10 (rX W0) 74 rfl d' d' d' (λiz=>match iz with | 0=> .pointer (some ⟨X,0,none⟩) | 1=> .int .i64 kd | 2=> .pointer (some ⟨X,0,none⟩) | 3=> .int .i64 kd | 4=> .agg #[bs txt,(g,ns.length,c)] | 5=> .pointer (some ⟨X,1,none⟩) | 6=> .agg #[.int .i64 (x.sf:Int), .int .i64 (x.st:Int)] | _=>undef) SA (yF W3 W0 kd sl tx) j_ i_ ?_ ?_
 .intro d a w' iq o' ho hi F aa G R' I;have ms:iq<12:=(mK.1 ho).1;have q3:a.tmps[3]?.getD undef= .pointer (some ⟨D,0,none⟩):=by rw[<-aN];exact aa 3 b_
  have q7:a.tmps[7]?.getD undef= .pointer (some ⟨X,0,none⟩):=by rw[<-aN];exact aa 7 b_
  clear aa;have ha:=F;have aj:=ho;have ct:iq=0\/iq=1\/iq=2\/iq=3\/iq=4\/iq=5\/iq=6\/iq=7\/iq=8\/iq=9\/iq=10\/iq=11:=a_
  clear ms;rcases ct with rfl|rfl|rfl|rfl|rfl|rfl|rfl|rfl|rfl|rfl|rfl|rfl<;>simp only[cR,cP,bY,cC] at ho<;>subst ho
  .exact af
  .have OW:=trivial;exact J4
  .exact af
  .have OX:=trivial;exact J4
  .have ab:=G.early (f:=12) (i:=4) d' hi;rw[<-ak] at ab;obtain⟨⟨s0,s1,s2,s3,s4⟩,_⟩:=ab;exact af
  .exact af
  .exact J4
  .simp[Region.binds] at F;have yz:a.tmps[20]?.getD undef= .agg #[bs txt,(g,ns.length,c)]:=by rw[<-aN];exact G.cl 4 b_ b_ b_ c_
   have zC:a.tmps[22]?.getD undef= .agg #[.int .i64 (x.sf:Int), .int .i64 (x.st:Int)]:=by rw[<-aN];exact G.cl 6 b_ b_ b_ c_
   have ae:=G.at2 (j:=0) rfl hi (.inl rfl);have hA:aA W0 w':=ae;go_simp;go_at_call 154;refine aH (qa.out _) λw5 ag=>?_;have bj:=aE hA ag;exact I _ _ (G.eff2 b_ b_ 0 aj ha rfl hi (.inl rfl) rfl b_ (λ_ x hx=>rX.keep hx ag) (λ_=>am.out _ bj) ⟨rfl,bj⟩)
  .simp[Region.binds] at F;have c19:a.tmps[19]?.getD undef= .int .i64 kd:=by rw[<-aN];exact G.cl 3 b_ b_ b_ c_
   have ad:d 7=true:=by first | first | exact F | exact F.1 | exact F.2 | exact F.2.1 | exact F.2.2 | exact F.2.2.1 | exact F.2.2.2 | (exact ha ⟨_,_⟩ e_ rfl)
   have ae:=G.at2 (j:=1) rfl hi (.inr ⟨7,rfl,ad⟩);obtain⟨hc,hA⟩:=ae;have hc:a.tmps.getD 23 undef= .string (bs sl):=hc;have wg:a.tmps[23]?.getD undef= .string (bs sl):=by rw[<-aN];exact hc
   go_simp;go_at_call 153;refine aH (CT.out _ (aE vd.out hA)) λw5 ag=>?_;have bj:=aE hA ag;exact I _ _ (G.eff2 b_ b_ 1 aj ha rfl hi (.inr ⟨7,rfl,ad⟩) rfl b_ (λ_ x hx=>rX.keep hx ag) (λ_=>am.out _ bj) ⟨rfl,bj⟩)
  .simp[Region.binds] at F;have c17:a.tmps[17]?.getD undef= .int .i64 kd:=by rw[<-aN];exact G.cl 1 b_ b_ b_ c_
   have ad:d 8=true:=by first | first | exact F | exact F.1 | exact F.2 | exact F.2.1 | exact F.2.2 | exact F.2.2.1 | exact F.2.2.2 | (exact ha ⟨_,_⟩ e_ rfl)
   have ae:=G.at2 (j:=2) rfl hi (.inr ⟨8,rfl,ad⟩);obtain⟨hc,hA⟩:=ae;have hc:a.tmps.getD 24 undef= .string (bs tx):=hc;have c24:a.tmps[24]?.getD undef= .string (bs tx):=by rw[<-aN];exact hc
   go_simp;exact I _ _ (G.eff2 b_ b_ 2 aj ha rfl hi (.inr ⟨8,rfl,ad⟩) rfl b_ (λ_ x hx=>hx) (λ_=>am.out _ hA) ⟨rfl,hA⟩)
  .have jz:=aL w' (.cells #[(0:Int), .string ⟨#[]⟩,(),()] 36);have kA:=G.st (G.lastNot (f:=12) (i:=10) d' hi);rw[<-ak] at kA;have BQ:=rX.new (W0:=W0) (w':=w') kA.2;clear kA;go_simp;exact I _ _ (G.free b_ aj ha rfl b_ rfl b_ b_ b_ (G.lastNot (f:=12) (i:=10) d' hi) (λhs=>xC.out _ _ hs jz) (λk c hp=>yF.keep hp jz) BQ)
  .simp[Region.binds] at F;have ad:d 9=true:=by first | first | exact F | exact F.1 | exact F.2 | exact F.2.1 | exact F.2.2 | exact F.2.2.1 | exact F.2.2.2 | (exact ha ⟨_,_⟩ e_ rfl)
   have ae:=G.at2 (j:=3) rfl hi (.inr ⟨9,rfl,ad⟩);obtain⟨uY,hA⟩:=ae;have uY:a.tmps.getD 25 undef= .agg #[kd,bs tx,(),()]:=uY;have AK:a.tmps[25]?.getD undef= .agg #[kd,bs tx,(),()]:=by rw[<-aN];exact uY
   obtain⟨Y,hY,cd,cx⟩:=G.fb hi c_;have hY:a.tmps.getD 8 undef= .pointer (some ⟨Y,0,none⟩):=hY;have c8:a.tmps[8]?.getD undef= .pointer (some ⟨Y,0,none⟩):=by rw[<-aN];exact hY
   obtain⟨y0,y1,y2,y3,g0,g1,g2,g3⟩:=bK cx;go_simp;exact I undef _ (G.eff2 b_ b_ 3 aj ha rfl hi (.inr ⟨9,rfl,ad⟩) rfl b_ (λh=>absurd rfl h) (λh=>absurd rfl h) ⟨Y,hY,CS.ofStore vd.out hA (bZ.nil _ _) cd cx⟩)
 intro v wz bf fV;obtain⟨Y,hY,hC⟩:=fV;have hY:v 8= .pointer (some ⟨Y,0,none⟩):=hY;have HC:=hid hC;simp only[cU,cY,cQ,cZ,hY];clear bf hC xC am ak al we vd SA W0 qa CT;obtain⟨⟨x0,x1,x2,x5⟩,z0,z1⟩:=bN.out wz HC.out.bel;go_wp2_with fail;clear x0 x1 x2 x5 z0 z1 hY;go_loopw [29,9,10] (λop s9 jF wr=> ∃(i:Nat) (kv ov:Value),op= .int .i64 (i:Int)/\i<=x.kids.length/\Hid (CS W3 Y kd tx (fO txt ns x.kind (x.kids.take i)) ((x.kids.take i).map (bJ txt ns lv)) kv ov wr)) (λop _ _ _=>x.kids.length-(RowKit.intOf op).toNat)
 case atStart=>exact⟨0, .slice none 0 0, .slice none 0 0,rfl,cI _,by rw[List.take_zero,Mg];first | exact HC | exact hid (HC.out.keep (aD _ _).drew)⟩
 case round=>
  have RC:=trivial;exact PK
theorem Mh (txt:aB) (ns:List aM) (p:Option Addr) (c:Nat) (hN:ns.length<=65536) (hs:txt.length<=1073741824): ∀lv,Fd txt ns p c lv
 | 0=>λ_ _ _ _ h=>h.elim
 | lv+1=>Yl txt ns p c hN hs lv (Mh txt ns p c hN hs lv)
end Go.Proofs.YtfhjncbdgjlcoaaGreatDoor
