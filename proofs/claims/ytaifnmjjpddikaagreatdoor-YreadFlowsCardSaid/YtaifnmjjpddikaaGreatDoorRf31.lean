import Derived.Test.YtaifnmjjpddikaaGreatDoorRf30
import Derived.Test.YtaifnmjjpddikaaGreatDoorRf6
import Derived.Test.YtaifnmjjpddikaaGreatDoorRf27
import Derived.Test.YtaifnmjjpddikaaGreatDoorRf4
set_option maxRecDepth 100000
set_option maxHeartbeats 8000000
namespace Go.Proofs.YtaifnmjjpddikaaGreatDoor
set_option linter.unusedVariables false
set_option linter.unusedSimpArgs false
section
open Go.RowKit
open Go.Lib hiding intOf
structure lY (t:VT):Prop where
 o:qM t=true
 h:mM t
 b:t.bulk<=1073741824
theorem lY.ev {t:VT} (h:lY t):dO oJ t=true:=by
 have:=h.o;unfold qM at this;rw[fB] at this;exact this.2
theorem lY.item {t x:VT} (h:lY t) (hx:x∈t.items):lY x:=by
 have h1:=h.o;unfold qM at h1;simp only[fB,kY] at h1;have e1:=Rj hx;have e2:=Gr hx;have e3:=tN hx;have e4:=Nl h.ev hx;have hb:=h.b;have hs:eS t.items+1=t.size/\dI t.items+1=t.depth/\eK t.items<=t.bulk:=by
  cases t with
  | mk k s ks l=>rw[VT.size,VT.depth,VT.bulk];exact⟨rfl,rfl,by show eK l<=_;omega⟩
 refine⟨?_,h.h.sub x hx,by omega⟩;unfold qM;rw[e4,aN (by omega),aN (by omega)];rfl
theorem lY.walk: ∀ {p:List aA}{t x:VT},lY t->jZ p t=some x->lY x
 | [],t,x,h,e=>by
  obtain rfl:t=x:=bD e;exact h
 | st::r,t,x,h,e=>by
  rw[jZ] at e;split at e
  ·split at e
   ·rename_i y hy;exact lY.walk (h.item (aX hy)) e
   ·cases e
  ·cases e
def uP (p:List aA) (t:VT):Option VT:=if nJ p=true then jZ p t else none
def Nq (o:Option VT) (w:World) (e:Ending) (w':World):Prop:=(∃kv iv,e= .returned (.tuple #[vv (o.getD dL) kv iv, .bool o.isSome])/\eU w.heap.size w' (o.getD dL).depth (o.getD dL) kv iv)/\Below w.heap.size w w'
theorem aBs (n:Nat) (t:VT) (kv iv:Value) (path:List aA) (pv:Value) (w:World) (h:VD w n t kv iv) (hG:lY t) (hp:SV w pv path) (hpl:path.length<=1073741824) (hps: ∀x∈path,x.length<=1073741824) (hV:cA w):
  Calls Tryz.prog 12 #[vv t kv iv,pv] w (Nq (uP path t) w):=by
 obtain⟨pk,ck,p,c,rfl,rfl⟩:=h.form;obtain⟨X,hX⟩:=exQ<|w.heap.size;obtain⟨W1,hW1⟩:=exQ<|w.alloc (.cells #[.int .i64 t.kind, .string (bs t.text), .slice pk t.keys.length ck, .slice p t.items.length c] 26);obtain⟨R,hR⟩:=exQ<|W1.heap.size;obtain⟨W2,hW2⟩:=exQ<|W1.alloc (.cells #[.int .i64 0, .string ⟨#[]⟩, .slice none 0 0, .slice none 0 0] 26);have hB1:Below w.heap.size w W1:=by rw[<-hW1];exact aH _ _
 have hB12:Below W1.heap.size W1 W2:=by rw[<-hW2];exact aH _ _
 have HB2:=hid (aC hB1 hB12);have HXB:Hid (cR W2 X t (.slice pk t.keys.length ck) (.slice p t.items.length c)):=hid (cR.keep (by rw[<-hW1,<-hX];exact cR.new w t _ _) hB12);have HRB:Hid (W2.heap[R]?=some (.cells #[.int .i64 0, .string (bs []), .slice none 0 0, .slice none 0 0] 26)):=hid (by rw[<-hW2,<-hR];exact heap_alloc_new W1 _);have hXR:w.heap.size<=R:=by rw[<-hR];exact hB1.size
 have hR2:R<W2.heap.size:=by rw[<-hW2,<-hR];simp
 have HSZ:=hid (aI hXR hR2);have hv2:=h.keep HB2.out;have hp2:=hp.keep HB2.out;have HC1:=hid (My n t _ _ W2 hv2 hG.b (hV.keep HB2.out).1.1 hG.h);have HC2:Hid (∀w',Below W2.heap.size W2 w'->Calls Tryz.prog 19 #[pv] w' λe w2=>e= .returned (.bool (nJ path))/\Below w'.heap.size w' w2):=hid (λw' hb=>Mz pv path w' (hp2.keep hb) hpl hps ((hV.keep HB2.out).keep hb).tabs);have HC3:Hid (∀w',Below W2.heap.size W2 w'->Calls Tryz.prog 22 #[vv t (.slice pk t.keys.length ck) (.slice p t.items.length c),pv] w' (Np w' path t)):=hid (λw' hb=>aBr n t _ _ path pv w' (hv2.keep hb) hG.ev hG.b (hp2.keep hb) hpl ((hV.keep HB2.out).keep hb).2);have HC4:Hid (∀(x:VT) (kx ix:Value) (q:Nat) w',lY x->Below W2.heap.size W2 w'->VD w' q x kx ix->Calls Tryz.prog 23 #[vv x kx ix] w' (jI x w')):=hid (λx kx ix q w' hx hb hv=>aBi q x kx ix w' hv hx.b ((hV.keep HB2.out).keep hb).1.1 hx.h hx.o);have HG:=hid hG;obtain⟨pa,na,ca,rfl⟩: ∃a b c,pv= .slice a b c:=by
  obtain⟨a,b,e,_⟩:=hp;exact⟨_,_,_,e⟩
 rw[hG.o] at HC1;unfold vv at HC1 HC3 ⊢;obtain⟨O,hO⟩:=exQ<|uP path t;rw[hO];unfold uP at hO;obtain⟨y,hy⟩:=exQ<|nJ path;rw[hy] at HC2 hO;have HO:=hid hO;clear h hV hB1 hB12 hXR hR2 hG hv2 hp2 hp hps hpl hO hy;go_enter Tryz.func12,Tryz.ntmps12;go_upto_region 1 with fail;clear hW1 hW2 hR hX;obtain⟨b0,b1,b2,b3⟩:=HXB.out.cells;go_wp2_with fail;refine HC1.out.mono ?_;rintro e w3 ⟨rfl,hb3⟩;have HB3:=hid hb3;clear hb3 b0 b1 b2 b3;obtain⟨b0,b1,b2,b3⟩:=(HXB.out.keep HB3.out).cells;go_wp2_with fail;refine(HC2.out _ (by first | exact HB3.out | exact HB3.out.drew)).mono ?_;rintro e w4 ⟨rfl,hb4⟩;have HB4:Hid (Below W2.heap.size W2 w4):=hid (by first | exact aC HB3.out hb4 | exact aC HB3.out.drew hb4);clear hb4 b0 b1 b2 b3;obtain⟨b0,b1,b2,b3⟩:=(HXB.out.keep HB4.out).cells;cases y with
 | false=>
  have hO:=HO.out;rw[if_neg (by simp)] at hO;subst hO;have HPN:=hid (iQ (t:=dL) HB2.out HSZ.out.1 HSZ.out.2 (oQ _ w4 0 []) HB4.out HRB.out);obtain⟨r0,r1,r2,r3,f0,f1,f2,f3⟩:=bC ((HB4.out.block R HSZ.out.2).trans HRB.out);clear b0 b1 b2 b3;go_wp2_with fail;obtain⟨WF,hWF⟩:=exQ<|bF w4 R dL.kind dL.text (.slice none 0 0) (.slice none 0 0);rw[hWF] at HPN;have hWF':(((w4.setCell ⟨R,0,none⟩ (.int .i64 0)).setCell ⟨R,1,none⟩ (.string ⟨#[]⟩)).setCell ⟨R,2,none⟩ (.slice none 0 0)).setCell ⟨R,3,none⟩ (.slice none 0 0)=WF:=hWF;rw[hWF'];clear hWF hWF' r0 r1 r2 r3 f0 f1 f2 f3;obtain⟨d0,d1,d2,d3,_⟩:=bC HPN.out.2.2;refine bodyPost_ret (v:= .tuple #[vv dL (.slice none 0 0) (.slice none 0 0), .bool false]) ?_ rfl ⟨⟨_,_,rfl,HPN.out.1⟩,HPN.out.2.1⟩;simp[results,Tryz.results12,go_sem,d0,d1,d2,d3,vv]
 | true=>
  have hO:=HO.out;rw[if_pos rfl] at hO;have HC:=hid (HC3.out w4 HB4.out);go_wp2_with fail;refine HC.out.mono ?_;rintro e w5 ⟨q1,q2,q3,x,kx,ix,rfl,hx,⟨nx,hvx⟩,hb5⟩;obtain⟨pkx,ckx,pix,cix,rfl,rfl⟩:=hvx.form;unfold vv;rw[hO] at hx;rw[hO];have HB5:Hid (Below W2.heap.size W2 w5):=hid (aC HB4.out hb5);have HVX:Hid (VD w5 nx x (.slice pkx x.keys.length ckx) (.slice pix x.items.length cix)):=hid (hvx.keep hb5);obtain⟨Z,hZ⟩:=exQ<|w5.heap.size;have b6:=aH w5 (.cells #[.int .i64 x.kind, .string (bs x.text), .slice pkx x.keys.length ckx, .slice pix x.items.length cix] 26);have x6:=heap_alloc_new w5 (.cells #[.int .i64 x.kind, .string (bs x.text), .slice pkx x.keys.length ckx, .slice pix x.items.length cix] 26);obtain⟨w6,hw6⟩:=exQ<|w5.alloc (.cells #[.int .i64 x.kind, .string (bs x.text), .slice pkx x.keys.length ckx, .slice pix x.items.length cix] 26);rw[hw6] at b6 x6;rw[hZ] at x6;have HB6:Hid (Below W2.heap.size W2 w6):=hid (aC HB5.out b6);have HVX6:=hid (HVX.out.keep b6);clear b0 b1 b2 b3 hvx hb5;obtain⟨b0,b1,b2,b3,_⟩:=bC x6;clear b6 x6;cases O with
  | none=>
   have HPN:=hid (iQ (t:=dL) HB2.out HSZ.out.1 HSZ.out.2 (oQ _ w6 0 []) HB6.out HRB.out);obtain⟨r0,r1,r2,r3,f0,f1,f2,f3⟩:=bC ((HB6.out.block R HSZ.out.2).trans HRB.out);have hn:(none:Option VT).isSome=false:=rfl;rw[hn];clear b0 b1 b2 b3 hO hx;go_wp2_with fail;clear hw6 hZ;obtain⟨WF,hWF⟩:=exQ<|bF w6 R dL.kind dL.text (.slice none 0 0) (.slice none 0 0);rw[hWF] at HPN;have hWF':(((w6.setCell ⟨R,0,none⟩ (.int .i64 0)).setCell ⟨R,1,none⟩ (.string ⟨#[]⟩)).setCell ⟨R,2,none⟩ (.slice none 0 0)).setCell ⟨R,3,none⟩ (.slice none 0 0)=WF:=hWF;rw[hWF'];clear hWF hWF' r0 r1 r2 r3 f0 f1 f2 f3;obtain⟨d0,d1,d2,d3,_⟩:=bC HPN.out.2.2;refine bodyPost_ret (v:= .tuple #[vv dL (.slice none 0 0) (.slice none 0 0), .bool false]) ?_ rfl ⟨⟨_,_,rfl,HPN.out.1⟩,HPN.out.2.1⟩;simp[results,Tryz.results12,go_sem,d0,d1,d2,d3,vv]
  | some z=>
   obtain rfl:x=z:=hx z rfl;have HC5:=hid (HC4.out x _ _ nx w6 (HG.out.walk hO) HB6.out HVX6.out);have hn:(some x:Option VT).isSome=true:=rfl;rw[hn];unfold vv at HC5;clear hO hx;go_wp2_with fail;refine HC5.out.mono ?_;rintro e w7 ⟨⟨kv7,iv7,rfl,hv7⟩,hb7⟩;obtain⟨u1,u2,u3,u4,rfl,rfl⟩:=hv7.form;have HB7:Hid (Below W2.heap.size W2 w7):=hid (aC HB6.out hb7);have HV7:Hid (eU W2.heap.size w7 x.depth x (.slice u1 x.keys.length u2) (.slice u3 x.items.length u4)):=hid (hv7.mono (λq hq _=>aW HB6.out.size hq));have HPN:=hid (iQ HB2.out HSZ.out.1 HSZ.out.2 HV7.out HB7.out HRB.out);obtain⟨r0,r1,r2,r3,f0,f1,f2,f3⟩:=bC ((HB7.out.block R HSZ.out.2).trans HRB.out);clear hv7 hb7 b0 b1 b2 b3;unfold vv;go_wp2_with fail;clear hw6 hZ;obtain⟨WF,hWF⟩:=exQ<|bF w7 R x.kind x.text (.slice u1 x.keys.length u2) (.slice u3 x.items.length u4);rw[hWF] at HPN;have hWF':(((w7.setCell ⟨R,0,none⟩ (.int .i64 x.kind)).setCell ⟨R,1,none⟩ (.string (bs x.text))).setCell ⟨R,2,none⟩ (.slice u1 x.keys.length u2)).setCell ⟨R,3,none⟩ (.slice u3 x.items.length u4)=WF:=hWF;rw[hWF'];clear hWF hWF' r0 r1 r2 r3 f0 f1 f2 f3;obtain⟨d0,d1,d2,d3,_⟩:=bC HPN.out.2.2;refine bodyPost_ret (v:= .tuple #[vv x (.slice u1 x.keys.length u2) (.slice u3 x.items.length u4), .bool true]) ?_ rfl ⟨⟨_,_,rfl,HPN.out.1⟩,HPN.out.2.1⟩;simp[results,Tryz.results12,go_sem,d0,d1,d2,d3,vv]
end
section
open Go.RowKit
theorem aBt {v:Nat->Value}{k j:Nat}{x:Value} (h:j≠k):bZ v (some k) x j=v j:=if_neg h
theorem aBu {v:Nat->Value}{k:Nat}{x:Value}:bZ v (some k) x k=x:=if_pos rfl
structure nK (ops:Array Oper) (L:List (Nat×Nat)) (Pd:Nat->Value->World->Prop) (I:World->Prop) (d:Nat->Bool) (v:Nat->Value) (w':World):Prop where
 clo:nY ops d
 at_: ∀p∈L,d p.1=true->Pd p.1 (v p.2) w'
 inv:I w'
section
variable {ops:Array Oper}{L:List (Nat×Nat)}{Pd:Nat->Value->World->Prop}{I:World->Prop}{d:Nat->Bool}{v:Nat->Value}{w' w2:World}
theorem nK.step (h:nK ops L Pd I d v w') {i q:Nat}{o:Oper} (hL:L.all (λa=>L.all λb=>(a.1==b.1)==(a.2==b.2))=true) (ho:ops[i]?=some o) (hall: ∀e∈o.after,Region.binds .any e=true->d e.on=true) (hm:(i,q)∈L) (hk: ∀p y,Pd p y w'->Pd p y w2) (hI:I w2) {y:Value} (hy:Pd i y w2):nK ops L Pd I (bI d i) (bZ v (some q) y) w2:=by
 refine⟨h.clo.step ho hall,λp hp hd=>?_,hI⟩;have h1:=fG.1 (fG.1 hL _ hm) p hp;by_cases e:p.1=i
 ·have e2:q=p.2:=by simpa [e] using h1
  rw[<-e2,aBu,e];exact hy
 ·have e2:p.2≠q:=λe2=>e (Eq.symm (show i=p.1 by simpa [e2] using h1));rw[aBt e2];rw[bM e] at hd;exact hk _ _ (h.at_ p hp hd)
theorem nK.set (h:nK ops L Pd I d v w') {i:Nat}{o:Oper} (hL:L.all (λa=>a.1 !=i)=true) (ho:ops[i]?=some o) (hall: ∀e∈o.after,Region.binds .any e=true->d e.on=true) (hk: ∀p y,Pd p y w'->Pd p y w2) (hI:I w2) (y:Value):nK ops L Pd I (bI d i) (bZ v none y) w2:=by
 refine⟨h.clo.step ho hall,λp hp hd=>?_,hI⟩;have h1:=fG.1 hL p hp;rw[bM (by simpa using h1)] at hd;exact hk _ _ (h.at_ p hp hd)
theorem nK.g {a:Array Value} (h:nK ops L Pd I d (λk=>a.getD k undef) w') (i q:Nat) (hm:(i,q)∈L) (hd:d i=true):Pd i (a[q]?.getD undef) w':=by
 have:=h.at_ _ hm hd;rw[<-aO];exact this
end
theorem aBv {P:Program}{ops:Array Oper}{Q:Exit->Act->World->Prop}{id:Nat}{a0:Act}{wB:World} (hm:P.follows .mixedOrders=true) (K:List Nat) (n:Nat) (hn:a0.tmps.size=n) (hback:pR ops=true) (hdst:nV ops K n=true) (L:List (Nat×Nat)) (hLn:L.all (λp=>decide (p.1<ops.size))=true) (Pd:Nat->Value->World->Prop) (I:World->Prop) (h0:I wB.drew)
  (hs: ∀(d:Nat->Bool) (a:Act) (w:World) (i:Nat) (o:Oper),ops[i]?=some o->d i=false->(∀e∈o.after,Region.binds .any e=true->d e.on=true)->(∀k,k ∉ K->a.tmps.getD k undef=a0.tmps.getD k undef)->nK ops L Pd I d (λk=>a.tmps.getD k undef) w->
   ∀R:Act->World->Prop,(∀x' w',nK ops L Pd I (bI d i) (bZ (λk=>a.tmps.getD k undef) o.dst x') w'->R (a.put o.dst x') w')->o.wp P a w R Q)
  (hd: ∀(v:Nat->Value) (w:World),(∀p∈L,Pd p.1 (v p.2) w)->I w->Q .normal { a0 with tmps:=cE a0.tmps v K } w):(Code.region id ops true).wp P Q a0 wB:=by
 refine vH hm K n hn hback hdst (λd v w'=>nK ops L Pd I d v w') ?_ hs (λv w h=>hd v w (λp hp=>h.at_ p hp ?_) h.inv)
 ·exact⟨λ_ _ _ h=>Bool.noConfusion h,λ_ _ h=>Bool.noConfusion h,h0⟩
 ·exact fG.1 hLn p hp
end
section
open Go.RowKit
open Go.Lib hiding intOf
structure Nr (s:aA) (d:dG):Prop where
 b:rF s d
 i: ∀l∈d.lines,l.ind<=1099511627776
 t: ∀k,k<d.nodes.length-> ∃m,dM d.nodes 32 k m
 g: ∀k,k<d.nodes.length->lY (bH s d 32 k)
 k: ∀x∈d.nodes,∀q∈x.kids,q<d.nodes.length
 n:0<d.nodes.length
def AtE (o:Option (Nat×Nat)):Ending:=match o with
 | some q=> .returned (.tuple #[.int .i64 (q.1:Int), .int .i64 (q.2:Int), .bool true])
 | none=> .returned (.tuple #[.int .i64 0, .int .i64 0, .bool false])
def zF (s:aA) (d:dG) (p:List aA):Option (Nat×Nat):=if nJ p=true then rI s d p 0 0 else none
theorem aBx {p:List aA} (h:nJ p=true) (i:Nat):nJ (p.drop i)=true:=by
 unfold nJ at h ⊢;simp only[fB,kY,fG] at h ⊢;exact⟨by rw[aV];omega,λx hx=>h.2 x (List.mem_of_mem_drop hx)⟩
theorem nT.drop {w:World}{g o:Nat}{l:List aA} (h:nT w (some ⟨g,o,none⟩) l) (i:Nat):nT w (some ⟨g,o+i,none⟩) (l.drop i):=by
 rcases h with h | ⟨g',o',e,h3,h4⟩
 ·exact .inl (by rw[h,List.drop_nil])
 ·injection e with e;injection e with e1 e2;subst e1 e2;exact .inr ⟨_,_,rfl,h3,λj x hx=>by rw[iI] at hx;rw[Nat.add_assoc];exact h4 _ _ hx⟩
def atL:List (Nat×Nat):= [(0,52),(1,53),(2,54),(3,55),(4,56),(5,51),(6,57),(7,58),(8,13),(10,14)]
def Ef (y:Value):Prop:= ∃k t p1 n1 c1 p2 n2 c2,y= .agg #[.int .i64 k, .string t, .slice p1 n1 c1, .slice p2 n2 c2]
def nL (W0:World) (tv pv cv:Value) (i:Nat) (b:Bool):Nat->Value->World->Prop
 | 0,y,_=>y=tv
 | 1,y,_=>y=pv
 | 2,y,_=>y= .int .i64 (i:Int)
 | 3,y,_=>y=cv
 | 4,y,_=> ∃u,Ef u/\y= .tuple #[u, .bool b]
 | 5,y,_=> ∃u,Ef u/\y= .tuple #[u, .bool b]
 | 6,y,_=>Ef y
 | 7,y,_=>y= .bool b
 | 8,y,w=> ∃Y cs,y= .pointer (some ⟨Y,0,none⟩)/\W0.heap.size<=Y/\w.heap[Y]?=some (.cells cs 26)/\cs.size=4
 | 10,y,_=>y= .bool b
 | _,_,_=>True
theorem nL.keep {W0 w w2:World}{tv pv cv:Value}{i:Nat}{b:Bool} (hk: ∀(q:Nat) (cs:Array Value),W0.heap.size<=q->w.heap[q]?=some (Obj.cells cs 26)->cs.size=4-> ∃cs',w2.heap[q]?=some (Obj.cells cs' 26)/\cs'.size=4): ∀(k:Nat) (y:Value),nL W0 tv pv cv i b k y w->nL W0 tv pv cv i b k y w2
 | 0,_,h=>h
 | 1,_,h=>h
 | 2,_,h=>h
 | 3,_,h=>h
 | 4,_,h=>h
 | 5,_,h=>h
 | 6,_,h=>h
 | 7,_,h=>h
 | 8,_,⟨Y,cs,h1,h2,h3,h4⟩=>by
  obtain⟨cs',h5,h6⟩:=hk Y cs h2 h3 h4;exact⟨Y,cs',h1,h2,h5,h6⟩
 | 9,_,_=>trivial
 | 10,_,h=>h
 | _+11,_,_=>trivial
theorem nL.below {W0 w w2:World}{tv pv cv:Value}{i:Nat}{b:Bool} (hb:Below w.heap.size w w2): ∀(k:Nat) (y:Value),nL W0 tv pv cv i b k y w->nL W0 tv pv cv i b k y w2:=nL.keep (λq cs _ hq hs=>⟨cs,(hb.block q (aF hq)).trans hq,hs⟩)
theorem zG {w:World}{Y i:Nat}{u:Value}{q:Nat}{cs:Array Value} (h:w.heap[q]?=some (Obj.cells cs 26)) (hs:cs.size=4): ∃cs',(w.setCell ⟨Y,i,none⟩ u).heap[q]?=some (Obj.cells cs' 26)/\cs'.size=4:=by
 by_cases e:q=Y
 ·subst e;exact⟨_,gL h i u,by rw[Array.size_setIfInBounds];exact hs⟩
 ·exact⟨cs,(dC _ ⟨Y,i,none⟩ _ q e).trans h,hs⟩
theorem aBz {w:World}{Y a b c e:Nat}{u1 u2 u3 u4:Value}{q:Nat}{cs:Array Value} (h:w.heap[q]?=some (Obj.cells cs 26)) (hs:cs.size=4): ∃cs',((((w.setCell ⟨Y,a,none⟩ u1).setCell ⟨Y,b,none⟩ u2).setCell ⟨Y,c,none⟩ u3).setCell ⟨Y,e,none⟩ u4).heap[q]?=some (Obj.cells cs' 26)/\cs'.size=4:=by
 obtain⟨c1,h1,s1⟩:=zG (Y:=Y) (i:=a) (u:=u1) h hs;obtain⟨c2,h2,s2⟩:=zG (Y:=Y) (i:=b) (u:=u2) h1 s1;obtain⟨c3,h3,s3⟩:=zG (Y:=Y) (i:=c) (u:=u3) h2 s2;exact zG h3 s3
theorem aBA (B:Nat) (s:aA) (d:dG) (lv:Value) (gn n cn:Nat) (path:List aA) (pv:Value) (w:World) (h:eY B d lv (.slice (some ⟨gn,0,none⟩) n cn) w) (hA:Nr s d) (hp:SV w pv path) (hpl:path.length<=1073741824) (hps: ∀x∈path,x.length<=1073741824) (hV:cA w):
  Calls Tryz.prog 11 #[.agg #[.string (bs s),lv, .slice (some ⟨gn,0,none⟩) n cn],pv] w λe w'=>e=AtE (zF s d path)/\Below w.heap.size w w':=by
 obtain⟨D,hDe⟩:=exQ<|w.heap.size;have b3:=aH w (.cells #[.string (bs s),lv, .slice (some ⟨gn,0,none⟩) n cn] 36);have x3:=heap_alloc_new w (.cells #[.string (bs s),lv, .slice (some ⟨gn,0,none⟩) n cn] 36);obtain⟨w3,hw3⟩:=exQ<|w.alloc (.cells #[.string (bs s),lv, .slice (some ⟨gn,0,none⟩) n cn] 36);rw[hw3] at b3 x3;rw[hDe] at x3;have HB3:=hid b3;have HX3:=hid x3;have h3:=h.keep b3;have hn0:n=d.nodes.length:=by
  obtain⟨x,hx⟩: ∃x,d.nodes[0]?=some x:=⟨_,bJ hA.n⟩;exact(h.nodeAt hx).1
 have hnp:0<n:=by rw[hn0];exact hA.n
 have hnb:n<=131072:=by rw[hn0];exact hA.b.nds
 have CR:=hid (Mz pv path w3 (hp.keep b3) hpl hps (hV.keep b3).tabs);obtain⟨pa,ca,rfl,hca,hlies⟩:=hp.keep b3;have HA:=hid hA;have HD:=hid h3;have HV:=hid (hV.keep b3);have HP:=hid (aI hlies (aI hca hps));have HN:=hid hn0;obtain⟨y,hy⟩:=exQ<|nJ path;obtain⟨O,hO⟩:=exQ<|zF s d path;rw[hO];unfold zF at hO;rw[hy] at CR hO;obtain⟨na,hna⟩:=exQ<|path.length;have HNA:=hid hna;rw[hna] at CR hpl ⊢;have HY:=hid hy;have dn:((n:Int)==0)=false:=aG.2 (by omega);obtain⟨c0,c1,c2,_⟩:=gQ x3;clear b3 x3 h h3 hp hV hA hlies hca hps hn0 hy hna;go_enter Tryz.func11,Tryz.ntmps11;go_upto_region 1 with fail;clear hw3 hDe;go_wp2_with fail;refine CR.out.mono ?_;rintro e w4 ⟨rfl,hb4⟩;have HB4:=hid hb4;clear hb4 c0 c1 c2 CR;cases y with
 | false=>
  rw[if_neg (by simp)] at hO;subst hO;go_wp2_with fail;go_ret3;exact⟨rfl,by first | exact aC HB3.out HB4.out | exact(aC HB3.out HB4.out).drew⟩
 | true=>
  rw[if_pos rfl] at hO;have HS0:Hid (rI s d (path.drop 0) 0 0=O/\Below w3.heap.size w3 w4):=hid ⟨by rw[List.drop_zero];exact hO,HB4.out⟩;have HC:Hid (∀w',Below w3.heap.size w3 w'->w'.cell? ⟨D,0,none⟩=some (.string (bs s))/\w'.cell? ⟨D,1,none⟩=some lv/\w'.cell? ⟨D,2,none⟩=some (.slice (some ⟨gn,0,none⟩) n cn)):=hid (λw' hb=>by obtain⟨c0,c1,c2,_⟩:=gQ HX3.out;exact⟨bE c0 hb,bE c1 hb,bE c2 hb⟩);clear hO;go_wp2_with fail;go_loopw [7,28] (λs7 s28 wr=> ∃(k i:Nat),s7= .int .i64 (k:Int)/\s28= .int .i64 (i:Int)/\k<n/\i<=na/\Hid (rI s d (path.drop i) k i=O/\Below w3.heap.size w3 wr)) (λ_ s28 _=>na-(RowKit.intOf s28).toNat)
  case atStart=>exact⟨0,0,rfl,rfl,by omega,cN _,by first | exact HS0 | exact hid ⟨HS0.out.1,HS0.out.2.drew⟩⟩
  case round=>
   obtain⟨k,i,rfl,rfl,hk,hi,HI⟩:=hrel;obtain⟨c0,c1,c2⟩:=HC.out wr HI.out.2;by_cases hil:i<na
   ·obtain⟨st,hst⟩: ∃st,path[i]?=some st:=⟨_,bJ (by have:=HNA.out;omega)⟩;obtain⟨g,o,rfl,cst⟩:=HP.out.1.at_ hst;have cst:=bE cst HI.out.2;obtain⟨x,hx⟩: ∃x,d.nodes[k]?=some x:=⟨_,bJ (by have:=HN.out;omega)⟩;have hDr:=HD.out.keep HI.out.2;obtain⟨hnd,pk,ck,hcell,hkc⟩:=hDr.nodeAt hx;clear hnd hkc;have y0:=hcell 0 _ (by omega) rfl;simp only[Nat.add_zero] at y0;have hat:rI s d (path.drop i) k i=(if x.kind≠2/\x.kind≠3 then(if(jZ (path.drop i) (bH s d 32 k)).isSome then some (k,i) else none) else match qN s d.nodes x st with
      | none=>none
      | some q=>rI s d (path.drop (i+1)) q (i+1)):=by
     obtain⟨hlt,he⟩:=aQ.1 hst;rw[iK hlt,he,rI,hx];rfl
    have HO:=HI.out.1;rw[hat] at HO;have di:decide ((i:Int)<(na:Int))=true:=aN (by omega);have i0:(0:Int)<=(i:Int):=(by omega);have i1:(i:Int)<(na:Int):=(by omega);have k0:(0:Int)<=(k:Int):=(by omega);have k1:(k:Int)<(n:Int):=(by omega);have HX:=hid (aI hst hx);clear hst hx hcell hat;by_cases hkd:x.kind≠2/\x.kind≠3
    ·rw[if_pos hkd] at HO;have g1:((x.kind:Int) !=2)=true:=fH.2 (by omega);have g2:((x.kind:Int) !=3)=true:=fH.2 (by omega);have g3:((x.kind:Int)==2)=false:=aG.2 (by omega);have g4:((x.kind:Int)==3)=false:=aG.2 (by omega);obtain⟨m,hTK⟩:=HA.out.t k (by have:=HN.out;omega);have CN:=hid (Mi s d HA.out.b HA.out.i _ _ _ k m wr hTK hDr (HV.out.keep HI.out.2));have hGT:=hid (HA.out.g k (by have:=HN.out;omega));obtain⟨T,hT⟩:=exQ<|bH s d 32 k;rw[hT] at CN hGT HO;obtain⟨b,hb⟩:=exQ<|(jZ (path.drop i) T).isSome;rw[hb] at HO;have HO2:=hid HO;have HBb:=hid hb;clear hkd hTK hDr hT hb HO;go_wp2_with fail;refine CN.out.mono ?_;rintro e w5 ⟨⟨kv,iv,rfl,hv⟩,hb5⟩;obtain⟨pkT,ckT,piT,ciT,rfl,rfl⟩:=hv.form;have HB5:=hid (aC HI.out.2 hb5);have HVT:=hid hv.toVD;obtain⟨Z,hZ⟩:=exQ<|w5.heap.size;have b6:=aH w5 (.cells #[.int .i64 T.kind, .string (bs T.text), .slice pkT T.keys.length ckT, .slice piT T.items.length ciT] 26);have x6:=heap_alloc_new w5 (.cells #[.int .i64 T.kind, .string (bs T.text), .slice pkT T.keys.length ckT, .slice piT T.items.length ciT] 26);obtain⟨w6,hw6⟩:=exQ<|w5.alloc (.cells #[.int .i64 T.kind, .string (bs T.text), .slice pkT T.keys.length ckT, .slice piT T.items.length ciT] 26);rw[hw6] at b6 x6;rw[hZ] at x6;have HB6:=hid (aC HB5.out b6);have HVT6:=hid (HVT.out.keep b6);have HZ6:=hid x6;clear hv hb5 b6 x6 c0 c1 c2 cst y0;unfold vv;go_upto_region 10 with fail;clear hw6 hZ;have hca:=HP.out.2.1;have CF:Hid (∀w',Below w6.heap.size w6 w'->Calls Tryz.prog 12 #[.agg #[.int .i64 T.kind, .string (bs T.text), .slice pkT T.keys.length ckT, .slice piT T.items.length ciT], .slice (some ⟨g,o+i,none⟩) (na-i) (ca-i)] w' (Nq (uP (path.drop i) T) w')):=hid (λw' hb=>by have hb3:=aC HB6.out hb;have:=aBs _ T _ _ (path.drop i) (.slice (some ⟨g,o+i,none⟩) (na-i) (ca-i)) w' (HVT6.out.keep hb) hGT.out ⟨_,_,by rw[aV,HNA.out],by rw[aV];omega,(HP.out.1.drop i).keep hb3⟩ (by rw[aV];have:=HNA.out;omega) (λx hx=>HP.out.2.2 x (List.mem_of_mem_drop hx)) (HV.out.keep hb3);exact this);have hfb:(uP (path.drop i) T).isSome=b:=by
      unfold uP;rw[if_pos (aBx HY.out i)];exact HBb.out
     have HFb:=hid hfb;clear hfb hca;obtain⟨W0,hW0⟩:=exQ<|w6.drew;have HB0:Hid (Below w6.heap.size w6 W0):=hid (by rw[<-hW0];exact(aB _ _).drew);have hfol:Tryz.prog.follows .mixedOrders=true:=(by kernel_rfl);have hci:i<ca:=by have:=HP.out.2.1;have:=HNA.out;omega
     have hin:i<=na:=(by omega);have hina:na<=ca:=by have:=HP.out.2.1;have:=HNA.out;omega
     refine aBv hfol [52,53,54,55,56,51,57,58,13,14] 88 rfl (by kernel_rfl) (by kernel_rfl) atL (by kernel_rfl) (nL W0 (.agg #[.int .i64 T.kind, .string (bs T.text), .slice pkT T.keys.length ckT, .slice piT T.items.length ciT]) (.slice (some ⟨g,o,none⟩) na ca) (.slice (some ⟨g,o+i,none⟩) (na-i) (ca-i)) i b) (λw'=>Below W0.heap.size W0 w') (by rw[hW0];exact aB _ _) ?_ ?_
     ·intro d' a w' iq o' ho hi2 hall hfr hF R' hR;have hiN:iq<11:=(cM.1 ho).1;have q1:a.tmps[1]?.getD undef= .slice (some ⟨g,o,none⟩) na ca:=aY hfr 1 (by decide);have q8:a.tmps[8]?.getD undef= .int .i64 (i:Int):=aY hfr 8 (by decide);have q11:a.tmps[11]?.getD undef= .pointer (some ⟨Z,0,none⟩):=aY hfr 11 (by decide);clear hfr;have ha:=hall;have hoo:=ho;have hinv:=hF.inv;have hcs:iq=0\/iq=3\/iq=4\/iq=5\/iq=6\/iq=7\/iq=8\/iq=9\/iq=10\/iq=1\/iq=2:=(by omega);clear hiN;rcases hcs with rfl|rfl|rfl|rfl|rfl|rfl|rfl|rfl|rfl|rfl|rfl<;>simp only[dW,dA,cD,cS] at ho<;>subst ho<;>(try simp[Region.binds] at hall)
      ·have hb:=aC HB0.out hinv;obtain⟨b0,b1,b2,b3,_⟩:=bC ((hb.block Z (aF HZ6.out)).trans HZ6.out);clear hb;go_simp;exact hR _ _ (hF.step (by decide) hoo ha (by decide) (λ_ _ h=>h) hinv rfl)
      ·have c53:a.tmps[53]?.getD undef= .slice (some ⟨g,o,none⟩) na ca:=hF.g 1 53 (by decide) (by simp[hall]);have c54:a.tmps[54]?.getD undef= .int .i64 (i:Int):=hF.g 2 54 (by decide) (by simp[hall]);go_simp;rw[if_neg (show ¬ca=i by omega)];exact hR _ _ (hF.step (by decide) hoo ha (by decide) (λ_ _ h=>h) hinv rfl)
      ·have c52:a.tmps[52]?.getD undef= .agg #[.int .i64 T.kind, .string (bs T.text), .slice pkT T.keys.length ckT, .slice piT T.items.length ciT]:=hF.g 0 52 (by decide) (by simp[hall]);have c55:a.tmps[55]?.getD undef= .slice (some ⟨g,o+i,none⟩) (na-i) (ca-i):=hF.g 3 55 (by decide) (by simp[hall]);go_simp;go_at_call 12;refine(CF.out w' (aC HB0.out hinv)).mono ?_;rintro e w7 ⟨⟨kx,ix,rfl,hv7⟩,hb7⟩;obtain⟨u1,u2,u3,u4,rfl,rfl⟩:=hv7.form;exact hR _ _ (hF.step (by decide) hoo ha (by decide) (nL.below hb7) (aC hinv hb7) ⟨_,⟨_,_,_,_,_,_,_,_,rfl⟩,by rw[HFb.out];rfl⟩)
      ·obtain⟨u,hu,c56⟩:=hF.g 4 56 (by decide) (by simp[hall]);go_simp;exact hR _ _ (hF.step (by decide) hoo ha (by decide) (λ_ _ h=>h) hinv ⟨u,hu,rfl⟩)
      ·obtain⟨u,hu,c51⟩:=hF.g 5 51 (by decide) (by simp[hall]);go_simp;exact hR _ _ (hF.step (by decide) hoo ha (by decide) (λ_ _ h=>h) hinv hu)
      ·obtain⟨u,hu,c51⟩:=hF.g 5 51 (by decide) (by simp[hall]);go_simp;exact hR _ _ (hF.step (by decide) hoo ha (by decide) (λ_ _ h=>h) hinv rfl)
      ·have hb8:=aH w' (.cells #[.int .i64 0, .string ⟨#[]⟩, .slice none 0 0, .slice none 0 0] 26);go_simp;exact hR _ _ (hF.step (by decide) hoo ha (by decide) (nL.below hb8) (aC hinv hb8) ⟨_,_,rfl,hinv.size,heap_alloc_new w' _,rfl⟩)
      ·obtain⟨k',t',p1,n1,c1',p2,n2,c2',c57⟩:=hF.g 6 57 (by decide) (by simp[hall]);obtain⟨Y,cs,c13,hY,hYb,hcs⟩:=hF.g 8 13 (by decide) (by simp[hall]);obtain⟨e0,e1,e2,e3,rfl⟩: ∃a b c e,cs= #[a,b,c,e]:=by
        obtain⟨l⟩:=cs
        match l,hcs with
        | [a,b,c,e],_=>exact⟨a,b,c,e,rfl⟩
       obtain⟨x0,x1,x2,x3,f0,f1,f2,f3⟩:=bC hYb;go_simp;exact hR undef _ (hF.set (by decide) hoo ha (nL.keep (λq cs hq hqc hqs=>aBz hqc hqs)) ((((hinv.setCell (p:=⟨Y,0,none⟩) hY _).setCell (p:=⟨Y,1,none⟩) hY _).setCell (p:=⟨Y,2,none⟩) hY _).setCell (p:=⟨Y,3,none⟩) hY _) undef)
      ·have c58:a.tmps[58]?.getD undef= .bool b:=hF.g 7 58 (by decide) (by simp[hall]);go_simp;exact hR _ _ (hF.step (by decide) hoo ha (by decide) (λ_ _ h=>h) hinv rfl)
      iterate 2 (go_simp;exact hR _ _ (hF.step (by decide) hoo ha (by decide) (λ_ _ h=>h) hinv rfl))
     intro v wz hv hbz;have v14:v 14= .bool b:=hv (10,14) (by decide);have HBz:=hid (aC HB3.out (aC HB6.out (aC HB0.out hbz)));simp only[cE,eE,dF,eF,v14];clear hv hbz v14 hW0 HZ6 HVT6 HVT CF;have HO:=HO2.out;cases b with
     | false=>
      rw[if_neg (by simp)] at HO;subst HO;go_wp2_with fail;go_ret3;exact⟨rfl,by first | exact HBz.out | exact HBz.out.drew⟩
     | true=>
      rw[if_pos rfl] at HO;subst HO;go_wp2_with fail;go_ret3;exact⟨rfl,by first | exact HBz.out | exact HBz.out.drew⟩
    ·rw[if_neg hkd] at HO;have CS:=hid (aAR B s d lv gn n cn k x st wr hDr HX.out.2 (HA.out.k x (aX HX.out.2)) (HA.out.b.nd x (aX HX.out.2)).2.2 hnb HA.out.b.txt (HV.out.keep HI.out.2));have hkk:x.kind=2\/x.kind=3:=by
      by_cases e:x.kind=2
      ·exact .inl e
      ·exact .inr (Classical.byContradiction λe3=>hkd ⟨e,e3⟩)
     have hkid: ∀q,qN s d.nodes x st=some q->q<n:=λq hq=>by
      rw[HN.out];refine HA.out.k x (aX HX.out.2) q ?_;unfold qN at hq;split at hq
      ·split at hq
       ·exact aX hq
       ·cases hq
      ·exact List.mem_of_find?_eq_some hq
     obtain⟨Q,hQ⟩:=exQ<|qN s d.nodes x st;rw[hQ] at CS HO hkid;obtain⟨kd,hkdI⟩: ∃kd:Int,(x.kind:Int)=kd:=⟨_,rfl⟩;rw[hkdI] at y0;have hkk2:kd=2\/kd=3:=(by omega);have HO2:=hid HO;clear hkd hDr hQ HO hkk hkdI;cases Q with
     | none=>
      have HO:=HO2.out;have HO:none=O:=HO;subst HO;have CS:Hid (Calls Tryz.prog 20 #[.agg #[.string (bs s),lv, .slice (some ⟨gn,0,none⟩) n cn], .int .i64 (k:Int), .string (bs st)] wr λe w'=>e= .returned (.tuple #[.int .i64 0, .bool false])/\Below wr.heap.size wr w'):=CS;rcases hkk2 with rfl|rfl
      ·go_wp2_with fail;refine CS.out.mono ?_;rintro e w5 ⟨rfl,hb5⟩;have HB5:=hid (aC HB3.out (aC HI.out.2 hb5));clear hb5 c0 c1 c2 cst y0;go_wp2_with fail;go_ret3;exact⟨rfl,by first | exact HB5.out | exact HB5.out.drew⟩
      ·go_wp2_with fail;refine CS.out.mono ?_;rintro e w5 ⟨rfl,hb5⟩;have HB5:=hid (aC HB3.out (aC HI.out.2 hb5));clear hb5 c0 c1 c2 cst y0;go_wp2_with fail;go_ret3;exact⟨rfl,by first | exact HB5.out | exact HB5.out.drew⟩
     | some q=>
      have HO:Hid (rI s d (path.drop (i+1)) q (i+1)=O):=HO2;have hqn:=hkid q rfl;have CS:Hid (Calls Tryz.prog 20 #[.agg #[.string (bs s),lv, .slice (some ⟨gn,0,none⟩) n cn], .int .i64 (k:Int), .string (bs st)] wr λe w'=>e= .returned (.tuple #[.int .i64 (q:Int), .bool true])/\Below wr.heap.size wr w'):=CS;have e1:decide ((q:Int)<0)=false:=aJ (by omega);have e2:decide ((n:Int)<=(q:Int))=false:=aJ (by omega);have e3:decide (n<=q)=false:=aJ (by omega);clear hkid;rcases hkk2 with rfl|rfl
      ·go_wp2_with fail;refine CS.out.mono ?_;rintro e w5 ⟨rfl,hb5⟩;have HB5:=hid (aC HI.out.2 hb5);obtain⟨c0,c1,c2⟩:=HC.out w5 HB5.out;clear hb5 cst y0;go_wp2_with fail;go_roundw
       case rel=>exact⟨q,i+1,rfl,by go_num,hqn,by omega,hid ⟨HO.out,by first | exact HB5.out | exact HB5.out.drew⟩⟩
       case measure=>simp[RowKit.intOf];omega
      ·go_wp2_with fail;refine CS.out.mono ?_;rintro e w5 ⟨rfl,hb5⟩;have HB5:=hid (aC HI.out.2 hb5);obtain⟨c0,c1,c2⟩:=HC.out w5 HB5.out;clear hb5 cst y0;go_wp2_with fail;go_roundw
       case rel=>exact⟨q,i+1,rfl,by go_num,hqn,by omega,hid ⟨HO.out,by first | exact HB5.out | exact HB5.out.drew⟩⟩
       case measure=>simp[RowKit.intOf];omega
   ·have di:decide ((i:Int)<(na:Int))=false:=aJ (by omega);have HO:=HI.out.1;rw[List.drop_eq_nil_of_le (by have:=HNA.out;omega)] at HO;have HO:some (k,i)=O:=HO;obtain rfl:i=na:=(by omega);subst HO;have HB5:=hid (aC HB3.out HI.out.2);clear c0 c1 c2;go_wp2_with fail;go_ret3;exact⟨rfl,by first | exact HB5.out | exact HB5.out.drew⟩
def pK:aA:= [97,58,32,91,49,44,32,50,93]
def tE:dG:=⟨[⟨4,0,9,0,0,1,3,9,0,0⟩],[⟨3,0,0,1,0,0,0,0,[1]⟩,⟨1,0,0,1,0,1,3,9,[]⟩]⟩
theorem aBB:gN pK=(tE,9,0):=by kernel_rfl
theorem aBC:zF pK tE [[97],[49]]=some (1,1):=by kernel_rfl
theorem aBD:qL [91,49,93]=(1,true):=by kernel_rfl
theorem aBE:qL [97,58,32,49]=(2,true):=by kernel_rfl
theorem aBF:qL [97,58,32,98,58,32,99]=(0,false):=by kernel_rfl
theorem Ns:(gN [45,32,49]).2.2=0/\(rH [45,32,49]).items.length=1:=by decide+kernel
theorem aBG {t:VT} (h:(qM t&&dO (λt=>decide (t.kind≠7)) t&&decide (t.bulk<=1073741824))=true):lY t:=by
 simp only[fB,kY] at h;exact⟨h.1.1,by unfold mM;simpa using h.1.2,h.2⟩
theorem aBH:Nr pK tE where
 b:=⟨by decide,by decide,by decide,by decide,by decide⟩
 i:=by decide
 t:=λk hk=>by
  have h1:dM tE.nodes 31 1 2:=⟨_,rfl,rfl⟩;have hk:k<2:=hk;have:k=0\/k=1:=by omega
  rcases this with rfl|rfl
  ·exact⟨2,_,rfl,rfl,2,h1,rfl⟩
  ·exact⟨2,_,rfl,rfl⟩
 g:=λk hk=>by
  have hk:k<2:=hk;have:k=0\/k=1:=by omega
  rcases this with rfl|rfl<;>exact aBG (by kernel_rfl)
 k:=by decide
 n:=by decide
theorem aBI (w:World) (hV:cA w):
  Calls Tryz.prog 5 #[] w λe w'=>e= .returned (.bool true)/\Below w.heap.size w w':=by
 have CG:Hid (∀(s:aA) w',s.length<=1073741824->Below w.heap.size w w'->Calls Tryz.prog 14 #[.string (bs s)] w' λe w2=>e= .returned (.tuple #[.int .i64 (qL s).1, .bool (qL s).2])/\Below w'.heap.size w' w2):=hid (λs w' hs hb=>aAn s w' hs (hV.keep hb));have HV:=hid hV;have C1:Hid (∀w',Below w.heap.size w w'->Calls Tryz.prog 14 #[.string ⟨#[91,49,93]⟩] w' λe w2=>e= .returned (.tuple #[.int .i64 1, .bool true])/\Below w'.heap.size w' w2):=hid (λw' hb=>by have:=CG.out [91,49,93] w' (by decide) hb;rw[aBD] at this;exact this);have C2:Hid (∀w',Below w.heap.size w w'->Calls Tryz.prog 14 #[.string ⟨#[97,58,32,49]⟩] w' λe w2=>e= .returned (.tuple #[.int .i64 2, .bool true])/\Below w'.heap.size w' w2):=hid (λw' hb=>by have:=CG.out [97,58,32,49] w' (by decide) hb;rw[aBE] at this;exact this);have C3:Hid (∀w',Below w.heap.size w w'->Calls Tryz.prog 14 #[.string ⟨#[97,58,32,98,58,32,99]⟩] w' λe w2=>e= .returned (.tuple #[.int .i64 0, .bool false])/\Below w'.heap.size w' w2):=hid (λw' hb=>by have:=CG.out [97,58,32,98,58,32,99] w' (by decide) hb;rw[aBF] at this;exact this);have C4:Hid (∀w',Below w.heap.size w w'->Calls Tryz.prog 10 #[.string ⟨#[97,58,32,91,49,44,32,50,93]⟩] w' λe w2=> ∃pl cl gn cn,e= .returned (.tuple #[.agg #[.string (bs pK), .slice pl 1 cl, .slice (some ⟨gn,0,none⟩) 2 cn], .int .i64 9, .int .i64 0])/\eY w'.heap.size tE (.slice pl 1 cl) (.slice (some ⟨gn,0,none⟩) 2 cn) w2/\Below w'.heap.size w' w2):=hid (λw' hb=>by
  have:=Mb pK w' (HV.out.keep hb);rw[aBB] at this;refine this.mono ?_;rintro e w2 ⟨tx,lv,nv,rfl,rfl,hd,hb2⟩;obtain⟨⟨pl,cl,rfl⟩,pn,cn,rfl⟩:=hd.formsR;obtain⟨gn,rfl⟩: ∃gn,pn=some ⟨gn,0,none⟩:=by
   obtain⟨z,hz,_,hnd⟩:=hd;obtain⟨g,c,cur,e,_⟩:=hnd.form (λe=>by rw[e] at hz;cases hz);injection e with e;exact⟨g,e⟩
  exact⟨pl,cl,gn,cn,rfl,hd,hb2⟩)
 have C5:Hid (∀w',Below w.heap.size w w'->Calls Tryz.prog 7 #[.string ⟨#[45,32,49]⟩] w' λe w2=> ∃k t p1 n1 c1 p2 c2 a,e= .returned (.tuple #[.agg #[.int .i64 k, .string t, .slice p1 n1 c1, .slice p2 1 c2], .int .i64 a, .int .i64 0])/\Below w'.heap.size w' w2):=hid (λw' hb=>by have:=Dw [45,32,49] w' (HV.out.keep hb);rw[Ns.1] at this;refine this.mono ?_;rintro e w2 ⟨⟨kv,iv,rfl,hv⟩,hb2⟩;obtain⟨u1,u2,u3,u4,rfl,rfl⟩:=hv.form;rw[Ns.2];exact⟨_,_,_,_,_,_,_,_,rfl,hb2⟩);have C6:Hid (∀(B gn cn:Nat) (lv pv:Value) w',Below w.heap.size w w'->eY B tE lv (.slice (some ⟨gn,0,none⟩) 2 cn) w'->SV w' pv [[97],[49]]->Calls Tryz.prog 11 #[.agg #[.string (bs pK),lv, .slice (some ⟨gn,0,none⟩) 2 cn],pv] w' λe w2=>e= .returned (.tuple #[.int .i64 1, .int .i64 1, .bool true])/\Below w'.heap.size w' w2):=hid (λB gn cn lv pv w' hb hd hp=>by have:=aBA B pK tE lv gn 2 cn [[97],[49]] pv w' hd aBH hp (by decide) (by decide) (HV.out.keep hb);rw[aBC] at this;exact this);clear hV CG HV;go_enter Tryz.func5,Tryz.ntmps5;go_wp2_with fail;refine(C1.out w (aB _ _)).mono ?_;rintro e w1 ⟨rfl,hb1⟩;have HB1:=hid hb1;clear hb1 C1;go_wp2_with fail;refine(C2.out w1 HB1.out).mono ?_;rintro e w2 ⟨rfl,hb2⟩;have HB2:=hid (aC HB1.out hb2);clear hb2 C2;go_wp2_with fail;refine(C3.out w2 HB2.out).mono ?_;rintro e w3 ⟨rfl,hb3⟩;have HB3:=hid (aC HB2.out hb3);clear hb3 C3;go_wp2_with fail;refine(C4.out w3 HB3.out).mono ?_;rintro e w4 ⟨pl,cl,gn,cn,rfl,hd4,hb4⟩;have HB4:=hid (aC HB3.out hb4);have HD4:=hid hd4;clear hb4 hd4 C4;obtain⟨D,hD⟩:=exQ<|w4.heap.size;have b5:=aH w4 (.cells #[.string (bs pK), .slice pl 1 cl, .slice (some ⟨gn,0,none⟩) 2 cn] 36);have x5:=heap_alloc_new w4 (.cells #[.string (bs pK), .slice pl 1 cl, .slice (some ⟨gn,0,none⟩) 2 cn] 36);obtain⟨w5,hw5⟩:=exQ<|w4.alloc (.cells #[.string (bs pK), .slice pl 1 cl, .slice (some ⟨gn,0,none⟩) 2 cn] 36);rw[hw5] at b5 x5;rw[hD] at x5;obtain⟨Y,hY⟩:=exQ<|w5.heap.size;have b6:=aH w5 (.cells #[.string ⟨#[97]⟩, .string ⟨#[49]⟩] 9);have x6:=heap_alloc_new w5 (.cells #[.string ⟨#[97]⟩, .string ⟨#[49]⟩] 9);obtain⟨w6,hw6⟩:=exQ<|w5.alloc (.cells #[.string ⟨#[97]⟩, .string ⟨#[49]⟩] 9);rw[hw6] at b6 x6;rw[hY] at x6;have HB6:=hid (aC HB4.out (aC b5 b6));have HD6:=hid (HD4.out.keep (aC b5 b6));have HS6:Hid (SV w6 (.slice (some ⟨Y,0,none⟩) 2 2) [[97],[49]]):=hid ⟨_,2,rfl,aE _, .inr ⟨Y,0,rfl,aF x6,λj x hx=>by
  have hj:=(aQ.1 hx).1;have:j=0\/j=1:=by simp at hj;omega
  rcases this with rfl|rfl<;>(simp at hx;subst hx;simp[World.cell?,x6];rfl)⟩⟩
 obtain⟨c0,c1,c2,_⟩:=gQ x5;clear b5 b6 x5 x6;go_wp2_with fail;refine(C6.out _ gn cn _ _ w6 HB6.out HD6.out HS6.out).mono ?_;rintro e w7 ⟨rfl,hb7⟩;have HB7:=hid (aC HB6.out hb7);clear hb7 C6 c0 c1 c2 hw5 hw6 hD hY;go_wp2_with fail;refine(C5.out w7 HB7.out).mono ?_;rintro e w8 ⟨k,t,p1,n1,c1,p2,c2,a,rfl,hb8⟩;have HB8:=hid (aC HB7.out hb8);clear hb8 C5;have b9:=aH w8 (.cells #[.int .i64 k, .string t, .slice p1 n1 c1, .slice p2 1 c2] 26);have HB9:=hid (aC HB8.out b9);clear b9;go_wp2_with fail;go_ret;exact⟨rfl,by first | exact HB9.out | exact HB9.out.drew⟩
end
section
open Go.Lib hiding intOf
theorem zH (c:UInt8) (r:aA) (h:c.toNat<128):validD (c::r)=validD r:=by
 have h1:=Pz [c] r (Ln [c] (λd hd=>by rw[kH.1 hd];exact h));exact h1
theorem wZ: ∀(k:Nat) (l:aA),k<=l.length->(∀j c,j<k->l[j]?=some c->c.toNat<128)->validD l=validD (l.drop k)
 | 0,l,_,_=>rfl
 | k+1,[],h,_=>by simp at h
 | k+1,c::r,h,hc=>by
  rw[zH c r (hc 0 c (by omega) rfl),List.drop_succ_cons];exact wZ k r (by simp at h;omega) (λj d hj hd=>hc (j+1) d (by omega) (by rw[cD];exact hd))
theorem aBJ {c:UInt8}{n:Nat} (h:kW c=some n):c.toNat<128:=by
 unfold kW at h;split at h
 ·omega
 ·split at h
  ·omega
  ·split at h
   ·omega
   ·cases h
theorem Nt: ∀(l:aA) (a n:Nat),gK a l=some n-> ∀c∈l,c.toNat<128
 | [],_,_,_,c,hc=>by cases hc
 | d::r,a,n,h,c,hc=>by
  unfold gK at h;split at h
  ·cases h
  ·rename_i m hm;rcases dN.1 hc with e | e
   ·rw[e];exact aBJ hm
   ·exact Nt r _ n h c e
theorem Nu {l:aA}{n:Nat} (h:eO l=some n):4<=l.length/\ ∀j c,j<4->l[j]?=some c->c.toNat<128:=by
 unfold eO at h;split at h
 ·cases h
 ·refine⟨by omega,λj c hj hc=>?_⟩;refine Nt _ _ _ h c ?_;have:(l.take 4)[j]?=some c:=by rw[List.getElem?_take,if_pos hj];exact hc
  exact aX this
theorem aBK {r:aA} (h:(jF (92::r)).2≠0):validD (92::r)=validD ((92::r).drop (jF (92::r)).2.toNat):=by
 unfold jF at h ⊢;cases r with
 | nil=>simp at h
 | cons c r=>
  simp only[cD,dA] at h ⊢;by_cases hm:(kE c.toNat).2=true
  ·rw[if_pos hm] at h ⊢;simp only[];have hc:c.toNat<128:=by
    unfold kE at hm
    repeat' split at hm
    all_goals first | omega | (simp at hm)
   exact wZ 2 _ (by simp) (λj d hj hd=>by
    have:j=0\/j=1:=(by omega);rcases this with rfl|rfl
    ·simp at hd;rw[<-hd];decide
    ·simp at hd;rw[<-hd];exact hc)
  ·rw [if_neg hm] at h ⊢;by_cases hu:c.toNat=117
   ·rw [if_pos hu] at h ⊢;unfold fM at h ⊢;have hu2:c.toNat<128:=(by omega);cases h4:eO ((92::c::r).drop 2) with
    | none=>rw[h4] at h;simp at h
    | some hh=>
     rw[h4] at h;simp only[] at h ⊢;obtain⟨f1,f2⟩:=Nu h4;rw[aV] at f1;have g6: ∀j d,j<6->(92::c::r)[j]?=some d->d.toNat<128:=λj d hj hd=>by
      by_cases h2:j<2
      ·have:j=0\/j=1:=(by omega);rcases this with rfl|rfl
       ·simp at hd;rw[<-hd];decide
       ·simp at hd;rw[<-hd];exact hu2
      ·exact f2 (j-2) d (by omega) (by rw[iI,show 2+(j-2)=j by omega];exact hd)
     split at h
     ·simp at h
     ·rename_i hn;rw[if_neg hn];split at h
      ·rename_i hs;rw[if_pos hs];exact wZ 6 _ (by omega) g6
      ·rename_i hs;rw[if_neg hs];split at h
       ·simp at h
       ·rename_i hp;rw[if_neg hp];cases h5:eO ((92::c::r).drop 8) with
        | none=>rw[h5] at h;simp at h
        | some lo=>
         rw[h5] at h;simp only[] at h ⊢;obtain⟨e1,e2⟩:=Nu h5;rw[aV] at e1;split at h
         ·simp at h
         ·rename_i hq;rw[if_neg hq];refine wZ 12 _ (by omega) (λj d hj hd=>?_);by_cases h6:j<6
          ·exact g6 j d h6 hd
          ·by_cases h8:j<8
           ·have hpx:Lib.hasPrefix ((92::c::r).drop 6) [92,117]=true:=(by simpa using hp);unfold Lib.hasPrefix at hpx;obtain⟨t,ht⟩:=List.isPrefixOf_iff_prefix.1 hpx;have hd2:((92::c::r).drop 6)[j-6]?=some d:=by rw[iI,show 6+(j-6)=j by omega];exact hd
            rw[<-ht] at hd2;have:j-6=0\/j-6=1:=(by omega);rcases this with e | e
            ·rw[e] at hd2;simp at hd2;rw[<-hd2];decide
            ·rw[e] at hd2;simp at hd2;rw[<-hd2];decide
           ·exact e2 (j-8) d (by omega) (by rw[iI,show 8+(j-8)=j by omega];exact hd)
   ·rw[if_neg hu] at h;simp at h
theorem aBL {c:UInt8}{r:aA} (h:(cI (c::r)).2≠0):validD (c::r)=validD ((c::r).drop (cI (c::r)).2.toNat):=by
 unfold cI at h ⊢;by_cases hc:(c::r).head?=some 92
 ·rw[if_pos hc] at h ⊢;simp at hc;subst hc;exact aBK h
 ·rw[if_neg hc] at h ⊢;cases hp:fV (Lib.decodeL (c::r)) with
  | true=>rw[hp] at h;simp at h
  | false=>
   simp only[Bool.false_eq_true,if_false,fC];rw[validD_step (c::r) (List.cons_ne_nil _ _),if_neg];unfold fV at hp;simp only[Bool.or_eq_false_iff,Bool.and_eq_false_iff,aG] at hp;intro e;rcases hp.2 with h1 | h1
   ·exact h1 e.1
   ·exact h1 e.2
theorem Nv: ∀(f:Nat) (l:aA) (i:Nat) (acc:aA),(bY f l i acc).2.2=0->validD l=validD (l.drop ((bY f l i acc).2.1-i).toNat)
 | 0,_,_,_,h=>by simp[bY] at h
 | _+1,[],_,_,h=>by simp[bY] at h
 | f+1,c::r,i,acc,h=>by
  unfold bY at h ⊢;by_cases h34:c=34
  ·rw[if_pos h34];simp only[];rw[show ((i:Int)+1-i).toNat=1 by omega,List.drop_succ_cons,List.drop_zero,h34];exact zH 34 r (by decide)
  ·rw[if_neg h34] at h ⊢;by_cases hp:(cI (c::r)).2=0
   ·rw[if_pos hp] at h;simp at h
   ·rw[if_neg hp] at h ⊢;have ih:=Nv f _ _ _ h;have hb:=(xH f ((c::r).drop (cI (c::r)).2.toNat) (i+(cI (c::r)).2.toNat) (acc++Lib.encodeRune (cI (c::r)).1)).1;rw[aBL hp,ih,kB];congr 2;omega
theorem Nw (p:UInt8->Bool): ∀(l:aA) (j:Nat) (c:UInt8),j<bA p l->l[j]?=some c->p c=true
 | [],j,c,h,_=>by simp[bA] at h
 | d::r,j,c,h,hc=>by
  rw[jO] at h;split at h
  ·rename_i hd;cases j with
   | zero=>simp at hc;rw[<-hc];exact hd
   | succ j=>rw[cD] at hc;exact Nw p r j c (by omega) hc
  ·omega
theorem aBM: ∀n:Fin 256,(bR (UInt8.ofNat n.val)=true\/gD (UInt8.ofNat n.val)=true\/dS (UInt8.ofNat n.val)=true\/(jG (UInt8.ofNat n.val)).isSome=true)->n.val<128:=by decide+kernel
theorem zI {c:UInt8} (h:bR c=true\/gD c=true\/dS c=true\/(jG c).isSome=true):c.toNat<128:=by
 have:=aBM ⟨c.toNat,c.toNat_lt⟩;simp only[UInt8.ofNat_toNat] at this;exact this h
theorem aBN {c:UInt8}{r:aA} (h:(bB (c::r)).2.2=0):validD (c::r)=validD ((c::r).drop (bB (c::r)).2.1):=by
 have hrun: ∀p:UInt8->Bool,(∀c,p c=true->c.toNat<128)->validD (c::r)=validD ((c::r).drop (bA p (c::r))):=λp hp=>
  wZ _ _ (mO p _) (λj d hj hd=>hp d (Nw p _ j d hj hd))
 unfold bB at h ⊢;simp only[] at h ⊢;cases hs:jG c with
 | some k=>
  simp only[];rw[List.drop_succ_cons,List.drop_zero];exact zH c r (zI (.inr (.inr (.inr (by rw[hs];rfl)))))
 | none=>
  rw[hs] at h;simp only[] at h ⊢;split at h
  ·rename_i hb;rw[if_pos hb];exact hrun bR (λc h=>zI (.inl h))
  ·rename_i hb;rw[if_neg hb];split at h
   ·rename_i h34;rw[if_pos h34];split at h
    ·rename_i hr;rw[if_pos hr];unfold bN at hr ⊢;have h0:(0:Int)<=0/\(c::r)[(0:Int).toNat]?=some 34:=⟨Int.le_refl _,by rw[h34];rfl⟩;rw[if_pos h0] at hr ⊢;have h1:=Nv _ _ _ _ hr;have hb:=(xH ((c::r).length+1) ((c::r).drop ((0:Int).toNat+1)) ((0:Int).toNat+1) []).1;have e1:(c::r).drop ((0:Int).toNat+1)=r:=rfl;rw[e1] at h1 hb ⊢;rw[zH c r (by rw[h34];decide),h1];simp only[];obtain⟨q,hq⟩:=exQ<|(bY ((c::r).length+1) r ((0:Int).toNat+1) []).2.1;rw[hq] at hb ⊢;have h00:(0:Int).toNat=0:=rfl;rw[h00] at hb ⊢;rw[show q.toNat=(q-((0+1:Nat):Int)).toNat+1 by omega,List.drop_succ_cons]
    ·rename_i hr;exact absurd h hr
   ·rename_i h34;rw[if_neg h34];split at h
    ·rename_i hn;rw[if_pos hn];split at h
     ·rename_i hp;rw[if_pos hp];exact hrun gD (λc h=>zI (.inr (.inl h)))
     ·rename_i hp;exact absurd h hp
    ·rename_i hn;rw[if_neg hn];split at h
     ·exact absurd h (by decide)
     ·rename_i hw;rw[if_neg hw];exact hrun dS (λc h=>zI (.inr (.inr (.inl h))))
theorem Nx: ∀(f:Nat) (l:aA) (i:Nat),l.length<=f->(bS f l i).2=none->validD l=true
 | 0,[],_,_,_=>rfl
 | 0,c::r,_,h,_=>by simp at h
 | f+1,[],_,_,_=>rfl
 | f+1,c::r,i,hl,h=>by
  have hok:=nS (c::r) (List.cons_ne_nil _ _);unfold bS at h;by_cases h0:(bB (c::r)).2.2=0
  ·rw[if_pos h0] at h;rw[aBN h0];have:=hok.2 h0;exact Nx f _ _ (by rw[aV];simp at hl ⊢;omega) h
  ·rw[if_neg h0] at h;cases h
theorem aBO {s:aA} (h:(eC s).2.2=0):validD s=true:=by
 obtain⟨_,T,_,_,hT,_,_⟩:=uZ h;exact Nx s.length s 0 (aE _) (by rw[hT])
end
end Go.Proofs.YtaifnmjjpddikaaGreatDoor
