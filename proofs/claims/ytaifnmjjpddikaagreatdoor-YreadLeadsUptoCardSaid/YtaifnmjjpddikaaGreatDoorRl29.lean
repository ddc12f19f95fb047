import Derived.Test.YtaifnmjjpddikaaGreatDoorRl28
import Derived.Maps.OwnIn
import Derived.Sort.CutIn
import Derived.Test.YtaifnmjjpddikaaGreatDoorRl4
import Derived.Test.YtaifnmjjpddikaaGreatDoorRl12
import Derived.Test.YtaifnmjjpddikaaGreatDoorRl3
import Derived.Test.YtaifnmjjpddikaaGreatDoorRl19
import Derived.Test.YtaifnmjjpddikaaGreatDoorRl11
set_option maxRecDepth 100000
set_option maxHeartbeats 8000000
namespace Go.Proofs.YtaifnmjjpddikaaGreatDoor
set_option linter.unusedVariables false
set_option linter.unusedSimpArgs false
section
open Go.RowKit Go.Shelf
open Go.Lib hiding intOf
theorem aBH (n:Nat) (t:VT) (kv iv:Value) (w:World) (h:VD w n t kv iv) (hbk:t.bulk<=1073741824) (hV:kE w) (hH:nF t) (hO:pW t=true):
  Calls Tryz.prog 23 #[vv t kv iv] w (jN t w):=by
 obtain⟨pk,ck,p,c,rfl,rfl⟩:=h.form;obtain⟨X,H⟩:=exQ<|w.heap.size;obtain⟨W1,i⟩:=exQ<|w.alloc (.cells #[.int .i64 t.kind, .string (bs t.text), .slice pk t.keys.length ck, .slice p t.items.length c] 26);obtain⟨R,I⟩:=exQ<|W1.heap.size;obtain⟨W2,g⟩:=exQ<|W1.alloc (.cells #[.int .i64 0, .string ⟨#[]⟩, .slice none 0 0, .slice none 0 0] 26);have C:Below w.heap.size w W1:=by rw[<-i];exact aI _ _
 have b:Below W1.heap.size W1 W2:=by rw[<-g];exact aI _ _
 have f:=hid (aC C b);have E:Hid (cV W2 X t (.slice pk t.keys.length ck) (.slice p t.items.length c)):=hid (cV.keep (by rw[<-i,<-H];exact cV.new w t _ _) b);have D:Hid (W2.heap[R]?=some (.cells #[.int .i64 0, .string (bs []), .slice none 0 0, .slice none 0 0] 26)):=hid (by rw[<-g,<-I];exact heap_alloc_new W1 _);have F:X<R:=by rw[<-I,<-H,<-i];simp
 have B:R<W2.heap.size:=by rw[<-g,<-I];simp
 have s:=hid (aJ H (aJ F B));have r:=hid (Ns n t _ _ W2 (h.keep f.out) hbk (hV.keep f.out) hH);have G:Hid (∀w',Below W2.heap.size W2 w'->Calls Tryz.prog 47 #[vv t (.slice pk t.keys.length ck) (.slice p t.items.length c)] w' (jN t w')):=hid (λw' M=>Nz n t _ _ w' (h.keep (aC f.out M)) hbk);rw[hO] at r;unfold vv at r G ⊢;clear h hV C b F B hO hH hbk;go_enter Tryz.func23,Tryz.ntmps23;go_upto_region 1 with fail;clear i g I H;obtain⟨b0,b1,b2,b3⟩:=E.out.cells;go_wp2_with fail;refine r.out.mono ?_;rintro e w3 ⟨rfl,y⟩;have a:=hid y;clear y b0 b1 b2 b3;obtain⟨b0,b1,b2,b3⟩:=(E.out.keep a.out).cells;go_wp2_with fail;refine(G.out _ (by first | exact a.out | exact a.out.drew)).mono ?_;rintro e w4 ⟨⟨kv4,iv4,rfl,o⟩,u⟩;obtain⟨u1,u2,u3,u4,rfl,rfl⟩:=o.form;have z:Hid (Below W2.heap.size W2 w4):=hid (by first | exact aC a.out u | exact aC a.out.drew u);have J:Hid (eZ W2.heap.size w4 t.depth t (.slice u1 t.keys.length u2) (.slice u3 t.items.length u4)):=hid (o.mono (λq K _=>by have:=a.out.size;first | exact aY this K | exact aY a.out.drew.size K));have j:=hid (iT f.out (by have:=s.out;omega) s.out.2.2 J.out z.out D.out);obtain⟨r0,r1,r2,r3,f0,f1,f2,f3⟩:=bC ((z.out.block R s.out.2.2).trans D.out);clear o u b0 b1 b2 b3;unfold vv;go_wp2_with fail;obtain⟨WF,m⟩:=exQ<|bG w4 R t.kind t.text (.slice u1 t.keys.length u2) (.slice u3 t.items.length u4);rw[m] at j;have l:(((w4.setCell ⟨R,0,none⟩ (.int .i64 t.kind)).setCell ⟨R,1,none⟩ (.string (bs t.text))).setCell ⟨R,2,none⟩ (.slice u1 t.keys.length u2)).setCell ⟨R,3,none⟩ (.slice u3 t.items.length u4)=WF:=m;rw[l];clear m l r0 r1 r2 r3 f0 f1 f2 f3;obtain⟨d0,d1,d2,d3,_⟩:=bC j.out.2.2;refine bodyPost_ret (v:=vv t (.slice u1 t.keys.length u2) (.slice u3 t.items.length u4)) ?_ rfl ⟨⟨_,_,rfl,j.out.1⟩,j.out.2.1⟩;simp[results,Tryz.results23,go_sem,d0,d1,d2,d3,vv]
abbrev WE:=Int×VT×Value×Value
def zZ (x:WE):Array Value:= #[.int .i64 x.1,vv x.2.1 x.2.2.1 x.2.2.2]
def lF (w0:World):List aA->VT->List WE->Prop
 | [],_,ys=>ys= []
 | st::r,t,ys=>if 0<=jR t st then ∃x kv iv rest n,t.items[(jR t st).toNat]?=some x/\VD w0 n x kv iv/\ys=(jR t st,x,kv,iv)::rest/\lF w0 r x rest else ys= []
theorem Ob (x:ByteArray): ∀(zs:List ByteArray) (i:Nat),Lib.idxFromS zs x i= -1\/ ∃j,j<zs.length/\Lib.idxFromS zs x i=((i+j:Nat):Int)
 | [],i=> .inl rfl
 | z::zs,i=>by
  rw[Lib.idxFromS];split
  ·exact .inr ⟨0,Nat.succ_pos _,rfl⟩
  ·rcases Ob x zs (i+1) with h | ⟨j,h1,h2⟩
   ·exact .inl h
   ·exact .inr ⟨j+1,by simp only[aV];omega,by rw[h2];omega⟩
theorem aBI {t:VT} (hn:kZ t=true) (st:aA):jR t st<0\/ ∃j:Nat,jR t st=(j:Int)/\j<t.items.length:=by
 unfold jR;by_cases h6:t.kind=6
 ·rw[if_pos h6];rcases Ob (bs st) (t.keys.map bs) 0 with h | ⟨j,a,b⟩
  ·exact .inl (by unfold Lib.idxOfS;rw[h];decide)
  ·refine .inr ⟨j,by unfold Lib.idxOfS;rw[b,Nat.zero_add],?_⟩;rw[bK] at a;unfold kZ uQ at hn;rw[if_neg (by omega),if_pos h6] at hn;simp only[cT] at hn;have:=hn.1;unfold pH at this;simp only[cT,kQ] at this;omega
 ·rw[if_neg h6];by_cases h5:t.kind=5
  ·rw[if_pos h5];split
   ·rename_i hc;have:=Eu st;exact .inr ⟨(fF st).1.toNat,by omega,by omega⟩
   ·exact .inl (by decide)
  ·rw[if_neg h5];exact .inl (by decide)
def Ez (B:Nat) (A C:World):Prop:=A.grownBy C none\/ ∃k t kv iv,C=bG A B k t kv iv
def Oc (n B p:Nat) (A W:World):Prop:=W.heap[B]?=A.heap[B]?/\W.heap[p]?=A.heap[p]?/\Below n A W
theorem aBJ (t:VT) (kv iv pv:Value) (w:World) (hk: ∃pk ck pi ci,kv= .slice pk t.keys.length ck/\iv= .slice pi t.items.length ci) (hp: ∃p n c,pv= .slice p n c):
  Calls Tryz.prog 46 #[vv t kv iv,pv] w λe w'=>e= .returned (.func (.func 86) #[] #[.pointer (some ⟨w.heap.size+1,0,none⟩), .pointer (some ⟨w.heap.size,0,none⟩)])/\w'=(w.alloc (.cells #[.int .i64 t.kind, .string (bs t.text),kv,iv] 26)).alloc (.cells #[pv] 23):=by
 obtain⟨pk,ck,pi,ci,rfl,rfl⟩:=hk;obtain⟨p,n,c,rfl⟩:=hp;have hmf: ∀(fn:Fn) (first cap:Array Value) (w:World),(Instr.makeFunc fn first cap).run Tryz.prog w= .ok (.func fn first cap) w:=λ_ _ _ _=>rfl;unfold vv;go_enter Tryz.func46,Tryz.ntmps46;go_wp2_with fail;go_ret;exact⟨by simp,rfl⟩
theorem Od {q:VT->Bool}{t x:VT} (h:cB q t=true) (hx:x∈t.items):cB q x=true:=by
 have b: ∀l:List VT,jY q l=true-> ∀y∈l,cB q y=true:=by
  intro l
  induction l with
  | nil=>intro _ y a;cases a
  | cons z l ih=>
   intro h y a;rw[jY,cT] at h;rcases dC.1 a with rfl | a
   ·exact h.1
   ·exact ih h.2 y a
 cases t with
 | mk k s ks l=>
  rw[cB,cT] at h;exact b l h.2 x hx
theorem aBK {q:VT->Bool}{t:VT} (h:cB q t=true):q t=true:=by
 cases t with
 | mk k s ks l=>
  rw[cB,cT] at h;exact h.1
def Fa (w0:World) (Bv Bp:Nat) (t0:VT) (path:List aA) (pv:Value) (J:List WE->World->Prop) (i:Nat) (t:VT) (kv iv:Value) (wr:World):Prop:=
 ∃pre n,J pre wr/\Below w0.heap.size w0 wr/\cV wr Bv t kv iv/\Boxed wr Bp 23 pv/\VD w0 n t kv iv/\cB kZ t=true/\t.bulk<=1073741824/\pre.length=i/\ ∀rest,lF w0 (path.drop i) t rest->lF w0 path t0 (pre++rest)
theorem aBL {w0:World}{path:List aA}{i:Nat}{t:VT}{st:aA} (hs:path[i]?=some st) (h:jR t st<0):lF w0 (path.drop i) t []:=by
 obtain⟨a,b⟩:=aR.1 hs;rw[iH a,lF,if_neg (by rw[b];omega)]
theorem aBM {w0:World}{path:List aA}{i j n:Nat}{t x:VT}{kv iv:Value}{st:aA}{rest:List WE} (hs:path[i]?=some st) (h:jR t st=(j:Int)) (hx:t.items[j]?=some x) (hv:VD w0 n x kv iv) (hr:lF w0 (path.drop (i+1)) x rest):lF w0 (path.drop i) t (((j:Int),x,kv,iv)::rest):=by
 obtain⟨a,b⟩:=aR.1 hs;rw[iH a,lF,b,if_pos (by omega)];exact⟨x,kv,iv,rest,n,by rw[h,fT];exact hx,hv,by rw[h],hr⟩
theorem aBN (n:Nat) (hn:1<=n) (q Bv Bp:Nat) (w0:World) (t:VT) (kv iv:Value) (m:Nat) (path:List aA) (pp:Option Addr) (cp:Nat) (hvd:VD w0 m t kv iv) (hO:cB kZ t=true) (hbk:t.bulk<=1073741824) (hlies:nP w0 pp path) (hpl:path.length<=1073741824) (hV:cM w0) (hne:Bv≠Bp) (hBv:w0.heap.size<=Bv)
  (J:List WE->World->Prop) (hJ: ∀pre A C,J pre A->Ez Bv A C->J pre C)
  (hY: ∀pre x W,J pre W->Below w0.heap.size w0 W->pre.length<path.length->(∃k,VD w0 k x.2.1 x.2.2.1 x.2.2.2)->YieldAt Fence.wide (n-1) Tryz.prog q (zZ x) W λe W'=>e= .returned (.bool true)/\J (pre++ [x]) W'/\Oc w0.heap.size Bv Bp W W')
  (W:World) (hB:Below w0.heap.size w0 W) (bv:cV W Bv t kv iv) (bp:Boxed W Bp 23 (.slice pp path.length cp)) (h0:J [] W):
  CallsIn Fence.wide n Tryz.prog 86 #[.func (.yield q) #[] #[], .pointer (some ⟨Bp,0,none⟩), .pointer (some ⟨Bv,0,none⟩)] W λe W'=>(∃u,e= .returned u)/\ ∃ys,lF w0 path t ys/\J ys W':=by
 refine callsIn_of_wp Tryz.func86 rfl trivial ?_ rfl;simp only[Tryz.ntmps86,List.size_toArray,aV,gY,Nat.reduceAdd,Nat.reduceSub,Array.replicate_succ,Array.replicate_zero,List.push_toArray,List.append_toArray,jJ,jW];have HJ:=hid hJ;have HY:=hid hY;have HL:=hid (aJ hlies (aJ hne (aJ hBv hV)));have HS:Hid (Fa w0 Bv Bp t path (.slice pp path.length cp) J 0 t kv iv W):=hid ⟨[],m,h0,hB,bv,bp,hvd,hO,hbk,rfl,λrest h=>h⟩;have B:=bp.cell;clear hJ hY h0 bv bp hvd hO hbk hlies hB hne hBv hV;gi_wp2_with fail;gi_loopw [9] (λs9 wr=> ∃i:Nat,s9= .int .i64 (i:Int)/\i<=path.length/\Hid (∃tc kc ic,Fa w0 Bv Bp t path (.slice pp path.length cp) J i tc kc ic wr)) (λs9 _=>path.length-(RowKit.intOf s9).toNat)
 case atStart=>exact⟨0,rfl,bM _,hid ⟨_,_,_,HS.out⟩⟩
 case round=>
  obtain⟨i,rfl,hi,P⟩:=hrel;obtain⟨tc,kc,ic,pre,k,Y,Q,z,w,V,p,T,N,l⟩:=P.out;clear P HS;by_cases hil:i<path.length
  ·obtain⟨st,F⟩: ∃st,path[i]?=some st:=⟨_,bE hil⟩;obtain⟨g,o,rfl,cst⟩:=HL.out.1.at_ F;have cst:=bH cst Q;have di:decide ((i:Int)<(path.length:Int))=true:=aM (by omega);have i0:(0:Int)<=(i:Int):=(by omega);have i1:(i:Int)<(path.length:Int):=(by omega);obtain⟨b0,b1,b2,b3,f0,f1,f2,f3⟩:=bC z;have r:=w.cell;obtain⟨k',ae,⟨pk,ck,rfl,ad,af⟩,pi,ci,rfl,ag,R⟩:=V.parts;have f:tc.keys.length<=1073741824/\tc.items.length<=1073741824/\dS tc.items<=1073741824:=by
    have hb0:tc.bulk=tc.text.length+(gE tc.keys+tc.keys.length)+dS tc.items+1:=by cases tc;rw[VT.bulk];rfl
    have:=rE tc.items;omega
   have CI:=hid (aBo k tc _ _ st wr (V.keep Q) f.1 f.2.1 (HL.out.2.2.2.keep Q));unfold vv at CI;have b:=hid (aJ Y (aJ Q (aJ z (aJ w (aJ V (aJ p (aJ f (aJ R (aJ N l)))))))));have G:=hid F;obtain⟨I,Z⟩:=exQ<|jR tc st;rw[Z] at CI;have X:=aBI (aBK p) st;rw[Z] at X;have P:=hid Z;clear Y Q z w V p f R l T F N Z af ad ag ae;rcases X with D | ⟨j,rfl,aa⟩
   ·have dneg:decide (I<0)=true:=aM D;have HE:Hid (∃ys,lF w0 path t ys/\J ys wr):=hid ⟨pre++ [],b.out.2.2.2.2.2.2.2.2.2 [] (aBL G.out (by rw[P.out];exact D)),by rw[List.append_nil];exact b.out.1⟩;gi_wp2_with fail;refine⟨trivial,?_⟩;(with_reducible refine(callsIn_wide.2 CI.out).mono ?_);rintro e w1 ⟨rfl,a⟩;have ab:Hid (∃ys,lF w0 path t ys/\J ys w1):=hid (by obtain⟨ys,h1,h2⟩:=HE.out;exact⟨ys,h1,HJ.out _ _ _ h2 (.inl (Bz a))⟩);clear a b0 b1 b2 b3 f0 f1 f2 f3 cst B r b;gi_wp2_with fail;refine bodyPost_ret (results_none rfl _ _ _) rfl ?_;exact⟨⟨_,rfl⟩,ab.out⟩
   ·have dneg:decide ((j:Int)<0)=false:=aH (by omega);obtain⟨x,hx⟩: ∃x,tc.items[j]?=some x:=⟨_,bE aa⟩;obtain⟨g2,o2,kx,ix,rfl,hg2,n0,n1,n2,n3,H⟩:=b.out.2.2.2.2.2.2.2.1 j x hx;obtain⟨pkx,ckx,pix,cix,rfl,rfl⟩:=H.form;have n0:=bH n0 b.out.2.1;have n1:=bH n1 b.out.2.1;have n2:=bH n2 b.out.2.1;have n3:=bH n3 b.out.2.1;have j0:(0:Int)<=(j:Int):=(by omega);have j1:(j:Int)<(tc.items.length:Int):=(by omega);have M:=hid (aJ hx H);clear hx H;gi_wp2_with fail;refine⟨trivial,?_⟩;(with_reducible refine(callsIn_wide.2 CI.out).mono ?_);rintro e w1 ⟨rfl,a⟩;have m0:=bH n0 a;have m1:=bH n1 a;have m2:=bH n2 a;have m3:=bH n3 a;have c1:=bH r a;obtain⟨a0,a1,a2,a3,d0,d1,d2,d3⟩:=bC ((a.block Bv (aF b.out.2.2.1)).trans b.out.2.2.1);have s:=hid a;clear b0 b1 b2 b3 f0 f1 f2 f3 cst n0 n1 n2 n3 B r a;gi_upto_region 6 with fail;obtain⟨WF,K⟩:=exQ<|bG w1 Bv x.kind x.text (.slice pkx x.keys.length ckx) (.slice pix x.items.length cix);have E:(((w1.setCell ⟨Bv,0,none⟩ (.int .i64 x.kind)).setCell ⟨Bv,1,none⟩ (.string (bs x.text))).setCell ⟨Bv,2,none⟩ (.slice pkx x.keys.length ckx)).setCell ⟨Bv,3,none⟩ (.slice pix x.items.length cix)=WF:=K;rw[E];have c:Hid (cV WF Bv x (.slice pkx x.keys.length ckx) (.slice pix x.items.length cix)/\Below w0.heap.size w0 WF/\Boxed WF Bp 23 (.slice (some ⟨g,o,none⟩) path.length cp)/\J pre WF):=hid (by rw[<-K];refine⟨rQ ((s.out.block Bv (aF b.out.2.2.1)).trans b.out.2.2.1),pK (aC b.out.2.1 s.out) HL.out.2.2.1,?_,HJ.out _ _ _ (HJ.out _ _ _ b.out.1 (.inl (Bz s.out))) (.inr ⟨_,_,_,_,rfl⟩)⟩;exact(qL (Ne.symm HL.out.2.1)).trans ((s.out.block Bp (aF b.out.2.2.2.1)).trans b.out.2.2.2.1));clear K E a0 a1 a2 a3 d0 d1 d2 d3 m0 m1 m2 m3 c1;obtain⟨a0,a1,a2,a3,_⟩:=bC c.out.1;have B:=c.out.2.2.1.cell;obtain⟨fn,tmps,assign,body,hy,hR⟩:=HY.out pre ((j:Int),x, .slice pkx x.keys.length ckx, .slice pix x.items.length cix) WF c.out.2.2.2 c.out.2.1 (by have:=b.out.2.2.2.2.2.2.2.2.1;omega) ⟨_,M.out.2⟩;unfold zZ vv at hy;simp only[] at hy;gi_wp2_with fail;refine hR.mono ?_;clear hy hR;rintro e W3 ⟨rfl,U,y⟩;have HN:Hid (∃tc kc ic,Fa w0 Bv Bp t path (.slice (some ⟨g,o,none⟩) path.length cp) J (i+1) tc kc ic W3):=hid (by have p:=Od b.out.2.2.2.2.2.1 (aX M.out.1);have hbb:=uB (aX M.out.1);have hb2:=b.out.2.2.2.2.2.2.1;refine⟨x,_,_,pre++ [((j:Int),x, .slice pkx x.keys.length ckx, .slice pix x.items.length cix)],_,U,c.out.2.1.trans y.2.2,y.1.trans c.out.1,y.2.1.trans c.out.2.2.1,M.out.2,p,by omega,by have:=b.out.2.2.2.2.2.2.2.2.1;rw[aW,this];rfl,λrest hr=>?_⟩;have:=b.out.2.2.2.2.2.2.2.2.2 _ (aBM G.out P.out M.out.1 M.out.2 hr);rw[mV];exact this);clear a0 a1 a2 a3 B U y c s b M CI P G;gi_wp2_with fail;go_roundw
    case rel=>exact⟨i+1,by go_num,by omega,HN⟩
    case measure=>simp[RowKit.intOf];omega
  ·have di:decide ((i:Int)<(path.length:Int))=false:=aH (by omega);have HE:Hid (∃ys,lF w0 path t ys/\J ys wr):=hid ⟨pre++ [],l [] (by rw[List.drop_eq_nil_of_le (by omega)];rfl),by rw[List.append_nil];exact Y⟩;clear Y Q z w V p T N l;gi_wp2_with fail;refine bodyPost_end (results_none rfl _ _ _) rfl ?_;exact⟨⟨_,rfl⟩,HE.out⟩
def pX (pre:List WE):List Value:=pre.map λx=> .int .i64 x.1
def Oe (x:VT) (kx ix:Value):Array Value:= #[.int .i64 x.kind, .string (bs x.text),kx,ix]
def vF:List (Nat×Nat):= [(0,15),(1,16),(4,19)]
theorem aBO: ∀p∈vF,∀q∈vF,(p.1=q.1->p.2=q.2)/\(p.2=q.2->p.1=q.1):=by decide
theorem xL: ∀p∈vF,p.2≠17/\p.2≠18/\p.1≠2/\p.1≠3/\p.1≠5/\p.1≠6:=by decide
theorem not_row {w:World}{i B size n:Nat}{cs:Array Value}{T e:TypeId}{v:Value}{xs:List Value} (h:w.heap[i]?=some (.cells cs T)) (hT:T≠e) (hr:w.ownsRow B e size v n xs):some i≠v.ownBlock:=by
 intro b;rcases hr.2 with⟨e1,_⟩ | ⟨g,cap,cu,rfl,_,a,_⟩
 ·rw[e1] at b;cases b
 ·have:i=g:=by simpa [Value.ownBlock] using b
  subst this;rw[h] at a;injection a with a;injection a with _ a;exact hT a
structure BF (ops:Array Oper) (n0:Nat) (A:World) (O L:Nat) (S:List Nat) (vO:Value) (pre:List WE) (k:Int) (x:VT) (kx ix:Value) (ob:Array Value) (val:Nat->Value) (d:Nat->Bool) (v:Nat->Value) (w':World):Prop where
 clo:nT ops d
 cl: ∀q∈vF,d q.1=true->v q.2=val q.1
 tmp:d 2=true->d 3=false-> ∃Y,v 17= .slice (some ⟨Y,0,none⟩) 1 1/\A.heap.size<=Y/\w'.heap[Y]?=some (.cells #[.int .i64 k] 3)
 row0:d 3=false->w'.ownsRow n0 3 1 vO pre.length (pX pre)
 row1:d 3=true->w'.ownsRow n0 3 1 (v 18) (pre.length+1) (pX pre++ [.int .i64 k])
 bO:w'.heap[O]?=some (.cells #[if d 5 then v 18 else vO] 60)
 bL:w'.heap[L]?=some (.cells (if d 6 then Oe x kx ix else ob) 26)
 oth: ∀i∈S,w'.heap[i]?=A.heap[i]?
 bel:Below n0 A w'
 kf:KeepsOthers A w'
structure BH (n0:Nat) (A:World) (O L:Nat) (S:List Nat):Prop where
 ne:L≠O/\n0<=O/\n0<=L/\n0<=A.heap.size
 s: ∀i∈S,i≠O/\i≠L/\ ∃cs T,A.heap[i]?=some (.cells cs T)/\T≠3
section
variable {ops:Array Oper}{n0:Nat}{A:World}{O L:Nat}{S:List Nat}{vO:Value}{pre:List WE}{k:Int}{x:VT}{kx ix:Value}{ob:Array Value}{val:Nat->Value}{d:Nat->Bool}{v:Nat->Value}{w' w2:World}
theorem BF.pure (h:BF ops n0 A O L S vO pre k x kx ix ob val d v w') {i q:Nat}{o:Oper} (ho:ops[i]?=some o) (hall: ∀e∈o.after,Region.binds .any e=true->d e.on=true) (hm:(i,q)∈vF) {y:Value} (hy:y=val i):BF ops n0 A O L S vO pre k x kx ix ob val (bF d i) (bP v (some q) y) w':=by
 obtain⟨n1,n2,n3,n4,n5,n6⟩:=xL _ hm;simp only[] at n1 n2 n3 n4 n5 n6;refine⟨h.clo.step ho hall,λp b f=>?_,λc a=>?_,λa=>?_,λa=>?_,?_,?_,h.oth,h.bel,h.kf⟩
 ·obtain⟨o1,o2⟩:=aBO _ hm _ b;by_cases e:p.1=i
  ·have e2:=o1 e.symm;simp only[] at e2;rw[<-e2,lJ,e];exact hy
  ·have e2:p.2≠q:=λe2=>e (o2 e2.symm).symm;rw[bW e2];rw[aS e] at f;exact h.cl p b f
 ·rw[aS (Ne.symm n3)] at c;rw[aS (Ne.symm n4)] at a;rw[bW (Ne.symm n1)];exact h.tmp c a
 ·rw[aS (Ne.symm n4)] at a;exact h.row0 a
 ·rw[aS (Ne.symm n4)] at a;rw[bW (Ne.symm n2)];exact h.row1 a
 ·rw[aS (Ne.symm n5),bW (Ne.symm n2)];exact h.bO
 ·rw[aS (Ne.symm n6)];exact h.bL
theorem BF.build (h:BF ops n0 A O L S vO pre k x kx ix ob val d v w') {o:Oper} (ho:ops[2]?=some o) (hall: ∀e∈o.after,Region.binds .any e=true->d e.on=true) (hH:BH n0 A O L S):BF ops n0 A O L S vO pre k x kx ix ob val (bF d 2) (bP v (some 17) (.slice (some ⟨w'.heap.size,0,none⟩) 1 1)) (w'.alloc (.cells #[.int .i64 k] 3)):=by
 have c: ∀i o,w'.heap[i]?=some o->(w'.alloc (.cells #[.int .i64 k] 3)).heap[i]?=some o:=λi o b=>by rw[Below.heap_alloc _ _ _ (aF b)];exact b
 refine⟨h.clo.step ho hall,λp f j=>?_,λ_ a=>⟨_,lJ,h.bel.size,heap_alloc_new w' _⟩,λa=>?_,λa=>?_,?_,?_,λi b=>?_,h.bel.alloc (aY hH.ne.2.2.2 h.bel.size) _,h.kf.trans (KeepsOthers.alloc _ _)⟩
 ·obtain⟨n1,n2,n3,n4,n5,n6⟩:=xL _ f;rw[aS n3] at j;rw[bW n1];exact h.cl p f j
 ·rw[aS (by decide)] at a;exact(h.row0 a).alloc _
 ·rw[aS (by decide)] at a;rw[bW (by decide)];exact(h.row1 a).alloc _
 ·rw[aS (by decide),bW (by decide)];exact c _ _ h.bO
 ·rw[aS (by decide)];exact c _ _ h.bL
 ·obtain⟨_,_,cs,T,g,_⟩:=hH.s i b;rw[g];exact c _ _ ((h.oth i b).trans g)
theorem BF.app (h:BF ops n0 A O L S vO pre k x kx ix ob val d v w') {o:Oper} (ho:ops[3]?=some o) (hall: ∀e∈o.after,Region.binds .any e=true->d e.on=true) (hH:BH n0 A O L S) (h3:d 3=false) (h5:d 5=false) {y:Value} (hy:w2.ownsRow n0 3 1 y (pre.length+1) (pX pre++ [.int .i64 k])) (hb:Below n0 w' w2) (hk: ∀i,i<w'.heap.size->some i≠vO.ownBlock->w2.heap[i]?=w'.heap[i]?):
  BF ops n0 A O L S vO pre k x kx ix ob val (bF d 3) (bP v (some 18) y) w2:=by
 have l:=h.row0 h3;have b: ∀(i:Nat) (cs:Array Value) (T:TypeId),w'.heap[i]?=some (Obj.cells cs T)->T≠3->w2.heap[i]?=some (Obj.cells cs T):=λi cs T a m=>by rw[hk i (aF a) (not_row a m l)];exact a
 refine⟨h.clo.step ho hall,λp c j=>?_,λ_ h3=>?_,λh3=>?_,λ_=>by rw[lJ];exact hy,?_,?_,λi a=>?_,h.bel.trans hb,h.kf.trans ⟨hb.size,λi o a n=>?_⟩⟩
 ·obtain⟨n1,n2,n3,n4,n5,n6⟩:=xL _ c;rw[aS n4] at j;rw[bW n2];exact h.cl p c j
 ·rw[oW] at h3;cases h3
 ·rw[oW] at h3;cases h3
 ·have:=h.bO;rw[h5] at this;rw[aS (by decide),h5];exact b _ _ _ this (by decide)
 ·rw[aS (by decide)];exact b _ _ _ h.bL (by decide)
 ·obtain⟨_,_,cs,T,f,q⟩:=hH.s i a;rw[f];exact b _ _ _ ((h.oth i a).trans f) q
 ·have:some i≠vO.ownBlock:=λe=>by
   rcases l.2 with⟨e1,_⟩ | ⟨g,cap,cu,rfl,_,r,_⟩
   ·rw[e1] at e;cases e
   ·have e2:i=g:=(by simpa [Value.ownBlock] using e);subst e2;rw[r] at a;cases a;cases n
  rw[hk i (aF a) this];exact a
theorem BF.set5 (h:BF ops n0 A O L S vO pre k x kx ix ob val d v w') {o:Oper} (ho:ops[5]?=some o) (hall: ∀e∈o.after,Region.binds .any e=true->d e.on=true) (hH:BH n0 A O L S) (h3:d 3=true) (y:Value):
  BF ops n0 A O L S vO pre k x kx ix ob val (bF d 5) (bP v none y) (w'.setCell ⟨O,0,none⟩ (v 18)):=by
 have b: ∀i,i≠O->(w'.setCell ⟨O,0,none⟩ (v 18)).heap[i]?=w'.heap[i]?:=λi c=>cP _ ⟨O,0,none⟩ _ i c;refine⟨h.clo.step ho hall,λp f g=>?_,λ_ a=>?_,λa=>?_,λ_=>?_,?_,?_,λi c=>(b i (hH.s i c).1).trans (h.oth i c),h.bel.setCell (p:=⟨O,0,none⟩) hH.ne.2.1 _,h.kf.trans (KeepsOthers.setCell _ _ _)⟩
 ·obtain⟨n1,n2,n3,n4,n5,n6⟩:=xL _ f;rw[aS n5] at g;exact h.cl p f g
 ·rw[aS (by decide),h3] at a;cases a
 ·rw[aS (by decide),h3] at a;cases a
 ·exact yO (t:=60) h.bO (by decide) (h.row1 h3) _
 ·rw[fO h.bO,oW];rfl
 ·rw[aS (by decide),b L hH.ne.1];exact h.bL
theorem BF.set6 (h:BF ops n0 A O L S vO pre k x kx ix ob val d v w') (hob:ob.size=4) {o:Oper} (ho:ops[6]?=some o) (hall: ∀e∈o.after,Region.binds .any e=true->d e.on=true) (hH:BH n0 A O L S) (h6:d 6=false) (y:Value):
  BF ops n0 A O L S vO pre k x kx ix ob val (bF d 6) (bP v none y) (bG w' L x.kind x.text kx ix):=by
 have f: ∀i,i≠L->(bG w' L x.kind x.text kx ix).heap[i]?=w'.heap[i]?:=λi r=>qL r;have m: ∀ {u:Value}{n:Nat}{xs:List Value},w'.ownsRow n0 3 1 u n xs->(bG w' L x.kind x.text kx ix).ownsRow n0 3 1 u n xs:=λ{u n xs} m=>by
  have t:=not_row h.bL (by decide) m;refine⟨m.1,?_⟩;rcases m.2 with e1 | ⟨g,cap,cu,rfl,D,C,q⟩
  ·exact .inl e1
  ·exact .inr ⟨g,cap,cu,rfl,D,by rw[f g (λe=>t (by rw[e];rfl))];exact C,q⟩
 refine⟨h.clo.step ho hall,λp w B=>?_,λq j=>?_,λj=>?_,λj=>?_,?_,?_,λi r=>(f i (hH.s i r).2.1).trans (h.oth i r),pK h.bel hH.ne.2.2.1,h.kf.trans ?_⟩
 ·obtain⟨n1,n2,n3,n4,n5,n6⟩:=xL _ w;rw[aS n6] at B;exact h.cl p w B
 ·rw[aS (by decide)] at q j;obtain⟨Y,e1,e2,e3⟩:=h.tmp q j;refine⟨Y,e1,e2,?_⟩;rw[f Y (λe=>by rw[e,h.bL] at e3;injection e3 with e3;injection e3 with _ e3;exact absurd e3 (by decide))];exact e3
 ·rw[aS (by decide)] at j;exact m (h.row0 j)
 ·rw[aS (by decide)] at j;exact m (h.row1 j)
 ·rw[aS (by decide),f O (Ne.symm hH.ne.1)];exact h.bO
 ·rw[oW];have z:=h.bL;rw[h6] at z;obtain⟨a,b,c,e,rfl⟩: ∃a b c e,ob= #[a,b,c,e]:=by
   obtain⟨l⟩:=ob
   match l,hob with
   | [a,b,c,e],_=>exact⟨a,b,c,e,rfl⟩
  unfold bG;rw[fO (fO (fO (fO z _ _) _ _) _ _)];rfl
 ·unfold bG;exact(((KeepsOthers.setCell _ _ _).trans (KeepsOthers.setCell _ _ _)).trans (KeepsOthers.setCell _ _ _)).trans (KeepsOthers.setCell _ _ _)
theorem BF.g {a:Array Value} (h:BF ops n0 A O L S vO pre k x kx ix ob val d (λk=>a.getD k undef) w') (i q:Nat) (hm:(i,q)∈vF) (hd:d i=true):a[q]?.getD undef=val i:=by
 have:=h.cl _ hm hd;rw[<-aO];exact this
theorem BF.early (h:BF ops n0 A O L S vO pre k x kx ix ob val d v w') {f i j:Nat} (hr:nS ops f j i=true) (hi:d i=false):d j=false:=by
 cases hc:d j with
 | false=>rfl
 | true=>rw[h.clo.reach f _ _ hr hc] at hi;cases hi
end
theorem aBP {P:Program}{ops:Array Oper}{Q:Exit->Act->World->Prop}{id l m:Nat}{a0:Act}{wB:World} (hm:P.follows .mixedOrders=true) (hnd:zY ops=true) (K:List Nat) (n:Nat) (hn:a0.tmps.size=n) (hback:oU ops=true) (hdst:nR ops K n=true) (h10:ops.size=7)
  (n0 O L:Nat) (S:List Nat) (vO:Value) (pre:List WE) (k:Int) (x:VT) (kx ix:Value) (ob:Array Value) (val:Nat->Value) (hrow:wB.ownsRow n0 3 1 vO pre.length (pX pre)) (hO:wB.heap[O]?=some (.cells #[vO] 60)) (hL:wB.heap[L]?=some (.cells ob 26))
  (hs: ∀(d:Nat->Bool) (a:Act) (w:World) (i:Nat) (o:Oper),ops[i]?=some o->d i=false->(∀e∈o.after,Region.binds .any e=true->d e.on=true)->(∀k,k ∉ K->a.tmps.getD k undef=a0.tmps.getD k undef)->BF ops n0 wB.drew O L S vO pre k x kx ix ob val d (λk=>a.tmps.getD k undef) w->
   ∀R:Act->World->Prop,(∀x' w',BF ops n0 wB.drew O L S vO pre k x kx ix ob val (bF d i) (bP (λk=>a.tmps.getD k undef) o.dst x') w'->R (a.put o.dst x') w')->o.wp P a w R Q)
  (hd: ∀(v:Nat->Value) (w:World),w.ownsRow n0 3 1 (v 18) (pre.length+1) (pX pre++ [.int .i64 k])->w.heap[O]?=some (.cells #[v 18] 60)->w.heap[L]?=some (.cells (Oe x kx ix) 26)->(∀i∈S,w.heap[i]?=wB.heap[i]?)->Below n0 wB w->KeepsOthers wB w->Q .normal { a0 with tmps:=cC a0.tmps v K } w):(Code.region id ops true).wpIn (Fence.wide.inRound l) m P Q a0 wB:=by
 refine aBF hm hnd (aBE K n hn hback hdst (λd v w'=>BF ops n0 wB.drew O L S vO pre k x kx ix ob val d v w') ?_ hs (λv w h=>?_))
 ·exact⟨λ_ _ _ h=>Bool.noConfusion h,λ_ _ h=>Bool.noConfusion h,λh=>Bool.noConfusion h,λ_=>hrow,λh=>Bool.noConfusion h,hO,hL,λ_ _=>rfl,aB _ _,KeepsOthers.refl _⟩
 ·have e: ∀i,i<7->decide (i<ops.size)=true:=λi hi=>aM (by omega);have b:=h.bO;have c:=h.bL;rw[e 5 (by omega)] at b;rw[e 6 (by omega)] at c;exact hd v w (h.row1 (e 3 (by omega))) b c h.oth ((aB n0 wB).drew.trans h.bel) ((KeepsOthers.drew wB).trans h.kf)
end
section
open Go.Lib
theorem Fc (k:aA): ∀(ks had:List aA),jM had (ks++ [k])=(jM had ks&&!decide (k∈had\/k∈ks)&&Lib.validD k)
 | [],had=>by simp[jM]
 | x::ks,had=>by
  rw[jW,jM,jM,Fc k ks (x::had)];have:decide (k∈x::had\/k∈ks)=decide (k∈had\/k∈x::ks):=by
   apply decide_eq_decide.2;simp only[dC];constructor
   ·rintro((h | h) | h)
    ·exact .inr (.inl h)
    ·exact .inl h
    ·exact .inr (.inr h)
   ·rintro(h | h | h)
    ·exact .inl (.inr h)
    ·exact .inl (.inl h)
    ·exact .inr h
  rw[this];simp only[Bool.and_assoc]
theorem Fd (l:aA):validD (dM l).1=true:=by
 by_cases h:(dM l).2.2=0
 ·exact((Hb l).2 h).2
 ·rw[((Hb l).1 h).1];rfl
structure qY (txt:aA) (ns:List aD) (x:aD):Prop where
 kd:1<=x.kind/\x.kind<=6
 flat:x.kind≠5->x.kind≠6->x.kids= []
 tf:x.kind=2->cZ txt (x.sf,x.st)=kX\/cZ txt (x.sf,x.st)=kY
 kid: ∀q∈x.kids,q<ns.length
 keys:x.kind=6->jM [] (x.kids.map (cE txt ns))=true
def iF (ns ns':List aD):Prop:= ∀j,j<ns.length->(ns'[j]?).map aD.key=(ns[j]?).map aD.key
theorem iF.len {ns ns':List aD} (h:iF ns ns'):ns.length<=ns'.length:=by
 apply Classical.byContradiction;intro hn;have a:=h ns'.length (by omega);rw[List.getElem?_eq_none (aE _),bE (by omega)] at a;cases a
theorem iF.key {txt:aA}{ns ns':List aD} (h:iF ns ns') {q:Nat} (hq:q<ns.length):cE txt ns' q=cE txt ns q:=by
 have a:=h q hq;have b:=fV hq h.len;unfold cE;rw[bE hq,bE b] at a ⊢;simp only[Option.map_some,cN] at a;simp only[a]
theorem iF.map {txt:aA}{ns ns':List aD} (h:iF ns ns') {l:List Nat} (hl: ∀q∈l,q<ns.length):l.map (cE txt ns')=l.map (cE txt ns):=List.map_congr_left (λq a=>h.key (hl q a))
theorem qY.mono {txt:aA}{ns ns':List aD}{x:aD} (h:qY txt ns x) (hk:iF ns ns'):qY txt ns' x:=
 ⟨h.kd,h.flat,h.tf,λq a=>fV (h.kid q a) hk.len,λb=>by rw[hk.map h.kid];exact h.keys b⟩
theorem iF.app (ns more:List aD):iF ns (ns++more):=λj a=>by rw[kP a]
theorem iF.modN {f:aD->aD} (hf: ∀x,(f x).key=x.key) (n:Nat) (ns:List aD):iF ns (modN f n ns):=λj a=>by
 rw[rD];split
 ·rw[bE a];simp[hf]
 ·rfl
theorem iF.trans {a b c:List aD} (h:iF a b) (h2:iF b c):iF a c:=λj e=>(h2 j (fV e h.len)).trans (h j e)
def pY (txt:aA) (ts:List aQ):Prop:= ∀t∈ts,cZ txt (t.sf,t.st)=(txt.drop t.sf).take (t.st-t.sf)/\(t.kind=10\/t.kind=11->cZ txt (t.sf,t.st)=kX\/cZ txt (t.sf,t.st)=kY)
theorem pY.drop {txt:aA}{ts:List aQ} (h:pY txt ts) (k:Nat):pY txt (ts.drop k):=λt a=>h t (List.mem_of_mem_drop a)
def Aa (txt:aA) (V:VF):Prop:= ∀rest last nodes key r l ns,V rest last nodes key= .ok r l ns->pY txt rest->(∀j y,nodes.length<=j->ns[j]?=some y->qY txt ns y)/\ ∃x,ns[nodes.length]?=some x/\x.key=key
theorem aBQ {txt:aA}{V:VF} (hV:Aa txt V) {obj:Bool}{had had':List (List UInt8)}{rest r:List aQ}{last l:Sp}{nodes ns:List aD} (h:gZ txt V obj had rest last nodes=(.ok r l ns,had')) (ht:pY txt rest):
  (∀j y,nodes.length<=j->ns[j]?=some y->qY txt ns y)/\(obj=true->cE txt ns nodes.length ∉ had/\had'=cE txt ns nodes.length::had):=by
 unfold gZ at h;split at h
 ·rename_i n;injection h with h _;exact⟨(hV _ _ _ _ _ _ _ h ht).1,λe=>by rw[n] at e;cases e⟩
 ·split at h
  ·injection h with h _;cases h
  ·rename_i t q;split at h
   ·injection h with h _;cases h
   ·split at h
    ·injection h with h _;cases h
    ·rename_i a;split at h
     ·injection h with h _;cases h
     ·rename_i c r2;split at h
      ·injection h with h _;cases h
      ·injection h with h f;obtain⟨i,x,o,g⟩:=hV _ _ _ _ _ _ _ h (λu m=>ht u (List.mem_cons_of_mem _ (List.mem_cons_of_mem _ m)));have b:cE txt ns nodes.length=(dM ((txt.drop t.sf).take (t.st-t.sf))).1:=by
        unfold cE;rw[o];simp only[g];rw[(ht t (gS ..)).1]
       refine⟨i,λ_=>?_⟩;rw[b];exact⟨a,f.symm⟩
structure tN (txt:aA) (obj:Bool) (pre:List aD) (x:aD) (had:List aA) (nodes:List aD):Prop where
 post: ∀j y,pre.length<j->nodes[j]?=some y->qY txt nodes y
 kid: ∀q∈x.kids,q<nodes.length
 keys:obj=true->had=(x.kids.map (cE txt nodes)).reverse/\jM [] (x.kids.map (cE txt nodes))=true
theorem Fe {txt:aA}{V:VF} (hV:Aa txt V) (hE:oT V) {closing:Nat}{obj:Bool}{pre:List aD}: ∀(f:Nat) {had:List (List UInt8)}{rest:List aQ}{last:Sp}{nodes:List aD}{r:List aQ}{l:Sp}{ns:List aD}{x:aD}{post:List aD},
  eH pre x post nodes->tN txt obj pre x had nodes->pY txt rest->iP txt V closing obj pre.length f had rest last nodes= .ok r l ns-> ∃x' post' had',eH pre x' post' ns/\tN txt obj pre x' had' ns/\x'.kind=x.kind/\x'.sf=x.sf/\x'.key=x.key
 | 0,_,_,_,_,_,_,_,_,_,_,_,_,h=>by cases h
 | f + 1,had,rest,last,nodes,r,l,ns,x,post,hm,hL,ht,h=>by
  unfold iP at h;split at h
  ·cases h
  ·rename_i r1 l1 ns1 had1 hk;obtain⟨k1,k2⟩:=aBQ hV hk ht;obtain⟨more,rfl,C,h3,⟨kk,D⟩,z⟩:=vP hE hk;split at h
   ·cases h
   ·rename_i t r';have i:=hm.add z C nodes.length (last.2,t.sf);have b:iF (nodes++more) (eA pre.length nodes.length (last.2,t.sf) (nodes++more)):=by unfold eA;refine iF.modN ?_ _ _;intro _;rfl
    have n:iF nodes (eA pre.length nodes.length (last.2,t.sf) (nodes++more)):=(iF.app _ _).trans b;have a:nodes.length<(nodes++more).length:=by rw[aW];omega
    have g:tN txt obj pre { x with kids:=x.kids++ [nodes.length],pcs:=x.pcs++ [(last.2,t.sf)] } had1 (eA pre.length nodes.length (last.2,t.sf) (nodes++more)):=by
     refine⟨λj y u e=>?_,λq m=>?_,λs=>?_⟩
     ·unfold eA at e;rw[rD,if_neg (by omega)] at e;by_cases hj2:j<nodes.length
      ·rw[kP hj2] at e;exact(hL.post j y u e).mono n
      ·exact(k1 j y (by omega) e).mono b
     ·have c:(eA pre.length nodes.length (last.2,t.sf) (nodes++more)).length=(nodes++more).length:=oS _ _ _;rw[c];rcases nN.1 m with m | m
      ·have:=hL.kid q m;omega
      ·rw[iQ.1 m];exact a
     ·obtain⟨e1,e2⟩:=hL.keys s;obtain⟨g1,g2⟩:=k2 s;have em:(x.kids++ [nodes.length]).map (cE txt (eA pre.length nodes.length (last.2,t.sf) (nodes++more)))=x.kids.map (cE txt nodes)++ [cE txt (nodes++more) nodes.length]:=by
       rw[mZ,n.map hL.kid,List.map_singleton,b.key a]
      show _=((x.kids++ [nodes.length]).map _).reverse/\jM [] ((x.kids++ [nodes.length]).map _)=true;rw[em];refine⟨by rw[g2,e1,List.reverse_append];rfl,?_⟩;rw[Fc,e2];have w:cE txt (nodes++more) nodes.length ∉ x.kids.map (cE txt nodes):=by
       intro o;exact g1 (by rw[e1];exact List.mem_reverse.2 o)
      have B:validD (cE txt (nodes++more) nodes.length)=true:=by
       unfold cE;split
       ·exact Fd _
       ·rfl
      rw[B,aH (by simp[w])];rfl
    split at h
    ·injection h with e1 e2 e3;subst e3;exact⟨_,_,_,i,g,rfl,rfl,rfl⟩
    ·split at h
     ·have p:pY txt r':=by
       have:r'=rest.drop (kk+1):=by rw[<-jH,<-D];rfl
       rw[this];exact ht.drop _
      obtain⟨x',post',had',i1,i2,i3,i4,i5⟩:=Fe hV hE f i g p h;exact⟨x',post',had',i1,i2,i3,i4,i5⟩
     ·cases h
theorem Of {txt:aA}{V:VF} (hV:Aa txt V) (hE:oT V) {closing:Nat}{obj:Bool}{pre:List aD}{rest:List aQ}{last:Sp}{nodes:List aD}{r:List aQ}{l:Sp}{ns:List aD}{x:aD}{post:List aD}
  (hm:eH pre x post nodes) (hL:tN txt obj pre x [] nodes) (ht:pY txt rest) (h:iI txt V closing obj pre.length rest last nodes= .ok r l ns): ∃x' post' had',eH pre x' post' ns/\tN txt obj pre x' had' ns/\x'.kind=x.kind/\x'.sf=x.sf/\x'.key=x.key:=by
 unfold iI at h;split at h
 ·exact Fe hV hE _ hm hL ht h
 ·split at h
  ·injection h with h1 h2 a;subst a;exact⟨x,post,[],hm,hL,rfl,rfl,rfl⟩
  ·exact Fe hV hE _ hm hL ht h
theorem Og (txt:aA): ∀lv,Aa txt (bS txt lv)
 | 0=>λrest last nodes key r l ns h=>by
  unfold bS at h;split at h<;>cases h
 | lv + 1=>λrest last nodes key r l ns h ht=>by
  have ih:=Og txt lv;have ie:=nO txt lv;cases rest with
  | nil=>
   unfold bS at h;rw[if_pos (show cU (eV [])=0 from rfl)] at h;cases h
  | cons t q=>
   unfold bS at h;split at h
   ·cases h
   ·rename_i n;have n:cU t.kind≠0:=n;split at h
    ·cases h
    ·simp only[] at h;obtain⟨ns',m,rfl⟩:=Hc h;have w:pY txt q:=λu P=>ht u (List.mem_cons_of_mem _ P);obtain⟨x0,a⟩: ∃x0:aD,⟨cU t.kind,t.sf,t.st,key,[],[]⟩=x0:=⟨_,rfl⟩;have i:eH nodes x0 [] (nodes++ [x0]):=⟨rfl,by rw[<-a];exact aE _,by rw[<-a];exact aE _,λy c=>by cases c⟩;have g: ∀obj,tN txt obj nodes x0 [] (nodes++ [x0]):=λobj=>⟨λj y K c=>(by rw[List.getElem?_eq_none (by rw[aW,dU];omega)] at c;cases c),λq I=>(by rw[<-a] at I;cases I),λ_=>(by rw[<-a];exact⟨rfl,rfl⟩)⟩;have s:1<=cU t.kind/\cU t.kind<=6:=by
      refine⟨by omega,?_⟩;unfold cU
      repeat' split
      all_goals omega
     have fin: ∀ {x':aD}{post':List aD}{obj:Bool}{b},eH nodes x' post' ns'->tN txt obj nodes x' b ns'->x'.kind=cU t.kind->x'.key=key->(x'.kind=6->obj=true)->(x'.kind≠5->x'.kind≠6->x'.kids= []/\cZ txt (x'.sf,l.2)=cZ txt (t.sf,t.st))->
       (∀j y,nodes.length<=j->(iO nodes.length l.2 ns')[j]?=some y->qY txt (iO nodes.length l.2 ns') y)/\ ∃x,(iO nodes.length l.2 ns')[nodes.length]?=some x/\x.key=key:=by
      intro x' post' obj b R E o H M J;have z:=Hg R;have p:iF ns' (iO nodes.length l.2 ns'):=by unfold iO;refine iF.modN ?_ _ _;intro _;rfl
      refine⟨λj y K c=>?_,?_⟩
      ·unfold iO at c;rw[rD] at c;by_cases hj2:j=nodes.length
       ·rw[if_pos hj2,hj2,z] at c;simp only[Option.map_some,cN] at c;subst c;refine qY.mono ⟨by rw[o];exact s,λN F=>(J N F).1,λB=>?_,E.kid,λF=>(E.keys (M F)).2⟩ p;have f:x'.kind=2:=B;have C:=(J (by omega) (by omega)).2;show cZ txt (x'.sf,l.2)=kX\/cZ txt (x'.sf,l.2)=kY;rw[C];refine(ht t (gS ..)).2 ?_;rw[o] at f;unfold cU at f;apply Classical.byContradiction;intro D;rw[if_neg D] at f
        revert f
        repeat' split
        all_goals omega
       ·rw[if_neg hj2] at c;exact(E.post j y (by omega) c).mono p
      ·refine⟨{ x' with st:=l.2 },?_,H⟩;unfold iO;rw[rD,if_pos rfl,z];rfl
     rw[a] at m;have k0:x0.kind=cU t.kind:=(by rw[<-a]);have k1:x0.key=key:=(by rw[<-a]);split at m
     ·rename_i G;obtain⟨x',post',b,i1,i2,i3,i4,i5⟩:=Of ih ie i (g _) w m;have:cU t.kind=5:=by rw[G];rfl
      exact fin i1 i2 (i3.trans k0) (i5.trans k1) (by intro e;rw[i3,k0,this] at e;omega) (by intro e;rw[i3,k0,this] at e;omega)
     ·split at m
      ·rename_i B;obtain⟨x',post',b,i1,i2,i3,i4,i5⟩:=Of ih ie i (g _) w m;have:cU t.kind=6:=by rw[B];rfl
       exact fin i1 i2 (i3.trans k0) (i5.trans k1) (λ_=>rfl) (by intro _ e;rw[i3,k0,this] at e;omega)
      ·rename_i n4 n2;injection m with B Q G;subst G;subst Q;refine fin (obj:=true) i (g _) k0 k1 (λ_=>rfl) (λ_ _=>?_);rw[<-a];exact⟨rfl,rfl⟩
theorem aBR:jV eM=true:=by decide+kernel
theorem aBS (l:aA):jV (cL l).1=true:=by
 by_cases h:(cL l).2=0
 ·exact Az (l:=l) (by rw[<-h])
 ·rw[Dv l h];exact aBR
theorem Oh (l:aA):uP (eX (cL l).1)=true:=by
 unfold uP;rw[Sh _ (aBS l)];simp
theorem aBT {txt:aA}{a b:Nat} (h1:a<=b) (h2:b<=txt.length):cZ txt (a,b)=(txt.drop a).take (b-a):=by
 unfold cZ;rw[if_neg (by simp only[];omega)];simp only[];rw[List.drop_take]
theorem aBU {l:aA} (h:(cA l).2.2=0) (hk:(cA l).1=10\/(cA l).1=11):l.take (cA l).2.1=kX\/l.take (cA l).2.1=kY:=by
 unfold cA at h hk ⊢;split at h
 ·cases h
 ·rename_i c r;simp only[] at hk ⊢;split at hk
  ·rename_i k a;exfalso;unfold qC at a
   repeat' split at a
   all_goals first | (injection a with a;simp only[] at hk;omega) | cases a
  ·rename_i a;rw[a] at h;simp only[] at h ⊢;split at hk
   ·simp only[] at hk;omega
   ·rename_i f;rw[if_neg f] at h ⊢;split at hk
    ·split at hk<;>simp only[] at hk<;>omega
    ·rename_i b;rw[if_neg b] at h ⊢;split at hk
     ·split at hk<;>simp only[] at hk<;>omega
     ·rename_i j;rw[if_neg j] at h ⊢;split at hk
      ·simp only[] at hk;omega
      ·rename_i i;rw[if_neg i];simp only[] at hk ⊢;obtain⟨W,g⟩:=exQ<|(c::r).take (dF gR (c::r));rw[g] at hk ⊢;unfold mB at hk;split at hk
       ·rename_i e;exact .inl e
       ·split at hk
        ·rename_i e;exact .inr e
        ·split at hk<;>omega
theorem aBV (s:aA) {T:List aQ} (hT:eU s.length s 0=(T,none)):pY s (vQ T):=by
 intro t f;have hc:=Gy s.length s 0 (aE _) (by rw[hT]);have e:t∈(eU s.length s 0).1:=by rw[hT];exact(List.mem_filter.1 f).1
 obtain⟨e1,e2,e3,e4⟩:=Gz s.length s s 0 (aE _) (by simp) t e;have b:(cA (s.drop t.sf)).2.1<=(s.drop t.sf).length:=(rC _ e4).1;have a:cZ s (t.sf,t.st)=(s.drop t.sf).take (t.st-t.sf):=aBT (by omega) (by rw[bB] at b;have:t.sf<s.length:=by { apply Classical.byContradiction;intro hn;exact e4 (List.drop_of_length_le (by omega)) };omega);refine⟨a,λc=>?_⟩;rw[a,e3,show t.sf+(cA (s.drop t.sf)).2.1-t.sf=(cA (s.drop t.sf)).2.1 by omega];exact aBU e1 (by rw[<-e2];exact c)
theorem Oi {p:VT->Bool}{f:Nat->VT}: ∀ {l:List Nat},(∀q∈l,cB p (f q)=true)->jY p (l.map f)=true
 | [],_=>rfl
 | q::l,h=>by
  rw[fU,jY,cT];exact⟨h q (gS ..),Oi (λx hx=>h x (List.mem_cons_of_mem _ hx))⟩
theorem Oj {txt:aA}{ns:List aD} (hN: ∀x∈ns,qY txt ns x): ∀(lv k hi:Nat),dT ns lv k hi->cB kF (bN txt ns lv k)=true
 | lv+1,k,hi,h=>by
  have hkid:=λ{x} b {q} f=>h.kid (x:=x) b (q:=q) f;obtain⟨x,b,_⟩:=h;have c:=hN x (aX b);unfold bN;rw[b];simp only[];rw[cB,cT];refine⟨?_,Oi (λq f=>by obtain⟨⟨m,l⟩,_⟩:=hkid b f;exact Oj hN lv q m l)⟩;have h16:=c.kd;unfold kF kZ;rw[cT];refine⟨aM (by show (x.kind:Int)≠7;omega),?_⟩;show uQ (x.kind:Int) (mD x.kind (cZ txt (x.sf,x.st))) (if x.kind=6 then x.kids.map (cE txt ns) else []) (x.kids.map (bN txt ns lv)).length=true;rw[bK];have j:x.kind=1\/x.kind=2\/x.kind=3\/x.kind=4\/x.kind=5\/x.kind=6:=by omega
  have a:=c.flat;have g:=c.tf;have i:=c.keys;rcases j with e | e | e | e | e | e<;>rw[e] at a g i ⊢
  ·rw[a (by decide) (by decide)];rfl
  ·rw[a (by decide) (by decide)];rcases g rfl with e2 | e2<;>(show (decide (cZ txt (x.sf,x.st)=kX)||decide (cZ txt (x.sf,x.st)=kY))=true)<;>rw[e2]<;>decide
  ·rw[a (by decide) (by decide)];show uP (eX (cL (cZ txt (x.sf,x.st))).1)=true;exact Oh _
  ·rw[a (by decide) (by decide)];exact Fd _
  ·rfl
  ·show (pH (x.kids.map (cE txt ns)) x.kids.length&&true)=true;unfold pH;rw[i rfl,bK];simp
theorem aBW {s:aA} (h:(fN s).2.2=0):cB kF (bN s (fN s).1 32 0)=true:=by
 obtain⟨hs,T,l,ns,i,b,a⟩:=Av h;have f:=(Og s 32 _ _ _ _ _ _ _ b (aBV s i)).1;rw[a];refine Oj (λx g=>?_) 32 0 ns.length (vV a);obtain⟨j,c,e⟩:=List.mem_iff_getElem.1 g;exact f j x (bM _) (by rw[bE c,e])
theorem xM {a b:aA} (ha:validD a=true) (hb:validD b=true):validD (a++b)=true:=by rw[xW a b ha];exact hb
theorem Ff: ∀(f:Nat) (l:aA) (i:Nat) (acc:aA),validD acc=true->validD (kW f l i acc).1=true
 | 0,l,i,acc,h=>by cases l<;>rfl
 | _+1,[],i,acc,h=>rfl
 | f+1,c::r,i,acc,h=>by
  rw[yQ];split
  ·split
   ·exact Ff f _ _ _ (xM h rfl)
   ·exact h
  ·split
   ·rfl
   ·rename_i hp;obtain⟨p1,p2,p3,_⟩:=Ru (c::r) (List.cons_ne_nil _ _) (by simpa using hp);refine Ff f _ _ _ (xM h ?_);rw[<-p3];exact Aq _ p1
theorem Ol (t:aA):validD (nA t).1=true:=by
 unfold nA;split
 ·unfold uV;split
  ·rfl
  ·show validD (kD t 0).1=true;unfold kD;split
   ·rfl
   ·split
    ·exact Ff _ _ _ _ rfl
    ·rfl
 ·exact Fd t
theorem Om {t:aA} (h:rP t=true):validD t=true:=by
 unfold rP at h;split at h
 ·cases h
 ·simp only[cT] at h;have a:=h.1.1.1.1.1.1.1;unfold sZ at a;rw[cT] at a;exact a.2
theorem xN {k:Int}{s:aA} (h7:k≠7) (h:uQ k s [] 0=true):cB kF (.mk k s [] [])=true:=by
 rw[cB,cT];refine⟨?_,rfl⟩;unfold kF kZ;rw[cT];exact⟨aM h7,h⟩
theorem On {s:aA} (h:validD s=true):cB kF (kH s)=true:=xN (λe=>by cases e) h
theorem Oo {t:aA} (h:validD t=true):cB kF (kI t)=true:=by
 unfold kI;unfold pJ;split
 ·exact xN (λe=>by cases e) rfl
 ·split
  ·rename_i a;refine xN (λe=>by cases e) ?_;show (decide (t=kX)||decide (t=kY))=true;rcases a with e | e<;>rw[e]<;>decide
  ·split
   ·exact xN (λe=>by cases e) (Oh t)
   ·exact xN (λe=>by cases e) h
theorem aBX {t:aA} (h:(fP t).2=0):cB kF (fP t).1=true:=by
 unfold fP at h ⊢;split at h
 ·exact Oo rfl
 ·rename_i c r;split at h
  ·rename_i b;rw[if_pos b];split at h
   ·rename_i a;exact absurd h a
   ·rename_i a;rw[if_neg a];exact On (Ol _)
  ·rename_i b;rw[if_neg b];split at h
   ·rename_i f;rw[if_pos f];have e:(fK (c::r)).2.2=0:=h;show cB kF (fK (c::r)).1=true;unfold fK at e ⊢;split at e
    ·rename_i a;exact absurd e a
    ·rename_i a;rw[if_neg a];exact aBW (by simpa using a)
   ·rename_i f;rw[if_neg f];split at h
    ·rename_i g;rw[if_pos g];exact Oo (Om g)
    ·cases h
theorem aBY {t:aA} (h:(jO t).2=0):validD (jO t).1=true:=by
 unfold jO at h ⊢;split at h
 ·rfl
 ·split
  ·exact Ol _
  ·split
   ·rename_i a;exact Om a
   ·rfl
end
end Go.Proofs.YtaifnmjjpddikaaGreatDoor
