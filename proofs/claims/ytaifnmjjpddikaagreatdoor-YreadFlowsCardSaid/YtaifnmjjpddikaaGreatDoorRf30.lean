import Derived.Test.YtaifnmjjpddikaaGreatDoorRf29
import Derived.Maps.OwnIn
import Derived.Sort.CutIn
import Derived.Test.YtaifnmjjpddikaaGreatDoorRf4
import Derived.Test.YtaifnmjjpddikaaGreatDoorRf13
import Derived.Test.YtaifnmjjpddikaaGreatDoorRf20
import Derived.Test.YtaifnmjjpddikaaGreatDoorRf12
import Derived.Test.YtaifnmjjpddikaaGreatDoorRf27
import Derived.Test.YtaifnmjjpddikaaGreatDoorRf28
set_option maxRecDepth 100000
set_option maxHeartbeats 8000000
namespace Go.Proofs.YtaifnmjjpddikaaGreatDoor
set_option linter.unusedVariables false
set_option linter.unusedSimpArgs false
section
open Go.RowKit Go.Shelf
open Go.Lib hiding intOf
theorem aBi (n:Nat) (t:VT) (kv iv:Value) (w:World) (h:VD w n t kv iv) (hbk:t.bulk<=1073741824) (hV:jV w) (hH:mM t) (hO:qM t=true):
  Calls Tryz.prog 23 #[vv t kv iv] w (jI t w):=by
 obtain⟨pk,ck,p,c,rfl,rfl⟩:=h.form;obtain⟨X,hX⟩:=exQ<|w.heap.size;obtain⟨W1,hW1⟩:=exQ<|w.alloc (.cells #[.int .i64 t.kind, .string (bs t.text), .slice pk t.keys.length ck, .slice p t.items.length c] 26);obtain⟨R,hR⟩:=exQ<|W1.heap.size;obtain⟨W2,hW2⟩:=exQ<|W1.alloc (.cells #[.int .i64 0, .string ⟨#[]⟩, .slice none 0 0, .slice none 0 0] 26);have hB1:Below w.heap.size w W1:=by rw[<-hW1];exact aH _ _
 have hB12:Below W1.heap.size W1 W2:=by rw[<-hW2];exact aH _ _
 have HB2:=hid (aC hB1 hB12);have HXB:Hid (cR W2 X t (.slice pk t.keys.length ck) (.slice p t.items.length c)):=hid (cR.keep (by rw[<-hW1,<-hX];exact cR.new w t _ _) hB12);have HRB:Hid (W2.heap[R]?=some (.cells #[.int .i64 0, .string (bs []), .slice none 0 0, .slice none 0 0] 26)):=hid (by rw[<-hW2,<-hR];exact heap_alloc_new W1 _);have hXR:X<R:=by rw[<-hR,<-hX,<-hW1];simp
 have hR2:R<W2.heap.size:=by rw[<-hW2,<-hR];simp
 have HSZ:=hid (aI hX (aI hXR hR2));have HC1:=hid (My n t _ _ W2 (h.keep HB2.out) hbk (hV.keep HB2.out) hH);have HC2:Hid (∀w',Below W2.heap.size W2 w'->Calls Tryz.prog 47 #[vv t (.slice pk t.keys.length ck) (.slice p t.items.length c)] w' (jI t w')):=hid (λw' hb=>Nh n t _ _ w' (h.keep (aC HB2.out hb)) hbk);rw[hO] at HC1;unfold vv at HC1 HC2 ⊢;clear h hV hB1 hB12 hXR hR2 hO hH hbk;go_enter Tryz.func23,Tryz.ntmps23;go_upto_region 1 with fail;clear hW1 hW2 hR hX;obtain⟨b0,b1,b2,b3⟩:=HXB.out.cells;go_wp2_with fail;refine HC1.out.mono ?_;rintro e w3 ⟨rfl,hb3⟩;have HB3:=hid hb3;clear hb3 b0 b1 b2 b3;obtain⟨b0,b1,b2,b3⟩:=(HXB.out.keep HB3.out).cells;go_wp2_with fail;refine(HC2.out _ (by first | exact HB3.out | exact HB3.out.drew)).mono ?_;rintro e w4 ⟨⟨kv4,iv4,rfl,hv4⟩,hb4⟩;obtain⟨u1,u2,u3,u4,rfl,rfl⟩:=hv4.form;have HB4:Hid (Below W2.heap.size W2 w4):=hid (by first | exact aC HB3.out hb4 | exact aC HB3.out.drew hb4);have HV4:Hid (eU W2.heap.size w4 t.depth t (.slice u1 t.keys.length u2) (.slice u3 t.items.length u4)):=hid (hv4.mono (λq hq _=>by have:=HB3.out.size;first | exact aW this hq | exact aW HB3.out.drew.size hq));have HPN:=hid (iQ HB2.out (by have:=HSZ.out;omega) HSZ.out.2.2 HV4.out HB4.out HRB.out);obtain⟨r0,r1,r2,r3,f0,f1,f2,f3⟩:=bC ((HB4.out.block R HSZ.out.2.2).trans HRB.out);clear hv4 hb4 b0 b1 b2 b3;unfold vv;go_wp2_with fail;obtain⟨WF,hWF⟩:=exQ<|bF w4 R t.kind t.text (.slice u1 t.keys.length u2) (.slice u3 t.items.length u4);rw[hWF] at HPN;have hWF':(((w4.setCell ⟨R,0,none⟩ (.int .i64 t.kind)).setCell ⟨R,1,none⟩ (.string (bs t.text))).setCell ⟨R,2,none⟩ (.slice u1 t.keys.length u2)).setCell ⟨R,3,none⟩ (.slice u3 t.items.length u4)=WF:=hWF;rw[hWF'];clear hWF hWF' r0 r1 r2 r3 f0 f1 f2 f3;obtain⟨d0,d1,d2,d3,_⟩:=bC HPN.out.2.2;refine bodyPost_ret (v:=vv t (.slice u1 t.keys.length u2) (.slice u3 t.items.length u4)) ?_ rfl ⟨⟨_,_,rfl,HPN.out.1⟩,HPN.out.2.1⟩;simp[results,Tryz.results23,go_sem,d0,d1,d2,d3,vv]
abbrev WE:=Int×VT×Value×Value
def zE (x:WE):Array Value:= #[.int .i64 x.1,vv x.2.1 x.2.2.1 x.2.2.2]
def kU (w0:World):List aA->VT->List WE->Prop
 | [],_,ys=>ys= []
 | st::r,t,ys=>if 0<=kT t st then ∃x kv iv rest n,t.items[(kT t st).toNat]?=some x/\VD w0 n x kv iv/\ys=(kT t st,x,kv,iv)::rest/\kU w0 r x rest else ys= []
theorem Nj (x:ByteArray): ∀(zs:List ByteArray) (i:Nat),Lib.idxFromS zs x i= -1\/ ∃j,j<zs.length/\Lib.idxFromS zs x i=((i+j:Nat):Int)
 | [],i=> .inl rfl
 | z::zs,i=>by
  rw[Lib.idxFromS];split
  ·exact .inr ⟨0,Nat.succ_pos _,rfl⟩
  ·rcases Nj x zs (i+1) with h | ⟨j,h1,h2⟩
   ·exact .inl h
   ·exact .inr ⟨j+1,by simp only[aT];omega,by rw[h2];omega⟩
theorem aBj {t:VT} (hn:oJ t=true) (st:aA):kT t st<0\/ ∃j:Nat,kT t st=(j:Int)/\j<t.items.length:=by
 unfold kT;by_cases h6:t.kind=6
 ·rw[if_pos h6];rcases Nj (bs st) (t.keys.map bs) 0 with h | ⟨j,h1,h2⟩
  ·exact .inl (by unfold Lib.idxOfS;rw[h];decide)
  ·refine .inr ⟨j,by unfold Lib.idxOfS;rw[h2,Nat.zero_add],?_⟩;rw[bU] at h1;unfold oJ yE at hn;rw[if_neg (by omega),if_pos h6] at hn;simp only[fB] at hn;have:=hn.1;unfold uC at this;simp only[fB,kY] at this;omega
 ·rw[if_neg h6];by_cases h5:t.kind=5
  ·rw[if_pos h5];split
   ·rename_i hc;have:=Nd st;exact .inr ⟨(iS st).1.toNat,by omega,by omega⟩
   ·exact .inl (by decide)
  ·rw[if_neg h5];exact .inl (by decide)
def Ed (B:Nat) (A C:World):Prop:=A.grownBy C none\/ ∃k t kv iv,C=bF A B k t kv iv
def Nk (n B p:Nat) (A W:World):Prop:=W.heap[B]?=A.heap[B]?/\W.heap[p]?=A.heap[p]?/\Below n A W
theorem aBk (t:VT) (kv iv pv:Value) (w:World) (hk: ∃pk ck pi ci,kv= .slice pk t.keys.length ck/\iv= .slice pi t.items.length ci) (hp: ∃p n c,pv= .slice p n c):
  Calls Tryz.prog 46 #[vv t kv iv,pv] w λe w'=>e= .returned (.func (.func 86) #[] #[.pointer (some ⟨w.heap.size+1,0,none⟩), .pointer (some ⟨w.heap.size,0,none⟩)])/\w'=(w.alloc (.cells #[.int .i64 t.kind, .string (bs t.text),kv,iv] 26)).alloc (.cells #[pv] 23):=by
 obtain⟨pk,ck,pi,ci,rfl,rfl⟩:=hk;obtain⟨p,n,c,rfl⟩:=hp;have hmf: ∀(fn:Fn) (first cap:Array Value) (w:World),(Instr.makeFunc fn first cap).run Tryz.prog w= .ok (.func fn first cap) w:=λ_ _ _ _=>rfl;unfold vv;go_enter Tryz.func46,Tryz.ntmps46;go_wp2_with fail;go_ret;exact⟨by simp,rfl⟩
theorem Nl {q:VT->Bool}{t x:VT} (h:dO q t=true) (hx:x∈t.items):dO q x=true:=by
 have hl: ∀l:List VT,pQ q l=true-> ∀y∈l,dO q y=true:=by
  intro l
  induction l with
  | nil=>intro _ y hy;cases hy
  | cons z l ih=>
   intro h y hy;rw[pQ,fB] at h;rcases dN.1 hy with rfl | hy
   ·exact h.1
   ·exact ih h.2 y hy
 cases t with
 | mk k s ks l=>
  rw[dO,fB] at h;exact hl l h.2 x hx
theorem aBl {q:VT->Bool}{t:VT} (h:dO q t=true):q t=true:=by
 cases t with
 | mk k s ks l=>
  rw[dO,fB] at h;exact h.1
def Ee (w0:World) (Bv Bp:Nat) (t0:VT) (path:List aA) (pv:Value) (J:List WE->World->Prop) (i:Nat) (t:VT) (kv iv:Value) (wr:World):Prop:=
 ∃pre n,J pre wr/\Below w0.heap.size w0 wr/\cR wr Bv t kv iv/\Boxed wr Bp 23 pv/\VD w0 n t kv iv/\dO oJ t=true/\t.bulk<=1073741824/\pre.length=i/\ ∀rest,kU w0 (path.drop i) t rest->kU w0 path t0 (pre++rest)
theorem aBm {w0:World}{path:List aA}{i:Nat}{t:VT}{st:aA} (hs:path[i]?=some st) (h:kT t st<0):kU w0 (path.drop i) t []:=by
 obtain⟨hl,he⟩:=aQ.1 hs;rw[iK hl,kU,if_neg (by rw[he];omega)]
theorem aBn {w0:World}{path:List aA}{i j n:Nat}{t x:VT}{kv iv:Value}{st:aA}{rest:List WE} (hs:path[i]?=some st) (h:kT t st=(j:Int)) (hx:t.items[j]?=some x) (hv:VD w0 n x kv iv) (hr:kU w0 (path.drop (i+1)) x rest):kU w0 (path.drop i) t (((j:Int),x,kv,iv)::rest):=by
 obtain⟨hl,he⟩:=aQ.1 hs;rw[iK hl,kU,he,if_pos (by omega)];exact⟨x,kv,iv,rest,n,by rw[h,fC];exact hx,hv,by rw[h],hr⟩
theorem aBo (n:Nat) (hn:1<=n) (q Bv Bp:Nat) (w0:World) (t:VT) (kv iv:Value) (m:Nat) (path:List aA) (pp:Option Addr) (cp:Nat) (hvd:VD w0 m t kv iv) (hO:dO oJ t=true) (hbk:t.bulk<=1073741824) (hlies:nT w0 pp path) (hpl:path.length<=1073741824) (hV:cO w0) (hne:Bv≠Bp) (hBv:w0.heap.size<=Bv)
  (J:List WE->World->Prop) (hJ: ∀pre A C,J pre A->Ed Bv A C->J pre C)
  (hY: ∀pre x W,J pre W->Below w0.heap.size w0 W->pre.length<path.length->(∃k,VD w0 k x.2.1 x.2.2.1 x.2.2.2)->YieldAt Fence.wide (n-1) Tryz.prog q (zE x) W λe W'=>e= .returned (.bool true)/\J (pre++ [x]) W'/\Nk w0.heap.size Bv Bp W W')
  (W:World) (hB:Below w0.heap.size w0 W) (bv:cR W Bv t kv iv) (bp:Boxed W Bp 23 (.slice pp path.length cp)) (h0:J [] W):
  CallsIn Fence.wide n Tryz.prog 86 #[.func (.yield q) #[] #[], .pointer (some ⟨Bp,0,none⟩), .pointer (some ⟨Bv,0,none⟩)] W λe W'=>(∃u,e= .returned u)/\ ∃ys,kU w0 path t ys/\J ys W':=by
 refine callsIn_of_wp Tryz.func86 rfl trivial ?_ rfl;simp only[Tryz.ntmps86,List.size_toArray,aT,gR,Nat.reduceAdd,Nat.reduceSub,Array.replicate_succ,Array.replicate_zero,List.push_toArray,List.append_toArray,iL,dH];have HJ:=hid hJ;have HY:=hid hY;have HL:=hid (aI hlies (aI hne (aI hBv hV)));have HS:Hid (Ee w0 Bv Bp t path (.slice pp path.length cp) J 0 t kv iv W):=hid ⟨[],m,h0,hB,bv,bp,hvd,hO,hbk,rfl,λrest h=>h⟩;have hcp:=bp.cell;clear hJ hY h0 bv bp hvd hO hbk hlies hB hne hBv hV;gi_wp2_with fail;gi_loopw [9] (λs9 wr=> ∃i:Nat,s9= .int .i64 (i:Int)/\i<=path.length/\Hid (∃tc kc ic,Ee w0 Bv Bp t path (.slice pp path.length cp) J i tc kc ic wr)) (λs9 _=>path.length-(RowKit.intOf s9).toNat)
 case atStart=>exact⟨0,rfl,cN _,hid ⟨_,_,_,HS.out⟩⟩
 case round=>
  obtain⟨i,rfl,hi,HI⟩:=hrel;obtain⟨tc,kc,ic,pre,k,hj,hb,hbx,hbp,hv,hev,hbl,hpi,hfin⟩:=HI.out;clear HI HS;by_cases hil:i<path.length
  ·obtain⟨st,hst⟩: ∃st,path[i]?=some st:=⟨_,bJ hil⟩;obtain⟨g,o,rfl,cst⟩:=HL.out.1.at_ hst;have cst:=bE cst hb;have di:decide ((i:Int)<(path.length:Int))=true:=aN (by omega);have i0:(0:Int)<=(i:Int):=(by omega);have i1:(i:Int)<(path.length:Int):=(by omega);obtain⟨b0,b1,b2,b3,f0,f1,f2,f3⟩:=bC hbx;have hcp':=hbp.cell;obtain⟨k',hk',⟨pk,ck,rfl,hck,hkl⟩,pi,ci,rfl,hci,hit⟩:=hv.parts;have hbl2:tc.keys.length<=1073741824/\tc.items.length<=1073741824/\eK tc.items<=1073741824:=by
    have hb0:tc.bulk=tc.text.length+(kG tc.keys+tc.keys.length)+eK tc.items+1:=by cases tc;rw[VT.bulk];rfl
    have:=rR tc.items;omega
   have CI:=hid (aAP k tc _ _ st wr (hv.keep hb) hbl2.1 hbl2.2.1 (HL.out.2.2.2.keep hb));unfold vv at CI;have HK:=hid (aI hj (aI hb (aI hbx (aI hbp (aI hv (aI hev (aI hbl2 (aI hit (aI hpi hfin)))))))));have HST:=hid hst;obtain⟨I,hI⟩:=exQ<|kT tc st;rw[hI] at CI;have hcs:=aBj (aBl hev) st;rw[hI] at hcs;have HI:=hid hI;clear hj hb hbx hbp hv hev hbl2 hit hfin hbl hst hpi hI hkl hck hci hk';rcases hcs with hneg | ⟨j,rfl,hjl⟩
   ·have dneg:decide (I<0)=true:=aN hneg;have HE:Hid (∃ys,kU w0 path t ys/\J ys wr):=hid ⟨pre++ [],HK.out.2.2.2.2.2.2.2.2.2 [] (aBm HST.out (by rw[HI.out];exact hneg)),by rw[List.append_nil];exact HK.out.1⟩;gi_wp2_with fail;refine⟨trivial,?_⟩;(with_reducible refine(callsIn_wide.2 CI.out).mono ?_);rintro e w1 ⟨rfl,hb1⟩;have HE2:Hid (∃ys,kU w0 path t ys/\J ys w1):=hid (by obtain⟨ys,h1,h2⟩:=HE.out;exact⟨ys,h1,HJ.out _ _ _ h2 (.inl (Bh hb1))⟩);clear hb1 b0 b1 b2 b3 f0 f1 f2 f3 cst hcp hcp' HK;gi_wp2_with fail;refine bodyPost_ret (results_none rfl _ _ _) rfl ?_;exact⟨⟨_,rfl⟩,HE2.out⟩
   ·have dneg:decide ((j:Int)<0)=false:=aJ (by omega);obtain⟨x,hx⟩: ∃x,tc.items[j]?=some x:=⟨_,bJ hjl⟩;obtain⟨g2,o2,kx,ix,rfl,hg2,n0,n1,n2,n3,hvx⟩:=HK.out.2.2.2.2.2.2.2.1 j x hx;obtain⟨pkx,ckx,pix,cix,rfl,rfl⟩:=hvx.form;have n0:=bE n0 HK.out.2.1;have n1:=bE n1 HK.out.2.1;have n2:=bE n2 HK.out.2.1;have n3:=bE n3 HK.out.2.1;have j0:(0:Int)<=(j:Int):=(by omega);have j1:(j:Int)<(tc.items.length:Int):=(by omega);have HX:=hid (aI hx hvx);clear hx hvx;gi_wp2_with fail;refine⟨trivial,?_⟩;(with_reducible refine(callsIn_wide.2 CI.out).mono ?_);rintro e w1 ⟨rfl,hb1⟩;have m0:=bE n0 hb1;have m1:=bE n1 hb1;have m2:=bE n2 hb1;have m3:=bE n3 hb1;have c1:=bE hcp' hb1;obtain⟨a0,a1,a2,a3,d0,d1,d2,d3⟩:=bC ((hb1.block Bv (aF HK.out.2.2.1)).trans HK.out.2.2.1);have HB1:=hid hb1;clear b0 b1 b2 b3 f0 f1 f2 f3 cst n0 n1 n2 n3 hcp hcp' hb1;gi_upto_region 6 with fail;obtain⟨WF,hWF⟩:=exQ<|bF w1 Bv x.kind x.text (.slice pkx x.keys.length ckx) (.slice pix x.items.length cix);have hWF':(((w1.setCell ⟨Bv,0,none⟩ (.int .i64 x.kind)).setCell ⟨Bv,1,none⟩ (.string (bs x.text))).setCell ⟨Bv,2,none⟩ (.slice pkx x.keys.length ckx)).setCell ⟨Bv,3,none⟩ (.slice pix x.items.length cix)=WF:=hWF;rw[hWF'];have HVF:Hid (cR WF Bv x (.slice pkx x.keys.length ckx) (.slice pix x.items.length cix)/\Below w0.heap.size w0 WF/\Boxed WF Bp 23 (.slice (some ⟨g,o,none⟩) path.length cp)/\J pre WF):=hid (by rw[<-hWF];refine⟨rC ((HB1.out.block Bv (aF HK.out.2.2.1)).trans HK.out.2.2.1),oL (aC HK.out.2.1 HB1.out) HL.out.2.2.1,?_,HJ.out _ _ _ (HJ.out _ _ _ HK.out.1 (.inl (Bh HB1.out))) (.inr ⟨_,_,_,_,rfl⟩)⟩;exact(qB (Ne.symm HL.out.2.1)).trans ((HB1.out.block Bp (aF HK.out.2.2.2.1)).trans HK.out.2.2.2.1));clear hWF hWF' a0 a1 a2 a3 d0 d1 d2 d3 m0 m1 m2 m3 c1;obtain⟨a0,a1,a2,a3,_⟩:=bC HVF.out.1;have hcp:=HVF.out.2.2.1.cell;obtain⟨fn,tmps,assign,body,hy,hR⟩:=HY.out pre ((j:Int),x, .slice pkx x.keys.length ckx, .slice pix x.items.length cix) WF HVF.out.2.2.2 HVF.out.2.1 (by have:=HK.out.2.2.2.2.2.2.2.2.1;omega) ⟨_,HX.out.2⟩;unfold zE vv at hy;simp only[] at hy;gi_wp2_with fail;refine hR.mono ?_;clear hy hR;rintro e W3 ⟨rfl,hJ3,hk3⟩;have HN:Hid (∃tc kc ic,Ee w0 Bv Bp t path (.slice (some ⟨g,o,none⟩) path.length cp) J (i+1) tc kc ic W3):=hid (by have hev:=Nl HK.out.2.2.2.2.2.1 (aX HX.out.1);have hbb:=tN (aX HX.out.1);have hb2:=HK.out.2.2.2.2.2.2.1;refine⟨x,_,_,pre++ [((j:Int),x, .slice pkx x.keys.length ckx, .slice pix x.items.length cix)],_,hJ3,HVF.out.2.1.trans hk3.2.2,hk3.1.trans HVF.out.1,hk3.2.1.trans HVF.out.2.2.1,HX.out.2,hev,by omega,by have:=HK.out.2.2.2.2.2.2.2.2.1;rw[aS,this];rfl,λrest hr=>?_⟩;have:=HK.out.2.2.2.2.2.2.2.2.2 _ (aBn HST.out HI.out HX.out.1 HX.out.2 hr);rw[pN];exact this);clear a0 a1 a2 a3 hcp hJ3 hk3 HVF HB1 HK HX CI HI HST;gi_wp2_with fail;go_roundw
    case rel=>exact⟨i+1,by go_num,by omega,HN⟩
    case measure=>simp[RowKit.intOf];omega
  ·have di:decide ((i:Int)<(path.length:Int))=false:=aJ (by omega);have HE:Hid (∃ys,kU w0 path t ys/\J ys wr):=hid ⟨pre++ [],hfin [] (by rw[List.drop_eq_nil_of_le (by omega)];rfl),by rw[List.append_nil];exact hj⟩;clear hj hb hbx hbp hv hev hbl hpi hfin;gi_wp2_with fail;refine bodyPost_end (results_none rfl _ _ _) rfl ?_;exact⟨⟨_,rfl⟩,HE.out⟩
def pJ (pre:List WE):List Value:=pre.map λx=> .int .i64 x.1
def Nm (x:VT) (kx ix:Value):Array Value:= #[.int .i64 x.kind, .string (bs x.text),kx,ix]
def uO:List (Nat×Nat):= [(0,15),(1,16),(4,19)]
theorem aBp: ∀p∈uO,∀q∈uO,(p.1=q.1->p.2=q.2)/\(p.2=q.2->p.1=q.1):=by decide
theorem wY: ∀p∈uO,p.2≠17/\p.2≠18/\p.1≠2/\p.1≠3/\p.1≠5/\p.1≠6:=by decide
theorem not_row {w:World}{i B size n:Nat}{cs:Array Value}{T e:TypeId}{v:Value}{xs:List Value} (h:w.heap[i]?=some (.cells cs T)) (hT:T≠e) (hr:w.ownsRow B e size v n xs):some i≠v.ownBlock:=by
 intro ho;rcases hr.2 with⟨e1,_⟩ | ⟨g,cap,cu,rfl,_,hg,_⟩
 ·rw[e1] at ho;cases ho
 ·have:i=g:=by simpa [Value.ownBlock] using ho
  subst this;rw[h] at hg;injection hg with hg;injection hg with _ hg;exact hT hg
structure BF (ops:Array Oper) (n0:Nat) (A:World) (O L:Nat) (S:List Nat) (vO:Value) (pre:List WE) (k:Int) (x:VT) (kx ix:Value) (ob:Array Value) (val:Nat->Value) (d:Nat->Bool) (v:Nat->Value) (w':World):Prop where
 clo:nY ops d
 cl: ∀q∈uO,d q.1=true->v q.2=val q.1
 tmp:d 2=true->d 3=false-> ∃Y,v 17= .slice (some ⟨Y,0,none⟩) 1 1/\A.heap.size<=Y/\w'.heap[Y]?=some (.cells #[.int .i64 k] 3)
 row0:d 3=false->w'.ownsRow n0 3 1 vO pre.length (pJ pre)
 row1:d 3=true->w'.ownsRow n0 3 1 (v 18) (pre.length+1) (pJ pre++ [.int .i64 k])
 bO:w'.heap[O]?=some (.cells #[if d 5 then v 18 else vO] 60)
 bL:w'.heap[L]?=some (.cells (if d 6 then Nm x kx ix else ob) 26)
 oth: ∀i∈S,w'.heap[i]?=A.heap[i]?
 bel:Below n0 A w'
 kf:KeepsOthers A w'
structure BH (n0:Nat) (A:World) (O L:Nat) (S:List Nat):Prop where
 ne:L≠O/\n0<=O/\n0<=L/\n0<=A.heap.size
 s: ∀i∈S,i≠O/\i≠L/\ ∃cs T,A.heap[i]?=some (.cells cs T)/\T≠3
section
variable {ops:Array Oper}{n0:Nat}{A:World}{O L:Nat}{S:List Nat}{vO:Value}{pre:List WE}{k:Int}{x:VT}{kx ix:Value}{ob:Array Value}{val:Nat->Value}{d:Nat->Bool}{v:Nat->Value}{w' w2:World}
theorem BF.pure (h:BF ops n0 A O L S vO pre k x kx ix ob val d v w') {i q:Nat}{o:Oper} (ho:ops[i]?=some o) (hall: ∀e∈o.after,Region.binds .any e=true->d e.on=true) (hm:(i,q)∈uO) {y:Value} (hy:y=val i):BF ops n0 A O L S vO pre k x kx ix ob val (bI d i) (bZ v (some q) y) w':=by
 obtain⟨n1,n2,n3,n4,n5,n6⟩:=wY _ hm;simp only[] at n1 n2 n3 n4 n5 n6;refine⟨h.clo.step ho hall,λp hp hd=>?_,λh2 h3=>?_,λh3=>?_,λh3=>?_,?_,?_,h.oth,h.bel,h.kf⟩
 ·obtain⟨o1,o2⟩:=aBp _ hm _ hp;by_cases e:p.1=i
  ·have e2:=o1 e.symm;simp only[] at e2;rw[<-e2,qV,e];exact hy
  ·have e2:p.2≠q:=λe2=>e (o2 e2.symm).symm;rw[gU e2];rw[bM e] at hd;exact h.cl p hp hd
 ·rw[bM (Ne.symm n3)] at h2;rw[bM (Ne.symm n4)] at h3;rw[gU (Ne.symm n1)];exact h.tmp h2 h3
 ·rw[bM (Ne.symm n4)] at h3;exact h.row0 h3
 ·rw[bM (Ne.symm n4)] at h3;rw[gU (Ne.symm n2)];exact h.row1 h3
 ·rw[bM (Ne.symm n5),gU (Ne.symm n2)];exact h.bO
 ·rw[bM (Ne.symm n6)];exact h.bL
theorem BF.build (h:BF ops n0 A O L S vO pre k x kx ix ob val d v w') {o:Oper} (ho:ops[2]?=some o) (hall: ∀e∈o.after,Region.binds .any e=true->d e.on=true) (hH:BH n0 A O L S):BF ops n0 A O L S vO pre k x kx ix ob val (bI d 2) (bZ v (some 17) (.slice (some ⟨w'.heap.size,0,none⟩) 1 1)) (w'.alloc (.cells #[.int .i64 k] 3)):=by
 have hk: ∀i o,w'.heap[i]?=some o->(w'.alloc (.cells #[.int .i64 k] 3)).heap[i]?=some o:=λi o hi=>by rw[Below.heap_alloc _ _ _ (aF hi)];exact hi
 refine⟨h.clo.step ho hall,λp hp hd=>?_,λ_ h3=>⟨_,qV,h.bel.size,heap_alloc_new w' _⟩,λh3=>?_,λh3=>?_,?_,?_,λi hi=>?_,h.bel.alloc (aW hH.ne.2.2.2 h.bel.size) _,h.kf.trans (KeepsOthers.alloc _ _)⟩
 ·obtain⟨n1,n2,n3,n4,n5,n6⟩:=wY _ hp;rw[bM n3] at hd;rw[gU n1];exact h.cl p hp hd
 ·rw[bM (by decide)] at h3;exact(h.row0 h3).alloc _
 ·rw[bM (by decide)] at h3;rw[gU (by decide)];exact(h.row1 h3).alloc _
 ·rw[bM (by decide),gU (by decide)];exact hk _ _ h.bO
 ·rw[bM (by decide)];exact hk _ _ h.bL
 ·obtain⟨_,_,cs,T,h1,_⟩:=hH.s i hi;rw[h1];exact hk _ _ ((h.oth i hi).trans h1)
theorem BF.app (h:BF ops n0 A O L S vO pre k x kx ix ob val d v w') {o:Oper} (ho:ops[3]?=some o) (hall: ∀e∈o.after,Region.binds .any e=true->d e.on=true) (hH:BH n0 A O L S) (h3:d 3=false) (h5:d 5=false) {y:Value} (hy:w2.ownsRow n0 3 1 y (pre.length+1) (pJ pre++ [.int .i64 k])) (hb:Below n0 w' w2) (hk: ∀i,i<w'.heap.size->some i≠vO.ownBlock->w2.heap[i]?=w'.heap[i]?):
  BF ops n0 A O L S vO pre k x kx ix ob val (bI d 3) (bZ v (some 18) y) w2:=by
 have hr:=h.row0 h3;have hk2: ∀(i:Nat) (cs:Array Value) (T:TypeId),w'.heap[i]?=some (Obj.cells cs T)->T≠3->w2.heap[i]?=some (Obj.cells cs T):=λi cs T hi hT=>by rw[hk i (aF hi) (not_row hi hT hr)];exact hi
 refine⟨h.clo.step ho hall,λp hp hd=>?_,λ_ h3=>?_,λh3=>?_,λ_=>by rw[qV];exact hy,?_,?_,λi hi=>?_,h.bel.trans hb,h.kf.trans ⟨hb.size,λi o hi hc=>?_⟩⟩
 ·obtain⟨n1,n2,n3,n4,n5,n6⟩:=wY _ hp;rw[bM n4] at hd;rw[gU n2];exact h.cl p hp hd
 ·rw[nZ] at h3;cases h3
 ·rw[nZ] at h3;cases h3
 ·have:=h.bO;rw[h5] at this;rw[bM (by decide),h5];exact hk2 _ _ _ this (by decide)
 ·rw[bM (by decide)];exact hk2 _ _ _ h.bL (by decide)
 ·obtain⟨_,_,cs,T,h1,h2⟩:=hH.s i hi;rw[h1];exact hk2 _ _ _ ((h.oth i hi).trans h1) h2
 ·have:some i≠vO.ownBlock:=λe=>by
   rcases hr.2 with⟨e1,_⟩ | ⟨g,cap,cu,rfl,_,hg,_⟩
   ·rw[e1] at e;cases e
   ·have e2:i=g:=(by simpa [Value.ownBlock] using e);subst e2;rw[hg] at hi;cases hi;cases hc
  rw[hk i (aF hi) this];exact hi
theorem BF.set5 (h:BF ops n0 A O L S vO pre k x kx ix ob val d v w') {o:Oper} (ho:ops[5]?=some o) (hall: ∀e∈o.after,Region.binds .any e=true->d e.on=true) (hH:BH n0 A O L S) (h3:d 3=true) (y:Value):
  BF ops n0 A O L S vO pre k x kx ix ob val (bI d 5) (bZ v none y) (w'.setCell ⟨O,0,none⟩ (v 18)):=by
 have ho2: ∀i,i≠O->(w'.setCell ⟨O,0,none⟩ (v 18)).heap[i]?=w'.heap[i]?:=λi hi=>dC _ ⟨O,0,none⟩ _ i hi;refine⟨h.clo.step ho hall,λp hp hd=>?_,λ_ h3'=>?_,λh3'=>?_,λ_=>?_,?_,?_,λi hi=>(ho2 i (hH.s i hi).1).trans (h.oth i hi),h.bel.setCell (p:=⟨O,0,none⟩) hH.ne.2.1 _,h.kf.trans (KeepsOthers.setCell _ _ _)⟩
 ·obtain⟨n1,n2,n3,n4,n5,n6⟩:=wY _ hp;rw[bM n5] at hd;exact h.cl p hp hd
 ·rw[bM (by decide),h3] at h3';cases h3'
 ·rw[bM (by decide),h3] at h3';cases h3'
 ·exact xV (t:=60) h.bO (by decide) (h.row1 h3) _
 ·rw[gL h.bO,nZ];rfl
 ·rw[bM (by decide),ho2 L hH.ne.1];exact h.bL
theorem BF.set6 (h:BF ops n0 A O L S vO pre k x kx ix ob val d v w') (hob:ob.size=4) {o:Oper} (ho:ops[6]?=some o) (hall: ∀e∈o.after,Region.binds .any e=true->d e.on=true) (hH:BH n0 A O L S) (h6:d 6=false) (y:Value):
  BF ops n0 A O L S vO pre k x kx ix ob val (bI d 6) (bZ v none y) (bF w' L x.kind x.text kx ix):=by
 have ho2: ∀i,i≠L->(bF w' L x.kind x.text kx ix).heap[i]?=w'.heap[i]?:=λi hi=>qB hi;have hr: ∀ {u:Value}{n:Nat}{xs:List Value},w'.ownsRow n0 3 1 u n xs->(bF w' L x.kind x.text kx ix).ownsRow n0 3 1 u n xs:=λ{u n xs} hr=>by
  have hne:=not_row h.bL (by decide) hr;refine⟨hr.1,?_⟩;rcases hr.2 with e1 | ⟨g,cap,cu,rfl,h1,hg,h2⟩
  ·exact .inl e1
  ·exact .inr ⟨g,cap,cu,rfl,h1,by rw[ho2 g (λe=>hne (by rw[e];rfl))];exact hg,h2⟩
 refine⟨h.clo.step ho hall,λp hp hd=>?_,λh2 h3=>?_,λh3=>?_,λh3=>?_,?_,?_,λi hi=>(ho2 i (hH.s i hi).2.1).trans (h.oth i hi),oL h.bel hH.ne.2.2.1,h.kf.trans ?_⟩
 ·obtain⟨n1,n2,n3,n4,n5,n6⟩:=wY _ hp;rw[bM n6] at hd;exact h.cl p hp hd
 ·rw[bM (by decide)] at h2 h3;obtain⟨Y,e1,e2,e3⟩:=h.tmp h2 h3;refine⟨Y,e1,e2,?_⟩;rw[ho2 Y (λe=>by rw[e,h.bL] at e3;injection e3 with e3;injection e3 with _ e3;exact absurd e3 (by decide))];exact e3
 ·rw[bM (by decide)] at h3;exact hr (h.row0 h3)
 ·rw[bM (by decide)] at h3;exact hr (h.row1 h3)
 ·rw[bM (by decide),ho2 O (Ne.symm hH.ne.1)];exact h.bO
 ·rw[nZ];have hb:=h.bL;rw[h6] at hb;obtain⟨a,b,c,e,rfl⟩: ∃a b c e,ob= #[a,b,c,e]:=by
   obtain⟨l⟩:=ob
   match l,hob with
   | [a,b,c,e],_=>exact⟨a,b,c,e,rfl⟩
  unfold bF;rw[gL (gL (gL (gL hb _ _) _ _) _ _)];rfl
 ·unfold bF;exact(((KeepsOthers.setCell _ _ _).trans (KeepsOthers.setCell _ _ _)).trans (KeepsOthers.setCell _ _ _)).trans (KeepsOthers.setCell _ _ _)
theorem BF.g {a:Array Value} (h:BF ops n0 A O L S vO pre k x kx ix ob val d (λk=>a.getD k undef) w') (i q:Nat) (hm:(i,q)∈uO) (hd:d i=true):a[q]?.getD undef=val i:=by
 have:=h.cl _ hm hd;rw[<-aO];exact this
theorem BF.early (h:BF ops n0 A O L S vO pre k x kx ix ob val d v w') {f i j:Nat} (hr:nX ops f j i=true) (hi:d i=false):d j=false:=by
 cases hc:d j with
 | false=>rfl
 | true=>rw[h.clo.reach f _ _ hr hc] at hi;cases hi
end
theorem aBq {P:Program}{ops:Array Oper}{Q:Exit->Act->World->Prop}{id l m:Nat}{a0:Act}{wB:World} (hm:P.follows .mixedOrders=true) (hnd:zD ops=true) (K:List Nat) (n:Nat) (hn:a0.tmps.size=n) (hback:pR ops=true) (hdst:nV ops K n=true) (h10:ops.size=7)
  (n0 O L:Nat) (S:List Nat) (vO:Value) (pre:List WE) (k:Int) (x:VT) (kx ix:Value) (ob:Array Value) (val:Nat->Value) (hrow:wB.ownsRow n0 3 1 vO pre.length (pJ pre)) (hO:wB.heap[O]?=some (.cells #[vO] 60)) (hL:wB.heap[L]?=some (.cells ob 26))
  (hs: ∀(d:Nat->Bool) (a:Act) (w:World) (i:Nat) (o:Oper),ops[i]?=some o->d i=false->(∀e∈o.after,Region.binds .any e=true->d e.on=true)->(∀k,k ∉ K->a.tmps.getD k undef=a0.tmps.getD k undef)->BF ops n0 wB.drew O L S vO pre k x kx ix ob val d (λk=>a.tmps.getD k undef) w->
   ∀R:Act->World->Prop,(∀x' w',BF ops n0 wB.drew O L S vO pre k x kx ix ob val (bI d i) (bZ (λk=>a.tmps.getD k undef) o.dst x') w'->R (a.put o.dst x') w')->o.wp P a w R Q)
  (hd: ∀(v:Nat->Value) (w:World),w.ownsRow n0 3 1 (v 18) (pre.length+1) (pJ pre++ [.int .i64 k])->w.heap[O]?=some (.cells #[v 18] 60)->w.heap[L]?=some (.cells (Nm x kx ix) 26)->(∀i∈S,w.heap[i]?=wB.heap[i]?)->Below n0 wB w->KeepsOthers wB w->Q .normal { a0 with tmps:=cE a0.tmps v K } w):(Code.region id ops true).wpIn (Fence.wide.inRound l) m P Q a0 wB:=by
 refine aBg hm hnd (aBf K n hn hback hdst (λd v w'=>BF ops n0 wB.drew O L S vO pre k x kx ix ob val d v w') ?_ hs (λv w h=>?_))
 ·exact⟨λ_ _ _ h=>Bool.noConfusion h,λ_ _ h=>Bool.noConfusion h,λh=>Bool.noConfusion h,λ_=>hrow,λh=>Bool.noConfusion h,hO,hL,λ_ _=>rfl,aB _ _,KeepsOthers.refl _⟩
 ·have e: ∀i,i<7->decide (i<ops.size)=true:=λi hi=>aN (by omega);have hbO:=h.bO;have hbL:=h.bL;rw[e 5 (by omega)] at hbO;rw[e 6 (by omega)] at hbL;exact hd v w (h.row1 (e 3 (by omega))) hbO hbL h.oth ((aB n0 wB).drew.trans h.bel) ((KeepsOthers.drew wB).trans h.kf)
end
section
open Go.Lib hiding intOf
def jZ:List aA->VT->Option VT
 | [],t=>some t
 | st::r,t=>if 0<=kT t st then(match t.items[(kT t st).toNat]? with
  | some x=>jZ r x
  | none=>none) else none
def rI (s:aA) (d:dG):List aA->Nat->Nat->Option (Nat×Nat)
 | [],k,n=>some (k,n)
 | st::r,k,n=>match d.nodes[k]? with
  | none=>none
  | some x=>if x.kind≠2/\x.kind≠3 then(if(jZ (st::r) (bH s d 32 k)).isSome then some (k,n) else none)
   else match qN s d.nodes x st with
    | none=>none
    | some q=>rI s d r q (n+1)
end
section
open Go.RowKit Go.Shelf
open Go.Lib hiding intOf
attribute [local go_sem] Oper.semAt_some
def jM (c:jH) (ys:List WE):jH:=ys.foldl (λ_ x=>x.2) c
theorem Nn (c:jH) (ys:List WE) (x:WE):jM c (ys++ [x])=x.2:=by unfold jM;rw[List.foldl_append];rfl
theorem No {w0:World}: ∀(path:List aA) (t:VT) (ys:List WE) (kv iv:Value),(∃n,VD w0 n t kv iv)->kU w0 path t ys->ys.length<=path.length/\(ys.length=path.length↔(jZ path t).isSome=true)/\(∀y,jZ path t=some y->(jM (t,kv,iv) ys).1=y)/\ ∃n,VD w0 n (jM (t,kv,iv) ys).1 (jM (t,kv,iv) ys).2.1 (jM (t,kv,iv) ys).2.2
 | [],t,ys,kv,iv,hv,h=>by
  have h:ys= []:=h;subst h;exact⟨aE _,⟨λ_=>rfl,λ_=>rfl⟩,λy e=>bD e,hv⟩
 | st::r,t,ys,kv,iv,hv,h=>by
  rw[kU] at h;rw[jZ];by_cases hc:0<=kT t st
  ·rw[if_pos hc] at h;obtain⟨x,kx,ix,rest,n,hx,hvx,rfl,hr⟩:=h;obtain⟨h1,h2,h3,h4⟩:=No r x rest kx ix ⟨n,hvx⟩ hr;rw[if_pos hc,hx];exact⟨by simp only[aT];omega,⟨λe=>h2.1 (by simpa using e),λe=>by simp[h2.2 e]⟩,h3,h4⟩
  ·rw[if_neg hc] at h;subst h;rw[if_neg hc];exact⟨cN _,⟨(λe=>by cases e),(λe=>by cases e)⟩,(λy e=>by cases e),hv⟩
def lX (w:World) (c0:jH) (pre:List WE) (W:World):Prop:=
 (∃n,VD w n (jM c0 pre).1 (jM c0 pre).2.1 (jM c0 pre).2.2)/\cR W w.heap.size (jM c0 pre).1 (jM c0 pre).2.1 (jM c0 pre).2.2/\
 (∃vO,Boxed W (w.heap.size+2) 60 vO/\W.ownsRow w.heap.size 3 1 vO pre.length (pJ pre))/\W.heap[w.heap.size+1]?=some (.cells #[.int .i64 0, .string (bs []), .slice none 0 0, .slice none 0 0] 26)/\Below w.heap.size w W/\(∃cs,W.heap[w.heap.size+3]?=some (.cells cs 26))/\ ∃cs,W.heap[w.heap.size+4]?=some (.cells cs 23)
theorem lX.same {w A C:World}{c0:jH}{pre:List WE} (h:lX w c0 pre A) (hb: ∀i o,A.heap[i]?=some o->o.isCells=true->i≠w.heap.size+3->C.heap[i]?=some o) (hv: ∀cs,A.heap[w.heap.size+3]?=some (.cells cs 26)-> ∃cs',C.heap[w.heap.size+3]?=some (.cells cs' 26)) (hB:Below w.heap.size w C):lX w c0 pre C:=by
 obtain⟨h1,h2,⟨vO,h3,h4⟩,h5,h6,⟨cs,h7⟩,cp,h8⟩:=h;refine⟨h1,hb _ _ h2 rfl (by omega),⟨vO,hb _ _ h3 rfl (by omega),h4.1,?_⟩,hb _ _ h5 rfl (by omega),hB,hv cs h7,_,hb _ _ h8 rfl (by omega)⟩;rcases h4.2 with e | ⟨g,cap,cu,rfl,hg,hgc,e⟩
 ·exact .inl e
 ·refine .inr ⟨g,cap,cu,rfl,hg,hb _ _ hgc rfl (λe2=>?_),e⟩;rw[e2,h7] at hgc;injection hgc with hgc;injection hgc with _ hgc;exact absurd hgc (by decide)
theorem lX.ok {w A C:World}{c0:jH}{pre:List WE} (h:lX w c0 pre A) (ho:Ed (w.heap.size+3) A C):lX w c0 pre C:=by
 have h6:=h.2.2.2.2.1;rcases ho with hg | ⟨k,t,kv,iv,rfl⟩
 ·have hb: ∀i o,A.heap[i]?=some o->C.heap[i]?=some o:=λi o hi=>(hg.block i (aF hi) (by simp)).trans hi;exact h.same (λi o hi _ _=>hb i o hi) (λcs hc=>⟨cs,hb _ _ hc⟩) (h6.grown hg h6.size (λk e=>by cases e))
 ·refine h.same (λi o hi _ hne=>(qB hne).trans hi) (λcs hc=>?_) (oL h6 (by omega));unfold bF;exact⟨_,gL (gL (gL (gL hc _ _) _ _) _ _) _ _⟩
theorem lX.obj {w A:World}{c0:jH}{pre:List WE}{l:Nat}{o o':Obj} (h:lX w c0 pre A) (hl:w.heap.size<=l) (ho:A.heap[l]?=some o) (hc:o.isCells=false):lX w c0 pre (A.putObj l o'):=by
 have hb: ∀(i:Nat) (u:Obj),A.heap[i]?=some u->u.isCells=true->(A.putObj l o').heap[i]?=some u:=λi u hi hu=>by
  rw[World.putObj_heap_other (λe=>by rw[e,ho] at hi;cases hi;rw[hc] at hu;cases hu)];exact hi
 exact h.same (λi u hi hu _=>hb i u hi hu) (λcs h7=>⟨cs,hb _ _ h7 rfl⟩) (h.2.2.2.2.1.grown (grownBy_putObj' A l o') h.2.2.2.2.1.size (λk e=>by cases e;omega))
theorem lX.alloc {w A:World}{c0:jH}{pre:List WE} (o:Obj) (h:lX w c0 pre A):lX w c0 pre (A.alloc o):=h.ok (.inl (World.grownBy_alloc A o _))
def Np (w:World) (path:List aA) (t:VT) (e:Ending) (w':World):Prop:= ∃p n c x kx ix,e= .returned (.tuple #[.slice p n c,vv x kx ix, .bool (jZ path t).isSome])/\(∀y,jZ path t=some y->x=y)/\(∃n,VD w n x kx ix)/\Below w.heap.size w w'
theorem aBr (m:Nat) (t:VT) (kv iv:Value) (path:List aA) (pv:Value) (w:World) (h:VD w m t kv iv) (hev:dO oJ t=true) (hbk:t.bulk<=1073741824) (hp:SV w pv path) (hpl:path.length<=1073741824) (hV:cO w):
  Calls Tryz.prog 22 #[vv t kv iv,pv] w (Np w path t):=by
 obtain⟨pk,ck,pi,ci,rfl,rfl⟩:=h.form;obtain⟨pp,cp,rfl,hpc,hlies⟩:=hp;refine(callsIn_wide (n:=9)).1 ?_;refine callsIn_of_wp_marks Tryz.func22 rfl trivial ?_ rfl;simp only[Tryz.ntmps22,List.size_toArray,aT,gR,Nat.reduceAdd,Nat.reduceSub,Array.replicate_succ,Array.replicate_zero,List.push_toArray,List.append_toArray,iL,dH];have HP:=hid (aI h (aI hev (aI hbk (aI hlies hV))));unfold vv;clear h hev hbk hlies hV hpc;obtain⟨W0,hW0⟩:=exQ (((((w.alloc (.cells #[.int .i64 t.kind, .string (bs t.text), .slice pk t.keys.length ck, .slice pi t.items.length ci] 26)).alloc (.cells #[.int .i64 0, .string ⟨#[]⟩, .slice none 0 0, .slice none 0 0] 26)).alloc (.cells #[.slice none 0 0] 60)).alloc (.cells #[.int .i64 t.kind, .string (bs t.text), .slice pk t.keys.length ck, .slice pi t.items.length ci] 26)).alloc (.cells #[.slice pp path.length cp] 23));have hsz:W0.heap.size=w.heap.size+5:=by rw[<-hW0];simp
 have hB0:Below w.heap.size w W0:=by
  rw[<-hW0];exact(((((aB _ w).alloc (aE _) _).alloc (by simp) _).alloc (by simp;omega) _).alloc (by simp;omega) _).alloc (by simp;omega) _
 have hat: ∀(A:World) (o:Obj) (i:Nat) (u:Obj),A.heap[i]?=some u->(A.alloc o).heap[i]?=some u:=λA o i u hi=>by rw[Below.heap_alloc _ _ _ (aF hi)];exact hi
 have k0:W0.heap[w.heap.size]?=some (.cells #[.int .i64 t.kind, .string (bs t.text), .slice pk t.keys.length ck, .slice pi t.items.length ci] 26):=by
  rw[<-hW0];exact hat _ _ _ _ (hat _ _ _ _ (hat _ _ _ _ (hat _ _ _ _ (heap_alloc_new w _))))
 have k1:W0.heap[w.heap.size+1]?=some (.cells #[.int .i64 0, .string (bs []), .slice none 0 0, .slice none 0 0] 26):=by
  have:=heap_alloc_new (w.alloc (.cells #[.int .i64 t.kind, .string (bs t.text), .slice pk t.keys.length ck, .slice pi t.items.length ci] 26)) (.cells #[.int .i64 0, .string ⟨#[]⟩, .slice none 0 0, .slice none 0 0] 26);rw[kK] at this;rw[<-hW0];exact hat _ _ _ _ (hat _ _ _ _ (hat _ _ _ _ this))
 have k2:W0.heap[w.heap.size+2]?=some (.cells #[.slice none 0 0] 60):=by
  have:=heap_alloc_new ((w.alloc (.cells #[.int .i64 t.kind, .string (bs t.text), .slice pk t.keys.length ck, .slice pi t.items.length ci] 26)).alloc (.cells #[.int .i64 0, .string ⟨#[]⟩, .slice none 0 0, .slice none 0 0] 26)) (.cells #[.slice none 0 0] 60);simp only[kK,Nat.add_assoc,Nat.reduceAdd] at this;rw[<-hW0];exact hat _ _ _ _ (hat _ _ _ _ this)
 have k3:W0.heap[w.heap.size+3]?=some (.cells #[.int .i64 t.kind, .string (bs t.text), .slice pk t.keys.length ck, .slice pi t.items.length ci] 26):=by
  have:=heap_alloc_new (((w.alloc (.cells #[.int .i64 t.kind, .string (bs t.text), .slice pk t.keys.length ck, .slice pi t.items.length ci] 26)).alloc (.cells #[.int .i64 0, .string ⟨#[]⟩, .slice none 0 0, .slice none 0 0] 26)).alloc (.cells #[.slice none 0 0] 60)) (.cells #[.int .i64 t.kind, .string (bs t.text), .slice pk t.keys.length ck, .slice pi t.items.length ci] 26);simp only[kK,Nat.add_assoc,Nat.reduceAdd] at this;rw[<-hW0];exact hat _ _ _ _ this
 have k4:W0.heap[w.heap.size+4]?=some (.cells #[.slice pp path.length cp] 23):=by
  have:=heap_alloc_new ((((w.alloc (.cells #[.int .i64 t.kind, .string (bs t.text), .slice pk t.keys.length ck, .slice pi t.items.length ci] 26)).alloc (.cells #[.int .i64 0, .string ⟨#[]⟩, .slice none 0 0, .slice none 0 0] 26)).alloc (.cells #[.slice none 0 0] 60)).alloc (.cells #[.int .i64 t.kind, .string (bs t.text), .slice pk t.keys.length ck, .slice pi t.items.length ci] 26)) (.cells #[.slice pp path.length cp] 23);simp only[kK,Nat.add_assoc,Nat.reduceAdd] at this;rw[<-hW0];exact this
 have HK:=hid (aI hsz (aI hB0 (aI k0 (aI k1 (aI k2 (aI k3 k4))))));have HC:=hid (aBk t (.slice pk t.keys.length ck) (.slice pi t.items.length ci) (.slice pp path.length cp));unfold vv at HC;clear hsz hB0 k0 k1 k2 k3 k4 hat;gi_wp2_with fail;refine⟨trivial,?_⟩;refine(callsIn_wide.2 (HC.out _ ⟨_,_,_,_,rfl,rfl⟩ ⟨_,_,_,rfl⟩)).mono ?_;rintro e w' ⟨rfl,rfl⟩;gi_wp2_with fail;simp only[kK,Nat.add_assoc,Nat.reduceAdd] at hW0 ⊢
 try rw[hW0]
 clear hW0 HC;have hfol:Tryz.prog.follows .mixedOrders=true:=by kernel_rfl
 obtain⟨hsz,hB0,k0,k1,k2,k3,k4⟩:=HK.out;refine aBh (gf:=86) (lb:= #[.pointer (some ⟨w.heap.size+4,0,none⟩), .pointer (some ⟨w.heap.size+3,0,none⟩)]) rfl (enters_of Tryz.func86 (by kernel_rfl) rfl)
  (α:=WE) (encs:=zE) (λ_=>rfl) (S:=λys=>kU w path t ys) (Px:=λpre x=>pre.length<path.length/\ ∃k,VD w k x.2.1 x.2.2.1 x.2.2.2) (Ok:=Ed (w.heap.size+3)) (Kp:=Nk w.heap.size (w.heap.size+3) (w.heap.size+4)) ?ok ?seq ?kt ?kb
  (lX w (t, .slice pk t.keys.length ck, .slice pi t.items.length ci)) ?i ?ip ?ia ?start ?body ?done
 case ok=>
  rintro A C (h | ⟨k,t',kv',iv',rfl⟩) i hi hl
  ·exact h.block i hl (by simp)
  ·exact qB (by omega)
 case seq=>
  intro l J W hW hJ hY h0;exact aBo 8 (by omega) l (w.heap.size+3) (w.heap.size+4) w t _ _ m path pp cp HP.out.1 HP.out.2.1 HP.out.2.2.1 HP.out.2.2.2.1 hpl HP.out.2.2.2.2 (by omega) (by omega) J hJ (λpre x W1 hj hb hl hv=>hY pre x W1 hj ⟨hl,hv⟩) W (hB0.trans (hW.mono (by omega))) ((hW.block _ (by omega)).trans k3) ((hW.block _ (by omega)).trans k4) h0
 case kt=>
  rintro A B C ⟨h1,h2,h3⟩ ⟨g1,g2,g3⟩;exact⟨g1.trans h1,g2.trans h2,h3.trans g3⟩
 case kb=>
  intro W l o o' hl ho hc;exact⟨World.putObj_heap_other (by omega),World.putObj_heap_other (by omega),(aB _ W).grown (grownBy_putObj' W l o') (by have:=aF ho;omega) (λk e=>by cases e;omega)⟩
 case i=>exact λpre A C h ho=>h.ok ho
 case ip=>exact λpre A l o o' h hl ho hc=>h.obj (by omega) ho hc
 case ia=>exact λpre A o h=>h.alloc o
 case start=>exact⟨⟨m,HP.out.1⟩,k0,⟨_,k2,World.ownsRow_nil _ _ _ _⟩,k1,hB0,⟨_,k3⟩,_,k4⟩
 case body=>
  rintro l pre ⟨k,x,kx,ix⟩ W hl hlt hI ⟨hpr,nx,hvx⟩;simp only[] at hvx;obtain⟨pkx,ckx,pix,cix,rfl,rfl⟩:=hvx.form;dsimp only[zE,vv];gi_wp2_with fail;obtain⟨hn0,hL0,⟨vO,hO0,hrow0⟩,hR0,hBl,⟨cs,hBv⟩,cs4,hBp⟩:=hI;obtain⟨Wa,hWa⟩:=exQ<|W.alloc (.cells #[.int .i64 x.kind, .string (bs x.text), .slice pkx x.keys.length ckx, .slice pix x.items.length cix] 26);have hka: ∀i u,W.heap[i]?=some u->Wa.heap[i]?=some u:=λi u hi=>by rw[<-hWa,Below.heap_alloc _ _ _ (aF hi)];exact hi
  have hXa:Wa.heap[W.heap.size]?=some (.cells #[.int .i64 x.kind, .string (bs x.text), .slice pkx x.keys.length ckx, .slice pix x.items.length cix] 26):=by rw[<-hWa];exact heap_alloc_new W _
  have hBa:Below w.heap.size W Wa:=by rw[<-hWa];exact(aB _ W).alloc hBl.size _
  have hrowa:Wa.ownsRow w.heap.size 3 1 vO pre.length (pJ pre):=by rw[<-hWa];exact hrow0.alloc _
  have hKa:KeepsOthers W Wa:=by rw[<-hWa];exact KeepsOthers.alloc _ _
  try rw[hWa]
  refine⟨hKa.from _,⟨(hka _ _ hBv).trans hBv.symm,(hka _ _ hBp).trans hBp.symm,hBa⟩,λo o' ho hc=>?_⟩;obtain⟨WB,hWB⟩:=exQ<|Wa.putObj l o';have hkb: ∀(i:Nat) (cs:Array Value) (T:TypeId),W.heap[i]?=some (Obj.cells cs T)->WB.heap[i]?=some (Obj.cells cs T):=λi cs T hi=>by
   have h1:=hka _ _ hi;rw[<-hWB,World.putObj_heap_other (λe=>by rw[e,ho] at h1;cases h1;cases hc)];exact h1
  have hXb:WB.heap[W.heap.size]?=some (.cells #[.int .i64 x.kind, .string (bs x.text), .slice pkx x.keys.length ckx, .slice pix x.items.length cix] 26):=by
   rw[<-hWB,World.putObj_heap_other (by omega)];exact hXa
  have hBb:Below w.heap.size W WB:=hBa.trans (by rw[<-hWB];exact(aB _ Wa).grown (grownBy_putObj' Wa l o') (by have:=hBa.size;have:=hBl.size;omega) (λk e=>by cases e;omega));have hrowb:WB.ownsRow w.heap.size 3 1 vO pre.length (pJ pre):=by rw[<-hWB];exact ownsRow_putObj hrowa o' ho hc
  rw[hWB];have b4:=hkb _ _ _ hBp;obtain⟨X,hX⟩:=exQ<|W.heap.size;obtain⟨n0,hn0'⟩:=exQ<|w.heap.size;have hsW:n0+5<=X:=by have:=hBl.size;omega
  rw[hX] at hXb;rw[hn0'] at hrowb b4;rw[hn0'];have b2:=hkb _ _ _ hO0;have b0:=hkb _ _ _ hL0;have b1:=hkb _ _ _ hR0;have b3:=hkb _ _ _ hBv;rw[hn0'] at b0 b1 b2 b3;have hBH:BH n0 WB.drew (n0+2) n0 [X,n0+3,n0+4,n0+1]:=by
   refine⟨⟨by omega,by omega,aE _,by have:=aF hXb;show n0<=WB.heap.size;omega⟩,λi hi=>?_⟩;simp only[dN,List.not_mem_nil,or_false] at hi;rcases hi with rfl|rfl|rfl|rfl
   ·exact⟨by omega,by omega,_,_,hXb,by decide⟩
   ·exact⟨by omega,by omega,_,_,b3,by decide⟩
   ·exact⟨by omega,by omega,_,_,b4,by decide⟩
   ·exact⟨by omega,by omega,_,_,b1,by decide⟩
  have HBH:=hid hBH;have HXb:=hid hXb;gi_upto_region 5 with fail;refine aBq hfol (by kernel_rfl) [15,16,17,18,19] 27 rfl (by kernel_rfl) (by kernel_rfl) rfl n0 (n0+2) n0 [X,n0+3,n0+4,n0+1] vO pre k x (.slice pkx x.keys.length ckx) (.slice pix x.items.length cix) #[.int .i64 (jM (t, .slice pk t.keys.length ck, .slice pi t.items.length ci) pre).1.kind, .string (bs (jM (t, .slice pk t.keys.length ck, .slice pi t.items.length ci) pre).1.text),(jM (t, .slice pk t.keys.length ck, .slice pi t.items.length ci) pre).2.1,(jM (t, .slice pk t.keys.length ck, .slice pi t.items.length ci) pre).2.2] (λiz=>match iz with | 0=>vO | 1=> .int .i64 k | 4=> .agg #[.int .i64 x.kind, .string (bs x.text), .slice pkx x.keys.length ckx, .slice pix x.items.length cix] | _=>undef) hrowb b2 b0 ?_ ?_
  ·intro d a w' iq o' ho hi hall hfr hF R' hR;have hiN:iq<7:=(cM.1 ho).1;have q2:a.tmps[2]?.getD undef= .pointer (some ⟨n0,0,none⟩):=aY hfr 2 (by decide);have q7:a.tmps[7]?.getD undef= .pointer (some ⟨n0+2,0,none⟩):=aY hfr 7 (by decide);have q8:a.tmps[8]?.getD undef= .int .i64 k:=aY hfr 8 (by decide);have q9:a.tmps[9]?.getD undef= .pointer (some ⟨X,0,none⟩):=by rw[<-hX];exact aY hfr 9 (by decide)
   clear hfr;have ha:=hall;have hoo:=ho;have hcs:iq=0\/iq=2\/iq=3\/iq=4\/iq=5\/iq=6\/iq=1:=(by omega);clear hiN b0 b1 b2 b3 b4 hkb hXb hBb hrowb hka hXa hBa hrowa hKa hBv hBp hR0 hL0 hO0 hrow0;rcases hcs with rfl|rfl|rfl|rfl|rfl|rfl|rfl<;>simp only[dW,dA,cD,cS] at ho<;>subst ho<;>(try simp[Region.binds] at hall)
   ·have hbx:=hF.bO;rw[hF.early (f:=7) (i:=0) (j:=5) (by kernel_rfl) hi] at hbx;have x0:w'.cell? ⟨n0+2,0,none⟩=some vO:=(by simp[World.cell?,hbx]);go_simp;exact hR _ _ (hF.pure hoo ha (by decide) rfl)
   ·have c16:=hF.g 1 16 (by decide) (by simp[hall]);go_simp;exact hR _ _ (hF.build hoo ha HBH.out)
   ·have h5:=hF.early (f:=7) (i:=3) (j:=5) (by kernel_rfl) hi;have c15:=hF.g 0 15 (by decide) (by simp[hall]);obtain⟨Y,e1,e2,e3⟩:=hF.tmp (by simp[hall]) hi;obtain⟨i0,hi0,hz0,hz1,hz2⟩:=info_parts Tryz.infoInt;refine Aq (.tmp 15) (.tmp 17) 60 rfl n0 3 i0 _ 1 8 Tryz.underlying60 hi0 hz0 hz1 hz2 rfl (by decide) w' vO pre.length (pJ pre) (by show a.tmps.getD 15 undef=_;rw[aO];exact c15) (hF.row0 hi) (some ⟨Y,0,none⟩) 1 1 [.int .i64 k] e1 (.inr ⟨_,rfl,by decide,rfl,λj u hj=>?_,λu hu=>?_⟩) (by unfold maxLen;omega) (by omega) (by have:=hF.bel.size;have:=HBH.out.ne.2.2.2;omega) (λv' w2 g1 g2 g3 g4=>hR _ _ (hF.app hoo ha HBH.out hi h5 g1 g2 g3))
    ·have hj0:j=0:=by have:=(aQ.1 hj).1;simp at this;exact this
     subst hj0;rw[nW];simp at hj;subst hj;simp[World.cell?,e3]
    ·rw[kH.1 hu];rfl
   ·have hbx:=(hF.oth X (by simp)).trans HXb.out;obtain⟨x0,x1,x2,x3,_⟩:=bC hbx;go_simp;exact hR _ _ (hF.pure hoo ha (by decide) rfl)
   ·have h3:d 3=true:=(by simp[hall]);have hr:=hF.row1 h3;obtain⟨g,cap,hg⟩:=ownsRow_succ hr;have hbx:=hF.bO;rw[hi] at hbx;have x0:w'.cell? ⟨n0+2,0,none⟩=some vO:=(by simp[World.cell?,hbx]);have f0:w'.frozen? ⟨n0+2,0,none⟩=false:=(by simp[World.frozen?,hbx]);have hg:a.tmps.getD 18 undef= .slice (some ⟨g,0,none⟩) (pre.length+1) cap:=hg;have c18:a.tmps[18]?.getD undef= .slice (some ⟨g,0,none⟩) (pre.length+1) cap:=by rw[<-aO];exact hg
    have hst:=hF.set5 hoo ha HBH.out h3 undef;rw[hg] at hst;clear hr hg;go_simp;exact hR undef _ hst
   ·have c19:=hF.g 4 19 (by decide) (by simp[hall]);have hbx:=hF.bL;rw[hi] at hbx;obtain⟨x0,x1,x2,x3,f0,f1,f2,f3⟩:=bC hbx;have hst:=hF.set6 rfl hoo ha HBH.out hi undef;go_simp;exact hR undef _ hst
   ·go_simp;exact hR _ _ (hF.pure hoo ha (by decide) rfl)
  ·intro v wz h1 h2 h3 h4 h5 h6;subst hn0';refine⟨rfl,h6.from _,⟨⟨nx,by rw[Nn];exact hvx⟩,by rw[Nn];exact h3,⟨_,h2,by unfold pJ;rw[aS,oM];exact h1⟩,?_,hBl.trans (hBb.trans h5),⟨_,(h4 _ (by simp)).trans (hkb _ _ _ hBv)⟩,_,(h4 _ (by simp)).trans (hkb _ _ _ hBp)⟩,h4 _ (by simp),h4 _ (by simp),h5⟩;exact(h4 _ (by simp)).trans (hkb _ _ _ hR0)
 case done=>
  rintro D ys W hD hS hI hK;obtain⟨g1,g2,g3,g4⟩:=No path t ys (.slice pk t.keys.length ck) (.slice pi t.items.length ci) ⟨m,HP.out.1⟩ hS;obtain⟨⟨nn,hvn⟩,hL0,⟨vO,hO0,hrow0⟩,hR0,hBl,⟨cs,hBv⟩,cs4,hBp⟩:=hI;obtain⟨⟨x,kx,ix⟩,hx⟩:=exQ<|jM (t, .slice pk t.keys.length ck, .slice pi t.items.length ci) ys;rw[hx] at g3 g4 hvn hL0;simp only[] at g3 g4 hvn hL0;obtain⟨pkx,ckx,pix,cix,rfl,rfl⟩:=hvn.form;obtain⟨po,co,rfl⟩: ∃p c,vO= .slice p ys.length c:=by
   rcases hrow0.2 with⟨e1,e2⟩ | ⟨g,cap,cu,e1,_⟩
   ·exact⟨none,0,by rw[e1,e2]⟩
   ·exact⟨_,_,e1⟩
  obtain⟨b,hb⟩:=exQ<|(jZ path t).isSome;have hbe:((ys.length:Int)==(path.length:Int))=b:=by
   rw[<-hb];cases hw:(jZ path t).isSome with
   | true=>rw[g2.2 hw];exact beq_self_eq_true _
   | false=>exact aG.2 (λe=>by have:=g2.1 (by omega);rw[hw] at this;cases this)
  have HE:Hid ((∀y,jZ path t=some y->x=y)/\(∃n,VD w n x (.slice pkx x.keys.length ckx) (.slice pix x.items.length cix))/\(jZ path t).isSome=b):=hid ⟨g3,⟨_,hvn⟩,hb⟩;obtain⟨b0,b1,b2,b3,_⟩:=bC hL0;obtain⟨r0,r1,r2,r3,f0,f1,f2,f3⟩:=bC hR0;have hcO:=hO0.cell;have HM:=hid (aI hBl (aI hR0 (aI hK hD)));clear g1 g2 g3 g4 hvn hL0 hO0 hrow0 hR0 hBl hBv hBp hb hS hx hK hD k0 k1 k2 k3 k4 hB0;gi_wp2_with fail;refine wpIn_wide.2 ?_;obtain⟨Wd,hWd⟩:=exQ<|W.drew;obtain⟨SA,hSA⟩: ∃S:World->Prop,(λw'=>w'.cell? ⟨w.heap.size+2,0,none⟩=some (.slice po ys.length co)/\w'.cell? ⟨w.heap.size,0,none⟩=some (.int .i64 x.kind)/\w'.cell? ⟨w.heap.size,1,none⟩=some (.string (bs x.text))/\w'.cell? ⟨w.heap.size,2,none⟩=some (.slice pkx x.keys.length ckx)/\w'.cell? ⟨w.heap.size,3,none⟩=some (.slice pix x.items.length cix))=S:=⟨_,rfl⟩;have HSA:Hid (SA Wd):=hid (by rw[<-hSA,<-hWd];exact⟨hcO,b0,b1,b2,b3⟩);have HRd:Hid (Wd.heap[w.heap.size+1]?=some (.cells #[.int .i64 0, .string (bs []), .slice none 0 0, .slice none 0 0] 26)):=hid (by rw[<-hWd];exact HM.out.2.1);clear hcO b0 b1 b2 b3 r0 r1 r2 r3 f0 f1 f2 f3;have hfol:Tryz.prog.follows .mixedOrders=true:=by kernel_rfl
  refine kR hfol [some 20,some 21,some 22,some 23,some 24,some 25,some 26,some 4,none,some 6] [20,21,22,23,24,25,26,4,6] [8] 1000000 (λ_ _=>True) 27 rfl (by kernel_rfl) (by kernel_rfl) (by kernel_rfl) (λiz=>match iz with | 0=> .slice po ys.length co | 1=> .agg #[.int .i64 x.kind, .string (bs x.text), .slice pkx x.keys.length ckx, .slice pix x.items.length cix] | 2=> .slice po ys.length co | 3=> .int .i64 (ys.length:Int) | 4=> .slice pp path.length cp | 5=> .int .i64 (path.length:Int) | 6=> .bool b | 7=> .slice po ys.length co | 9=> .bool b | _=>undef) SA (λk _ w'=>match k with | 0=>w'=Wd | _=>w'=bF Wd (w.heap.size+1) x.kind x.text (.slice pkx x.keys.length ckx) (.slice pix x.items.length cix)) (by rw[hWd];exact HSA.out) hWd ?_ ?_
  ·intro d a w' iq o' ho hi hall hfr hF R' hR;have hiN:iq<10:=(cM.1 ho).1;have q1:a.tmps[1]?.getD undef= .slice pp path.length cp:=aY hfr 1 (by decide);have q2:a.tmps[2]?.getD undef= .pointer (some ⟨w.heap.size,0,none⟩):=aY hfr 2 (by decide);have q5:a.tmps[5]?.getD undef= .pointer (some ⟨w.heap.size+1,0,none⟩):=aY hfr 5 (by decide);have q7:a.tmps[7]?.getD undef= .pointer (some ⟨w.heap.size+2,0,none⟩):=aY hfr 7 (by decide);have hc:=hF.all [(0,20),(1,21),(2,22),(3,23),(4,24),(5,25),(6,26)] (by decide);dsimp only[eW] at hc;clear hfr;have ha:=hall;have hoo:=ho;have hcs:iq=8\/iq=3\/iq=4\/iq=5\/iq=6\/iq=7\/iq=9\/iq=0\/iq=1\/iq=2:=(by omega);clear hiN;rcases hcs with rfl|rfl|rfl|rfl|rfl|rfl|rfl|rfl|rfl|rfl<;>simp only[dW,dA,cD,cS] at ho<;>subst ho<;>(try simp[Region.binds] at hall)
   ·have c21:=hF.g 1 21 rfl (by decide) (by decide) (by decide) (by simp[hall]);have hP0:=hF.at2 (j:=0) rfl hi (.inl rfl);have hP0:w'=Wd:=hP0;subst hP0;obtain⟨r0,r1,r2,r3,f0,f1,f2,f3⟩:=bC HRd.out;go_simp;exact hR undef _ (hF.eff2 (by kernel_rfl) (by decide) 0 hoo ha rfl hi (.inl rfl) rfl (by decide) (λ_ _ _=>trivial) (λh=>absurd rfl h) rfl)
   iterate 6 (go_simp;exact hR _ _ (hF.pure (by kernel_rfl) hoo ha rfl (by decide) (by decide) (by decide) rfl))
   all_goals
    have hS0:SA w':=by
     obtain⟨q,_,_,hph⟩:=hF.ph;cases q with
     | zero=>
      have hph:w'=Wd:=hph
      rw[hph];exact HSA.out
     | succ q=>
      have hph:w'=bF Wd (w.heap.size+1) x.kind x.text (.slice pkx x.keys.length ckx) (.slice pix x.items.length cix):=hph
      have hgo: ∀g,g≠w.heap.size+1->w'.heap[g]?=Wd.heap[g]?:=λg hg=>by
       rw[hph];unfold bF;rw[dC _ ⟨w.heap.size+1,3,none⟩ _ g hg,dC _ ⟨w.heap.size+1,2,none⟩ _ g hg,dC _ ⟨w.heap.size+1,1,none⟩ _ g hg,dC _ ⟨w.heap.size+1,0,none⟩ _ g hg]
      have h0:=HSA.out
      rw[<-hSA] at h0 ⊢;obtain⟨hcO,b0,b1,b2,b3⟩:=h0;exact⟨by rw[fX (hgo _ (by omega))];exact hcO,by rw[fX (hgo _ (by omega))];exact b0,by rw[fX (hgo _ (by omega))];exact b1,by rw[fX (hgo _ (by omega))];exact b2,by rw[fX (hgo _ (by omega))];exact b3⟩
    rw[<-hSA] at hS0;obtain⟨hcO,b0,b1,b2,b3⟩:=hS0;go_simp;exact hR _ _ (hF.pure (by kernel_rfl) hoo ha rfl (by decide) (by decide) (by decide) rfl)
  intro v wz hcl hP2;have hP2:wz=bF Wd (w.heap.size+1) x.kind x.text (.slice pkx x.keys.length ckx) (.slice pix x.items.length cix):=hP2;subst hP2;have v4:v 4= .slice po ys.length co:=hcl 7 (by decide) (by decide) (by decide) (by decide);have v6:v 6= .bool b:=hcl 9 (by decide) (by decide) (by decide) (by decide);simp only[cE,eE,dF,eF,v4,v6];clear hcl v4 v6;have hK3:(bF Wd (w.heap.size+1) x.kind x.text (.slice pkx x.keys.length ckx) (.slice pix x.items.length cix)).heap[D]?=some (.deferred (some [])):=by
   rw[qB (by have:=HM.out.2.2.2;omega),<-hWd];exact HM.out.2.2.1
  have hR3:=rC (k:=x.kind) (t:=x.text) (kv:= .slice pkx x.keys.length ckx) (iv:= .slice pix x.items.length cix) HRd.out;have hB3:Below w.heap.size w (bF Wd (w.heap.size+1) x.kind x.text (.slice pkx x.keys.length ckx) (.slice pix x.items.length cix)):=oL (by rw[<-hWd];exact HM.out.1.drew) (by omega);obtain⟨WF,hWF⟩:=exQ<|bF Wd (w.heap.size+1) x.kind x.text (.slice pkx x.keys.length ckx) (.slice pix x.items.length cix);rw[hWF] at hK3 hR3 hB3 ⊢;have hDz:w.heap.size+5<=D:=by have:=HM.out.2.2.2;omega
  clear hWF hWd hSA HSA HRd;gi_wp2_with fail;refine⟨by simp, .inl ⟨_,_,rfl,run_takeDeferred hK3,?_⟩⟩;have hR4:(WF.putObj D (.deferred none)).heap[w.heap.size+1]?=some (.cells #[.int .i64 x.kind, .string (bs x.text), .slice pkx x.keys.length ckx, .slice pix x.items.length cix] 26):=by
   rw[World.putObj_heap_other (by omega)];exact hR3
  have dB2:Below w.heap.size w (WF.putObj D (.deferred none)):=hB3.trans (belowK_b (w:=w) (aE _) WF D _ _ (by omega) hK3 rfl rfl);obtain⟨d0,d1,d2,d3,_⟩:=bC hR4;refine⟨.tuple #[.slice po ys.length co,vv x (.slice pkx x.keys.length ckx) (.slice pix x.items.length cix), .bool b],?_,?_⟩
  ·simp[results,Tryz.results22,go_sem,d0,d1,d2,d3,vv]
  ·exact⟨_,_,_,_,_,_,by rw[HE.out.2.2],HE.out.1,HE.out.2.1,dB2⟩
end
end Go.Proofs.YtaifnmjjpddikaaGreatDoor
