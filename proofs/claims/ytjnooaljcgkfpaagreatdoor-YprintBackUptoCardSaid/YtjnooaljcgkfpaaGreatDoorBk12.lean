import Derived.Test.YtjnooaljcgkfpaaGreatDoorBk11
import Derived.Test.YtjnooaljcgkfpaaGreatDoorBk3
import Derived.Test.YtjnooaljcgkfpaaGreatDoorBk4
import Derived.Deep.RegionLaw
import Derived.Test.YtjnooaljcgkfpaaGreatDoorBk2
import Derived.Test.YtjnooaljcgkfpaaGreatDoorBk1
import Derived.Test.YtjnooaljcgkfpaaGreatDoorBk5
import Derived.Test.YtjnooaljcgkfpaaGreatDoorBk8
import Derived.Deep.RegionHeld3
import Derived.BigQuiet
import Derived.Deep.DeepCutAuto
set_option maxRecDepth 100000
set_option maxHeartbeats 4000000
namespace Go.Proofs.YtjnooaljcgkfpaaGreatDoor
set_option linter.unusedVariables false
set_option linter.unusedSimpArgs false
section
open Go.RowKit
open Go.Lib hiding intOf
theorem At (s:ByteArray) (w:World) (hs:s.size<=4611686018427387904) (hT:cD w):
  Calls Tryz.prog 62 #[.string s] w λe w'=>e= .returned (.tuple #[.int .i64 (lO s).1, .bool (lO s).2])/\Below w.heap.size w w':=by
 obtain⟨R,x⟩:=exQ<|lO s;rw[x];have r:=hid x;clear x;cases hv:Lib.validD s.data.toList with
 | true=>
  have z:=Ty hv;have f:=Tryz.utf8_ValidString s w (by omega) hT;rw[hv] at f;clear hv;have o:=hid f;clear f;have C:=hid z;clear z;go_enter Tryz.func62,Tryz.ntmps62;go_wp2_with (go_at_call 104;refine o.out.mono ?_;rintro e w' ⟨rfl,g⟩);go_ret2;exact⟨Ct (r.out.symm.trans C.out),g⟩
 | false=>
  have f:=Tryz.utf8_ValidString s w (by omega) hT;rw[hv] at f;clear hv;have o:=hid f;clear f;go_enter Tryz.func62,Tryz.ntmps62;go_wp2_with (go_at_call 104;refine o.out.mono ?_;rintro e w1 ⟨rfl,b⟩);have q:=hT.keep b;have hz:=b.size;have d:Hid (Below w.heap.size w w1):=b;obtain⟨p,t⟩:=Ij b;clear b p t;go_loopw [4] (λ_ wr=> ∃pos:Nat,pos<=s.size/\Hid (oF s pos)/\Hid (wr.heap[w1.heap.size]?=some (.stringIter s pos))/\Hid (Below w1.heap.size w1 wr)) (λ_ wr=>s.size-wr.iterPos w1.heap.size)
  case atStart=>exact⟨0,by omega,oF.zero s,World.iter_heap w1 s 0,(aB _ _).alloc (aD _) _⟩
  case round=>
   obtain⟨pos,hp,m,l,B⟩:=hrel;by_cases hlt:pos<s.size
   ·have hw:=pE s pos hlt;have hrb:=rX s pos;have y: ∀ty,(Instr.next (.pointer (some ⟨w1.heap.size,0,none⟩)) true ty).run Tryz.prog wr= .ok (.tuple #[.bool true, .int .i64 pos, .int .i32 (bG s pos)]) (wr.iterAt w1.heap.size s (pos+bB s pos)):=λty=>Lib.run_next_any_at wr _ s pos ty l.out hlt;have c:=hid (Lib.iterAt_heap wr w1.heap.size s pos (pos+bB s pos) l.out);have a:=hid (Lib.below_iterAt B.out (aD w1.heap.size) s (pos+bB s pos));have i:cD (wr.iterAt w1.heap.size s (pos+bB s pos)):=q.keep a.out;have A:=hid (iterPos_of l.out);have v:=hid (iterPos_of c.out);by_cases hr:bG s pos=65533
    ·by_cases h1:bB s pos=1
     ·have k:=hid (Ub hr h1);have j:(bG s pos !=65533)=false:=by rw[hr];rfl
      have u:(((bB s pos:Nat):Int)==1)=true:=by rw[h1];rfl
      clear hr h1;go_wp2_with (go_at_call 105;refine(Cy s pos _ hlt i).mono ?_;rintro e w' ⟨rfl,g⟩);go_ret2;exact⟨Ct (r.out.symm.trans (m.out.bad hlt k.out)),d.out.trans ((a.out.trans (g.mono a.out.size)).mono d.out.size)⟩
     ·have k:=hid (Ua h1);have j:(bG s pos !=65533)=false:=by rw[hr];rfl
      have u:(((bB s pos:Nat):Int)==1)=false:=aG.2 (by omega);clear hr h1;go_wp2_with (go_at_call 105;refine(Cy s pos _ hlt i).mono ?_;rintro e w' ⟨rfl,g⟩);have h:=(g.block w1.heap.size (aE c.out)).trans c.out;go_roundw
      case rel=>exact⟨pos+bB s pos,by omega,m.out.next hlt k.out,h,a.out.trans (g.mono a.out.size)⟩
      case measure=>rw[iterPos_of h,A.out];omega
    ·have k:=hid (Tz hr);have j:(bG s pos !=65533)=true:=gP.2 hr;clear hr;go_wp2;go_roundw
     case rel=>exact⟨pos+bB s pos,by omega,m.out.next hlt k.out,c.out,a.out⟩
     case measure=>rw[v.out,A.out];omega
   ·have y: ∀ty,(Instr.next (.pointer (some ⟨w1.heap.size,0,none⟩)) true ty).run Tryz.prog wr= .ok (.tuple #[.bool false]) wr:=λty=>Lib.run_next_end_at wr _ s pos ty l.out hlt;go_wp2;go_ret2;exact⟨Ct (r.out.symm.trans (m.out.fin (by omega))),d.out.trans (B.out.mono d.out.size)⟩
def Au (r:List UInt8×Int):Ending:= .returned (.tuple #[.string (bs r.1), .int .i64 r.2])
theorem Av (s:ByteArray):(lO s).2=validD s.data.toList:=by
 rw[Il];unfold lO;cases wQ s<;>rfl
theorem aAs (l:List UInt8) (p:Nat) (hp:p<l.length) (hv:validD (l.drop p)=true):
  ∃r,iZ r/\bG (bs l) p=r/\bB (bs l) p=(encodeRune r).length/\validD (l.drop (p+bB (bs l) p))=true/\bW (l.take (p+bB (bs l) p))=bW (l.take p)++bW (encodeRune r):=by
 have b:l.drop p≠ []:=by
  intro h;have:=congrArg List.length h;rw[aZ] at this;simp at this;omega
 obtain⟨r,t,e,d,g,f⟩:=sA _ b hv;have a:=oH (bs l) p;rw[aW,f] at a;have c:bB (bs l) p=(encodeRune r).length:=by unfold bB;rw[<-a]
 refine⟨r,e,?_,c,?_,?_⟩
 ·unfold bG;rw[<-a];exact Int.toNat_of_nonneg e.1
 ·rw[c,<-lP,d,kU];exact g
 ·rw[c,<-zU];congr 1;rw[List.take_add,d,List.take_left]
def Ey (r:Int):Prop:=(∃L:UInt8,jR r=(L.toNat:Int)/\(L.toNat:Int)≠0/\bW (encodeRune r)= [92,L])\/(∃c:Nat,r=c/\c<32/\jR r=0/\bW (encodeRune r)= [92,117]++(List.replicate (4-(nA c).length) 48++nA c))\/(32<=r/\jR r=0/\bW (encodeRune r)=encodeRune r)
theorem aAt: ∀n:Fin 128,let c:=UInt8.ofNat n.val
  ((jR n.val).toNat<256/\0<=jR n.val)/\
  (jR n.val≠0/\qB c= [92,UInt8.ofNat (jR n.val).toNat])\/
  (n.val<32/\jR n.val=0/\qB c= [92,117]++(List.replicate (4-(nA n.val).length) 48++nA n.val))\/
  (32<=n.val/\jR n.val=0/\qB c= [c]):=by decide+kernel
theorem aAu (n:Int):0<=jR n/\jR n<256:=by
 unfold jR
 repeat' split
 all_goals simp
theorem aAv (r:Int) (h:iZ r):Ey r:=by
 by_cases h128:r<128
 ·have h0:=h.1;obtain⟨n,f⟩: ∃n:Nat,r=n:=⟨r.toNat,by omega⟩;subst f;have g:encodeRune (n:Int)= [UInt8.ofNat n]:=by
   have:=tJ (UInt8.ofNat n) (by rw[UInt8.toNat_ofNat'];omega);rw[UInt8.toNat_ofNat',Nat.mod_eq_of_lt (show n<256 by omega)] at this;exact this
  have d:=aAt ⟨n,by omega⟩;simp only[] at d;unfold Ey;rw[g,show bW [UInt8.ofNat n]=qB (UInt8.ofNat n) by simp[bW]];rcases d with⟨_,b,a⟩ | ⟨b,a,c⟩ | ⟨b,a,c⟩
  ·have hb:=aAu (n:Int);have e:(jR (n:Int))=((UInt8.ofNat (jR (n:Int)).toNat).toNat:Int):=by rw[UInt8.toNat_ofNat'];omega
   exact .inl ⟨UInt8.ofNat (jR (n:Int)).toNat,e,by rw[<-e];exact b,a⟩
  ·exact .inr (.inl ⟨n,rfl,b,a,c⟩)
  ·exact .inr (.inr ⟨by omega,a,c⟩)
 ·refine .inr (.inr ⟨by omega,?_,zV _ (tI r h (by omega))⟩);unfold jR;rw[if_neg (by omega),if_neg (by omega),if_neg (by omega),if_neg (by omega),if_neg (by omega),if_neg (by omega),if_neg (by omega)]
theorem aAw (Z X:List UInt8):(⟨([92,117]++(Z++X)).toArray⟩:ByteArray)=(⟨#[92,117]⟩:ByteArray)++bs Z++bs X:=by
 have a:(⟨#[92,117]⟩:ByteArray)=bs [92,117]:=rfl;have b:(⟨([92,117]++(Z++X)).toArray⟩:ByteArray)=bs ([92,117]++(Z++X)):=rfl;rw[a,b,mU,mU,dY]
def Rv (l:List UInt8) (p:Nat) (o:List UInt8):Prop:=o=34::bW (l.take p)/\validD (l.drop p)=true
theorem aAx {l:List UInt8}{p:Nat}{o:List UInt8} (h:Rv l p o) (hp:p<l.length): ∃r,iZ r/\Ey r/\bG (bs l) p=r/\bB (bs l) p=(encodeRune r).length/\Rv l (p+bB (bs l) p) (o++bW (encodeRune r)):=by
 obtain⟨r,a,c,d,b,e⟩:=aAs l p hp h.2;exact⟨r,a,aAv r a,c,d,by rw[h.1,e];rfl,b⟩
theorem Mm (l:List UInt8) (w:World) (hs:l.length<=536870912) (hT:cD w) (hD:kW w):
  Calls Tryz.prog 60 #[.string (bs l)] w λe w'=>e=Au (dZ l)/\Below w.heap.size w w':=by
 have sl:=aQ l;have C:=At (bs l) w (by omega) hT;rw[Av,aW] at C;obtain⟨N,hN⟩:=exQ<|(lO (bs l)).1;rw[hN] at C;clear hN;obtain⟨R,u⟩:=exQ<|dZ l;rw[u];unfold dZ at u;have HD:=hid hD;clear hD hT;cases hv:validD l with
 | false=>
  rw[hv] at C u;rw[if_neg (by simp)] at u;subst u;have HC:=hid C;clear C hv;go_enter Tryz.func60,Tryz.ntmps60;go_wp2_with fail;refine HC.out.mono ?_;rintro e w1 ⟨rfl,v⟩;go_wp2_with fail;go_ret2;exact⟨rfl,v⟩
 | true=>
  rw[hv] at C u;rw[if_pos rfl] at u;have HR:=hid u;have HC:=hid C;have HV:=hid hv;clear C hv u;go_enter Tryz.func60,Tryz.ntmps60;go_wp2_with fail;refine HC.out.mono ?_;rintro e w1 ⟨rfl,v⟩;have O:=hid v;clear v;go_wp2_with fail;refine(zO w1.heap.size w1.heap.size [] 34 _ (iM.new w1) (by simp) (by simp)).mono ?_;rintro e w2 ⟨rfl,h2,b2,_⟩;have f:=hid h2;have d:=hid ((aH w1 _).trans b2);have Q:w1.heap.size<w2.heap.size:=by have:=b2.size;simp at this;omega
  clear h2 b2;go_wp2_with fail;go_loopw [8] (λ_ wr=> ∃(p:Nat) (o:List UInt8),p<=l.length/\o.length<=6*p+1/\Hid (Rv l p o)/\Hid (wr.heap[w2.heap.size]?=some (.stringIter (bs l) p))/\Hid (iM w1.heap.size w1.heap.size o wr)/\Hid (Below w1.heap.size w1 wr)) (λ_ wr=>l.length-wr.iterPos w2.heap.size)
  case atStart=>exact⟨0,[34],by omega,by simp,⟨rfl,HV.out⟩,World.iter_heap w2 (bs l) 0,f.out.keep (aH _ _),d.out.trans ((aH w2 _).mono (Nat.le_of_lt Q))⟩
  case round=>
   obtain⟨p,o,hp,hol,V,E,A,S⟩:=hrel;by_cases hlt:p<l.length
   ·have x:p<(bs l).size:=(by omega);obtain⟨r,B,hk,hr,i,k⟩:=aAx V.out hlt;have H:=pE (bs l) p x;have G: ∀ty,(Instr.next (.pointer (some ⟨w2.heap.size,0,none⟩)) true ty).run Tryz.prog wr= .ok (.tuple #[.bool true, .int .i64 p, .int .i32 r]) (wr.iterAt w2.heap.size (bs l) (p+bB (bs l) p)):=λty=>by
     have:=Lib.run_next_any_at (P:=Tryz.prog) wr _ (bs l) p ty E.out x;unfold bG at hr;rw[hr] at this;exact this
    have q:=hid (Lib.iterAt_heap wr w2.heap.size (bs l) p (p+bB (bs l) p) E.out);have f:Hid (iM w1.heap.size w1.heap.size o (wr.iterAt w2.heap.size (bs l) (p+bB (bs l) p))):=hid (Lib.IsBuilderF.iterAt A.out E.out _);have d:=hid (Lib.below_iterAt S.out (Nat.le_of_lt Q) (bs l) (p+bB (bs l) p));have W:=hid (iterPos_of E.out);obtain⟨wd,I⟩:=exQ<|bB (bs l) p;rw[I] at i k H G q f d;have g:=hid k;clear hr k V E A S I;have hlen:(encodeRune r).length<=4:=by rw[<-i];exact H.2.1
    have j:=Dd (encodeRune r);rw[<-i] at j;have ah:=B.1;have ab:=B.2.1;have CL:=hid (λw=>aAr r w);clear B i;rcases hk with⟨L,z,F,k⟩ | ⟨c,hc,M,z,k⟩ | ⟨aa,z,k⟩
    ·rw[z] at CL;rw[k] at g j;have hLb:(((L.toNat:Nat):Int) !=0)=true:=gP.2 F;clear z k F;go_wp2_with fail;refine(CL.out _).mono ?_;rintro e w' ⟨rfl,rfl⟩;go_wp2_with fail;refine(zO w1.heap.size w1.heap.size o 92 _ f.out (by omega) d.out.size).mono ?_;rintro e w3 ⟨rfl,y,b3,k3⟩;have h:=hid (k3.iter q.out (by omega));have a:=hid y;have b:=hid (d.out.trans b3);clear y b3 k3;go_wp2_with fail;refine(zO w1.heap.size w1.heap.size (o++ [92]) L _ a.out (by simp;omega) b.out.size).mono ?_;rintro e w4 ⟨rfl,h4,b4,k4⟩;have s:=hid (k4.iter h.out (by omega));have m:=hid h4;have t:=hid (b.out.trans b4);clear h4 b4 k4;go_wp2_with fail;go_roundw
     case rel=>exact⟨p+wd,o++ [92,L],by omega,by simp at *;omega,g.out,s.out,by have:=m.out;rw[dY] at this;exact this,t.out⟩
     case measure=>rw[iterPos_of s.out,W.out];omega
    ·rw[z] at CL;rw[k] at g j;subst hc;have T:decide ((32:Int)<=(c:Int))=false:=aJ (by omega);have CF:=hid (λw hT=>Wn c M w hT);obtain⟨af,U⟩:1<=(nA c).length/\(nA c).length<=4:=⟨by unfold nA;split<;>simp,by unfold nA;split<;>simp⟩;obtain⟨X,hX⟩:=exQ<|nA c;rw[hX] at g j CF af U;obtain⟨Y,hY⟩:=exQ<|4-X.length;rw[hY] at g j;have CZ:=hid (λw=>Wo Y w (by omega));obtain⟨Z,hZ⟩:=exQ<|List.replicate Y (48:UInt8);have D:Z.length=Y:=(by rw[<-hZ,List.length_replicate]);rw[hZ] at g j CZ;have hXs:=aQ X;have hZs:(bs Z).size=Y:=(by rw[aQ,D]);have h4z:(4:Int)-(X.length:Int)=(Y:Int):=(by omega);have hY3:Y<=3:=(by omega);have ad:=hid D;have HY:=hid hY;clear z k hX hZ D hY;go_wp2_with fail;refine(CL.out _).mono ?_;rintro e w' ⟨rfl,rfl⟩;go_wp2_with fail;refine(CF.out _ (HD.out.keep (aC O.out d.out))).mono ?_;rintro e w3 ⟨rfl,b3⟩;have h:=hid ((b3.block w2.heap.size (aE q.out)).trans q.out);have a:=hid (f.out.keep b3);have b:=hid (d.out.trans (b3.mono d.out.size));clear b3;go_wp2_with fail;(with_reducible refine(CZ.out _).mono ?_);rintro e w4 ⟨rfl,b4⟩;have s:=hid ((b4.block w2.heap.size (aE h.out)).trans h.out);have m:=hid (a.out.keep b4);have t:=hid (b.out.trans (b4.mono b.out.size));clear b4;have CW:=Vi w1.heap.size w1.heap.size o ([92,117]++(Z++X)) w4 m.out (by simp only[aI,aL,bY,ad.out];omega) t.out.size;rw[aAw Z X] at CW;have ag:=hid CW;clear CW;go_wp2_with fail;(with_reducible refine ag.out.mono ?_);rintro e w5 ⟨rfl,h5,b5,k5⟩;have K:=hid (k5.iter s.out (by omega));have J:=hid h5;have ae:=hid (t.out.trans b5);clear h5 b5 k5;go_wp2_with fail;go_roundw
     case rel=>exact⟨p+wd,o++([92,117]++(Z++X)),by omega,by rw[aI];omega,g.out,K.out,J.out,ae.out⟩
     case measure=>rw[iterPos_of K.out,W.out];omega
    ·rw[z] at CL;rw[k] at g;have T:decide ((32:Int)<=r)=true:=aN aa;clear z k;go_wp2_with fail;refine(CL.out _).mono ?_;rintro e w' ⟨rfl,rfl⟩;go_wp2_with fail;refine(wU w1.heap.size w1.heap.size o r _ f.out ⟨ah,ab⟩ (by omega) d.out.size).mono ?_;rintro e w3 ⟨rfl,y,b3,k3⟩;have h:=hid (k3.iter q.out (by omega));have a:=hid y;have b:=hid (d.out.trans b3);clear y b3 k3;go_wp2_with fail;go_roundw
     case rel=>exact⟨p+wd,o++encodeRune r,by omega,by rw[aI];omega,g.out,h.out,a.out,b.out⟩
     case measure=>rw[iterPos_of h.out,W.out];omega
   ·have G: ∀ty,(Instr.next (.pointer (some ⟨w2.heap.size,0,none⟩)) true ty).run Tryz.prog wr= .ok (.tuple #[.bool false]) wr:=λty=>Lib.run_next_end_at wr _ (bs l) p ty E.out (by omega);have HF:Hid (R=(o++ [34],0)):=by
     have h1:=V.out.1;rw[show p=l.length by omega,List.take_length] at h1;rw[<-HR.out,h1];exact hid rfl
    go_wp2_with fail;refine(zO w1.heap.size w1.heap.size o 34 _ A.out (by omega) S.out.size).mono ?_;rintro e w3 ⟨rfl,y,b3,k3⟩;have a:=hid y;have b:=hid (S.out.trans b3);clear y b3 k3;go_wp2_with fail;refine(Tryz.Builder_String_any_k w1.heap.size w1.heap.size (o++ [34]) _ a.out b.out.size).mono ?_;rintro e w4 ⟨rfl,_,b4,_⟩;go_wp2_with fail;go_ret2;exact⟨by rw[HF.out];rfl,aC O.out (b.out.trans b4)⟩
end
section
open Go.RowKit Go.Maps Go.WideMaps
open Go.Lib hiding intOf
def lW (w:World):Prop:=cD w/\sN w
theorem lW.keep {w w':World} (h:lW w) (hb:Below w.heap.size w w'):lW w':=⟨h.1.keep hb,h.2.keep hb⟩
theorem Mn (s:aA) (w:World) (hs:s.length<=4294967296) (hV:lW w):
  Calls Tryz.prog 41 #[.string (bs s)] w λe w'=>e= .returned (.bool (Lib.validD s))/\Below w.heap.size w w':=by
 have C:=At (bs s) w (by rw[aQ];omega) hV.1;rw[Av,aW] at C;obtain⟨N,f⟩:=exQ<|(lO (bs s)).1;obtain⟨b,c⟩:=exQ<|Lib.validD s;rw[f,c] at C;rw[c];have g:=hid C;clear C f c hV;go_enter Tryz.func41,Tryz.ntmps41;go_wp2_with fail;refine g.out.mono ?_;rintro e w1 ⟨rfl,a⟩;have d:=hid a;clear a;go_wp2_with fail;go_ret;exact⟨rfl,d.out⟩
def iT (w:World) (X:Nat) (n:dS):Prop:=w.heap[X]?=some (.cells #[.bool n.neg, .string (bs n.dig), .int .i64 n.exp] 52 (0,0))
abbrev Mo (w:World) (X:Nat) (n:dS):Prop:=w.cell? ⟨X,0,none⟩=some (.bool n.neg)/\w.cell? ⟨X,1,none⟩=some (.string (bs n.dig))/\w.cell? ⟨X,2,none⟩=some (.int .i64 n.exp)/\w.frozen? ⟨X,0,none⟩=false/\w.frozen? ⟨X,1,none⟩=false/\w.frozen? ⟨X,2,none⟩=false
theorem iT.cells {w:World}{X:Nat}{n:dS} (h:iT w X n):Mo w X n:=by
 unfold iT at h;refine⟨?_,?_,?_,?_,?_,?_⟩<;>simp[World.cell?,World.frozen?,h]
theorem iT.lt {w:World}{X:Nat}{n:dS} (h:iT w X n):X<w.heap.size:=aE h
theorem iT.keep {w w':World}{X:Nat}{n:dS} (h:iT w X n) (hb:Below w.heap.size w w'):iT w' X n:=(hb.block X h.lt).trans h
theorem iT.new (w:World) (n:dS):iT (w.alloc (.cells #[.bool n.neg, .string (bs n.dig), .int .i64 n.exp] 52)) w.heap.size n:=heap_alloc_new w _
def sP (w:World) (X:Nat) (n:dS):World:=((w.setCell ⟨X,0,none⟩ (.bool n.neg)).setCell ⟨X,1,none⟩ (.string (bs n.dig))).setCell ⟨X,2,none⟩ (.int .i64 n.exp)
theorem iT.put {w:World}{X:Nat}{n n2:dS} (h:iT w X n):iT (sP w X n2) X n2:=by
 unfold iT at h ⊢;unfold sP;simp[World.setCell,h,Array.getElem?_modify]
theorem aAy {B:Nat}{w w':World}{X:Nat}{n:dS} (h:Below B w w') (hX:B<=X):Below B w (sP w' X n):=by
 unfold sP;exact((h.setCell (p:=⟨X,0,none⟩) hX _).setCell (p:=⟨X,1,none⟩) hX _).setCell (p:=⟨X,2,none⟩) hX _
def Mp (w:World) (X:Nat) (n:dS) (w':World):Prop:=(∃n0,iT w' w.heap.size n0)/\iT w' X n/\w.heap.size<X/\Below w.heap.size w w'
abbrev eZ (w:World) (X:Nat) (n:dS) (w':World):Prop:=w'.cell? ⟨X,0,none⟩=some (.bool n.neg)/\w'.cell? ⟨X,1,none⟩=some (.string (bs n.dig))/\w'.cell? ⟨X,2,none⟩=some (.int .i64 n.exp)/\Hid (Mp w X n w')
section
variable {w w1 w2:World}{X:Nat}{n:dS}
theorem eZ.of (h:Mp w X n w1):eZ w X n w1:=⟨h.2.1.cells.1,h.2.1.cells.2.1,h.2.1.cells.2.2.1,hid h⟩
theorem eZ.drew (h:eZ w X n w1):eZ w X n w1.drew:=by
 obtain⟨b,d,a,c⟩:=h.2.2.2.out;exact eZ.of ⟨b,d,a,c.drew⟩
theorem eZ.step (h:eZ w X n w1) (hb:Below w1.heap.size w1 w2):eZ w X n w2:=by
 obtain⟨⟨n0,b⟩,c,d,a⟩:=h.2.2.2.out;exact eZ.of ⟨⟨n0,b.keep hb⟩,c.keep hb,d,a.trans (hb.mono a.size)⟩
theorem eZ.bel (h:eZ w X n w1):Below w.heap.size w w1:=h.2.2.2.out.2.2.2
theorem eZ.free (h:eZ w X n w1): ∃n0,Mo w1 w.heap.size n0:=by
 obtain⟨⟨n0,a⟩,_⟩:=h.2.2.2.out;exact⟨n0,a.cells⟩
theorem eZ.putG (h:eZ w X n w1):iT (sP w1 w.heap.size n) w.heap.size n/\Below w.heap.size w (sP w1 w.heap.size n):=by
 obtain⟨⟨n0,b⟩,h2,h3,a⟩:=h.2.2.2.out;exact⟨b.put,aAy a (aD _)⟩
theorem eZ.put (h:eZ w X n w1):eZ w X n (((w1.setCell ⟨w.heap.size,0,none⟩ (.bool n.neg)).setCell ⟨w.heap.size,1,none⟩ (.string (bs n.dig))).setCell ⟨w.heap.size,2,none⟩ (.int .i64 n.exp)):=by
 obtain⟨g1,g2⟩:=h.putG;obtain⟨h1,b,c,h4⟩:=h.2.2.2.out;refine eZ.of ⟨⟨_,g1⟩,?_,c,g2⟩;have a:X≠w.heap.size:=by omega
 unfold iT at b ⊢;rw[eQ _ _ _ X a,eQ _ _ _ X a,eQ _ _ _ X a];exact b
end
def nY (s:aA):Bool:=decide ((cO s).2=0)&&decide (fK (cO s).1=s)
def Ez (s:aA):Ending:= .returned (.tuple #[fQ (cO s).1, .bool (nY s)])
theorem Fa (s:aA) (h:(cO s).2=0):(cO s).1.dig.length<=1000:=by
 have a:cO s=((cO s).1,0):=by rw[<-h]
 exact(Dz (Cr a)).1
theorem aAz (s:aA) (w:World) (hs:s.length<=4294967296) (hV:lW w):
  Calls Tryz.prog 40 #[.string (bs s)] w λe w'=>e=Ez s/\Below w.heap.size w w':=by
 have sl:=aQ s;have CP:=hid (λw=>xJ s w hs);have d:=Fa s;unfold Ez nY;obtain⟨P,hP⟩:=exQ<|cO s;rw[hP] at CP d;rw[hP];obtain⟨n,er⟩:=P;simp only[] at d ⊢;have CT:Hid (er=0-> ∀w',lW w'->Calls Tryz.prog 25 #[.agg #[.bool n.neg, .string (bs n.dig), .int .i64 n.exp]] w' λe w2=>e= .returned (.string (bs (fK n)))/\Below w'.heap.size w' w2):=hid (λh w' t=>Aj n w' (by have:=d h;omega) t.2);have ba:=aH w (.cells #[.bool false, .string (bs []), .int .i64 0] 52);have k:=iT.new w ⟨false,[],0⟩;have u:=hid hV;obtain⟨R,r⟩:=exQ (decide (er=0)&&decide (fK n=s));rw[r];have m:=hid r;clear hV hP d r;go_enter Tryz.func40,Tryz.ntmps40;go_wp2_with fail;refine(CP.out _).mono ?_;unfold tT fQ;rintro e w1 ⟨rfl,g⟩;have i:=k.keep g;have f:=aC (aB w.heap.size w) (ba.trans (g.mono (by simp)));have ba1:=aH w1 (.cells #[.bool n.neg, .string (bs n.dig), .int .i64 n.exp] 52);have o:eZ w w1.heap.size n (w1.alloc (.cells #[.bool n.neg, .string (bs n.dig), .int .i64 n.exp] 52)):=eZ.of ⟨⟨_,i.keep ba1⟩,iT.new w1 n,i.lt,f.trans (ba1.mono f.size)⟩;clear g k i ba1 f ba;go_upto_region 2 with fail;obtain⟨n0,y0,y1,y2,f0,f1,f2⟩:=o.free;by_cases he:er=0
 ·subst he;have x:=hid (CT.out rfl);have q:decide (fK n=s)=R:=by rw[<-m.out];simp
  have hqz:((bs (fK n)).toList==(bs s).toList)=R:=by
   rw[Lib.toList_data,Lib.toList_data,aW,aW,<-q];by_cases h:fK n=s
   ·rw[aN h,h];simp
   ·rw[aJ h];simpa using h
  have hqz2:decide (bs (fK n)=bs s)=R:=by
   rw[<-q,decide_eq_decide];exact⟨λh=>Hx h,λh=>by rw[h]⟩
  clear y0 y1 y2 f0 f1 f2 q CT m;go_region_held3 (λw'=>eZ w w1.heap.size n w') ((first | exact eZ.drew (by assumption) | exact eZ.step (by assumption) (by assumption) | exact eZ.put (by assumption) | assumption))
   ((go_at_call 25;(with_reducible refine(x.out _ (u.out.keep (eZ.bel (by assumption:eZ w w1.heap.size n _)))).mono ?_);rintro e w5 ⟨rfl,p⟩;have j:eZ w w1.heap.size n w5:=eZ.step (by assumption) p;obtain⟨g5,y0,y1,y2,f0,f1,f2⟩:=j.free))
  have l:=hid j.putG;go_wp2_with fail;obtain⟨hP,c⟩:=l.out;obtain⟨WF,b⟩:=exQ<|sP w5 w.heap.size n;rw[b] at hP c;have a:((w5.setCell ⟨w.heap.size,0,none⟩ (.bool n.neg)).setCell ⟨w.heap.size,1,none⟩ (.string (bs n.dig))).setCell ⟨w.heap.size,2,none⟩ (.int .i64 n.exp)=WF:=b;rw[a];obtain⟨d0,d1,d2,_⟩:=hP.cells;clear b a l;refine bodyPost_ret (v:= .tuple #[.agg #[.bool n.neg, .string (bs n.dig), .int .i64 n.exp], .bool R]) ?_ rfl ⟨rfl,c⟩;simp[results,Tryz.results40,go_sem,d0,d1,d2]
 ·have de:(er==0)=false:=aG.2 he;have de2:decide (er=0)=false:=aJ he;have l:=hid o.putG;obtain⟨z0,z1,z2,_⟩:=o;obtain rfl:R=false:=by rw[<-m.out,de2];rfl
  clear CT CP m;go_region;go_wp2_with fail;obtain⟨hP,c⟩:=l.out;obtain⟨WF,b⟩:=exQ<|sP (w1.alloc (.cells #[.bool n.neg, .string (bs n.dig), .int .i64 n.exp] 52)) w.heap.size n;rw[b] at hP c;have a:(((w1.alloc (.cells #[.bool n.neg, .string (bs n.dig), .int .i64 n.exp] 52)).setCell ⟨w.heap.size,0,none⟩ (.bool n.neg)).setCell ⟨w.heap.size,1,none⟩ (.string (bs n.dig))).setCell ⟨w.heap.size,2,none⟩ (.int .i64 n.exp)=WF:=b;rw[a];obtain⟨d0,d1,d2,_⟩:=hP.cells;clear b a l;refine bodyPost_ret (v:= .tuple #[.agg #[.bool n.neg, .string (bs n.dig), .int .i64 n.exp], .bool false]) ?_ rfl ⟨rfl,c.drew⟩;simp[results,Tryz.results40,go_sem,d0,d1,d2]
def mF (had:List aA):List aA->Bool
 | []=>true
 | k::l=>!decide (k∈had)&&Lib.validD k&&mF (k::had) l
def pY (ks:List aA) (n:Nat):Bool:=mF [] ks&&decide (ks.length=n)
theorem aAA (n:Int) (w:World):(Instr.makeMap 92 (some (.int .i64 n))).run Tryz.prog w= .ok (.map (some w.heap.size)) (w.alloc (.map #[] 0)):=by
 simp[Instr.makeMap,run_underlying Tryz.underlying92,asInt,asIntOf,Result.andThen]
theorem aAB (kv:Value) (ks:List aA) (n:Nat) (w:World) (hv:SV w kv ks) (hk:bN ks+ks.length<=1073741824) (hn:n<=1099511627776) (hV:lW w):
  Calls Tryz.prog 39 #[kv, .int .i64 (n:Int)] w λe w'=>e= .returned (.bool (pY ks n))/\Below w.heap.size w w':=by
 obtain⟨p,c,rfl,hc,hp⟩:=hv;obtain⟨R,J⟩:=exQ<|pY ks n;rw[J];unfold pY at J;obtain⟨W1,C⟩:=exQ<|w.alloc (.map #[] 0);obtain⟨B,M⟩:=exQ<|w.heap.size;have H:Below w.heap.size w W1:=by rw[<-C];exact aH _ _
 have F:HM B [] W1:=by rw[<-C,<-M];exact World.ownsMap_made w _ _ _
 have Y:=hid H;have V:=hid F;have HP:=hid hp;have HV:=hid hV;have HR:=hid J;have hkl:ks.length<=1073741824:=by omega
 have hmk:=λn=>aAA n w;have O:=hid M;have z:B<=w.heap.size:=by omega
 clear H F hp hV J;go_enter Tryz.func39,Tryz.ntmps39;go_upto_region 2 with fail;clear C M;go_wp2_with fail;go_loopw [13] (λs13 wr=> ∃(i:Nat) (d:List aA),s13= .int .i64 (i:Int)/\i<=ks.length/\d.length=i/\Hid ((mF d (ks.drop i)&&decide (ks.length=n))=R)/\Hid (HM B d wr)/\Hid (Below B w wr)) (λs13 _=>ks.length-(RowKit.intOf s13).toNat)
 case atStart=>exact⟨0,[],rfl,cH _,rfl,HR,V,hid (Y.out.mono z)⟩
 case round=>
  obtain⟨i,d,rfl,hi,S,q,v,A⟩:=hrel;have r:Hid (Below w.heap.size w wr):=hid (by rw[O.out];exact A.out);by_cases hil:i<ks.length
  ·obtain⟨x,D⟩: ∃x,ks[i]?=some x:=⟨_,bH hil⟩;obtain⟨g,o,rfl,T⟩:=(HP.out.keep r.out).at_ D;have W:(i:Int)<(ks.length:Int):=(by omega);have dk:decide ((i:Int)<(ks.length:Int))=true:=aN W;have E:x.length<=1073741824:=by have:=zK (bA D);omega
   have y:ks.drop i=x::ks.drop (i+1):=by
    rw[iJ hil];congr 1;exact(aP.1 D).2
   have a:=q.out;rw[y,mF] at a;have f:=v.out.look x E;have K:=hid E;by_cases hmem:x∈d
   ·rw[aN hmem] at f a;have l:Hid (R=false):=hid (by rw[<-a];rfl);clear a q y D hmem;go_wp2_with fail;go_ret;exact⟨by rw[l.out];rfl,r.out⟩
   ·rw[aJ hmem] at f a;have N:=hid (Mn x wr (by omega) (HV.out.keep r.out));obtain⟨b,hb⟩:=exQ<|Lib.validD x;rw[hb] at N a;clear q y D hmem hb;cases b with
    | false=>
     have l:Hid (R=false):=hid (by rw[<-a];rfl);clear a;go_wp2_with fail;refine N.out.mono ?_;rintro e w2 ⟨rfl,j⟩;have t:=hid (aC r.out j);clear j;go_wp2_with fail;go_ret;exact⟨by rw[l.out];rfl,t.out⟩
    | true=>
     have l:Hid ((mF (x::d) (ks.drop (i+1))&&decide (ks.length=n))=R):=hid (by rw[<-a];rfl);have I:Hid (keyOf Tryz.prog 9 (.string (bs x))=some (.string x)):=hid (by have:=keyOf_string_mk (P:=Tryz.prog) Tryz.underlying9 (s:=bs x) (by rw[aQ];unfold maxLen;have:=K.out;omega);rw[aW] at this;exact this);have Q:=hid v.out.lt;clear a;go_wp2_with fail;refine N.out.mono ?_;rintro e w2 ⟨rfl,j⟩;clear T f;have Z:Hid (HM B d w2):=hid (HM.same v.out (j.block B Q.out));have t:=hid (A.out.trans (j.mono (aV z A.out.size)));have u:w2.ownsMap Tryz.prog 9 (plainElem Tryz.prog 4) B d.length (rC d):=Z.out;clear j;go_wp2_with (at_mapUpdate;refine wpList_mapUpdate_own _ rfl _ _ _ 92 rfl 9 4 Ag Tryz.underlying92 _ B d.length _ rfl u (by unfold maxLen;omega) _ _ (.string x) rfl rfl I.out _ [] (plainElem_bool Tryz.underlying4 true) ?_;intro w6 m G);have U:Hid (HM B (x::d) w6):=hid m;have L:Hid (Below B w w6):=hid (t.out.grown G (aV z t.out.size) (λk hk=>by cases hk;exact aD _));clear u m G;go_wp2_with fail;go_roundw
     ·exact⟨i+1,x::d,rfl,hil,by rw[aL,S],l,U,L⟩
     ·simp only[RowKit.intOf];omega
  ·have dk:decide ((i:Int)<(ks.length:Int))=false:=aJ (by omega);have a:=q.out;rw[List.drop_eq_nil_of_le (by omega),mF,Bool.true_and] at a;have dn:((ks.length:Int)==(n:Int))=R:=by
    rw[<-a];by_cases h:ks.length=n
    ·rw[aN h,h];simp
    ·rw[aJ h];exact aG.2 (by omega)
   have dn2:decide ((ks.length:Int)=(n:Int))=R:=by
    rw[<-a,decide_eq_decide];omega
   clear a q;go_wp2_with fail;go_ret;exact⟨rfl,r.out⟩
def mG:aA:= [116,114,117,101]
def mH:aA:= [102,97,108,115,101]
def sR (k:Int) (s:aA) (ks:List aA) (n:Nat):Bool:=
 if k=5 then !decide (0<ks.length)&&s.isEmpty
 else if k=6 then pY ks n&&s.isEmpty
 else if(decide (0<ks.length)||decide (0<n))=true then false
 else if k=1 then s.isEmpty
 else if k=2 then decide (s=mG)||decide (s=mH)
 else if k=3 then nY s
 else if k=4 then Lib.validD s
 else false
def sS (t:VT):Bool:=sR t.kind t.text t.keys t.items.length
theorem nZ (s l:aA):((bs s).toList==l)=decide (s=l):=by
 rw[Lib.toList_data,aW];by_cases h:s=l
 ·rw[aN h,h];simp
 ·rw[aJ h];simpa using h
theorem rH (s:aA):((bs s).toList== [])=s.isEmpty:=by
 rw[nZ];cases s<;>simp
theorem pZ (s:aA):(bs s).toList.isEmpty=s.isEmpty:=by rw[Lib.toList_data,aW]
theorem aAC (t:VT) (kv:Value) (p:Option Addr) (c:Nat) (w:World) (hks:SV w kv t.keys) (hbk:t.bulk<=1073741824) (hk7:t.kind≠7) (hV:lW w):
  Calls Tryz.prog 22 #[vv t kv (.slice p t.items.length c)] w λe w'=>e= .returned (.bool (sS t))/\Below w.heap.size w w':=by
 obtain⟨k,s,ks,l⟩:=t;simp only[VT.items,VT.keys] at hks ⊢;obtain⟨pk,ck,rfl,K,h⟩:=hks;obtain⟨R,r⟩:=exQ<|sS (VT.mk k s ks l);rw[r];have r:sR k s ks l.length=R:=r;simp only[VT.kind] at hk7;unfold sR at r;have hsl:s.length<=1073741824:=by rw[VT.bulk] at hbk;omega
 have I:bN ks+ks.length<=1073741824:=by rw[VT.bulk] at hbk;omega
 have hll:l.length<=1073741824:=by have:=oJ l;rw[VT.bulk] at hbk;omega
 have hkl:ks.length<=1073741824:=by omega
 obtain⟨W1,C⟩:=exQ<|w.alloc (.cells #[.int .i64 k, .string (bs s), .slice pk ks.length ck, .slice p l.length c] 25);obtain⟨B,x⟩:=exQ<|w.heap.size;have u:Hid (Below w.heap.size w W1):=hid (by rw[<-C];exact aH _ _);have J:Hid (bF W1 B (.mk k s ks l) (.slice pk ks.length ck) (.slice p l.length c)):=hid (by rw[<-C,<-x];exact bF.new w (.mk k s ks l) _ _);have N:=hid (hV.keep u.out);have G:=hid (show SV W1 (.slice pk ks.length ck) ks from ⟨pk,ck,rfl,K,h.keep u.out⟩);have A:=hid hk7;have M:=hid I;have sl:=aQ s;have e0:=rH s;have e0b:=pZ s;have dkz:decide ((0:Int)<(ks.length:Int))=decide (0<ks.length):=by rw[decide_eq_decide];omega
 have dlz:decide ((0:Int)<(l.length:Int))=decide (0<l.length):=by rw[decide_eq_decide];omega
 obtain⟨bk,dks⟩:=exQ<|decide (0<ks.length);obtain⟨bl,dl⟩:=exQ<|decide (0<l.length);obtain⟨bt,v⟩:=exQ<|s.isEmpty;rw[dks] at dkz r;rw[dl] at dlz r;rw[v] at e0 e0b r;have o:=hid r;clear hV r hbk h I hk7 v;unfold vv;simp only[VT.kind,VT.text,VT.items,VT.keys];go_enter Tryz.func22,Tryz.ntmps22;go_upto_region 1 with fail;clear C;obtain⟨b0,b1,b2,b3⟩:=J.out.cells;simp only[VT.kind,VT.text] at b0 b1;clear b0 b1 b2 b3;obtain⟨b0,b1,b2,b3⟩:=J.out.cells;simp only[VT.kind,VT.text] at b0 b1;go_quiet (fail);obtain⟨W2,y⟩:=exQ<|W1.drewN nq;have i:Below W1.heap.size W1 W2:=by rw[<-y];exact below_drewN (aB _ _) _
 rw[y];have F:=hid (J.out.keep i);have z:=hid (N.out.keep i);have D:=hid (G.out.keep i);have b:=hid (aC u.out i);clear i y b0 b1 b2 b3 J N G u;obtain⟨b0,b1,b2,b3⟩:=F.out.cells;simp only[VT.kind,VT.text] at b0 b1;by_cases h5:k=5
 ·subst h5;have d:=o.out;rw[if_pos rfl] at d;have L:=hid d;clear d o A;cases bk<;>cases bt
  all_goals
   go_wp2_with fail;go_ret;exact⟨by rw[<-L.out];rfl,by first | exact b.out | (rw[<-x];exact b.out)⟩
 ·have d5:(k==5)=false:=aG.2 h5;have d:=o.out;rw[if_neg h5] at d;by_cases h6:k=6
  ·subst h6;rw[if_pos rfl] at d;have q:=hid (aAB _ ks l.length W2 D.out M.out (by omega) z.out);obtain⟨by_,H⟩:=exQ<|pY ks l.length;rw[H] at q d;have L:=hid d;clear d o A H h5;go_wp2_with fail;refine q.out.mono ?_;rintro e w2 ⟨rfl,f⟩;obtain⟨b0',b1',b2',b3'⟩:=(F.out.keep f).cells;simp only[VT.kind,VT.text] at b0' b1';have g:=hid (aC b.out f);clear f b0 b1 b2 b3;cases by_<;>cases bt
   all_goals
    go_wp2_with fail;go_ret;exact⟨by rw[<-L.out];rfl,by first | exact g.out | (rw[<-x];exact g.out)⟩
  ·have d6:(k==6)=false:=aG.2 h6;rw[if_neg h6] at d;have a:=hid d;clear d o;by_cases hbb:(bk||bl)=true
   ·rw[if_pos hbb] at a;obtain rfl:false=R:=a.out;cases bk<;>cases bl
    ·cases hbb
    all_goals
     go_wp2_with fail;go_ret;exact⟨rfl,by first | exact b.out | (rw[<-x];exact b.out)⟩
   ·rw [if_neg hbb] at a;obtain⟨rfl,rfl⟩:bk=false/\bl=false:=(by cases bk<;>cases bl<;>simp at hbb ⊢);clear hbb;by_cases h1:k=1
    ·subst h1;have d:=a.out;rw[if_pos rfl] at d;subst d;clear a;go_wp2_with fail;go_ret;exact⟨by simp[e0,e0b],by first | exact b.out | (rw[<-x];exact b.out)⟩
    ·have d1:(k==1)=false:=aG.2 h1;rw[if_neg h1] at a;by_cases h2:k=2
     ·subst h2;have d:=a.out;rw[if_pos rfl] at d;have t1:=nZ s mG;have t2:=nZ s mH;unfold mG at t1;unfold mH at t2;obtain⟨y1,j⟩:=exQ<|decide (s=mG);obtain⟨y2,m⟩:=exQ<|decide (s=mH);rw[j,m] at d;have t1:((bs s).toList== [116,114,117,101])=y1:=t1.trans j;have t2:((bs s).toList== [102,97,108,115,101])=y2:=t2.trans m;have t3:decide (s= [116,117,114,101])=decide (s= [116,117,114,101]):=rfl;have j:decide (s= [116,114,117,101])=y1:=j;have m:decide (s= [102,97,108,115,101])=y2:=m;subst d;clear a t3;cases y1<;>cases y2
      all_goals
       go_wp2_with fail;go_ret;exact⟨by simp[t1,t2,j,m,Act.put],by first | exact b.out | (rw[<-x];exact b.out)⟩
     ·have d2:(k==2)=false:=aG.2 h2;rw[if_neg h2] at a;by_cases h3:k=3
      ·subst h3;have d:=a.out;rw[if_pos rfl] at d;have q:=hid (aAz s W2 (by omega) z.out);unfold Ez fQ at q;rw[d] at q;obtain⟨nn,E⟩:=exQ<|(cO s).1;rw[E] at q;clear a d E;go_wp2_with fail;refine q.out.mono ?_;rintro e w2 ⟨rfl,f⟩;have g:=hid (aC b.out f);clear f b0 b1 b2 b3;go_wp2_with fail;go_ret;exact⟨rfl,g.out.trans ((aH w2 _).mono g.out.size)⟩
      ·have d3:(k==3)=false:=aG.2 h3;rw[if_neg h3] at a;by_cases h4:k=4
       ·subst h4;have d:=a.out;rw[if_pos rfl] at d;have q:=hid (Mn s W2 (by omega) z.out);rw[d] at q;clear a d;go_wp2_with fail;refine q.out.mono ?_;rintro e w2 ⟨rfl,f⟩;have g:=hid (aC b.out f);clear f b0 b1 b2 b3;go_wp2_with fail;go_ret;exact⟨rfl,g.out⟩
       ·have d4:(k==4)=false:=aG.2 h4;have d7:(k==7)=false:=aG.2 A.out;rw[if_neg h4] at a;obtain rfl:false=R:=a.out;go_wp2_with fail;go_ret;exact⟨rfl,by first | exact b.out | (rw[<-x];exact b.out)⟩
def cE (t:VT):Bool:=decide (t.kind≠7)&&sS t
def cY (t:VT):Bool:=(decide (t.size<=4096)&&decide (t.depth<=32))&&dO cE t
theorem aAD (n:Nat) (t:VT) (kv iv:Value) (w:World) (h:VD w n t kv iv) (hbk:t.bulk<=1073741824) (hV:lW w):
  Calls Tryz.prog 21 #[vv t kv iv] w λe w'=>e= .returned (.bool (cE t))/\Below w.heap.size w w':=by
 obtain⟨m',hm,⟨pk,ck,rfl,r,a⟩,p,c,rfl,hlc,k⟩:=h.parts;obtain⟨R,m⟩:=exQ<|cE t;rw[m];unfold cE at m;obtain⟨W1,d⟩:=exQ<|w.alloc (.cells #[.int .i64 t.kind, .string (bs t.text), .slice pk t.keys.length ck, .slice p t.items.length c] 25);obtain⟨B,o⟩:=exQ<|w.heap.size;have b:Hid (Below w.heap.size w W1):=hid (by rw[<-d];exact aH _ _);have u:Hid (bF W1 B t (.slice pk t.keys.length ck) (.slice p t.items.length c)):=hid (by rw[<-d,<-o];exact bF.new w t _ _);have f:SV W1 (.slice pk t.keys.length ck) t.keys:=⟨pk,ck,rfl,r,a.keep b.out⟩;have g:=hV.keep b.out;have s:=hid m;unfold vv;by_cases h7:t.kind=7
 ·have d7:(t.kind !=7)=false:=by simp[h7]
  have i:=s.out;rw[aJ (by simpa using h7),Bool.false_and] at i;subst i;clear k a f g hV h m h7;go_enter Tryz.func21,Tryz.ntmps21;go_upto_region 1 with fail;clear d;obtain⟨b0,b1,b2,b3⟩:=u.out.cells;go_wp2_with fail;go_ret;exact⟨rfl,by first | exact b.out | (rw[<-o];exact b.out)⟩
 ·have d7:(t.kind !=7)=true:=by simp[h7]
  have i:=s.out;rw[aN (by simpa using h7),Bool.true_and] at i;have q:=hid (aAC t _ p c W1 f hbk h7 g);unfold vv at q;rw[i] at q;clear k a f g hV h m h7 i;go_enter Tryz.func21,Tryz.ntmps21;go_upto_region 1 with fail;clear d;obtain⟨b0,b1,b2,b3⟩:=u.out.cells;go_wp2_with fail;refine q.out.mono ?_;rintro e w2 ⟨rfl,l⟩;have j:=hid (aC b.out l);clear l b0 b1 b2 b3;go_wp2_with fail;go_ret;exact⟨rfl,by first | exact j.out | (rw[<-o];exact j.out)⟩
def qA:Value:= .func (.func 21) #[] #[]
def xY (X:Nat):Value:= .func (.func 38) #[] #[.pointer (some ⟨X,0,none⟩)]
def vS (n:Nat):Prop:= ∀(t:VT) (kv iv:Value) (w:World),VD w n t kv iv->t.bulk<=1073741824->lW w->
 Calls Tryz.prog 20 #[vv t kv iv,qA] w λe w'=>e= .returned (.bool (dO cE t))/\Below w.heap.size w w'
theorem aAE (n:Nat) (IH:vS n) (t:VT) (kv iv:Value) (X:Nat) (w:World) (h:VD w n t kv iv) (hbk:t.bulk<=1073741824) (hV:lW w) (hX:w.cell? ⟨X,0,none⟩=some qA):
  Calls Tryz.prog 38 #[vv t kv iv, .pointer (some ⟨X,0,none⟩)] w λe w'=>e= .returned (.bool (!dO cE t))/\Below w.heap.size w w':=by
 obtain⟨pk,ck,p,c,rfl,rfl⟩:=h.form;obtain⟨R,k⟩:=exQ<|dO cE t;rw[k];obtain⟨W1,b⟩:=exQ<|w.alloc (.cells #[.int .i64 t.kind, .string (bs t.text), .slice pk t.keys.length ck, .slice p t.items.length c] 25);obtain⟨B,l⟩:=exQ<|w.heap.size;have a:Hid (Below w.heap.size w W1):=hid (by rw[<-b];exact aH _ _);have j:Hid (bF W1 B t (.slice pk t.keys.length ck) (.slice p t.items.length c)):=hid (by rw[<-b,<-l];exact bF.new w t _ _);have g:W1.cell? ⟨X,0,none⟩=some qA:=by rw[a.out.cell (p:=⟨X,0,none⟩) (qZ hX)];exact hX
 have i:=hid (IH t _ _ W1 (h.keep a.out) hbk (hV.keep a.out));unfold vv at i ⊢;unfold qA at i g;rw[k] at i;clear h hbk hV hX k IH;go_enter Tryz.func38,Tryz.ntmps38;go_upto_region 1 with fail;clear b;obtain⟨b0,b1,b2,b3⟩:=j.out.cells;go_wp2_with fail;refine i.out.mono ?_;rintro e w2 ⟨rfl,f⟩;have d:=hid (aC a.out f);clear f b0 b1 b2 b3 g;go_wp2_with fail;go_ret;exact⟨rfl,by first | exact d.out | (rw[<-l];exact d.out)⟩
def tX (l:List VT):Int:=if l.all (dO cE) then -1 else((l.findIdx (λx=>!dO cE x):Nat):Int)
theorem aAF {l:List VT}{i:Nat}{x:VT} (hx:l[i]?=some x) (hq:dO cE x=false) (hn: ∀(j:Nat) (y:VT),j<i->l[j]?=some y->dO cE y=true):tX l=(i:Int):=by
 obtain⟨c,a⟩:=aP.1 hx;have d:l.findIdx (λx=>!dO cE x)=i:=by
  rw[List.findIdx_eq c];refine⟨by rw[a,hq];rfl,λj b=>?_⟩;rw[hn j _ b (bH (by omega))];rfl
 unfold tX;rw[if_neg,d];intro h;have:=eH.1 h x (bA hx);rw[hq] at this;cases this
theorem aAG {l:List VT} (hn: ∀(j:Nat) (y:VT),l[j]?=some y->dO cE y=true):tX l= -1:=by
 unfold tX;rw[if_pos];rw[eH];intro x a;obtain⟨j,b⟩:=List.getElem?_of_mem a;exact hn j x b
theorem aAH (n:Nat) (IH:vS n) (X:Nat) (p:Option Addr) (c:Nat) (l:List VT) (w:World) (hit:nQ w n p l) (hbk:aY l<=1073741824) (hV:lW w) (hX:w.cell? ⟨X,0,none⟩=some qA):
  Calls Tryz.prog 61 #[.slice p l.length c,xY X] w λe w'=>e= .returned (.int .i64 (tX l))/\Below w.heap.size w w':=by
 have z:=hid hit;have G:=hid hV;have E:=hid hX;have hlen:=aV (oJ l) hbk;obtain⟨R,A⟩:=exQ<|tX l;rw[A];have D:=hid A;clear hit hV hX A;unfold xY;go_enter Tryz.func61,Tryz.ntmps61;go_wp2_with fail;go_loopw [8] (λs8 wr=> ∃i:Nat,s8= .int .i64 i/\i<=l.length/\Hid (∀j y,j<i->l[j]?=some y->dO cE y=true)/\Hid (Below w.heap.size w wr)) (λs8 _=>l.length-(RowKit.intOf s8).toNat)
 case atStart=>exact⟨0,rfl,by omega,hid (λj y F=>by omega),hid (aB _ _)⟩
 case round=>
  obtain⟨i,rfl,hi,t,k⟩:=hrel;by_cases hlt:i<l.length
  ·have s:(i:Int)<(l.length:Int):=(by omega);obtain⟨x,h⟩: ∃x,l[i]?=some x:=⟨_,bH hlt⟩;obtain⟨g,o,kv',iv',rfl,hg,n0,n1,n2,n3,d⟩:=z.out.keep k.out i x h;obtain⟨pk2,ck2,px,cx,rfl,rfl⟩:=d.form;have r:wr.cell? ⟨X,0,none⟩=some qA:=by rw[k.out.cell (p:=⟨X,0,none⟩) (qZ E.out)];exact E.out
   have C:=aAE n IH x _ _ X wr d (aV (pH (bA h)) hbk) (G.out.keep k.out) r;obtain⟨b,q⟩:=exQ<|dO cE x;rw[q] at C;unfold vv at C;have B:=hid C;clear C r d;cases b with
   | false=>
    have u:=hid (D.out.symm.trans (aAF h q t.out));clear h q;go_wp2_with fail;refine B.out.mono ?_;rintro e w1 ⟨rfl,a⟩;have f:=hid (aC k.out a);clear a;go_wp2_with fail;go_ret;exact⟨by rw[u.out]<;>rfl,f.out⟩
   | true=>
    have v:Hid (∀j y,j<i+1->l[j]?=some y->dO cE y=true):=hid (λj y F m=>by
     by_cases hji:j<i
     ·exact t.out j y hji m
     ·obtain rfl:j=i:=(by omega);rw[h] at m;obtain rfl:=bC m;exact q)
    clear h q;go_wp2_with fail;refine B.out.mono ?_;rintro e w1 ⟨rfl,a⟩;have f:=hid (aC k.out a);clear a;go_wp2_with fail;go_roundw
    case rel=>exact⟨i+1,by go_num,by omega,v,f⟩
    case measure=>simp[RowKit.intOf];omega
  ·have s: ¬(i:Int)<(l.length:Int):=(by omega);have u:=hid (D.out.symm.trans (aAG (λj y m=>t.out j y (by have:=(aP.1 m).1;omega) m)));go_wp2_with fail;go_ret;exact⟨by rw[u.out]<;>rfl,k.out⟩
theorem aAI (n:Nat) (IH:vS n) (X:Nat) (p:Option Addr) (c:Nat) (l:List VT) (w:World) (hit:nQ w n p l) (hbk:aY l<=1073741824) (hV:lW w) (hX:w.cell? ⟨X,0,none⟩=some qA):
  Calls Tryz.prog 37 #[.slice p l.length c,xY X] w λe w'=>e= .returned (.bool (!pG cE l))/\Below w.heap.size w w':=by
 have C:=aAH n IH X p c l w hit hbk hV hX;have hlen:=aV (oJ l) hbk;rw[uZ];unfold tX at C;obtain⟨b,f⟩:=exQ<|l.all (dO cE);obtain⟨F,h⟩:=exQ<|l.findIdx (λx=>!dO cE x);rw[f,h] at C;rw[f];have g:=hid C;clear C f h hit hV hX;unfold xY at g ⊢;cases b with
 | true=>
  go_enter Tryz.func37,Tryz.ntmps37;go_wp2_with fail;refine g.out.mono ?_;rintro e w1 ⟨rfl,a⟩;have d:=hid a;clear a;go_wp2_with fail;go_ret;exact⟨rfl,d.out⟩
 | false=>
  have hF0:decide ((0:Int)<=(F:Int))=true:=aN (by omega);go_enter Tryz.func37,Tryz.ntmps37;go_wp2_with fail;refine g.out.mono ?_;rintro e w1 ⟨rfl,a⟩;have d:=hid a;clear a;go_wp2_with fail;go_ret;exact⟨rfl,d.out⟩
theorem aAJ (m:Nat) (IH:vS m):vS (m+1):=by
 intro t kv iv w h u I;have hmf: ∀(fn:Fn) (first cap:Array Value) (w:World),(Instr.makeFunc fn first cap).run Tryz.prog w= .ok (.func fn first cap) w:=λ_ _ _ _=>rfl;obtain⟨m',hm,⟨pk,ck,rfl,hck,i⟩,p,c,rfl,hlc,r⟩:=h.parts;obtain rfl:m=m':=by omega
 obtain⟨R,G⟩:=exQ<|dO cE t;rw[G];have g:(cE t&&pG cE t.items)=R:=by rw[<-G];cases t;rw[dO];rfl
 have F:aY t.items<=1073741824:=by cases t;rw[VT.bulk] at u;simp only[VT.items];omega
 obtain⟨B,A⟩:=exQ<|w.heap.size;obtain⟨W1,d⟩:=exQ<|(w.alloc (.cells #[.int .i64 t.kind, .string (bs t.text), .slice pk t.keys.length ck, .slice p t.items.length c] 25)).alloc (.cells #[.func (.func 21) #[] #[]] 31);have b1:=aH w (.cells #[.int .i64 t.kind, .string (bs t.text), .slice pk t.keys.length ck, .slice p t.items.length c] 25);have b2:=aH (w.alloc (.cells #[.int .i64 t.kind, .string (bs t.text), .slice pk t.keys.length ck, .slice p t.items.length c] 25)) (.cells #[.func (.func 21) #[] #[]] 31);have a:Hid (Below w.heap.size w W1):=hid (by rw[<-d];exact aC b1 b2);have q:Hid (bF W1 B t (.slice pk t.keys.length ck) (.slice p t.items.length c)):=hid (by rw[<-d,<-A];exact(bF.new w t _ _).keep b2);have o:W1.heap[B+1]?=some (.cells #[.func (.func 21) #[] #[]] 31 (0,0)):=by
  rw[<-d,<-A];have o:=heap_alloc_new (w.alloc (.cells #[.int .i64 t.kind, .string (bs t.text), .slice pk t.keys.length ck, .slice p t.items.length c] 25)) (.cells #[.func (.func 21) #[] #[]] 31);simp only[rD] at o;exact o
 have j:Hid (W1.cell? ⟨B+1,0,none⟩=some (.func (.func 21) #[] #[])/\B+1<W1.heap.size):=hid ⟨by simp[World.cell?,o],aE o⟩;clear o;have D:=hid (r.keep a.out);have J:=hid (I.keep a.out);have f:=hid (aAD _ t _ _ W1 (h.keep a.out) u J.out);unfold vv at f ⊢;unfold qA;obtain⟨y,K⟩:=exQ<|cE t;rw[K] at f g;have C:=hid g;clear b1 b2 r i I h G g K;go_enter Tryz.func20,Tryz.ntmps20;go_upto_region 1 with fail;clear d;obtain⟨b0,b1,b2,b3⟩:=q.out.cells;obtain⟨x0,_⟩:=j.out;go_wp2_with fail;refine f.out.mono ?_;rintro e w2 ⟨rfl,k⟩;have b:=hid k;have v:w2.cell? ⟨B+1,0,none⟩=some qA:=by rw[k.cell (p:=⟨B+1,0,none⟩) j.out.2];exact j.out.1
 clear k b0 b1 b2 b3 x0;obtain⟨b0,b1,b2,b3⟩:=(q.out.keep b.out).cells;cases y with
 | false=>
  go_wp2_with fail;go_ret;exact⟨by rw[<-C.out];rfl,by first | exact aC a.out b.out | (rw[<-A];exact aC a.out b.out)⟩
 | true=>
  have l:=hid (aAI m IH (B+1) p c t.items w2 (D.out.keep b.out) F (J.out.keep b.out) v);obtain⟨z,H⟩:=exQ<|pG cE t.items;have E:=C.out;rw[H] at l E;unfold xY at l;rw[Bool.true_and] at E;subst E;clear H C v;go_wp2_with fail;refine l.out.mono ?_;rintro e w3 ⟨rfl,s⟩;have x:=hid (aC b.out s);clear s b0 b1 b2 b3;cases z
  all_goals
   go_wp2_with fail;go_ret;exact⟨rfl,by first | exact aC a.out x.out | (rw[<-A];exact aC a.out x.out)⟩
theorem Mq: ∀n,vS n
 | 0=>λt kv iv w h=>h.elim
 | n+1=>aAJ n (Mq n)
theorem aAK (n:Nat) (t:VT) (kv iv:Value) (w:World) (h:VD w n t kv iv) (hbk:t.bulk<=1073741824):
  Calls Tryz.prog 19 #[vv t kv iv] w λe w'=>e= .returned (.bool (decide (t.size<=4096)&&decide (t.depth<=32)))/\Below w.heap.size w w':=by
 obtain⟨pk,ck,p,c,rfl,rfl⟩:=h.form;obtain⟨B,r⟩:=exQ<|w.heap.size;obtain⟨W1,j⟩:=exQ<|w.alloc (.cells #[.int .i64 t.kind, .string (bs t.text), .slice pk t.keys.length ck, .slice p t.items.length c] 25);have b:Hid (Below w.heap.size w W1):=hid (by rw[<-j];exact aH _ _);have k:Hid (bF W1 B t (.slice pk t.keys.length ck) (.slice p t.items.length c)):=hid (by rw[<-j,<-r];exact bF.new w t _ _);have z:=hid (h.keep b.out);have d:=hid (Ir n t _ _ W1 z.out (by omega));have F:=oI t;have x:=zL t;have g:=hid (λw' E=>Is n t _ _ w' (z.out.keep E) (by omega));unfold vv at d g ⊢;obtain⟨S,i⟩:=exQ<|t.size;obtain⟨D,C⟩:=exQ<|t.depth;rw[i] at d F x ⊢;rw[C] at g x ⊢;obtain⟨R,v⟩:=exQ (decide (S<=4096)&&decide (D<=32));rw[v];have A:=hid v;have d1:decide ((S:Int)<=4096)=decide (S<=4096):=by rw[decide_eq_decide];omega
 have d2:decide ((D:Int)<=32)=decide (D<=32):=by rw[decide_eq_decide];omega
 clear h i C v;go_enter Tryz.func19,Tryz.ntmps19;go_upto_region 1 with fail;clear j;obtain⟨b0,b1,b2,b3⟩:=k.out.cells;go_wp2_with fail;refine d.out.mono ?_;rintro e w2 ⟨rfl,m⟩;have a:=hid m;clear m b0 b1 b2 b3;obtain⟨b0,b1,b2,b3⟩:=(k.out.keep a.out).cells;by_cases i:S<=4096
 ·rw[aN i] at d1;have f:decide (S<=4096)=true:=aN i;have s:=hid (g.out w2 a.out);go_wp2_with fail;refine s.out.mono ?_;rintro e w3 ⟨rfl,l⟩;have q:=hid (aC a.out l);clear l b0 b1 b2 b3;obtain⟨y,u⟩:=exQ<|decide (D<=32);rw[u] at d2;have o:=A.out;rw[f,u,Bool.true_and] at o;subst o;go_wp2_with fail;go_ret;exact⟨by simp[u,Act.put],by first | exact aC b.out q.out | (rw[<-r];exact aC b.out q.out)⟩
 ·rw[aJ i] at d1;have f:decide (S<=4096)=false:=aJ i;have o:=A.out;rw[f,Bool.false_and] at o;subst o;go_wp2_with fail;go_ret;exact⟨rfl,by first | exact aC b.out a.out | (rw[<-r];exact aC b.out a.out)⟩
theorem xZ (n:Nat) (t:VT) (kv iv:Value) (w:World) (h:VD w n t kv iv) (hbk:t.bulk<=1073741824) (hV:lW w):
  Calls Tryz.prog 7 #[vv t kv iv] w λe w'=>e= .returned (.bool (cY t))/\Below w.heap.size w w':=by
 obtain⟨pk,ck,p,c,rfl,rfl⟩:=h.form;obtain⟨R,m⟩:=exQ<|cY t;rw[m];unfold cY at m;obtain⟨B,r⟩:=exQ<|w.heap.size;obtain⟨W1,g⟩:=exQ<|w.alloc (.cells #[.int .i64 t.kind, .string (bs t.text), .slice pk t.keys.length ck, .slice p t.items.length c] 25);have b:Hid (Below w.heap.size w W1):=hid (by rw[<-g];exact aH _ _);have i:Hid (bF W1 B t (.slice pk t.keys.length ck) (.slice p t.items.length c)):=hid (by rw[<-g,<-r];exact bF.new w t _ _);have k:=hid (h.keep b.out);have v:=hid (hV.keep b.out);have d:=hid (aAK n t _ _ W1 k.out hbk);unfold vv at d ⊢;obtain⟨y,u⟩:=exQ (decide (t.size<=4096)&&decide (t.depth<=32));rw[u] at d m;have q:=hid m;clear h hV m u;go_enter Tryz.func7,Tryz.ntmps7;go_upto_region 1 with fail;clear g;obtain⟨b0,b1,b2,b3⟩:=i.out.cells;go_wp2_with fail;refine d.out.mono ?_;rintro e w2 ⟨rfl,j⟩;have a:=hid j;clear j b0 b1 b2 b3;obtain⟨b0,b1,b2,b3⟩:=(i.out.keep a.out).cells;cases y with
 | false=>
  go_wp2_with fail;go_ret;exact⟨by rw[<-q.out];rfl,by first | exact aC b.out a.out | (rw[<-r];exact aC b.out a.out)⟩
 | true=>
  have f:=hid (Mq n t _ _ w2 (k.out.keep a.out) hbk (v.out.keep a.out));unfold vv qA at f;have s:=q.out;rw[Bool.true_and] at s;rw[s] at f;clear s q;go_wp2_with fail;refine f.out.mono ?_;rintro e w3 ⟨rfl,l⟩;have o:=hid (aC a.out l);clear l b0 b1 b2 b3;go_wp2_with fail;go_ret;exact⟨rfl,by first | exact aC b.out o.out | (rw[<-r];exact aC b.out o.out)⟩
end
end Go.Proofs.YtjnooaljcgkfpaaGreatDoor
