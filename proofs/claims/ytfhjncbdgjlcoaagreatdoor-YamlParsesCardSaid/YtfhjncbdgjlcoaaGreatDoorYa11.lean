import Derived.Test.YtfhjncbdgjlcoaaGreatDoorYa3
import Derived.Lib.ReplaceLaws
set_option maxRecDepth 100000
set_option maxHeartbeats 4000000
set_option linter.unusedVariables false
set_option linter.unusedSimpArgs false
namespace Go.Proofs.YtfhjncbdgjlcoaaGreatDoor
section
open Go.Lib
def jB:Nat->List UInt8->Nat->List UInt8->List UInt8×Int×Int
 | 0,_,i,_=>([],(i:Int),2)
 | _+1,[],i,_=>([],(i:Int),2)
 | f+1,c::r,i,acc=>if c=39 then(if r.head?=some 39 then jB f (r.drop 1) (i+2) (acc++ [39]) else(acc,(i:Int)+1,0)) else if iF (decodeL (c::r)) then([],(i:Int),2) else
  jB f ((c::r).drop (decodeL (c::r)).2) (i+(decodeL (c::r)).2) (acc++(c::r).take (decodeL (c::r)).2)
theorem vV (f:Nat) (c:UInt8) (r:List UInt8) (i:Nat) (acc:List UInt8):jB (f+1) (c::r) i acc=if c=39 then(if r.head?=some 39 then jB f (r.drop 1) (i+2) (acc++ [39]) else(acc,(i:Int)+1,0)) else if iF (decodeL (c::r)) then([],(i:Int),2) else
  jB f ((c::r).drop (decodeL (c::r)).2) (i+(decodeL (c::r)).2) (acc++(c::r).take (decodeL (c::r)).2):=rfl
def gT (l:List UInt8) (a:Int):List UInt8×Int×Int:=
 if a<0\/(l.length:Int)<a then([],0,2) else if l[a.toNat]?=some 39 then jB (l.length+1) (l.drop (a.toNat+1)) (a.toNat+1) [] else([],a,2)
def sO (del:Bool):Nat->List UInt8->Nat->Nat
 | 0,_,i=>i
 | _+1,[],i=>i
 | f+1,c::r,i=>if iF (decodeL (c::r))||(del&&c==127) then i else sO del f ((c::r).drop (decodeL (c::r)).2) (i+(decodeL (c::r)).2)
theorem Vh (del:Bool) (f:Nat) (c:UInt8) (r:List UInt8) (i:Nat):sO del (f+1) (c::r) i=if iF (decodeL (c::r))||(del&&c==127) then i else sO del f ((c::r).drop (decodeL (c::r)).2) (i+(decodeL (c::r)).2):=rfl
def cX (del:Bool) (l:List UInt8):Nat:=sO del l.length l 0
theorem sP (del:Bool): ∀(f:Nat) (l:List UInt8) (i:Nat),i<=sO del f l i/\sO del f l i<=i+l.length
 | 0,l,i=>⟨aD _,Nat.le_add_right _ _⟩
 | _+1,[],i=>⟨aD _,aD _⟩
 | f+1,c::r,i=>by
  unfold sO;split
  ·exact⟨aD _,Nat.le_add_right _ _⟩
  ·have h:=sP del f ((c::r).drop (decodeL (c::r)).2) (i+(decodeL (c::r)).2);have hl:=decodeL_le (c::r) (List.cons_ne_nil _ _);rw[aU] at h;omega
theorem Kl:encodeRune 39= [39]:=b_
def aX (l:List UInt8):Nat:=(l.takeWhile (· ==32)).length
def jK (l:List UInt8):Nat:=l.length-aX l.reverse
theorem jU (l:List UInt8):aX l<=l.length:=(List.takeWhile_sublist _).length_le
theorem Dt (c:UInt8) (l:List UInt8):aX (c::l)=if c=32 then aX l+1 else 0:=by
 unfold aX;rw[List.takeWhile_cons];by_cases h:c=32
 ·rw[if_pos (by simp[h]),if_pos h];rfl
 ·rw[if_neg (by simp[h]),if_neg h];rfl
theorem nV: ∀(l:List UInt8) (i:Nat),i<aX l->l[i]?=some 32
 | [],i,h=>by simp[aX] at h
 | c::l,i,h=>by
  rw[Dt] at h;by_cases hc:c=32
  ·rw[if_pos hc] at h;cases i with
   | zero=>rw[hc];rfl
   | succ i=>rw[bZ];exact nV l i a_
  ·rw[if_neg hc] at h;omega
theorem nW: ∀(l:List UInt8),l[aX l]?≠some 32
 | []=>by simp
 | c::l=>by
  rw[Dt];by_cases hc:c=32
  ·rw[if_pos hc,bZ];exact nW l
  ·rw[if_neg hc];simpa using hc
theorem zZ (l:List UInt8):jK l<=l.length:=Nat.sub_le _ _
theorem Km (l:List UInt8) (i:Nat) (h:jK l<=i) (hi:i<l.length):l[i]?=some 32:=by
 have b:=jU l.reverse;rw[List.length_reverse] at b;unfold jK at h;have a:=nV l.reverse (l.length-1-i) a_;rw[List.getElem?_reverse a_] at a;rw[show l.length-1-(l.length-1-i)=i by omega] at a;exact a
theorem Kn (l:List UInt8) (h:0<jK l):l[jK l-1]?≠some 32:=by
 have b:=jU l.reverse;rw[List.length_reverse] at b;have a:=nW l.reverse;unfold jK at h ⊢;rw[List.getElem?_reverse a_] at a;rw[show l.length-aX l.reverse-1=l.length-1-aX l.reverse by omega];exact a
def nB (t:List UInt8):Nat->Nat->Nat
 | 0,_=>t.length
 | f+1,i=>if t.length<=i then t.length else if t[i]?=some 35/\t[i-1]?=some 32 then i else nB t f (i+1)
def dZ (t:List UInt8) (a:Nat):Nat:=nB t (t.length+1) (max a 1)
theorem Ko (t:List UInt8): ∀(f i:Nat),t.length<i+f->nB t f i<=t.length/\(nB t f i<t.length->i<=nB t f i/\t[nB t f i]?=some 35/\t[nB t f i-1]?=some 32)/\(∀j,i<=j->j<nB t f i-> ¬(t[j]?=some 35/\t[j-1]?=some 32))
 | 0,i,h=>⟨aD _,λh=>absurd h (Nat.lt_irrefl _),λj h1 h2=>by simp[nB] at h2;omega⟩
 | f+1,i,h=>by
  unfold nB;by_cases h1:t.length<=i
  ·rw[if_pos h1];exact⟨aD _,λh=>absurd h (Nat.lt_irrefl _),λj h2 h3=>by omega⟩
  ·rw[if_neg h1];by_cases h2:t[i]?=some 35/\t[i-1]?=some 32
   ·rw[if_pos h2];exact⟨a_,λ_=>⟨aD _,h2⟩,λj h3 h4=>by omega⟩
   ·rw[if_neg h2];obtain⟨g1,g2,g3⟩:=Ko t f (i+1) a_;refine⟨g1,λh=>⟨by have:=(g2 h).1;omega,(g2 h).2⟩,λj h3 h4=>?_⟩;by_cases hj:j=i
    ·rw[hj];exact h2
    ·exact g3 j a_ h4
theorem uF (t:List UInt8) (a:Nat):dZ t a<=t.length/\(dZ t a<t.length->max a 1<=dZ t a/\t[dZ t a]?=some 35/\t[dZ t a-1]?=some 32)/\(∀j,max a 1<=j->j<dZ t a-> ¬(t[j]?=some 35/\t[j-1]?=some 32)):=
 Ko t (t.length+1) (max a 1) a_
theorem Du (t:List UInt8) (a k:Nat) (h1:k<=t.length) (h2:k<t.length->max a 1<=k/\t[k]?=some 35/\t[k-1]?=some 32) (h3: ∀j,max a 1<=j->j<k-> ¬(t[j]?=some 35/\t[j-1]?=some 32)):dZ t a=k:=by
 obtain⟨g1,g2,g3⟩:=uF t a;rcases Nat.lt_trichotomy (dZ t a) k with h | h | h
 ·have:=g2 a_;exact absurd this.2 (h3 _ this.1 h)
 ·exact h
 ·have:=h2 a_;exact absurd this.2 (g3 _ this.1 h)
theorem Aa (n i:Nat) (u:List UInt8):(List.replicate n (32:UInt8)++u)[n+i]?=u[i]?:=by
 rw[kT D_,List.length_replicate];congr 1;omega
theorem Vi (n a:Nat) (u:List UInt8) (h0:u.head?≠some 35):dZ (List.replicate n 32++u) (n+a)=n+dZ u a:=by
 obtain⟨g1,g2,g3⟩:=uF u a;have b:(List.replicate n (32:UInt8)++u).length=n+u.length:=by rw[aT,List.length_replicate]
 refine Du _ _ _ E5 (λh=>?_) (λj h1 h2=>?_)
 ·rw[b] at h;obtain⟨k1,k2,k3⟩:=g2 a_;refine⟨a_,by rw[Aa];exact k2,?_⟩;rw[show n+dZ u a-1=n+(dZ u a-1) by omega,Aa];exact k3
 ·obtain⟨i,rfl⟩: ∃i,j=n+i:=⟨j-n,a_⟩;rw[Aa];rintro⟨e1,e2⟩;cases i with
  | zero=>rw[List.head?_eq_getElem?] at h0;exact h0 e1
  | succ i=>
   rw[show n+(i+1)-1=n+i by omega,Aa] at e2;exact g3 (i+1) a_ a_ ⟨e1,e2⟩
def gN (t:List UInt8) (k:Nat) (c:UInt8):Bool:=t[k]?==some c&&(t[k+1]?==none||t[k+1]?==some 32)
def cU (t:List UInt8):Nat:=
 if t.head?=some 34 then(if(kL t 0).2=0 then(kL t 0).1.toNat else 0) else if t.head?=some 39 then(if(gT t 0).2.2=0 then(gT t 0).2.1.toNat else 0) else 0
def qU (t:List UInt8) (c:Nat):Nat->Nat->Nat×Nat
 | 0,_=>(5,0)
 | f+1,k=>if c<=k then(5,0) else if gN t k 58 then(4,k) else qU t c f (k+1)
def eO (t:List UInt8):Nat×Nat:=
 if gN t 0 45 then(3,0) else if t.head?=some 34\/t.head?=some 39 then(if gN t (cU t) 58 then(4,cU t) else(5,0)) else if t.head?=some 91\/t.head?=some 123 then(5,0) else qU t (dZ t 0) t.length 1
structure sQ where
 kind:Nat
 key:Nat
 rf:Nat
 rt:Nat
 nf:Option Nat
def eI (h:Nat×Nat):Nat:=if h.1=3 then 1 else if h.1=4 then h.2+1 else 0
def sR (u:List UInt8) (h:Nat×Nat) (f2:Nat) (tw:Nat):sQ:=⟨h.1,h.2,f2,f2+jK ((u.take tw).drop f2),if tw<u.length then some tw else none⟩
def cE (u:List UInt8) (f:Nat):Nat:=f+aX (u.drop f)
def fQ (u:List UInt8):Option sQ:=
 if u= [] then some ⟨1,0,0,0,none⟩ else if u.head?=some 35 then some ⟨2,0,0,0,some 0⟩ else if(u.head?=some 34\/u.head?=some 39)/\cU u=0 then none else
  some (sR u (eO u) (cE u (eI (eO u))) (dZ u (cE u (eI (eO u))+cU (u.drop (cE u (eI (eO u)))))))
theorem Dv {t:List UInt8}{k:Nat}{c:UInt8} (h:gN t k c=true):t[k]?=some c/\k<t.length:=by
 unfold gN at h;rw[fK,beq_iff_eq] at h;exact⟨h.1,(aR.1 h.1).1⟩
theorem Kq (t:List UInt8) (c:Nat): ∀(f k:Nat),qU t c f k=(5,0)\/ ∃j,qU t c f k=(4,j)/\k<=j/\j<c/\gN t j 58=true
 | 0,_=> .inl rfl
 | f+1,k=>by
  unfold qU;split
  ·exact .inl rfl
  ·split
   ·exact .inr ⟨k,rfl,aD _,a_,l_⟩
   ·rcases Kq t c f (k+1) with h | ⟨j,h1,h2,h3⟩
    ·exact .inl h
    ·exact .inr ⟨j,h1,a_,h3⟩
theorem Dw (u:List UInt8) (hq: ¬((u.head?=some 34\/u.head?=some 39)/\cU u=0)):
  (eO u=(3,0)/\u[0]?=some 45)\/eO u=(5,0)\/ ∃k,eO u=(4,k)/\1<=k/\k<u.length/\u[k]?=some 58:=by
 unfold eO;split
 ·exact .inl ⟨rfl,(Dv l_).1⟩
 ·split
  ·rename_i d;split
   ·rename_i b;have:=Dv b;exact .inr (.inr ⟨_,rfl,by have:cU u≠0:=λh=>hq ⟨d,h⟩;omega,this.2,this.1⟩)
   ·exact .inr (.inl rfl)
  ·split
   ·exact .inr (.inl rfl)
   ·rcases Kq u (dZ u 0) u.length 1 with h | ⟨j,e,a,h3,c⟩
    ·exact .inr (.inl h)
    ·have:=Dv c;exact .inr (.inr ⟨j,e,a,this.2,this.1⟩)
structure Vj (u:List UInt8) (c:sQ):Prop where
 kind:1<=c.kind/\c.kind<=5
 key:c.kind=4->1<=c.key/\c.key<u.length/\u[c.key]?=some 58
 item:c.kind=3->u[0]?=some 45
 ord:eI (c.kind,c.key)<=c.rf/\c.rf<=c.rt/\c.rt<=u.length
 ahead: ∀i,eI (c.kind,c.key)<=i->i<c.rf->u[i]?=some 32
 note: ∀k,c.nf=some k->c.rt<=k/\k<u.length/\u[k]?=some 35
 behind: ∀i,c.rt<=i->i<c.nf.getD u.length->u[i]?=some 32
 ends:c.rf=c.rt\/(u[c.rf]?≠some 32/\u[c.rt-1]?≠some 32)
theorem Dx (u:List UInt8) (f:Nat) (hf:f<=u.length):f<=cE u f/\cE u f<=u.length/\(∀i,f<=i->i<cE u f->u[i]?=some 32)/\u[cE u f]?≠some 32:=by
 have a:=jU (u.drop f);rw[aU] at a;unfold cE;refine⟨a_,a_,λi h2 h3=>?_,?_⟩
 ·have:=nV (u.drop f) (i-f) a_;rw[kR,show f+(i-f)=i by omega] at this;exact this
 ·have:=nW (u.drop f);rw[kR] at this;exact this
theorem Kr (u:List UInt8) (c:sQ) (h:fQ u=some c):Vj u c:=by
 unfold fQ at h;split at h
 ·rename_i o;subst o;injection h with h;subst h;exact⟨e_,λh=>E0,λh=>E0,by simp[eI],λi l b=>(by simp at b),λk a=>(by cases a),λi l b=>(by simp at b), .inl rfl⟩
 ·rename_i o;split at h
  ·rename_i d;injection h with h;subst h;rw[List.head?_eq_getElem?] at d;have:=(aR.1 d).1;exact⟨e_,λh=>E0,λh=>E0,by simp[eI],λi l b=>(by simp at b),λk a=>(by injection a with a;subst a;exact⟨aD _,this,d⟩),λi l b=>(by simp at b), .inl rfl⟩
  ·rename_i d;split at h
   ·cases h
   ·rename_i x;injection h with h;have f:=Dw u x;obtain⟨H,w⟩:=exQ<|eO u;rw[w] at h f;have hul:0<u.length:=qV.2 o;have t:eI H<=u.length:=by
     unfold eI;rcases f with⟨rfl,_⟩ | rfl | ⟨k,rfl,_,a,_⟩
     ·simp;omega
     ·simp
     ·simp;omega
    obtain⟨b1,b2,b3,b4⟩:=Dx u (eI H) t;obtain⟨f2,p⟩:=exQ<|cE u (eI H);rw[p] at h b1 b2 b3 b4;obtain⟨n1,n2,_⟩:=uF u (f2+cU (u.drop f2));obtain⟨tw,n⟩:=exQ<|dZ u (f2+cU (u.drop f2));rw[n] at h n1 n2;have hft:f2<=tw:=by
     by_cases m:tw<u.length
     ·have:=(n2 m).1;omega
     ·omega
    subst h;obtain⟨M,q⟩:=exQ<|(u.take tw).drop f2;have hMl:M.length=tw-f2:=(by rw[<-q,aU,bT,Nat.min_eq_left n1]);have j: ∀i,i<tw-f2->M[i]?=u[f2+i]?:=λi hi=>by
     rw[<-q,kR,List.getElem?_take,if_pos a_]
    have t1:=zZ M;unfold sR;rw[q];refine⟨?_,?_,?_,?_,b3,?_,?_,?_⟩
    ·rcases f with⟨rfl,_⟩ | rfl | ⟨k,rfl,_,a,_⟩<;>simp
    ·intro s;rcases f with⟨rfl,_⟩ | rfl | ⟨k,rfl,g,a,e⟩
     ·cases s
     ·cases s
     ·exact⟨g,a,e⟩
    ·intro r;rcases f with⟨rfl,v⟩ | rfl | ⟨k,rfl,g,a,e⟩
     ·exact v
     ·cases r
     ·cases r
    ·exact⟨b1,by simp only[];omega,by simp only[];omega⟩
    ·intro k a;simp only[] at a ⊢;split at a
     ·rename_i m;injection a with a;subst a;exact⟨a_,m,(n2 m).2.1⟩
     ·cases a
    ·intro i l b;simp only[] at l b;have hto2:i<tw:=by
      split at b
      ·simpa using b
      ·simp at b;omega
     have:=Km M (i-f2) a_ a_;rw[j _ a_,show f2+(i-f2)=i by omega] at this;exact this
    ·by_cases ht:jK M=0
     ·left;simp only[];omega
     ·right;simp only[];have:=Kn M a_;rw[j _ a_] at this;exact⟨b4,by rw[show f2+jK M-1=f2+(jK M-1) by omega];exact this⟩
structure aP where
 kind:Int
 sf:Int
 st:Int
 ind:Int
 kf:Int
 kt:Int
 rf:Int
 rt:Int
 nf:Int
 nt:Int
def aW:aP:=⟨0,0,0,0,0,0,0,0,0,0⟩
def oV (a b:Int) (n:Nat) (c:sQ):aP:=
 ⟨c.kind,a,b,n,if c.kind=4 then a+n else 0,if c.kind=4 then a+n+c.key else 0,a+n+c.rf,a+n+c.rt,match c.nf with | some k=>a+n+k | none=>0,match c.nf with | some _=>b | none=>0⟩
def eZ (s:List UInt8) (a b:Int):aP×Int×Int:=
 if a<0\/b<a\/(s.length:Int)<b then(aW,0,1) else
 let t:=(s.drop a.toNat).take (b-a).toNat
 if t.contains 10 then(aW,0,1) else
 if cX true t<t.length then(aW,a+cX true t,2) else
 match fQ (t.drop (aX t)) with
 | none=>(aW,a+aX t,2)
 | some c=>(oV a b (aX t) c,b,0)
end
section
open Go.RowKit
open Go.Lib hiding intOf
def xN (r:Int) (n:Nat):Bool:=decide (r<32)||(r==65533&&n==1)||r==127
theorem Vk (c:UInt8) (r:List UInt8):(iF (decodeL (c::r))||c==127)=xN ((decodeL (c::r)).1:Int) (decodeL (c::r)).2:=by
 unfold xN iF;have a:(c==127)=(((decodeL (c::r)).1:Int)==127):=by
  by_cases hc:c.toNat<128
  ·rw[decodeL_ascii c r hc];simp only[];rw[Bool.eq_iff_iff,beq_iff_eq,beq_iff_eq];constructor
   ·rintro rfl;rfl
   ·intro h;exact UInt8.toNat_inj.1 (by show c.toNat=127;omega)
  ·have b:((decodeL (c::r)).1:Int)≠127:=by
    have:=Ch (c::r).length ((c::r).getD 0 0).toNat ((c::r).getD 1 0).toNat ((c::r).getD 2 0).toNat ((c::r).getD 3 0).toNat h_ (UInt8.toNat_lt _);rw[<-decodeL_N] at this;omega
   rw[aE.2 b,aE.2 (by rintro rfl;exact hc b_)]
 rw[a];congr 1;rw[Bool.eq_iff_iff];simp only[Bool.or_eq_true,jS,fK,beq_iff_eq];omega
def Wr (del:Bool) (l:List UInt8) (p W:Nat):Prop:= ∃f,l.length<=p+f/\sO del f (l.drop p) p=W
theorem Wr.zero (del:Bool) (l:List UInt8):Wr del l 0 (cX del l):=⟨l.length,a_,by rw[List.drop_zero];rfl⟩
theorem Wr.fin {del:Bool}{l:List UInt8}{p W:Nat} (h:Wr del l p W) (hp:l.length<=p):W=p:=my
theorem Wr.step {del:Bool}{l:List UInt8}{p W:Nat} (h:Wr del l p W) (hp:p<l.length):
  ((iF (decodeL (l.drop p))||(del&&l[p]'hp==127))=true->W=p)/\((iF (decodeL (l.drop p))||(del&&l[p]'hp==127))=false->Wr del l (p+(decodeL (l.drop p)).2) W):=by
 obtain⟨f,h1,a⟩:=h;obtain⟨g,rfl⟩: ∃g,f=g+1:=⟨f-1,a_⟩;have c:=fL hp;rw[c] at a ⊢;rw[Vh] at a;refine⟨λb=>?_,λb=>?_⟩
 ·rw[if_pos b] at a;exact a.symm
 ·rw[if_neg (by rw[b];simp)] at a;have hw:=decodeL_width (l[p]'hp::l.drop (p+1));refine⟨g,a_,?_⟩;rw[<-c,jJ,c] at a;exact a
def uG (l:List UInt8):Int×Bool:=if cX true l<l.length then((cX true l:Int),true) else(0,false)
theorem Ab {l:List UInt8}{p:Nat} (h:cX true l=p) (hp:p<l.length):uG l=((p:Int),true):=by unfold uG;rw[h,if_pos hp]
theorem Ks {l:List UInt8} (h:cX true l=l.length):uG l=(0,false):=by unfold uG;rw[h,if_neg a_]
theorem Dy (l:List UInt8) (i:Nat) (w:World) (hi:i<l.length) (hT:cW w):
  Calls Tryz.prog 84 #[((bs l).extract i l.length)] w λe w'=>e= .returned (.tuple #[.int .i32 (bL (bs l) i),(bG (bs l) i)])/\Below w.heap.size w w':=by
 have h:=Ce (bs l) i w (by rw[aM];exact hi) hT;rw[aM] at h;exact h
theorem Ac {k:Int}{b:Bool}{R:Int×Bool} (h:R=(k,b)):Ending.returned (.tuple #[k,b])= .returned (.tuple #[R.1,R.2]):=by rw[h]
theorem Wr.rune {l:List UInt8}{p W:Nat} (h:Wr true l p W) (hp:p<l.length):
  (xN (bL (bs l) p) (bG (bs l) p)=true->W=p)/\(xN (bL (bs l) p) (bG (bs l) p)=false->Wr true l (p+bG (bs l) p) W):=by
 have b:=h.step hp;have c:=mB (bs l) p;rw[aQ] at c;have a:=Vk (l[p]'hp) (l.drop (p+1));rw[<-fL hp] at a;rw[Bool.true_and,a,c] at b;exact b
theorem Kt (l:List UInt8) (w:World) (hs:l.length<=1073741824) (hT:cW w):
  Calls Tryz.prog 143 #[bs l] w λe w'=>e= .returned (.tuple #[.int .i64 (uG l).1, .bool (uG l).2])/\Below w.heap.size w w':=by
 have zl:=trivial;exact rl
theorem Vl (l:List UInt8) (i:Nat) (hi:i<l.length) (h:iF (decodeL (l.drop i))=false):
  wX (bL (bs l) i)/\32<=bL (bs l) i/\encodeRune (bL (bs l) i)=(l.drop i).take (bG (bs l) i)/\(bL (bs l) i=65533-> ¬((bG (bs l) i:Nat):Int)=1):=by
 have b:l.drop i≠ []:=by rw[fL hi];exact List.cons_ne_nil _ _
 have e:=mB (bs l) i;rw[aQ] at e;have a:=h;unfold iF at a;simp only[Bool.or_eq_false_iff,decide_eq_false_iff_not,Bool.and_eq_false_iff,aE] at a;have d:=encode_decode (l.drop i) b a_;have c:=Hp (l.drop i);rw[e] at d c a;exact⟨c,by unfold bL;omega,d,λf=>by unfold bL at f;unfold bG;omega⟩
theorem Vm (l:List UInt8) (i:Nat) (hi:i<l.length) (h:iF (decodeL (l.drop i))=true):
  bL (bs l) i<32\/(bL (bs l) i=65533/\bG (bs l) i=1):=by
 have a:=mB (bs l) i;rw[aQ] at a;rw[a] at h;unfold iF at h;simp only[Bool.or_eq_true,jS,fK,beq_iff_eq] at h;unfold bL bG;omega
theorem Vn (l:List UInt8):Lib.hasPrefix l [39]=(l.head?==some 39):=by
 unfold Lib.hasPrefix;cases l with
 | nil=>rfl
 | cons c r=>
  rw[Bool.eq_iff_iff];simp[List.isPrefixOf];exact eq_comm
theorem Ku (l:List UInt8) (a:Int) (w:World) (hs:l.length<=1073741824) (hT:cW w):
  Calls Tryz.prog 148 #[bs l,a] w λe w'=>e=gP (gT l a)/\Below w.heap.size w w':=by
 have v6:=trivial;exact qy
def mF (w:World):Prop:= ∃m:Int,w.cell? ⟨0,0,none⟩=some (.int .i64 m)
theorem mF.keep {w w':World} (h:mF w) (hb:Below w.heap.size w w'):mF w':=let ⟨m,hm⟩:=h;⟨m,by rw[hb.cell (p:=⟨_,_,none⟩) (vE hm)];exact hm⟩
def mG (r:List UInt8×Int):Ending:= .returned (.tuple #[bs r.1,r.2])
end
section
open Go.RowKit
open Go.Lib hiding intOf
theorem Vo (c:Int) (w:World):
  Calls Tryz.prog 129 #[c] w λe w'=>e= .returned (.int .i64 (jH c))/\w=w':=by
 go_enter Tryz.func129,Tryz.ntmps129;go_wp2
 all_goals go_ret
 all_goals (refine⟨Pn (congrArg (Value.int .i64) ?_),rfl⟩;unfold jH;(repeat split)<;>first | rfl | omega)
theorem Kv (c n:Int) (w:World) (h:jH c=n):
  Calls Tryz.prog 129 #[c] w λe w'=>e= .returned (.int .i64 n)/\w=w':=by
 subst h;exact Vo c w
theorem Vp (s:ByteArray) (i:Nat) (n:Int) (w:World) (hi:i<s.size) (hs:s.size<=4611686018427387904)
    (h1:1<=n) (h4:n<=4) (hn:Hid (jH ((s[i]'hi).toNat:Int)=n)) (hfit:n<=(s.size:Int)-i):
    Calls Tryz.prog 92 #[s,i] w λe w'=>e= .returned (.tuple #[.int .i32 (qI s i n).1, .int .i64 (qI s i n).2])/\w=w':=by
  have hb:(s[i]'hi).toNat<256:=(s[i]'hi).toNat_lt;obtain⟨R,f⟩:=exQ<|qI s i n;rw[f];have p:=hid f;clear f;have m:=Ps _ n hn.out a_ a_;have c:=Pt ((s[i]'hi).toNat:Int) n;rcases(show n=1\/n=2\/n=3\/n=4 by omega) with h | h | h | h
  all_goals
    first | have b:=c.1 h | have b:=c.2.1 h | have b:=c.2.2.1 h | have b:=c.2.2.2 h
    have hlo:=Int.le_of_eq h;have hhi:=Int.le_of_eq h.symm;have n0:(n==0)=false:=aE.2 a_
    first | have n2:(n==2)=false:=aE.2 a_ | have n2:(n==2)=true:=beq_iff_eq.2 a_
    first | have n3:(n==3)=false:=aE.2 a_ | have n3:(n==3)=true:=beq_iff_eq.2 a_
    first | have n4:(n==4)=false:=aE.2 a_ | have n4:(n==4)=true:=beq_iff_eq.2 a_
    rw[b] at m;clear c h;have q:=hid b;clear b;go_enter Tryz.func92,Tryz.ntmps92;go_wp2_with (go_at_call 129;refine(Kv _ _ _ hn.out).mono ?_;rintro e w' ⟨rfl,rfl⟩);go_loop [7,8] (λv k=> ∃(j:Nat) (V:Int),1<=j/\(j:Int)<=n/\k= .int .i64 j/\v= .int .i64 V/\0<=V/\Hid (V<rN j)/\Hid (kI s (n.toNat-1) (i+1) (jI (eU s i) n)=kI s (n.toNat-j) (i+j) V)) (λ_ k=>(n-intOf k).toNat)
    case atStart=>exact⟨1,_,a_,a_,rfl,rfl,a_,by unfold Hid rN;simp;omega,by unfold Hid;rw[<-yO s i hi,q.out]⟩
    case round=>
      obtain⟨j,V,o,hj2,rfl,rfl,hV0,l,g⟩:=hrel;by_cases hlt:(j:Int)<n
      · have d:V<1048576:=Int.lt_of_lt_of_le l.out (Po j a_);have a:i+j<s.size:=a_;have hcb:(s[i+j]'a).toNat<256:=(s[i+j]'a).toNat_lt;go_wp2
        all_goals first
          | (go_round
             case rel=>exact⟨j+1,_,a_,a_,q_,rfl,a_,Pp j V _ l.out o a_ a_,Pw g hlt a a_ a_⟩
             case measure=>simp[intOf];omega)
          | (go_ret2;exact⟨Gy (Pu p g hlt a a_),rfl⟩)
      · have d:V<67108864:=by have h:=l.out;unfold rN at h;revert h;(repeat' split)<;>omega
        go_wp2
        all_goals go_ret2
        all_goals
          refine⟨Gy ((Pv p g a_).trans ?_),rfl⟩
          first
            | (rw[show oN n V=true from aO a_];rfl)
            | (rw[show oN n V=false from aG a_];rfl)
theorem Vq (s:ByteArray) (i:Nat) (n:Int) (w:World) (hi:i<s.size) (hs:s.size<=4611686018427387904)
  (h1:0<=n) (h4:n<=4) (hn:Hid (jH ((s[i]'hi).toNat:Int)=n)) (hno:n=0\/(s.size:Int)-i<n):
  Calls Tryz.prog 92 #[s,i] w λe w'=>e= .returned (.tuple #[.int .i32 65533,(1:Int)])/\w=w':=by
 have hb:(s[i]'hi).toNat<256:=(s[i]'hi).toNat_lt;by_cases h:n=0
 all_goals
  first | have n0:(n==0)=false:=aE.2 a_ | have n0:(n==0)=true:=beq_iff_eq.2 a_
  have b:1<=n->(s.size:Int)-i<n:=λ_=>by omega
  have a:(s.size:Int)-i<n\/n<=0:=a_
  clear hno;rcases a with a | a
  all_goals
   clear h b;go_enter Tryz.func92,Tryz.ntmps92;go_wp2_with (go_at_call 129;refine(Kv _ _ _ hn.out).mono ?_;rintro e w' ⟨rfl,rfl⟩)
   all_goals go_ret2
   all_goals exact⟨rfl,rfl⟩
theorem Vr (s:ByteArray) (i:Nat) (w:World) (hi:i<s.size) (hs:s.size<=4611686018427387904):
  Calls Tryz.prog 92 #[s,i] w λe w'=>e= .returned (.tuple #[.int .i32 (qH s i).1, .int .i64 (qH s i).2])/\w=w':=by
 obtain⟨n,b⟩:=exQ<|jH ((s[i]'hi).toNat:Int);have hc:=Pq ((s[i]'hi).toNat:Int);have a:=b;rw[yO] at a;by_cases h:n=0\/(s.size:Int)-i<n
 ·rw[show qH s i=(65533,1) by unfold qH;simp only[a];rw[if_pos h]];exact Vq s i n w hi hs a_ a_ b h
 ·rw[show qH s i=qI s i n by unfold qH qI;simp only[a];rw[if_neg h]];exact Vp s i n w hi hs a_ a_ b a_
theorem vW (s:ByteArray) (i:Nat) (w:World) (hi:i<s.size) (hs:s.size<=4611686018427387904):
  Calls Tryz.prog 92 #[s,i] w λe w'=>e= .returned (.tuple #[.int .i32 (bL s i),(bG s i)])/\w=w':=by
 have h:=Vr s i w hi hs;rw[Pz s i hi] at h;exact h
theorem vX (s:ByteArray) (i:Nat) (w:World) (hi:i<s.size) (hs:s.size<=4611686018427387904):
  Calls Tryz.prog 91 #[s,i] w λe w'=>e= .returned (.bool (fB s i))/\w=w':=by
 have hw:=lH s i hi;unfold fB;have a:=vW s i w hi hs;generalize bL s i=c at *;generalize bG s i=n at *;have b:=hid a;clear a;by_cases h1:(c==65533)=true
 all_goals
  first | have h1':(c==65533)=false:=by simpa using h1 | skip
  go_enter Tryz.func91,Tryz.ntmps91;go_wp2_with (go_at_call 92;refine b.out.mono ?_;rintro e w' ⟨rfl,rfl⟩)
  all_goals go_ret
  all_goals (refine⟨pL ?_,rfl⟩;simp_all)
end
end Go.Proofs.YtfhjncbdgjlcoaaGreatDoor
