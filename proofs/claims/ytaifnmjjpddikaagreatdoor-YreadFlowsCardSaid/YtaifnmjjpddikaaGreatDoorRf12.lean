import Derived.Test.YtaifnmjjpddikaaGreatDoorRf2
import Derived.Test.YtaifnmjjpddikaaGreatDoorRf3
import Derived.Test.YtaifnmjjpddikaaGreatDoorRf1
import Derived.Lib.ReplaceLaws
import Derived.Lib.SplitLaws
import Derived.Test.YtaifnmjjpddikaaGreatDoorProg
import Derived.Lib.MapLaws
import Derived.Lib.TrimAscii
import Derived.Test.YtaifnmjjpddikaaGreatDoorRf5
import Derived.Deep.RegionLaw
set_option maxRecDepth 100000
set_option maxHeartbeats 4000000
namespace Go.Proofs.YtaifnmjjpddikaaGreatDoor
set_option linter.unusedVariables false
set_option linter.unusedSimpArgs false
section
open Go.Lib
def lA:Nat->List UInt8->Nat->List UInt8->List UInt8×Int×Int
 | 0,_,i,_=>([],(i:Int),2)
 | _+1,[],i,_=>([],(i:Int),2)
 | f+1,c::r,i,acc=>if c=39 then(if r.head?=some 39 then lA f (r.drop 1) (i+2) (acc++ [39]) else(acc,(i:Int)+1,0)) else if fV (decodeL (c::r)) then([],(i:Int),2) else
  lA f ((c::r).drop (decodeL (c::r)).2) (i+(decodeL (c::r)).2) (acc++(c::r).take (decodeL (c::r)).2)
theorem Br (f:Nat) (c:UInt8) (r:List UInt8) (i:Nat) (acc:List UInt8):lA (f+1) (c::r) i acc=if c=39 then(if r.head?=some 39 then lA f (r.drop 1) (i+2) (acc++ [39]) else(acc,(i:Int)+1,0)) else if fV (decodeL (c::r)) then([],(i:Int),2) else
  lA f ((c::r).drop (decodeL (c::r)).2) (i+(decodeL (c::r)).2) (acc++(c::r).take (decodeL (c::r)).2):=rfl
def lB (l:List UInt8) (a:Int):List UInt8×Int×Int:=
 if a<0\/(l.length:Int)<a then([],0,2) else if l[a.toNat]?=some 39 then lA (l.length+1) (l.drop (a.toNat+1)) (a.toNat+1) [] else([],a,2)
def mH (del:Bool):Nat->List UInt8->Nat->Nat
 | 0,_,i=>i
 | _+1,[],i=>i
 | f+1,c::r,i=>if fV (decodeL (c::r))||(del&&c==127) then i else mH del f ((c::r).drop (decodeL (c::r)).2) (i+(decodeL (c::r)).2)
theorem Ir (del:Bool) (f:Nat) (c:UInt8) (r:List UInt8) (i:Nat):mH del (f+1) (c::r) i=if fV (decodeL (c::r))||(del&&c==127) then i else mH del f ((c::r).drop (decodeL (c::r)).2) (i+(decodeL (c::r)).2):=rfl
def lC (del:Bool) (l:List UInt8):Nat:=mH del l.length l 0
theorem Is (del:Bool): ∀(f:Nat) (l:List UInt8) (i:Nat),i<=mH del f l i/\mH del f l i<=i+l.length
 | 0,l,i=>⟨aE _,Nat.le_add_right _ _⟩
 | _+1,[],i=>⟨aE _,aE _⟩
 | f+1,c::r,i=>by
  unfold mH;split
  ·exact⟨aE _,Nat.le_add_right _ _⟩
  ·have h:=Is del f ((c::r).drop (decodeL (c::r)).2) (i+(decodeL (c::r)).2);have hl:=decodeL_le (c::r) (List.cons_ne_nil _ _);rw[aV] at h;omega
theorem It (del:Bool): ∀(f:Nat) (l:List UInt8) (i k:Nat),mH del f l (i+k)=mH del f l i+k
 | 0,l,i,k=>rfl
 | _+1,[],i,k=>rfl
 | f+1,c::r,i,k=>by
  unfold mH;split
  ·rfl
  ·rw[show i+k+(decodeL (c::r)).2=(i+(decodeL (c::r)).2)+k by omega];exact It del f _ _ k
theorem Uv (r:Int) (h:mB r) (h32:32<=r) (t:List UInt8):decodeL (encodeRune r++t)=(r.toNat,(encodeRune r).length)/\fV (decodeL (encodeRune r++t))=false:=by
 have hd:=zT r h t;refine⟨hd,?_⟩;rw[hd];unfold fV;simp only[Bool.or_eq_false_iff,decide_eq_false_iff_not,Bool.and_eq_false_iff,aG];refine⟨by omega,?_⟩;by_cases h3:r=65533
 ·right;have:=Fd r h (by omega);omega
 ·left;omega
theorem Iu:encodeRune 39= [39]:=by decide
def bQ (l:List UInt8):Nat:=(l.takeWhile (· ==32)).length
def fE (l:List UInt8):Nat:=l.length-bQ l.reverse
theorem mR (l:List UInt8):bQ l<=l.length:=(List.takeWhile_sublist _).length_le
theorem vW (c:UInt8) (l:List UInt8):bQ (c::l)=if c=32 then bQ l+1 else 0:=by
 unfold bQ;rw[List.takeWhile_cons];by_cases h:c=32
 ·rw[if_pos (by simp[h]),if_pos h];rfl
 ·rw[if_neg (by simp[h]),if_neg h];rfl
theorem vX: ∀(l:List UInt8) (i:Nat),i<bQ l->l[i]?=some 32
 | [],i,h=>by simp[bQ] at h
 | c::l,i,h=>by
  rw[vW] at h;by_cases hc:c=32
  ·rw[if_pos hc] at h;cases i with
   | zero=>rw[hc];rfl
   | succ i=>rw[cD];exact vX l i (by omega)
  ·rw[if_neg hc] at h;omega
theorem vY: ∀(l:List UInt8),l[bQ l]?≠some 32
 | []=>by simp
 | c::l=>by
  rw[vW];by_cases hc:c=32
  ·rw[if_pos hc,cD];exact vY l
  ·rw[if_neg hc];simpa using hc
theorem vZ (l:List UInt8):fE l<=l.length:=Nat.sub_le _ _
theorem Iv (l:List UInt8) (i:Nat) (h:fE l<=i) (hi:i<l.length):l[i]?=some 32:=by
 have h1:=mR l.reverse;rw[List.length_reverse] at h1;unfold fE at h;have h2:=vX l.reverse (l.length-1-i) (by omega);rw[List.getElem?_reverse (by omega)] at h2;rw[show l.length-1-(l.length-1-i)=i by omega] at h2;exact h2
theorem Uw (l:List UInt8) (h:0<fE l):l[fE l-1]?≠some 32:=by
 have h1:=mR l.reverse;rw[List.length_reverse] at h1;have h2:=vY l.reverse;unfold fE at h ⊢;rw[List.getElem?_reverse (by omega)] at h2;rw[show l.length-bQ l.reverse-1=l.length-1-bQ l.reverse by omega];exact h2
def oH (t:List UInt8):Nat->Nat->Nat
 | 0,_=>t.length
 | f+1,i=>if t.length<=i then t.length else if t[i]?=some 35/\t[i-1]?=some 32 then i else oH t f (i+1)
def dX (t:List UInt8) (a:Nat):Nat:=oH t (t.length+1) (max a 1)
theorem Iw (t:List UInt8): ∀(f i:Nat),t.length<i+f->oH t f i<=t.length/\(oH t f i<t.length->i<=oH t f i/\t[oH t f i]?=some 35/\t[oH t f i-1]?=some 32)/\(∀j,i<=j->j<oH t f i-> ¬(t[j]?=some 35/\t[j-1]?=some 32))
 | 0,i,h=>⟨aE _,λh=>absurd h (Nat.lt_irrefl _),λj h1 h2=>by simp[oH] at h2;omega⟩
 | f+1,i,h=>by
  unfold oH;by_cases h1:t.length<=i
  ·rw[if_pos h1];exact⟨aE _,λh=>absurd h (Nat.lt_irrefl _),λj h2 h3=>by omega⟩
  ·rw[if_neg h1];by_cases h2:t[i]?=some 35/\t[i-1]?=some 32
   ·rw[if_pos h2];exact⟨by omega,λ_=>⟨aE _,h2⟩,λj h3 h4=>by omega⟩
   ·rw[if_neg h2];obtain⟨g1,g2,g3⟩:=Iw t f (i+1) (by omega);refine⟨g1,λh=>⟨by have:=(g2 h).1;omega,(g2 h).2⟩,λj h3 h4=>?_⟩;by_cases hj:j=i
    ·rw[hj];exact h2
    ·exact g3 j (by omega) h4
theorem wA (t:List UInt8) (a:Nat):dX t a<=t.length/\(dX t a<t.length->max a 1<=dX t a/\t[dX t a]?=some 35/\t[dX t a-1]?=some 32)/\(∀j,max a 1<=j->j<dX t a-> ¬(t[j]?=some 35/\t[j-1]?=some 32)):=
 Iw t (t.length+1) (max a 1) (by omega)
theorem xZ (t:List UInt8) (a k:Nat) (h1:k<=t.length) (h2:k<t.length->max a 1<=k/\t[k]?=some 35/\t[k-1]?=some 32) (h3: ∀j,max a 1<=j->j<k-> ¬(t[j]?=some 35/\t[j-1]?=some 32)):dX t a=k:=by
 obtain⟨g1,g2,g3⟩:=wA t a;rcases Nat.lt_trichotomy (dX t a) k with h | h | h
 ·have:=g2 (by omega);exact absurd this.2 (h3 _ this.1 h)
 ·exact h
 ·have:=h2 (by omega);exact absurd this.2 (g3 _ this.1 h)
theorem yA (n i:Nat) (u:List UInt8):(List.replicate n (32:UInt8)++u)[n+i]?=u[i]?:=by
 rw[kX (by rw[List.length_replicate];omega),List.length_replicate];congr 1;omega
theorem Ux (n a:Nat) (u:List UInt8) (h0:u.head?≠some 35):dX (List.replicate n 32++u) (n+a)=n+dX u a:=by
 obtain⟨g1,g2,g3⟩:=wA u a;have hlen:(List.replicate n (32:UInt8)++u).length=n+u.length:=by rw[aS,List.length_replicate]
 refine xZ _ _ _ (by rw[hlen];omega) (λh=>?_) (λj h1 h2=>?_)
 ·rw[hlen] at h;obtain⟨k1,k2,k3⟩:=g2 (by omega);refine⟨by omega,by rw[yA];exact k2,?_⟩;rw[show n+dX u a-1=n+(dX u a-1) by omega,yA];exact k3
 ·obtain⟨i,rfl⟩: ∃i,j=n+i:=⟨j-n,by omega⟩;rw[yA];rintro⟨e1,e2⟩;cases i with
  | zero=>rw[List.head?_eq_getElem?] at h0;exact h0 e1
  | succ i=>
   rw[show n+(i+1)-1=n+i by omega,yA] at e2;exact g3 (i+1) (by omega) (by omega) ⟨e1,e2⟩
def jU (t:List UInt8) (k:Nat) (c:UInt8):Bool:=t[k]?==some c&&(t[k+1]?==none||t[k+1]?==some 32)
def dY (t:List UInt8):Nat:=
 if t.head?=some 34 then(if(mA t 0).2=0 then(mA t 0).1.toNat else 0) else if t.head?=some 39 then(if(lB t 0).2.2=0 then(lB t 0).2.1.toNat else 0) else 0
def qZ (t:List UInt8) (c:Nat):Nat->Nat->Nat×Nat
 | 0,_=>(5,0)
 | f+1,k=>if c<=k then(5,0) else if jU t k 58 then(4,k) else qZ t c f (k+1)
def iP (t:List UInt8):Nat×Nat:=
 if jU t 0 45 then(3,0) else if t.head?=some 34\/t.head?=some 39 then(if jU t (dY t) 58 then(4,dY t) else(5,0)) else if t.head?=some 91\/t.head?=some 123 then(5,0) else qZ t (dX t 0) t.length 1
structure sE where
 kind:Nat
 key:Nat
 rf:Nat
 rt:Nat
 nf:Option Nat
def gF (h:Nat×Nat):Nat:=if h.1=3 then 1 else if h.1=4 then h.2+1 else 0
def uA (u:List UInt8) (h:Nat×Nat) (f2:Nat) (tw:Nat):sE:=⟨h.1,h.2,f2,f2+fE ((u.take tw).drop f2),if tw<u.length then some tw else none⟩
def cL (u:List UInt8) (f:Nat):Nat:=f+bQ (u.drop f)
def mS (u:List UInt8):Option sE:=
 if u= [] then some ⟨1,0,0,0,none⟩ else if u.head?=some 35 then some ⟨2,0,0,0,some 0⟩ else if(u.head?=some 34\/u.head?=some 39)/\dY u=0 then none else
  some (uA u (iP u) (cL u (gF (iP u))) (dX u (cL u (gF (iP u))+dY (u.drop (cL u (gF (iP u)))))))
theorem yB {t:List UInt8}{k:Nat}{c:UInt8} (h:jU t k c=true):t[k]?=some c/\k<t.length:=by
 unfold jU at h;rw[fB,beq_iff_eq] at h;exact⟨h.1,(aQ.1 h.1).1⟩
theorem Ix (t:List UInt8) (c:Nat): ∀(f k:Nat),qZ t c f k=(5,0)\/ ∃j,qZ t c f k=(4,j)/\k<=j/\j<c/\jU t j 58=true
 | 0,_=> .inl rfl
 | f+1,k=>by
  unfold qZ;split
  ·exact .inl rfl
  ·split
   ·exact .inr ⟨k,rfl,aE _,by omega,by assumption⟩
   ·rcases Ix t c f (k+1) with h | ⟨j,h1,h2,h3⟩
    ·exact .inl h
    ·exact .inr ⟨j,h1,by omega,h3⟩
theorem Iy (u:List UInt8) (hq: ¬((u.head?=some 34\/u.head?=some 39)/\dY u=0)):
  (iP u=(3,0)/\u[0]?=some 45)\/iP u=(5,0)\/ ∃k,iP u=(4,k)/\1<=k/\k<u.length/\u[k]?=some 58:=by
 unfold iP;split
 ·exact .inl ⟨rfl,(yB (by assumption)).1⟩
 ·split
  ·rename_i hh;split
   ·rename_i hs;have:=yB hs;exact .inr (.inr ⟨_,rfl,by have:dY u≠0:=λh=>hq ⟨hh,h⟩;omega,this.2,this.1⟩)
   ·exact .inr (.inl rfl)
  ·split
   ·exact .inr (.inl rfl)
   ·rcases Ix u (dX u 0) u.length 1 with h | ⟨j,h1,h2,h3,h4⟩
    ·exact .inr (.inl h)
    ·have:=yB h4;exact .inr (.inr ⟨j,h1,h2,this.2,this.1⟩)
structure Uy (u:List UInt8) (c:sE):Prop where
 kind:1<=c.kind/\c.kind<=5
 key:c.kind=4->1<=c.key/\c.key<u.length/\u[c.key]?=some 58
 item:c.kind=3->u[0]?=some 45
 ord:gF (c.kind,c.key)<=c.rf/\c.rf<=c.rt/\c.rt<=u.length
 ahead: ∀i,gF (c.kind,c.key)<=i->i<c.rf->u[i]?=some 32
 note: ∀k,c.nf=some k->c.rt<=k/\k<u.length/\u[k]?=some 35
 behind: ∀i,c.rt<=i->i<c.nf.getD u.length->u[i]?=some 32
 ends:c.rf=c.rt\/(u[c.rf]?≠some 32/\u[c.rt-1]?≠some 32)
theorem Iz (u:List UInt8) (f:Nat) (hf:f<=u.length):f<=cL u f/\cL u f<=u.length/\(∀i,f<=i->i<cL u f->u[i]?=some 32)/\u[cL u f]?≠some 32:=by
 have h1:=mR (u.drop f);rw[aV] at h1;unfold cL;refine⟨by omega,by omega,λi h2 h3=>?_,?_⟩
 ·have:=vX (u.drop f) (i-f) (by omega);rw[iI,show f+(i-f)=i by omega] at this;exact this
 ·have:=vY (u.drop f);rw[iI] at this;exact this
theorem Ja (u:List UInt8) (c:sE) (h:mS u=some c):Uy u c:=by
 unfold mS at h;split at h
 ·rename_i hu;subst hu;injection h with h;subst h;exact⟨by simp,λh=>(by cases h),λh=>(by cases h),by simp[gF],λi h1 h2=>(by simp at h2),λk hk=>(by cases hk),λi h1 h2=>(by simp at h2), .inl rfl⟩
 ·rename_i hu;split at h
  ·rename_i h35;injection h with h;subst h;rw[List.head?_eq_getElem?] at h35;have:=(aQ.1 h35).1;exact⟨by simp,λh=>(by cases h),λh=>(by cases h),by simp[gF],λi h1 h2=>(by simp at h2),λk hk=>(by injection hk with hk;subst hk;exact⟨aE _,this,h35⟩),λi h1 h2=>(by simp at h2), .inl rfl⟩
  ·rename_i h35;split at h
   ·cases h
   ·rename_i hq;injection h with h;have hs:=Iy u hq;obtain⟨H,hH⟩:=exQ<|iP u;rw[hH] at h hs;have hul:0<u.length:=tJ.2 hu;have hf:gF H<=u.length:=by
     unfold gF;rcases hs with⟨rfl,_⟩ | rfl | ⟨k,rfl,_,hk,_⟩
     ·simp;omega
     ·simp
     ·simp;omega
    obtain⟨b1,b2,b3,b4⟩:=Iz u (gF H) hf;obtain⟨f2,hf2⟩:=exQ<|cL u (gF H);rw[hf2] at h b1 b2 b3 b4;obtain⟨n1,n2,_⟩:=wA u (f2+dY (u.drop f2));obtain⟨tw,hto⟩:=exQ<|dX u (f2+dY (u.drop f2));rw[hto] at h n1 n2;have hft:f2<=tw:=by
     by_cases hl:tw<u.length
     ·have:=(n2 hl).1;omega
     ·omega
    subst h;obtain⟨M,hM⟩:=exQ<|(u.take tw).drop f2;have hMl:M.length=tw-f2:=(by rw[<-hM,aV,cF,Nat.min_eq_left n1]);have hMi: ∀i,i<tw-f2->M[i]?=u[f2+i]?:=λi hi=>by
     rw[<-hM,iI,List.getElem?_take,if_pos (by omega)]
    have t1:=vZ M;unfold uA;rw[hM];refine⟨?_,?_,?_,?_,b3,?_,?_,?_⟩
    ·rcases hs with⟨rfl,_⟩ | rfl | ⟨k,rfl,_,hk,_⟩<;>simp
    ·intro h4;rcases hs with⟨rfl,_⟩ | rfl | ⟨k,rfl,hk1,hk,hk3⟩
     ·cases h4
     ·cases h4
     ·exact⟨hk1,hk,hk3⟩
    ·intro h3;rcases hs with⟨rfl,h0⟩ | rfl | ⟨k,rfl,hk1,hk,hk3⟩
     ·exact h0
     ·cases h3
     ·cases h3
    ·exact⟨b1,by simp only[];omega,by simp only[];omega⟩
    ·intro k hk;simp only[] at hk ⊢;split at hk
     ·rename_i hl;injection hk with hk;subst hk;exact⟨by omega,hl,(n2 hl).2.1⟩
     ·cases hk
    ·intro i h1 h2;simp only[] at h1 h2;have hto2:i<tw:=by
      split at h2
      ·simpa using h2
      ·simp at h2;omega
     have:=Iv M (i-f2) (by omega) (by omega);rw[hMi _ (by omega),show f2+(i-f2)=i by omega] at this;exact this
    ·by_cases ht:fE M=0
     ·left;simp only[];omega
     ·right;simp only[];have:=Uw M (by omega);rw[hMi _ (by omega)] at this;exact⟨b4,by rw[show f2+fE M-1=f2+(fE M-1) by omega];exact this⟩
structure aP where
 kind:Int
 sf:Int
 st:Int
 ind:Int
 kf:Int
 kt:Int
 rf:Int
 rt:Int
 nf:Int
 nt:Int
def cT:aP:=⟨0,0,0,0,0,0,0,0,0,0⟩
def oI (a b:Int) (n:Nat) (c:sE):aP:=
 ⟨c.kind,a,b,n,if c.kind=4 then a+n else 0,if c.kind=4 then a+n+c.key else 0,a+n+c.rf,a+n+c.rt,match c.nf with | some k=>a+n+k | none=>0,match c.nf with | some _=>b | none=>0⟩
def eL (s:List UInt8) (a b:Int):aP×Int×Int:=
 if a<0\/b<a\/(s.length:Int)<b then(cT,0,1) else
 let t:=(s.drop a.toNat).take (b-a).toNat
 if t.contains 10 then(cT,0,1) else
 if lC true t<t.length then(cT,a+lC true t,2) else
 match mS (t.drop (bQ t)) with
 | none=>(cT,a+bQ t,2)
 | some c=>(oI a b (bQ t) c,b,0)
theorem Uz (n:Nat) (s:List UInt8):bQ (List.replicate n 32++s)=n+bQ s:=by
 induction n with
 | zero=>simp
 | succ n ih=>rw[List.replicate_succ,dH,vW,if_pos rfl,ih];omega
end
section
open Go.RowKit
open Go.Lib hiding intOf
def wC (r:Int) (n:Nat):Bool:=decide (r<32)||(r==65533&&n==1)||r==127
theorem Va (c:UInt8) (r:List UInt8):(fV (decodeL (c::r))||c==127)=wC ((decodeL (c::r)).1:Int) (decodeL (c::r)).2:=by
 unfold wC fV;have h127:(c==127)=(((decodeL (c::r)).1:Int)==127):=by
  by_cases hc:c.toNat<128
  ·rw[decodeL_ascii c r hc];simp only[];rw[Bool.eq_iff_iff,beq_iff_eq,beq_iff_eq];constructor
   ·rintro rfl;rfl
   ·intro h;exact UInt8.toNat_inj.1 (by show c.toNat=127;omega)
  ·have hf:((decodeL (c::r)).1:Int)≠127:=by
    have:=Qa (c::r).length ((c::r).getD 0 0).toNat ((c::r).getD 1 0).toNat ((c::r).getD 2 0).toNat ((c::r).getD 3 0).toNat (by simp;omega) (UInt8.toNat_lt _);rw[<-decodeL_N] at this;omega
   rw[aG.2 hf,aG.2 (by rintro rfl;exact hc (by decide))]
 rw[h127];congr 1;rw[Bool.eq_iff_iff];simp only[Bool.or_eq_true,kY,fB,beq_iff_eq];omega
def Wr (del:Bool) (l:List UInt8) (p W:Nat):Prop:= ∃f,l.length<=p+f/\mH del f (l.drop p) p=W
theorem Wr.zero (del:Bool) (l:List UInt8):Wr del l 0 (lC del l):=⟨l.length,by omega,by rw[List.drop_zero];rfl⟩
theorem Wr.fin {del:Bool}{l:List UInt8}{p W:Nat} (h:Wr del l p W) (hp:l.length<=p):W=p:=by
 obtain⟨f,_,h2⟩:=h;rw[List.drop_of_length_le hp] at h2;rw[<-h2];cases f<;>rfl
theorem Wr.step {del:Bool}{l:List UInt8}{p W:Nat} (h:Wr del l p W) (hp:p<l.length):
  ((fV (decodeL (l.drop p))||(del&&l[p]'hp==127))=true->W=p)/\((fV (decodeL (l.drop p))||(del&&l[p]'hp==127))=false->Wr del l (p+(decodeL (l.drop p)).2) W):=by
 obtain⟨f,h1,h2⟩:=h;obtain⟨g,rfl⟩: ∃g,f=g+1:=⟨f-1,by omega⟩;have hd:=iK hp;rw[hd] at h2 ⊢;rw[Ir] at h2;refine⟨λhb=>?_,λhb=>?_⟩
 ·rw[if_pos hb] at h2;exact h2.symm
 ·rw[if_neg (by rw[hb];simp)] at h2;have hw:=decodeL_width (l[p]'hp::l.drop (p+1));refine⟨g,by omega,?_⟩;rw[<-hd,kB,hd] at h2;exact h2
def sF (l:List UInt8):Int×Bool:=if lC true l<l.length then((lC true l:Int),true) else(0,false)
theorem yC {l:List UInt8}{p:Nat} (h:lC true l=p) (hp:p<l.length):sF l=((p:Int),true):=by unfold sF;rw[h,if_pos hp]
theorem Jb {l:List UInt8} (h:lC true l=l.length):sF l=(0,false):=by unfold sF;rw[h,if_neg (by omega)]
theorem Bs (l:List UInt8) (i:Nat) (w:World) (hi:i<l.length) (hT:cC w):
  Calls Tryz.prog 111 #[.string ((bs l).extract i l.length)] w λe w'=>e= .returned (.tuple #[.int .i32 (bT (bs l) i), .int .i64 (bK (bs l) i)])/\Below w.heap.size w w':=by
 have h:=zQ (bs l) i w (by rw[aR];exact hi) hT;rw[aR] at h;exact h
theorem yD {k:Int}{b:Bool}{R:Int×Bool} (h:R=(k,b)):Ending.returned (.tuple #[.int .i64 k, .bool b])= .returned (.tuple #[.int .i64 R.1, .bool R.2]):=by rw[h]
theorem Wr.rune {l:List UInt8}{p W:Nat} (h:Wr true l p W) (hp:p<l.length):
  (wC (bT (bs l) p) (bK (bs l) p)=true->W=p)/\(wC (bT (bs l) p) (bK (bs l) p)=false->Wr true l (p+bK (bs l) p) W):=by
 have hs:=h.step hp;have hd:=nM (bs l) p;rw[aU] at hd;have hb:=Va (l[p]'hp) (l.drop (p+1));rw[<-iK hp] at hb;rw[Bool.true_and,hb,hd] at hs;exact hs
theorem Jc (l:List UInt8) (w:World) (hs:l.length<=1073741824) (hT:cC w):
  Calls Tryz.prog 149 #[.string (bs l)] w λe w'=>e= .returned (.tuple #[.int .i64 (sF l).1, .bool (sF l).2])/\Below w.heap.size w w':=by
 have sl:=aR l;obtain⟨R,hR⟩:=exQ<|sF l;rw[hR];have HR:=hid hR;have HT:=hid hT;clear hR hT;go_enter Tryz.func149,Tryz.ntmps149;go_wp2_with fail;go_loopw [4] (λ_ wr=> ∃p:Nat,p<=l.length/\Hid (Wr true l p (lC true l))/\Hid (wr.heap[w.heap.size]?=some (.stringIter (bs l) p))/\Hid (Below w.heap.size w wr)) (λ_ wr=>l.length-wr.iterPos w.heap.size)
 case atStart=>exact⟨0,by omega,Wr.zero true l,World.iter_heap w (bs l) 0,(aB _ _).alloc (aE _) _⟩
 case round=>
  obtain⟨p,hp,HB,HI,HW⟩:=hrel;by_cases hlt:p<l.length
  ·have hlt':p<(bs l).size:=(by omega);have hw:=pL (bs l) p hlt';have hrb:=qO (bs l) p;have hnx: ∀ty,(Instr.next (.pointer (some ⟨w.heap.size,0,none⟩)) true ty).run Tryz.prog wr= .ok (.tuple #[.bool true, .int .i64 p, .int .i32 (bT (bs l) p)]) (wr.iterAt w.heap.size (bs l) (p+bK (bs l) p)):=λty=>Lib.run_next_any_at wr _ (bs l) p ty HI.out hlt';have HI2:=hid (Lib.iterAt_heap wr w.heap.size (bs l) p (p+bK (bs l) p) HI.out);have HW2:=hid (Lib.below_iterAt HW.out (aE w.heap.size) (bs l) (p+bK (bs l) p));have hT2:=HT.out.keep HW2.out;have HM:=hid (iterPos_of HI.out);have HM2:=hid (iterPos_of HI2.out);obtain⟨hyes,hno⟩:=HB.out.rune hlt;have CD:=hid (Bs l p _ hlt hT2);obtain⟨r,hr⟩:=exQ<|bT (bs l) p;obtain⟨n,hn⟩:=exQ<|bK (bs l) p;rw[hr] at hnx hrb CD hyes hno;rw[hn] at hnx hw HI2 HW2 HM2 CD hyes hno;clear hT2 hr hn;unfold wC at hyes hno;by_cases hr1:r=65533
   ·by_cases h1:n=1
    ·have HG:=hid (hyes (by rw[hr1,h1];decide));have hrB:(r==65533)=true:=by rw[hr1];rfl
     have h1B:(((n:Nat):Int)==1)=true:=by rw[h1];rfl
     clear hr1 h1 hyes hno;go_wp2_with fail;(with_reducible refine CD.out.mono ?_);rintro e w1 ⟨rfl,hb⟩;go_wp2_with fail;go_ret2;exact⟨yD (HR.out.symm.trans (yC HG.out hlt)),aC HW2.out hb⟩
    ·have HG:=hid (hno (by rw[hr1,aG.2 h1];decide));have hrB:(r==65533)=true:=by rw[hr1];rfl
     have h1B:(((n:Nat):Int)==1)=false:=aG.2 (by omega);have h3:decide (r<32)=false:=aJ (by omega);have h4:(r==127)=false:=aG.2 (by omega);clear hr1 h1 hyes hno;go_wp2_with fail;(with_reducible refine CD.out.mono ?_);rintro e w1 ⟨rfl,hb⟩;go_wp2_with fail;have HI3:=hid ((hb.block w.heap.size (aF HI2.out)).trans HI2.out);go_roundw
     case rel=>exact⟨p+n,by omega,HG.out,HI3.out,aC HW2.out hb⟩
     case measure=>rw[iterPos_of HI3.out,HM.out];omega
   ·have hrB:(r==65533)=false:=aG.2 hr1;by_cases h3:r<32
    ·have HG:=hid (hyes (by rw[aN h3];rfl));clear hr1 hyes hno;go_wp2_with fail;go_ret2;exact⟨yD (HR.out.symm.trans (yC HG.out hlt)),HW2.out⟩
    ·have hd3:decide (r<32)=false:=aJ h3;by_cases h4:r=127
     ·have HG:=hid (hyes (by rw[h4];simp));have h4B:(r==127)=true:=beq_iff_eq.2 h4;clear hr1 h4 hyes hno;go_wp2_with fail;go_ret2;exact⟨yD (HR.out.symm.trans (yC HG.out hlt)),HW2.out⟩
     ·have HG:=hid (hno (by rw[hd3,hrB,aG.2 h4];rfl));have h4B:(r==127)=false:=aG.2 h4;clear hr1 h4 hyes hno;go_wp2_with fail;go_roundw
      case rel=>exact⟨p+n,by omega,HG.out,HI2.out,HW2.out⟩
      case measure=>rw[HM2.out,HM.out];omega
  ·have hnx: ∀ty,(Instr.next (.pointer (some ⟨w.heap.size,0,none⟩)) true ty).run Tryz.prog wr= .ok (.tuple #[.bool false]) wr:=λty=>Lib.run_next_end_at wr _ (bs l) p ty HI.out (by omega);have HG:=hid (HB.out.fin (by omega));go_wp2_with fail;go_ret2;exact⟨yD (HR.out.symm.trans (Jb (by rw[HG.out];omega))),HW.out⟩
theorem Vb (l:List UInt8) (i:Nat) (hi:i<l.length) (h:fV (decodeL (l.drop i))=false):
  mB (bT (bs l) i)/\32<=bT (bs l) i/\encodeRune (bT (bs l) i)=(l.drop i).take (bK (bs l) i)/\(bT (bs l) i=65533-> ¬((bK (bs l) i:Nat):Int)=1):=by
 have hne:l.drop i≠ []:=by rw[iK hi];exact List.cons_ne_nil _ _
 have hd:=nM (bs l) i;rw[aU] at hd;have hp2:=h;unfold fV at hp2;simp only[Bool.or_eq_false_iff,decide_eq_false_iff_not,Bool.and_eq_false_iff,aG] at hp2;have he:=encode_decode (l.drop i) hne (by omega);have hk:=zU (l.drop i);rw[hd] at he hk hp2;exact⟨hk,by unfold bT;omega,he,λhr=>by unfold bT at hr;unfold bK;omega⟩
theorem Vc (l:List UInt8) (i:Nat) (hi:i<l.length) (h:fV (decodeL (l.drop i))=true):
  bT (bs l) i<32\/(bT (bs l) i=65533/\bK (bs l) i=1):=by
 have hd:=nM (bs l) i;rw[aU] at hd;rw[hd] at h;unfold fV at h;simp only[Bool.or_eq_true,kY,fB,beq_iff_eq] at h;unfold bT bK;omega
theorem Vd (l:List UInt8):Lib.hasPrefix l [39]=(l.head?==some 39):=by
 unfold Lib.hasPrefix;cases l with
 | nil=>rfl
 | cons c r=>
  rw[Bool.eq_iff_iff];simp[List.isPrefixOf];exact eq_comm
theorem Jd (l:List UInt8) (a:Int) (w:World) (hs:l.length<=1073741824) (hT:cC w):
  Calls Tryz.prog 166 #[.string (bs l), .int .i64 a] w λe w'=>e=lL (lB l a)/\Below w.heap.size w w':=by
 have sl:=aR l;obtain⟨R,hR⟩:=exQ<|lB l a;rw[hR];unfold lB at hR;have HT:=hid hT;clear hT;by_cases hout:a<0\/(l.length:Int)<a
 ·rw[if_pos hout] at hR;subst hR;rcases hout with h | h
  ·go_enter Tryz.func166,Tryz.ntmps166;go_wp2_with fail;go_ret3;exact⟨rfl,aB _ _⟩
  ·have hn: ¬a<0:=(by omega);go_enter Tryz.func166,Tryz.ntmps166;go_wp2_with fail;go_ret3;exact⟨rfl,aB _ _⟩
 rw[if_neg hout] at hR;obtain⟨k,rfl⟩: ∃k:Nat,a=k:=⟨a.toNat,by omega⟩;rw[fC] at hR;have hk0:decide ((k:Int)<0)=false:=aJ (by omega);have hk1:decide (l.length<k)=false:=aJ (by omega);have hk2:k<=l.length:=by omega
 clear hout;by_cases h39:l[k]?=some 39
 ·rw [if_pos h39] at hR;have hkl:k<l.length:=(aQ.1 h39).1;have hkl':k<(bs l).size:=by omega
  have t1:((((bs l)[k]'hkl').toNat:Int) !=39)=false:=by
   have:=nO l k hkl';rw[h39] at this;have h2:(bs l)[k]'hkl'=39:=(by simpa using this.symm);rw[h2];rfl
  have t2:((k:Int)==(l.length:Int))=false:=aG.2 (by omega);have HR:=hid hR;clear hR h39;go_enter Tryz.func166,Tryz.ntmps166;go_wp2_with fail;go_loopw [1,8,9] (λs1 _ _ wr=> ∃(i f:Nat) (acc:List UInt8),s1= .int .i64 i/\i<=l.length/\acc.length<=i/\l.length<i+f/\Hid (lA f (l.drop i) i acc=R)/\Hid (lZ w.heap.size w.heap.size acc wr)/\Hid (Below w.heap.size w wr)) (λs1 _ _ _=>l.length-(RowKit.intOf s1).toNat)
  case atStart=>exact⟨k+1,l.length+1,[],by go_num,by omega,by simp,by omega,HR.out,lZ.new w,aH w _⟩
  case round=>
   obtain⟨i,f,acc,rfl,hi,hacc,hf,HG,HBd,HW⟩:=hrel;obtain⟨g,rfl⟩: ∃g,f=g+1:=⟨f-1,by omega⟩;by_cases hlt:i<l.length
   ·have hlt':i<(bs l).size:=(by omega);have hdr:l.drop i=l[i]'hlt::l.drop (i+1):=iK hlt;have hdd:=nM (bs l) i;rw[aU] at hdd;have hg:=HG.out;rw[hdr,Br,<-hdr] at hg;have hwb:=pL (bs l) i hlt';have hrb:=qO (bs l) i;have CD:=hid (λw hT=>Bs l i w hlt hT);have hz:w.heap.size<=wr.heap.size:=HW.out.size;have hpl:=Vb l i hlt;have hpb:=Vc l i hlt;have hw2:(decodeL (l.drop i)).2=bK (bs l) i:=by rw[hdd];rfl
    have h39r:l[i]'hlt=39->bT (bs l) i=39/\bK (bs l) i=1:=λh=>by
     have h1:=decodeL_ascii 39 (l.drop (i+1)) (by decide);rw[hdr,h] at hdd;rw[h1] at hdd;unfold bT bK;rw[<-hdd];exact⟨rfl,rfl⟩
    have hr39:l[i]'hlt≠39->fV (decodeL (l.drop i))=false->bT (bs l) i≠39:=λh hp e=>by
     obtain⟨q1,q2,q3,_⟩:=hpl hp;rw[e,Iu] at q3;have hwp:=hwb.1;rw[hdr] at q3;obtain⟨z,hz⟩: ∃z,bK (bs l) i=z+1:=⟨bK (bs l) i-1,by omega⟩;rw[hz,List.take_succ_cons] at q3;injection q3 with q3 _;exact h q3.symm
    rw[hw2] at hg;obtain⟨rn,hrn⟩:=exQ<|bT (bs l) i;obtain⟨wd,hwd⟩:=exQ<|bK (bs l) i;rw[hrn] at CD hrb hpl hpb h39r hr39;rw[hwd] at CD hwb hpl hpb h39r hg;by_cases hc:l[i]'hlt=39
    ·rw[if_pos hc] at hg;obtain⟨e1,e2⟩:=h39r hc;subst e1 e2;obtain⟨P,hP⟩:=exQ<|Lib.hasPrefix (l.drop (i+1)) [39];have CP:Hid (∀w,Calls Tryz.prog 121 #[.string ((bs l).extract (i+1) l.length), .string ⟨#[39]⟩] w λe w'=>e= .returned (.bool P)/\w=w'):=hid (λw=>by have:=Tryz.strings_HasPrefix ((bs l).extract (i+1) l.length) ⟨#[39]⟩ w;rw[lK _ _ _ rfl,aU,show (⟨#[39]⟩:ByteArray).data.toList= [39] from rfl,hP] at this;rw[lK _ _ _ rfl];exact this.mono λ_ _ ⟨a,b⟩=>⟨a,b.symm⟩);rw[Vd] at hP;clear hdr hdd hpl hpb hw2 h39r hr39 hrn hwd hc;have hi1:(i:Int)+1<=(l.length:Int):=(by omega);cases P with
     | false=>
      rw[if_neg (by simpa using hP)] at hg;have HF:=hid hg;clear hg hP;go_wp2_with fail;(with_reducible refine(CD.out _ (HT.out.keep HW.out)).mono ?_);rintro e w1 ⟨rfl,hb1⟩;have HBd1:=hid (HBd.out.keep hb1);have HW1:=hid (aC HW.out hb1);clear hb1;go_wp2_with (go_at_call 121;refine(CP.out _).mono ?_;rintro e w' ⟨rfl,rfl⟩);refine(Tryz.Builder_String_any_k w.heap.size w.heap.size acc _ HBd1.out HW1.out.size).mono ?_;rintro e W1 ⟨rfl,_,b1,_⟩;go_wp2_with fail;go_ret3;exact⟨by rw[<-HF.out];rfl,HW1.out.trans b1⟩
     | true=>
      have hP':=beq_iff_eq.1 hP;rw[if_pos hP',kB] at hg;have hi2:i+1<l.length:=by
       rw[List.head?_drop] at hP';exact(aQ.1 hP').1
      have HG2:=hid hg;clear hg hP hP';go_wp2_with fail;(with_reducible refine(CD.out _ (HT.out.keep HW.out)).mono ?_);rintro e w1 ⟨rfl,hb1⟩;have HBd1:=hid (HBd.out.keep hb1);have HW1:=hid (aC HW.out hb1);clear hb1;go_wp2_with (go_at_call 121;refine(CP.out _).mono ?_;rintro e w' ⟨rfl,rfl⟩);refine(xD w.heap.size w.heap.size acc 39 _ HBd1.out ⟨by omega,by omega⟩ (by omega) HW1.out.size).mono ?_;rintro e w2 ⟨rfl,h2,b2,_⟩;rw[Iu] at h2;have HBd2:=hid h2;have HW2:=hid (HW1.out.trans b2);clear h2 b2;go_wp2_with fail;go_roundw
      case rel=>exact⟨i+2,g,acc++ [39],by go_num,by omega,by simp;omega,by omega,HG2.out,HBd2.out,HW2.out⟩
      case measure=>simp[RowKit.intOf];omega
    ·rw[if_neg hc] at hg;cases hp:fV (decodeL (l.drop i)) with
     | true=>
      rw[hp,if_pos rfl] at hg;have HF:=hid hg;have hb:=hpb hp;clear hg hp hpb hpl hdr hdd hw2 h39r hr39 hrn hwd hc;by_cases h32:rn<32
      ·clear hb;go_wp2_with fail;(with_reducible refine(CD.out _ (HT.out.keep HW.out)).mono ?_);rintro e w1 ⟨rfl,hb1⟩;go_wp2_with fail;go_ret3;exact⟨by rw[<-HF.out];rfl,aC HW.out hb1⟩
      ·obtain⟨b1,b2⟩:=hb.resolve_left h32;have d32:decide (rn<32)=false:=aJ h32;have t3:(rn==65533)=true:=beq_iff_eq.2 b1;have t4:(((wd:Nat):Int)==1)=true:=beq_iff_eq.2 (by omega);clear hb b1 b2;go_wp2_with fail;(with_reducible refine(CD.out _ (HT.out.keep HW.out)).mono ?_);rintro e w1 ⟨rfl,hb1⟩;go_wp2_with fail;go_ret3;exact⟨by rw[<-HF.out];rfl,aC HW.out hb1⟩
     | false=>
      rw[hp,if_neg (by simp),kB] at hg;obtain⟨q1,q2,q3,q4⟩:=hpl hp;have hn39:=hr39 hc hp;rw[<-q3] at hg;have hel:(encodeRune rn).length<=wd:=by rw[q3,cF];omega
      have HG2:=hid hg;have q10:=q1.1;have q11:=q1.2.1;have d32:decide (rn<32)=false:=aJ (by omega);have t39:(rn==39)=false:=aG.2 hn39;have t5:(rn==65533&&((wd:Nat):Int)==1)=false:=by
       by_cases hx:rn=65533
       ·rw[aG.2 (q4 hx),Bool.and_false]
       ·rw[aG.2 hx];rfl
      clear hg hp hpb hpl hdr hdd hw2 h39r hr39 hrn hwd hc q1 q3 hn39;by_cases hx:rn=65533
      ·have t3:(rn==65533)=true:=beq_iff_eq.2 hx;have t4:(((wd:Nat):Int)==1)=false:=aG.2 (q4 hx);clear q4 hx t5;go_wp2_with fail;(with_reducible refine(CD.out _ (HT.out.keep HW.out)).mono ?_);rintro e w1 ⟨rfl,hb1⟩;have HBd1:=hid (HBd.out.keep hb1);have HW1:=hid (aC HW.out hb1);clear hb1;go_wp2_with fail;refine(xD w.heap.size w.heap.size acc rn _ HBd1.out ⟨q10,q11⟩ (by omega) HW1.out.size).mono ?_;rintro e w2 ⟨rfl,h2,b2,_⟩;have HBd2:=hid h2;have HW2:=hid (HW1.out.trans b2);clear h2 b2;go_wp2_with fail;go_roundw
       case rel=>exact⟨i+wd,g,acc++encodeRune rn,by go_num,by omega,by rw[aS];omega,by omega,HG2.out,HBd2.out,HW2.out⟩
       case measure=>simp[RowKit.intOf];omega
      ·have t3:(rn==65533)=false:=aG.2 hx;clear q4 hx t5;go_wp2_with fail;(with_reducible refine(CD.out _ (HT.out.keep HW.out)).mono ?_);rintro e w1 ⟨rfl,hb1⟩;have HBd1:=hid (HBd.out.keep hb1);have HW1:=hid (aC HW.out hb1);clear hb1;go_wp2_with fail;refine(xD w.heap.size w.heap.size acc rn _ HBd1.out ⟨q10,q11⟩ (by omega) HW1.out.size).mono ?_;rintro e w2 ⟨rfl,h2,b2,_⟩;have HBd2:=hid h2;have HW2:=hid (HW1.out.trans b2);clear h2 b2;go_wp2_with fail;go_roundw
       case rel=>exact⟨i+wd,g,acc++encodeRune rn,by go_num,by omega,by rw[aS];omega,by omega,HG2.out,HBd2.out,HW2.out⟩
       case measure=>simp[RowKit.intOf];omega
   ·have hg:=HG.out;rw[List.drop_of_length_le (by omega)] at hg;have HF:=hid (show ([],(i:Int),2)=R from hg);obtain rfl:i=l.length:=(by omega);clear hg HG;go_wp2_with fail;go_ret3;exact⟨by rw[<-HF.out];rfl,HW.out⟩
 ·rw[if_neg h39] at hR;subst hR;by_cases hkl:k<l.length
  ·have hkl':k<(bs l).size:=(by omega);have t1:((((bs l)[k]'hkl').toNat:Int) !=39)=true:=by
    rw[fH];intro h;apply h39;rw[nO l k hkl'];have:((bs l)[k]'hkl')=39:=UInt8.toNat_inj.1 (by show _=39;omega);rw[this]
   have t2:((k:Int)==(l.length:Int))=false:=aG.2 (by omega);clear h39;go_enter Tryz.func166,Tryz.ntmps166;go_wp2_with fail;go_ret3;exact⟨rfl,aB _ _⟩
  ·obtain rfl:k=l.length:=(by omega);clear h39 hkl;go_enter Tryz.func166,Tryz.ntmps166;go_wp2_with fail;go_ret3;exact⟨rfl,aB _ _⟩
def lD (w:World):Prop:= ∃m:Int,w.cell? ⟨0,0,none⟩=some (.int .i64 m)
theorem lD.keep {w w':World} (h:lD w) (hb:Below w.heap.size w w'):lD w':=let ⟨m,hm⟩:=h;⟨m,by rw[hb.cell (p:=⟨_,_,none⟩) (rK hm)];exact hm⟩
def mT (r:List UInt8×Int):Ending:= .returned (.tuple #[.string (bs r.1), .int .i64 r.2])
theorem Bt (s:ByteArray) (w:World) (hs:s.size<=4611686018427387904) (hT:cC w):
  Calls Tryz.prog 75 #[.string s] w λe w'=>e= .returned (.tuple #[.int .i64 (jN s).1, .bool (jN s).2])/\Below w.heap.size w w':=by
 obtain⟨R,hR⟩:=exQ<|jN s;rw[hR];have HR:=hid hR;clear hR;cases hv:Lib.validD s.data.toList with
 | true=>
  have h0:=On hv;have hc:=Tryz.utf8_ValidString s w (by omega) hT;rw[hv] at hc;clear hv;have HC:=hid hc;clear hc;have H0:=hid h0;clear h0;go_enter Tryz.func75,Tryz.ntmps75;go_wp2_with (go_at_call 110;refine HC.out.mono ?_;rintro e w' ⟨rfl,hb⟩);go_ret2;exact⟨zM (HR.out.symm.trans H0.out),hb⟩
 | false=>
  have hc:=Tryz.utf8_ValidString s w (by omega) hT;rw[hv] at hc;clear hv;have HC:=hid hc;clear hc;go_enter Tryz.func75,Tryz.ntmps75;go_wp2_with (go_at_call 110;refine HC.out.mono ?_;rintro e w1 ⟨rfl,hb1⟩);have hT1:=hT.keep hb1;have hz:=hb1.size;have hw1:Hid (Below w.heap.size w w1):=hb1;obtain⟨hc1,hf1⟩:=Ei hb1;clear hb1 hc1 hf1;go_loopw [4] (λ_ wr=> ∃pos:Nat,pos<=s.size/\Hid (mN s pos)/\Hid (wr.heap[w1.heap.size]?=some (.stringIter s pos))/\Hid (Below w1.heap.size w1 wr)) (λ_ wr=>s.size-wr.iterPos w1.heap.size)
  case atStart=>exact⟨0,by omega,mN.zero s,World.iter_heap w1 s 0,(aB _ _).alloc (aE _) _⟩
  case round=>
   obtain⟨pos,hp,HB,HI,HW⟩:=hrel;by_cases hlt:pos<s.size
   ·have hw:=pL s pos hlt;have hrb:=qO s pos;have hnx: ∀ty,(Instr.next (.pointer (some ⟨w1.heap.size,0,none⟩)) true ty).run Tryz.prog wr= .ok (.tuple #[.bool true, .int .i64 pos, .int .i32 (bT s pos)]) (wr.iterAt w1.heap.size s (pos+bK s pos)):=λty=>Lib.run_next_any_at wr _ s pos ty HI.out hlt;have HI2:=hid (Lib.iterAt_heap wr w1.heap.size s pos (pos+bK s pos) HI.out);have HW2:=hid (Lib.below_iterAt HW.out (aE w1.heap.size) s (pos+bK s pos));have hT2:cC (wr.iterAt w1.heap.size s (pos+bK s pos)):=hT1.keep HW2.out;have HM:=hid (iterPos_of HI.out);have HM2:=hid (iterPos_of HI2.out);by_cases hr:bT s pos=65533
    ·by_cases h1:bK s pos=1
     ·have HG:=hid (Oq hr h1);have hrB:(bT s pos !=65533)=false:=by rw[hr];rfl
      have h1B:(((bK s pos:Nat):Int)==1)=true:=by rw[h1];rfl
      clear hr h1;go_wp2_with (go_at_call 111;refine(zQ s pos _ hlt hT2).mono ?_;rintro e w' ⟨rfl,hb⟩);go_ret2;exact⟨zM (HR.out.symm.trans (HB.out.bad hlt HG.out)),hw1.out.trans ((HW2.out.trans (hb.mono HW2.out.size)).mono hw1.out.size)⟩
     ·have HG:=hid (Op h1);have hrB:(bT s pos !=65533)=false:=by rw[hr];rfl
      have h1B:(((bK s pos:Nat):Int)==1)=false:=aG.2 (by omega);clear hr h1;go_wp2_with (go_at_call 111;refine(zQ s pos _ hlt hT2).mono ?_;rintro e w' ⟨rfl,hb⟩);have HI3:=(hb.block w1.heap.size (aF HI2.out)).trans HI2.out;go_roundw
      case rel=>exact⟨pos+bK s pos,by omega,HB.out.next hlt HG.out,HI3,HW2.out.trans (hb.mono HW2.out.size)⟩
      case measure=>rw[iterPos_of HI3,HM.out];omega
    ·have HG:=hid (Oo hr);have hrB:(bT s pos !=65533)=true:=fH.2 hr;clear hr;go_wp2;go_roundw
     case rel=>exact⟨pos+bK s pos,by omega,HB.out.next hlt HG.out,HI2.out,HW2.out⟩
     case measure=>rw[HM2.out,HM.out];omega
   ·have hnx: ∀ty,(Instr.next (.pointer (some ⟨w1.heap.size,0,none⟩)) true ty).run Tryz.prog wr= .ok (.tuple #[.bool false]) wr:=λty=>Lib.run_next_end_at wr _ s pos ty HI.out hlt;go_wp2;go_ret2;exact⟨zM (HR.out.symm.trans (HB.out.fin (by omega))),hw1.out.trans (HW.out.mono hw1.out.size)⟩
theorem Je (s:ByteArray):(jN s).2=validD s.data.toList:=by
 rw[zL];unfold jN;cases tH s<;>rfl
end
end Go.Proofs.YtaifnmjjpddikaaGreatDoor
