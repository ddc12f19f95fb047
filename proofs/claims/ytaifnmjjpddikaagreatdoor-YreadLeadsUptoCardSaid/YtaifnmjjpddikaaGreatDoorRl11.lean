import Derived.Test.YtaifnmjjpddikaaGreatDoorRl2
import Derived.Test.YtaifnmjjpddikaaGreatDoorRl3
import Derived.Test.YtaifnmjjpddikaaGreatDoorRl1
import Derived.Lib.ReplaceLaws
import Derived.Lib.SplitLaws
import Derived.Test.YtaifnmjjpddikaaGreatDoorProg
import Derived.Lib.MapLaws
import Derived.Lib.TrimAscii
import Derived.Test.YtaifnmjjpddikaaGreatDoorRl4
import Derived.Deep.RegionLaw
set_option maxRecDepth 100000
set_option maxHeartbeats 4000000
namespace Go.Proofs.YtaifnmjjpddikaaGreatDoor
set_option linter.unusedVariables false
set_option linter.unusedSimpArgs false
section
open Go.Lib
def kW:Nat->List UInt8->Nat->List UInt8->List UInt8×Int×Int
 | 0,_,i,_=>([],(i:Int),2)
 | _+1,[],i,_=>([],(i:Int),2)
 | f+1,c::r,i,acc=>if c=39 then(if r.head?=some 39 then kW f (r.drop 1) (i+2) (acc++ [39]) else(acc,(i:Int)+1,0)) else if iW (decodeL (c::r)) then([],(i:Int),2) else
  kW f ((c::r).drop (decodeL (c::r)).2) (i+(decodeL (c::r)).2) (acc++(c::r).take (decodeL (c::r)).2)
theorem yQ (f:Nat) (c:UInt8) (r:List UInt8) (i:Nat) (acc:List UInt8):kW (f+1) (c::r) i acc=if c=39 then(if r.head?=some 39 then kW f (r.drop 1) (i+2) (acc++ [39]) else(acc,(i:Int)+1,0)) else if iW (decodeL (c::r)) then([],(i:Int),2) else
  kW f ((c::r).drop (decodeL (c::r)).2) (i+(decodeL (c::r)).2) (acc++(c::r).take (decodeL (c::r)).2):=rfl
def kD (l:List UInt8) (a:Int):List UInt8×Int×Int:=
 if a<0\/(l.length:Int)<a then([],0,2) else if l[a.toNat]?=some 39 then kW (l.length+1) (l.drop (a.toNat+1)) (a.toNat+1) [] else([],a,2)
def rM (del:Bool):Nat->List UInt8->Nat->Nat
 | 0,_,i=>i
 | _+1,[],i=>i
 | f+1,c::r,i=>if iW (decodeL (c::r))||(del&&c==127) then i else rM del f ((c::r).drop (decodeL (c::r)).2) (i+(decodeL (c::r)).2)
theorem Vw (del:Bool) (f:Nat) (c:UInt8) (r:List UInt8) (i:Nat):rM del (f+1) (c::r) i=if iW (decodeL (c::r))||(del&&c==127) then i else rM del f ((c::r).drop (decodeL (c::r)).2) (i+(decodeL (c::r)).2):=rfl
def mI (del:Bool) (l:List UInt8):Nat:=rM del l.length l 0
theorem Jv (del:Bool): ∀(f:Nat) (l:List UInt8) (i:Nat),i<=rM del f l i/\rM del f l i<=i+l.length
 | 0,l,i=>⟨aE _,Nat.le_add_right _ _⟩
 | _+1,[],i=>⟨aE _,aE _⟩
 | f+1,c::r,i=>by
  unfold rM;split
  ·exact⟨aE _,Nat.le_add_right _ _⟩
  ·have h:=Jv del f ((c::r).drop (decodeL (c::r)).2) (i+(decodeL (c::r)).2);have hl:=decodeL_le (c::r) (List.cons_ne_nil _ _);rw[bB] at h;omega
theorem Jw:encodeRune 39= [39]:=by decide
def bI (l:List UInt8):Nat:=(l.takeWhile (· ==32)).length
def iS (l:List UInt8):Nat:=l.length-bI l.reverse
theorem nV (l:List UInt8):bI l<=l.length:=(List.takeWhile_sublist _).length_le
theorem Ci (c:UInt8) (l:List UInt8):bI (c::l)=if c=32 then bI l+1 else 0:=by
 unfold bI;rw[List.takeWhile_cons];by_cases h:c=32
 ·rw[if_pos (by simp[h]),if_pos h];rfl
 ·rw[if_neg (by simp[h]),if_neg h];rfl
theorem wN: ∀(l:List UInt8) (i:Nat),i<bI l->l[i]?=some 32
 | [],i,h=>by simp[bI] at h
 | c::l,i,h=>by
  rw[Ci] at h;by_cases hc:c=32
  ·rw[if_pos hc] at h;cases i with
   | zero=>rw[hc];rfl
   | succ i=>rw[cH];exact wN l i (by omega)
  ·rw[if_neg hc] at h;omega
theorem yR: ∀(l:List UInt8),l[bI l]?≠some 32
 | []=>by simp
 | c::l=>by
  rw[Ci];by_cases hc:c=32
  ·rw[if_pos hc,cH];exact yR l
  ·rw[if_neg hc];simpa using hc
theorem Cj (l:List UInt8):iS l<=l.length:=Nat.sub_le _ _
theorem Vx (l:List UInt8) (i:Nat) (h:iS l<=i) (hi:i<l.length):l[i]?=some 32:=by
 have b:=nV l.reverse;rw[List.length_reverse] at b;unfold iS at h;have a:=wN l.reverse (l.length-1-i) (by omega);rw[List.getElem?_reverse (by omega)] at a;rw[show l.length-1-(l.length-1-i)=i by omega] at a;exact a
theorem Vy (l:List UInt8) (h:0<iS l):l[iS l-1]?≠some 32:=by
 have b:=nV l.reverse;rw[List.length_reverse] at b;have a:=yR l.reverse;unfold iS at h ⊢;rw[List.getElem?_reverse (by omega)] at a;rw[show l.length-bI l.reverse-1=l.length-1-bI l.reverse by omega];exact a
def pG (t:List UInt8):Nat->Nat->Nat
 | 0,_=>t.length
 | f+1,i=>if t.length<=i then t.length else if t[i]?=some 35/\t[i-1]?=some 32 then i else pG t f (i+1)
def eO (t:List UInt8) (a:Nat):Nat:=pG t (t.length+1) (max a 1)
theorem Jy (t:List UInt8): ∀(f i:Nat),t.length<i+f->pG t f i<=t.length/\(pG t f i<t.length->i<=pG t f i/\t[pG t f i]?=some 35/\t[pG t f i-1]?=some 32)/\(∀j,i<=j->j<pG t f i-> ¬(t[j]?=some 35/\t[j-1]?=some 32))
 | 0,i,h=>⟨aE _,λh=>absurd h (Nat.lt_irrefl _),λj h1 h2=>by simp[pG] at h2;omega⟩
 | f+1,i,h=>by
  unfold pG;by_cases h1:t.length<=i
  ·rw[if_pos h1];exact⟨aE _,λh=>absurd h (Nat.lt_irrefl _),λj h2 h3=>by omega⟩
  ·rw[if_neg h1];by_cases h2:t[i]?=some 35/\t[i-1]?=some 32
   ·rw[if_pos h2];exact⟨by omega,λ_=>⟨aE _,h2⟩,λj h3 h4=>by omega⟩
   ·rw[if_neg h2];obtain⟨g1,g2,g3⟩:=Jy t f (i+1) (by omega);refine⟨g1,λh=>⟨by have:=(g2 h).1;omega,(g2 h).2⟩,λj h3 h4=>?_⟩;by_cases hj:j=i
    ·rw[hj];exact h2
    ·exact g3 j (by omega) h4
theorem wO (t:List UInt8) (a:Nat):eO t a<=t.length/\(eO t a<t.length->max a 1<=eO t a/\t[eO t a]?=some 35/\t[eO t a-1]?=some 32)/\(∀j,max a 1<=j->j<eO t a-> ¬(t[j]?=some 35/\t[j-1]?=some 32)):=
 Jy t (t.length+1) (max a 1) (by omega)
theorem Ck (t:List UInt8) (a k:Nat) (h1:k<=t.length) (h2:k<t.length->max a 1<=k/\t[k]?=some 35/\t[k-1]?=some 32) (h3: ∀j,max a 1<=j->j<k-> ¬(t[j]?=some 35/\t[j-1]?=some 32)):eO t a=k:=by
 obtain⟨g1,g2,g3⟩:=wO t a;rcases Nat.lt_trichotomy (eO t a) k with h | h | h
 ·have:=g2 (by omega);exact absurd this.2 (h3 _ this.1 h)
 ·exact h
 ·have:=h2 (by omega);exact absurd this.2 (g3 _ this.1 h)
theorem yS (n i:Nat) (u:List UInt8):(List.replicate n (32:UInt8)++u)[n+i]?=u[i]?:=by
 rw[mC (by rw[List.length_replicate];omega),List.length_replicate];congr 1;omega
theorem Vz (n a:Nat) (u:List UInt8) (h0:u.head?≠some 35):eO (List.replicate n 32++u) (n+a)=n+eO u a:=by
 obtain⟨g1,g2,g3⟩:=wO u a;have b:(List.replicate n (32:UInt8)++u).length=n+u.length:=by rw[aW,List.length_replicate]
 refine Ck _ _ _ (by rw[b];omega) (λh=>?_) (λj h1 h2=>?_)
 ·rw[b] at h;obtain⟨k1,k2,k3⟩:=g2 (by omega);refine⟨by omega,by rw[yS];exact k2,?_⟩;rw[show n+eO u a-1=n+(eO u a-1) by omega,yS];exact k3
 ·obtain⟨i,rfl⟩: ∃i,j=n+i:=⟨j-n,by omega⟩;rw[yS];rintro⟨e1,e2⟩;cases i with
  | zero=>rw[List.head?_eq_getElem?] at h0;exact h0 e1
  | succ i=>
   rw[show n+(i+1)-1=n+i by omega,yS] at e2;exact g3 (i+1) (by omega) (by omega) ⟨e1,e2⟩
def lK (t:List UInt8) (k:Nat) (c:UInt8):Bool:=t[k]?==some c&&(t[k+1]?==none||t[k+1]?==some 32)
def eS (t:List UInt8):Nat:=
 if t.head?=some 34 then(if(mU t 0).2=0 then(mU t 0).1.toNat else 0) else if t.head?=some 39 then(if(kD t 0).2.2=0 then(kD t 0).2.1.toNat else 0) else 0
def rN (t:List UInt8) (c:Nat):Nat->Nat->Nat×Nat
 | 0,_=>(5,0)
 | f+1,k=>if c<=k then(5,0) else if lK t k 58 then(4,k) else rN t c f (k+1)
def jL (t:List UInt8):Nat×Nat:=
 if lK t 0 45 then(3,0) else if t.head?=some 34\/t.head?=some 39 then(if lK t (eS t) 58 then(4,eS t) else(5,0)) else if t.head?=some 91\/t.head?=some 123 then(5,0) else rN t (eO t 0) t.length 1
structure sW where
 kind:Nat
 key:Nat
 rf:Nat
 rt:Nat
 nf:Option Nat
def gU (h:Nat×Nat):Nat:=if h.1=3 then 1 else if h.1=4 then h.2+1 else 0
def wP (u:List UInt8) (h:Nat×Nat) (f2:Nat) (tw:Nat):sW:=⟨h.1,h.2,f2,f2+iS ((u.take tw).drop f2),if tw<u.length then some tw else none⟩
def cR (u:List UInt8) (f:Nat):Nat:=f+bI (u.drop f)
def qI (u:List UInt8):Option sW:=
 if u= [] then some ⟨1,0,0,0,none⟩ else if u.head?=some 35 then some ⟨2,0,0,0,some 0⟩ else if(u.head?=some 34\/u.head?=some 39)/\eS u=0 then none else
  some (wP u (jL u) (cR u (gU (jL u))) (eO u (cR u (gU (jL u))+eS (u.drop (cR u (gU (jL u)))))))
theorem Cm {t:List UInt8}{k:Nat}{c:UInt8} (h:lK t k c=true):t[k]?=some c/\k<t.length:=by
 unfold lK at h;rw[cT,beq_iff_eq] at h;exact⟨h.1,(aR.1 h.1).1⟩
theorem Jz (t:List UInt8) (c:Nat): ∀(f k:Nat),rN t c f k=(5,0)\/ ∃j,rN t c f k=(4,j)/\k<=j/\j<c/\lK t j 58=true
 | 0,_=> .inl rfl
 | f+1,k=>by
  unfold rN;split
  ·exact .inl rfl
  ·split
   ·exact .inr ⟨k,rfl,aE _,by omega,by assumption⟩
   ·rcases Jz t c f (k+1) with h | ⟨j,h1,h2,h3⟩
    ·exact .inl h
    ·exact .inr ⟨j,h1,by omega,h3⟩
theorem Ka (u:List UInt8) (hq: ¬((u.head?=some 34\/u.head?=some 39)/\eS u=0)):
  (jL u=(3,0)/\u[0]?=some 45)\/jL u=(5,0)\/ ∃k,jL u=(4,k)/\1<=k/\k<u.length/\u[k]?=some 58:=by
 unfold jL;split
 ·exact .inl ⟨rfl,(Cm (by assumption)).1⟩
 ·split
  ·rename_i c;split
   ·rename_i b;have:=Cm b;exact .inr (.inr ⟨_,rfl,by have:eS u≠0:=λh=>hq ⟨c,h⟩;omega,this.2,this.1⟩)
   ·exact .inr (.inl rfl)
  ·split
   ·exact .inr (.inl rfl)
   ·rcases Jz u (eO u 0) u.length 1 with h | ⟨j,d,e,h3,a⟩
    ·exact .inr (.inl h)
    ·have:=Cm a;exact .inr (.inr ⟨j,d,e,this.2,this.1⟩)
structure Wb (u:List UInt8) (c:sW):Prop where
 kind:1<=c.kind/\c.kind<=5
 key:c.kind=4->1<=c.key/\c.key<u.length/\u[c.key]?=some 58
 item:c.kind=3->u[0]?=some 45
 ord:gU (c.kind,c.key)<=c.rf/\c.rf<=c.rt/\c.rt<=u.length
 ahead: ∀i,gU (c.kind,c.key)<=i->i<c.rf->u[i]?=some 32
 note: ∀k,c.nf=some k->c.rt<=k/\k<u.length/\u[k]?=some 35
 behind: ∀i,c.rt<=i->i<c.nf.getD u.length->u[i]?=some 32
 ends:c.rf=c.rt\/(u[c.rf]?≠some 32/\u[c.rt-1]?≠some 32)
theorem Kb (u:List UInt8) (f:Nat) (hf:f<=u.length):f<=cR u f/\cR u f<=u.length/\(∀i,f<=i->i<cR u f->u[i]?=some 32)/\u[cR u f]?≠some 32:=by
 have a:=nV (u.drop f);rw[bB] at a;unfold cR;refine⟨by omega,by omega,λi h2 h3=>?_,?_⟩
 ·have:=wN (u.drop f) (i-f) (by omega);rw[mP,show f+(i-f)=i by omega] at this;exact this
 ·have:=yR (u.drop f);rw[mP] at this;exact this
theorem Kc (u:List UInt8) (c:sW) (h:qI u=some c):Wb u c:=by
 unfold qI at h;split at h
 ·rename_i o;subst o;injection h with h;subst h;exact⟨by simp,λh=>(by cases h),λh=>(by cases h),by simp[gU],λi g b=>(by simp at b),λk a=>(by cases a),λi g b=>(by simp at b), .inl rfl⟩
 ·rename_i o;split at h
  ·rename_i d;injection h with h;subst h;rw[List.head?_eq_getElem?] at d;have:=(aR.1 d).1;exact⟨by simp,λh=>(by cases h),λh=>(by cases h),by simp[gU],λi g b=>(by simp at b),λk a=>(by injection a with a;subst a;exact⟨aE _,this,d⟩),λi g b=>(by simp at b), .inl rfl⟩
  ·rename_i d;split at h
   ·cases h
   ·rename_i w;injection h with h;have j:=Ka u w;obtain⟨H,t⟩:=exQ<|jL u;rw[t] at h j;have hul:0<u.length:=sE.2 o;have x:gU H<=u.length:=by
     unfold gU;rcases j with⟨rfl,_⟩ | rfl | ⟨k,rfl,_,a,_⟩
     ·simp;omega
     ·simp
     ·simp;omega
    obtain⟨b1,b2,b3,b4⟩:=Kb u (gU H) x;obtain⟨f2,p⟩:=exQ<|cR u (gU H);rw[p] at h b1 b2 b3 b4;obtain⟨n1,n2,_⟩:=wO u (f2+eS (u.drop f2));obtain⟨tw,n⟩:=exQ<|eO u (f2+eS (u.drop f2));rw[n] at h n1 n2;have hft:f2<=tw:=by
     by_cases m:tw<u.length
     ·have:=(n2 m).1;omega
     ·omega
    subst h;obtain⟨M,q⟩:=exQ<|(u.take tw).drop f2;have hMl:M.length=tw-f2:=(by rw[<-q,bB,cD,Nat.min_eq_left n1]);have l: ∀i,i<tw-f2->M[i]?=u[f2+i]?:=λi hi=>by
     rw[<-q,mP,List.getElem?_take,if_pos (by omega)]
    have t1:=Cj M;unfold wP;rw[q];refine⟨?_,?_,?_,?_,b3,?_,?_,?_⟩
    ·rcases j with⟨rfl,_⟩ | rfl | ⟨k,rfl,_,a,_⟩<;>simp
    ·intro r;rcases j with⟨rfl,_⟩ | rfl | ⟨k,rfl,f,a,e⟩
     ·cases r
     ·cases r
     ·exact⟨f,a,e⟩
    ·intro s;rcases j with⟨rfl,v⟩ | rfl | ⟨k,rfl,f,a,e⟩
     ·exact v
     ·cases s
     ·cases s
    ·exact⟨b1,by simp only[];omega,by simp only[];omega⟩
    ·intro k a;simp only[] at a ⊢;split at a
     ·rename_i m;injection a with a;subst a;exact⟨by omega,m,(n2 m).2.1⟩
     ·cases a
    ·intro i g b;simp only[] at g b;have hto2:i<tw:=by
      split at b
      ·simpa using b
      ·simp at b;omega
     have:=Vx M (i-f2) (by omega) (by omega);rw[l _ (by omega),show f2+(i-f2)=i by omega] at this;exact this
    ·by_cases ht:iS M=0
     ·left;simp only[];omega
     ·right;simp only[];have:=Vy M (by omega);rw[l _ (by omega)] at this;exact⟨b4,by rw[show f2+iS M-1=f2+(iS M-1) by omega];exact this⟩
structure aP where
 kind:Int
 sf:Int
 st:Int
 ind:Int
 kf:Int
 kt:Int
 rf:Int
 rt:Int
 nf:Int
 nt:Int
def dA:aP:=⟨0,0,0,0,0,0,0,0,0,0⟩
def qJ (a b:Int) (n:Nat) (c:sW):aP:=
 ⟨c.kind,a,b,n,if c.kind=4 then a+n else 0,if c.kind=4 then a+n+c.key else 0,a+n+c.rf,a+n+c.rt,match c.nf with | some k=>a+n+k | none=>0,match c.nf with | some _=>b | none=>0⟩
def fD (s:List UInt8) (a b:Int):aP×Int×Int:=
 if a<0\/b<a\/(s.length:Int)<b then(dA,0,1) else
 let t:=(s.drop a.toNat).take (b-a).toNat
 if t.contains 10 then(dA,0,1) else
 if mI true t<t.length then(dA,a+mI true t,2) else
 match qI (t.drop (bI t)) with
 | none=>(dA,a+bI t,2)
 | some c=>(qJ a b (bI t) c,b,0)
end
section
open Go.RowKit
open Go.Lib hiding intOf
def wQ (r:Int) (n:Nat):Bool:=decide (r<32)||(r==65533&&n==1)||r==127
theorem Wc (c:UInt8) (r:List UInt8):(iW (decodeL (c::r))||c==127)=wQ ((decodeL (c::r)).1:Int) (decodeL (c::r)).2:=by
 unfold wQ iW;have a:(c==127)=(((decodeL (c::r)).1:Int)==127):=by
  by_cases hc:c.toNat<128
  ·rw[decodeL_ascii c r hc];simp only[];rw[Bool.eq_iff_iff,beq_iff_eq,beq_iff_eq];constructor
   ·rintro rfl;rfl
   ·intro h;exact UInt8.toNat_inj.1 (by show c.toNat=127;omega)
  ·have b:((decodeL (c::r)).1:Int)≠127:=by
    have:=Rt (c::r).length ((c::r).getD 0 0).toNat ((c::r).getD 1 0).toNat ((c::r).getD 2 0).toNat ((c::r).getD 3 0).toNat (by simp;omega) (UInt8.toNat_lt _);rw[<-decodeL_N] at this;omega
   rw[aK.2 b,aK.2 (by rintro rfl;exact hc (by decide))]
 rw[a];congr 1;rw[Bool.eq_iff_iff];simp only[Bool.or_eq_true,kQ,cT,beq_iff_eq];omega
def Wr (del:Bool) (l:List UInt8) (p W:Nat):Prop:= ∃f,l.length<=p+f/\rM del f (l.drop p) p=W
theorem Wr.zero (del:Bool) (l:List UInt8):Wr del l 0 (mI del l):=⟨l.length,by omega,by rw[List.drop_zero];rfl⟩
theorem Wr.fin {del:Bool}{l:List UInt8}{p W:Nat} (h:Wr del l p W) (hp:l.length<=p):W=p:=by
 obtain⟨f,_,a⟩:=h;rw[List.drop_of_length_le hp] at a;rw[<-a];cases f<;>rfl
theorem Wr.step {del:Bool}{l:List UInt8}{p W:Nat} (h:Wr del l p W) (hp:p<l.length):
  ((iW (decodeL (l.drop p))||(del&&l[p]'hp==127))=true->W=p)/\((iW (decodeL (l.drop p))||(del&&l[p]'hp==127))=false->Wr del l (p+(decodeL (l.drop p)).2) W):=by
 obtain⟨f,h1,a⟩:=h;obtain⟨g,rfl⟩: ∃g,f=g+1:=⟨f-1,by omega⟩;have c:=iH hp;rw[c] at a ⊢;rw[Vw] at a;refine⟨λb=>?_,λb=>?_⟩
 ·rw[if_pos b] at a;exact a.symm
 ·rw[if_neg (by rw[b];simp)] at a;have hw:=decodeL_width (l[p]'hp::l.drop (p+1));refine⟨g,by omega,?_⟩;rw[<-c,jH,c] at a;exact a
def sX (l:List UInt8):Int×Bool:=if mI true l<l.length then((mI true l:Int),true) else(0,false)
theorem yT {l:List UInt8}{p:Nat} (h:mI true l=p) (hp:p<l.length):sX l=((p:Int),true):=by unfold sX;rw[h,if_pos hp]
theorem Kd {l:List UInt8} (h:mI true l=l.length):sX l=(0,false):=by unfold sX;rw[h,if_neg (by omega)]
theorem Cn (l:List UInt8) (i:Nat) (w:World) (hi:i<l.length) (hT:bZ w):
  Calls Tryz.prog 111 #[.string ((bs l).extract i l.length)] w λe w'=>e= .returned (.tuple #[.int .i32 (bQ (bs l) i), .int .i64 (bJ (bs l) i)])/\Below w.heap.size w w':=by
 have h:=An (bs l) i w (by rw[aT];exact hi) hT;rw[aT] at h;exact h
theorem yU {k:Int}{b:Bool}{R:Int×Bool} (h:R=(k,b)):Ending.returned (.tuple #[.int .i64 k, .bool b])= .returned (.tuple #[.int .i64 R.1, .bool R.2]):=by rw[h]
theorem Wr.rune {l:List UInt8}{p W:Nat} (h:Wr true l p W) (hp:p<l.length):
  (wQ (bQ (bs l) p) (bJ (bs l) p)=true->W=p)/\(wQ (bQ (bs l) p) (bJ (bs l) p)=false->Wr true l (p+bJ (bs l) p) W):=by
 have a:=h.step hp;have c:=oN (bs l) p;rw[aZ] at c;have b:=Wc (l[p]'hp) (l.drop (p+1));rw[<-iH hp] at b;rw[Bool.true_and,b,c] at a;exact a
theorem Ke (l:List UInt8) (w:World) (hs:l.length<=1073741824) (hT:bZ w):
  Calls Tryz.prog 149 #[.string (bs l)] w λe w'=>e= .returned (.tuple #[.int .i64 (sX l).1, .bool (sX l).2])/\Below w.heap.size w w':=by
 have sl:=aT l;obtain⟨R,A⟩:=exQ<|sX l;rw[A];have q:=hid A;have H:=hid hT;clear A hT;go_enter Tryz.func149,Tryz.ntmps149;go_wp2_with fail;go_loopw [4] (λ_ wr=> ∃p:Nat,p<=l.length/\Hid (Wr true l p (mI true l))/\Hid (wr.heap[w.heap.size]?=some (.stringIter (bs l) p))/\Hid (Below w.heap.size w wr)) (λ_ wr=>l.length-wr.iterPos w.heap.size)
 case atStart=>exact⟨0,by omega,Wr.zero true l,World.iter_heap w (bs l) 0,(aB _ _).alloc (aE _) _⟩
 case round=>
  obtain⟨p,hp,B,s,C⟩:=hrel;by_cases hlt:p<l.length
  ·have g:p<(bs l).size:=(by omega);have G:=qB (bs l) p g;have u:=qZ (bs l) p;have h: ∀ty,(Instr.next (.pointer (some ⟨w.heap.size,0,none⟩)) true ty).run Tryz.prog wr= .ok (.tuple #[.bool true, .int .i64 p, .int .i32 (bQ (bs l) p)]) (wr.iterAt w.heap.size (bs l) (p+bJ (bs l) p)):=λty=>Lib.run_next_any_at wr _ (bs l) p ty s.out g;have f:=hid (Lib.iterAt_heap wr w.heap.size (bs l) p (p+bJ (bs l) p) s.out);have c:=hid (Lib.below_iterAt C.out (aE w.heap.size) (bs l) (p+bJ (bs l) p));have o:=H.out.keep c.out;have F:=hid (iterPos_of s.out);have m:=hid (iterPos_of f.out);obtain⟨a,b⟩:=B.out.rune hlt;have CD:=hid (Cn l p _ hlt o);obtain⟨r,E⟩:=exQ<|bQ (bs l) p;obtain⟨n,D⟩:=exQ<|bJ (bs l) p;rw[E] at h u CD a b;rw[D] at h G f c m CD a b;clear o E D;unfold wQ at a b;by_cases hr1:r=65533
   ·by_cases h1:n=1
    ·have d:=hid (a (by rw[hr1,h1];decide));have j:(r==65533)=true:=by rw[hr1];rfl
     have z:(((n:Nat):Int)==1)=true:=by rw[h1];rfl
     clear hr1 h1 a b;go_wp2_with fail;(with_reducible refine CD.out.mono ?_);rintro e w1 ⟨rfl,t⟩;go_wp2_with fail;go_ret2;exact⟨yU (q.out.symm.trans (yT d.out hlt)),aC c.out t⟩
    ·have d:=hid (b (by rw[hr1,aK.2 h1];decide));have j:(r==65533)=true:=by rw[hr1];rfl
     have z:(((n:Nat):Int)==1)=false:=aK.2 (by omega);have x:decide (r<32)=false:=aH (by omega);have i:(r==127)=false:=aK.2 (by omega);clear hr1 h1 a b;go_wp2_with fail;(with_reducible refine CD.out.mono ?_);rintro e w1 ⟨rfl,t⟩;go_wp2_with fail;have k:=hid ((t.block w.heap.size (aF f.out)).trans f.out);go_roundw
     case rel=>exact⟨p+n,by omega,d.out,k.out,aC c.out t⟩
     case measure=>rw[iterPos_of k.out,F.out];omega
   ·have j:(r==65533)=false:=aK.2 hr1;by_cases x:r<32
    ·have d:=hid (a (by rw[aM x];rfl));clear hr1 a b;go_wp2_with fail;go_ret2;exact⟨yU (q.out.symm.trans (yT d.out hlt)),c.out⟩
    ·have y:decide (r<32)=false:=aH x;by_cases i:r=127
     ·have d:=hid (a (by rw[i];simp));have v:(r==127)=true:=beq_iff_eq.2 i;clear hr1 i a b;go_wp2_with fail;go_ret2;exact⟨yU (q.out.symm.trans (yT d.out hlt)),c.out⟩
     ·have d:=hid (b (by rw[y,j,aK.2 i];rfl));have v:(r==127)=false:=aK.2 i;clear hr1 i a b;go_wp2_with fail;go_roundw
      case rel=>exact⟨p+n,by omega,d.out,f.out,c.out⟩
      case measure=>rw[m.out,F.out];omega
  ·have h: ∀ty,(Instr.next (.pointer (some ⟨w.heap.size,0,none⟩)) true ty).run Tryz.prog wr= .ok (.tuple #[.bool false]) wr:=λty=>Lib.run_next_end_at wr _ (bs l) p ty s.out (by omega);have d:=hid (B.out.fin (by omega));go_wp2_with fail;go_ret2;exact⟨yU (q.out.symm.trans (Kd (by rw[d.out];omega))),C.out⟩
theorem We (l:List UInt8) (i:Nat) (hi:i<l.length) (h:iW (decodeL (l.drop i))=false):
  lH (bQ (bs l) i)/\32<=bQ (bs l) i/\encodeRune (bQ (bs l) i)=(l.drop i).take (bJ (bs l) i)/\(bQ (bs l) i=65533-> ¬((bJ (bs l) i:Nat):Int)=1):=by
 have b:l.drop i≠ []:=by rw[iH hi];exact List.cons_ne_nil _ _
 have e:=oN (bs l) i;rw[aZ] at e;have a:=h;unfold iW at a;simp only[Bool.or_eq_false_iff,decide_eq_false_iff_not,Bool.and_eq_false_iff,aK] at a;have d:=encode_decode (l.drop i) b (by omega);have c:=vM (l.drop i);rw[e] at d c a;exact⟨c,by unfold bQ;omega,d,λf=>by unfold bQ at f;unfold bJ;omega⟩
theorem Wf (l:List UInt8) (i:Nat) (hi:i<l.length) (h:iW (decodeL (l.drop i))=true):
  bQ (bs l) i<32\/(bQ (bs l) i=65533/\bJ (bs l) i=1):=by
 have a:=oN (bs l) i;rw[aZ] at a;rw[a] at h;unfold iW at h;simp only[Bool.or_eq_true,kQ,cT,beq_iff_eq] at h;unfold bQ bJ;omega
theorem Wg (l:List UInt8):Lib.hasPrefix l [39]=(l.head?==some 39):=by
 unfold Lib.hasPrefix;cases l with
 | nil=>rfl
 | cons c r=>
  rw[Bool.eq_iff_iff];simp[List.isPrefixOf];exact eq_comm
theorem Kf (l:List UInt8) (a:Int) (w:World) (hs:l.length<=1073741824) (hT:bZ w):
  Calls Tryz.prog 166 #[.string (bs l), .int .i64 a] w λe w'=>e=lZ (kD l a)/\Below w.heap.size w w':=by
 have sl:=aT l;obtain⟨R,A⟩:=exQ<|kD l a;rw[A];unfold kD at A;have J:=hid hT;clear hT;by_cases hout:a<0\/(l.length:Int)<a
 ·rw[if_pos hout] at A;subst A;rcases hout with h | h
  ·go_enter Tryz.func166,Tryz.ntmps166;go_wp2_with fail;go_ret3;exact⟨rfl,aB _ _⟩
  ·have hn: ¬a<0:=(by omega);go_enter Tryz.func166,Tryz.ntmps166;go_wp2_with fail;go_ret3;exact⟨rfl,aB _ _⟩
 rw[if_neg hout] at A;obtain⟨k,rfl⟩: ∃k:Nat,a=k:=⟨a.toNat,by omega⟩;rw[fT] at A;have hk0:decide ((k:Int)<0)=false:=aH (by omega);have hk1:decide (l.length<k)=false:=aH (by omega);have hk2:k<=l.length:=by omega
 clear hout;by_cases h39:l[k]?=some 39
 ·rw [if_pos h39] at A;have M:k<l.length:=(aR.1 h39).1;have j:k<(bs l).size:=by omega
  have t1:((((bs l)[k]'j).toNat:Int) !=39)=false:=by
   have:=rB l k j;rw[h39] at this;have x:(bs l)[k]'j=39:=(by simpa using this.symm);rw[x];rfl
  have t2:((k:Int)==(l.length:Int))=false:=aK.2 (by omega);have U:=hid A;clear A h39;go_enter Tryz.func166,Tryz.ntmps166;go_wp2_with fail;go_loopw [1,8,9] (λs1 _ _ wr=> ∃(i f:Nat) (acc:List UInt8),s1= .int .i64 i/\i<=l.length/\acc.length<=i/\l.length<i+f/\Hid (kW f (l.drop i) i acc=R)/\Hid (mT w.heap.size w.heap.size acc wr)/\Hid (Below w.heap.size w wr)) (λs1 _ _ _=>l.length-(RowKit.intOf s1).toNat)
  case atStart=>exact⟨k+1,l.length+1,[],by go_num,by omega,by simp,by omega,U.out,mT.new w,aI w _⟩
  case round=>
   obtain⟨i,f,acc,rfl,hi,hacc,hf,Q,C,u⟩:=hrel;obtain⟨g,rfl⟩: ∃g,f=g+1:=⟨f-1,by omega⟩;by_cases hlt:i<l.length
   ·have L:i<(bs l).size:=(by omega);have t:l.drop i=l[i]'hlt::l.drop (i+1):=iH hlt;have q:=oN (bs l) i;rw[aZ] at q;have n:=Q.out;rw[t,yQ,<-t] at n;have N:=qB (bs l) i L;have O:=qZ (bs l) i;have CD:=hid (λw hT=>Cn l i w hlt hT);have T:w.heap.size<=wr.heap.size:=u.out.size;have s:=We l i hlt;have v:=Wf l i hlt;have H:(decodeL (l.drop i)).2=bJ (bs l) i:=by rw[q];rfl
    have o:l[i]'hlt=39->bQ (bs l) i=39/\bJ (bs l) i=1:=λh=>by
     have V:=decodeL_ascii 39 (l.drop (i+1)) (by decide);rw[t,h] at q;rw[V] at q;unfold bQ bJ;rw[<-q];exact⟨rfl,rfl⟩
    have r:l[i]'hlt≠39->iW (decodeL (l.drop i))=false->bQ (bs l) i≠39:=λh B e=>by
     obtain⟨q1,q2,q3,_⟩:=s B;rw[e,Jw] at q3;have hwp:=N.1;rw[t] at q3;obtain⟨z,T⟩: ∃z,bJ (bs l) i=z+1:=⟨bJ (bs l) i-1,by omega⟩;rw[T,List.take_succ_cons] at q3;injection q3 with q3 _;exact h q3.symm
    rw[H] at n;obtain⟨rn,D⟩:=exQ<|bQ (bs l) i;obtain⟨wd,F⟩:=exQ<|bJ (bs l) i;rw[D] at CD O s v o r;rw[F] at CD N s v o n;by_cases hc:l[i]'hlt=39
    ·rw[if_pos hc] at n;obtain⟨e1,e2⟩:=o hc;subst e1 e2;obtain⟨P,hP⟩:=exQ<|Lib.hasPrefix (l.drop (i+1)) [39];have CP:Hid (∀w,Calls Tryz.prog 121 #[.string ((bs l).extract (i+1) l.length), .string ⟨#[39]⟩] w λe w'=>e= .returned (.bool P)/\w=w'):=hid (λw=>by have:=Tryz.strings_HasPrefix ((bs l).extract (i+1) l.length) ⟨#[39]⟩ w;rw[lX _ _ _ rfl,aZ,show (⟨#[39]⟩:ByteArray).data.toList= [39] from rfl,hP] at this;rw[lX _ _ _ rfl];exact this.mono λ_ _ ⟨a,b⟩=>⟨a,b.symm⟩);rw[Wg] at hP;clear t q s v H o r D F hc;have hi1:(i:Int)+1<=(l.length:Int):=(by omega);cases P with
     | false=>
      rw[if_neg (by simpa using hP)] at n;have K:=hid n;clear n hP;go_wp2_with fail;(with_reducible refine(CD.out _ (J.out.keep u.out)).mono ?_);rintro e w1 ⟨rfl,c⟩;have m:=hid (C.out.keep c);have d:=hid (aC u.out c);clear c;go_wp2_with (go_at_call 121;refine(CP.out _).mono ?_;rintro e w' ⟨rfl,rfl⟩);refine(Tryz.Builder_String_any_k w.heap.size w.heap.size acc _ m.out d.out.size).mono ?_;rintro e W1 ⟨rfl,_,b1,_⟩;go_wp2_with fail;go_ret3;exact⟨by rw[<-K.out];rfl,d.out.trans b1⟩
     | true=>
      have G:=beq_iff_eq.1 hP;rw[if_pos G,jH] at n;have hi2:i+1<l.length:=by
       rw[List.head?_drop] at G;exact(aR.1 G).1
      have E:=hid n;clear n hP G;go_wp2_with fail;(with_reducible refine(CD.out _ (J.out.keep u.out)).mono ?_);rintro e w1 ⟨rfl,c⟩;have m:=hid (C.out.keep c);have d:=hid (aC u.out c);clear c;go_wp2_with (go_at_call 121;refine(CP.out _).mono ?_;rintro e w' ⟨rfl,rfl⟩);refine(xU w.heap.size w.heap.size acc 39 _ m.out ⟨by omega,by omega⟩ (by omega) d.out.size).mono ?_;rintro e w2 ⟨rfl,x,b2,_⟩;rw[Jw] at x;have p:=hid x;have y:=hid (d.out.trans b2);clear x b2;go_wp2_with fail;go_roundw
      case rel=>exact⟨i+2,g,acc++ [39],by go_num,by omega,by simp;omega,by omega,E.out,p.out,y.out⟩
      case measure=>simp[RowKit.intOf];omega
    ·rw[if_neg hc] at n;cases B:iW (decodeL (l.drop i)) with
     | true=>
      rw[B,if_pos rfl] at n;have K:=hid n;have S:=v B;clear n B v s t q H o r D F hc;by_cases h32:rn<32
      ·clear S;go_wp2_with fail;(with_reducible refine(CD.out _ (J.out.keep u.out)).mono ?_);rintro e w1 ⟨rfl,c⟩;go_wp2_with fail;go_ret3;exact⟨by rw[<-K.out];rfl,aC u.out c⟩
      ·obtain⟨b1,b2⟩:=S.resolve_left h32;have d32:decide (rn<32)=false:=aH h32;have t3:(rn==65533)=true:=beq_iff_eq.2 b1;have t4:(((wd:Nat):Int)==1)=true:=beq_iff_eq.2 (by omega);clear S b1 b2;go_wp2_with fail;(with_reducible refine(CD.out _ (J.out.keep u.out)).mono ?_);rintro e w1 ⟨rfl,c⟩;go_wp2_with fail;go_ret3;exact⟨by rw[<-K.out];rfl,aC u.out c⟩
     | false=>
      rw[B,if_neg (by simp),jH] at n;obtain⟨q1,q2,q3,q4⟩:=s B;have I:=r hc B;rw[<-q3] at n;have hel:(encodeRune rn).length<=wd:=by rw[q3,cD];omega
      have E:=hid n;have q10:=q1.1;have q11:=q1.2.1;have d32:decide (rn<32)=false:=aH (by omega);have t39:(rn==39)=false:=aK.2 I;have t5:(rn==65533&&((wd:Nat):Int)==1)=false:=by
       by_cases hx:rn=65533
       ·rw[aK.2 (q4 hx),Bool.and_false]
       ·rw[aK.2 hx];rfl
      clear n B v s t q H o r D F hc q1 q3 I;by_cases hx:rn=65533
      ·have t3:(rn==65533)=true:=beq_iff_eq.2 hx;have t4:(((wd:Nat):Int)==1)=false:=aK.2 (q4 hx);clear q4 hx t5;go_wp2_with fail;(with_reducible refine(CD.out _ (J.out.keep u.out)).mono ?_);rintro e w1 ⟨rfl,c⟩;have m:=hid (C.out.keep c);have d:=hid (aC u.out c);clear c;go_wp2_with fail;refine(xU w.heap.size w.heap.size acc rn _ m.out ⟨q10,q11⟩ (by omega) d.out.size).mono ?_;rintro e w2 ⟨rfl,x,b2,_⟩;have p:=hid x;have y:=hid (d.out.trans b2);clear x b2;go_wp2_with fail;go_roundw
       case rel=>exact⟨i+wd,g,acc++encodeRune rn,by go_num,by omega,by rw[aW];omega,by omega,E.out,p.out,y.out⟩
       case measure=>simp[RowKit.intOf];omega
      ·have t3:(rn==65533)=false:=aK.2 hx;clear q4 hx t5;go_wp2_with fail;(with_reducible refine(CD.out _ (J.out.keep u.out)).mono ?_);rintro e w1 ⟨rfl,c⟩;have m:=hid (C.out.keep c);have d:=hid (aC u.out c);clear c;go_wp2_with fail;refine(xU w.heap.size w.heap.size acc rn _ m.out ⟨q10,q11⟩ (by omega) d.out.size).mono ?_;rintro e w2 ⟨rfl,x,b2,_⟩;have p:=hid x;have y:=hid (d.out.trans b2);clear x b2;go_wp2_with fail;go_roundw
       case rel=>exact⟨i+wd,g,acc++encodeRune rn,by go_num,by omega,by rw[aW];omega,by omega,E.out,p.out,y.out⟩
       case measure=>simp[RowKit.intOf];omega
   ·have n:=Q.out;rw[List.drop_of_length_le (by omega)] at n;have K:=hid (show ([],(i:Int),2)=R from n);obtain rfl:i=l.length:=(by omega);clear n Q;go_wp2_with fail;go_ret3;exact⟨by rw[<-K.out];rfl,u.out⟩
 ·rw[if_neg h39] at A;subst A;by_cases M:k<l.length
  ·have j:k<(bs l).size:=(by omega);have t1:((((bs l)[k]'j).toNat:Int) !=39)=true:=by
    rw[gD];intro h;apply h39;rw[rB l k j];have:((bs l)[k]'j)=39:=UInt8.toNat_inj.1 (by show _=39;omega);rw[this]
   have t2:((k:Int)==(l.length:Int))=false:=aK.2 (by omega);clear h39;go_enter Tryz.func166,Tryz.ntmps166;go_wp2_with fail;go_ret3;exact⟨rfl,aB _ _⟩
  ·obtain rfl:k=l.length:=(by omega);clear h39 M;go_enter Tryz.func166,Tryz.ntmps166;go_wp2_with fail;go_ret3;exact⟨rfl,aB _ _⟩
def lL (w:World):Prop:= ∃m:Int,w.cell? ⟨0,0,none⟩=some (.int .i64 m)
theorem lL.keep {w w':World} (h:lL w) (hb:Below w.heap.size w w'):lL w':=let ⟨m,hm⟩:=h;⟨m,by rw[hb.cell (p:=⟨_,_,none⟩) (rA hm)];exact hm⟩
def nW (r:List UInt8×Int):Ending:= .returned (.tuple #[.string (bs r.1), .int .i64 r.2])
theorem Co (s:ByteArray) (w:World) (hs:s.size<=4611686018427387904) (hT:bZ w):
  Calls Tryz.prog 75 #[.string s] w λe w'=>e= .returned (.tuple #[.int .i64 (jU s).1, .bool (jU s).2])/\Below w.heap.size w w':=by
 obtain⟨R,x⟩:=exQ<|jU s;rw[x];have o:=hid x;clear x;cases hv:Lib.validD s.data.toList with
 | true=>
  have z:=Qj hv;have f:=Tryz.utf8_ValidString s w (by omega) hT;rw[hv] at f;clear hv;have t:=hid f;clear f;have B:=hid z;clear z;go_enter Tryz.func75,Tryz.ntmps75;go_wp2_with (go_at_call 110;refine t.out.mono ?_;rintro e w' ⟨rfl,g⟩);go_ret2;exact⟨Aj (o.out.symm.trans B.out),g⟩
 | false=>
  have f:=Tryz.utf8_ValidString s w (by omega) hT;rw[hv] at f;clear hv;have t:=hid f;clear f;go_enter Tryz.func75,Tryz.ntmps75;go_wp2_with (go_at_call 110;refine t.out.mono ?_;rintro e w1 ⟨rfl,b⟩);have n:=hT.keep b;have hz:=b.size;have c:Hid (Below w.heap.size w w1):=b;obtain⟨r,u⟩:=Fz b;clear b r u;go_loopw [4] (λ_ wr=> ∃pos:Nat,pos<=s.size/\Hid (nJ s pos)/\Hid (wr.heap[w1.heap.size]?=some (.stringIter s pos))/\Hid (Below w1.heap.size w1 wr)) (λ_ wr=>s.size-wr.iterPos w1.heap.size)
  case atStart=>exact⟨0,by omega,nJ.zero s,World.iter_heap w1 s 0,(aB _ _).alloc (aE _) _⟩
  case round=>
   obtain⟨pos,hp,l,m,y⟩:=hrel;by_cases hlt:pos<s.size
   ·have hw:=qB s pos hlt;have hrb:=qZ s pos;have q: ∀ty,(Instr.next (.pointer (some ⟨w1.heap.size,0,none⟩)) true ty).run Tryz.prog wr= .ok (.tuple #[.bool true, .int .i64 pos, .int .i32 (bQ s pos)]) (wr.iterAt w1.heap.size s (pos+bJ s pos)):=λty=>Lib.run_next_any_at wr _ s pos ty m.out hlt;have d:=hid (Lib.iterAt_heap wr w1.heap.size s pos (pos+bJ s pos) m.out);have a:=hid (Lib.below_iterAt y.out (aE w1.heap.size) s (pos+bJ s pos));have j:bZ (wr.iterAt w1.heap.size s (pos+bJ s pos)):=n.keep a.out;have A:=hid (iterPos_of m.out);have p:=hid (iterPos_of d.out);by_cases hr:bQ s pos=65533
    ·by_cases h1:bJ s pos=1
     ·have h:=hid (Qm hr h1);have k:(bQ s pos !=65533)=false:=by rw[hr];rfl
      have v:(((bJ s pos:Nat):Int)==1)=true:=by rw[h1];rfl
      clear hr h1;go_wp2_with (go_at_call 111;refine(An s pos _ hlt j).mono ?_;rintro e w' ⟨rfl,g⟩);go_ret2;exact⟨Aj (o.out.symm.trans (l.out.bad hlt h.out)),c.out.trans ((a.out.trans (g.mono a.out.size)).mono c.out.size)⟩
     ·have h:=hid (Ql h1);have k:(bQ s pos !=65533)=false:=by rw[hr];rfl
      have v:(((bJ s pos:Nat):Int)==1)=false:=aK.2 (by omega);clear hr h1;go_wp2_with (go_at_call 111;refine(An s pos _ hlt j).mono ?_;rintro e w' ⟨rfl,g⟩);have i:=(g.block w1.heap.size (aF d.out)).trans d.out;go_roundw
      case rel=>exact⟨pos+bJ s pos,by omega,l.out.next hlt h.out,i,a.out.trans (g.mono a.out.size)⟩
      case measure=>rw[iterPos_of i,A.out];omega
    ·have h:=hid (Qk hr);have k:(bQ s pos !=65533)=true:=gD.2 hr;clear hr;go_wp2;go_roundw
     case rel=>exact⟨pos+bJ s pos,by omega,l.out.next hlt h.out,d.out,a.out⟩
     case measure=>rw[p.out,A.out];omega
   ·have q: ∀ty,(Instr.next (.pointer (some ⟨w1.heap.size,0,none⟩)) true ty).run Tryz.prog wr= .ok (.tuple #[.bool false]) wr:=λty=>Lib.run_next_end_at wr _ s pos ty m.out hlt;go_wp2;go_ret2;exact⟨Aj (o.out.symm.trans (l.out.fin (by omega))),c.out.trans (y.out.mono c.out.size)⟩
theorem Kg (s:ByteArray):(jU s).2=validD s.data.toList:=by
 rw[Ai];unfold jU;cases tU s<;>rfl
end
end Go.Proofs.YtaifnmjjpddikaaGreatDoor
