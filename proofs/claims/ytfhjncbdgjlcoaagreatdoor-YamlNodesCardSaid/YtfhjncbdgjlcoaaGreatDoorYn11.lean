import Derived.Test.YtfhjncbdgjlcoaaGreatDoorYn3
import Derived.Lib.ReplaceLaws
set_option linter.unusedVariables false
set_option linter.unusedSimpArgs false
set_option maxRecDepth 100000
set_option maxHeartbeats 4000000
namespace Go.Proofs.YtfhjncbdgjlcoaaGreatDoor
open Tryz
section
open Go.Lib
def jT:Nat->aC->Nat->aC->aC×Int×Int
 | 0,_,i,_=>([],(i:Int),2)
 | _+1,[],i,_=>([],(i:Int),2)
 | f+1,c::r,i,acc=>if c=39 then(if r.head?=some 39 then jT f (r.drop 1) (i+2) (acc++ [39]) else(acc,(i:Int)+1,0)) else if iY (decodeL (c::r)) then([],(i:Int),2) else
  jT f ((c::r).drop (decodeL (c::r)).2) (i+(decodeL (c::r)).2) (acc++(c::r).take (decodeL (c::r)).2)
theorem wF (f:Nat) (c:UInt8) (r:aC) (i:Nat) (acc:aC):jT (f+1) (c::r) i acc=if c=39 then(if r.head?=some 39 then jT f (r.drop 1) (i+2) (acc++ [39]) else(acc,(i:Int)+1,0)) else if iY (decodeL (c::r)) then([],(i:Int),2) else
  jT f ((c::r).drop (decodeL (c::r)).2) (i+(decodeL (c::r)).2) (acc++(c::r).take (decodeL (c::r)).2):=rfl
def iJ (l:aC) (a:Int):aC×Int×Int:=
 if a<0\/(l.length:Int)<a then([],0,2) else if l[a.toNat]?=some 39 then jT (l.length+1) (l.drop (a.toNat+1)) (a.toNat+1) [] else([],a,2)
def tL (del:Bool):Nat->aC->Nat->Nat
 | 0,_,i=>i
 | _+1,[],i=>i
 | f+1,c::r,i=>if iY (decodeL (c::r))||(del&&c==127) then i else tL del f ((c::r).drop (decodeL (c::r)).2) (i+(decodeL (c::r)).2)
theorem Xe (del:Bool) (f:Nat) (c:UInt8) (r:aC) (i:Nat):tL del (f+1) (c::r) i=if iY (decodeL (c::r))||(del&&c==127) then i else tL del f ((c::r).drop (decodeL (c::r)).2) (i+(decodeL (c::r)).2):=rfl
def dI (del:Bool) (l:aC):Nat:=tL del l.length l 0
theorem tM (del:Bool): ∀(f:Nat) (l:aC) (i:Nat),i<=tL del f l i/\tL del f l i<=i+l.length
 | 0,l,i=>⟨aF _,Nat.le_add_right _ _⟩
 | _+1,[],i=>⟨aF _,aF _⟩
 | f+1,c::r,i=>by
  unfold tL;split
  .exact⟨aF _,Nat.le_add_right _ _⟩
  .have h:=tM del f ((c::r).drop (decodeL (c::r)).2) (i+(decodeL (c::r)).2);have hl:=decodeL_le (c::r) (List.cons_ne_nil _ _);rw[bC] at h;omega
theorem Lo:encodeRune 39= [39]:=b_
def bB (l:aC):Nat:=(l.takeWhile (· ==32)).length
def kC (l:aC):Nat:=l.length-bB l.reverse
theorem jU (l:aC):bB l<=l.length:=(List.takeWhile_sublist _).length_le
theorem Er (c:UInt8) (l:aC):bB (c::l)=if c=32 then bB l+1 else 0:=by
 unfold bB;rw[List.takeWhile_cons];by_cases h:c=32
 .rw[if_pos (by simp[h]),if_pos h];rfl
 .rw[if_neg (by simp[h]),if_neg h];rfl
theorem pA: ∀(l:aC) (i:Nat),i<bB l->l[i]?=some 32
 | [],i,h=>by simp[bB] at h
 | c::l,i,h=>by
  rw[Er] at h;by_cases hc:c=32
  .rw[if_pos hc] at h;cases i with
   | zero=>rw[hc];rfl
   | succ i=>rw[bY];exact pA l i a_
  .rw[if_neg hc] at h;omega
theorem pB: ∀(l:aC),l[bB l]?≠some 32
 | []=>by simp
 | c::l=>by
  rw[Er];by_cases hc:c=32
  .rw[if_pos hc,bY];exact pB l
  .rw[if_neg hc];simpa using hc
theorem Aw (l:aC):kC l<=l.length:=Nat.sub_le _ _
theorem Lp (l:aC) (i:Nat) (h:kC l<=i) (hi:i<l.length):l[i]?=some 32:=by
 have b:=jU l.reverse;rw[List.length_reverse] at b;unfold kC at h;have a:=pA l.reverse (l.length-1-i) a_;rw[List.getElem?_reverse a_] at a;rw[show l.length-1-(l.length-1-i)=i by omega] at a;exact a
theorem Lq (l:aC) (h:0<kC l):l[kC l-1]?≠some 32:=by
 have b:=jU l.reverse;rw[List.length_reverse] at b;have a:=pB l.reverse;unfold kC at h ⊢;rw[List.getElem?_reverse a_] at a;rw[show l.length-bB l.reverse-1=l.length-1-bB l.reverse by omega];exact a
def oD (t:aC):Nat->Nat->Nat
 | 0,_=>t.length
 | f+1,i=>if t.length<=i then t.length else if t[i]?=some 35/\t[i-1]?=some 32 then i else oD t f (i+1)
def eO (t:aC) (a:Nat):Nat:=oD t (t.length+1) (max a 1)
theorem Lr (t:aC): ∀(f i:Nat),t.length<i+f->oD t f i<=t.length/\(oD t f i<t.length->i<=oD t f i/\t[oD t f i]?=some 35/\t[oD t f i-1]?=some 32)/\(∀j,i<=j->j<oD t f i-> ¬(t[j]?=some 35/\t[j-1]?=some 32))
 | 0,i,h=>⟨aF _,λh=>absurd h (Nat.lt_irrefl _),λj h1 h2=>by simp[oD] at h2;omega⟩
 | f+1,i,h=>by
  unfold oD;by_cases h1:t.length<=i
  .rw[if_pos h1];exact⟨aF _,λh=>absurd h (Nat.lt_irrefl _),λj h2 h3=>by omega⟩
  .rw[if_neg h1];by_cases h2:t[i]?=some 35/\t[i-1]?=some 32
   .rw[if_pos h2];exact⟨a_,λ_=>⟨aF _,h2⟩,λj h3 h4=>by omega⟩
   .rw[if_neg h2];obtain⟨g1,g2,g3⟩:=Lr t f (i+1) a_;refine⟨g1,λh=>⟨by have:=(g2 h).1;omega,(g2 h).2⟩,λj h3 h4=>?_⟩;by_cases hj:j=i
    .rw[hj];exact h2
    .exact g3 j a_ h4
theorem uZ (t:aC) (a:Nat):eO t a<=t.length/\(eO t a<t.length->max a 1<=eO t a/\t[eO t a]?=some 35/\t[eO t a-1]?=some 32)/\(∀j,max a 1<=j->j<eO t a-> ¬(t[j]?=some 35/\t[j-1]?=some 32)):=
 Lr t (t.length+1) (max a 1) a_
theorem Es (t:aC) (a k:Nat) (h1:k<=t.length) (h2:k<t.length->max a 1<=k/\t[k]?=some 35/\t[k-1]?=some 32) (h3: ∀j,max a 1<=j->j<k-> ¬(t[j]?=some 35/\t[j-1]?=some 32)):eO t a=k:=by
 obtain⟨g1,g2,g3⟩:=uZ t a;rcases Nat.lt_trichotomy (eO t a) k with h | h | h
 .have:=g2 a_;exact absurd this.2 (h3 _ this.1 h)
 .exact h
 .have:=h2 a_;exact absurd this.2 (g3 _ this.1 h)
theorem Ax (n i:Nat) (u:aC):(List.replicate n (32:UInt8)++u)[n+i]?=u[i]?:=by
 rw[lR L',List.length_replicate];congr 1;omega
theorem Xf (n a:Nat) (u:aC) (h0:u.head?≠some 35):eO (List.replicate n 32++u) (n+a)=n+eO u a:=by
 obtain⟨g1,g2,g3⟩:=uZ u a;have b:(List.replicate n (32:UInt8)++u).length=n+u.length:=by rw[aZ,List.length_replicate]
 refine Es _ _ _ JQ (λh=>?_) (λj h1 h2=>?_)
 .rw[b] at h;obtain⟨k1,k2,k3⟩:=g2 a_;refine⟨a_,by rw[Ax];exact k2,?_⟩;rw[show n+eO u a-1=n+(eO u a-1) by omega,Ax];exact k3
 .obtain⟨i,rfl⟩: ∃i,j=n+i:=⟨j-n,a_⟩;rw[Ax];rintro⟨e1,e2⟩;cases i with
  | zero=>rw[List.head?_eq_getElem?] at h0;exact h0 e1
  | succ i=>
   rw[show n+(i+1)-1=n+i by omega,Ax] at e2;exact g3 (i+1) a_ a_ ⟨e1,e2⟩
def gZ (t:aC) (k:Nat) (c:UInt8):Bool:=t[k]?==some c&&(t[k+1]?==none||t[k+1]?==some 32)
def dA (t:aC):Nat:=
 if t.head?=some 34 then(if(lF t 0).2=0 then(lF t 0).1.toNat else 0) else if t.head?=some 39 then(if(iJ t 0).2.2=0 then(iJ t 0).2.1.toNat else 0) else 0
def rR (t:aC) (c:Nat):Nat->Nat->Nat×Nat
 | 0,_=>(5,0)
 | f+1,k=>if c<=k then(5,0) else if gZ t k 58 then(4,k) else rR t c f (k+1)
def fD (t:aC):Nat×Nat:=
 if gZ t 0 45 then(3,0) else if t.head?=some 34\/t.head?=some 39 then(if gZ t (dA t) 58 then(4,dA t) else(5,0)) else if t.head?=some 91\/t.head?=some 123 then(5,0) else rR t (eO t 0) t.length 1
structure tN where
 kind:Nat
 key:Nat
 rf:Nat
 rt:Nat
 nf:Option Nat
def eU (h:Nat×Nat):Nat:=if h.1=3 then 1 else if h.1=4 then h.2+1 else 0
def tO (u:aC) (h:Nat×Nat) (f2:Nat) (tw:Nat):tN:=⟨h.1,h.2,f2,f2+kC ((u.take tw).drop f2),if tw<u.length then some tw else none⟩
def cL (u:aC) (f:Nat):Nat:=f+bB (u.drop f)
def gG (u:aC):Option tN:=
 if u= [] then some ⟨1,0,0,0,none⟩ else if u.head?=some 35 then some ⟨2,0,0,0,some 0⟩ else if(u.head?=some 34\/u.head?=some 39)/\dA u=0 then none else
  some (tO u (fD u) (cL u (eU (fD u))) (eO u (cL u (eU (fD u))+dA (u.drop (cL u (eU (fD u)))))))
theorem Et {t:aC}{k:Nat}{c:UInt8} (h:gZ t k c=true):t[k]?=some c/\k<t.length:=by
 unfold gZ at h;rw[fQ,beq_iff_eq] at h;exact⟨h.1,(aW.1 h.1).1⟩
theorem Ls (t:aC) (c:Nat): ∀(f k:Nat),rR t c f k=(5,0)\/ ∃j,rR t c f k=(4,j)/\k<=j/\j<c/\gZ t j 58=true
 | 0,_=> .inl rfl
 | f+1,k=>by
  unfold rR;split
  .exact .inl rfl
  .split
   .exact .inr ⟨k,rfl,aF _,a_,m_⟩
   .rcases Ls t c f (k+1) with h | ⟨j,h1,h2,h3⟩
    .exact .inl h
    .exact .inr ⟨j,h1,a_,h3⟩
theorem Eu (u:aC) (hq: ¬((u.head?=some 34\/u.head?=some 39)/\dA u=0)):
  (fD u=(3,0)/\u[0]?=some 45)\/fD u=(5,0)\/ ∃k,fD u=(4,k)/\1<=k/\k<u.length/\u[k]?=some 58:=by
 unfold fD;split
 .exact .inl ⟨rfl,(Et m_).1⟩
 .split
  .rename_i b;split
   .rename_i e;have:=Et e;exact .inr (.inr ⟨_,rfl,by have:dA u≠0:=λh=>hq ⟨b,h⟩;omega,this.2,this.1⟩)
   .exact .inr (.inl rfl)
  .split
   .exact .inr (.inl rfl)
   .rcases Ls u (eO u 0) u.length 1 with h | ⟨j,d,a,h3,c⟩
    .exact .inr (.inl h)
    .have:=Et c;exact .inr (.inr ⟨j,d,a,this.2,this.1⟩)
structure Xg (u:aC) (c:tN):Prop where
 kind:1<=c.kind/\c.kind<=5
 key:c.kind=4->1<=c.key/\c.key<u.length/\u[c.key]?=some 58
 item:c.kind=3->u[0]?=some 45
 ord:eU (c.kind,c.key)<=c.rf/\c.rf<=c.rt/\c.rt<=u.length
 ahead: ∀i,eU (c.kind,c.key)<=i->i<c.rf->u[i]?=some 32
 note: ∀k,c.nf=some k->c.rt<=k/\k<u.length/\u[k]?=some 35
 behind: ∀i,c.rt<=i->i<c.nf.getD u.length->u[i]?=some 32
 ends:c.rf=c.rt\/(u[c.rf]?≠some 32/\u[c.rt-1]?≠some 32)
theorem Ew (u:aC) (f:Nat) (hf:f<=u.length):f<=cL u f/\cL u f<=u.length/\(∀i,f<=i->i<cL u f->u[i]?=some 32)/\u[cL u f]?≠some 32:=by
 have a:=jU (u.drop f);rw[bC] at a;unfold cL;refine⟨a_,a_,λi h2 h3=>?_,?_⟩
 .have:=pA (u.drop f) (i-f) a_;rw[kG,show f+(i-f)=i by omega] at this;exact this
 .have:=pB (u.drop f);rw[kG] at this;exact this
theorem Lt (u:aC) (c:tN) (h:gG u=some c):Xg u c:=by
 unfold gG at h;split at h
 .rename_i p;subst p;injection h with h;subst h;exact⟨e_,λh=>JD,λh=>JD,by simp[eU],λi f b=>(by simp at b),λk a=>(by cases a),λi f b=>(by simp at b), .inl rfl⟩
 .rename_i p;split at h
  .rename_i d;injection h with h;subst h;rw[List.head?_eq_getElem?] at d;have:=(aW.1 d).1;exact⟨e_,λh=>JD,λh=>JD,by simp[eU],λi f b=>(by simp at b),λk a=>(by injection a with a;subst a;exact⟨aF _,this,d⟩),λi f b=>(by simp at b), .inl rfl⟩
  .rename_i d;split at h
   .cases h
   .rename_i v;injection h with h;have j:=Eu u v;obtain⟨H,x⟩:=exQ<|fD u;rw[x] at h j;have hul:0<u.length:=rS.2 p;have w:eU H<=u.length:=by
     unfold eU;rcases j with⟨rfl,_⟩ | rfl | ⟨k,rfl,_,a,_⟩
     .simp;omega
     .simp
     .simp;omega
    obtain⟨b1,b2,b3,b4⟩:=Ew u (eU H) w;obtain⟨f2,q⟩:=exQ<|cL u (eU H);rw[q] at h b1 b2 b3 b4;obtain⟨n1,n2,_⟩:=uZ u (f2+dA (u.drop f2));obtain⟨tw,o⟩:=exQ<|eO u (f2+dA (u.drop f2));rw[o] at h n1 n2;have hft:f2<=tw:=by
     by_cases m:tw<u.length
     .have:=(n2 m).1;omega
     .omega
    subst h;obtain⟨M,n⟩:=exQ<|(u.take tw).drop f2;have hMl:M.length=tw-f2:=(by rw[<-n,bC,bR,Nat.min_eq_left n1]);have g: ∀i,i<tw-f2->M[i]?=u[f2+i]?:=λi hi=>by
     rw[<-n,kG,List.getElem?_take,if_pos a_]
    have t1:=Aw M;unfold tO;rw[n];refine⟨?_,?_,?_,?_,b3,?_,?_,?_⟩
    .rcases j with⟨rfl,_⟩ | rfl | ⟨k,rfl,_,a,_⟩<;>simp
    .intro r;rcases j with⟨rfl,_⟩ | rfl | ⟨k,rfl,e,a,l⟩
     .cases r
     .cases r
     .exact⟨e,a,l⟩
    .intro s;rcases j with⟨rfl,t⟩ | rfl | ⟨k,rfl,e,a,l⟩
     .exact t
     .cases s
     .cases s
    .exact⟨b1,by simp only[];omega,by simp only[];omega⟩
    .intro k a;simp only[] at a ⊢;split at a
     .rename_i m;injection a with a;subst a;exact⟨a_,m,(n2 m).2.1⟩
     .cases a
    .intro i f b;simp only[] at f b;have hto2:i<tw:=by
      split at b
      .simpa using b
      .simp at b;omega
     have:=Lp M (i-f2) a_ a_;rw[g _ a_,show f2+(i-f2)=i by omega] at this;exact this
    .by_cases ht:kC M=0
     .left;simp only[];omega
     .right;simp only[];have:=Lq M a_;rw[g _ a_] at this;exact⟨b4,by rw[show f2+kC M-1=f2+(kC M-1) by omega];exact this⟩
structure aS where
 kind:Int
 sf:Int
 st:Int
 ind:Int
 kf:Int
 kt:Int
 rf:Int
 rt:Int
 nf:Int
 nt:Int
def bG:aS:=⟨0,0,0,0,0,0,0,0,0,0⟩
def pS (a b:Int) (n:Nat) (c:tN):aS:=
 ⟨c.kind,a,b,n,if c.kind=4 then a+n else 0,if c.kind=4 then a+n+c.key else 0,a+n+c.rf,a+n+c.rt,match c.nf with | some k=>a+n+k | none=>0,match c.nf with | some _=>b | none=>0⟩
def fN (s:aC) (a b:Int):aS×Int×Int:=
 if a<0\/b<a\/(s.length:Int)<b then(bG,0,1) else
 let t:=(s.drop a.toNat).take (b-a).toNat
 if t.contains 10 then(bG,0,1) else
 if dI true t<t.length then(bG,a+dI true t,2) else
 match gG (t.drop (bB t)) with
 | none=>(bG,a+bB t,2)
 | some c=>(pS a b (bB t) c,b,0)
end
section
open Go.RowKit
open Go.Lib hiding intOf
def yC (r:Int) (n:Nat):Bool:=decide (r<32)||(r==65533&&n==1)||r==127
theorem Xh (c:UInt8) (r:aC):(iY (decodeL (c::r))||c==127)=yC ((decodeL (c::r)).1:Int) (decodeL (c::r)).2:=by
 unfold yC iY;have a:(c==127)=(((decodeL (c::r)).1:Int)==127):=by
  by_cases hc:c.toNat<128
  .rw[decodeL_ascii c r hc];simp only[];rw[Bool.eq_iff_iff,beq_iff_eq,beq_iff_eq];constructor
   .rintro rfl;rfl
   .intro h;exact UInt8.toNat_inj.1 (by show c.toNat=127;omega)
  .have b:((decodeL (c::r)).1:Int)≠127:=by
    have:=Dg (c::r).length ((c::r).getD 0 0).toNat ((c::r).getD 1 0).toNat ((c::r).getD 2 0).toNat ((c::r).getD 3 0).toNat h_ (UInt8.toNat_lt _);rw[<-decodeL_N] at this;omega
   rw[aI.2 b,aI.2 (by rintro rfl;exact hc b_)]
 rw[a];congr 1;rw[Bool.eq_iff_iff];simp only[Bool.or_eq_true,kB,fQ,beq_iff_eq];omega
def Wr (del:Bool) (l:aC) (p W:Nat):Prop:= ∃f,l.length<=p+f/\tL del f (l.drop p) p=W
theorem Wr.zero (del:Bool) (l:aC):Wr del l 0 (dI del l):=⟨l.length,a_,by rw[List.drop_zero];rfl⟩
theorem Wr.fin {del:Bool}{l:aC}{p W:Nat} (h:Wr del l p W) (hp:l.length<=p):W=p:=oa
theorem Wr.step {del:Bool}{l:aC}{p W:Nat} (h:Wr del l p W) (hp:p<l.length):
  ((iY (decodeL (l.drop p))||(del&&l[p]'hp==127))=true->W=p)/\((iY (decodeL (l.drop p))||(del&&l[p]'hp==127))=false->Wr del l (p+(decodeL (l.drop p)).2) W):=by
 obtain⟨f,h1,a⟩:=h;obtain⟨g,rfl⟩: ∃g,f=g+1:=⟨f-1,a_⟩;have b:=gB hp;rw[b] at a ⊢;rw[Xe] at a;refine⟨λc=>?_,λc=>?_⟩
 .rw[if_pos c] at a;exact a.symm
 .rw[if_neg (by rw[c];simp)] at a;have hw:=decodeL_width (l[p]'hp::l.drop (p+1));refine⟨g,a_,?_⟩;rw[<-b,jO,b] at a;exact a
def vA (l:aC):Int×Bool:=if dI true l<l.length then((dI true l:Int),true) else(0,false)
theorem Ay {l:aC}{p:Nat} (h:dI true l=p) (hp:p<l.length):vA l=((p:Int),true):=by unfold vA;rw[h,if_pos hp]
theorem Lu {l:aC} (h:dI true l=l.length):vA l=(0,false):=by unfold vA;rw[h,if_neg a_]
theorem Ex (l:aC) (i:Nat) (w:World) (hi:i<l.length) (hT:dE w):
  Calls prog 84 #[((bs l).extract i l.length)] w (aT w (.tuple #[.int .i32 (bU (bs l) i),(bN (bs l) i)])):=by
 have h:=Dd (bs l) i w (by rw[aP];exact hi) hT;rw[aP] at h;exact h
theorem Az {k:Int}{b:Bool}{R:Int×Bool} (h:R=(k,b)):Ending.returned (.tuple #[k,b])= .returned (.tuple #[R.1,R.2]):=by rw[h]
theorem Wr.rune {l:aC}{p W:Nat} (h:Wr true l p W) (hp:p<l.length):
  (yC (bU (bs l) p) (bN (bs l) p)=true->W=p)/\(yC (bU (bs l) p) (bN (bs l) p)=false->Wr true l (p+bN (bs l) p) W):=by
 have a:=h.step hp;have b:=nF (bs l) p;rw[aY] at b;have c:=Xh (l[p]'hp) (l.drop (p+1));rw[<-gB hp] at c;rw[Bool.true_and,c,b] at a;exact a
theorem Lv (l:aC) (w:World) (hs:l.length<=1073741824) (hT:dE w):
  Calls prog 143 #[bs l] w (aT w (.tuple #[.int .i64 (vA l).1, .bool (vA l).2])):=by
 have SD:=trivial;exact P3
theorem Xi (l:aC) (i:Nat) (hi:i<l.length) (h:iY (decodeL (l.drop i))=false):
  xM (bU (bs l) i)/\32<=bU (bs l) i/\encodeRune (bU (bs l) i)=(l.drop i).take (bN (bs l) i)/\(bU (bs l) i=65533-> ¬((bN (bs l) i:Nat):Int)=1):=by
 have b:l.drop i≠ []:=by rw[gB hi];exact List.cons_ne_nil _ _
 have c:=nF (bs l) i;rw[aY] at c;have a:=h;unfold iY at a;simp only[Bool.or_eq_false_iff,decide_eq_false_iff_not,Bool.and_eq_false_iff,aI] at a;have e:=encode_decode (l.drop i) b a_;have d:=Ip (l.drop i);rw[c] at e d a;exact⟨d,by unfold bU;omega,e,λf=>by unfold bU at f;unfold bN;omega⟩
theorem Xj (l:aC) (i:Nat) (hi:i<l.length) (h:iY (decodeL (l.drop i))=true):
  bU (bs l) i<32\/(bU (bs l) i=65533/\bN (bs l) i=1):=by
 have a:=nF (bs l) i;rw[aY] at a;rw[a] at h;unfold iY at h;simp only[Bool.or_eq_true,kB,fQ,beq_iff_eq] at h;unfold bU bN;omega
theorem Xk (l:aC):Lib.hasPrefix l [39]=(l.head?==some 39):=by
 unfold Lib.hasPrefix;cases l with
 | nil=>rfl
 | cons c r=>
  rw[Bool.eq_iff_iff];simp[List.isPrefixOf];exact eq_comm
theorem Lw (l:aC) (a:Int) (w:World) (hs:l.length<=1073741824) (hT:dE w):
  Calls prog 148 #[bs l,a] w λe w'=>e=iF (iJ l a)/\aA w w':=by
 have KD:=trivial;exact G3
def nJ (w:World):Prop:= ∃m:Int,w.cell? (0,0)=some (.int .i64 m)
theorem nJ.keep {w w':World} (h:nJ w) (hb:aA w w'):nJ w':=let ⟨m,hm⟩:=h;⟨m,by rw[hb.cell (p:=⟨_,_,none⟩) (vP hm)];exact hm⟩
def mT (r:aC×Int):Ending:= .returned (.tuple #[bs r.1,r.2])
end
section
open Go.RowKit
open Go.Lib hiding intOf
theorem Xl (c:Int) (w:World):
  Calls prog 129 #[c] w λe w'=>e= .returned (.int .i64 (jZ c))/\w=w':=by
 go_in;go_wp2
 all_goals go_ret
 all_goals (refine⟨Rj (congrArg (Value.int .i64) ?_),rfl⟩;unfold jZ;(repeat split)<;>first | rfl | omega)
theorem Lx (c n:Int) (w:World) (h:jZ c=n):
  Calls prog 129 #[c] w λe w'=>e= .returned (.int .i64 n)/\w=w':=by
 subst h;exact Xl c w
theorem Xm (s:ByteArray) (i:Nat) (n:Int) (w:World) (hi:i<s.size) (hs:s.size<=4611686018427387904)
    (h1:1<=n) (h4:n<=4) (hn:Hid (jZ ((s[i]'hi).toNat:Int)=n)) (hfit:n<=(s.size:Int)-i):
    Calls prog 92 #[s,i] w λe w'=>e= .returned (.tuple #[.int .i32 (rG s i n).1, .int .i64 (rG s i n).2])/\w=w':=by
  have hb:(s[i]'hi).toNat<256:=(s[i]'hi).toNat_lt;obtain⟨R,l⟩:=exQ<|rG s i n;rw[l];have p:=hid l;clear l;have m:=Rn _ n hn.out a_ a_;have c:=Ro ((s[i]'hi).toNat:Int) n;rcases(show n=1\/n=2\/n=3\/n=4 by omega) with h | h | h | h
  all_goals
    first | have b:=c.1 h | have b:=c.2.1 h | have b:=c.2.2.1 h | have b:=c.2.2.2 h
    have hlo:=Int.le_of_eq h;have hhi:=Int.le_of_eq h.symm;have n0:(n==0)=false:=aI.2 a_
    first | have n2:(n==2)=false:=aI.2 a_ | have n2:(n==2)=true:=beq_iff_eq.2 a_
    first | have n3:(n==3)=false:=aI.2 a_ | have n3:(n==3)=true:=beq_iff_eq.2 a_
    first | have n4:(n==4)=false:=aI.2 a_ | have n4:(n==4)=true:=beq_iff_eq.2 a_
    rw[b] at m;clear c h;have q:=hid b;clear b;go_in;go_wp2_with (go_at_call 129;refine(Lx _ _ _ hn.out).mono ?_;rintro e w' ⟨rfl,rfl⟩);go_loop [7,8] (λv k=> ∃(j:Nat) (V:Int),1<=j/\(j:Int)<=n/\k= .int .i64 j/\v= .int .i64 V/\0<=V/\Hid (V<sO j)/\Hid (lD s (n.toNat-1) (i+1) (kA (fH s i) n)=lD s (n.toNat-j) (i+j) V)) (λ_ k=>(n-intOf k).toNat)
    case atStart=>exact⟨1,_,a_,a_,rfl,rfl,a_,by unfold Hid sO;simp;omega,by unfold Hid;rw[<-zH s i hi,q.out]⟩
    case round=>
      obtain⟨j,V,d,hj2,rfl,rfl,hV0,f,o⟩:=hrel;by_cases hlt:(j:Int)<n
      · have g:V<1048576:=Int.lt_of_lt_of_le f.out (Rk j a_);have a:i+j<s.size:=a_;have hcb:(s[i+j]'a).toNat<256:=(s[i+j]'a).toNat_lt;go_wp2
        all_goals first
          | (go_round
             case rel=>exact⟨j+1,_,a_,a_,t_,rfl,a_,Rl j V _ f.out d a_ a_,Rr o hlt a a_ a_⟩
             case measure=>simp[intOf];omega)
          | (go_ret2;exact⟨Hy (Rp p o hlt a a_),rfl⟩)
      · have g:V<67108864:=by have h:=f.out;unfold sO at h;revert h;(repeat' split)<;>omega
        go_wp2
        all_goals go_ret2
        all_goals
          refine⟨Hy ((Rq p o a_).trans ?_),rfl⟩
          first
            | (rw[show pL n V=true from aQ a_];rfl)
            | (rw[show pL n V=false from aJ a_];rfl)
theorem Xn (s:ByteArray) (i:Nat) (n:Int) (w:World) (hi:i<s.size) (hs:s.size<=4611686018427387904)
  (h1:0<=n) (h4:n<=4) (hn:Hid (jZ ((s[i]'hi).toNat:Int)=n)) (hno:n=0\/(s.size:Int)-i<n):
  Calls prog 92 #[s,i] w λe w'=>e= .returned (.tuple #[.int .i32 65533,(1:Int)])/\w=w':=by
 have hb:(s[i]'hi).toNat<256:=(s[i]'hi).toNat_lt;by_cases h:n=0
 all_goals
  first | have n0:(n==0)=false:=aI.2 a_ | have n0:(n==0)=true:=beq_iff_eq.2 a_
  have b:1<=n->(s.size:Int)-i<n:=λ_=>by omega
  have a:(s.size:Int)-i<n\/n<=0:=a_
  clear hno;rcases a with a | a
  all_goals
   clear h b;go_in;go_wp2_with (go_at_call 129;refine(Lx _ _ _ hn.out).mono ?_;rintro e w' ⟨rfl,rfl⟩)
   all_goals go_ret2
   all_goals exact⟨rfl,rfl⟩
theorem Xo (s:ByteArray) (i:Nat) (w:World) (hi:i<s.size) (hs:s.size<=4611686018427387904):
  Calls prog 92 #[s,i] w λe w'=>e= .returned (.tuple #[.int .i32 (rF s i).1, .int .i64 (rF s i).2])/\w=w':=by
 obtain⟨n,b⟩:=exQ<|jZ ((s[i]'hi).toNat:Int);have hc:=Rm ((s[i]'hi).toNat:Int);have a:=b;rw[zH] at a;by_cases h:n=0\/(s.size:Int)-i<n
 .rw[show rF s i=(65533,1) by unfold rF;simp only[a];rw[if_pos h]];exact Xn s i n w hi hs a_ a_ b h
 .rw[show rF s i=rG s i n by unfold rF rG;simp only[a];rw[if_neg h]];exact Xm s i n w hi hs a_ a_ b a_
theorem wG (s:ByteArray) (i:Nat) (w:World) (hi:i<s.size) (hs:s.size<=4611686018427387904):
  Calls prog 92 #[s,i] w λe w'=>e= .returned (.tuple #[.int .i32 (bU s i),(bN s i)])/\w=w':=by
 have h:=Xo s i w hi hs;rw[Ru s i hi] at h;exact h
theorem wH (s:ByteArray) (i:Nat) (w:World) (hi:i<s.size) (hs:s.size<=4611686018427387904):
  Calls prog 91 #[s,i] w λe w'=>e= .returned (.bool (fP s i))/\w=w':=by
 have hw:=mJ s i hi;unfold fP;have a:=wG s i w hi hs;generalize bU s i=c at *;generalize bN s i=n at *;have b:=hid a;clear a;by_cases h1:(c==65533)=true
 all_goals
  first | have h1':(c==65533)=false:=by simpa using h1 | skip
  go_in;go_wp2_with (go_at_call 92;refine b.out.mono ?_;rintro e w' ⟨rfl,rfl⟩)
  all_goals go_ret
  all_goals (refine⟨qH ?_,rfl⟩;simp_all)
end
end Go.Proofs.YtfhjncbdgjlcoaaGreatDoor
