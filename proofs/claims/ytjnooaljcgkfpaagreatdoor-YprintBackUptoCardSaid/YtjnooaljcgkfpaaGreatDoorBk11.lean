import Derived.Test.YtjnooaljcgkfpaaGreatDoorBk3
import Derived.Test.YtjnooaljcgkfpaaGreatDoorBk2
import Derived.Lib.ReplaceLaws
import Derived.Lib.SplitLaws
import Derived.Test.YtjnooaljcgkfpaaGreatDoorProg
import Derived.Test.YtjnooaljcgkfpaaGreatDoorBk1
import Derived.Lib.MapLaws
import Derived.Lib.TrimAscii
set_option maxRecDepth 100000
set_option maxHeartbeats 4000000
namespace Go.Proofs.YtjnooaljcgkfpaaGreatDoor
set_option linter.unusedVariables false
set_option linter.unusedSimpArgs false
section
open Go.Lib
def fZ:Nat->List UInt8->Nat->List UInt8->List UInt8×Int×Int
 | 0,_,i,_=>([],(i:Int),2)
 | _+1,[],i,_=>([],(i:Int),2)
 | f+1,c::r,i,acc=>if c=39 then(if r.head?=some 39 then fZ f (r.drop 1) (i+2) (acc++ [39]) else(acc,(i:Int)+1,0)) else if eI (decodeL (c::r)) then([],(i:Int),2) else
  fZ f ((c::r).drop (decodeL (c::r)).2) (i+(decodeL (c::r)).2) (acc++(c::r).take (decodeL (c::r)).2)
theorem sO (f:Nat) (c:UInt8) (r:List UInt8) (i:Nat) (acc:List UInt8):fZ (f+1) (c::r) i acc=if c=39 then(if r.head?=some 39 then fZ f (r.drop 1) (i+2) (acc++ [39]) else(acc,(i:Int)+1,0)) else if eI (decodeL (c::r)) then([],(i:Int),2) else
  fZ f ((c::r).drop (decodeL (c::r)).2) (i+(decodeL (c::r)).2) (acc++(c::r).take (decodeL (c::r)).2):=rfl
def iP (l:List UInt8) (a:Int):List UInt8×Int×Int:=
 if a<0\/(l.length:Int)<a then([],0,2) else if l[a.toNat]?=some 39 then fZ (l.length+1) (l.drop (a.toNat+1)) (a.toNat+1) [] else([],a,2)
def iQ (del:Bool):Nat->List UInt8->Nat->Nat
 | 0,_,i=>i
 | _+1,[],i=>i
 | f+1,c::r,i=>if eI (decodeL (c::r))||(del&&c==127) then i else iQ del f ((c::r).drop (decodeL (c::r)).2) (i+(decodeL (c::r)).2)
theorem En (del:Bool) (f:Nat) (c:UInt8) (r:List UInt8) (i:Nat):iQ del (f+1) (c::r) i=if eI (decodeL (c::r))||(del&&c==127) then i else iQ del f ((c::r).drop (decodeL (c::r)).2) (i+(decodeL (c::r)).2):=rfl
def iR (del:Bool) (l:List UInt8):Nat:=iQ del l.length l 0
theorem Eo (del:Bool): ∀(f:Nat) (l:List UInt8) (i:Nat),i<=iQ del f l i/\iQ del f l i<=i+l.length
 | 0,l,i=>⟨aD _,Nat.le_add_right _ _⟩
 | _+1,[],i=>⟨aD _,aD _⟩
 | f+1,c::r,i=>by
  unfold iQ;split
  ·exact⟨aD _,Nat.le_add_right _ _⟩
  ·have h:=Eo del f ((c::r).drop (decodeL (c::r)).2) (i+(decodeL (c::r)).2);have hl:=decodeL_le (c::r) (List.cons_ne_nil _ _);rw[aZ] at h;omega
def lB (l:List UInt8):Prop:=iQ false l.length l 0=l.length
theorem vP (del:Bool): ∀(f:Nat) (l:List UInt8) (i k:Nat),iQ del f l (i+k)=iQ del f l i+k
 | 0,l,i,k=>rfl
 | _+1,[],i,k=>rfl
 | f+1,c::r,i,k=>by
  unfold iQ;split
  ·rfl
  ·rw[show i+k+(decodeL (c::r)).2=(i+(decodeL (c::r)).2)+k by omega];exact vP del f _ _ k
theorem Ep (del:Bool): ∀(f g:Nat) (l:List UInt8) (i:Nat),l.length<=f->l.length<=g->iQ del f l i=iQ del g l i
 | 0,g,l,i,hf,hg=>by
  obtain rfl:l= []:=List.eq_nil_of_length_eq_zero (by omega);cases g<;>rfl
 | f+1,0,l,i,hf,hg=>by
  obtain rfl:l= []:=List.eq_nil_of_length_eq_zero (by omega);rfl
 | f+1,g+1,[],i,hf,hg=>rfl
 | f+1,g+1,c::r,i,hf,hg=>by
  unfold iQ;split
  ·rfl
  ·have hw:=decodeL_width (c::r);exact Ep del f g _ _ (by rw[aZ];omega) (by rw[aZ];omega)
theorem Ly:lB []:=rfl
theorem aAb (l:List UInt8) (hne:l≠ []) (h:lB l): ∃r t,iZ r/\32<=r/\l=encodeRune r++t/\lB t/\decodeL l=(r.toNat,(encodeRune r).length)/\eI (decodeL l)=false:=by
 unfold lB at h;cases l with
 | nil=>exact absurd rfl hne
 | cons c u=>
  rw[aL] at h;unfold iQ at h;rw[Bool.false_and,Bool.or_false] at h;cases hp:eI (decodeL (c::u)) with
  | true=>rw[hp,if_pos rfl] at h;omega
  | false=>
   rw[hp,if_neg (by simp)] at h;have a:=hp;unfold eI at a;simp only[Bool.or_eq_false_iff,decide_eq_false_iff_not,Bool.and_eq_false_iff,aG] at a;have f: ¬((decodeL (c::u)).1=65533/\(decodeL (c::u)).2=1):=(by omega);have d:=encode_decode (c::u) (List.cons_ne_nil _ _) f;have b:=decodeL_le (c::u) (List.cons_ne_nil _ _);have hw:=decodeL_width (c::u);refine⟨((decodeL (c::u)).1:Int),(c::u).drop (decodeL (c::u)).2,wV _,by omega,by rw[d,mC],?_,?_,rfl⟩
   ·unfold lB;have e:=vP false u.length ((c::u).drop (decodeL (c::u)).2) 0 (decodeL (c::u)).2;rw[Nat.zero_add] at e;rw[Nat.zero_add,e,Ep false u.length ((c::u).drop (decodeL (c::u)).2).length _ 0 (by rw[aZ,aL];omega) (aD _)] at h;rw[aZ,aL] at h ⊢;rw[aL] at b;omega
   ·rw[d,cB,eU,Nat.min_eq_left b]
def bJ (l:List UInt8):List UInt8:=l.flatMap λc=>if c=39 then [39,39] else [c]
theorem xR (a b:List UInt8):bJ (a++b)=bJ a++bJ b:=by unfold bJ;rw[List.flatMap_append]
theorem Al: ∀(l:List UInt8),(∀c∈l,c≠39)->bJ l=l
 | [],_=>rfl
 | c::t,h=>by
  show (if c=39 then [39,39] else [c])++bJ t=c::t;rw[if_neg (h c (by simp)),Al t (λd hd=>h d (by simp[hd]))];rfl
theorem Er: ∀l:List UInt8,l.length<=(bJ l).length/\(bJ l).length<=2*l.length
 | []=>by simp[bJ]
 | c::t=>by
  have:=Er t;change (c::t).length<=((if c=39 then [39,39] else [c])++bJ t).length/\((if c=39 then [39,39] else [c])++bJ t).length<=2*(c::t).length;rw[aI,aL];split<;>simp<;>omega
def fR (l:List UInt8):List UInt8×Int:=if iR false l<l.length then([],2) else(39::(bJ l++ [39]),0)
theorem xS (r:Int) (h:iZ r) (h39:r≠39): ∀c∈encodeRune r,c≠39:=by
 intro c a e;subst e;by_cases h128:r<128
 ·have h0:=h.1;obtain⟨d,b⟩: ∃d:UInt8,r=(d.toNat:Int):=⟨UInt8.ofNat r.toNat,by rw[UInt8.toNat_ofNat'];omega⟩;subst b;rw[tJ d (by omega),jX] at a;subst a;exact h39 rfl
 ·exact absurd (tI r h (by omega) 39 a) (by decide)
theorem Am (r:Int) (h:iZ r) (h32:32<=r) (t:List UInt8):decodeL (encodeRune r++t)=(r.toNat,(encodeRune r).length)/\eI (decodeL (encodeRune r++t))=false:=by
 have a:=Da r h t;refine⟨a,?_⟩;rw[a];unfold eI;simp only[Bool.or_eq_false_iff,decide_eq_false_iff_not,Bool.and_eq_false_iff,aG];refine⟨by omega,?_⟩;by_cases h3:r=65533
 ·right;have:=Db r h (by omega);omega
 ·left;omega
theorem Lz (r:Int) (h:iZ r) (h32:32<=r) (h39:r≠39) (t:List UInt8) (f i:Nat) (acc:List UInt8):
  fZ (f+1) (encodeRune r++t) i acc=fZ f t (i+(encodeRune r).length) (acc++encodeRune r):=by
 obtain⟨c,d⟩:=Am r h h32 t;have b:=xS r h h39;obtain⟨E,g⟩:=exQ<|encodeRune r;have a:=pK r;rw[g] at c d b a ⊢;cases E with
 | nil=>exact absurd rfl a
 | cons e E'=>
  show fZ (f+1) (e::(E'++t)) i acc=_;rw[sO];rw[if_neg (b e (by simp))];change eI (decodeL (e::(E'++t)))=false at d;change decodeL (e::(E'++t))=_ at c;rw[d,if_neg (by simp),c];have e1:(e::(E'++t)).drop (e::E').length=t:=by rw[show e::(E'++t)=(e::E')++t from rfl,kU]
  have e2:(e::(E'++t)).take (e::E').length=e::E':=by rw[show e::(E'++t)=(e::E')++t from rfl,List.take_left]
  simp only[];rw[e1,e2]
theorem xT:encodeRune 39= [39]:=by decide
theorem Ma (s rest:List UInt8) (i f:Nat) (acc:List UInt8) (hv:lB s) (hr:rest.head?≠some 39) (hf:(bJ s).length<f):
  fZ f (bJ s++39::rest) i acc=(acc++s,((i+(bJ s).length:Nat):Int)+1,0):=by
 obtain⟨n,c⟩: ∃n,s.length<=n:=⟨_,aD _⟩;have base: ∀(i f:Nat) (acc:List UInt8),0<f->fZ f (39::rest) i acc=(acc,(i:Int)+1,0):=by
  intro i f acc hf;obtain⟨g,rfl⟩: ∃g,f=g+1:=⟨f-1,by omega⟩;rw[sO];rw[if_pos rfl,if_neg hr]
 induction n generalizing s i f acc with
 | zero=>
  obtain rfl:s= []:=List.eq_nil_of_length_eq_zero (by omega);show fZ f (39::rest) i acc=_;rw[base i f acc (by omega)];simp[bJ]
 | succ n ih=>
  by_cases hne:s= []
  ·subst hne;show fZ f (39::rest) i acc=_;rw[base i f acc (by omega)];simp[bJ]
  ·obtain⟨r,t,b,a,rfl,d,_,_⟩:=aAb s hne hv;have hlr:=mX.2 (pK r);rw[xR,aI] at hf;rw[xR,dY];obtain⟨g,rfl⟩: ∃g,f=g+1:=⟨f-1,by omega⟩;by_cases h39:r=39
   ·subst h39;rw[xT] at hf c ⊢;have e:bJ [39]= [39,39]:=(by decide);rw[e] at hf ⊢;show fZ (g+1) (39::39::(bJ t++39::rest)) i acc=_;rw[sO];rw[if_pos rfl,List.head?_cons,if_pos rfl,List.drop_succ_cons,List.drop_zero,ih t (i+2) g (acc++ [39]) d (by simp at hf;omega) (by simp at c;omega)];simp only[dY,aI,aL,bY,Prod.mk.injEq,true_and];exact⟨by omega,trivial⟩
   ·have e:=Al _ (xS r b h39);rw[e] at hf ⊢;rw[Lz r b a h39,ih t _ g _ d (by omega) (by rw[aI] at c;omega)];simp only[dY,aI,Prod.mk.injEq,true_and];exact⟨by omega,trivial⟩
theorem Mb: ∀(E s rest t:List UInt8),(∀c∈E,c≠39)->bJ s++39::rest=E++t-> ∃u,s=E++u
 | [],s,_,_,_,_=>⟨s,rfl⟩
 | e::E,[],rest,t,hE,h=>by
  simp[bJ] at h;exact absurd h.1.symm (hE e (by simp))
 | e::E,c::s,rest,t,hE,h=>by
  have he:e≠39:=hE e (by simp);change (if c=39 then [39,39] else [c])++bJ s++39::rest=e::E++t at h;by_cases hc:c=39
  ·rw[if_pos hc] at h;simp at h;exact absurd h.1.symm he
  ·rw[if_neg hc] at h;simp only[cU,eE,List.cons.injEq] at h;obtain⟨u,b⟩:=Mb E s rest t (λd a=>hE d (by simp[a])) h.2;exact⟨u,by rw[b,h.1];rfl⟩
theorem aAc (s rest:List UInt8) (hne:s≠ []) (h39:s.head?≠some 39) (hb:eI (decodeL s)=true):eI (decodeL (bJ s++39::rest))=true:=by
 cases hp:eI (decodeL (bJ s++39::rest)) with
 | true=>rfl
 | false=>
  exfalso;have b:=hp;unfold eI at b;simp only[Bool.or_eq_false_iff,decide_eq_false_iff_not,Bool.and_eq_false_iff,aG] at b;obtain⟨X,f⟩:=exQ<|bJ s++39::rest;have d:X≠ []:=by rw[<-f];simp
  rw[f] at hp b;have k:=encode_decode X d (by omega);have i:=wV X;have a:X=encodeRune ((decodeL X).1:Int)++X.drop (decodeL X).2:=by rw[k,mC]
  have g: ∀c∈encodeRune ((decodeL X).1:Int),c≠39:=by
   refine xS _ i ?_;intro e;rw[e,xT] at a;cases s with
   | nil=>exact hne rfl
   | cons c u=>
    have h:c≠39:=(by simpa using h39);have:bJ (c::u)=c::bJ u:=by show (if c=39 then [39,39] else [c])++bJ u=_;rw[if_neg h];rfl
    rw[this] at f;rw[<-f] at a;simp at a;exact h a.1
  obtain⟨u,j⟩:=Mb _ s rest _ g (by rw[f];exact a);have:=Am ((decodeL X).1:Int) i (by omega) u;rw[<-j,hb] at this;exact absurd this.2 (by simp)
theorem aAd (s rest:List UInt8) (i f:Nat) (acc:List UInt8) (hv: ¬lB s):(fZ f (bJ s++39::rest) i acc).2.2=2:=by
 obtain⟨n,B⟩: ∃n,s.length<=n:=⟨_,aD _⟩
 induction n generalizing s i f acc with
 | zero=>
  obtain rfl:s= []:=List.eq_nil_of_length_eq_zero (by omega);exact absurd Ly hv
 | succ n ih=>
  cases f with
  | zero=>rfl
  | succ g=>
  cases s with
  | nil=>exact absurd Ly hv
  | cons c u=>
   by_cases hc:c=39
   ·subst hc;show (fZ (g+1) (39::39::(bJ u++39::rest)) i acc).2.2=2;rw[sO];rw[if_pos rfl,List.head?_cons,if_pos rfl,List.drop_succ_cons,List.drop_zero];refine ih u _ _ _ ?_ (by simp at B;omega);intro A;apply hv;unfold lB at A ⊢;have C:decodeL (39::u)=(39,1):=decodeL_ascii 39 u (by decide);rw[aL];unfold iQ;rw[C];have p:(eI (39,1)||(false&&(39:UInt8)==127))=false:=(by decide);rw[p,if_neg (by simp)];have q:=vP false u.length u 0 1;show iQ false u.length u (0+1)=_;rw[q,A]
   ·have l:bJ (c::u)=c::bJ u:=by show (if c=39 then [39,39] else [c])++bJ u=_;rw[if_neg hc];rfl
    cases hb:eI (decodeL (c::u)) with
    | true=>
     have v:=aAc (c::u) rest (List.cons_ne_nil _ _) (by simpa using hc) hb;rw[l] at v ⊢;show (fZ (g+1) (c::(bJ u++39::rest)) i acc).2.2=2;rw[sO];change eI (decodeL (c::(bJ u++39::rest)))=true at v;rw[if_neg hc,if_pos v]
    | false=>
     have h:=hb;unfold eI at h;simp only[Bool.or_eq_false_iff,decide_eq_false_iff_not,Bool.and_eq_false_iff,aG] at h;have D:=encode_decode (c::u) (List.cons_ne_nil _ _) (by omega);have x:=wV (c::u);have o:=decodeL_le (c::u) (List.cons_ne_nil _ _);have hw:=decodeL_width (c::u);obtain⟨r,z⟩: ∃r:Int,((decodeL (c::u)).1:Int)=r:=⟨_,rfl⟩;obtain⟨t,k⟩:=exQ<|(c::u).drop (decodeL (c::u)).2;have a:c::u=encodeRune r++t:=(by rw[<-z,D,<-k,mC]);have b:r≠39:=by
      intro e;rw[e,xT] at a;simp at a;exact hc a.1
     have y:32<=r:=(by omega);rw[z] at x;have m: ¬lB t:=by
      intro d;apply hv;unfold lB at d ⊢;rw[aL];unfold iQ;rw[Bool.false_and,Bool.or_false,hb,if_neg (by simp),k];have q:=vP false u.length t 0 (decodeL (c::u)).2;have j:t.length=(c::u).length-(decodeL (c::u)).2:=(by rw[<-k,aZ]);rw[aL] at j o;rw[q,Ep false u.length t.length t 0 (by omega) (aD _),d];omega
     have w:t.length<=n:=by
      have j:t.length=(c::u).length-(decodeL (c::u)).2:=(by rw[<-k,aZ]);omega
     rw[a,xR,Al _ (xS r x b),dY,Lz r x y b];exact ih t _ _ _ m w
theorem An (s:List UInt8):lB s↔ ¬iR false s<s.length:=by
 have:=(Eo false s.length s 0).2;unfold lB iR;omega
theorem Mc (front back q:List UInt8):iP (front++(39::q)++back) (front.length:Int)=fZ ((front++(39::q)++back).length+1) (q++back) (front.length+1) []:=by
 unfold iP;rw[if_neg (by simp only[aI];omega),eU,dY,if_pos (by rw[jO (aD _)];simp)];congr 1;rw[List.drop_append,List.drop_of_length_le (by omega)];simp
theorem Md (front s back:List UInt8) (h:(fR s).2=0) (hb:back.head?≠some 39):iP (front++(fR s).1++back) (front.length:Int)=(s,((front.length+(fR s).1.length:Nat):Int),0):=by
 by_cases hw:iR false s<s.length
 ·unfold fR at h;rw[if_pos hw] at h;cases h
 ·have a:=(An s).2 hw;have e:(fR s).1=39::(bJ s++ [39]):=by unfold fR;rw[if_neg hw]
  rw[e,Mc,show bJ s++ [39]++back=bJ s++39::back by simp,Ma s back _ _ [] a hb (by simp;omega)];simp only[eE,aL,aI,bY,Prod.mk.injEq,true_and,and_true];omega
theorem aAe (s:List UInt8):(lB s->iP (39::(bJ s++ [39])) 0=(s,((39::(bJ s++ [39])).length:Int),0))/\(¬lB s->(iP (39::(bJ s++ [39])) 0).2.2=2):=by
 have a:=Mc [] [] (bJ s++ [39]);simp only[eE,List.append_nil,bY,Nat.zero_add] at a;rw[show ((0:Nat):Int)=0 from rfl] at a;rw[a];refine⟨λh=>?_,λh=>aAd s [] _ _ _ h⟩;rw[Ma s [] _ _ [] h (by simp) (by simp;omega)];simp only[eE,aL,aI,bY,Prod.mk.injEq,true_and,and_true];omega
def bI (l:List UInt8):Nat:=(l.takeWhile (· ==32)).length
def iS (l:List UInt8):Nat:=l.length-bI l.reverse
theorem oO (l:List UInt8):bI l<=l.length:=(List.takeWhile_sublist _).length_le
theorem xU (c:UInt8) (l:List UInt8):bI (c::l)=if c=32 then bI l+1 else 0:=by
 unfold bI;rw[List.takeWhile_cons];by_cases h:c=32
 ·rw[if_pos (by simp[h]),if_pos h];rfl
 ·rw[if_neg (by simp[h]),if_neg h];rfl
theorem xV: ∀(l:List UInt8) (i:Nat),i<bI l->l[i]?=some 32
 | [],i,h=>by simp[bI] at h
 | c::l,i,h=>by
  rw[xU] at h;by_cases hc:c=32
  ·rw[if_pos hc] at h;cases i with
   | zero=>rw[hc];rfl
   | succ i=>rw[bM];exact xV l i (by omega)
  ·rw[if_neg hc] at h;omega
theorem Ao: ∀(l:List UInt8),l[bI l]?≠some 32
 | []=>by simp
 | c::l=>by
  rw[xU];by_cases hc:c=32
  ·rw[if_pos hc,bM];exact Ao l
  ·rw[if_neg hc];simpa using hc
theorem Es (l:List UInt8):iS l<=l.length:=Nat.sub_le _ _
theorem aAf (l:List UInt8) (i:Nat) (h:iS l<=i) (hi:i<l.length):l[i]?=some 32:=by
 have b:=oO l.reverse;rw[List.length_reverse] at b;unfold iS at h;have a:=xV l.reverse (l.length-1-i) (by omega);rw[List.getElem?_reverse (by omega)] at a;rw[show l.length-1-(l.length-1-i)=i by omega] at a;exact a
theorem aAg (l:List UInt8) (h:0<iS l):l[iS l-1]?≠some 32:=by
 have b:=oO l.reverse;rw[List.length_reverse] at b;have a:=Ao l.reverse;unfold iS at h ⊢;rw[List.getElem?_reverse (by omega)] at a;rw[show l.length-bI l.reverse-1=l.length-1-bI l.reverse by omega];exact a
def pW (t:List UInt8):Nat->Nat->Nat
 | 0,_=>t.length
 | f+1,i=>if t.length<=i then t.length else if t[i]?=some 35/\t[i-1]?=some 32 then i else pW t f (i+1)
def dN (t:List UInt8) (a:Nat):Nat:=pW t (t.length+1) (max a 1)
theorem Me (t:List UInt8): ∀(f i:Nat),t.length<i+f->pW t f i<=t.length/\(pW t f i<t.length->i<=pW t f i/\t[pW t f i]?=some 35/\t[pW t f i-1]?=some 32)/\(∀j,i<=j->j<pW t f i-> ¬(t[j]?=some 35/\t[j-1]?=some 32))
 | 0,i,h=>⟨aD _,λh=>absurd h (Nat.lt_irrefl _),λj h1 h2=>by simp[pW] at h2;omega⟩
 | f+1,i,h=>by
  unfold pW;by_cases h1:t.length<=i
  ·rw[if_pos h1];exact⟨aD _,λh=>absurd h (Nat.lt_irrefl _),λj h2 h3=>by omega⟩
  ·rw[if_neg h1];by_cases h2:t[i]?=some 35/\t[i-1]?=some 32
   ·rw[if_pos h2];exact⟨by omega,λ_=>⟨aD _,h2⟩,λj h3 h4=>by omega⟩
   ·rw[if_neg h2];obtain⟨g1,g2,g3⟩:=Me t f (i+1) (by omega);refine⟨g1,λh=>⟨by have:=(g2 h).1;omega,(g2 h).2⟩,λj h3 h4=>?_⟩;by_cases hj:j=i
    ·rw[hj];exact h2
    ·exact g3 j (by omega) h4
theorem vQ (t:List UInt8) (a:Nat):dN t a<=t.length/\(dN t a<t.length->max a 1<=dN t a/\t[dN t a]?=some 35/\t[dN t a-1]?=some 32)/\(∀j,max a 1<=j->j<dN t a-> ¬(t[j]?=some 35/\t[j-1]?=some 32)):=
 Me t (t.length+1) (max a 1) (by omega)
theorem vR (t:List UInt8) (a k:Nat) (h1:k<=t.length) (h2:k<t.length->max a 1<=k/\t[k]?=some 35/\t[k-1]?=some 32) (h3: ∀j,max a 1<=j->j<k-> ¬(t[j]?=some 35/\t[j-1]?=some 32)):dN t a=k:=by
 obtain⟨g1,g2,g3⟩:=vQ t a;rcases Nat.lt_trichotomy (dN t a) k with h | h | h
 ·have:=g2 (by omega);exact absurd this.2 (h3 _ this.1 h)
 ·exact h
 ·have:=h2 (by omega);exact absurd this.2 (g3 _ this.1 h)
theorem Ap (n i:Nat) (u:List UInt8):(List.replicate n (32:UInt8)++u)[n+i]?=u[i]?:=by
 rw[jO (by rw[List.length_replicate];omega),List.length_replicate];congr 1;omega
theorem aAh (n a:Nat) (u:List UInt8) (h0:u.head?≠some 35):dN (List.replicate n 32++u) (n+a)=n+dN u a:=by
 obtain⟨g1,g2,g3⟩:=vQ u a;have b:(List.replicate n (32:UInt8)++u).length=n+u.length:=by rw[aI,List.length_replicate]
 refine vR _ _ _ (by rw[b];omega) (λh=>?_) (λj h1 h2=>?_)
 ·rw[b] at h;obtain⟨k1,k2,k3⟩:=g2 (by omega);refine⟨by omega,by rw[Ap];exact k2,?_⟩;rw[show n+dN u a-1=n+(dN u a-1) by omega,Ap];exact k3
 ·obtain⟨i,rfl⟩: ∃i,j=n+i:=⟨j-n,by omega⟩;rw[Ap];rintro⟨e1,e2⟩;cases i with
  | zero=>rw[List.head?_eq_getElem?] at h0;exact h0 e1
  | succ i=>
   rw[show n+(i+1)-1=n+i by omega,Ap] at e2;exact g3 (i+1) (by omega) (by omega) ⟨e1,e2⟩
def eR (t:List UInt8) (k:Nat) (c:UInt8):Bool:=t[k]?==some c&&(t[k+1]?==none||t[k+1]?==some 32)
def cL (t:List UInt8):Nat:=
 if t.head?=some 34 then(if(mW t 0).2=0 then(mW t 0).1.toNat else 0) else if t.head?=some 39 then(if(iP t 0).2.2=0 then(iP t 0).2.1.toNat else 0) else 0
def nX (t:List UInt8) (c:Nat):Nat->Nat->Nat×Nat
 | 0,_=>(5,0)
 | f+1,k=>if c<=k then(5,0) else if eR t k 58 then(4,k) else nX t c f (k+1)
def eY (t:List UInt8):Nat×Nat:=
 if eR t 0 45 then(3,0) else if t.head?=some 34\/t.head?=some 39 then(if eR t (cL t) 58 then(4,cL t) else(5,0)) else if t.head?=some 91\/t.head?=some 123 then(5,0) else nX t (dN t 0) t.length 1
structure kL where
 kind:Nat
 key:Nat
 rf:Nat
 rt:Nat
 nf:Option Nat
def dR (h:Nat×Nat):Nat:=if h.1=3 then 1 else if h.1=4 then h.2+1 else 0
def rG (u:List UInt8) (h:Nat×Nat) (f2:Nat) (tw:Nat):kL:=⟨h.1,h.2,f2,f2+iS ((u.take tw).drop f2),if tw<u.length then some tw else none⟩
def bT (u:List UInt8) (f:Nat):Nat:=f+bI (u.drop f)
def mE (u:List UInt8):Option kL:=
 if u= [] then some ⟨1,0,0,0,none⟩ else if u.head?=some 35 then some ⟨2,0,0,0,some 0⟩ else if(u.head?=some 34\/u.head?=some 39)/\cL u=0 then none else
  some (rG u (eY u) (bT u (dR (eY u))) (dN u (bT u (dR (eY u))+cL (u.drop (bT u (dR (eY u)))))))
theorem Et {t:List UInt8}{k:Nat}{c:UInt8} (h:eR t k c=true):t[k]?=some c/\k<t.length:=by
 unfold eR at h;rw[bV,beq_iff_eq] at h;exact⟨h.1,(aP.1 h.1).1⟩
theorem Mf (t:List UInt8) (c:Nat): ∀(f k:Nat),nX t c f k=(5,0)\/ ∃j,nX t c f k=(4,j)/\k<=j/\j<c/\eR t j 58=true
 | 0,_=> .inl rfl
 | f+1,k=>by
  unfold nX;split
  ·exact .inl rfl
  ·split
   ·exact .inr ⟨k,rfl,aD _,by omega,by assumption⟩
   ·rcases Mf t c f (k+1) with h | ⟨j,h1,h2,h3⟩
    ·exact .inl h
    ·exact .inr ⟨j,h1,by omega,h3⟩
theorem Mg (u:List UInt8) (hq: ¬((u.head?=some 34\/u.head?=some 39)/\cL u=0)):
  (eY u=(3,0)/\u[0]?=some 45)\/eY u=(5,0)\/ ∃k,eY u=(4,k)/\1<=k/\k<u.length/\u[k]?=some 58:=by
 unfold eY;split
 ·exact .inl ⟨rfl,(Et (by assumption)).1⟩
 ·split
  ·rename_i b;split
   ·rename_i d;have:=Et d;exact .inr (.inr ⟨_,rfl,by have:cL u≠0:=λh=>hq ⟨b,h⟩;omega,this.2,this.1⟩)
   ·exact .inr (.inl rfl)
  ·split
   ·exact .inr (.inl rfl)
   ·rcases Mf u (dN u 0) u.length 1 with h | ⟨j,a,c,h3,e⟩
    ·exact .inr (.inl h)
    ·have:=Et e;exact .inr (.inr ⟨j,a,c,this.2,this.1⟩)
structure aAi (u:List UInt8) (c:kL):Prop where
 kind:1<=c.kind/\c.kind<=5
 key:c.kind=4->1<=c.key/\c.key<u.length/\u[c.key]?=some 58
 item:c.kind=3->u[0]?=some 45
 ord:dR (c.kind,c.key)<=c.rf/\c.rf<=c.rt/\c.rt<=u.length
 ahead: ∀i,dR (c.kind,c.key)<=i->i<c.rf->u[i]?=some 32
 note: ∀k,c.nf=some k->c.rt<=k/\k<u.length/\u[k]?=some 35
 behind: ∀i,c.rt<=i->i<c.nf.getD u.length->u[i]?=some 32
 ends:c.rf=c.rt\/(u[c.rf]?≠some 32/\u[c.rt-1]?≠some 32)
theorem Mh (u:List UInt8) (f:Nat) (hf:f<=u.length):f<=bT u f/\bT u f<=u.length/\(∀i,f<=i->i<bT u f->u[i]?=some 32)/\u[bT u f]?≠some 32:=by
 have a:=oO (u.drop f);rw[aZ] at a;unfold bT;refine⟨by omega,by omega,λi h2 h3=>?_,?_⟩
 ·have:=xV (u.drop f) (i-f) (by omega);rw[nO,show f+(i-f)=i by omega] at this;exact this
 ·have:=Ao (u.drop f);rw[nO] at this;exact this
theorem Mi (u:List UInt8) (c:kL) (h:mE u=some c):aAi u c:=by
 unfold mE at h;split at h
 ·rename_i p;subst p;injection h with h;subst h;exact⟨by simp,λh=>(by cases h),λh=>(by cases h),by simp[dR],λi g b=>(by simp at b),λk a=>(by cases a),λi g b=>(by simp at b), .inl rfl⟩
 ·rename_i p;split at h
  ·rename_i d;injection h with h;subst h;rw[List.head?_eq_getElem?] at d;have:=(aP.1 d).1;exact⟨by simp,λh=>(by cases h),λh=>(by cases h),by simp[dR],λi g b=>(by simp at b),λk a=>(by injection a with a;subst a;exact⟨aD _,this,d⟩),λi g b=>(by simp at b), .inl rfl⟩
  ·rename_i d;split at h
   ·cases h
   ·rename_i v;injection h with h;have j:=Mg u v;obtain⟨H,x⟩:=exQ<|eY u;rw[x] at h j;have hul:0<u.length:=mX.2 p;have w:dR H<=u.length:=by
     unfold dR;rcases j with⟨rfl,_⟩ | rfl | ⟨k,rfl,_,a,_⟩
     ·simp;omega
     ·simp
     ·simp;omega
    obtain⟨b1,b2,b3,b4⟩:=Mh u (dR H) w;obtain⟨f2,q⟩:=exQ<|bT u (dR H);rw[q] at h b1 b2 b3 b4;obtain⟨n1,n2,_⟩:=vQ u (f2+cL (u.drop f2));obtain⟨tw,o⟩:=exQ<|dN u (f2+cL (u.drop f2));rw[o] at h n1 n2;have hft:f2<=tw:=by
     by_cases m:tw<u.length
     ·have:=(n2 m).1;omega
     ·omega
    subst h;obtain⟨M,n⟩:=exQ<|(u.take tw).drop f2;have hMl:M.length=tw-f2:=(by rw[<-n,aZ,cB,Nat.min_eq_left n1]);have l: ∀i,i<tw-f2->M[i]?=u[f2+i]?:=λi hi=>by
     rw[<-n,nO,List.getElem?_take,if_pos (by omega)]
    have t1:=Es M;unfold rG;rw[n];refine⟨?_,?_,?_,?_,b3,?_,?_,?_⟩
    ·rcases j with⟨rfl,_⟩ | rfl | ⟨k,rfl,_,a,_⟩<;>simp
    ·intro s;rcases j with⟨rfl,_⟩ | rfl | ⟨k,rfl,f,a,e⟩
     ·cases s
     ·cases s
     ·exact⟨f,a,e⟩
    ·intro r;rcases j with⟨rfl,t⟩ | rfl | ⟨k,rfl,f,a,e⟩
     ·exact t
     ·cases r
     ·cases r
    ·exact⟨b1,by simp only[];omega,by simp only[];omega⟩
    ·intro k a;simp only[] at a ⊢;split at a
     ·rename_i m;injection a with a;subst a;exact⟨by omega,m,(n2 m).2.1⟩
     ·cases a
    ·intro i g b;simp only[] at g b;have hto2:i<tw:=by
      split at b
      ·simpa using b
      ·simp at b;omega
     have:=aAf M (i-f2) (by omega) (by omega);rw[l _ (by omega),show f2+(i-f2)=i by omega] at this;exact this
    ·by_cases ht:iS M=0
     ·left;simp only[];omega
     ·right;simp only[];have:=aAg M (by omega);rw[l _ (by omega)] at this;exact⟨b4,by rw[show f2+iS M-1=f2+(iS M-1) by omega];exact this⟩
structure aO where
 kind:Int
 sf:Int
 st:Int
 ind:Int
 kf:Int
 kt:Int
 rf:Int
 rt:Int
 nf:Int
 nt:Int
def cX:aO:=⟨0,0,0,0,0,0,0,0,0,0⟩
def kM (a b:Int) (n:Nat) (c:kL):aO:=
 ⟨c.kind,a,b,n,if c.kind=4 then a+n else 0,if c.kind=4 then a+n+c.key else 0,a+n+c.rf,a+n+c.rt,match c.nf with | some k=>a+n+k | none=>0,match c.nf with | some _=>b | none=>0⟩
def dI (s:List UInt8) (a b:Int):aO×Int×Int:=
 if a<0\/b<a\/(s.length:Int)<b then(cX,0,1) else
 let t:=(s.drop a.toNat).take (b-a).toNat
 if t.contains 10 then(cX,0,1) else
 if iR true t<t.length then(cX,a+iR true t,2) else
 match mE (t.drop (bI t)) with
 | none=>(cX,a+bI t,2)
 | some c=>(kM a b (bI t) c,b,0)
theorem aAj (n:Nat) (s:List UInt8):bI (List.replicate n 32++s)=n+bI s:=by
 induction n with
 | zero=>simp
 | succ n ih=>rw[List.replicate_succ,cU,xU,if_pos rfl,ih];omega
end
section
open Go.RowKit
open Go.Lib hiding intOf
def xW (r:Int) (n:Nat):Bool:=decide (r<32)||(r==65533&&n==1)||r==127
theorem aAk (c:UInt8) (r:List UInt8):(eI (decodeL (c::r))||c==127)=xW ((decodeL (c::r)).1:Int) (decodeL (c::r)).2:=by
 unfold xW eI;have a:(c==127)=(((decodeL (c::r)).1:Int)==127):=by
  by_cases hc:c.toNat<128
  ·rw[decodeL_ascii c r hc];simp only[];rw[Bool.eq_iff_iff,beq_iff_eq,beq_iff_eq];constructor
   ·rintro rfl;rfl
   ·intro h;exact UInt8.toNat_inj.1 (by show c.toNat=127;omega)
  ·have b:((decodeL (c::r)).1:Int)≠127:=by
    have:=Vl (c::r).length ((c::r).getD 0 0).toNat ((c::r).getD 1 0).toNat ((c::r).getD 2 0).toNat ((c::r).getD 3 0).toNat (by simp;omega) (UInt8.toNat_lt _);rw[<-decodeL_N] at this;omega
   rw[aG.2 b,aG.2 (by rintro rfl;exact hc (by decide))]
 rw[a];congr 1;rw[Bool.eq_iff_iff];simp only[Bool.or_eq_true,eA,bV,beq_iff_eq];omega
def Wr (del:Bool) (l:List UInt8) (p W:Nat):Prop:= ∃f,l.length<=p+f/\iQ del f (l.drop p) p=W
theorem Wr.zero (del:Bool) (l:List UInt8):Wr del l 0 (iR del l):=⟨l.length,by omega,by rw[List.drop_zero];rfl⟩
theorem Wr.fin {del:Bool}{l:List UInt8}{p W:Nat} (h:Wr del l p W) (hp:l.length<=p):W=p:=by
 obtain⟨f,_,a⟩:=h;rw[List.drop_of_length_le hp] at a;rw[<-a];cases f<;>rfl
theorem Wr.step {del:Bool}{l:List UInt8}{p W:Nat} (h:Wr del l p W) (hp:p<l.length):
  ((eI (decodeL (l.drop p))||(del&&l[p]'hp==127))=true->W=p)/\((eI (decodeL (l.drop p))||(del&&l[p]'hp==127))=false->Wr del l (p+(decodeL (l.drop p)).2) W):=by
 obtain⟨f,h1,a⟩:=h;obtain⟨g,rfl⟩: ∃g,f=g+1:=⟨f-1,by omega⟩;have c:=iJ hp;rw[c] at a ⊢;rw[En] at a;refine⟨λb=>?_,λb=>?_⟩
 ·rw[if_pos b] at a;exact a.symm
 ·rw[if_neg (by rw[b];simp)] at a;have hw:=decodeL_width (l[p]'hp::l.drop (p+1));refine⟨g,by omega,?_⟩;rw[<-c,lP,c] at a;exact a
def tW (l:List UInt8):Int×Bool:=if iR true l<l.length then((iR true l:Int),true) else(0,false)
theorem Aq {l:List UInt8}{p:Nat} (h:iR true l=p) (hp:p<l.length):tW l=((p:Int),true):=by unfold tW;rw[h,if_pos hp]
theorem Mj {l:List UInt8} (h:iR true l=l.length):tW l=(0,false):=by unfold tW;rw[h,if_neg (by omega)]
theorem Eu (l:List UInt8) (i:Nat) (w:World) (hi:i<l.length) (hT:cD w):
  Calls Tryz.prog 105 #[.string ((bs l).extract i l.length)] w λe w'=>e= .returned (.tuple #[.int .i32 (bG (bs l) i), .int .i64 (bB (bs l) i)])/\Below w.heap.size w w':=by
 have h:=Cy (bs l) i w (by rw[aQ];exact hi) hT;rw[aQ] at h;exact h
theorem Ar {k:Int}{b:Bool}{R:Int×Bool} (h:R=(k,b)):Ending.returned (.tuple #[.int .i64 k, .bool b])= .returned (.tuple #[.int .i64 R.1, .bool R.2]):=by rw[h]
theorem Wr.rune {l:List UInt8}{p W:Nat} (h:Wr true l p W) (hp:p<l.length):
  (xW (bG (bs l) p) (bB (bs l) p)=true->W=p)/\(xW (bG (bs l) p) (bB (bs l) p)=false->Wr true l (p+bB (bs l) p) W):=by
 have b:=h.step hp;have a:=oH (bs l) p;rw[aW] at a;have c:=aAk (l[p]'hp) (l.drop (p+1));rw[<-iJ hp] at c;rw[Bool.true_and,c,a] at b;exact b
theorem Mk (l:List UInt8) (w:World) (hs:l.length<=1073741824) (hT:cD w):
  Calls Tryz.prog 170 #[.string (bs l)] w λe w'=>e= .returned (.tuple #[.int .i64 (tW l).1, .bool (tW l).2])/\Below w.heap.size w w':=by
 have sl:=aQ l;obtain⟨R,A⟩:=exQ<|tW l;rw[A];have s:=hid A;have H:=hid hT;clear A hT;go_enter Tryz.func170,Tryz.ntmps170;go_wp2_with fail;go_loopw [4] (λ_ wr=> ∃p:Nat,p<=l.length/\Hid (Wr true l p (iR true l))/\Hid (wr.heap[w.heap.size]?=some (.stringIter (bs l) p))/\Hid (Below w.heap.size w wr)) (λ_ wr=>l.length-wr.iterPos w.heap.size)
 case atStart=>exact⟨0,by omega,Wr.zero true l,World.iter_heap w (bs l) 0,(aB _ _).alloc (aD _) _⟩
 case round=>
  obtain⟨p,hp,C,q,E⟩:=hrel;by_cases hlt:p<l.length
  ·have g:p<(bs l).size:=(by omega);have G:=pE (bs l) p g;have y:=rX (bs l) p;have i: ∀ty,(Instr.next (.pointer (some ⟨w.heap.size,0,none⟩)) true ty).run Tryz.prog wr= .ok (.tuple #[.bool true, .int .i64 p, .int .i32 (bG (bs l) p)]) (wr.iterAt w.heap.size (bs l) (p+bB (bs l) p)):=λty=>Lib.run_next_any_at wr _ (bs l) p ty q.out g;have d:=hid (Lib.iterAt_heap wr w.heap.size (bs l) p (p+bB (bs l) p) q.out);have c:=hid (Lib.below_iterAt E.out (aD w.heap.size) (bs l) (p+bB (bs l) p));have m:=H.out.keep c.out;have B:=hid (iterPos_of q.out);have o:=hid (iterPos_of d.out);obtain⟨a,b⟩:=C.out.rune hlt;have CD:=hid (Eu l p _ hlt m);obtain⟨r,F⟩:=exQ<|bG (bs l) p;obtain⟨n,D⟩:=exQ<|bB (bs l) p;rw[F] at i y CD a b;rw[D] at i G d c o CD a b;clear m F D;unfold xW at a b;by_cases hr1:r=65533
   ·by_cases h1:n=1
    ·have f:=hid (a (by rw[hr1,h1];decide));have h:(r==65533)=true:=by rw[hr1];rfl
     have x:(((n:Nat):Int)==1)=true:=by rw[h1];rfl
     clear hr1 h1 a b;go_wp2_with fail;(with_reducible refine CD.out.mono ?_);rintro e w1 ⟨rfl,t⟩;go_wp2_with fail;go_ret2;exact⟨Ar (s.out.symm.trans (Aq f.out hlt)),aC c.out t⟩
    ·have f:=hid (b (by rw[hr1,aG.2 h1];decide));have h:(r==65533)=true:=by rw[hr1];rfl
     have x:(((n:Nat):Int)==1)=false:=aG.2 (by omega);have v:decide (r<32)=false:=aJ (by omega);have j:(r==127)=false:=aG.2 (by omega);clear hr1 h1 a b;go_wp2_with fail;(with_reducible refine CD.out.mono ?_);rintro e w1 ⟨rfl,t⟩;go_wp2_with fail;have k:=hid ((t.block w.heap.size (aE d.out)).trans d.out);go_roundw
     case rel=>exact⟨p+n,by omega,f.out,k.out,aC c.out t⟩
     case measure=>rw[iterPos_of k.out,B.out];omega
   ·have h:(r==65533)=false:=aG.2 hr1;by_cases v:r<32
    ·have f:=hid (a (by rw[aN v];rfl));clear hr1 a b;go_wp2_with fail;go_ret2;exact⟨Ar (s.out.symm.trans (Aq f.out hlt)),c.out⟩
    ·have z:decide (r<32)=false:=aJ v;by_cases j:r=127
     ·have f:=hid (a (by rw[j];simp));have u:(r==127)=true:=beq_iff_eq.2 j;clear hr1 j a b;go_wp2_with fail;go_ret2;exact⟨Ar (s.out.symm.trans (Aq f.out hlt)),c.out⟩
     ·have f:=hid (b (by rw[z,h,aG.2 j];rfl));have u:(r==127)=false:=aG.2 j;clear hr1 j a b;go_wp2_with fail;go_roundw
      case rel=>exact⟨p+n,by omega,f.out,d.out,c.out⟩
      case measure=>rw[o.out,B.out];omega
  ·have i: ∀ty,(Instr.next (.pointer (some ⟨w.heap.size,0,none⟩)) true ty).run Tryz.prog wr= .ok (.tuple #[.bool false]) wr:=λty=>Lib.run_next_end_at wr _ (bs l) p ty q.out (by omega);have f:=hid (C.out.fin (by omega));go_wp2_with fail;go_ret2;exact⟨Ar (s.out.symm.trans (Mj (by rw[f.out];omega))),E.out⟩
theorem aAl (l:List UInt8) (i:Nat) (hi:i<l.length) (h:eI (decodeL (l.drop i))=false):
  iZ (bG (bs l) i)/\32<=bG (bs l) i/\encodeRune (bG (bs l) i)=(l.drop i).take (bB (bs l) i)/\(bG (bs l) i=65533-> ¬((bB (bs l) i:Nat):Int)=1):=by
 have b:l.drop i≠ []:=by rw[iJ hi];exact List.cons_ne_nil _ _
 have e:=oH (bs l) i;rw[aW] at e;have a:=h;unfold eI at a;simp only[Bool.or_eq_false_iff,decide_eq_false_iff_not,Bool.and_eq_false_iff,aG] at a;have c:=encode_decode (l.drop i) b (by omega);have d:=wV (l.drop i);rw[e] at c d a;exact⟨d,by unfold bG;omega,c,λf=>by unfold bG at f;unfold bB;omega⟩
theorem aAm (l:List UInt8) (i:Nat) (hi:i<l.length) (h:eI (decodeL (l.drop i))=true):
  bG (bs l) i<32\/(bG (bs l) i=65533/\bB (bs l) i=1):=by
 have a:=oH (bs l) i;rw[aW] at a;rw[a] at h;unfold eI at h;simp only[Bool.or_eq_true,eA,bV,beq_iff_eq] at h;unfold bG bB;omega
theorem aAn (l:List UInt8):Lib.hasPrefix l [39]=(l.head?==some 39):=by
 unfold Lib.hasPrefix;cases l with
 | nil=>rfl
 | cons c r=>
  rw[Bool.eq_iff_iff];simp[List.isPrefixOf];exact eq_comm
theorem Ew (l:List UInt8) (a:Int) (w:World) (hs:l.length<=1073741824) (hT:cD w):
  Calls Tryz.prog 98 #[.string (bs l), .int .i64 a] w λe w'=>e=lR (iP l a)/\Below w.heap.size w w':=by
 have sl:=aQ l;obtain⟨R,y⟩:=exQ<|iP l a;rw[y];unfold iP at y;have K:=hid hT;clear hT;by_cases hout:a<0\/(l.length:Int)<a
 ·rw[if_pos hout] at y;subst y;rcases hout with h | h
  ·go_enter Tryz.func98,Tryz.ntmps98;go_wp2_with fail;go_ret3;exact⟨rfl,aB _ _⟩
  ·have hn: ¬a<0:=(by omega);go_enter Tryz.func98,Tryz.ntmps98;go_wp2_with fail;go_ret3;exact⟨rfl,aB _ _⟩
 rw[if_neg hout] at y;obtain⟨k,rfl⟩: ∃k:Nat,a=k:=⟨a.toNat,by omega⟩;rw[eU] at y;have hk0:decide ((k:Int)<0)=false:=aJ (by omega);have hk1:decide (l.length<k)=false:=aJ (by omega);have hk2:k<=l.length:=by omega
 clear hout;by_cases h39:l[k]?=some 39
 ·rw [if_pos h39] at y;have M:k<l.length:=(aP.1 h39).1;have m:k<(bs l).size:=by omega
  have t1:((((bs l)[k]'m).toNat:Int) !=39)=false:=by
   have:=rZ l k m;rw[h39] at this;have x:(bs l)[k]'m=39:=(by simpa using this.symm);rw[x];rfl
  have t2:((k:Int)==(l.length:Int))=false:=aG.2 (by omega);have V:=hid y;clear y h39;go_enter Tryz.func98,Tryz.ntmps98;go_wp2_with fail;go_loopw [1,8,9] (λs1 _ _ wr=> ∃(i f:Nat) (acc:List UInt8),s1= .int .i64 i/\i<=l.length/\acc.length<=i/\l.length<i+f/\Hid (fZ f (l.drop i) i acc=R)/\Hid (iM w.heap.size w.heap.size acc wr)/\Hid (Below w.heap.size w wr)) (λs1 _ _ _=>l.length-(RowKit.intOf s1).toNat)
  case atStart=>exact⟨k+1,l.length+1,[],by go_num,by omega,by simp,by omega,V.out,iM.new w,aH w _⟩
  case round=>
   obtain⟨i,f,acc,rfl,hi,hacc,hf,O,C,u⟩:=hrel;obtain⟨g,rfl⟩: ∃g,f=g+1:=⟨f-1,by omega⟩;by_cases hlt:i<l.length
   ·have L:i<(bs l).size:=(by omega);have s:l.drop i=l[i]'hlt::l.drop (i+1):=iJ hlt;have r:=oH (bs l) i;rw[aW] at r;have n:=O.out;rw[s,sO,<-s] at n;have N:=pE (bs l) i L;have Q:=rX (bs l) i;have CD:=hid (λw hT=>Eu l i w hlt hT);have T:w.heap.size<=wr.heap.size:=u.out.size;have t:=aAl l i hlt;have v:=aAm l i hlt;have G:(decodeL (l.drop i)).2=bB (bs l) i:=by rw[r];rfl
    have o:l[i]'hlt=39->bG (bs l) i=39/\bB (bs l) i=1:=λh=>by
     have U:=decodeL_ascii 39 (l.drop (i+1)) (by decide);rw[s,h] at r;rw[U] at r;unfold bG bB;rw[<-r];exact⟨rfl,rfl⟩
    have p:l[i]'hlt≠39->eI (decodeL (l.drop i))=false->bG (bs l) i≠39:=λh H e=>by
     obtain⟨q1,q2,q3,_⟩:=t H;rw[e,xT] at q3;have hwp:=N.1;rw[s] at q3;obtain⟨z,T⟩: ∃z,bB (bs l) i=z+1:=⟨bB (bs l) i-1,by omega⟩;rw[T,List.take_succ_cons] at q3;injection q3 with q3 _;exact h q3.symm
    rw[G] at n;obtain⟨rn,B⟩:=exQ<|bG (bs l) i;obtain⟨wd,F⟩:=exQ<|bB (bs l) i;rw[B] at CD Q t v o p;rw[F] at CD N t v o n;by_cases hc:l[i]'hlt=39
    ·rw[if_pos hc] at n;obtain⟨e1,e2⟩:=o hc;subst e1 e2;obtain⟨P,hP⟩:=exQ<|Lib.hasPrefix (l.drop (i+1)) [39];have CP:Hid (∀w,Calls Tryz.prog 56 #[.string ((bs l).extract (i+1) l.length), .string ⟨#[39]⟩] w λe w'=>e= .returned (.bool P)/\w=w'):=hid (λw=>by have:=Tryz.strings_HasPrefix ((bs l).extract (i+1) l.length) ⟨#[39]⟩ w;rw[mV _ _ _ rfl,aW,show (⟨#[39]⟩:ByteArray).data.toList= [39] from rfl,hP] at this;rw[mV _ _ _ rfl];exact this.mono λ_ _ ⟨a,b⟩=>⟨a,b.symm⟩);rw[aAn] at hP;clear s r t v G o p B F hc;have hi1:(i:Int)+1<=(l.length:Int):=(by omega);cases P with
     | false=>
      rw[if_neg (by simpa using hP)] at n;have J:=hid n;clear n hP;go_wp2_with fail;(with_reducible refine(CD.out _ (K.out.keep u.out)).mono ?_);rintro e w1 ⟨rfl,c⟩;have j:=hid (C.out.keep c);have d:=hid (aC u.out c);clear c;go_wp2_with (go_at_call 56;refine(CP.out _).mono ?_;rintro e w' ⟨rfl,rfl⟩);refine(Tryz.Builder_String_any_k w.heap.size w.heap.size acc _ j.out d.out.size).mono ?_;rintro e W1 ⟨rfl,_,b1,_⟩;go_wp2_with fail;go_ret3;exact⟨by rw[<-J.out];rfl,d.out.trans b1⟩
     | true=>
      have E:=beq_iff_eq.1 hP;rw[if_pos E,lP] at n;have hi2:i+1<l.length:=by
       rw[List.head?_drop] at E;exact(aP.1 E).1
      have D:=hid n;clear n hP E;go_wp2_with fail;(with_reducible refine(CD.out _ (K.out.keep u.out)).mono ?_);rintro e w1 ⟨rfl,c⟩;have j:=hid (C.out.keep c);have d:=hid (aC u.out c);clear c;go_wp2_with (go_at_call 56;refine(CP.out _).mono ?_;rintro e w' ⟨rfl,rfl⟩);refine(wU w.heap.size w.heap.size acc 39 _ j.out ⟨by omega,by omega⟩ (by omega) d.out.size).mono ?_;rintro e w2 ⟨rfl,x,b2,_⟩;rw[xT] at x;have q:=hid x;have A:=hid (d.out.trans b2);clear x b2;go_wp2_with fail;go_roundw
      case rel=>exact⟨i+2,g,acc++ [39],by go_num,by omega,by simp;omega,by omega,D.out,q.out,A.out⟩
      case measure=>simp[RowKit.intOf];omega
    ·rw[if_neg hc] at n;cases H:eI (decodeL (l.drop i)) with
     | true=>
      rw[H,if_pos rfl] at n;have J:=hid n;have S:=v H;clear n H v t s r G o p B F hc;by_cases h32:rn<32
      ·clear S;go_wp2_with fail;(with_reducible refine(CD.out _ (K.out.keep u.out)).mono ?_);rintro e w1 ⟨rfl,c⟩;go_wp2_with fail;go_ret3;exact⟨by rw[<-J.out];rfl,aC u.out c⟩
      ·obtain⟨b1,b2⟩:=S.resolve_left h32;have d32:decide (rn<32)=false:=aJ h32;have t3:(rn==65533)=true:=beq_iff_eq.2 b1;have t4:(((wd:Nat):Int)==1)=true:=beq_iff_eq.2 (by omega);clear S b1 b2;go_wp2_with fail;(with_reducible refine(CD.out _ (K.out.keep u.out)).mono ?_);rintro e w1 ⟨rfl,c⟩;go_wp2_with fail;go_ret3;exact⟨by rw[<-J.out];rfl,aC u.out c⟩
     | false=>
      rw[H,if_neg (by simp),lP] at n;obtain⟨q1,q2,q3,q4⟩:=t H;have I:=p hc H;rw[<-q3] at n;have hel:(encodeRune rn).length<=wd:=by rw[q3,cB];omega
      have D:=hid n;have q10:=q1.1;have q11:=q1.2.1;have d32:decide (rn<32)=false:=aJ (by omega);have t39:(rn==39)=false:=aG.2 I;have t5:(rn==65533&&((wd:Nat):Int)==1)=false:=by
       by_cases hx:rn=65533
       ·rw[aG.2 (q4 hx),Bool.and_false]
       ·rw[aG.2 hx];rfl
      clear n H v t s r G o p B F hc q1 q3 I;by_cases hx:rn=65533
      ·have t3:(rn==65533)=true:=beq_iff_eq.2 hx;have t4:(((wd:Nat):Int)==1)=false:=aG.2 (q4 hx);clear q4 hx t5;go_wp2_with fail;(with_reducible refine(CD.out _ (K.out.keep u.out)).mono ?_);rintro e w1 ⟨rfl,c⟩;have j:=hid (C.out.keep c);have d:=hid (aC u.out c);clear c;go_wp2_with fail;refine(wU w.heap.size w.heap.size acc rn _ j.out ⟨q10,q11⟩ (by omega) d.out.size).mono ?_;rintro e w2 ⟨rfl,x,b2,_⟩;have q:=hid x;have A:=hid (d.out.trans b2);clear x b2;go_wp2_with fail;go_roundw
       case rel=>exact⟨i+wd,g,acc++encodeRune rn,by go_num,by omega,by rw[aI];omega,by omega,D.out,q.out,A.out⟩
       case measure=>simp[RowKit.intOf];omega
      ·have t3:(rn==65533)=false:=aG.2 hx;clear q4 hx t5;go_wp2_with fail;(with_reducible refine(CD.out _ (K.out.keep u.out)).mono ?_);rintro e w1 ⟨rfl,c⟩;have j:=hid (C.out.keep c);have d:=hid (aC u.out c);clear c;go_wp2_with fail;refine(wU w.heap.size w.heap.size acc rn _ j.out ⟨q10,q11⟩ (by omega) d.out.size).mono ?_;rintro e w2 ⟨rfl,x,b2,_⟩;have q:=hid x;have A:=hid (d.out.trans b2);clear x b2;go_wp2_with fail;go_roundw
       case rel=>exact⟨i+wd,g,acc++encodeRune rn,by go_num,by omega,by rw[aI];omega,by omega,D.out,q.out,A.out⟩
       case measure=>simp[RowKit.intOf];omega
   ·have n:=O.out;rw[List.drop_of_length_le (by omega)] at n;have J:=hid (show ([],(i:Int),2)=R from n);obtain rfl:i=l.length:=(by omega);clear n O;go_wp2_with fail;go_ret3;exact⟨by rw[<-J.out];rfl,u.out⟩
 ·rw[if_neg h39] at y;subst y;by_cases M:k<l.length
  ·have m:k<(bs l).size:=(by omega);have t1:((((bs l)[k]'m).toNat:Int) !=39)=true:=by
    rw[gP];intro h;apply h39;rw[rZ l k m];have:((bs l)[k]'m)=39:=UInt8.toNat_inj.1 (by show _=39;omega);rw[this]
   have t2:((k:Int)==(l.length:Int))=false:=aG.2 (by omega);clear h39;go_enter Tryz.func98,Tryz.ntmps98;go_wp2_with fail;go_ret3;exact⟨rfl,aB _ _⟩
  ·obtain rfl:k=l.length:=(by omega);clear h39 M;go_enter Tryz.func98,Tryz.ntmps98;go_wp2_with fail;go_ret3;exact⟨rfl,aB _ _⟩
theorem Ex: ∀(s:List UInt8),(∀k:Nat,s[k]?≠some 39)->bJ s=s
 | [],_=>rfl
 | c::t,h=>by
  show (if c=39 then [39,39] else [c])++bJ t=c::t;rw[if_neg (λe=>h 0 (by rw[e];rfl)),Ex t (λk=>by have:=h (k+1);rw[bM] at this;exact this)];rfl
theorem Ml: ∀(n:Nat) (s:List UInt8) (k:Nat),s.length<=n->s.count 39<=k->Lib.replaceK [39] [39,39] k s=bJ s
 | n,s,k,hn,hk=>by
  rcases Int.lt_or_le (Lib.indexByte s 39) 0 with hi | hi
  ·have hm:Lib.indexByte s 39= -1:=by have:=Lib.indexByte_ge s 39;omega
   have e:=Lib.indexByte_none hm;rw[Ex s e];cases k with
   | zero=>rfl
   | succ k=>
    unfold Lib.replaceK;rw[Lib.index_one,hm];rfl
  ·obtain⟨i,g⟩: ∃i:Nat,Lib.indexByte s 39=i:=⟨_,(Int.toNat_of_nonneg hi).symm⟩;obtain⟨d,h⟩:=Lib.indexByte_some g;have a:=(aP.1 d).1;have b:s=s.take i++39::s.drop (i+1):=by
    have f:=iJ a;have l:s[i]=39:=by rw[bH a] at d;exact bC d
    rw[l] at f;rw[<-f,mC]
   have hc:s.count 39=(s.take i).count 39+((s.drop (i+1)).count 39+1):=by
    conv=>lhs;rw[b]
    rw[List.count_append,List.count_cons_self]
   obtain⟨k,rfl⟩: ∃j,k=j+1:=⟨k-1,by omega⟩;cases n with
   | zero=>omega
   | succ n=>
   rw[Lib.replaceK_hit [39] [39,39] k s i (by rw[Lib.index_one];exact g)];rw[show i+([39]:List UInt8).length=i+1 from rfl,Ml n (s.drop (i+1)) k (by rw[aZ];omega) (by omega)];have m:bJ (s.take i)=s.take i:=Ex _ (λj c=>by
    by_cases hji:j<i
    ·rw[List.getElem?_take,if_pos hji] at c;exact h j hji c
    ·rw[List.getElem?_take,if_neg hji] at c;cases c)
   conv=>rhs;rw[b,xR,m]
   show _=s.take i++([39,39]++bJ (s.drop (i+1)));rw[dY]
termination_by n=>n
theorem aAo (s:List UInt8):Lib.replaceAll s [39] [39,39]=bJ s:=by
 unfold Lib.replaceAll Lib.replace;rw[if_neg (by decide)];refine Ml s.length s _ (aD _) ?_;unfold Lib.replaceNum;rw[if_pos (.inl (by decide)),Lib.count_one];exact aD _
def lC (w:World):Prop:= ∃m:Int,w.cell? ⟨2,0,none⟩=some (.int .i64 m)
theorem lC.keep {w w':World} (h:lC w) (hb:Below w.heap.size w w'):lC w':=let ⟨m,hm⟩:=h;⟨m,by rw[hb.cell (p:=⟨_,_,none⟩) (qZ hm)];exact hm⟩
theorem aAp (l:List UInt8) (w:World) (hs:l.length<=1073741824) (hM:lC w):
  Calls Tryz.prog 51 #[.string (bs l), .string ⟨#[39]⟩, .string ⟨#[39,39]⟩] w λe w'=>e= .returned (.string (bs (bJ l)))/\Below w.heap.size w w':=by
 obtain⟨m,a⟩:=hM;have sl:=aQ l;have hcb:Lib.countB (bs l) ⟨#[39]⟩<=(bs l).size:=Lib.countB_le ⟨#[39]⟩ (by decide) _ _ (aD _);have b:(⟨#[39,39]⟩:ByteArray).size=2:=rfl;have:=Tryz.strings_ReplaceAll (bs l) ⟨#[39]⟩ ⟨#[39,39]⟩ m w (by omega) a (by decide) (by rw[b];omega);rw[aW,show (⟨#[39]⟩:ByteArray).data.toList= [39] from rfl,show (⟨#[39,39]⟩:ByteArray).data.toList= [39,39] from rfl,aAo] at this;exact this
def eC (r:List UInt8×Int):Ending:= .returned (.tuple #[.string (bs r.1), .int .i64 r.2])
theorem As (l:List UInt8):(⟨#[39]⟩:ByteArray)++bs l++⟨#[39]⟩=bs (39::(l++ [39])):=by
 have a:(⟨#[39]⟩:ByteArray)=bs [39]:=rfl;rw[a,mU,mU];rfl
theorem aAq (l:List UInt8) (w:World) (hs:l.length<=268435456) (hT:cD w) (hM:lC w):
  Calls Tryz.prog 59 #[.string (bs l)] w λe w'=>e=eC (fR l)/\Below w.heap.size w w':=by
 have sl:=aQ l;obtain⟨R,g⟩:=exQ<|fR l;rw[g];have s:=hid hT;clear hT;have o:=Er l;have a:=aAe l;obtain⟨D,q⟩:=exQ<|bJ l;have CR:=aAp l w (by omega) hM;unfold fR at g;rw[q] at g o a CR;have j:=hid CR;clear CR hM q;have sD:=aQ D;have hQ:=hid (As D);have sQ:((⟨#[39]⟩:ByteArray)++bs D++⟨#[39]⟩).size=D.length+2:=by rw[As,aQ];simp
 obtain⟨Q,m⟩:=exQ<|(⟨#[39]⟩:ByteArray)++bs D++⟨#[39]⟩;have CS:=hid (λw hT=>Ew (39::(D++ [39])) 0 w (by simp;omega) hT);rw[<-As D] at CS;by_cases hok:lB l
 ·have n:=(An l).1 hok;rw[if_neg n] at g;have h:=a.1 hok;rw[h] at CS;unfold lR at CS;subst g;have i:eC (39::(D++ [39]),0)= .returned (.tuple #[.string ((⟨#[39]⟩:ByteArray)++bs D++⟨#[39]⟩), .int .i64 0]):=by rw[As];rfl
  rw[i];have k:(((39::(D++ [39])).length:Nat):Int)=(D.length:Int)+2:=by simp;omega
  rw[k] at CS;clear a h n hok i k m;go_enter Tryz.func59,Tryz.ntmps59;go_wp2_with fail;(with_reducible refine j.out.mono ?_);rintro e w1 ⟨rfl,d⟩;have c:=hid d;clear d;go_wp2_with fail;(with_reducible refine(CS.out _ (s.out.keep c.out)).mono ?_);rintro e w2 ⟨rfl,b⟩;have f:=hid (aC c.out b);clear b;go_wp2_with fail;go_ret2;exact⟨rfl,f.out⟩
 ·have n:iR false l<l.length:=by
   have:=(An l);by_cases hx:iR false l<l.length
   ·exact hx
   ·exact absurd (this.2 hx) hok
  rw[if_pos n] at g;have h:=a.2 hok;obtain⟨r,p⟩:=exQ<|iP (39::(D++ [39])) 0;obtain⟨ra,rb,rc⟩:=r;rw[p] at CS h;simp only[] at h;subst h;unfold lR at CS;subst g;clear a n hok p m;go_enter Tryz.func59,Tryz.ntmps59;go_wp2_with fail;(with_reducible refine j.out.mono ?_);rintro e w1 ⟨rfl,d⟩;have c:=hid d;clear d;go_wp2_with fail;(with_reducible refine(CS.out _ (s.out.keep c.out)).mono ?_);rintro e w2 ⟨rfl,b⟩;have f:=hid (aC c.out b);clear b;go_wp2_with fail;go_ret2;exact⟨rfl,f.out⟩
def jR (n:Int):Int:=if n=34 then 34 else if n=92 then 92 else if n=8 then 98 else if n=12 then 102 else if n=10 then 110 else if n=13 then 114 else if n=9 then 116 else 0
theorem aAr (n:Int) (w:World):
  Calls Tryz.prog 100 #[.int .i32 n] w λe w'=>e= .returned (.int .u8 (jR n))/\w=w':=by
 obtain⟨R,a⟩:=exQ<|jR n;rw[a];unfold jR at a;by_cases c0:n=34
 ·rw[if_pos c0] at a;subst a c0;go_enter Tryz.func100,Tryz.ntmps100;go_wp2_with fail;go_ret;exact⟨rfl,rfl⟩
 rw[if_neg c0] at a;have d0:(n==34)=false:=aG.2 c0;by_cases c1:n=92
 ·rw[if_pos c1] at a;subst a c1;go_enter Tryz.func100,Tryz.ntmps100;go_wp2_with fail;go_ret;exact⟨rfl,rfl⟩
 rw[if_neg c1] at a;have d1:(n==92)=false:=aG.2 c1;by_cases c2:n=8
 ·rw[if_pos c2] at a;subst a c2;go_enter Tryz.func100,Tryz.ntmps100;go_wp2_with fail;go_ret;exact⟨rfl,rfl⟩
 rw[if_neg c2] at a;have d2:(n==8)=false:=aG.2 c2;by_cases c3:n=12
 ·rw[if_pos c3] at a;subst a c3;go_enter Tryz.func100,Tryz.ntmps100;go_wp2_with fail;go_ret;exact⟨rfl,rfl⟩
 rw[if_neg c3] at a;have d3:(n==12)=false:=aG.2 c3;by_cases c4:n=10
 ·rw[if_pos c4] at a;subst a c4;go_enter Tryz.func100,Tryz.ntmps100;go_wp2_with fail;go_ret;exact⟨rfl,rfl⟩
 rw[if_neg c4] at a;have d4:(n==10)=false:=aG.2 c4;by_cases c5:n=13
 ·rw[if_pos c5] at a;subst a c5;go_enter Tryz.func100,Tryz.ntmps100;go_wp2_with fail;go_ret;exact⟨rfl,rfl⟩
 rw[if_neg c5] at a;have d5:(n==13)=false:=aG.2 c5;by_cases c6:n=9
 ·rw[if_pos c6] at a;subst a c6;go_enter Tryz.func100,Tryz.ntmps100;go_wp2_with fail;go_ret;exact⟨rfl,rfl⟩
 rw[if_neg c6] at a;have d6:(n==9)=false:=aG.2 c6;subst a;go_enter Tryz.func100,Tryz.ntmps100;go_wp2_with fail;go_ret;exact⟨rfl,rfl⟩
end
end Go.Proofs.YtjnooaljcgkfpaaGreatDoor
