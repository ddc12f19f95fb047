import Derived.Test.YtjnooaljcgkfpaaGreatDoorBk17
import Derived.Test.YtjnooaljcgkfpaaGreatDoorBk19
namespace Go.Proofs.YtjnooaljcgkfpaaGreatDoor
set_option linter.unusedVariables false
set_option linter.unusedSimpArgs false
section
open Go.Lib hiding intOf
def aX:List aA->aA
 | []=> []
 | x::l=>x++10::aX l
theorem Px (a b:List aA):aX (a++b)=aX a++aX b:=by
 induction a with
 | nil=>rfl
 | cons x a ih=>simp[aX,ih]
def dV (l:List aA) (k:Nat):Nat:=(aX (l.take k)).length
def cM:List aA->Nat->List (Nat×Nat)
 | [],p=> [(p,p)]
 | x::r,p=>(p,p+x.length)::cM r (p+x.length+1)
theorem Py (rest:aA): ∀(x:aA) (k pos:Nat),(10:UInt8) ∉ x->fA (x++10::rest) k pos=(k,pos+x.length+1)::fA rest (pos+x.length+1) (pos+x.length+1)
 | [],k,pos,_=>by rw[eE,fA,if_pos rfl];rfl
 | c::x,k,pos,h=>by
  rw[cU,fA,if_neg (λe=>h (by rw[e];exact fV ..)),Py rest x k (pos+1) (λhm=>h (List.mem_cons_of_mem _ hm)),aL];rw[show pos+1+x.length+1=pos+(x.length+1)+1 by omega]
theorem Pz: ∀(l:List aA) (p:Nat),(∀x∈l,(10:UInt8) ∉ x)->qH (fA (aX l) p p)=cM l p
 | [],p,_=>rfl
 | x::l,p,h=>by
  have ih:=Pz l (p+x.length+1) (λy b=>h y (List.mem_cons_of_mem _ b));rw[aX,Py _ _ _ _ (h x (fV ..)),cM,<-ih];have a:=(sX (aX l) (p+x.length+1) (p+x.length+1)).2;cases hL:fA (aX l) (p+x.length+1) (p+x.length+1) with
  | nil=>rw[hL] at a;simp at a
  | cons y r=>rw[qH];rfl
theorem rO: ∀(l:List aA) (p:Nat),(cM l p).length=l.length+1
 | [],_=>rfl
 | x::l,p=>by rw[cM,aL,rO l,aL]
theorem Qa: ∀(l:List aA) (p k:Nat) (x:aA),l[k]?=some x->(cM l p)[k]?=some (p+dV l k,p+dV l k+x.length)
 | [],_,_,_,h=>by simp at h
 | y::l,p,0,x,h=>by simp at h;subst h;rfl
 | y::l,p,k+1,x,h=>by
  rw[cM,bM,Qa l _ k x (by simpa using h)];have:dV (y::l) (k+1)=y.length+1+dV l k:=by
   unfold dV;rw[List.take_succ_cons,aX,aI,aL];omega
  rw[this,show p+y.length+1+dV l k=p+(y.length+1+dV l k) by omega]
theorem Qb: ∀(l:List aA) (p:Nat),(cM l p)[l.length]?=some (p+(aX l).length,p+(aX l).length)
 | [],p=>rfl
 | y::l,p=>by
  rw[cM,aL,bM,Qb l,aX,aI,aL,show p+y.length+1+(aX l).length=p+(y.length+((aX l).length+1)) by omega]
theorem Gn {l:List aA}{k:Nat}{x:aA} (h:l[k]?=some x):(aX l).drop (dV l k)=x++10::aX (l.drop (k+1)):=by
 obtain⟨b,e⟩:=aP.1 h;have a:aX l=aX (l.take k)++aX (l.drop k):=by rw[<-Px,mC]
 rw[a];unfold dV;rw[kU,iJ b,e];rfl
theorem yP {l:List aA}{k:Nat}{x:aA} (h:l[k]?=some x):dV l k+x.length<(aX l).length:=by
 have a:=congrArg List.length (Gn h);rw[aZ,aI,aL] at a;omega
structure gT (x:aA) (n:Nat) (c:kL):Prop where
 no:x.contains 10=false
 wr:iR true x=x.length
 sp:bI x=n
 co:mE (x.drop n)=some c
 k3:3<=c.kind
 k5:c.kind<=5
theorem gT.not {x:aA}{n:Nat}{c:kL} (h:gT x n c):(10:UInt8) ∉ x:=by
 have:=h.no;rw[List.contains_eq_mem] at this;simpa using this
theorem gT.line {x:aA}{n:Nat}{c:kL} (h:gT x n c) {s:aA}{a:Nat} (ht:(s.drop a).take x.length=x) (hle:a+x.length<=s.length):
  dI s (a:Int) ((a+x.length:Nat):Int)=(kM a ((a+x.length:Nat):Int) n c,((a+x.length:Nat):Int),0):=by
 unfold dI;rw[if_neg (by omega),show (a:Int).toNat=a from eU a,show (((a+x.length:Nat):Int)-(a:Int)).toNat=x.length by omega];simp only[];rw[ht,h.no,if_neg (by simp),h.wr,if_neg (Nat.lt_irrefl _),h.sp,h.co]
def rP (l:List aA) (k:Nat):aO:=(dI (aX l) (fI (cM l 0) k).1 (fI (cM l 0) k).2).1
def cR (l:List aA) (m:Nat):List aO:=(List.range m).map (rP l)
theorem Qc {l:List aA}{k:Nat}{x:aA} (h:l[k]?=some x) {n:Nat}{c:kL} (hx:gT x n c):dI (aX l) (fI (cM l 0) k).1 (fI (cM l 0) k).2=(kM (dV l k) ((dV l k+x.length:Nat):Int) n c,((dV l k+x.length:Nat):Int),0):=by
 have e:fI (cM l 0) k=(dV l k,dV l k+x.length):=by
  unfold fI;rw[Qa l 0 k x h,Nat.zero_add];rfl
 rw[e];have:=yP h;exact hx.line (by rw[Gn h,List.take_left]) (by omega)
theorem yQ {l:List aA}{k:Nat}{x:aA} (h:l[k]?=some x) {n:Nat}{c:kL} (hx:gT x n c):rP l k=kM (dV l k) ((dV l k+x.length:Nat):Int) n c:=by
 unfold rP;rw[Qc h hx]
theorem aCw (l:List aA):(dI (aX l) (fI (cM l 0) l.length).1 (fI (cM l 0) l.length).2).2.2=0/\iV (rP l l.length)=false:=by
 have e:fI (cM l 0) l.length=((aX l).length,(aX l).length):=by
  unfold fI;rw[Qb l 0,Nat.zero_add];rfl
 have:dI (aX l) ((aX l).length:Int) ((aX l).length:Int)=(kM ((aX l).length:Int) ((aX l).length:Int) 0 ⟨1,0,0,0,none⟩,((aX l).length:Int),0):=by
  unfold dI;rw[if_neg (by omega),Int.sub_self];simp only[Int.toNat_zero,List.take_zero];rfl
 unfold rP;rw[e];simp only[];rw[this];exact⟨rfl,rfl⟩
theorem Qd (l:List aA) (m:Nat):(cR l m).length=m:=by unfold cR;rw[cA,List.length_range]
theorem Gp (l:List aA) {k m:Nat} (h:k<m):(cR l m)[k]?=some (rP l k):=by
 unfold cR;rw[cW,List.getElem?_range h];rfl
theorem Bp (l:List aA) {k m:Nat} (h:k<m):aR (cR l m) k=rP l k:=by
 unfold aR;rw[Gp l h];rfl
theorem Qe (l:List aA) (m:Nat):cR l (m+1)=cR l m++ [rP l m]:=by
 unfold cR;rw[List.range_succ,qE];rfl
theorem Qf (l:List aA) {k:Nat} (h:k<=l.length):(cM l 0).drop k=fI (cM l 0) k::(cM l 0).drop (k+1):=by
 have a:k<(cM l 0).length:=by rw[rO];omega
 rw[iJ a];unfold fI;rw[bH a];rfl
theorem Gq {l:List aA}{k m:Nat}{x:aA} (h:l[k]?=some x) {n:Nat}{c:kL} (hx:gT x n c) (hm:m=k\/m=k+1):gA (aX l) (cM l 0) k (cR l m)= .ok k (cR l (k+1)):=by
 have hk:=(aP.1 h).1;have b:iV (rP l k)=true:=by
  rw[yQ h hx];have h3:=hx.k3;have h5:=hx.k5;unfold iV kM;simp only[bV,eA];omega
 unfold gA;rw[Qf l (by omega),lZ];rcases hm with rfl|rfl
 ·rw[List.getElem?_eq_none (by rw[Qd];exact aD _)];simp only[];have d:(dI (aX l) (fI (cM l 0) m).1 (fI (cM l 0) m).2).2.2=0:=by rw[Qc h hx]
  have a:iV (dI (aX l) (fI (cM l 0) m).1 (fI (cM l 0) m).2).1=true:=b;rw[d,if_neg (by simp),a,if_pos rfl,Qe];rfl
 ·rw[Gp l (jY k)];simp only[];rw[b,if_pos rfl]
theorem Qg (l:List aA) {m:Nat} (hm:m=l.length\/m=l.length+1):gA (aX l) (cM l 0) l.length (cR l m)= .ok (l.length+1) (cR l (l.length+1)):=by
 obtain⟨c,b⟩:=aCw l;have d:(cM l 0).drop (l.length+1)= []:=List.drop_eq_nil_of_le (by rw[rO];exact aD _);unfold gA;rw[Qf l (aD _),d,lZ];rcases hm with rfl|rfl
 ·rw[List.getElem?_eq_none (by rw[Qd];exact aD _)];simp only[];have a:iV (dI (aX l) (fI (cM l 0) l.length).1 (fI (cM l 0) l.length).2).1=false:=b;rw[c,if_neg (by simp),a,if_neg (by simp),lZ,Qe];rfl
 ·rw[Gp l (jY _)];simp only[];rw[b,if_neg (by simp),lZ]
theorem yS {l:List aA}{k:Nat}{x:aA} (h:l[k]?=some x) {a b:Nat} (hb:b<=x.length):fD (aX l) ((dV l k+a:Nat):Int) ((dV l k+b:Nat):Int)=(x.drop a).take (b-a):=by
 unfold fD;rw[eU,eU,<-lP,Gn h,show dV l k+b-(dV l k+a)=b-a by omega];by_cases ha:a<=x.length
 ·rw[List.drop_append_of_le_length ha,List.take_append_of_le_length (by rw[aZ];omega)]
 ·rw[show b-a=0 by omega,List.take_zero,List.take_zero]
theorem Qh {l:List aA}{k:Nat}{x:aA} (h:l[k]?=some x) {a b:Nat} (hab:a<=b) (hb:b<=x.length):jG (aX l) ((dV l k+a:Nat):Int) ((dV l k+b:Nat):Int)=(x.drop a).take (b-a):=by
 have:=yP h;unfold jG;rw[if_neg (by omega),<-yS h hb]
theorem gT.ind {n:Nat}{u:aA}{c:kL} (hcm:dU u) (h32:u.head?≠some 32) (hc:mE u=some c) (h3:3<=c.kind) (h5:c.kind<=5):gT (List.replicate n 32++u) n c:=by
 have a:dU (List.replicate n (32:UInt8)++u):=dU.app (dU.lit (λc hc=>by rw[(List.mem_replicate.1 hc).2];decide)) hcm;have b:(List.replicate n (32:UInt8)++u).drop n=u:=by
  have:=kU (l₁:=List.replicate n (32:UInt8)) (l₂:=u)
  rwa [List.length_replicate] at this
 exact⟨a.no10,a.wr,by rw[aAj,Bn h32,Nat.add_zero],by rw[b];exact hc,h3,h5⟩
theorem Qi (n:Nat) (P T:aA) (h:Nat×Nat) (hT:uI T) (hP:1<=P.length) (hcP:dU P) (hh:eY (P++32::T)=h) (hf:dR h=P.length) (h32:P.head?≠some 32) (h35:P.head?≠some 35) (hq: ¬((P.head?=some 34\/P.head?=some 39)/\cL (P++32::T)=0)) (h3:3<=h.1) (h5:h.1<=5):
  gT (List.replicate n 32++(P++32::T)) n ⟨h.1,h.2,P.length+1,P.length+1+T.length,none⟩:=by
 have a:(P++32::T).head?=P.head?:=by
  cases P with
  | nil=>simp at hP
  | cons c r=>rfl
 refine gT.ind (hcP.app ((dU.lit (l:= [32]) (by decide)).app hT.cm)) (by rw[a];exact h32) ?_ h3 h5;unfold mE;rw[if_neg (by simp),a,if_neg h35,if_neg hq,hh,aCo P T hT h hf hP,show (P++32::T).length=P.length+1+T.length by simp;omega]
theorem Qj (n:Nat) (P:aA) (h:Nat×Nat) (hP:P≠ []) (hcP:dU P) (hh:eY P=h) (hf:dR h=P.length) (h32:P.head?≠some 32) (h35:P.head?≠some 35) (hq: ¬((P.head?=some 34\/P.head?=some 39)/\cL P=0)) (h3:3<=h.1) (h5:h.1<=5):
  gT (List.replicate n 32++P) n ⟨h.1,h.2,P.length,P.length,none⟩:=by
 refine gT.ind hcP h32 ?_ h3 h5;have b:bT P (dR h)=P.length:=by
  unfold bT;rw[hf,List.drop_length];rfl
 have a:dN P (P.length+cL [])=P.length:=vR _ _ _ (aD _) (λh=>absurd h (Nat.lt_irrefl _)) (λj h1 h2=>by omega);unfold mE;rw[if_neg hP,if_neg h35,if_neg hq,hh,b,List.drop_length,a];unfold rG;rw[List.take_length,List.drop_length,if_neg (Nat.lt_irrefl _)];rfl
theorem aCx (T:aA) (hT:uI T) (hh:eY T=(5,0)) (hq: ¬((T.head?=some 34\/T.head?=some 39)/\cL T=0)):
  gT T 0 ⟨5,0,0,T.length,none⟩:=by
 have:=gT.ind (n:=0) (u:=T) (c:=⟨5,0,0,T.length,none⟩) hT.cm hT.h32 ?_ (show 3<=5 by decide) (show 5<=5 by decide)
 ·exact this
 have d:bT T (dR (5,0))=0:=by
  unfold bT;rw[show dR (5,0)=0 from rfl,List.drop_zero,Bn hT.h32]
 have b:dN T (0+cL T)=T.length:=by
  refine vR _ _ _ (aD _) (λh=>absurd h (Nat.lt_irrefl _)) (λj a h2=>?_);rcases hT.q with hq | hq
  ·have:=hq.2 [] (by simp);rw[List.append_nil] at this;rw[this] at a;omega
  ·cases j with
   | zero=>omega
   | succ i=>exact Bm T false hq.2.2 (i+1) (by omega)
 unfold mE;rw[if_neg hT.ne,if_neg hT.h35,if_neg hq,hh,d,List.drop_zero,b];unfold rG;rw[List.take_length,List.drop_zero,Pt hT.last,if_neg (Nat.lt_irrefl _),Nat.zero_add]
structure rQ (P:aA) (h:Nat×Nat):Prop where
 core: ∀(n:Nat) (T:aA),uI T->gT (List.replicate n 32++(P++32::T)) n ⟨h.1,h.2,P.length+1,P.length+1+T.length,none⟩
 bare: ∀n:Nat,gT (List.replicate n 32++P) n ⟨h.1,h.2,P.length,P.length,none⟩
theorem aCy:rQ [45] (3,0):=⟨λn T a=>Qi n [45] T (3,0) a (by simp) (dU.lit (by decide)) (by unfold eY;rw[if_pos (by rfl)]) (by simp[dR]) (by decide) (by decide) (by simp) (by decide) (by decide),
 λn=>Qj n [45] (3,0) (by simp) (dU.lit (by decide)) (by unfold eY;rw[if_pos (by rfl)]) (by simp[dR]) (by decide) (by decide) (by simp) (by decide) (by decide)⟩
theorem Qk (K R:aA) (hK:yO K) (hR:R.head?=none\/R.head?=some 32):eY (K++58::R)=(4,K.length)/\ ¬((K.head?=some 34\/K.head?=some 39)/\cL (K++58::R)=0):=by
 have p:(K++58::R).head?=K.head?:=by
  have:=hK.ne;cases K with
  | nil=>exact absurd rfl this
  | cons c r=>rfl
 have f:(K++58::R)[K.length]?=some 58:=by rw[jO (aD _)];simp
 have m:(K++58::R)[K.length+1]?=R.head?:=by
  rw[jO (by omega),show K.length+1-K.length=1 by omega,bM,List.head?_eq_getElem?]
 have a: ∀j,j<K.length->(K++58::R)[j]?=K[j]?:=λj u=>oL u;have t:eR (K++58::R) K.length 58=true:=by unfold eR;rw[f,m];rcases hR with e | e<;>rw[e]<;>rfl
 have n:0<K.length:=mX.2 hK.ne;rcases hK.q with o | w
 ·have g:=o.2 (58::R) (by simp);have s:=o.1;refine⟨?_,λh=>by rw[g] at h;omega⟩;unfold eY;have l:eR (K++58::R) 0 45=false:=by
   unfold eR;rw[a 0 n,<-List.head?_eq_getElem?];rcases s with e | e<;>rw[e]<;>rfl
  rw[l,if_neg (by simp),p,if_pos s,g,if_pos t]
 ·obtain⟨b1,b2,b3,b4,b5,b6,b7,b8,b9,b10,b11,b12⟩:=Bo w;refine⟨?_,λh=>by rcases h.1 with e | e;exact b7 e;exact b8 e⟩;unfold eY;have l:eR (K++58::R) 0 45=false:=by
   unfold eR;rw[a 0 n];cases e:(K[0]?==some 45) with
   | false=>rfl
   | true=>
    rw[beq_iff_eq] at e;have i:K[1]?≠none/\K[1]?≠some 32:=⟨λh=>b12 ⟨e, .inl h⟩,λh=>b12 ⟨e, .inr h⟩⟩;have k:1<K.length:=by
     refine Nat.lt_of_not_le (λh=>i.1 (List.getElem?_eq_none h))
    rw[a 1 k,aG.2 i.1,aG.2 i.2];rfl
  rw[l,if_neg (by simp),p,if_neg (by rintro(e | e);exact b7 e;exact b8 e),if_neg (by rintro(e | e);exact b9 e;exact b10 e)];have d:K.length<dN (K++58::R) 0:=by
   obtain⟨g1,g2,g3⟩:=vQ (K++58::R) 0;refine Nat.lt_of_not_le (λhle=>?_);have hlen:(K++58::R).length=K.length+(R.length+1):=(by simp);obtain⟨k1,k2,k3⟩:=g2 (by omega);by_cases he:dN (K++58::R) 0=K.length
   ·rw[he,f] at k2;exact absurd k2 (by decide)
   ·rw[a _ (by omega)] at k2 k3;exact Bm K false (Gl K b11) _ (by omega) ⟨k2,k3⟩
  refine Pu _ _ _ d t _ 1 (by omega) (by simp;omega) (λj i k=>?_);unfold eR;rw[a j k];cases e:(K[j]?==some 58) with
  | false=>rfl
  | true=>
   rw[beq_iff_eq] at e;have b:j+1<K.length:=by
    refine Nat.lt_of_le_of_ne k (λe2=>b6 ?_);rw[List.getLast?_eq_getElem?,<-e2,Nat.add_sub_cancel];exact e
   rw[a _ b];have v:K[j+1]?≠some 32:=λh=>Gm K b11 j ⟨e,h⟩;have x:K[j+1]?≠none:=by rw[Ne,Dq];omega
   rw[aG.2 v,aG.2 x];rfl
theorem aCz {K:aA} (hK:yO K):rQ (K++ [58]) (4,K.length):=by
 have a:(K++ [58]:aA).head?=K.head?:=by
  have:=hK.ne;cases K with
  | nil=>exact absurd rfl this
  | cons c r=>rfl
 refine⟨λn T f=>?_,λn=>?_⟩
 ·obtain⟨b,d⟩:=Qk K (32::T) hK (.inr rfl);have e:K++58::32::T=(K++ [58])++32::T:=by simp
  exact Qi n (K++ [58]) T (4,K.length) f (by simp) (hK.cm.app (dU.lit (by decide))) (by rw[<-e];exact b) (by simp[dR]) (by rw[a];exact hK.h32) (by rw[a];exact hK.h35) (by rw[a,<-e];exact d) (show 3<=4 by decide) (show 4<=5 by decide)
 ·obtain⟨b,d⟩:=Qk K [] hK (.inl rfl);exact Qj n (K++ [58]) (4,K.length) (by simp) (hK.cm.app (dU.lit (by decide))) b (by simp[dR]) (by rw[a];exact hK.h32) (by rw[a];exact hK.h35) (by rw[a];exact d) (show 3<=4 by decide) (show 4<=5 by decide)
theorem Ql {t:aA} (c:Nat) (h: ∀j,eR t j 58=false): ∀(f k:Nat),nX t c f k=(5,0)
 | 0,_=>rfl
 | f+1,k=>by
  rw[nX,h k];split
  ·rfl
  ·rw[if_neg (by simp)];exact Ql c h f (k+1)
theorem aCA {K:aA} (hb:fH K=true):eY K=(5,0)/\ ¬((K.head?=some 34\/K.head?=some 39)/\cL K=0):=by
 obtain⟨b1,b2,b3,b4,b5,b6,b7,b8,b9,b10,b11,b12⟩:=Bo hb;refine⟨?_,λh=>by rcases h.1 with e | e;exact b7 e;exact b8 e⟩;unfold eY;have c:eR K 0 45=false:=by
  unfold eR;cases e:(K[0]?==some 45) with
  | false=>rfl
  | true=>
   rw[beq_iff_eq] at e;have a:K[1]?≠none/\K[1]?≠some 32:=⟨λh=>b12 ⟨e, .inl h⟩,λh=>b12 ⟨e, .inr h⟩⟩;rw[aG.2 a.1,aG.2 a.2];rfl
 rw[c,if_neg (by simp),if_neg (by rintro(e | e);exact b7 e;exact b8 e),if_neg (by rintro(e | e);exact b9 e;exact b10 e)];refine Ql _ (λj=>?_) _ _;unfold eR;cases e:(K[j]?==some 58) with
 | false=>rfl
 | true=>
  rw[beq_iff_eq] at e;have b:=(aP.1 e).1;have hlast:j+1<K.length:=by
   refine Nat.lt_of_le_of_ne b (λe2=>b6 ?_);rw[List.getLast?_eq_getElem?,<-e2,Nat.add_sub_cancel];exact e
  have d:K[j+1]?≠some 32:=λh=>Gm K b11 j ⟨e,h⟩;have f:K[j+1]?≠none:=by rw[Ne,Dq];omega
  rw[aG.2 d,aG.2 f];rfl
theorem aCB {K:aA} (h:wE K):eY K=(5,0)/\ ¬((K.head?=some 34\/K.head?=some 39)/\cL K=0):=by
 have a:=h.q.2 [] (by simp);rw[List.append_nil] at a;have h0:0<K.length:=mX.2 h.ne;refine⟨?_,λe=>by omega⟩;unfold eY;have b:eR K 0 45=false:=by
  unfold eR;rw[<-List.head?_eq_getElem?];rcases h.q.1 with e | e<;>rw[e]<;>rfl
 have c:eR K K.length 58=false:=by
  unfold eR;rw[List.getElem?_eq_none (aD _)];rfl
 rw[b,if_neg (by simp),if_pos h.q.1,a,c];rfl
structure Bq (W:aA) (t:VT):Prop where
 tx:uI W
 hd:eY W=(5,0)/\ ¬((W.head?=some 34\/W.head?=some 39)/\cL W=0)
 rd:iU W=(t,0)
theorem Bq.bare {W:aA}{t:VT} (h:fH W=true) (hr:lG W=t):Bq W t:=⟨aCp h,aCA h,by rw[aBZ h,hr]⟩
theorem Qm {c d:UInt8}{t:VT} (h:(c=91/\d=93)\/(c=123/\d=125)) (hr:iU [c,d]=(t,0)):Bq [c,d] t:=by
 refine⟨⟨dU.lit ?_,by simp,?_,?_,?_, .inr ⟨?_,?_,?_⟩⟩,?_,hr⟩<;>rcases h with⟨rfl,rfl⟩ | ⟨rfl,rfl⟩<;>decide+kernel
theorem yU {t:VT} (hR:cY t=true) (h0:t.items= []):Bq (cZ t).1 t:=by
 obtain⟨k,s,ks,l⟩:=t;have h0:l= []:=h0;obtain⟨d,_⟩:=Bj (wA hR);unfold cE sS sR at d;simp only[bV,eA] at d;obtain⟨h7,d⟩:=d;change (if k=5 then !decide (0<ks.length)&&s.isEmpty else if k=6 then pY ks l.length&&s.isEmpty else if(decide (0<ks.length)||decide (0<l.length))=true then false else if k=1 then s.isEmpty else if k=2 then decide (s=mG)||decide (s=mH) else if k=3 then nY s else if k=4 then validD s else false)=true at d;have f:k≠4->(cZ (.mk k s ks l)).1=bU false (fE (.mk k s ks l)):=λe=>by
  unfold cZ;rw[if_pos hR,if_neg (show ¬(VT.mk k s ks l).kind=4 from e),Gh]
 by_cases h5:k=5
 ·subst h5 h0;rw[if_pos rfl] at d;simp only[bV,Bool.not_eq_true',decide_eq_false_iff_not] at d;obtain rfl:ks= []:=List.length_eq_zero_iff.1 (by omega);obtain rfl:s= []:=by simpa using d.2
  rw[f (by decide),show bU false (fE (.mk 5 [] [] []))= [91,93] by decide+kernel];exact Qm (.inl ⟨rfl,rfl⟩) (by with_unfolding_all rfl)
 rw[if_neg h5] at d;by_cases h6:k=6
 ·subst h6 h0;rw[if_pos rfl] at d;unfold pY at d;simp only[bV,eA] at d;obtain rfl:ks= []:=List.length_eq_zero_iff.1 d.1.2;obtain rfl:s= []:=by simpa using d.2
  rw[f (by decide),show bU false (fE (.mk 6 [] [] []))= [123,125] by decide+kernel];exact Qm (.inr ⟨rfl,rfl⟩) (by with_unfolding_all rfl)
 rw[if_neg h6] at d;by_cases he:(decide (0<ks.length)||decide (0<l.length))=true
 ·rw[if_pos he] at d;cases d
 rw[if_neg he] at d;obtain rfl:ks= []:=by
  simp only[Bool.or_eq_true,eA,not_or] at he;exact List.length_eq_zero_iff.1 (by omega)
 subst h0;by_cases e1:k=1
 ·subst e1;rw[if_pos rfl] at d;obtain rfl:s= []:=by simpa using d
  rw[f (by decide),show bU false (fE (.mk 1 [] [] []))=nG by decide+kernel];exact .bare (by decide+kernel) rfl
 rw[if_neg e1] at d;by_cases e2:k=2
 ·subst e2;rw[if_pos rfl] at d;simp only[Bool.or_eq_true,eA] at d;rcases d with rfl|rfl
  ·rw[f (by decide),show bU false (fE (.mk 2 mG [] []))=mG by decide+kernel];exact .bare (by decide+kernel) rfl
  ·rw[f (by decide),show bU false (fE (.mk 2 mH [] []))=mH by decide+kernel];exact .bare (by decide+kernel) rfl
 rw[if_neg e2] at d;by_cases e3:k=3
 ·subst e3;rw[if_pos rfl] at d;rw[f (by decide),show fE (.mk 3 s [] [])=s by rw[fE];simp,Pd s false (λc j=>by have:=aBV ⟨c.toNat,c.toNat_lt⟩;simp only[UInt8.ofNat_toNat] at this;have h:=this ((Gk d).1 c j);exact⟨h.1,h.2.1⟩)];exact .bare (aCe d) (aCf d)
 rw[if_neg e3] at d;by_cases e4:k=4
 ·subst e4;rw[if_pos rfl] at d;have g:cZ (.mk 4 s [] [])=if(fH s&&decide ((lX s).1=4))=true then(s,0) else jS s:=by
   unfold cZ;rw[if_pos hR];rfl
  rw[g];by_cases hb:(fH s&&decide ((lX s).1=4))=true
  ·rw[if_pos hb];simp only[bV,eA] at hb;refine .bare hb.1 ?_;have e:=hb.2;unfold lG;unfold lX at e ⊢;by_cases a:s= []\/s=nG\/s= [126]
   ·rw[if_pos a] at e;exact absurd e (by decide)
   rw[if_neg a] at e ⊢;by_cases b:s=mG\/s=mH
   ·rw[if_pos b] at e;exact absurd e (show ¬(2:Int)=4 by decide)
   rw[if_neg b] at e ⊢;by_cases c:(cO s).2=0
   ·rw[if_pos c] at e;exact absurd e (show ¬(3:Int)=4 by decide)
   rw[if_neg c]
  ·rw[if_neg hb];obtain⟨_,q1,q2⟩:=Pj s d;have i:=Pw s d;exact⟨i.tx,aCB i,(Pk q1 q2).1⟩
 rw[if_neg e4] at d;cases d
end
section
open Go.Lib
theorem aCC {s:aA}{V:YB}{map:Bool}{had had':List aA}{k:Nat}{st:YS}{R:YR} (h:gC s V map had k st=(R,had')):had'.length<=had.length+1:=by
 unfold gC at h;split at h
 ·simp only[] at h;split at h
  ·injection h with b a;rw[<-a];omega
  ·split at h
   ·injection h with b a;rw[<-a];omega
   ·injection h with b a;rw[<-a,aL];omega
 ·injection h with b a;rw[<-a];omega
theorem aCD {s:aA}{sp:List (Nat×Nat)}{V:YB} (hV:iD s sp V) {map:Bool}{n:Nat}{ind:Int}{had had':List aA}{k nx:Nat}{st s3:YS} (hw:eL s sp st) (hk:k+1=st.lines.length) {x:aM} (hx:st.nodes[n]?=some x) (h:iC s sp V map n ind had k st= .ok nx s3 had'):
  (∃x',s3.nodes[n]?=some x'/\x'.ind=x.ind/\x'.kids.length=x.kids.length+1)/\st.nodes.length<s3.nodes.length/\had'.length<=had.length+1:=by
 have g:=yI hV map had hw hk;unfold iC at h;obtain⟨⟨Q,had2⟩,f⟩:=exQ<|gC s V map had k st;have i:=aCC f;rw[f] at h g;cases Q with
 | bad a e=>cases h
 | ok kid s2=>
  obtain⟨g1,⟨m1,g2n,g2⟩,_,_,_,_⟩:=(show mO s sp k st kid s2 from g);simp only[] at h;split at h
  ·cases h
  ·split at h
   ·cases h
   ·injection h with e1 e2 e3;have d:=(aP.1 hx).1;have b:s2.nodes[n]?=some x:=by rw[g2,oL d];exact hx
    have c:=(aP.1 b).1;subst e2 e3;refine⟨?_,?_,i⟩
    ·simp only[];unfold mL;rw[yH _ n _ x b,List.getElem?_set_self c];exact⟨_,rfl,rfl,by simp⟩
    ·simp only[];unfold mL;rw[Fw,g2,aI];have:=mX.2 g2n;omega
theorem aCE {l:List aM}{n:Nat}{x:aM} (h:l[n]?=some x): ∃post,l=l.take n++x::post:=by
 obtain⟨a,b⟩:=aP.1 h;refine⟨l.drop (n+1),?_⟩;rw[<-b,<-iJ a,mC]
theorem Qn {s:aA}{sp:List (Nat×Nat)} (hsp:eS s sp) {V:YB} (hV:iD s sp V) {map:Bool}{n:Nat}{ind:Int}{had had':List aA}{k nx:Nat}{st s3:YS} (hw:eL s sp st) (hk:k+1=st.lines.length) {x:aM} (hx:st.nodes[n]?=some x) (h:iC s sp V map n ind had k st= .ok nx s3 had'):
  (∃x',s3.nodes[n]?=some x'/\x'.ind=x.ind/\x'.kids.length=x.kids.length+1)/\st.nodes.length<s3.nodes.length/\had'.length<=had.length+1/\eL s sp s3/\nx<=sp.length/\k<nx/\(nx<sp.length->nx+1=s3.lines.length):=by
 obtain⟨c,d,e⟩:=aCD hV hw hk hx h;obtain⟨post,b⟩:=aCE hx;have hl:=(aP.1 hx).1;have a:=Fy hsp hV map (n:=n) ind had (k0:=k) (st0:=⟨[],st.nodes.take n,0⟩) hw hk (aD _) (by simp only[cB];omega) ⟨x,post,b⟩ ⟨st.lines,rfl⟩;rw[h] at a;exact⟨c,d,e,a.1.wf,a.1.k.1,a.2,a.1.k.2.2⟩
theorem Br {s:aA}{sp:List (Nat×Nat)}{V:YB}{map:Bool}{n:Nat}{ind kind:Int}{f:Nat}{had:List aA}{k:Nat}{st:YS} (h: ¬(k<sp.length/\(aR st.lines k).ind=ind/\(aR st.lines k).kind=kind)):kO s sp V map n ind kind f had k st= .ok n st:=by
 cases f with
 | zero=>rfl
 | succ f=>unfold kO;rw[if_neg h]
theorem Qo {s:aA}{sp:List (Nat×Nat)}{V:YB} (hV:iD s sp V) {map:Bool}{had:List aA}{k:Nat}{st:YS} (hw:eL s sp st) (hk:k+1=st.lines.length) {n:Nat}{x:aM} (hx:st.nodes[n]?=some x) (hl:x.kids.length<=131072): ∀(s2:YS) kid had',gC s V map had k st=(.ok kid s2,had')-> ∀y,s2.nodes[n]?=some y->y.kids.length<=131072:=by
 intro s2 kid had' h y a;have b:=yI hV map had hw hk;rw[h] at b;obtain⟨g1,⟨m1,g2n,g2⟩,_⟩:=(show mO s sp k st kid s2 from b);rw[g2,oL (aP.1 hx).1,hx] at a;obtain rfl:=bC a;exact hl
end
section
open Go.Lib hiding intOf
def kQ (map:Bool) (key:aA):aA:=if map then(eD key).1++ [58] else [45]
def tA (map:Bool) (key:aA):Nat×Nat:=if map then(4,(eD key).1.length) else(3,0)
mutual
def gN:VT->aA->Nat->List aA
 | .mk k s ks l,hd,ind=>if l.isEmpty then [List.replicate ind 32++(hd++32::(cZ (.mk k s ks l)).1)] else(List.replicate ind 32++hd)::cJ l (decide (k=6)) ks (ind+2)
def cJ:List VT->Bool->List aA->Nat->List aA
 | [],_,_,_=> []
 | x::l,map,ks,ind=>gN x (kQ map (ks.headD [])) ind++cJ l map ks.tail ind
end
theorem wF {map:Bool}{key:aA} (hv:map=true->validD key=true):rQ (kQ map key) (tA map key):=by
 cases map with
 | false=>exact aCy
 | true=>exact aCz (aCv key (hv rfl))
theorem yV {t:VT} (hR:cY t=true) {hd:aA}{h:Nat×Nat} (hH:rQ hd h) (ind:Nat): ∃z c r,gN t hd ind=z::r/\gT z ind c/\c.kind=h.1/\c.key=h.2:=by
 obtain⟨k,s,ks,l⟩:=t;unfold gN;split
 ·rename_i a;exact⟨_,_,_,rfl,hH.core ind _ (yU hR (List.isEmpty_iff.1 a:l= [])).tx,rfl,rfl⟩
 ·exact⟨_,_,_,rfl,hH.bare ind,rfl,rfl⟩
def nK (l:List aA) (e b:Nat):Prop:=e=l.length\/ ∃x n c,l[e]?=some x/\gT x n c/\n<b
theorem nK.mono {l:List aA}{e b b':Nat} (h:nK l e b) (hb:b<=b'):nK l e b':=by
 rcases h with h | ⟨x,n,c,a,d,h3⟩
 ·exact .inl h
 ·exact .inr ⟨x,n,c,a,d,by omega⟩
def oW (l:List aA) (k:Nat):Nat:=if k<l.length then k else l.length+1
theorem aCF {l:List aA}{e b m:Nat} (hN:nK l e b) (hm:m=e\/m=e+1):gA (aX l) (cM l 0) e (cR l m)= .ok (oW l e) (cR l (e+1)):=by
 unfold oW;rcases hN with rfl | ⟨x,n,c,h,a,_⟩
 ·rw[Qg l hm,if_neg (Nat.lt_irrefl _)]
 ·rw[Gq h a hm,if_pos (aP.1 h).1]
theorem Qp {l:List aA}{e b:Nat} (hN:nK l e b): ¬(oW l e<(cM l 0).length/\(b:Int)<=(aR (cR l (e+1)) (oW l e)).ind):=by
 rintro⟨d,a⟩;unfold oW at d a;rw[rO] at d;rcases hN with rfl | ⟨x,n,c,h,f,hn⟩
 ·rw[if_neg (Nat.lt_irrefl _)] at d;omega
 ·rw[if_pos (aP.1 h).1,Bp l (jY e),yQ h f] at a;have a:(b:Int)<=(n:Int):=a;omega
theorem wG {l:List aA}{k:Nat}{z:aA}{r:List aA} (h:l.drop k=z::r):l[k]?=some z:=by
 have:(l.drop k)[0]?=some z:=by rw[h];rfl
 rwa [nO] at this
theorem Qq {l:List aA}{k:Nat}{a r:List aA} (h:l.drop k=a++r):l.drop (k+a.length)=r:=by
 rw[<-lP,h,kU]
def wH (l:List aA) (new:List aM) (n:Nat) (t:VT) (kf kt:Int) (e:Nat):Prop:=
 (∃x r,new=x::r/\x.kf=kf/\x.kt=kt/\x.til=e)/\ ∀(pre post:List aM) (ls:List aO) (L:Nat),pre.length=n->t.depth<=L->bE (aX l) ⟨ls,pre++(new++post)⟩ L n=t
def Bs (t:VT):Prop:=cY t=true-> ∀(l:List aA) (hd:aA) (h:Nat×Nat) (ind lv k:Nat) (kf kt:Int) (R:List aA) (ns:List aM) (tot:Nat),
 rQ hd h->(aX l).length<=65536->l.drop k=gN t hd ind++R->nK l (k+(gN t hd ind).length) (ind+1)->t.depth<=lv->tot+t.size<=4096->
 ∃m new,lI (aX l) (cM l 0) (kC (aX l) (cM l 0) lv) lv k kf kt ⟨cR l (k+1),ns,tot⟩= .ok ns.length ⟨cR l m,ns++new,tot+t.size⟩/\(m=k+(gN t hd ind).length\/m=k+(gN t hd ind).length+1)/\wH l new ns.length t kf kt (k+(gN t hd ind).length)
def uJ (xs:List VT):Prop:=(∀x∈xs,cY x=true)-> ∀(map:Bool) (keys:List aA) (l:List aA) (ind lv k f:Nat) (R:List aA) (pre mid:List aM) (x0:aM) (tot:Nat) (had:List aA),
 (aX l).length<=65536->l.drop k=cJ xs map keys ind++R->nK l (k+(cJ xs map keys ind).length) ind->cC xs<=lv->tot+dX xs<=4096->xs.length<=f->(map=true->mF had keys=true/\keys.length=xs.length)->
 ∃new ks til,kO (aX l) (cM l 0) (lI (aX l) (cM l 0) (kC (aX l) (cM l 0) lv) lv) map pre.length (ind:Int) (if map then 4 else 3) f had (oW l k) ⟨cR l (k+1),pre++x0::mid,tot⟩= .ok pre.length ⟨cR l (k+(cJ xs map keys ind).length+1),pre++ { x0 with kids:=x0.kids++ks,til:=til }::(mid++new),tot+dX xs⟩/\
  (xs≠ []->til=k+(cJ xs map keys ind).length)/\(xs= []->til=x0.til)/\
  ∀(pre2 post:List aM) (x2:aM) (mid2:List aM) (ls:List aO) (L:Nat),pre2.length=pre.length->mid2.length=mid.length->cC xs<=L->ks.map (bE (aX l) ⟨ls,pre2++x2::(mid2++(new++post))⟩ L)=xs/\(map=true->ks.map (nJ (aX l) (pre2++x2::(mid2++(new++post))))=keys)
theorem aCG:uJ []:=by
 intro _ map keys l ind lv k f R pre mid x0 tot had hs hl a hd ht hf d;refine⟨[],[],x0.til,?_,λh=>absurd rfl h,λ_=>rfl,λpre2 post x2 mid2 ls L _ _ _=>⟨rfl,λb=>?_⟩⟩
 ·have a:nK l k ind:=a;have c:=Qp a;rw[Br (λh=>c ⟨h.1,by rw[h.2.1];exact Int.le_refl _⟩)];simp[cJ,dX]
 ·obtain⟨_,h⟩:=d b;rw[List.length_eq_zero_iff.1 h];rfl
theorem aCH {l:List aA}{k ind:Nat}{z:aA} (hz:l[k]?=some z) {map:Bool}{key:aA}{c:kL}{tl:aA} (hzt:z=List.replicate ind 32++(kQ map key++tl)) (hc:gT z ind c) (h1:c.kind=(tA map key).1) (h2:c.key=(tA map key).2) (V:YB) (had:List aA) (st:YS) (hst:st.lines=cR l (k+1)) (hm:map=true->validD key=true/\ ¬key∈had):
  gC (aX l) V map had k st=(V k (if map then((dV l k+ind:Nat):Int) else 0) (if map then((dV l k+(ind+(eD key).1.length):Nat):Int) else 0) st,if map then key::had else had):=by
 unfold gC;cases map with
 | false=>rfl
 | true=>
  obtain⟨b,d⟩:=hm rfl;have e1:(aR st.lines k).kf=((dV l k+ind:Nat):Int):=by
   rw[hst,Bp l (jY k),yQ hz hc];unfold kM;simp only[h1];rfl
  have e2:(aR st.lines k).kt=((dV l k+(ind+(eD key).1.length):Nat):Int):=by
   rw[hst,Bp l (jY k),yQ hz hc];unfold kM;simp only[h1,h2];rw[if_pos (show (tA true key).1=4 from rfl)];have:(tA true key).2=(eD key).1.length:=rfl;rw[this];push_cast;omega
  have e3:fD (aX l) ((dV l k+ind:Nat):Int) ((dV l k+(ind+(eD key).1.length):Nat):Int)=(eD key).1:=by
   rw[yS hz (by rw[hzt];simp[kQ]),hzt];have a:=kU (l₁:=List.replicate ind (32:UInt8)) (l₂:=kQ true key++tl);rw[List.length_replicate] at a;rw[a,show ind+(eD key).1.length-ind=(eD key).1.length by omega];unfold kQ;rw[if_pos rfl,dY,List.take_left]
  rw[if_pos rfl,e1,e2,e3];simp only[(Pn key b).2];rw[if_neg (by simp),if_neg d];rfl
theorem yW {t x:VT} (h:cY t=true) (hx:x∈t.items):cY x=true:=by
 obtain⟨k,s,ks,l⟩:=t;have hx:x∈l:=hx;unfold cY at h ⊢;simp only[bV,eA] at h ⊢;obtain⟨⟨c,d⟩,e⟩:=h;have a:=Ug hx;have b:=zM hx;rw[VT.size] at c;rw[VT.depth] at d;exact⟨⟨by omega,by omega⟩,(Bj e).2 x hx⟩
theorem Qr: ∀t:VT,1<=t.depth
 | .mk _ _ _ l=>by rw[VT.depth];omega
theorem uK {l:List aA}{k ind:Nat}{z:aA} (hz:l[k]?=some z) {c:kL} (hc:gT z ind c) {m:Nat} (hm:k<m):(aR (cR l m) k).rf=((dV l k+(ind+c.rf):Nat):Int)/\(aR (cR l m) k).rt=((dV l k+(ind+c.rt):Nat):Int)/\(aR (cR l m) k).ind=(ind:Int)/\(aR (cR l m) k).kind=(c.kind:Int):=by
 rw[Bp l hm,yQ hz hc];unfold kM;refine⟨?_,?_,rfl,rfl⟩
 ·simp only[];push_cast;omega
 ·simp only[];push_cast;omega
theorem Qs {l:List aA}{t:VT} (hR:cY t=true) (h0:t.items= []) {k lv:Nat}{z:aA}{a b:Nat} (hz:l[k]?=some z) {ln:List aO} (e1:(aR ln k).rf=((dV l k+a:Nat):Int)) (e2:(aR ln k).rt=((dV l k+b:Nat):Int)) (hab:a<=b) (hb:b<=z.length) (hz2:(z.drop a).take (b-a)=(cZ t).1) (hs:(aX l).length<=65536) (kf kt:Int) (ns:List aM) (tot:Nat) (hd:t.depth<=lv) (ht:tot+t.size<=4096):
  ∃x,kB (aX l) lv k kf kt ⟨ln,ns,tot⟩= .ok ns.length ⟨ln,ns++ [x],tot+t.size⟩/\wH l [x] ns.length t kf kt (k+1):=by
 have hzl:=yP hz;have d:=(yU hR h0).rd;have e:=yS hz (a:=a) (b:=b) hb;have c:=Qh hz hab hb;rw[hz2] at e c;have hdp:=Qr t;have hsz:=rA t;refine⟨⟨1,(aR ln k).ind,k,k+1,kf,kt,(aR ln k).rf,(aR ln k).rt,[]⟩,?_,⟨_,_,rfl,rfl,rfl,rfl⟩,?_⟩
 ·unfold kB jE;rw[if_neg (by omega),if_neg (show ¬4096<=tot by omega)];simp only[];rw[e1,e2,e,d];simp only[];rw[if_neg (by simp),if_neg (by omega),if_neg (by omega),show tot+1+t.size-1=tot+t.size by omega]
 ·intro pre post ls L f hL;obtain⟨L,rfl⟩: ∃L',L=L'+1:=⟨L-1,by omega⟩;rw[bE];have:(pre++([(⟨1,(aR ln k).ind,k,k+1,kf,kt,(aR ln k).rf,(aR ln k).rt,[]⟩:aM)]++post))[ns.length]?=some ⟨1,(aR ln k).ind,k,k+1,kf,kt,(aR ln k).rf,(aR ln k).rt,[]⟩:=by
   rw[<-f,jO (aD _),Nat.sub_self];rfl
  rw[this];simp only[];rw[if_pos trivial,e1,e2,c,d]
theorem aCI {t:VT} (h0:t.items= []):Bs t:=by
 intro p l a h ind lv k kf kt R ns tot u z o w m A;obtain⟨kk,s,ks,it⟩:=t;obtain rfl:it= []:=h0;obtain⟨W,g⟩:=exQ<|(cZ (.mk kk s ks [])).1;have y:gN (.mk kk s ks []) a ind= [List.replicate ind 32++(a++32::W)]:=by rw[gN,g];rfl
 rw[y] at o w ⊢;have f:=wG (r:=R) o;have c:=yU p rfl;have j:=c.tx;rw[g] at j;have n:=u.core ind _ j;obtain⟨e1,e2,_,_⟩:=uK f n (jY k);simp only[] at e1 e2;have hzl:=yP f;have hlen:(List.replicate ind (32:UInt8)++(a++32::W)).length=ind+(a.length+1+W.length):=by simp;omega
 have d:((List.replicate ind (32:UInt8)++(a++32::W)).drop (ind+(a.length+1))).take (ind+(a.length+1+W.length)-(ind+(a.length+1)))=W:=by
  have v:(List.replicate ind (32:UInt8)++(a++32::W)).drop (ind+(a.length+1))=W:=by
   have e:(List.replicate ind (32:UInt8)++(a++32::W))=(List.replicate ind 32++(a++ [32]))++W:=(by simp);rw[e,show ind+(a.length+1)=(List.replicate ind (32:UInt8)++(a++ [32])).length by simp,kU]
  rw[v,xH (by omega)]
 obtain⟨x,q,i⟩:=Qs p rfl f e1 e2 (by omega) (by omega) (by rw[g];exact d) z kf kt ns tot m A;have b:=c.rd;rw[g] at b;have n1:W≠ [124]:=λe=>by
  have:(iU [124]).2=0:=by rw[<-e,b]
  exact absurd this (by decide+kernel)
 have n2:W≠ [124,45]:=λe=>by
  have:(iU [124,45]).2=0:=by rw[<-e,b]
  exact absurd this (by decide+kernel)
 refine⟨k+1,[x],?_, .inl rfl,i⟩;unfold lI;simp only[];rw[e1,e2,yS f (by omega),d,if_neg (by rintro(e | e);exact n1 e;exact n2 e),if_neg j.ne];exact q
theorem Qt: ∀(xs:List VT) (map:Bool) (keys:List aA) (ind:Nat),xs.length<=(cJ xs map keys ind).length
 | [],_,_,_=>cH _
 | x::xs,map,keys,ind=>by
  have ih:=Qt xs map keys.tail ind;have:1<=(gN x (kQ map (keys.headD [])) ind).length:=by
   obtain⟨k,s,ks,l⟩:=x;rw[gN];split<;>simp
  rw[cJ,aI,aL];omega
theorem qQ {had keys:List aA}{n:Nat} (h:mF had keys=true/\keys.length=n+1):validD (keys.headD [])=true/\ ¬keys.headD []∈had/\(mF (keys.headD []::had) keys.tail=true/\keys.tail.length=n)/\keys=keys.headD []::keys.tail:=by
 obtain⟨a,b⟩:=h;cases keys with
 | nil=>simp at b
 | cons y ys=>
  rw[mF] at a;simp only[bV,Bool.not_eq_true',decide_eq_false_iff_not] at a;exact⟨a.1.2,a.1.1,⟨a.2,by simpa using b⟩,rfl⟩
set_option maxHeartbeats 1000000 in
theorem aCJ {x:VT}{xs:List VT} (hX:Bs x) (hXS:uJ xs):uJ (x::xs):=by
 intro hR map keys l ind lv k f R pre mid x0 tot g hs D T hd ht hf U;have Q:=hR x (fV ..);obtain⟨key,j⟩:=exQ<|keys.headD [];have F:map=true->validD key=true/\ ¬key∈g:=λn=>by
  obtain⟨a,b,_⟩:=qQ (U n);rw[j] at a b;exact⟨a,b⟩
 have hH:=wF (λn=>(F n).1);rw[cC] at hd;rw[dX] at ht;have C:cJ (x::xs) map keys ind=gN x (kQ map key) ind++cJ xs map keys.tail ind:=by rw[cJ,j]
 rw[C] at D T ⊢;rw[dY] at D;obtain⟨z,c,r,t,I,N,X⟩:=yV Q hH ind;have E:l[k]?=some z:=by rw[t,cU] at D;exact wG D
 have p: ∃tl,z=List.replicate ind 32++(kQ map key++tl):=by
  obtain⟨kk,s,ks,it⟩:=x;rw[gN] at t;split at t
  ·injection t with t;exact⟨_,t.symm⟩
  ·injection t with t;exact⟨[],by rw[List.append_nil];exact t.symm⟩
 obtain⟨tl,p⟩:=p;have aa:=(aP.1 E).1;obtain⟨len,i⟩:=exQ<|(gN x (kQ map key) ind).length;have q:=Qq D;rw[i] at q;rw[aI,i] at T ⊢;have B:nK l (k+len) (ind+1):=by
  cases xs with
  | nil=>exact(show nK l (k+len) ind from T).mono (tU _)
  | cons y ys=>
   have Z:=hR y (List.mem_cons_of_mem _ (fV ..));have ad:rQ (kQ map (keys.tail.headD [])) (tA map (keys.tail.headD [])):=wF (λn=>by obtain⟨_,_,S,_⟩:=qQ (U n);exact(qQ S).1);obtain⟨z2,c2,r2,ab,J,_,_⟩:=yV Z ad ind;rw[cJ,ab,cU,cU] at q;exact .inr ⟨z2,ind,c2,wG q,J,jY _⟩
 obtain⟨f,rfl⟩: ∃f',f=f'+1:=⟨f-1,by rw[aL] at hf;omega⟩;rw[aL] at hf;obtain⟨KF,H⟩:=exQ (if map then((dV l k+ind:Nat):Int) else 0);obtain⟨KT,O⟩:=exQ (if map then((dV l k+(ind+(eD key).1.length):Nat):Int) else 0);have V:l.drop k=gN x (kQ map key) ind++(cJ xs map keys.tail ind++R):=D;obtain⟨m,new1,hv,n,⟨x1,r1,K,k1,k2,k3⟩,v⟩:=hX Q l _ _ ind lv k KF KT _ (pre++x0::mid) tot hH hs V (by rw[i];exact B) (by omega) (by omega);rw[i] at n k3;have u:=aCH E p I N X (lI (aX l) (cM l 0) (kC (aX l) (cM l 0) lv) lv) g ⟨cR l (k+1),pre++x0::mid,tot⟩ rfl F;rw[H,O,hv] at u;obtain⟨n1,o⟩:=exQ<|(pre++x0::mid).length;obtain⟨new2,ks2,til2,ih1,ih2,ih3,ih4⟩:=hXS (λy hy=>hR y (List.mem_cons_of_mem _ hy)) map keys.tail l ind lv (k+len) f R pre (mid++new1) { x0 with kids:=x0.kids++ [n1],til:=k+len } (tot+x.size) (if map then key::g else g) hs q (by rw[Nat.add_assoc];exact T) (by omega) (by omega) (by omega) (λn=>by obtain⟨_,_,S,_⟩:=qQ (U n);rw[j] at S;rw[if_pos n];exact S);refine⟨new1++new2,n1::ks2,til2,?_,λ_=>?_,λh=>absurd h (by simp),?_⟩
 ·have P:oW l k=k:=by unfold oW;rw[if_pos aa]
  obtain⟨_,_,e3,e4⟩:=uK E I (jY k);have e4:(aR (cR l (k+1)) k).kind=(if map then 4 else 3:Int):=by
   rw[e4,N];cases map<;>rfl
  rw[P,kO];simp only[];rw[if_pos ⟨by rw[rO];omega,e3,e4⟩];have A:iC (aX l) (cM l 0) (lI (aX l) (cM l 0) (kC (aX l) (cM l 0) lv) lv) map pre.length (ind:Int) g k ⟨cR l (k+1),pre++x0::mid,tot⟩= .ok (oW l (k+len)) ⟨cR l (k+len+1),pre++ { x0 with kids:=x0.kids++ [n1],til:=k+len }::(mid++new1),tot+x.size⟩ (if map then key::g else g):=by
   unfold iC;rw[u];simp only[];have M:gB ((pre++x0::mid)++new1) (pre++x0::mid).length=k+len:=(by rw[K,Bc,k3]);rw[M,aCF B n];simp only[];rw[if_neg (λh=>Qp B ⟨h.1,by have:=h.2;push_cast;omega⟩)];unfold mL;rw[M,o,dY,cU,Oc]
  rw[A];simp only[];rw[ih1];congr 1;rw[show k+len+(cJ xs map keys.tail ind).length+1=k+(len+(cJ xs map keys.tail ind).length)+1 by omega,dX];simp[dY,Nat.add_assoc]
 ·cases xs with
  | nil=>rw[ih3 rfl];rfl
  | cons y ys=>rw[ih2 (by simp)];omega
 ·intro pre2 post x2 mid2 ls L hp w hL;rw[cC] at hL;have g1:=v (pre2++x2::mid2) (new2++post) ls L (by simp[hp,w]) (by omega);have g2:=ih4 pre2 post x2 (mid2++new1) ls L hp (by simp[w]) (by omega);have e:pre2++x2::(mid2++(new1++new2++post))=(pre2++x2::mid2)++(new1++(new2++post)):=by simp
  have e2:pre2++x2::(mid2++(new1++new2++post))=pre2++x2::(mid2++new1++(new2++post)):=by simp
  rw[o] at g1;refine⟨?_,λd=>?_⟩
  ·rw[lQ,e,g1,<-e,e2,g2.1]
  ·obtain⟨q1,_,_,q4⟩:=qQ (U d);rw[j] at q1 q4;have W:((pre2++x2::mid2)++(new1++(new2++post)))[n1]?=some x1:=by
    rw[<-o,show (pre++x0::mid).length=(pre2++x2::mid2).length by simp[hp,w],jO (aD _),Nat.sub_self,K];rfl
   have ae:nJ (aX l) ((pre2++x2::mid2)++(new1++(new2++post))) n1=key:=by
    unfold nJ;rw[W];simp only[];rw[k1,k2,<-H,<-O,if_pos d,if_pos d];have hzl:=yP E;have Y:ind+(eD key).1.length<=z.length:=by rw[p];unfold kQ;rw[if_pos d];simp
    rw[Qh E (by omega) Y,p];have G:=kU (l₁:=List.replicate ind (32:UInt8)) (l₂:=kQ map key++tl);rw[List.length_replicate] at G;rw[G,show ind+(eD key).1.length-ind=(eD key).1.length by omega];unfold kQ;rw[if_pos d,dY,List.take_left,(Pn key q1).2]
   rw[lQ,e,ae,<-e,e2,g2.2 d];exact q4.symm
theorem Bt {k:Int}{s:aA}{ks:List aA}{x:VT}{xs:List VT} (h:cY (.mk k s ks (x::xs))=true):s= []/\((k=5/\ks= [])\/(k=6/\mF [] ks=true/\ks.length=(x::xs).length)):=by
 obtain⟨a,_⟩:=Bj (wA h);unfold cE sS sR at a;simp only[bV,eA] at a;obtain⟨_,a⟩:=a;change (if k=5 then !decide (0<ks.length)&&s.isEmpty else if k=6 then pY ks (x::xs).length&&s.isEmpty else if(decide (0<ks.length)||decide (0<(x::xs).length))=true then false else if k=1 then s.isEmpty else if k=2 then decide (s=mG)||decide (s=mH) else if k=3 then nY s else if k=4 then validD s else false)=true at a;by_cases h5:k=5
 ·rw[if_pos h5] at a;simp only[bV,Bool.not_eq_true',decide_eq_false_iff_not] at a;exact⟨by simpa using a.2, .inl ⟨h5,List.length_eq_zero_iff.1 (by omega)⟩⟩
 rw[if_neg h5] at a;by_cases h6:k=6
 ·rw[if_pos h6] at a;unfold pY at a;simp only[bV,eA] at a;exact⟨by simpa using a.2, .inr ⟨h6,a.1.1,a.1.2⟩⟩
 rw[if_neg h6,if_pos (by simp)] at a;cases a
theorem Qu {t:VT} (hK:uJ t.items) (hR:cY t=true) (hne:t.items≠ []) {l:List aA}{ind lv k:Nat} (kf kt:Int) {R:List aA} (ns:List aM) {tot:Nat} (hs:(aX l).length<=65536) (hl:l.drop k=cJ t.items (decide (t.kind=6)) t.keys ind++R) (hN:nK l (k+(cJ t.items (decide (t.kind=6)) t.keys ind).length) ind) (hd:t.depth<=lv+1) (ht:tot+t.size<=4096):
  ∃new,kC (aX l) (cM l 0) (lv+1) k kf kt ⟨cR l (k+1),ns,tot⟩= .ok ns.length ⟨cR l (k+(cJ t.items (decide (t.kind=6)) t.keys ind).length+1),ns++new,tot+t.size⟩/\wH l new ns.length t kf kt (k+(cJ t.items (decide (t.kind=6)) t.keys ind).length):=by
 obtain⟨kk,s,ks,it⟩:=t;cases it with
 | nil=>exact absurd rfl hne
 | cons x xs=>
  obtain⟨rfl,d⟩:=Bt hR;have j: ∀y∈x::xs,cY y=true:=λy E=>yW hR E;change l.drop k=cJ (x::xs) (decide (kk=6)) ks ind++R at hl;change nK l (k+(cJ (x::xs) (decide (kk=6)) ks ind).length) ind at hN;change uJ (x::xs) at hK;rw[VT.depth] at hd;rw[VT.size] at ht ⊢;show ∃new,kC (aX l) (cM l 0) (lv+1) k kf kt ⟨cR l (k+1),ns,tot⟩= .ok ns.length ⟨cR l (k+(cJ (x::xs) (decide (kk=6)) ks ind).length+1),ns++new,tot+(dX (x::xs)+1)⟩/\wH l new ns.length (.mk kk [] ks (x::xs)) kf kt (k+(cJ (x::xs) (decide (kk=6)) ks ind).length);obtain⟨map,a⟩:=exQ<|decide (kk=6);rw[a] at hl hN ⊢;have b:map=true->mF [] ks=true/\ks.length=(x::xs).length:=λm=>by
   rw[m] at a;have h6:=of_decide_eq_true a;rcases d with⟨e,_⟩ | ⟨_,h⟩
   ·omega
   ·exact h
  have w:rQ (kQ map (ks.headD [])) (tA map (ks.headD [])):=wF (λm=>(qQ (b m)).1);obtain⟨z,c,r,D,p,n,_⟩:=yV (j x (fV ..)) w ind;have u:l[k]?=some z:=by rw[cJ,D,cU,cU] at hl;exact wG hl
  have o:=(aP.1 u).1;obtain⟨_,_,e3,e4⟩:=uK u p (jY k);have e4:(aR (cR l (k+1)) k).kind=(if map then 4 else 3:Int):=by
   rw[e4,n];cases map<;>rfl
  obtain⟨len,g⟩:=exQ<|(cJ (x::xs) map ks ind).length;have hll:=Qt (x::xs) map ks ind;have q:=congrArg List.length hl;rw[aZ,aI] at q;obtain⟨new,ks2,til,g1,g2,_,g4⟩:=hK j map ks l ind lv k (l.length+1-k) R ns [] ⟨if map then 3 else 2,ind,k,0,kf,kt,0,0,[]⟩ (tot+1) [] hs hl hN (by omega) (by omega) (by omega) b;rw[g] at g1 g2 ⊢;rw[g2 (by simp)] at g1;refine⟨⟨if map then 3 else 2,ind,k,k+len,kf,kt,0,0,ks2⟩::new,?_,⟨_,_,rfl,rfl,rfl,rfl⟩,?_⟩
  ·have i:oW l k=k:=by unfold oW;rw[if_pos o]
   rw[i] at g1;rw[kC];unfold mM jE;simp only[];rw[e3,e4,rO];cases map with
   | false=>
    rw[if_neg (by decide),if_neg (by omega),if_neg (by omega)];simp only[];have g1:=g1;simp only[Bool.false_eq_true,if_false,eE] at g1;refine Eq.trans ?_ (g1.trans ?_)
    ·rfl
    ·simp[Nat.add_assoc,Nat.add_comm 1]
   | true=>
    rw[if_neg (by decide),if_neg (by omega),if_neg (by omega)];simp only[];have g1:=g1;simp only[if_true,eE] at g1;refine Eq.trans ?_ (g1.trans ?_)
    ·rfl
    ·simp[Nat.add_assoc,Nat.add_comm 1]
  ·intro pre post ls L v C;rw[VT.depth] at C;obtain⟨L,rfl⟩: ∃L',L=L'+1:=⟨L-1,by omega⟩;have f:=g4 pre post ⟨if map then 3 else 2,ind,k,k+len,kf,kt,0,0,ks2⟩ [] ls L v rfl (by omega);rw[eE] at f;rw[bE];have B:(pre++(⟨if map then 3 else 2,ind,k,k+len,kf,kt,0,0,ks2⟩::new++post):List aM)[ns.length]?=some ⟨if map then 3 else 2,ind,k,k+len,kf,kt,0,0,ks2⟩:=by
    rw[<-v,jO (aD _),Nat.sub_self];rfl
   rw[B];simp only[cU];cases map with
   | false=>
    have A:kk=5/\ks= []:=by
     have:=of_decide_eq_false a;rcases d with h | ⟨h,_⟩
     ·exact h
     ·exact absurd h this
    obtain⟨rfl,rfl⟩:=A;simp only[Bool.false_eq_true,if_false] at f ⊢;rw[if_neg (by decide),if_neg (by decide),if_neg (by decide),if_neg (by decide),f.1]
   | true=>
    obtain rfl:=of_decide_eq_true a;simp only[if_true] at f ⊢;rw[if_neg (by decide),if_neg (by decide),f.1,f.2 trivial]
theorem aCK {t:VT} (hK:uJ t.items) (hne:t.items≠ []):Bs t:=by
 intro y l g h ind lv k kf kt R ns tot B D n v p E;have C:gN t g ind=(List.replicate ind 32++g)::cJ t.items (decide (t.kind=6)) t.keys (ind+2):=by
  obtain⟨kk,s,ks,it⟩:=t;cases it with
  | nil=>exact absurd rfl hne
  | cons x xs=>rw[gN];rfl
 rw[C] at n v ⊢;have m:l[k]?=some (List.replicate ind 32++g):=wG n;have j:=B.bare ind;obtain⟨e1,e2,e3,_⟩:=uK m j (jY k);simp only[] at e1 e2;have i:(List.replicate ind (32:UInt8)++g).length=ind+g.length:=by simp
 have c:l.drop (k+1)=cJ t.items (decide (t.kind=6)) t.keys (ind+2)++R:=by
  have:=Qq (a:= [List.replicate ind 32++g]) n;exact this
 rw[aL] at v ⊢;have r:nK l (k+1+(cJ t.items (decide (t.kind=6)) t.keys (ind+2)).length) (ind+2):=by
  rw[show k+1+(cJ t.items (decide (t.kind=6)) t.keys (ind+2)).length=k+((cJ t.items (decide (t.kind=6)) t.keys (ind+2)).length+1) by omega];exact v.mono (by omega)
 obtain⟨z2,c2,f,b⟩: ∃z2 c2,l[k+1]?=some z2/\gT z2 (ind+2) c2:=by
  obtain⟨kk,s,ks,it⟩:=t;cases it with
  | nil=>exact absurd rfl hne
  | cons x xs=>
   obtain⟨_,d⟩:=Bt y;have q:rQ (kQ (decide (kk=6)) (ks.headD [])) (tA (decide (kk=6)) (ks.headD [])):=wF (λA=>by
    have h6:=of_decide_eq_true A;rcases d with⟨e,_⟩ | ⟨_,F⟩
    ·omega
    ·exact(qQ F).1)
   obtain⟨z2,c2,r2,u,b,_,_⟩:=yV (yW y (fV ..)) q (ind+2);change l.drop (k+1)=cJ (x::xs) (decide (kk=6)) ks (ind+2)++R at c;rw[cJ,u,cU,cU] at c;exact⟨z2,c2,wG c,b⟩
 obtain⟨_,_,f3,_⟩:=uK f b (jY (k+1));obtain⟨_,_,f4,_⟩:=uK m j (show k<k+1+1 by omega);have hdp1:2<=t.depth:=by
  obtain⟨kk,s,ks,it⟩:=t;cases it with
  | nil=>exact absurd rfl hne
  | cons x xs=>
   rw[VT.depth,cC];have:=Qr x;omega
 obtain⟨lv,rfl⟩: ∃lv',lv=lv'+1:=⟨lv-1,by omega⟩;obtain⟨new,z,o⟩:=Qu hK y hne kf kt ns D c r p E;have e0:k+((cJ t.items (decide (t.kind=6)) t.keys (ind+2)).length+1)=k+1+(cJ t.items (decide (t.kind=6)) t.keys (ind+2)).length:=by omega
 rw[e0];refine⟨_,new,?_, .inr rfl,o⟩;unfold lI;simp only[];have w:fD (aX l) (aR (cR l (k+1)) k).rf (aR (cR l (k+1)) k).rt= []:=by
  rw[e1,e2,yS m (by rw[i];exact aD _),Nat.sub_self,List.take_zero]
 rw[w,if_neg (by simp),if_pos rfl,Gq f b (.inl rfl)];simp only[];rw[if_pos ⟨by rw[rO];have:=(aP.1 f).1;omega,by rw[e3,f3];omega⟩];exact z
mutual
theorem aCL: ∀t:VT,Bs t
 | .mk k s ks l=>by
  by_cases h:l= []
  ·exact aCI h
  ·exact aCK (t:= .mk k s ks l) (Gr l) h
theorem Gr: ∀xs:List VT,uJ xs
 | []=>aCG
 | x::xs=>aCJ (aCL x) (Gr xs)
end
end
end Go.Proofs.YtjnooaljcgkfpaaGreatDoor
