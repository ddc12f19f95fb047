import Derived.Test.YtjnooaljcgkfpaaGreatDoorBk13
import Derived.Test.YtjnooaljcgkfpaaGreatDoorBk12
import Derived.Test.YtjnooaljcgkfpaaGreatDoorBk18
import Derived.Test.YtjnooaljcgkfpaaGreatDoorBk4
import Derived.Test.YtjnooaljcgkfpaaGreatDoorBk15
namespace Go.Proofs.YtjnooaljcgkfpaaGreatDoor
set_option linter.unusedVariables false
set_option linter.unusedSimpArgs false
section
open Go.Lib hiding intOf
theorem Ga (p:UInt8->Bool): ∀l:aA,∀c,(l.dropWhile p).head?=some c->p c=false
 | [],c,h=>by simp at h
 | x::l,c,h=>by
  rw[List.dropWhile_cons] at h;split at h
  ·exact Ga p l c h
  ·rename_i hx;simp at h;subst h;simpa using hx
def kP (c:UInt8):Bool:=decide (c.toNat<32)||decide (c.toNat=127)
theorem Ov: ∀(n f:Nat) (s:aA),s.length<=n->s.length<=f->Lib.validD s=true->qC f s=!s.any kP
 | 0,f,s,hn,_,_=>by
  cases s with
  | nil=>cases f<;>rfl
  | cons c r=>simp at hn
 | n +1,f,s,hn,hf,hv=>by
  by_cases hne:s= []
  ·subst hne;cases f<;>rfl
  obtain⟨r,t,hr,rfl,ht,hd⟩:=sA s hne hv;obtain⟨E,b⟩:=exQ<|encodeRune r;have a:=pK r;rw[b] at a;cases E with
  | nil=>exact absurd rfl a
  | cons e E'=>
   rw[b] at hd hn hf ⊢;obtain⟨g,rfl⟩: ∃g,f=g+1:=⟨f-1,by simp at hf;omega⟩;rw[cU,qC];rw[cU] at hd;rw[hd];have e1:(e::(E'++t)).drop (e::E').length=t:=(by rw[show e::(E'++t)=(e::E')++t from rfl,kU]);rw[e1,Ov n g t (by simp at hn;omega) (by simp at hf;omega) ht];rw[show e::(E'++t)=(e::E')++t from rfl,List.any_append];have hr0:=hr.1;have key:(e::E').any kP=(decide (r.toNat<32)||(r.toNat==127)):=by
    by_cases h128:r<128
    ·obtain⟨d,h⟩: ∃d:UInt8,r=(d.toNat:Int):=⟨UInt8.ofNat r.toNat,by rw[UInt8.toNat_ofNat'];omega⟩;subst h;rw[<-b,tJ d (by omega),List.any_cons,List.any_nil,Bool.or_false,eU];unfold kP;congr 1
    ·have j:(decide (r.toNat<32)||(r.toNat==127))=false:=by
      rw[Bool.or_eq_false_iff];exact⟨aJ (by omega),aG.2 (by omega)⟩
     rw[j,List.any_eq_false];intro c i;rw[<-b] at i;have:=tI r hr (by omega) c i;unfold kP;simp only[Bool.or_eq_true,eA];omega
   rw[key];cases (decide (r.toNat<32)||(r.toNat==127))<;>simp
theorem Gb (s:aA):lD s=(Lib.validD s&&!s.any kP):=by
 unfold lD;cases hv:Lib.validD s with
 | false=>simp
 | true=>rw[Ov s.length s.length s (aD _) (aD _) hv];simp
def oE:aA->Bool
 | a::b::r=>!((a==58&&b==32)||(a==32&&b==35))&&oE (b::r)
 | _=>true
theorem Bh (b:UInt8) (l sub:aA):Lib.contains (b::l) sub=(sub.isPrefixOf (b::l)||Lib.contains l sub):=by
 unfold Lib.contains;rw[Lib.index];have hg:=Lib.index_ge l sub;split
 ·rename_i h;rw[h];simp
 ·rename_i h;rw[Bool.not_eq_true] at h;rw[h,Bool.false_or];split
  ·rename_i a;rw[beq_iff_eq] at a;rw[a]
  ·rename_i a;simp only[beq_iff_eq] at a;rw[decide_eq_decide];omega
theorem Ow: ∀s:aA,(!Lib.contains s [58,32]&&!Lib.contains s [32,35])=oE s
 | []=>by rfl
 | [a]=>by
  rw[Bh,Bh];have e1:Lib.contains [] [58,32]=false:=by decide
  have e2:Lib.contains [] [32,35]=false:=by decide
  rw[e1,e2];simp[List.isPrefixOf,oE]
 | a::b::r=>by
  rw[Bh,Bh a,oE,<-Ow (b::r)];simp only[List.isPrefixOf,Bool.and_true];have e1:((58:UInt8)==a)=(a==58):=BEq.comm;have e2:((32:UInt8)==b)=(b==32):=BEq.comm;have e3:((32:UInt8)==a)=(a==32):=BEq.comm;have e4:((35:UInt8)==b)=(b==35):=BEq.comm;rw[e1,e2,e3,e4];cases (a==58&&b==32)<;>cases (a==32&&b==35)<;>cases Lib.contains (b::r) [58,32]<;>cases Lib.contains (b::r) [32,35]<;>rfl
theorem Bi (p:UInt8->Bool): ∀l:aA,(l.dropWhile p).length<=l.length
 | []=>aD _
 | x::l=>by
  rw[List.dropWhile_cons];split
  ·have:=Bi p l;simp only[aL];omega
  ·exact aD _
theorem aBH (p:UInt8->Bool) (l:aA) (h:l.length<=(l.dropWhile p).length):l.dropWhile p=l:=by
 cases l with
 | nil=>rfl
 | cons x l=>
  rw[List.dropWhile_cons] at h ⊢;split
  ·rename_i a;rw[if_pos a] at h;have:=Bi p l;simp only[aL] at h;omega
  ·rfl
theorem aBI (s:aA):decide (Lib.trimB s 32=s)=(decide (s.head?≠some 32)&&decide (s.getLast?≠some 32)):=by
 rw[<-Bool.decide_and,decide_eq_decide];unfold Lib.trimB Lib.trimLeftB Lib.trimRightB;constructor
 ·intro h;have c:=congrArg List.length h;have a:=Bi (· ==32) ((s.reverse.dropWhile (· ==32)).reverse);have b:=Bi (· ==32) s.reverse;rw[List.length_reverse] at a b;have e1:=aBH (· ==32) s.reverse (by rw[List.length_reverse];omega);rw[e1,List.reverse_reverse] at h;refine⟨λe=>?_,λe=>?_⟩
  ·have:=Ga (· ==32) s 32 (by rw[h];exact e);simp at this
  ·have:=Ga (· ==32) s.reverse 32 (by rw[e1,List.head?_reverse];exact e);simp at this
 ·rintro⟨a,b⟩;have no: ∀l:aA,l.head?≠some 32->l.dropWhile (· ==32)=l:=by
   intro l c;cases l with
   | nil=>rfl
   | cons x l=>
    rw[List.dropWhile_cons,if_neg];intro e;rw[beq_iff_eq] at e;exact c (by rw[e];rfl)
  rw[no s.reverse (by rw[List.head?_reverse];exact b),List.reverse_reverse,no s a]
def yM (s:aA):Bool:=match s with
 | []=>false
 | c::r=>lD (c::r)&&!(c==32)&&!((c::r).getLast?==some 32)&&!((c::r).getLast?==some 58)&&!oA.contains c&&!(c==45&&(r.isEmpty||r.head?==some 32))&&oE (c::r)
theorem Gc (s:aA):fH s=yM s:=by
 cases s with
 | nil=>rfl
 | cons c r=>
  unfold fH yM;simp only[];rw[aBI];have e1:decide (0<=Lib.indexByte oA c)=oA.contains c:=(Lib.contains_iff_indexByte oA c).symm;have e2:Lib.hasSuffix (c::r) [58]=((c::r).getLast?==some 58):=by
   unfold Lib.hasSuffix List.isSuffixOf;rw[List.reverse_singleton];have a:(c::r).reverse.head?=(c::r).getLast?:=List.head?_reverse;cases hr:(c::r).reverse with
   | nil=>simp at hr
   | cons x l=>
    rw[hr] at a;rw[<-a];simp only[List.isPrefixOf,Bool.and_true,List.head?_cons];rw[show ((58:UInt8)==x)=(x==58) from BEq.comm];rfl
  have e3:(!decide (c::r= [45])&&!Lib.hasPrefix (c::r) [45,32])=!(c==45&&(r.isEmpty||r.head?==some 32)):=by
   unfold Lib.hasPrefix;cases r with
   | nil=>
    simp only[List.isPrefixOf,Bool.and_false,List.isEmpty_nil,Bool.true_or,Bool.and_true,Bool.not_false];congr 1;rw[Bool.eq_iff_iff];simp
   | cons b r=>
    simp only[List.isPrefixOf,Bool.and_true,List.isEmpty_cons,Bool.false_or,List.head?_cons];have:decide (c::b::r= [45])=false:=aJ (by simp);rw[this];simp only[Bool.not_false,Bool.true_and];rw[show ((45:UInt8)==c)=(c==45) from BEq.comm,show ((32:UInt8)==b)=(b==32) from BEq.comm];rfl
  have e4:(decide ((c::r).head?≠some 32))=!(c==32):=by
   rw[Bool.eq_iff_iff];simp
  have e5:(decide ((c::r).getLast?≠some 32))=!((c::r).getLast?==some 32):=by
   rw[Bool.eq_iff_iff];simp
  rw[e1,e2,e4,e5,<-e3,<-Ow];generalize lD (c::r)=a1;generalize (c==32)=a2;generalize ((c::r).getLast?==some 32)=a3;generalize oA.contains c=a4;generalize decide (c::r= [45])=a5;generalize Lib.hasPrefix (c::r) [45,32]=a6;generalize ((c::r).getLast?==some 58)=a7;generalize Lib.contains (c::r) [58,32]=a8;generalize Lib.contains (c::r) [32,35]=a9;cases a1<;>cases a2<;>cases a3<;>cases a4<;>cases a5<;>cases a6<;>cases a7<;>cases a8<;>cases a9<;>rfl
theorem Gd {old new:aA}{b:UInt8}{l:aA} (h:old.isPrefixOf (b::l)=false) (k:Nat):Lib.replaceK old new k (b::l)=b::Lib.replaceK old new k l:=by
 cases k with
 | zero=>rfl
 | succ k=>
  have hg:=Lib.index_ge l old;have e0:Lib.index (b::l) old=if(Lib.index l old== -1)=true then -1 else Lib.index l old+1:=by rw[Lib.index,if_neg (by rw[h];simp)]
  rw[Lib.replaceK,Lib.replaceK];by_cases hi:Lib.index l old= -1
  ·rw[if_pos (show (Lib.index l old== -1)=true by rw[hi];rfl)] at e0;rw[if_pos (by rw[e0];rfl),if_pos (by rw[hi];rfl)]
  ·have a: ¬(Lib.index l old== -1)=true:=(by simpa using hi);rw[if_neg a] at e0;rw[if_neg a,if_neg (by rw[e0,beq_iff_eq];omega),e0];obtain⟨i,c⟩: ∃i:Nat,Lib.index l old=i:=⟨(Lib.index l old).toNat,by omega⟩;rw[c];have e1:((i:Int)+1).toNat=i+1:=(by omega);have e2:i+1+old.length=(i+old.length)+1:=(by omega);rw[e1,eU,e2,List.take_succ_cons,List.drop_succ_cons];rfl
theorem Ox {old:aA}{b:UInt8}{l:aA} (ho:old≠ []) (h:old.isPrefixOf (b::l)=false):Lib.count (b::l) old=Lib.count l old:=by
 have hg:=Lib.index_ge l old;have e0:Lib.index (b::l) old=if(Lib.index l old== -1)=true then -1 else Lib.index l old+1:=by rw[Lib.index,if_neg (by rw[h];simp)]
 by_cases hi:Lib.index l old= -1
 ·rw[Lib.count_miss hi,Lib.count_miss (by rw[e0,if_pos (by rw[hi];rfl)])]
 ·obtain⟨i,a⟩: ∃i:Nat,Lib.index l old=i:=⟨(Lib.index l old).toNat,by omega⟩;rw[if_neg (by simpa using hi),a] at e0;rw[Lib.count_hit ho a,Lib.count_hit (i:=i+1) ho (by rw[e0];omega)];have e2:i+1+old.length=(i+old.length)+1:=by omega
  rw[e2,List.drop_succ_cons]
theorem Oy {old new:aA}{b:UInt8}{l:aA} (h:old.isPrefixOf (b::l)=true) (k:Nat):Lib.replaceK old new (k+1) (b::l)=new++Lib.replaceK old new k ((b::l).drop old.length):=by
 rw[Lib.replaceK_hit old new k (b::l) 0 (by rw[Lib.index,if_pos h];rfl)];simp
theorem Oz {old:aA}{b:UInt8}{l:aA} (ho:old≠ []) (h:old.isPrefixOf (b::l)=true):Lib.count (b::l) old=1+Lib.count ((b::l).drop old.length) old:=by
 rw[Lib.count_hit (i:=0) ho (by rw[Lib.index,if_pos h];rfl)];simp
theorem Pa {s old new:aA} (h:(old==new)=false):Lib.replaceAll s old new=Lib.replaceK old new (Lib.count s old) s:=by
 unfold Lib.replaceAll Lib.replace Lib.replaceNum;rw[if_neg (by rw[h];simp),if_pos (.inl (by decide))]
def lK (c:UInt8):aA:=if c=127 then mI else [c]
theorem Ge: ∀(s:aA) (k:Nat),Lib.count s [127]<=k->Lib.replaceK [127] mI k s=s.flatMap lK
 | [],k,_=>by cases k<;>rfl
 | b::l,k,h=>by
  by_cases hb:b=127
  ·have hp:([127]:aA).isPrefixOf (b::l)=true:=by rw[hb];rfl
   rw[Oz (by decide) hp] at h;obtain⟨k,rfl⟩: ∃j,k=j+1:=⟨k-1,by omega⟩;rw[show (b::l).drop ([127]:aA).length=l from rfl] at h;rw[Oy hp,show (b::l).drop ([127]:aA).length=l from rfl,Ge l k (by omega),List.flatMap_cons,lK,if_pos hb]
  ·have hp:([127]:aA).isPrefixOf (b::l)=false:=by
    simp only[List.isPrefixOf,Bool.and_true];exact aG.2 (λe=>hb e.symm)
   rw[Gd hp,Ge l k (by rw[<-Ox (by decide) hp];exact h),List.flatMap_cons,lK,if_neg hb];rfl
theorem aBJ (s:aA):oB s=s.flatMap lK:=by
 unfold oB;rw[Pa (by decide)];exact Ge s _ (aD _)
def kD:aA->aA
 | []=> []
 | [c]=> [c]
 | a::b::r=>if a=32/\b=35 then yA++kD r else a::kD (b::r)
theorem Gf: ∀(n:Nat) (s:aA) (k:Nat),s.length<=n->Lib.count s [32,35]<=k->Lib.replaceK [32,35] yA k s=kD s
 | n,[],k,_,_=>by cases k<;>rfl
 | n,[c],k,_,_=>by
  have hp:([32,35]:aA).isPrefixOf [c]=false:=by simp[List.isPrefixOf]
  rw[Gd hp,kD];cases k<;>rfl
 | 0,a::b::r,k,hn,_=>by simp at hn
 | n+1,a::b::r,k,hn,h=>by
  by_cases hb:a=32/\b=35
  ·have hp:([32,35]:aA).isPrefixOf (a::b::r)=true:=by rw[hb.1,hb.2];rfl
   rw[Oz (by decide) hp,show (a::b::r).drop ([32,35]:aA).length=r from rfl] at h;obtain⟨k,rfl⟩: ∃j,k=j+1:=⟨k-1,by omega⟩;rw[Oy hp,show (a::b::r).drop ([32,35]:aA).length=r from rfl,kD,if_pos hb,Gf n r k (by simp at hn;omega) (by omega)]
  ·have hp:([32,35]:aA).isPrefixOf (a::b::r)=false:=by
    rw[<-Bool.not_eq_true];intro e;simp only[List.isPrefixOf,Bool.and_true,bV,beq_iff_eq] at e;exact hb ⟨e.1.symm,e.2.symm⟩
   rw[Gd hp,kD,if_neg hb,Gf n (b::r) k (by simp at hn ⊢;omega) (by rw[<-Ox (by decide) hp];exact h)]
def wB:aA:= [92,117,48,48,50,51]
def bU (p:Bool):aA->aA
 | []=> []
 | c::r=>(if c=127 then mI else if c=35/\p=true then wB else [c])++bU (c==32) r
theorem aBK {c:UInt8}{r:aA} (h:c≠35) (p:Bool):bU p (c::r)=bU false (c::r):=by
 rw[bU,bU];simp[h]
theorem uH (c:UInt8) (l:aA) (h:c≠32):kD (c::l)=c::kD l:=by
 cases l with
 | nil=>rfl
 | cons b r=>rw[kD,if_neg (λe=>h e.1)]
theorem aBL (l:aA):kD (mI++l)=mI++kD l:=by
 unfold mI;simp only[cU,eE];rw[uH _ _ (by decide),uH _ _ (by decide),uH _ _ (by decide),uH _ _ (by decide),uH _ _ (by decide),uH _ _ (by decide)]
theorem Gg: ∀(n:Nat) (s:aA),s.length<=n->kD (s.flatMap lK)=bU false s
 | _,[],_=>rfl
 | 0,c::r,h=>by simp at h
 | n + 1,c::r,h=>by
  rw[List.flatMap_cons,bU];have ih:=Gg n r (by simp at h;omega);by_cases h127:c=127
  ·rw[lK,if_pos h127,aBL,ih,if_pos h127,show (c==32)=false by rw[h127];rfl]
  ·rw [lK,if_neg h127,if_neg h127,if_neg (by simp)];by_cases h32:c=32
   ·subst h32;cases r with
    | nil=>rfl
    | cons b r=>
     by_cases hb:b=35
     ·subst hb;have e1:([32]:aA)++List.flatMap lK (35::r)=32::35::List.flatMap lK r:=by rw[List.flatMap_cons];rfl
      rw[e1,kD,if_pos ⟨rfl,rfl⟩,Gg n r (by simp at h;omega),bU,if_neg (by decide),if_pos ⟨rfl,rfl⟩];rfl
     ·have e2:kD (([32]:aA)++List.flatMap lK (b::r))=32::kD (List.flatMap lK (b::r)):=by
       rw[List.flatMap_cons,lK];split
       ·rfl
       ·show kD (32::b::List.flatMap lK r)=32::kD (b::List.flatMap lK r);rw[kD,if_neg (λe=>hb e.2)]
      rw[e2,ih,aBK hb (32==32)];rfl
   ·rw[show [c]++List.flatMap lK r=c::List.flatMap lK r from rfl,uH _ _ h32,ih,show (c==32)=false from aG.2 h32];rfl
theorem Gh (t:aA):nF t=bU false t:=by
 unfold nF;rw[Pa (by decide),Gf _ _ _ (aD _) (aD _),aBJ];exact Gg t.length t (aD _)
end
section
open Go.RowKit
open Go.Lib hiding intOf
end
section
open Go.Lib
def wC:Bool->aA->Bool
 | p,[]=>p
 | _,c::r=>wC (c==32) r
theorem wD (b:aA): ∀(a:aA) (p:Bool),bU p (a++b)=bU p a++bU (wC p a) b
 | [],p=>rfl
 | c::r,p=>by rw[cU,bU,bU,wD b r,wC,dY]
theorem Gi: ∀(l:aA) (p:Bool),(∀c∈l,128<=c.toNat)->bU p l=l
 | [],p,_=>rfl
 | c::r,p,h=>by
  have h1:=h c (by simp);rw[bU,if_neg (λe=>by rw[e] at h1;exact absurd h1 (by decide)),if_neg (λe=>by rw[e.1] at h1;exact absurd h1 (by decide)),Gi r _ (λd a=>h d (by simp[a]))];rfl
theorem aBM: ∀(p:Bool) (n:Fin 128),n.val≠127-> ¬(n.val=35/\p=true)->bU p (qB (UInt8.ofNat n.val))=qB (UInt8.ofNat n.val):=by decide+kernel
theorem aBN (X:aA):dE (mI++X)=(127,6):=by
 unfold dE mI;rw[if_pos (by rfl)];unfold pI;have a:(kT ((117:UInt8).toNat:Int)).2=false:=by decide
 simp only[cU,eE,bM,dG];rw[a,if_neg (by simp),if_pos (by rfl)];have b:iL ((92::117::48::48::55::102::X).drop 2)=some 127:=by
  unfold iL;rw[if_neg (by simp)];rfl
 unfold mD;rw[b];simp only[];rw[if_neg (by omega),if_pos (by omega)];rfl
theorem aBO (X:aA):dE (wB++X)=(35,6):=by
 unfold dE wB;rw[if_pos (by rfl)];unfold pI;have a:(kT ((117:UInt8).toNat:Int)).2=false:=by decide
 simp only[cU,eE,bM,dG];rw[a,if_neg (by simp),if_pos (by rfl)];have b:iL ((92::117::48::48::50::51::X).drop 2)=some 35:=by
  unfold iL;rw[if_neg (by simp)];rfl
 unfold mD;rw[b];simp only[];rw[if_neg (by omega),if_pos (by omega)];rfl
theorem aBP (r:Int) (hr:iZ r) (p:Bool) (X:aA):dE (bU p (bW (encodeRune r))++X)=(r,((bU p (bW (encodeRune r))).length:Int))/\(bU p (bW (encodeRune r))++X).head?≠some 34/\0<(bU p (bW (encodeRune r))).length:=by
 by_cases h128:r<128
 ·have h0:=hr.1;obtain⟨c,a⟩: ∃c:UInt8,r=(c.toNat:Int):=⟨UInt8.ofNat r.toNat,by rw[UInt8.toNat_ofNat'];omega⟩;subst a;rw[tJ c (by omega),show bW [c]=qB c by simp[bW]];by_cases h127:c=127
  ·subst h127;have e:bU p (qB 127)=mI:=(by cases p<;>rfl);rw[e];exact⟨aBN X,by unfold mI;simp,by unfold mI;simp⟩
  ·by_cases h35:c=35/\p=true
   ·obtain⟨rfl,rfl⟩:=h35;have e:bU true (qB 35)=wB:=rfl;rw[e];exact⟨aBO X,by unfold wB;simp,by unfold wB;simp⟩
   ·have e:=aBM p ⟨c.toNat,by omega⟩ (λe=>h127 (UInt8.toNat_inj.1 e)) (λe=>h35 ⟨UInt8.toNat_inj.1 e.1,e.2⟩);simp only[UInt8.ofNat_toNat] at e;rw[e];exact Vq c (by omega) X
 ·have b:=zV _ (tI r hr (by omega));rw[b,Gi _ _ (tI r hr (by omega))];exact Vr r hr (by omega) _
theorem aBQ (rest:aA): ∀(n:Nat) (s:aA) (p:Bool) (i f:Nat) (acc:aA),s.length<=n->validD s=true->(bU p (bW s)).length<f->
  cN f (bU p (bW s)++34::rest) i acc=(acc++s,((i+(bU p (bW s)).length:Nat):Int)+1,0):=by
 intro n
 induction n with
 | zero=>
  intro s p i f acc j k b;obtain rfl:s= []:=List.eq_nil_of_length_eq_zero (by omega);obtain⟨g,rfl⟩: ∃g,f=g+1:=⟨f-1,by omega⟩;show cN (g+1) (34::rest) i acc=_;unfold cN;rw[if_pos rfl];simp[bW,bU]
 | succ n ih=>
  intro s p i f acc j k b;by_cases hne:s= []
  ·subst hne;obtain⟨g,rfl⟩: ∃g,f=g+1:=⟨f-1,by omega⟩;show cN (g+1) (34::rest) i acc=_;unfold cN;rw[if_pos rfl];simp[bW,bU]
  ·obtain⟨r,t,q,rfl,o,_⟩:=sA s hne k;have hlr:=mX.2 (pK r);rw[zU,wD,aI] at b;rw[zU,wD,dY];obtain⟨c,d,l⟩:=aBP r q p (bU (wC p (bW (encodeRune r))) (bW t)++34::rest);obtain⟨p2,e⟩:=exQ<|wC p (bW (encodeRune r));rw[e] at c d b ⊢;obtain⟨Q,m⟩:=exQ<|bU p (bW (encodeRune r));rw[m] at c d l b ⊢;obtain⟨g,rfl⟩: ∃g,f=g+1:=⟨f-1,by omega⟩;have ihs:=ih t p2 (i+Q.length) g (acc++encodeRune r) (by rw[aI] at j;omega) o (by omega);obtain⟨X,h⟩:=exQ<|Q++(bU p2 (bW t)++34::rest);have a:X.drop Q.length=bU p2 (bW t)++34::rest:=(by rw[<-h,kU]);rw[h] at c d ⊢;cases X with
   | nil=>have:=congrArg List.length h;simp at this
   | cons x X'=>
    unfold cN;rw[if_neg (by simpa using d),c];simp only[];rw[if_neg (by omega),eU,a,ihs];simp only[dY,aI,Prod.mk.injEq,true_and];exact⟨by omega,trivial⟩
def qS (s:aA):aA:=34::(bU false (bW s)++ [34])
theorem Pb (s:aA) (hv:validD s=true) (p:Bool):bU p (dZ s).1=qS s:=by
 have a:(dZ s).1=34::(bW s++ [34]):=by unfold dZ;rw[if_pos hv]
 rw[a,bU,if_neg (by decide),if_neg (by simp),wD];unfold qS;rw[show ((34:UInt8)==32)=false from rfl];have e: ∀q,bU q [34]= [34]:=by intro q;cases q<;>rfl
 rw[e];rfl
theorem Pc (s front back:aA) (hv:validD s=true):bZ (front++qS s++back) (front.length:Int)=(s,((front.length+(qS s).length:Nat):Int),0):=by
 unfold bZ qS;rw[eU,dY,if_pos ⟨by omega,by rw[jO (aD _)];simp⟩];have a:(front++(34::(bU false (bW s)++ [34])++back)).drop (front.length+1)=bU false (bW s)++34::back:=by
  rw[List.drop_append,List.drop_of_length_le (by omega)];simp
 rw[a,aBQ back s.length s false _ _ [] (aD _) hv (by simp;omega)];simp only[eE,aL,aI,bY,Prod.mk.injEq,true_and,and_true];omega
theorem aBR (s:aA) (hv:validD s=true):fW (qS s)=(s,((qS s).length:Int),0):=by
 have h:=Pc s [] [] hv;simp only[eE,List.append_nil,bY,Nat.zero_add] at h;unfold fW;rw[show ((0:Nat):Int)=0 from rfl] at h;rw[h];simp only[];rw[if_neg (by omega)]
theorem aBS (n:Int): ∀c∈itoa n,cT c=true\/c=45:=by
 intro c a;unfold itoa at a;split at a
 ·rcases eV.1 a with h | h
  ·exact .inr h
  ·exact .inl (eH.1 (Ib _).1 c h)
 ·exact .inl (eH.1 (Ib _).1 c a)
theorem aBT (n:dS): ∀c∈fK n,cT c=true\/c=45\/c=101:=by
 intro c a;unfold fK at a;split at a
 ·cases a
 ·rename_i f;split at a
  ·simp only[jX] at a;subst a;exact .inl (by decide)
  ·rename_i d;have e:qW n:=by
    have:jT n=true:=(by simpa using f);unfold jT at this;rcases of_decide_eq_true this with h | h
    ·rw[h] at d;exact absurd rfl d
    ·exact h
   have b:=(rW e.1).2;rcases mZ.1 a with h | h
   ·split at h
    ·simp only[jX] at h;exact .inr (.inl h)
    ·cases h
   ·rcases mZ.1 h with h | h
    ·exact .inl (eH.1 b c h)
    ·split at h
     ·rcases eV.1 h with h | h
      ·exact .inr (.inr h)
      ·rcases aBS _ c h with h | h
       ·exact .inl h
       ·exact .inr (.inl h)
     ·cases h
theorem aBU (n:dS) (hne:fK n≠ []): ∃c r,fK n=c::r/\(c=45\/cT c=true):=by
 unfold fK at hne ⊢;split
 ·rename_i h;rw[if_pos h] at hne;exact absurd rfl hne
 ·rename_i f;split
  ·exact⟨48,[],rfl, .inr (by decide)⟩
  ·rename_i b;have e:qW n:=by
    have:jT n=true:=(by simpa using f);unfold jT at this;rcases of_decide_eq_true this with h | h
    ·rw[h] at b;exact absurd rfl b
    ·exact h
   have a:=(rW e.1).2;cases hn:n.neg with
   | true=>exact⟨45,_,by rw[if_pos rfl];rfl, .inl rfl⟩
   | false=>
    cases hg:n.dig with
    | nil=>exact absurd hg b
    | cons d r=>exact⟨d,_,by rw[if_neg (by simp)];rfl, .inr (eH.1 a d (by rw[hg];simp))⟩
theorem Gj {s:aA} (h:nY s=true):(cO s).2=0/\fK (cO s).1=s/\s≠ []:=by
 unfold nY at h;simp only[bV,eA] at h;refine⟨h.1,h.2,?_⟩;rintro rfl;exact absurd h.1 (by decide+kernel)
theorem Gk {s:aA} (h:nY s=true):(∀c∈s,cT c=true\/c=45\/c=101)/\ ∃c r,s=c::r/\(c=45\/cT c=true):=by
 obtain⟨_,a,b⟩:=Gj h;rw[<-a] at b ⊢;rw[a] at b ⊢;refine⟨λc d=>aBT _ c (by rw[a];exact d),?_⟩;obtain⟨c,r,e,d⟩:=aBU (cO s).1 (by rw[a];exact b);exact⟨c,r,by rw[<-e,a],d⟩
theorem Bj {p:VT->Bool}{k:Int}{s:aA}{ks:List aA}{l:List VT} (h:dO p (.mk k s ks l)=true):p (.mk k s ks l)=true/\ ∀x∈l,dO p x=true:=by
 rw[dO,bV,uZ,eH] at h;exact h
theorem Pd: ∀(l:aA) (p:Bool),(∀c∈l,c≠127/\c≠35)->bU p l=l
 | [],_,_=>rfl
 | c::r,p,h=>by
  obtain⟨h1,h2⟩:=h c (by simp);rw[bU,if_neg h1,if_neg (λe=>h2 e.1),Pd r _ (λd a=>h d (by simp[a]))];rfl
theorem aBV: ∀n:Fin 256,(cT (UInt8.ofNat n.val)=true\/UInt8.ofNat n.val=45\/UInt8.ofNat n.val=101)->UInt8.ofNat n.val≠127/\UInt8.ofNat n.val≠35/\UInt8.ofNat n.val≠32:=by decide+kernel
end
section
open Go.Lib hiding intOf
theorem Pe: ∀(n f:Nat) (s:aA),s.length<=n->s.length<=f->Lib.validD s=true->qC f s=true-> ∀g,s.length<=g->iQ false g s 0=s.length
 | 0,f,s,hn,_,_,_=>by
  intro g _;cases s with
  | nil=>cases g<;>rfl
  | cons c r=>simp at hn
 | n+1,f,s,hn,hf,hv,hc=>by
  intro g hg;by_cases hne:s= []
  ·subst hne;cases g<;>rfl
  obtain⟨r,t,hr,rfl,ht,hd⟩:=sA s hne hv;obtain⟨E,h⟩:=exQ<|encodeRune r;have a:=pK r;have b:=λd=>(Am r hr d t).2;rw[h] at a;cases E with
  | nil=>exact absurd rfl a
  | cons e E'=>
   rw[h] at hd hn hf hc hg b ⊢;obtain⟨f',rfl⟩: ∃g,f=g+1:=⟨f-1,by simp at hf;omega⟩;obtain⟨g',rfl⟩: ∃g0,g=g0+1:=⟨g-1,by simp at hg;omega⟩;rw[cU,qC] at hc;rw[cU] at hd b;rw[hd] at hc;split at hc
   ·cases hc
   rename_i j;simp only[Bool.or_eq_true,eA,beq_iff_eq,not_or] at j;have e1:(e::(E'++t)).drop (e::E').length=t:=(by rw[show e::(E'++t)=(e::E')++t from rfl,kU]);rw[e1] at hc;have ih:=Pe n f' t (by simp at hn;omega) (by simp at hf;omega) ht hc g' (by simp at hg;omega);have hr0:=hr.1;have k:=b (by omega);rw[cU,En,k,hd,Bool.false_and,Bool.or_false,if_neg (by simp),e1];have i:=vP false g' t 0 (e::E').length;rw[Nat.zero_add] at i;rw[Nat.zero_add,i,ih];simp only[aL,aI];omega
theorem Bk {s:aA} (h:lD s=true):(fR s).2=0:=by
 unfold lD at h;rw[bV] at h;have a:lB s:=Pe s.length s.length s (aD _) (aD _) h.2 h.1 s.length (aD _);have b:=(An s).1 a;unfold fR;rw[if_neg b]
theorem aBW {s:aA} (h:Lib.validD s=true):(eD s).2=0:=by
 unfold eD;rw[if_pos h];split
 ·rfl
 ·unfold jS;split
  ·rename_i a;exact Bk a
  ·unfold dZ;rw[if_pos h]
theorem aBX {t:VT} (h:cY t=true):(cZ t).2=0:=by
 have b:=(Bj (k:=t.kind) (s:=t.text) (ks:=t.keys) (l:=t.items) (by rw[VT.eta];exact wA h)).1;rw[VT.eta] at b;unfold cE sS sR at b;simp only[bV,eA] at b;have a:=b.2;unfold cZ;rw[if_pos h];by_cases h4:t.kind=4
 ·rw [if_pos h4];rw[if_neg (by omega),if_neg (by omega)] at a;split at a
  ·cases a
  ·simp[h4] at a;split
   ·rfl
   ·unfold jS;split
    ·rename_i c;exact Bk c
    ·unfold dZ;rw[if_pos a]
 ·rw[if_neg h4]
theorem aBY {t:VT} (h: ¬cY t=true):cZ t=([],1):=by unfold cZ;rw[if_neg h]
theorem Pf {s:aA} (h:fH s=true): ∃c r,s=c::r/\c≠34/\c≠39/\c≠91/\c≠123:=by
 rw[Gc] at h;cases s with
 | nil=>cases h
 | cons c r=>
  unfold yM at h;simp only[bV,Bool.not_eq_true'] at h;have a:oA.contains c=false:=h.1.1.2;refine⟨c,r,rfl,?_,?_,?_,?_⟩<;> · rintro rfl;exact absurd a (by decide)
theorem aBZ {s:aA} (h:fH s=true):iU s=(lG s,0):=by
 obtain⟨c,r,rfl,b,d,e,a⟩:=Pf h;unfold iU;simp only[];rw[if_neg (by simp[b,d]),if_neg (by simp[e,a]),if_pos h]
theorem aCa {s:aA} (h:fH s=true):mJ s=(s,0):=by
 obtain⟨c,r,rfl,a,b,h3,h4⟩:=Pf h;unfold mJ;simp only[];rw[if_neg (by simp[a,b]),if_pos h]
theorem aCb (s:aA) (hv:validD s=true):lH (qS s)=(s,0):=by
 unfold lH;have e:(qS s).head?=some 34:=rfl;rw[e,if_neg (by decide),aBR s hv]
theorem Pg (s:aA) (h:(fR s).2=0):lH (fR s).1=(s,0)/\ ∃r,(fR s).1=39::r:=by
 have a:=Md [] s [] h (by simp);simp only[eE,List.append_nil,bY,Nat.zero_add] at a;rw[show ((0:Nat):Int)=0 from rfl] at a;have b: ∃r,(fR s).1=39::r:=by
  unfold fR at h ⊢;split at h
  ·cases h
  ·rename_i d;rw[if_neg d];exact⟨_,rfl⟩
 refine⟨?_,b⟩;obtain⟨r,c⟩:=b;unfold lH vW;rw[a,c];simp
theorem Pj (s:aA) (hv:validD s=true):(jS s).2=0/\lH (jS s).1=(s,0)/\ ∃c r,(jS s).1=c::r/\(c=34\/c=39):=by
 unfold jS;by_cases hc:lD s=true
 ·rw[if_pos hc];have a:=Bk hc;obtain⟨b,r,d⟩:=Pg s a;exact⟨a,b,39,r,d, .inr rfl⟩
 ·rw[if_neg hc];have e:nF (dZ s).1=qS s:=by rw[Gh,Pb s hv]
  refine⟨by unfold dZ;rw[if_pos hv],?_⟩;simp only[];rw[e];exact⟨aCb s hv,34,_,rfl, .inl rfl⟩
theorem Pk {t s:aA} (h:lH t=(s,0)) (hc: ∃c r,t=c::r/\(c=34\/c=39)):iU t=(lF s,0)/\mJ t=(s,0):=by
 obtain⟨c,r,rfl,a⟩:=hc;unfold iU mJ;simp only[];rw[if_pos a,if_pos a,h];simp
theorem aCc: ∀n:Fin 256,(cT (UInt8.ofNat n.val)=true\/UInt8.ofNat n.val=45\/UInt8.ofNat n.val=101)->kP (UInt8.ofNat n.val)=false/\UInt8.ofNat n.val≠32/\UInt8.ofNat n.val≠58/\(UInt8.ofNat n.val).toNat<128/\oA.contains (UInt8.ofNat n.val)=false/\UInt8.ofNat n.val≠126:=by decide+kernel
theorem aCd {c:UInt8} (h:cT c=true\/c=45\/c=101):kP c=false/\c≠32/\c≠58/\c.toNat<128/\oA.contains c=false/\c≠126:=by
 have:=aCc ⟨c.toNat,c.toNat_lt⟩;simp only[UInt8.ofNat_toNat] at this;exact this h
theorem Bl: ∀(l:aA),(∀c∈l,c.toNat<128)->validD l=true
 | [],_=>by decide
 | c::r,h=>by
  have hc:=h c (by simp);have e:=tJ c hc;have b:iZ (c.toNat:Int):=by unfold iZ;omega
  have:=zQ (c.toNat:Int) b r;rw[e] at this;rw[show c::r= [c]++r from rfl,this];exact Bl r (λd a=>h d (by simp[a]))
theorem Pm: ∀(l:aA),(∀c∈l,c≠32/\c≠58)->oE l=true
 | [],_=>rfl
 | [c],_=>rfl
 | a::b::r,h=>by
  obtain⟨h1,h2⟩:=h a (by simp);rw[oE,Pm (b::r) (λc d=>h c (by simp[d]))];simp[h1,h2]
theorem aCe {s:aA} (h:nY s=true):fH s=true:=by
 obtain⟨g,c,r,rfl,hc⟩:=Gk h;obtain⟨j,_,_⟩:=Gj h;have a:=λd b=>aCd (g d b);have i: ¬(c::r)= [45]:=by
  intro e;rw[e] at j;exact absurd j (by decide+kernel)
 rw[Gc];unfold yM;simp only[bV,Bool.not_eq_true'];have f:=a c (by simp);refine⟨⟨⟨⟨⟨⟨?_,?_⟩,?_⟩,?_⟩,f.2.2.2.2.1⟩,?_⟩,Pm _ (λd b=>⟨(a d b).2.1,(a d b).2.2.1⟩)⟩
 ·rw[Gb,Bl _ (λd b=>(a d b).2.2.2.1),Bool.true_and,Bool.not_eq_true'];rw[List.any_eq_false];intro d b;rw[(a d b).1];simp
 ·exact aG.2 f.2.1
 ·refine aG.2 (λe=>?_);exact(a 32 (List.mem_of_getLast? e)).2.1 rfl
 ·refine aG.2 (λe=>?_);exact(a 58 (List.mem_of_getLast? e)).2.2.1 rfl
 ·by_cases h1:c=45
  ·subst h1;cases r with
   | nil=>exact absurd rfl i
   | cons d r=>
    have:=(a d (by simp)).2.1;simp[this]
  ·rw[aG.2 h1,Bool.false_and]
theorem aCf {s:aA} (h:nY s=true):lG s= .mk 3 s [] []:=by
 obtain⟨hall,c,r,rfl,a⟩:=Gk h;obtain⟨d,b,hne⟩:=Gj h;unfold lG lX;rw[if_neg,if_neg,if_pos d,b]
 ·rintro(e | e)
  ·injection e with e _;subst e;rcases a with h | h<;>exact absurd h (by decide)
  ·injection e with e _;subst e;rcases a with h | h<;>exact absurd h (by decide)
 ·rintro(e | e | e)
  ·cases e
  ·injection e with e _;subst e;rcases a with h | h<;>exact absurd h (by decide)
  ·injection e with e _;subst e;rcases a with h | h<;>exact absurd h (by decide)
theorem Pn (s:aA) (hv:validD s=true):(eD s).2=0/\mJ (eD s).1=(s,0):=by
 refine⟨aBW hv,?_⟩;unfold eD;rw[if_pos hv];by_cases hb:fH s=true
 ·rw[if_pos hb];exact aCa hb
 ·rw[if_neg hb];obtain⟨_,q1,q2⟩:=Pj s hv;exact(Pk q1 q2).2
theorem aCg (n:dS) (h:n.dig.length<=1000) (he: -1000000<=n.exp/\n.exp<=1000000):(fK n).length<=1100:=by
 have hi:=Ea n.exp (by omega);unfold fK;split
 ·simp
 ·split
  ·simp
  ·split<;>split<;>simp<;>omega
theorem Po (s:aA) (h:(cO s).2=0):(fK (cO s).1).length<=1100:=by
 have a:=Dz (Cr (l:=s) (n:=(cO s).1) (Prod.ext rfl h));exact aCg _ a.1 a.2
theorem aCh (r:Int) (hr:iZ r) (h: ∀c∈encodeRune r,kP c=false):32<=r:=by
 by_cases h128:r<128
 ·have h0:=hr.1;obtain⟨c,a⟩: ∃c:UInt8,r=(c.toNat:Int):=⟨UInt8.ofNat r.toNat,by rw[UInt8.toNat_ofNat'];omega⟩;subst a;rw[tJ c (by omega)] at h;have:=h c (by simp);unfold kP at this;simp only[Bool.or_eq_false_iff,decide_eq_false_iff_not] at this;omega
 ·omega
theorem Pp: ∀(n:Nat) (s:aA),s.length<=n->validD s=true->(∀c∈s,kP c=false)-> ∀g,s.length<=g->iQ true g s 0=s.length
 | 0,s,hn,_,_=>by
  intro g _;cases s with
  | nil=>cases g<;>rfl
  | cons c r=>simp at hn
 | n+1,s,hn,hv,hc=>by
  intro g hg;by_cases hne:s= []
  ·subst hne;cases g<;>rfl
  obtain⟨r,t,hr,rfl,ht,hd⟩:=sA s hne hv;have d:=aCh r hr (λc h=>hc c (by simp[h]));have f: ∀c∈t,kP c=false:=λc h=>hc c (by simp[h]);obtain⟨E,i⟩:=exQ<|encodeRune r;have a:=pK r;have b:=(Am r hr d t).2;rw[i] at a;cases E with
  | nil=>exact absurd rfl a
  | cons e E'=>
   rw[i] at hd hn hc hg b ⊢;obtain⟨g',rfl⟩: ∃g0,g=g0+1:=⟨g-1,by simp at hg;omega⟩;rw[cU] at hd b;have e127:(e==127)=false:=by
    have:=hc e (by simp);unfold kP at this;simp only[Bool.or_eq_false_iff,decide_eq_false_iff_not] at this;rw[aG];rintro rfl;exact this.2 rfl
   have e1:(e::(E'++t)).drop (e::E').length=t:=(by rw[show e::(E'++t)=(e::E')++t from rfl,kU]);have ih:=Pp n t (by simp at hn;omega) ht f g' (by simp at hg;omega);rw[cU,En,b,hd,e127,if_neg (by simp),e1];have j:=vP true g' t 0 (e::E').length;rw[Nat.zero_add] at j;rw[Nat.zero_add,j,ih];simp only[aL,aI];omega
def dU (t:aA):Prop:=validD t=true/\ ∀c∈t,kP c=false
theorem dU.app {a b:aA} (h:dU a) (h2:dU b):dU (a++b):=⟨by rw[Dc a b h.1];exact h2.1,λc d=>by
 rcases mZ.1 d with d | d
 ·exact h.2 c d
 ·exact h2.2 c d⟩
theorem dU.lit {l:aA} (h: ∀c∈l,c.toNat<128/\kP c=false):dU l:=⟨Bl l (λc a=>(h c a).1),λc a=>(h c a).2⟩
theorem dU.wr {t:aA} (h:dU t):iR true t=t.length:=Pp t.length t (aD _) h.1 h.2 t.length (aD _)
theorem dU.no10 {t:aA} (h:dU t):t.contains 10=false:=by
 cases e:t.contains 10 with
 | false=>rfl
 | true=>
  have:=h.2 10 (by simpa using e);exact absurd this (by decide)
theorem aCi: ∀(p:Bool) (n:Fin 256),(bU p [UInt8.ofNat n.val]).all (λd=>!kP d||(kP (UInt8.ofNat n.val)&&decide (n.val<32)))=true:=by decide+kernel
theorem aCj: ∀(n:Fin 256),(qB (UInt8.ofNat n.val)).all (λd=>decide (32<=d.toNat))=true:=by decide+kernel
theorem aCk: ∀(p:Bool) (n:Fin 128),(bU p (qB (UInt8.ofNat n.val))).all (λd=>decide (d.toNat<128))=true:=by decide+kernel
theorem Pq: ∀(l:aA) (p:Bool),(∀c∈l,32<=c.toNat)-> ∀c∈bU p l,kP c=false
 | [],p,_=>λc hc=>by cases hc
 | d::r,p,h=>by
  have e:=wD r [d] p;rw[List.singleton_append] at e;rw[e];intro c hc;rcases mZ.1 hc with hc | hc
  ·have:=aCi p ⟨d.toNat,d.toNat_lt⟩;simp only[UInt8.ofNat_toNat] at this;have:=eH.1 this c hc;simp only[Bool.or_eq_true,Bool.not_eq_true',bV,eA] at this;rcases this with a | a
   ·exact a
   ·have:=h d (by simp);omega
  ·exact Pq r _ (λc hc=>h c (by simp[hc])) c hc
theorem aCl (s:aA): ∀c∈bW s,32<=c.toNat:=by
 intro c a;unfold bW at a;obtain⟨d,_,b⟩:=List.mem_flatMap.1 a;have:=aCj ⟨d.toNat,d.toNat_lt⟩;simp only[UInt8.ofNat_toNat] at this;simpa using eH.1 this c b
theorem Ps: ∀(n:Nat) (s:aA) (p:Bool),s.length<=n->validD s=true->validD (bU p (bW s))=true
 | 0,s,p,hn,_=>by
  cases s with
  | nil=>rfl
  | cons c r=>simp at hn
 | n+1,s,p,hn,hv=>by
  by_cases hne:s= []
  ·subst hne;rfl
  obtain⟨r,t,hr,rfl,ht,hd⟩:=sA s hne hv;have e:=pK r;have hl2:0<(encodeRune r).length:=mX.2 e;rw[zU,wD];have ih:=Ps n t (wC p (bW (encodeRune r))) (by rw[aI] at hn;omega) ht;by_cases h128:r<128
  ·have h0:=hr.1;obtain⟨c,f⟩: ∃c:UInt8,r=(c.toNat:Int):=⟨UInt8.ofNat r.toNat,by rw[UInt8.toNat_ofNat'];omega⟩;subst f;rw[tJ c (by omega),show bW [c]=qB c by simp[bW]] at ih ⊢;have a:=aCk p ⟨c.toNat,by omega⟩;simp only[UInt8.ofNat_toNat] at a;rw[Dc _ _ (Bl _ (λd hd=>by simpa using eH.1 a d hd))];exact ih
  ·have b:=tI r hr (by omega);rw[zV _ b] at ih ⊢;rw[Gi _ _ b,zQ r hr];exact ih
theorem dU.qS {s:aA} (hv:validD s=true):dU (qS s):=by
 unfold Go.Proofs.YtjnooaljcgkfpaaGreatDoor.qS;have a:dU (bU false (bW s)):=⟨Ps s.length s false (aD _) hv,Pq _ _ (aCl s)⟩;exact(dU.lit (l:= [34]) (by decide)).app (a.app (dU.lit (l:= [34]) (by decide)))
def qP:Bool->aA->Bool
 | _,[]=>true
 | p,c::r=>!(p&&c==35)&&qP (c==32) r
theorem Bm: ∀(l:aA) (p:Bool),qP p l=true-> ∀j,1<=j-> ¬(l[j]?=some 35/\l[j-1]?=some 32)
 | [],p,_,j,_=>by simp
 | c::r,p,h,j,hj=>by
  rw[qP,bV] at h;obtain⟨j,rfl⟩: ∃i,j=i+1:=⟨j-1,by omega⟩;rw[bM,Nat.add_sub_cancel];cases j with
  | zero=>
   rintro⟨a,b⟩;simp only[dG,cP] at b;subst b;cases r with
   | nil=>cases a
   | cons d r=>
    simp only[dG,cP] at a;subst a;have:=h.2;rw[qP] at this;simp at this
  | succ j=>
   have:=Bm r _ h.2 (j+1) (by omega);rw[bM]
   rwa [Nat.add_sub_cancel] at this
theorem Gl: ∀(l:aA),oE l=true->qP false l=true
 | [],_=>rfl
 | [c],_=>by rw[qP,qP];rfl
 | a::b::r,h=>by
  rw[oE,bV] at h;have ih:=Gl (b::r) h.2;rw[qP,Bool.false_and,Bool.not_false,Bool.true_and];rw[qP] at ih ⊢;rw[Bool.false_and,Bool.not_false,Bool.true_and] at ih;rw[ih,Bool.and_true];have:=h.1;simp only[Bool.not_eq_true',Bool.or_eq_false_iff] at this;rw[this.2];rfl
def yN (t:aA):Prop:=(t.head?=some 34\/t.head?=some 39)/\ ∀back:aA,back.head?≠some 39->cL (t++back)=t.length
def aCm (t:aA):Prop:=t.head?≠some 34/\t.head?≠some 39/\qP false t=true
structure uI (t:aA):Prop where
 cm:dU t
 ne:t≠ []
 h32:t.head?≠some 32
 h35:t.head?≠some 35
 last:t.getLast?≠some 32
 q:yN t\/aCm t
theorem Bn {l:aA} (h:l.head?≠some 32):bI l=0:=by
 cases l with
 | nil=>rfl
 | cons c r=>rw[xU,if_neg (by intro e;subst e;exact h rfl)]
theorem Pt {l:aA} (h:l.getLast?≠some 32):iS l=l.length:=by
 unfold iS;rw[Bn (by rw[List.head?_reverse];exact h),Nat.sub_zero]
theorem aCn {t:aA} (h1:t.head?≠some 34) (h2:t.head?≠some 39):cL t=0:=by unfold cL;rw[if_neg h1,if_neg h2]
theorem Pu (t:aA) (c m:Nat) (hm:m<c) (hs:eR t m 58=true): ∀(f k:Nat),k<=m->m<k+f->(∀j,k<=j->j<m->eR t j 58=false)->nX t c f k=(4,m)
 | 0,k,h1,h2,_=>by omega
 | f+1,k,h1,h2,h3=>by
  unfold nX;rw[if_neg (by omega)];by_cases hk:k=m
  ·subst hk;rw[if_pos hs]
  ·rw[h3 k (aD _) (by omega),if_neg (by simp)];exact Pu t c m hm hs f (k+1) (by omega) (by omega) (λj h4 h5=>h3 j (by omega) h5)
theorem aCo (P T:aA) (hT:uI T) (h:Nat×Nat) (hf:dR h=P.length) (hP:1<=P.length):
  rG (P++32::T) h (bT (P++32::T) (dR h)) (dN (P++32::T) (bT (P++32::T) (dR h)+cL ((P++32::T).drop (bT (P++32::T) (dR h)))))=⟨h.1,h.2,P.length+1,(P++32::T).length,none⟩:=by
 have f:bT (P++32::T) (dR h)=P.length+1:=by
  unfold bT;rw[hf,kU,xU,if_pos rfl,Bn hT.h32]
 have c:(P++32::T).drop (P.length+1)=T:=by
  rw[show P++32::T=(P++ [32])++T by simp,show P.length+1=(P++ [32]).length by simp,kU]
 have hlen:(P++32::T).length=P.length+1+T.length:=by simp;omega
 have b: ∀j,(P++32::T)[P.length+1+j]?=T[j]?:=λj=>by
  rw[<-nO,c]
 rw[f,c];have g:dN (P++32::T) (P.length+1+cL T)=(P++32::T).length:=by
  refine vR _ _ _ (aD _) (λh=>absurd h (Nat.lt_irrefl _)) (λj d h2=>?_);rcases hT.q with a | a
  ·have:=a.2 [] (by simp);rw[List.append_nil] at this;rw[this] at d;omega
  ·rw[aCn a.1 a.2.1] at d;obtain⟨i,rfl⟩: ∃i,j=P.length+1+i:=⟨j-(P.length+1),by omega⟩;rw[b];cases i with
   | zero=>
    rintro⟨e,_⟩;rw[<-List.head?_eq_getElem?] at e;exact hT.h35 e
   | succ i=>
    rw[show P.length+1+(i+1)-1=P.length+1+i by omega,b];have:=Bm T false a.2.2 (i+1) (by omega)
    rwa [Nat.add_sub_cancel] at this
 rw[g];unfold rG;rw[List.take_length,c,Pt hT.last,if_neg (Nat.lt_irrefl _)];congr 1;omega
structure yO (k:aA):Prop where
 cm:dU k
 ne:k≠ []
 h32:k.head?≠some 32
 h35:k.head?≠some 35
 q:yN k\/fH k=true
theorem Gm: ∀(l:List UInt8),oE l=true-> ∀j:Nat,¬(l[j]?=some 58/\l[j+1]?=some 32)
 | [],_,j=>by simp
 | [c],_,j=>by simp
 | a::b::r,h,j=>by
  rw[oE,bV] at h;cases j with
  | zero=>
   rintro⟨e1,e2⟩;simp only[dG,bM,cP] at e1 e2;subst e1 e2;exact absurd h.1 (by decide)
  | succ j=>
   rw[bM,bM];exact Gm (b::r) h.2 j
theorem Bo {k:aA} (h:fH k=true):dU k/\k≠ []/\k.head?≠some 32/\k.head?≠some 35/\k.getLast?≠some 32/\k.getLast?≠some 58/\k.head?≠some 34/\k.head?≠some 39/\k.head?≠some 91/\k.head?≠some 123/\oE k=true/\ ¬(k[0]?=some 45/\(k[1]?=none\/k[1]?=some 32)):=by
 rw[Gc] at h;cases k with
 | nil=>cases h
 | cons c r=>
  unfold yM at h;simp only[bV,Bool.not_eq_true',Gb,List.any_eq_false,aG,Bool.and_eq_false_iff,Bool.or_eq_false_iff] at h;obtain⟨⟨⟨⟨⟨⟨⟨n,j⟩,f⟩,g⟩,i⟩,b⟩,a⟩,l⟩:=h;refine⟨⟨n,λd m=>by simpa using j d m⟩,by simp,by simpa using f,?_,g,i,?_,?_,?_,?_,l,?_⟩
  ·intro e;simp only[List.head?_cons,cP] at e;subst e;exact absurd b (by decide)
  ·intro e;simp only[List.head?_cons,cP] at e;subst e;exact absurd b (by decide)
  ·intro e;simp only[List.head?_cons,cP] at e;subst e;exact absurd b (by decide)
  ·intro e;simp only[List.head?_cons,cP] at e;subst e;exact absurd b (by decide)
  ·intro e;simp only[List.head?_cons,cP] at e;subst e;exact absurd b (by decide)
  ·rintro⟨e1,e2⟩;simp only[dG,bM,cP] at e1 e2;subst e1;rcases a with a | a
   ·exact a rfl
   ·cases r with
    | nil=>simp at a
    | cons d r=>
     simp only[dG] at e2;rcases e2 with e2 | e2
     ·cases e2
     ·injection e2 with e2;subst e2;exact a.2 rfl
theorem aCp {t:aA} (h:fH t=true):uI t:=by
 obtain⟨b1,b2,b3,b4,b5,b6,b7,b8,b9,b10,b11,b12⟩:=Bo h;exact⟨b1,b2,b3,b4,b5, .inr ⟨b7,b8,Gl t b11⟩⟩
theorem aCq {t:aA} (h:fH t=true):yO t:=by
 obtain⟨b1,b2,b3,b4,b5,b6,b7,b8,b9,b10,b11,b12⟩:=Bo h;exact⟨b1,b2,b3,b4, .inr h⟩
theorem Pv: ∀(n:Nat) (s:aA),s.length<=n->validD s=true->validD (bJ s)=true
 | 0,s,hn,_=>by
  cases s with
  | nil=>rfl
  | cons c r=>simp at hn
 | n+1,s,hn,hv=>by
  by_cases hne:s= []
  ·subst hne;rfl
  obtain⟨r,t,hr,rfl,ht,hd⟩:=sA s hne hv;have hl2:0<(encodeRune r).length:=mX.2 (pK r);rw[xR];have ih:=Pv n t (by rw[aI] at hn;omega) ht;by_cases h39:r=39
  ·subst h39;rw[show bJ (encodeRune 39)= [39,39] from by decide+kernel,Dc _ _ (by decide)];exact ih
  ·rw[Al _ (xS r hr h39),zQ r hr];exact ih
theorem aCr: ∀(s:aA),∀c∈bJ s,c∈s\/c=39:=by
 intro s c b;unfold bJ at b;obtain⟨d,e,a⟩:=List.mem_flatMap.1 b;split at a
 ·simp at a;exact .inr a
 ·simp at a;subst a;exact .inl e
structure wE (t:aA):Prop where
 cm:dU t
 ne:t≠ []
 h32:t.head?≠some 32
 h35:t.head?≠some 35
 last:t.getLast?≠some 32
 q:yN t
theorem aCs (s:aA):(qS s).getLast?=some 34:=by
 unfold qS;rw[show (34::(bU false (bW s)++ [34]):aA)=(34::bU false (bW s))++ [34] from rfl,List.getLast?_append];simp
theorem aCt (s:aA) (hv:validD s=true):yN (qS s):=by
 have e:(qS s).head?=some 34:=rfl;refine⟨.inl e,λback _=>?_⟩;have c:=Pc s [] back hv;simp only[eE,bY,Nat.zero_add] at c;have a:0<(qS s++back).length:=by unfold qS;simp
 have b:=Ln (qS s++back) 0 a;rw[List.drop_zero] at b;change bZ (qS s++back) 0=_ at c;rw[c] at b;change mW (qS s++back) 0=_ at b;unfold cL;have d:(qS s++back).head?=some 34:=rfl;rw[if_pos d,b,if_pos rfl];simp
theorem aCu (s:aA) (h:(fR s).2=0):yN (fR s).1:=by
 obtain⟨_,r,a⟩:=Pg s h;refine⟨.inr (by rw[a];rfl),λback c=>?_⟩;have:=Md [] s back h c;simp only[eE,bY,Nat.zero_add] at this;change iP ((fR s).1++back) 0=_ at this;have b:((fR s).1++back).head?=some 39:=by rw[a];rfl
 unfold cL;rw[if_neg (by rw[b];decide),if_pos b,this,if_pos rfl];simp
theorem Pw (s:aA) (hv:validD s=true):wE (jS s).1:=by
 unfold jS;by_cases hc:lD s=true
 ·rw[if_pos hc];have a:=Bk hc;have f:=aCu s a;rw[Gb,bV,Bool.not_eq_true',List.any_eq_false] at hc;have e:(fR s).1=39::(bJ s++ [39]):=by
   unfold fR at a ⊢;split at a
   ·cases a
   ·rename_i h;rw[if_neg h]
  have d:dU (bJ s):=⟨Pv s.length s (aD _) hv,λc b=>by
   rcases aCr s c b with h | h
   ·simpa using hc.2 c h
   ·subst h;decide⟩
  refine⟨?_,?_,?_,?_,?_,f⟩
  ·rw[e];exact(dU.lit (l:= [39]) (by decide)).app (d.app (dU.lit (l:= [39]) (by decide)))
  ·rw[e];simp
  ·rw[e];simp
  ·rw[e];simp
  ·rw[e,show (39::(bJ s++ [39]):aA)=(39::bJ s)++ [39] from rfl,List.getLast?_append];simp
 ·rw[if_neg hc];have e:nF (dZ s).1=qS s:=by rw[Gh];exact Pb s hv false
  simp only[];rw[e];exact⟨dU.qS hv,by unfold qS;simp,by unfold qS;simp,by unfold qS;simp,by rw[aCs];simp,aCt s hv⟩
theorem wE.tx {t:aA} (h:wE t):uI t:=⟨h.cm,h.ne,h.h32,h.h35,h.last, .inl h.q⟩
theorem wE.ky {t:aA} (h:wE t):yO t:=⟨h.cm,h.ne,h.h32,h.h35, .inl h.q⟩
theorem aCv (s:aA) (hv:validD s=true):yO (eD s).1:=by
 unfold eD;rw[if_pos hv];by_cases hb:fH s=true
 ·rw[if_pos hb];exact aCq hb
 ·rw[if_neg hb];exact(Pw s hv).ky
end
end Go.Proofs.YtjnooaljcgkfpaaGreatDoor
