import Derived.Below
import Derived.Lib.Strings
import Derived.Lib.Small
import Derived.Lib.Bytealg
import Derived.Lib.TrimByte
import Derived.Lib.ItoaNum
import Derived.WalkKit
import Derived.WalkSpells
import Derived.WalkLawsBesides
import Derived.Lib.Hide
import Derived.Lib.OthersKept
import Derived.Lib.TrimUEq
import Derived.Lib.RuneCountTail
import Derived.Lib.ValidU
import Derived.Test.YtjnooaljcgkfpaaGreatDoorShelf
import Derived.Lib.IndexBytes
import Derived.Deep.DeepCutAuto
import Derived.Test.YtjnooaljcgkfpaaGreatDoorProg
namespace Go.Proofs.YtjnooaljcgkfpaaGreatDoor
set_option linter.unusedVariables false
set_option linter.unusedSimpArgs false
section
abbrev aB:=@RowKit.Below.refl
abbrev aD:=@Nat.le_refl
abbrev aG:=@beq_eq_false_iff_ne
abbrev aI:=@List.length_append
abbrev aJ:=@decide_eq_false
abbrev aL:=@List.length_cons
abbrev aN:=@decide_eq_true
abbrev aP:=@List.getElem?_eq_some_iff
abbrev aT:=@And.intro
abbrev aU:=@Array.getD_eq_getD_getElem?
abbrev aV:=@Nat.le_trans
abbrev aZ:=@List.length_drop
abbrev bA:=@List.mem_of_getElem?
abbrev bC:=@Option.some.inj
abbrev bH:=@List.getElem?_eq_getElem
abbrev bM:=@List.getElem?_cons_succ
abbrev bV:=@Bool.and_eq_true
abbrev bY:=@List.length_nil
abbrev cA:=@List.length_map
abbrev cB:=@List.length_take
abbrev cH:=@Nat.zero_le
abbrev cP:=@Option.some.injEq
abbrev cU:=@List.cons_append
abbrev cW:=@List.getElem?_map
abbrev dG:=@List.getElem?_cons_zero
abbrev dQ:=@List.length_singleton
abbrev dW:=@Array.getElem?_eq_some_iff
abbrev dY:=@List.append_assoc
abbrev eA:=@decide_eq_true_eq
abbrev eE:=@List.nil_append
abbrev eH:=@List.all_eq_true
abbrev eP:=@List.set_cons_succ
abbrev eQ:=@RowKit.Below.heap_setCell
abbrev eU:=@Int.toNat_natCast
abbrev eV:=@List.mem_cons
abbrev fN:=@List.getElem?_toArray
abbrev fO:=@List.setIfInBounds_toArray
abbrev fP:=@List.set_cons_zero
abbrev fV:=@List.mem_cons_self
abbrev gP:=@bne_iff_ne
abbrev iI:=@Nat.lt_of_lt_of_le
abbrev iJ:=@List.drop_eq_getElem_cons
abbrev jO:=@List.getElem?_append_right
abbrev jX:=@List.mem_singleton
abbrev jY:=@Nat.lt_succ_self
abbrev kU:=@List.drop_left
abbrev lP:=@List.drop_drop
abbrev lQ:=@List.map_cons
abbrev mC:=@List.take_append_drop
abbrev mX:=@List.length_pos_iff
abbrev mZ:=@List.mem_append
abbrev nO:=@List.getElem?_drop
abbrev nU:=@Option.map_eq_some_iff
abbrev oL:=@List.getElem?_append_left
abbrev pJ:=@List.mem_map
abbrev pN:=@Nat.le_of_eq
abbrev qE:=@List.map_append
abbrev rD:=@World.size_alloc
abbrev tN:=@Nat.not_lt_zero
abbrev tU:=@Nat.le_succ
abbrev xH:=@List.take_of_length_le
abbrev Dq:=@List.getElem?_eq_none_iff
abbrev Jw:=@Array.getElem?_setIfInBounds
theorem exQ{α:Sort _}(a:α):∃x,a=x:=⟨_,rfl⟩
def bs (l:List UInt8):ByteArray:=⟨l.toArray⟩
theorem aW (l:List UInt8):(bs l).data.toList=l:=by simp[bs]
theorem aQ (l:List UInt8):(bs l).size=l.length:=by simp[bs,ByteArray.size]
theorem wN (s:ByteArray):bs s.data.toList=s:=by cases s;simp[bs]
theorem Hx {a b:List UInt8} (h:bs a=bs b):a=b:=by rw[<-aW a,h,aW]
def cT (b:UInt8):Bool:=decide (48<=b.toNat/\b.toNat<=57)
def fJ (l:List UInt8):Bool:=!l.isEmpty&&l.all cT
structure dS where
 neg:Bool
 dig:List UInt8
 exp:Int
deriving DecidableEq
def fB:dS:=⟨false,[],0⟩
def qW (n:dS):Prop:=fJ n.dig=true/\n.dig.length<=1000/\n.dig.head?≠some 48/\n.dig.getLast?≠some 48/\ -1000000<=n.exp/\n.exp<=1000000
instance (n:dS):Decidable (qW n):=by unfold qW;infer_instance
def jT (n:dS):Bool:=decide (n=fB\/qW n)
def dJ (p:UInt8->Bool) (l:List UInt8):List UInt8×List UInt8×Bool:=
 match l.dropWhile (λc=>!p c) with
 | []=>(l,[],false)
 | _::t=>(l.takeWhile (λc=>!p c),t,true)
def kH (c:UInt8):Bool:=c==101||c==69
def rV (c:UInt8):Bool:=c==46
structure uW where
 neg:Bool
 whole:List UInt8
 rest:List UInt8
 low:Bool
 exp:List UInt8
def gO (l:List UInt8):List UInt8:=if l.head?=some 45 then l.drop 1 else l
def iY (l:List UInt8):List UInt8:=if l.head?=some 45\/l.head?=some 43 then l.drop 1 else l
def tE (has pt:Bool) (x whole rest:List UInt8):Bool:=(!has||fJ x)&&(fJ whole&&(!pt||fJ rest))&&(whole== [48]||whole.head? !=some 48)
def lM (l:List UInt8):Option uW:=
 let c:=dJ kH (gO l)
 let m:=dJ rV c.1
 let x:=if c.2.2 then iY c.2.1 else []
 if tE c.2.2 m.2.2 x m.1 m.2.1 then some ⟨l.head?==some 45,m.1,m.2.1,c.2.2&&c.2.1.head?==some 45,x⟩ else none
def gJ (l:List UInt8):Int:=l.foldl (λa c=>10*a+((c.toNat:Int)-48)) 0
def jL (l:List UInt8):List UInt8:=l.dropWhile (· ==48)
def dK (l:List UInt8):List UInt8:=(l.reverse.dropWhile (· ==48)).reverse
def qX (x:uW):dS×Int:=
 if 1000<x.whole.length+x.rest.length then(fB,3) else
 if 9<(jL x.exp).length then(fB,4) else
 let e:=if x.low then-gJ x.exp else gJ x.exp
 let d:=jL (x.whole++x.rest)
 if d= [] then(fB,0) else
 let k:=e-x.rest.length+(d.length-(dK d).length)
 if k< -1000000\/1000000<k then(fB,4) else(⟨x.neg,dK d,k⟩,0)
def cO (l:List UInt8):dS×Int:=match lM l with | none=>(fB,2) | some x=>qX x
theorem Cp (a:List UInt8) (c:UInt8):gJ (a++ [c])=10*gJ a+((c.toNat:Int)-48):=by
 unfold gJ;rw[List.foldl_append];rfl
theorem Hy: ∀l:List UInt8,gJ (jL l)=gJ l
 | []=>rfl
 | c::t=>by
  unfold jL;rw[List.dropWhile_cons];by_cases h:c=48
  ·subst h;have:=Hy t;unfold jL at this;rw[if_pos (by decide),this];unfold gJ;rfl
  ·rw[if_neg (by simpa using h)]
theorem To: ∀l:List UInt8,l.all cT=true->0<=gJ l/\gJ l<10 ^ l.length:=by
 intro l
 induction hn:l.length generalizing l with
 | zero=>intro _;have:l= []:=List.eq_nil_of_length_eq_zero hn;subst this;simp[gJ]
 | succ n ih=>
  intro h;have b:l≠ []:=by intro e;subst e;simp at hn
  obtain⟨a,c,rfl⟩: ∃a c,l=a++ [c]:=⟨l.dropLast,l.getLast b,(List.dropLast_concat_getLast b).symm⟩;rw[List.all_append,bV] at h;obtain⟨h1,h2⟩:=ih a (by simp at hn;omega) h.1;have hc:48<=c.toNat/\c.toNat<=57:=by have:=h.2;simp[cT] at this;exact this
  rw[Cp,Int.pow_succ];omega
open Go.Lib (compareBytes)
open Go.Lib (compareBytes compareInt)
open Go.Lib (compareBytes compareInt itoa decDigits nDigits)
theorem Hz (p:UInt8->Bool): ∀l:List UInt8,(∀c∈l,p c=true)->l.dropWhile p= []
 | [],_=>rfl
 | c::t,h=>by rw[List.dropWhile_cons,if_pos (h c fV)];exact Hz p t λx hx=>h x (List.mem_cons_of_mem _ hx)
theorem Tp (p:UInt8->Bool) (l:List UInt8) (h: ∀c∈l,p c=false):dJ p l=(l,[],false):=by
 unfold dJ;rw[Hz _ l λc a=>by simp[h c a]]
theorem Ia (p:UInt8->Bool): ∀(a:List UInt8) (b:UInt8) (t:List UInt8),(∀c∈a,p c=false)->p b=true->dJ p (a++b::t)=(a,t,true)
 | [],b,t,_,hb=>by simp[dJ,hb]
 | c::a,b,t,h,hb=>by
  have ih:=Ia p a b t (λx d=>h x (List.mem_cons_of_mem _ d)) hb;have e:=h c (fV);unfold dJ at ih ⊢;rw[cU,List.dropWhile_cons,List.takeWhile_cons,e];simp only[Bool.not_false,if_true];cases hd:(a++b::t).dropWhile (λc=>!p c) with
  | nil=>rw[hd] at ih;simp at ih
  | cons y r=>rw[hd] at ih;simp at ih ⊢;exact ih
theorem Ib (u:Nat):(decDigits u).all cT=true/\decDigits u≠ []/\gJ (decDigits u)=(u:Int):=by
 induction u using Nat.strongRecOn with
 | _ u ih=>
  have a: ∀k:Nat,k<10->cT (UInt8.ofNat (48+k))=true/\((UInt8.ofNat (48+k)).toNat:Int)=48+k:=by
   intro k hk;have:(UInt8.ofNat (48+k)).toNat=48+k:=by rw[UInt8.toNat_ofNat'];omega
   refine⟨aN (by rw[this];omega),by rw[this];omega⟩
  by_cases h:u<10
  ·rw[decDigits,dif_pos h];refine⟨by rw[List.all_cons,(a u h).1];rfl,by simp,?_⟩;unfold gJ;simp only[List.foldl_cons,List.foldl_nil];rw[(a u h).2];omega
  ·rw[decDigits,dif_neg h];obtain⟨b,h2,c⟩:=ih (u / 10) (by omega);refine⟨?_,by simp,?_⟩
   ·rw[List.all_append,bV];exact⟨b,by rw[List.all_cons,(a (u % 10) (by omega)).1];rfl⟩
   ·rw[Cp,c,(a (u % 10) (by omega)).2];omega
theorem Tq (u:Nat): ∀k,u<10 ^ k->1<=k->(decDigits u).length<=k:=by
 induction u using Nat.strongRecOn with
 | _ u ih=>
  intro k b c;by_cases h:u<10
  ·rw[decDigits,dif_pos h];exact c
  ·rw[decDigits,dif_neg h,aI];obtain⟨m,rfl⟩: ∃m,k=m+1:=⟨k-1,by omega⟩;rw[Nat.pow_succ] at b;rcases Nat.eq_zero_or_pos m with a | a
   ·subst a;simp at b;omega
   ·have:=ih (u / 10) (by omega) m (by omega) a;simp;omega
theorem wO (l:List UInt8):l=dK l++List.replicate (l.length-(dK l).length) 48:=by
 unfold dK;have h:=List.takeWhile_append_dropWhile (p:=λx:UInt8=>x==48) (l:=l.reverse);have c:(l.reverse.takeWhile (· ==48))=List.replicate (l.reverse.takeWhile (· ==48)).length 48:=by
  rw[List.eq_replicate_iff];refine⟨rfl,λb e=>?_⟩;have:=eH.1 (List.all_takeWhile (p:=λx:UInt8=>x==48) (l:=l.reverse)) b e;simpa using this
 have a:l=(l.reverse.dropWhile (· ==48)).reverse++(l.reverse.takeWhile (· ==48)).reverse:=by
  rw[<-List.reverse_append,h,List.reverse_reverse]
 have d:l.length-(l.reverse.dropWhile (· ==48)).reverse.length=(l.reverse.takeWhile (· ==48)).length:=by
  have:=congrArg List.length a;rw[aI,(show (l.reverse.takeWhile (· ==48)).reverse.length=(l.reverse.takeWhile (· ==48)).length from List.length_reverse)] at this;omega
 rw[d,<-List.reverse_replicate,<-c];exact a
theorem Ic (l:List UInt8):(dK l).getLast?≠some 48:=by
 unfold dK;rw[List.getLast?_reverse];intro h;have:=List.head?_dropWhile_not (p:=λx:UInt8=>x==48) (l:=l.reverse);rw[h] at this;simp at this
def qY (i:Int):dS:=(cO (itoa i)).1
open Go.Lib (compareBytes compareInt itoa decDigits nDigits)
def fK (n:dS):List UInt8:=
 if jT n=false then [] else if n.dig= [] then [48] else
 (if n.neg then [45] else [])++(n.dig++(if n.exp≠0 then 101::itoa n.exp else []))
theorem Id {p:UInt8->Bool}{l a b:List UInt8} (h:dJ p l=(a,b,false)):a=l/\b= []:=by
 unfold dJ at h;split at h
 ·injection h with d c;injection c with e _;exact⟨d.symm,e.symm⟩
 ·injection h with d c;injection c with e f;cases f
theorem rW {l:List UInt8} (h:fJ l=true):l≠ []/\l.all cT=true:=by
 unfold fJ at h;rw[bV] at h;exact⟨by intro e;rw[e] at h;simp at h,h.2⟩
theorem Ie {l:List UInt8} (h:l≠ []) (h2:l.all cT=true):fJ l=true:=by
 unfold fJ;rw[h2,Bool.and_true];cases l with
 | nil=>exact absurd rfl h
 | cons _ _=>rfl
theorem If {l:List UInt8} (h:l.head?≠some 48) (hne:l≠ []):dK l≠ []/\(dK l).head?≠some 48:=by
 have a:=wO l;have b:dK l≠ []:=by
  intro e;rw[e,eE] at a;cases hc:l with
  | nil=>exact hne hc
  | cons x t=>
   rw[hc] at a h;simp only[aL,bY,Nat.sub_zero,List.replicate_succ] at a;injection a with c _;apply h;rw[c];rfl
 refine⟨b,?_⟩;rw[a] at h;cases hc:dK l with
 | nil=>exact absurd hc b
 | cons x t=>rw[hc] at h;exact h
theorem Ig (l:List UInt8):(jL l).head?≠some 48:=by
 unfold jL;intro h;have:=List.head?_dropWhile_not (p:=λx:UInt8=>x==48) (l:=l);rw[h] at this;simp at this
theorem Cq {l:List UInt8} (h:l.all cT=true):(jL l).all cT=true:=by
 rw[eH] at h ⊢;intro x a;exact h x ((List.dropWhile_sublist _).subset a)
theorem Ih {l:List UInt8} (h:l.all cT=true):(dK l).all cT=true:=by
 rw[wO l,List.all_append,bV] at h;exact h.1
theorem Ii {l:List UInt8}{x:uW} (h:lM l=some x):fJ x.whole=true/\x.rest.all cT=true/\x.exp.all cT=true:=by
 unfold lM at h;simp only[] at h;have g:(dJ kH (gO l)).2.2=false->(if(dJ kH (gO l)).2.2=true then iY (dJ kH (gO l)).2.1 else [])= []:=λe=>by rw[e];rfl
 generalize (if(dJ kH (gO l)).2.2=true then iY (dJ kH (gO l)).2.1 else [])=xx at h g;split at h
 ·rename_i c;injection h with h;subst h;unfold tE at c;simp only[bV,Bool.or_eq_true,Bool.not_eq_true'] at c;obtain⟨⟨d,i,f⟩,_⟩:=c;refine⟨i,?_,?_⟩
  ·rcases f with f | f
   ·have:=(Id (p:=rV) (l:=(dJ kH (gO l)).1) (a:=(dJ rV (dJ kH (gO l)).1).1) (b:=(dJ rV (dJ kH (gO l)).1).2.1) (by rw[<-f])).2;rw[this];rfl
   ·exact(rW f).2
  ·rcases d with d | d
   ·rw[g d];rfl
   ·exact(rW d).2
 ·cases h
theorem Tr {x:uW}{n:dS} (h1:fJ x.whole=true) (h2:x.rest.all cT=true) (h:qX x=(n,0)):jT n=true:=by
 unfold qX at h;split at h
 ·injection h with _ h;cases h
 rename_i hlen;split at h
 ·injection h with _ h;cases h
 simp only[] at h;generalize (if x.low=true then-gJ x.exp else gJ x.exp)=ee at h;split at h
 ·injection h with h _;subst h;rfl
 rename_i e;split at h
 ·injection h with _ h;cases h
 rename_i hk;injection h with h _;subst h;have a:(jL (x.whole++x.rest)).all cT=true:=Cq (by rw[List.all_append,bV];exact⟨(rW h1).2,h2⟩);have d:=If (Ig _) e;have hl1:(jL (x.whole++x.rest)).length<=x.whole.length+x.rest.length:=by
  have:=(List.dropWhile_sublist (p:=λc:UInt8=>c==48) (l:=x.whole++x.rest)).length_le;rw[aI] at this;exact this
 have b:=congrArg List.length (wO (jL (x.whole++x.rest)));rw[aI] at b;refine aN (.inr ⟨Ie d.1 (Ih a),?_,d.2,Ic _,?_,?_⟩)
 ·show (dK (jL (x.whole++x.rest))).length<=1000;omega
 ·simp only[];omega
 ·simp only[];omega
theorem Cr {l:List UInt8}{n:dS} (h:cO l=(n,0)):jT n=true:=by
 unfold cO at h;cases hl:lM l with
 | none=>rw[hl] at h;injection h with _ h;cases h
 | some x=>
  rw[hl] at h;obtain⟨a,b,_⟩:=Ii hl;exact Tr a b h
theorem Ts {n:dS} (h:jT n=true):fK n≠ []:=by
 unfold fK;rw[h];simp only[Bool.true_eq_false,if_false];split
 ·simp
 ·rename_i a;intro e;rw[List.append_eq_nil_iff,List.append_eq_nil_iff] at e;exact a e.2.1
end
section
open Go.RowKit
theorem uX {k:IntKind}{a b:Int} (h:a=b):Ending.returned (.int k a)= .returned (.int k b):=by rw[h]
theorem Cs {a b:Bool} (h:a=b):Ending.returned (.bool a)= .returned (.bool b):=by rw[h]
theorem Ij {W w1:World} (hb:Below W.heap.size W w1):(∀b o,b<W.heap.size->w1.cell? ⟨b,o,none⟩=W.cell? ⟨b,o,none⟩)/\(∀b o,b<W.heap.size->w1.frozen? ⟨b,o,none⟩=W.frozen? ⟨b,o,none⟩):=
 ⟨λb o h=>hb.cell (p:=⟨b,o,none⟩) h,λb o h=>hb.frozen (p:=⟨b,o,none⟩) h⟩
theorem wP {P:Program}{ops:Array Oper}{rest:List Oper}{o:Oper}{a:Act}{Q:Exit->Act->World->Prop} (hgd:o.guard=none) (s x:Operand) (t:TypeId)
  (ho:o.op= .call { callee:= .builtin .append,args:= #[s,x],argTypes:= #[t,t] })
  (base:Nat) (e:TypeId) (i:TypeInfo) (z:Value) (size bytes:Nat) (ht:P.underlying t=some (.slice e)) (hi:P.info? e=some i) (hz:i.zero=some z)
  (hsize:i.size=size) (hby:i.bytes=bytes) (hzs:z.cells.size=size) (hsz:0<size)
  (w:World) (v:Value) (n:Nat) (xs:List Value) (hs:a.eval s=v) (hown:w.ownsRow base e size v n xs)
  (cs:Array Value) (hx:a.eval x= .slice (some ⟨w.heap.size,0,none⟩) 1 1) (hcs:cs.size=size) (h1: ∀u∈cs.toList,u.oneCell'=true)
  (hn:n+1<=4294967296) (hbt:bytes<=256) (hbase:base<=w.heap.size)
  (h: ∀v' w',w'.ownsRow base e size v' (n+1) (xs++cs.toList)->w.heap.size<=w'.heap.size->Below base w w'->(∀k,k<w.heap.size->some k≠v.ownBlock->w'.heap[k]?=w.heap[k]?)->v'≠ .slice none 0 0->wpList P ops Q rest (a.put o.dst v') w'):wpList P ops Q (o::rest) a (w.alloc (.cells cs e)):=by
 have hmul:(n+1)*bytes<=4294967296*256:=Nat.mul_le_mul hn hbt;refine wpList_append_own _ hgd s x t ho base e i z size bytes ht hi hz hsize hby hzs hsz v n xs hs (hown.alloc _) ⟨w.heap.size,0,none⟩ 1 1 cs.toList hx (by simp[hcs]) ?_ h1 (by unfold maxLen;omega) (by omega) (by simp;omega) ?_
 ·intro j u f;rw[Array.getElem?_toList] at f;have e1:((⟨w.heap.size,0,none⟩:Addr).add j)=⟨w.heap.size,j,none⟩:=by unfold Addr.add;split<;>simp_all
  rw[e1,World.cell?_alloc_new];exact f
 ·intro v' w' l g m;have b:Below base w w':=((aB base w).alloc hbase _).grown g (by simp;omega) (λk c=>((hown.alloc (.cells cs e)).lt k c).1);refine h v' w' l b.size b (λk c d=>?_) (λp=>?_)
  ·rw[g.block k (by simp;omega) d,Below.heap_alloc _ _ _ c]
  ·have:=(m.1 p).2;omega
theorem aC {W w w':World} (h:Below W.heap.size W w) (h2:Below w.heap.size w w'):Below W.heap.size W w':=h.trans (h2.mono h.size)
end
section
open Go.RowKit
open Go.Lib
def bG (s:ByteArray) (i:Nat):Int:=((Utf8.decode s i).1:Int)
def bB (s:ByteArray) (i:Nat):Nat:=(Utf8.decode s i).2
theorem rX (s:ByteArray) (i:Nat):0<=bG s i/\bG s i<=1114111:=by
 unfold bG;have:=rune_le s i;omega
theorem Tt (n b0 b1 b2 b3:Nat) (hn:1<=n):(decodeN n b0 b1 b2 b3).2<=4/\(decodeN n b0 b1 b2 b3).2<=n:=by
 unfold decodeN;repeat' split
 all_goals (simp only[];omega)
theorem pE (s:ByteArray) (i:Nat) (hi:i<s.size):1<=bB s i/\bB s i<=4/\i+bB s i<=s.size:=by
 unfold bB;have h1:=width_pos s i;rw[decode_at] at *;have:=Tt (s.size-i) (s.get! i).toNat (s.get! (i+1)).toNat (s.get! (i+2)).toNat (s.get! (i+3)).toNat (by omega);omega
def lN (s:ByteArray) (i:Nat):Bool:=!(bG s i==65533&&((bB s i:Nat):Int)==1)
theorem qZ {w:World}{b o:Nat}{v:Value} (h:w.cell? ⟨b,o,none⟩=some v):b<w.heap.size:=World.block_lt_of_cell? w _ h
def mS (s:ByteArray):Nat->Nat->Option Nat
 | 0,_=>none
 | f+1,pos=>if pos<s.size then(if lN s pos then mS s f (pos+bB s pos) else some pos) else none
def wQ (s:ByteArray):Option Nat:=mS s s.size 0
def lO (s:ByteArray):Int×Bool:=match wQ s with | some p=>(p,false) | none=>(s.size,true)
theorem Tu (s:ByteArray) (f pos:Nat) (h:s.size<=pos):mS s f pos=none:=by
 cases f
 ·rfl
 ·unfold mS;rw[if_neg (by omega)]
theorem Tv (s:ByteArray) (f pos:Nat) (h:pos<s.size) (hg:lN s pos=true) (hf:s.size<=f+pos): ∃g,mS s f pos=mS s g (pos+bB s pos)/\s.size<=g+(pos+bB s pos):=by
 obtain⟨g,rfl⟩: ∃g,f=g+1:=⟨f-1,by omega⟩;have:=pE s pos h;refine⟨g,?_,by omega⟩;show (if pos<s.size then(if lN s pos then mS s g (pos+bB s pos) else some pos) else none)=_;rw[if_pos h,if_pos hg]
theorem Tw (s:ByteArray) (f pos:Nat) (h:pos<s.size) (hg:lN s pos=false) (hf:s.size<=f+pos):mS s f pos=some pos:=by
 obtain⟨g,rfl⟩: ∃g,f=g+1:=⟨f-1,by omega⟩;show (if pos<s.size then(if lN s pos then mS s g (pos+bB s pos) else some pos) else none)=_;rw[if_pos h,hg];rfl
def oF (s:ByteArray) (pos:Nat):Prop:= ∃f,wQ s=mS s f pos/\s.size<=f+pos
theorem oF.zero (s:ByteArray):oF s 0:=⟨s.size,rfl,by omega⟩
theorem oF.next {s:ByteArray}{pos:Nat} (h:oF s pos) (hp:pos<s.size) (hg:lN s pos=true):oF s (pos+bB s pos):=by
 obtain⟨f,b,c⟩:=h;obtain⟨g,d,a⟩:=Tv s f pos hp hg c;exact⟨g,b.trans d,a⟩
theorem oF.bad {s:ByteArray}{pos:Nat} (h:oF s pos) (hp:pos<s.size) (hg:lN s pos=false):lO s=((pos:Int),false):=by
 obtain⟨f,a,b⟩:=h;unfold lO;rw[a,Tw s f pos hp hg b]
theorem oF.fin {s:ByteArray}{pos:Nat} (h:oF s pos) (hp:s.size<=pos):lO s=((s.size:Int),true):=by
 obtain⟨f,a,h2⟩:=h;unfold lO;rw[a,Tu s f pos hp]
theorem oH (s:ByteArray) (pos:Nat):decodeL (s.data.toList.drop pos)=Utf8.decode s pos:=by
 rw[decodeL_N,decode_N];simp only[aZ,List.getD_eq_getElem?_getD,nO,Nat.add_zero]
theorem Tx (s:ByteArray) (pos:Nat):lN s pos=decide (¬((Utf8.decode s pos).1=65533/\(Utf8.decode s pos).2=1)):=by
 unfold lN bG bB;rw[Bool.eq_iff_iff];simp;omega
theorem Ik (s:ByteArray): ∀f pos,s.size<=f+pos->validGoD f (s.data.toList.drop pos)=(mS s f pos).isNone
 | 0,pos,h=>by simp[validGoD,mS]
 | f+1,pos,h=>by
  have hl:s.data.toList.length=s.size:=rfl;unfold validGoD mS;by_cases hp:pos<s.size
  ·have a: ¬(s.data.toList.drop pos= []):=by rw[List.drop_eq_nil_iff];omega
   have b:=pE s pos hp;rw[if_neg a,if_pos hp,oH,Tx];by_cases hb:(Utf8.decode s pos).1=65533/\(Utf8.decode s pos).2=1
   ·rw[if_pos hb];simp[hb]
   ·rw[if_neg hb,lP];have ih:=Ik s f (pos+bB s pos) (by omega);unfold bB at ih b ⊢;rw[ih,aN hb];rfl
  ·have a:s.data.toList.drop pos= []:=by rw[List.drop_eq_nil_iff];omega
   rw[if_pos a,if_neg hp];rfl
theorem Il (s:ByteArray):Lib.validD s.data.toList=(wQ s).isNone:=by
 unfold Lib.validD wQ;have:=Ik s s.size 0 (by omega);simpa using this
theorem Ty {s:ByteArray} (h:Lib.validD s.data.toList=true):lO s=((s.size:Int),true):=by
 rw[Il,Option.isNone_iff_eq_none] at h;unfold lO;rw[h]
theorem Ct {R:Int×Bool}{a:Int}{b:Bool} (h:R=(a,b)):Ending.returned (.tuple #[.int .i64 a, .bool b])= .returned (.tuple #[.int .i64 R.1, .bool R.2]):=by subst h;rfl
theorem Tz {s:ByteArray}{pos:Nat} (h:bG s pos≠65533):lN s pos=true:=by
 unfold lN;rw[aG.2 h];rfl
theorem Ua {s:ByteArray}{pos:Nat} (h:bB s pos≠1):lN s pos=true:=by
 unfold lN;rw[show (((bB s pos:Nat):Int)==1)=false from aG.2 (by omega)];simp
theorem Ub {s:ByteArray}{pos:Nat} (h:bG s pos=65533) (h1:bB s pos=1):lN s pos=false:=by
 unfold lN;rw[h,h1];rfl
theorem aE {w:World}{k:Nat}{o:Obj} (h:w.heap[k]?=some o):k<w.heap.size:=(dW.1 h).1
end
section
open Go.RowKit
open Go.Lib hiding intOf
theorem Im (s:ByteArray) (k:Nat):s.extract k s.size=bs (s.data.toList.drop k):=by rw[<-wN (s.extract k s.size),Lib.extract_to_end]
theorem zJ (s:ByteArray) (h:0<s.size):s.data.toList.head?=some (s[0]'h):=by
 rw[List.head?_eq_getElem?,Array.getElem?_toList,Array.getElem?_eq_getElem h];rfl
theorem mT (s:ByteArray) (a b:Nat):s.extract a b=bs ((s.data.toList.drop a).take (b-a)):=by
 rw[<-wN (s.extract a b),Lib.extract_data]
theorem Cu (s:ByteArray) (k:Nat):s.extract 0 k=bs (s.data.toList.take k):=by rw[mT,List.drop_zero,Nat.sub_zero]
theorem mU (a b:List UInt8):bs a++bs b=bs (a++b):=by
 rw[<-wN (bs a++bs b),ByteArray.data_append,Array.toList_append,aW,aW]
theorem mV (l:List UInt8) (k n:Nat) (h:n=l.length):(bs l).extract k n=bs (l.drop k):=by
 have:=Im (bs l) k;rw[aW,aQ] at this;rw[h,this]
theorem Cv (b c:UInt8) (n:Int) (hn:n=c.toNat):((b.toNat:Int)==n)=(b==c):=by
 rw[hn];by_cases hc:b=c
 ·rw[hc];simp
 ·rw[aG.2 (by intro e;apply hc;apply UInt8.toNat_inj.1;omega),aG.2 hc]
theorem pF (l:List UInt8) (c:UInt8) (n:Int) (hn:n=c.toNat) (h:0<(bs l).size):(((((bs l)[0]'h).toNat:Int))==n)=(l.head?==some c):=by
 have a:=zJ (bs l) h;rw[aW] at a;rw[a,hn];by_cases hc:(bs l)[0]'h=c
 ·rw[hc];simp
 ·rw[aG.2 (by intro e;apply hc;apply UInt8.toNat_inj.1;omega),aG.2 (by simpa using hc)]
theorem In {w w':World}{n:String}{v:Array Value} (h:w.var? Tryz.prog n=some v) (hb:Below w.heap.size w w'):w'.var? Tryz.prog n=some v:=by
 unfold World.var? at h ⊢;cases hg:Tryz.prog.globalNamed n with
 | none=>rw[hg] at h;cases h
 | some g=>
  rw[hg] at h;simp only[Option.bind_some] at h ⊢;cases ho:w.heap[g]? with
  | none=>rw[ho] at h;cases h
  | some o=>rw[hb.block g (aE ho),ho];rw[ho] at h;exact h
theorem aH (w:World) (o:Obj):Below w.heap.size w (w.alloc o):=(aB _ _).alloc (aD _) _
theorem Uc (b:UInt8):((b.toNat:Int)).toNat.toUInt8=b:=by
 rw[eU];exact UInt8.ofNat_toNat
theorem wR (A:ByteArray) (b:UInt8) (w:World):
  Calls Tryz.prog 55 #[.string A, .int .u8 (b.toNat:Int)] w λe w'=>e= .returned (.int .i64 (Lib.indexByte A.data.toList b))/\w=w':=by
 have h:=Tryz.strings_IndexByte A (b.toNat:Int) w;rw[Uc] at h;exact h.mono λ_ _ ⟨a,b⟩=>⟨a,b.symm⟩
end
section
abbrev aA:=List UInt8
inductive VT where
 | mk (kind:Int) (text:aA) (keys:List aA) (items:List VT)
def VT.kind:VT->Int | .mk k _ _ _=>k
def VT.text:VT->aA | .mk _ s _ _=>s
def VT.keys:VT->List aA | .mk _ _ ks _=>ks
def VT.items:VT->List VT | .mk _ _ _ l=>l
theorem VT.eta (t:VT):VT.mk t.kind t.text t.keys t.items=t:=by cases t;rfl
theorem VT.ind {P:VT->Prop} (h: ∀k s ks l,(∀x∈l,P x)->P (.mk k s ks l)) (t:VT):P t:=by
 match t with
 | .mk k s ks l=>exact h k s ks l (λx hx=>VT.ind h x)
termination_by SizeOf.sizeOf t
decreasing_by
 have:=List.sizeOf_lt_of_mem hx;simp;omega
def bN (l:List aA):Nat:=(l.map List.length).sum
theorem Cw (y:aA) (l:List aA):bN (y::l)=y.length+bN l:=rfl
theorem zK {l:List aA}{x:aA} (h:x∈l):x.length<=bN l:=by
 induction l with
 | nil=>cases h
 | cons y l ih=>
  rw[Cw];rcases eV.1 h with rfl | h
  ·omega
  ·have:=ih h;omega
mutual
def VT.size:VT->Nat
 | .mk _ _ _ l=>dX l+1
def dX:List VT->Nat
 | []=>0
 | x::l=>x.size+dX l
end
mutual
def VT.depth:VT->Nat
 | .mk _ _ _ l=>cC l+1
def cC:List VT->Nat
 | []=>0
 | x::l=>max x.depth (cC l)
end
mutual
def VT.bulk:VT->Nat
 | .mk _ s ks l=>s.length+(bN ks+ks.length)+aY l+1
def aY:List VT->Nat
 | []=>0
 | x::l=>x.bulk+aY l
end
mutual
def dO (p:VT->Bool):VT->Bool
 | .mk k s ks l=>p (.mk k s ks l)&&pG p l
def pG (p:VT->Bool):List VT->Bool
 | []=>true
 | x::l=>dO p x&&pG p l
end
mutual
def jU:VT->Int->Nat->Int
 | .mk _ _ ks l,left,d=>if 60<d then -1 else nP l (left-1-(ks.length:Int)) (d+1)
def nP:List VT->Int->Nat->Int
 | [],left,_=>left
 | x::l,left,d=>if 0<=left then nP l (jU x left d) d else left
end
mutual
def uY:VT->Bool
 | .mk _ s ks l=>decide (s.length<=2048)&&ks.all (λk=>decide (k.length<=1024))&&rY l
def rY:List VT->Bool
 | []=>true
 | x::l=>uY x&&rY l
end
def wS (t:VT) (most:Int):Bool:=decide (0<=jU t most 0)&&uY t
theorem Ud (l:List VT):dX l=(l.map VT.size).sum:=by
 induction l with
 | nil=>rfl
 | cons x l ih=>rw[dX,ih];rfl
theorem Ue (l:List VT):aY l=(l.map VT.bulk).sum:=by
 induction l with
 | nil=>rfl
 | cons x l ih=>rw[aY,ih];rfl
theorem uZ (p:VT->Bool) (l:List VT):pG p l=l.all (dO p):=by
 induction l with
 | nil=>rfl
 | cons x l ih=>rw[pG,ih];rfl
theorem Io (a b:List VT):dX (a++b)=dX a+dX b:=by simp[Ud]
theorem vA (a b:List VT):aY (a++b)=aY a+aY b:=by simp[Ue]
theorem Ip (a b:List VT):cC (a++b)=max (cC a) (cC b):=by
 induction a with
 | nil=>simp[cC]
 | cons x a ih=>rw[cU,cC,cC,ih];omega
theorem rA (t:VT):0<t.size:=by cases t;rw[VT.size];omega
theorem oI (t:VT):t.size<=t.bulk:=by
 induction t using VT.ind with
 | h k s ks l ih=>
  rw[VT.size,VT.bulk];have:dX l<=aY l:=by
   clear k s ks
   induction l with
   | nil=>exact aD _
   | cons x l ihl=>
    rw[dX,aY];have h1:=ih x fV;have h2:=ihl (λy a=>ih y (List.mem_cons_of_mem _ a));omega
  omega
theorem Uf (l:List VT):dX l<=aY l:=by
 induction l with
 | nil=>exact aD _
 | cons x l ih=>rw[dX,aY];have:=oI x;omega
theorem zL (t:VT):t.depth<=t.size:=by
 induction t using VT.ind with
 | h k s ks l ih=>
  rw[VT.size,VT.depth];have:cC l<=dX l:=by
   clear k s ks
   induction l with
   | nil=>exact aD _
   | cons x l ihl=>
    rw[dX,cC];have h1:=ih x fV;have h2:=ihl (λy a=>ih y (List.mem_cons_of_mem _ a));omega
  omega
theorem Cx (l:List VT):cC l<=aY l:=by
 induction l with
 | nil=>exact aD _
 | cons x l ih=>rw[cC,aY];have:=zL x;have:=oI x;omega
theorem oJ (l:List VT):l.length<=aY l:=by
 induction l with
 | nil=>exact aD _
 | cons x l ih=>rw[aY,aL];have:=rA x;have:=oI x;omega
theorem pH {l:List VT}{x:VT} (h:x∈l):x.bulk<=aY l:=by
 induction l with
 | nil=>cases h
 | cons y l ih=>
  rw[aY];rcases eV.1 h with rfl | h
  ·omega
  ·have:=ih h;omega
theorem Ug {l:List VT}{x:VT} (h:x∈l):x.size<=dX l:=by
 induction l with
 | nil=>cases h
 | cons y l ih=>
  rw[dX];rcases eV.1 h with rfl | h
  ·omega
  ·have:=ih h;omega
theorem zM {l:List VT}{x:VT} (h:x∈l):x.depth<=cC l:=by
 induction l with
 | nil=>cases h
 | cons y l ih=>
  rw[cC];rcases eV.1 h with rfl | h
  ·omega
  ·have:=ih h;omega
theorem Iq (t:VT): ∀(left:Int) (d:Nat),0<=left->jU t left d<=left/\(0<=jU t left d->jU t left d+(t.size:Int)<=left)/\ -1-(t.bulk:Int)<=jU t left d:=by
 induction t using VT.ind with
 | h k s ks l ih=>
  intro left d h0;rw[jU,VT.size,VT.bulk];have key: ∀(l:List VT),(∀x∈l,∀(left:Int) (d:Nat),0<=left->jU x left d<=left/\(0<=jU x left d->jU x left d+(x.size:Int)<=left)/\ -1-(x.bulk:Int)<=jU x left d)-> ∀(left:Int) (d:Nat),nP l left d<=left/\(0<=nP l left d->nP l left d+(dX l:Int)<=left)/\(if 0<=left then -1-(aY l:Int)<=nP l left d else nP l left d=left):=by
   clear ih k s ks;intro l
   induction l with
   | nil=>intro ih left d;rw[nP,dX,aY];refine⟨Int.le_refl _,λ_=>by omega,?_⟩;split<;>omega
   | cons x l ihl=>
    intro ih left d;rw[nP,dX,aY];by_cases h:0<=left
    ·rw[if_pos h,if_pos h];obtain⟨a1,a2,a3⟩:=ih x fV left d h;obtain⟨b1,b2,b3⟩:=ihl (λy c=>ih y (List.mem_cons_of_mem _ c)) (jU x left d) d;refine⟨by omega,λa=>?_,?_⟩
     ·have:=b2 a;have b:0<=jU x left d:=(by omega);have:=a2 b;omega
     ·split at b3<;>omega
    ·rw[if_neg h,if_neg h];exact⟨Int.le_refl _,λa=>absurd a h,rfl⟩
  split
  ·omega
  ·obtain⟨b1,b2,b3⟩:=key l ih (left-1-(ks.length:Int)) (d+1);refine⟨by omega,λa=>?_,?_⟩
   ·have:=b2 a;omega
   ·split at b3<;>omega
end
section
open Go.RowKit
def tF (w:World) (p:Option Addr) (l:List aA):Prop:=l= []\/ ∃g o,p=some ⟨g,o,none⟩/\g<w.heap.size/\ ∀(j:Nat) (x:aA),l[j]?=some x->w.cell? ⟨g,o+j,none⟩=some (.string (bs x))
theorem tF.keep {w w':World}{p:Option Addr}{l:List aA} (h:tF w p l) (hb:Below w.heap.size w w'):tF w' p l:=by
 rcases h with h | ⟨g,o,b,a,c⟩
 ·exact .inl h
 ·exact .inr ⟨g,o,b,iI a hb.size,λj x d=>by rw[hb.cell (p:=⟨g,o+j,none⟩) a];exact c j x d⟩
theorem tF.at_ {w:World}{p:Option Addr}{l:List aA} (h:tF w p l) {j:Nat}{x:aA} (hx:l[j]?=some x): ∃g o,p=some ⟨g,o,none⟩/\w.cell? ⟨g,o+j,none⟩=some (.string (bs x)):=by
 rcases h with h | ⟨g,o,a,h3,b⟩
 ·rw[h] at hx;simp at hx
 ·exact⟨g,o,a,b j x hx⟩
def SV (w:World) (v:Value) (l:List aA):Prop:= ∃p c,v= .slice p l.length c/\l.length<=c/\tF w p l
theorem SV.keep {w w':World}{v:Value}{l:List aA} (h:SV w v l) (hb:Below w.heap.size w w'):SV w' v l:=by
 obtain⟨p,c,a,b,d⟩:=h;exact⟨p,c,a,b,d.keep hb⟩
def VD (w:World):Nat->VT->Value->Value->Prop
 | 0,_,_,_=>False
 | n+1,t,kv,iv=>SV w kv t.keys/\ ∃p c,iv= .slice p t.items.length c/\t.items.length<=c/\(t.items= []\/ ∃g o,p=some ⟨g,o,none⟩/\g<w.heap.size/\ ∀(j:Nat) (x:VT),t.items[j]?=some x-> ∃kv' iv',w.cell? ⟨g,o+j*4,none⟩=some (.int .i64 x.kind)/\w.cell? ⟨g,o+j*4+1,none⟩=some (.string (bs x.text))/\w.cell? ⟨g,o+j*4+2,none⟩=some kv'/\w.cell? ⟨g,o+j*4+3,none⟩=some iv'/\VD w n x kv' iv')
def vv (t:VT) (kv iv:Value):Value:= .agg #[.int .i64 t.kind, .string (bs t.text),kv,iv]
theorem VD.keep {w w':World} (hb:Below w.heap.size w w'): ∀ {n:Nat}{t:VT}{kv iv:Value},VD w n t kv iv->VD w' n t kv iv
 | 0,_,_,_,h=>h
 | n+1,t,kv,iv,h=>by
  obtain⟨h1,p,c,h2,h3,h4⟩:=h;refine⟨h1.keep hb,p,c,h2,h3,?_⟩;rcases h4 with h4 | ⟨g,o,h4,a,b⟩
  ·exact .inl h4
  ·refine .inr ⟨g,o,h4,iI a hb.size,λj x d=>?_⟩;obtain⟨kv',iv',e0,e1,e2,e3,e4⟩:=b j x d;exact⟨kv',iv',by rw[hb.cell (p:=⟨g,_,none⟩) a];exact e0,by rw[hb.cell (p:=⟨g,_,none⟩) a];exact e1,by rw[hb.cell (p:=⟨g,_,none⟩) a];exact e2,by rw[hb.cell (p:=⟨g,_,none⟩) a];exact e3,VD.keep hb e4⟩
theorem VD.more {w:World}: ∀ {n:Nat}{t:VT}{kv iv:Value},VD w n t kv iv-> ∀m,VD w (n+m) t kv iv
 | 0,_,_,_,h,_=>h.elim
 | n+1,t,kv,iv,h,m=>by
  obtain⟨h1,p,c,h2,h3,h4⟩:=h;rw[Nat.add_right_comm];refine⟨h1,p,c,h2,h3,?_⟩;rcases h4 with h4 | ⟨g,o,h4,d,a⟩
  ·exact .inl h4
  ·refine .inr ⟨g,o,h4,d,λj x b=>?_⟩;obtain⟨kv',iv',e0,e1,e2,e3,e4⟩:=a j x b;exact⟨kv',iv',e0,e1,e2,e3,VD.more e4 m⟩
def nQ (w:World) (m:Nat) (p:Option Addr) (l:List VT):Prop:= ∀(j:Nat) (x:VT),l[j]?=some x-> ∃g o kv' iv',p=some ⟨g,o,none⟩/\g<w.heap.size/\w.cell? ⟨g,o+j*4,none⟩=some (.int .i64 x.kind)/\w.cell? ⟨g,o+j*4+1,none⟩=some (.string (bs x.text))/\w.cell? ⟨g,o+j*4+2,none⟩=some kv'/\w.cell? ⟨g,o+j*4+3,none⟩=some iv'/\VD w m x kv' iv'
theorem nQ.keep {w w':World}{m:Nat}{p:Option Addr}{l:List VT} (h:nQ w m p l) (hb:Below w.heap.size w w'):nQ w' m p l:=by
 intro j x a;obtain⟨g,o,kv,iv,e0,e1,e2,e3,e4,e5,e6⟩:=h j x a;exact⟨g,o,kv,iv,e0,iI e1 hb.size,by rw[hb.cell (p:=⟨g,_,none⟩) e1];exact e2,by rw[hb.cell (p:=⟨g,_,none⟩) e1];exact e3,by rw[hb.cell (p:=⟨g,_,none⟩) e1];exact e4,by rw[hb.cell (p:=⟨g,_,none⟩) e1];exact e5,e6.keep hb⟩
theorem VD.parts {w:World}{n:Nat}{t:VT}{kv iv:Value} (h:VD w n t kv iv): ∃m,n=m+1/\SV w kv t.keys/\ ∃p c,iv= .slice p t.items.length c/\t.items.length<=c/\nQ w m p t.items:=by
 cases n with
 | zero=>exact h.elim
 | succ m=>
  obtain⟨i,p,c,k,d,a⟩:=h;refine⟨m,rfl,i,p,c,k,d,λj x b=>?_⟩;rcases a with a | ⟨g,o,a,l,f⟩
  ·rw[a] at b;simp at b
  ·obtain⟨kv',iv',e⟩:=f j x b;exact⟨g,o,kv',iv',a,l,e⟩
theorem VD.form {w:World}{n:Nat}{t:VT}{kv iv:Value} (h:VD w n t kv iv): ∃pk ck p c,kv= .slice pk t.keys.length ck/\iv= .slice p t.items.length c:=by
 obtain⟨_,_,⟨pk,ck,a,_,_⟩,p,c,b,_,_⟩:=h.parts;exact⟨pk,ck,p,c,a,b⟩
def bF (w:World) (b:Nat) (t:VT) (kv iv:Value):Prop:=w.heap[b]?=some (.cells #[.int .i64 t.kind, .string (bs t.text),kv,iv] 25)
theorem bF.new (w:World) (t:VT) (kv iv:Value):bF (w.alloc (.cells #[.int .i64 t.kind, .string (bs t.text),kv,iv] 25)) w.heap.size t kv iv:=heap_alloc_new w _
theorem bF.keep {w w':World}{b:Nat}{t:VT}{kv iv:Value} (h:bF w b t kv iv) (hb:Below w.heap.size w w'):bF w' b t kv iv:=by
 unfold bF at h;exact(hb.block _ (aE h)).trans h
theorem bF.cells {w:World}{b:Nat}{t:VT}{kv iv:Value} (h:bF w b t kv iv):w.cell? ⟨b,0,none⟩=some (.int .i64 t.kind)/\w.cell? ⟨b,1,none⟩=some (.string (bs t.text))/\w.cell? ⟨b,2,none⟩=some kv/\w.cell? ⟨b,3,none⟩=some iv:=by
 unfold bF at h;refine⟨?_,?_,?_,?_⟩<;>simp[World.cell?,h]
theorem jM {α:Type}{l:List α}{k:Nat}{x:α} (h:l[k]?=some x):l.take (k+1)=l.take k++ [x]:=by
 rw[List.take_add_one,h];rfl
theorem Ir: ∀(n:Nat) (t:VT) (kv iv:Value) (w:World),VD w n t kv iv->t.bulk<=1099511627776->
  Calls Tryz.prog 35 #[vv t kv iv] w λe w'=>e= .returned (.int .i64 (t.size:Int))/\Below w.heap.size w w':=by
 intro n
 induction n with
 | zero=>intro t kv iv w h;exact h.elim
 | succ m ih=>
  intro t kv iv w h y;obtain⟨m',L,G,p,c,rfl,H,b⟩:=h.parts;obtain rfl:m=m':=by omega
  obtain⟨k,s,ks,l⟩:=t;obtain⟨R,z⟩:=exQ<|(VT.mk k s ks l).size;rw[z];rw[VT.size] at z;simp only[VT.items] at H b;have q:aY l<=1099511627776:=by rw[VT.bulk] at y;omega
  have hll:l.length<=1099511627776:=aV (oJ l) q;have N:=hid z;have E:=hid b;have B:=hid ih;clear z b ih h G L y;unfold vv;simp only[VT.kind,VT.text,VT.items];go_enter Tryz.func35,Tryz.ntmps35;go_wp2_with fail;go_loopw [3,9] (λs3 s9 wr=> ∃(i:Nat),s3= .int .i64 ((dX (l.take i)+1:Nat):Int)/\s9= .int .i64 (i:Int)/\i<=l.length/\Hid (Below w.heap.size w wr)) (λ_ s9 _=>l.length-(RowKit.intOf s9).toNat)
  case atStart=>exact⟨0,rfl,rfl,cH _,hid (aH w _)⟩
  case round=>
   obtain⟨i,rfl,rfl,hi,j⟩:=hrel;by_cases hil:i<l.length
   ·obtain⟨x,r⟩: ∃x,l[i]?=some x:=⟨_,bH hil⟩;obtain⟨g,o,kv',iv',rfl,hg,n0,n1,n2,n3,f⟩:=E.out.keep j.out i x r;obtain⟨pk,ck,px,cx,rfl,rfl⟩:=f.form;have F:=aV (pH (bA r)) q;have I:(i:Int)<(l.length:Int):=(by omega);have dk:decide ((i:Int)<(l.length:Int))=true:=aN I;have a:dX (l.take i)+1+x.size=dX (l.take (i+1))+1:=by rw[jM r,Io,dX,dX];omega
    have d:dX (l.take (i+1))<=aY l:=by
     have M:dX (l.take (i+1))<=dX l:=by
      have:=Io (l.take (i+1)) (l.drop (i+1));rw[mC] at this;omega
     exact aV M (Uf l)
    have HX:=hid r;have D:=hid f;have C:=hid a;have J:=hid d;clear r f a d;go_upto_region 5 with fail;have u:=hid (aH wr (.cells #[.int .i64 x.kind, .string (bs x.text), .slice pk x.keys.length ck, .slice px x.items.length cx] 25));have K:=hid (B.out x _ _ (wr.alloc (.cells #[.int .i64 x.kind, .string (bs x.text), .slice pk x.keys.length ck, .slice px x.items.length cx] 25)) (D.out.keep u.out) F);unfold vv at K;go_wp2_with fail;refine K.out.mono ?_;rintro e w2 ⟨rfl,v⟩;have A:=hid (aC j.out (aC u.out v));have d:=J.out;have a:=C.out;have hszz:((dX (l.take i)+1:Nat):Int)+(x.size:Int)=((dX (l.take (i+1))+1:Nat):Int):=(by omega);clear v;go_wp2_with fail;go_roundw
    ·exact⟨i+1,by congr 1<;>omega,rfl,hil,A⟩
    ·simp only[RowKit.intOf];omega
   ·have dk:decide ((i:Int)<(l.length:Int))=false:=aJ (by omega);obtain rfl:i=l.length:=(by omega);rw[List.take_length];have hdl:cC l<=1099511627776:=aV (Cx l) q;go_wp2_with fail;go_ret;exact⟨by rw[<-N.out];first | rfl | simp,j.out⟩
theorem Is: ∀(n:Nat) (t:VT) (kv iv:Value) (w:World),VD w n t kv iv->t.bulk<=1099511627776->
  Calls Tryz.prog 36 #[vv t kv iv] w λe w'=>e= .returned (.int .i64 (t.depth:Int))/\Below w.heap.size w w':=by
 intro n
 induction n with
 | zero=>intro t kv iv w h;exact h.elim
 | succ m ih=>
  intro t kv iv w h y;obtain⟨m',L,G,p,c,rfl,H,b⟩:=h.parts;obtain rfl:m=m':=by omega
  obtain⟨k,s,ks,l⟩:=t;obtain⟨R,z⟩:=exQ<|(VT.mk k s ks l).depth;rw[z];rw[VT.depth] at z;simp only[VT.items] at H b;have q:aY l<=1099511627776:=by rw[VT.bulk] at y;omega
  have hll:l.length<=1099511627776:=aV (oJ l) q;have N:=hid z;have E:=hid b;have B:=hid ih;clear z b ih h G L y;unfold vv;simp only[VT.kind,VT.text,VT.items];go_enter Tryz.func36,Tryz.ntmps36;go_wp2_with fail;go_loopw [3,9] (λs3 s9 wr=> ∃(i:Nat),s3= .int .i64 ((cC (l.take i):Nat):Int)/\s9= .int .i64 (i:Int)/\i<=l.length/\Hid (Below w.heap.size w wr)) (λ_ s9 _=>l.length-(RowKit.intOf s9).toNat)
  case atStart=>exact⟨0,rfl,rfl,cH _,hid (aH w _)⟩
  case round=>
   obtain⟨i,rfl,rfl,hi,j⟩:=hrel;by_cases hil:i<l.length
   ·obtain⟨x,r⟩: ∃x,l[i]?=some x:=⟨_,bH hil⟩;obtain⟨g,o,kv',iv',rfl,hg,n0,n1,n2,n3,f⟩:=E.out.keep j.out i x r;obtain⟨pk,ck,px,cx,rfl,rfl⟩:=f.form;have F:=aV (pH (bA r)) q;have I:(i:Int)<(l.length:Int):=(by omega);have dk:decide ((i:Int)<(l.length:Int))=true:=aN I;have a:max (cC (l.take i)) x.depth=cC (l.take (i+1)):=by rw[jM r,Ip,cC,cC];omega
    have d:cC (l.take (i+1))<=aY l:=by
     have M:cC (l.take (i+1))<=cC l:=by
      have:=Ip (l.take (i+1)) (l.drop (i+1));rw[mC] at this;omega
     exact aV M (Cx l)
    have HX:=hid r;have D:=hid f;have C:=hid a;have J:=hid d;clear r f a d;go_upto_region 5 with fail;have u:=hid (aH wr (.cells #[.int .i64 x.kind, .string (bs x.text), .slice pk x.keys.length ck, .slice px x.items.length cx] 25));have K:=hid (B.out x _ _ (wr.alloc (.cells #[.int .i64 x.kind, .string (bs x.text), .slice pk x.keys.length ck, .slice px x.items.length cx] 25)) (D.out.keep u.out) F);unfold vv at K;go_wp2_with fail;refine K.out.mono ?_;rintro e w2 ⟨rfl,v⟩;have A:=hid (aC j.out (aC u.out v));have d:=J.out;have a:=C.out;have hszz:max ((cC (l.take i):Nat):Int) (x.depth:Int)=((cC (l.take (i+1)):Nat):Int):=(by omega);clear v;go_wp2_with fail;go_roundw
    ·exact⟨i+1,by congr 1<;>omega,rfl,hil,A⟩
    ·simp only[RowKit.intOf];omega
   ·have dk:decide ((i:Int)<(l.length:Int))=false:=aJ (by omega);obtain rfl:i=l.length:=(by omega);rw[List.take_length];have hdl:cC l<=1099511627776:=aV (Cx l) q;go_wp2_with fail;go_ret;exact⟨by rw[<-N.out];first | rfl | simp,j.out⟩
theorem Uh: ∀(n:Nat) (t:VT) (kv iv:Value) (w:World) (left:Int) (d:Nat),VD w n t kv iv->t.bulk<=1099511627776->0<=left->left<=4294967296->d<=61->
  Calls Tryz.prog 16 #[vv t kv iv, .int .i64 left, .int .i64 (d:Int)] w λe w'=>e= .returned (.int .i64 (jU t left d))/\Below w.heap.size w w':=by
 intro n
 induction n with
 | zero=>intro t kv iv w left d h;exact h.elim
 | succ m ih=>
  intro t kv iv w left d h A hle0 hle1 hd;obtain⟨pk,ck,p,c,rfl,rfl⟩:=h.form;obtain⟨m',X,Q,p2,c2,Y,S,v⟩:=h.parts;obtain rfl:m=m':=by omega
  injection Y with U he2 M;subst U;subst M;obtain⟨k,s,ks,l⟩:=t;obtain⟨R,u⟩:=exQ<|jU (VT.mk k s ks l) left d;rw[u];rw[jU] at u;simp only[VT.items] at S v;have H:aY l<=1099511627776:=by rw[VT.bulk] at A;omega
  have hkl:ks.length<=1099511627776:=by rw[VT.bulk] at A;omega
  have hll:l.length<=1099511627776:=aV (oJ l) H;have F:=hid v;have L:=hid ih;clear v ih h Q X A;unfold vv;simp only[VT.kind,VT.text,VT.items,VT.keys];by_cases h60:60<d
  ·rw[if_pos h60] at u;have d60:decide ((60:Int)<(d:Int))=true:=aN (by omega);have J:=hid u;clear u h60;go_enter Tryz.func16,Tryz.ntmps16;go_wp2_with fail;go_ret;exact⟨by rw[<-J.out];rfl,aH _ _⟩
  ·rw [if_neg h60] at u;have d60:decide ((60:Int)<(d:Int))=false:=aJ (by omega);have hd2:d<=60:=(by omega);have J:=hid u;obtain⟨W1,C⟩:=exQ<|w.alloc (.cells #[.int .i64 k, .string (bs s), .slice pk ks.length ck, .slice p l.length c] 25);obtain⟨B,N⟩:=exQ<|w.heap.size;have j:Hid (Below w.heap.size w W1):=hid (by rw[<-C];exact aH _ _);have V:Hid (bF W1 B (.mk k s ks l) (.slice pk ks.length ck) (.slice p l.length c)):=hid (by rw[<-C,<-N];exact bF.new w (.mk k s ks l) _ _);have G:=hid (F.out.keep j.out);clear u h60 F;go_enter Tryz.func16,Tryz.ntmps16;go_upto_region 1 with fail;clear C;obtain⟨b0,b1,b2,b3⟩:=V.out.cells;simp only[VT.kind,VT.text] at b0 b1;go_wp2_with fail;clear b0 b1 b2 b3;go_loopw [1,7] (λs1 s7 wr=> ∃(i:Nat) (left:Int),s1= .int .i64 left/\s7= .int .i64 (i:Int)/\i<=l.length/\ -2199023255552<=left/\left<=4294967296/\Hid (nP (l.drop i) left (d+1)=R)/\Hid (Below W1.heap.size W1 wr)) (λ_ s7 _=>l.length-(RowKit.intOf s7).toNat)
   case atStart=>exact⟨0,_,rfl,rfl,cH _,by omega,by omega,J,hid (aB _ _)⟩
   case round=>
    obtain⟨i,left,rfl,rfl,hi,hf0,O,q,b⟩:=hrel;clear J;obtain⟨b0,b1,b2,b3⟩:=(V.out.keep b.out).cells;by_cases hil:i<l.length
    ·obtain⟨x,E⟩: ∃x,l[i]?=some x:=⟨_,bH hil⟩;obtain⟨g,o,kv',iv',rfl,hg,n0,n1,n2,n3,r⟩:=G.out.keep b.out i x E;obtain⟨pk2,ck2,px,cx,rfl,rfl⟩:=r.form;have P:=aV (pH (bA E)) H;have T:(i:Int)<(l.length:Int):=(by omega);have dk:decide ((i:Int)<(l.length:Int))=true:=aN T;have z:l.drop i=x::l.drop (i+1):=by
      rw[iJ hil];congr 1;exact(aP.1 E).2
     have a:=q.out;rw[z,nP] at a;by_cases hl0:0<=left
     ·rw[if_pos hl0] at a;have dl:decide ((0:Int)<=left)=true:=aN hl0;obtain⟨f1,f2,f3⟩:=Iq x left (d+1) hl0;have I:=hid (L.out x _ _ wr left (d+1) r P hl0 O (by omega));unfold vv at I;have ed:((d+1:Nat):Int)=(d:Int)+1:=(by omega);rw[ed] at I;obtain⟨y,W⟩:=exQ<|jU x left (d+1);rw[W] at I f1 f2 f3 a;have f:=hid a;clear E r a q z f2 W ed;go_wp2_with fail;refine I.out.mono ?_;rintro e w2 ⟨rfl,D⟩;have K:=hid (aC b.out D);clear D;go_wp2_with fail;go_roundw
      ·exact⟨i+1,y,rfl,rfl,hil,by omega,by omega,f,K⟩
      ·simp only[RowKit.intOf];omega
     ·rw[if_neg hl0] at a;have dl:decide ((0:Int)<=left)=false:=aJ hl0;have f:=hid a;clear E r a q z;go_wp2_with fail;go_ret;exact⟨by rw[<-f.out];rfl,by first | exact aC j.out b.out | (rw[<-N];exact aC j.out b.out)⟩
    ·have dk:decide ((i:Int)<(l.length:Int))=false:=aJ (by omega);have a:=q.out;rw[List.drop_eq_nil_of_le (by omega),nP] at a;have f:=hid a;clear a q;go_wp2_with fail;go_ret;exact⟨by rw[<-f.out];rfl,by first | exact aC j.out b.out | (rw[<-N];exact aC j.out b.out)⟩
theorem Ui: ∀(n:Nat) (t:VT) (kv iv:Value) (w:World),VD w n t kv iv->t.bulk<=1099511627776->
  Calls Tryz.prog 17 #[vv t kv iv] w λe w'=>e= .returned (.bool (uY t))/\Below w.heap.size w w':=by
 intro n
 induction n with
 | zero=>intro t kv iv w h;exact h.elim
 | succ m ih=>
  intro t kv iv w h D;obtain⟨m',hm,⟨pk,ck,rfl,aa,J⟩,p,c,rfl,ad,H⟩:=h.parts;obtain rfl:m=m':=by omega
  obtain⟨k,s,ks,l⟩:=t;obtain⟨R,T⟩:=exQ<|uY (VT.mk k s ks l);rw[T];rw[uY] at T;simp only[VT.items,VT.keys] at ad H J aa;have S:aY l<=1099511627776:=by rw[VT.bulk] at D;omega
  have hsl:s.length<=1099511627776:=by rw[VT.bulk] at D;omega
  have htk:bN ks+ks.length<=1099511627776:=by rw[VT.bulk] at D;omega
  have hll:l.length<=1099511627776:=aV (oJ l) S;have ss:=aQ s;have V:=hid ih;obtain⟨W1,E⟩:=exQ<|w.alloc (.cells #[.int .i64 k, .string (bs s), .slice pk ks.length ck, .slice p l.length c] 25);obtain⟨B,X⟩:=exQ<|w.heap.size;have f:Hid (Below w.heap.size w W1):=hid (by rw[<-E];exact aH _ _);have Q:Hid (bF W1 B (.mk k s ks l) (.slice pk ks.length ck) (.slice p l.length c)):=hid (by rw[<-E,<-X];exact bF.new w (.mk k s ks l) _ _);have F:=hid (H.keep f.out);have G:=hid (J.keep f.out);have U:=hid T;clear T H ih h hm D J;unfold vv;simp only[VT.kind,VT.text,VT.items,VT.keys];by_cases h20:s.length<=2048
  ·have d20:decide ((2048:Int)<(s.length:Int))=false:=aJ (by omega);have d20b:decide (2048<s.length)=false:=aJ (by omega);have z:Hid ((ks.all (λk=>decide (k.length<=1024))&&rY l)=R):=hid (by rw[<-U.out,aN h20,Bool.true_and]);clear U;go_enter Tryz.func17,Tryz.ntmps17;go_upto_region 1 with fail;clear E;obtain⟨b0,b1,b2,b3⟩:=Q.out.cells;simp only[VT.kind,VT.text] at b0 b1;go_wp2_with fail;clear b0 b1 b2 b3;go_loopw [3] (λs3 wr=> ∃(i:Nat),s3= .int .i64 (i:Int)/\i<=ks.length/\Hid (((ks.drop i).all (λk=>decide (k.length<=1024))&&rY l)=R)/\Hid (Below W1.heap.size W1 wr)) (λs3 _=>ks.length-(RowKit.intOf s3).toNat)
   case atStart=>exact⟨0,rfl,cH _,z,hid (aB _ _)⟩
   case round=>
    obtain⟨i,rfl,hi,u,b⟩:=hrel;clear z;obtain⟨b0,b1,b2,b3⟩:=(Q.out.keep b.out).cells;by_cases hil:i<ks.length
    ·obtain⟨x,v⟩: ∃x,ks[i]?=some x:=⟨_,bH hil⟩;obtain⟨g,o,rfl,hc0⟩:=(G.out.keep b.out).at_ v;have ae:(i:Int)<(ks.length:Int):=(by omega);have dk:decide ((i:Int)<(ks.length:Int))=true:=aN ae;have hxl:x.length<=1099511627776:=by have:=zK (bA v);omega
     have sx:=aQ x;have q:ks.drop i=x::ks.drop (i+1):=by
      rw[iJ hil];congr 1;exact(aP.1 v).2
     have a:=u.out;rw[q,List.all_cons] at a;by_cases h10:x.length<=1024
     ·have d10:decide ((1024:Int)<(x.length:Int))=false:=aJ (by omega);have d10b:decide (1024<x.length)=false:=aJ (by omega);rw[aN h10,Bool.true_and] at a;have r:=hid a;clear v a u q;go_wp2_with fail;go_roundw
      ·exact⟨i+1,rfl,hil,r,b⟩
      ·simp only[RowKit.intOf];omega
     ·have d10:decide ((1024:Int)<(x.length:Int))=true:=aN (by omega);have d10b:decide (1024<x.length)=true:=aN (by omega);rw[aJ h10] at a;have r:=hid a;clear v a u q;go_wp2_with fail;go_ret;exact⟨by rw[<-r.out];rfl,by first | exact aC f.out b.out | (rw[<-X];exact aC f.out b.out)⟩
    ·have dk:decide ((i:Int)<(ks.length:Int))=false:=aJ (by omega);have a:=u.out;rw[List.drop_eq_nil_of_le (by omega),List.all_nil,Bool.true_and] at a;have r:=hid a;have M:=hid (F.out.keep b.out);have Y:=hid (Q.out.keep b.out);have O:=hid (aC f.out b.out);clear a u F Q f b G;go_wp2_with fail;clear b0 b1 b2 b3;go_loopw [4,5] (λs4 s5 wx=> ∃(i:Nat),s4= .int .i64 (i:Int)/\i<=l.length/\Hid (rY (l.drop i)=R)/\Hid (Below wr.heap.size wr wx)) (λs4 _ _=>l.length-(RowKit.intOf s4).toNat)
     case atStart=>exact⟨0,rfl,cH _,r,hid (aB _ _)⟩
     case round=>
      obtain⟨j,rfl,hj,A,C⟩:=hrel;clear r;obtain⟨b0,b1,b2,b3⟩:=(Y.out.keep C.out).cells;by_cases hjl:j<l.length
      ·obtain⟨x,v⟩: ∃x,l[j]?=some x:=⟨_,bH hjl⟩;obtain⟨g,o,kv',iv',rfl,hg,n0,n1,n2,n3,K⟩:=M.out.keep C.out j x v;obtain⟨pk2,ck2,px,cx,rfl,rfl⟩:=K.form;have ab:=aV (pH (bA v)) S;have W:(j:Int)<(l.length:Int):=(by omega);have dkj:decide ((j:Int)<(l.length:Int))=true:=aN W;have q:l.drop j=x::l.drop (j+1):=by
        rw[iJ hjl];congr 1;exact(aP.1 v).2
       have d:=A.out;rw[q,rY] at d;have Z:=hid (V.out x _ _ _ K ab);unfold vv at Z;obtain⟨y,hy⟩:=exQ<|uY x;rw[hy] at Z d;have P:=hid d;clear v K d A q hy;go_wp2_with fail;refine Z.out.mono ?_;rintro e w2 ⟨rfl,N⟩;have L:=hid (aC C.out N);clear N;cases y with
       | true=>
        have I:Hid (rY (l.drop (j+1))=R):=hid (by rw[<-P.out,Bool.true_and]);go_wp2_with fail;go_roundw
        ·exact⟨j+1,rfl,hjl,I,L⟩
        ·simp only[RowKit.intOf];omega
       | false=>
        go_wp2_with fail;go_ret;exact⟨by rw[<-P.out];rfl,aC O.out L.out⟩
      ·have dkj:decide ((j:Int)<(l.length:Int))=false:=aJ (by omega);have d:=A.out;rw[List.drop_eq_nil_of_le (by omega),rY] at d;have I:=hid d;clear d A;go_wp2_with fail;go_ret;exact⟨by rw[<-I.out];rfl,aC O.out C.out⟩
  ·have d20:decide ((2048:Int)<(s.length:Int))=true:=aN (by omega);have d20b:decide (2048<s.length)=true:=aN (by omega);have z:Hid (false=R):=hid (by rw[<-U.out,aJ h20,Bool.false_and,Bool.false_and]);clear U;go_enter Tryz.func17,Tryz.ntmps17;go_upto_region 1 with fail;clear E;obtain⟨b0,b1,b2,b3⟩:=Q.out.cells;simp only[VT.kind,VT.text] at b0 b1;go_wp2_with fail;go_ret;exact⟨by rw[<-z.out];rfl,by first | exact f.out | (rw[<-X];exact f.out)⟩
theorem Uj (n:Nat) (t:VT) (kv iv:Value) (w:World) (most:Int) (h:VD w n t kv iv) (hbk:t.bulk<=1099511627776) (h0:0<=most) (h1:most<=4294967296):
  Calls Tryz.prog 5 #[vv t kv iv, .int .i64 most] w λe w'=>e= .returned (.bool (wS t most))/\Below w.heap.size w w':=by
 obtain⟨pk,ck,p,c,rfl,rfl⟩:=h.form;obtain⟨R,j⟩:=exQ<|wS t most;rw[j];unfold wS at j;obtain⟨y,o⟩:=exQ<|jU t most 0;obtain⟨f1,f2,f3⟩:=Iq t most 0 h0;rw[o] at j f1 f2 f3;obtain⟨W1,f⟩:=exQ<|w.alloc (.cells #[.int .i64 t.kind, .string (bs t.text), .slice pk t.keys.length ck, .slice p t.items.length c] 25);obtain⟨B,l⟩:=exQ<|w.heap.size;have b:Hid (Below w.heap.size w W1):=hid (by rw[<-f];exact aH _ _);have s:Hid (bF W1 B t (.slice pk t.keys.length ck) (.slice p t.items.length c)):=hid (by rw[<-f,<-l];exact bF.new w t _ _);have q:=hid (h.keep b.out);have m:=hid (Uh n t _ _ W1 most 0 q.out hbk h0 h1 (by omega));unfold vv at m ⊢;rw[o] at m;have r:=hid j;clear j o f2 h;go_enter Tryz.func5,Tryz.ntmps5;go_upto_region 1 with fail;clear f;obtain⟨b0,b1,b2,b3⟩:=s.out.cells;go_wp2_with fail;refine m.out.mono ?_;rintro e w2 ⟨rfl,d⟩;clear b0 b1 b2 b3;obtain⟨b0,b1,b2,b3⟩:=(s.out.keep d).cells;have a:=hid d;clear d;by_cases hy0:0<=y
 ·have dy:decide ((0:Int)<=y)=true:=aN hy0;have g:=hid (Ui n t _ _ w2 (q.out.keep a.out) hbk);unfold vv at g;go_wp2_with fail;refine g.out.mono ?_;rintro e w3 ⟨rfl,i⟩;have k:=hid i;clear i;go_wp2_with fail;go_ret;exact⟨by rw[<-r.out];simp[dy],by first | exact aC b.out (aC a.out k.out) | (rw[<-l];exact aC b.out (aC a.out k.out))⟩
 ·have dy:decide ((0:Int)<=y)=false:=aJ hy0;go_wp2_with fail;go_ret;exact⟨by rw[<-r.out];simp[dy],by first | exact aC b.out a.out | (rw[<-l];exact aC b.out a.out)⟩
end
end Go.Proofs.YtjnooaljcgkfpaaGreatDoor
