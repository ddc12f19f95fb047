import Derived.WalkKit
import Derived.WalkSpells
import Derived.WalkLawsBesides
import Derived.Lib.Hide
import Derived.Lib.OthersKept
import Derived.Lib.TrimUEq
import Derived.Lib.RuneCountTail
import Derived.Lib.ValidU
import Derived.Lib.Strings
import Derived.Lib.Small
import Derived.Lib.Bytealg
import Derived.Lib.TrimByte
import Derived.Lib.ItoaNum
import Derived.Test.YtaifnmjjpddikaaGreatDoorShelf
import Derived.Lib.IndexBytes
import Derived.Test.YtaifnmjjpddikaaGreatDoorProg
import Derived.Lib.RuneBytes
namespace Go.Proofs.YtaifnmjjpddikaaGreatDoor
set_option linter.unusedVariables false
set_option linter.unusedSimpArgs false
section
open Go.RowKit
abbrev aB:=@Below.refl
abbrev aE:=@Nat.le_refl
abbrev aG:=@beq_eq_false_iff_ne
abbrev aI:=@And.intro
abbrev aJ:=@decide_eq_false
abbrev aN:=@decide_eq_true
abbrev aO:=@Array.getD_eq_getD_getElem?
abbrev aQ:=@List.getElem?_eq_some_iff
abbrev aS:=@List.length_append
abbrev aT:=@List.length_cons
abbrev aV:=@List.length_drop
abbrev aW:=@Nat.le_trans
abbrev aX:=@List.mem_of_getElem?
abbrev bD:=@Option.some.inj
abbrev bJ:=@List.getElem?_eq_getElem
abbrev bU:=@List.length_map
abbrev cD:=@List.getElem?_cons_succ
abbrev cF:=@List.length_take
abbrev cM:=@Array.getElem?_eq_some_iff
abbrev cN:=@Nat.zero_le
abbrev cS:=@Option.some.injEq
abbrev cU:=@List.getElem?_map
abbrev dA:=@List.getElem?_cons_zero
abbrev dC:=@Below.heap_setCell
abbrev dF:=@List.set_cons_succ
abbrev dH:=@List.cons_append
abbrev dN:=@List.mem_cons
abbrev dW:=@List.getElem?_toArray
abbrev eD:=@List.length_singleton
abbrev eE:=@List.setIfInBounds_toArray
abbrev eF:=@List.set_cons_zero
abbrev fB:=@Bool.and_eq_true
abbrev fC:=@Int.toNat_natCast
abbrev fG:=@List.all_eq_true
abbrev fH:=@bne_iff_ne
abbrev gR:=@List.length_nil
abbrev iB:=@List.mem_cons_self
abbrev iI:=@List.getElem?_drop
abbrev iK:=@List.drop_eq_getElem_cons
abbrev iL:=@List.nil_append
abbrev iN:=@Nat.lt_of_lt_of_le
abbrev kB:=@List.drop_drop
abbrev kD:=@List.map_cons
abbrev kH:=@List.mem_singleton
abbrev kK:=@World.size_alloc
abbrev kX:=@List.getElem?_append_right
abbrev kY:=@decide_eq_true_eq
abbrev mE:=@List.getElem?_append_left
abbrev nU:=@Nat.le_of_eq
abbrev oM:=@List.map_append
abbrev pN:=@List.append_assoc
abbrev pP:=@List.mem_append
abbrev pU:=@Nat.not_lt_zero
abbrev qS:=@List.mem_map
abbrev rO:=@List.take_append_drop
abbrev rT:=@Option.map_eq_some_iff
abbrev rZ:=@List.take_of_length_le
abbrev tJ:=@List.length_pos_iff
abbrev tQ:=@Array.getElem?_setIfInBounds
abbrev tS:=@Nat.lt_succ_self
abbrev uW:=@List.drop_left
abbrev Ab:=@List.take_append_of_le_length
abbrev At:=@List.getElem?_eq_none_iff
abbrev Ea:=@World.cell?_setCell_other
theorem exQ{α:Sort _}(a:α):∃x,a=x:=⟨_,rfl⟩
theorem tG {k:IntKind}{a b:Int} (h:a=b):Ending.returned (.int k a)= .returned (.int k b):=by rw[h]
theorem xA {a b:Bool} (h:a=b):Ending.returned (.bool a)= .returned (.bool b):=by rw[h]
theorem Ei {W w1:World} (hb:Below W.heap.size W w1):(∀b o,b<W.heap.size->w1.cell? ⟨b,o,none⟩=W.cell? ⟨b,o,none⟩)/\(∀b o,b<W.heap.size->w1.frozen? ⟨b,o,none⟩=W.frozen? ⟨b,o,none⟩):=
 ⟨λb o h=>hb.cell (p:=⟨b,o,none⟩) h,λb o h=>hb.frozen (p:=⟨b,o,none⟩) h⟩
theorem uR {P:Program}{ops:Array Oper}{rest:List Oper}{o:Oper}{a:Act}{Q:Exit->Act->World->Prop} (hgd:o.guard=none) (s x:Operand) (t:TypeId)
  (ho:o.op= .call { callee:= .builtin .append,args:= #[s,x],argTypes:= #[t,t] })
  (base:Nat) (e:TypeId) (i:TypeInfo) (z:Value) (size bytes:Nat) (ht:P.underlying t=some (.slice e)) (hi:P.info? e=some i) (hz:i.zero=some z)
  (hsize:i.size=size) (hby:i.bytes=bytes) (hzs:z.cells.size=size) (hsz:0<size)
  (w:World) (v:Value) (n:Nat) (xs:List Value) (hs:a.eval s=v) (hown:w.ownsRow base e size v n xs)
  (cs:Array Value) (hx:a.eval x= .slice (some ⟨w.heap.size,0,none⟩) 1 1) (hcs:cs.size=size) (h1: ∀u∈cs.toList,u.oneCell'=true)
  (hn:n+1<=4294967296) (hbt:bytes<=256) (hbase:base<=w.heap.size)
  (h: ∀v' w',w'.ownsRow base e size v' (n+1) (xs++cs.toList)->w.heap.size<=w'.heap.size->Below base w w'->(∀k,k<w.heap.size->some k≠v.ownBlock->w'.heap[k]?=w.heap[k]?)->v'≠ .slice none 0 0->wpList P ops Q rest (a.put o.dst v') w'):wpList P ops Q (o::rest) a (w.alloc (.cells cs e)):=by
 have hmul:(n+1)*bytes<=4294967296*256:=Nat.mul_le_mul hn hbt;refine wpList_append_own _ hgd s x t ho base e i z size bytes ht hi hz hsize hby hzs hsz v n xs hs (hown.alloc _) ⟨w.heap.size,0,none⟩ 1 1 cs.toList hx (by simp[hcs]) ?_ h1 (by unfold maxLen;omega) (by omega) (by simp;omega) ?_
 ·intro j u hj;rw[Array.getElem?_toList] at hj;have e1:((⟨w.heap.size,0,none⟩:Addr).add j)=⟨w.heap.size,j,none⟩:=by unfold Addr.add;split<;>simp_all
  rw[e1,World.cell?_alloc_new];exact hj
 ·intro v' w' h2 h3 h4;have hb0:Below base w w':=((aB base w).alloc hbase _).grown h3 (by simp;omega) (λk hk=>((hown.alloc (.cells cs e)).lt k hk).1);refine h v' w' h2 hb0.size hb0 (λk hk hne=>?_) (λhv=>?_)
  ·rw[h3.block k (by simp;omega) hne,Below.heap_alloc _ _ _ hk]
  ·have:=(h4.1 hv).2;omega
theorem aC {W w w':World} (h:Below W.heap.size W w) (h2:Below w.heap.size w w'):Below W.heap.size W w':=h.trans (h2.mono h.size)
end
section
open Go.RowKit
open Go.Lib
def bT (s:ByteArray) (i:Nat):Int:=((Utf8.decode s i).1:Int)
def bK (s:ByteArray) (i:Nat):Nat:=(Utf8.decode s i).2
theorem qO (s:ByteArray) (i:Nat):0<=bT s i/\bT s i<=1114111:=by
 unfold bT;have:=rune_le s i;omega
theorem Oh (n b0 b1 b2 b3:Nat) (hn:1<=n):(decodeN n b0 b1 b2 b3).2<=4/\(decodeN n b0 b1 b2 b3).2<=n:=by
 unfold decodeN;repeat' split
 all_goals (simp only[];omega)
theorem pL (s:ByteArray) (i:Nat) (hi:i<s.size):1<=bK s i/\bK s i<=4/\i+bK s i<=s.size:=by
 unfold bK;have h1:=width_pos s i;rw[decode_at] at *;have:=Oh (s.size-i) (s.get! i).toNat (s.get! (i+1)).toNat (s.get! (i+2)).toNat (s.get! (i+3)).toNat (by omega);omega
def kA (s:ByteArray) (i:Nat):Bool:=!(bT s i==65533&&((bK s i:Nat):Int)==1)
theorem rK {w:World}{b o:Nat}{v:Value} (h:w.cell? ⟨b,o,none⟩=some v):b<w.heap.size:=World.block_lt_of_cell? w _ h
def lI (s:ByteArray):Nat->Nat->Option Nat
 | 0,_=>none
 | f+1,pos=>if pos<s.size then(if kA s pos then lI s f (pos+bK s pos) else some pos) else none
def tH (s:ByteArray):Option Nat:=lI s s.size 0
def jN (s:ByteArray):Int×Bool:=match tH s with | some p=>(p,false) | none=>(s.size,true)
theorem Oi (s:ByteArray) (f pos:Nat) (h:s.size<=pos):lI s f pos=none:=by
 cases f
 ·rfl
 ·unfold lI;rw[if_neg (by omega)]
theorem Oj (s:ByteArray) (f pos:Nat) (h:pos<s.size) (hg:kA s pos=true) (hf:s.size<=f+pos): ∃g,lI s f pos=lI s g (pos+bK s pos)/\s.size<=g+(pos+bK s pos):=by
 obtain⟨g,rfl⟩: ∃g,f=g+1:=⟨f-1,by omega⟩;have:=pL s pos h;refine⟨g,?_,by omega⟩;show (if pos<s.size then(if kA s pos then lI s g (pos+bK s pos) else some pos) else none)=_;rw[if_pos h,if_pos hg]
theorem Ol (s:ByteArray) (f pos:Nat) (h:pos<s.size) (hg:kA s pos=false) (hf:s.size<=f+pos):lI s f pos=some pos:=by
 obtain⟨g,rfl⟩: ∃g,f=g+1:=⟨f-1,by omega⟩;show (if pos<s.size then(if kA s pos then lI s g (pos+bK s pos) else some pos) else none)=_;rw[if_pos h,hg];rfl
def mN (s:ByteArray) (pos:Nat):Prop:= ∃f,tH s=lI s f pos/\s.size<=f+pos
theorem mN.zero (s:ByteArray):mN s 0:=⟨s.size,rfl,by omega⟩
theorem mN.next {s:ByteArray}{pos:Nat} (h:mN s pos) (hp:pos<s.size) (hg:kA s pos=true):mN s (pos+bK s pos):=by
 obtain⟨f,h1,h2⟩:=h;obtain⟨g,h3,h4⟩:=Oj s f pos hp hg h2;exact⟨g,h1.trans h3,h4⟩
theorem mN.bad {s:ByteArray}{pos:Nat} (h:mN s pos) (hp:pos<s.size) (hg:kA s pos=false):jN s=((pos:Int),false):=by
 obtain⟨f,h1,h2⟩:=h;unfold jN;rw[h1,Ol s f pos hp hg h2]
theorem mN.fin {s:ByteArray}{pos:Nat} (h:mN s pos) (hp:s.size<=pos):jN s=((s.size:Int),true):=by
 obtain⟨f,h1,h2⟩:=h;unfold jN;rw[h1,Oi s f pos hp]
theorem nM (s:ByteArray) (pos:Nat):decodeL (s.data.toList.drop pos)=Utf8.decode s pos:=by
 rw[decodeL_N,decode_N];simp only[aV,List.getD_eq_getElem?_getD,iI,Nat.add_zero]
theorem Om (s:ByteArray) (pos:Nat):kA s pos=decide (¬((Utf8.decode s pos).1=65533/\(Utf8.decode s pos).2=1)):=by
 unfold kA bT bK;rw[Bool.eq_iff_iff];simp;omega
theorem Ej (s:ByteArray): ∀f pos,s.size<=f+pos->validGoD f (s.data.toList.drop pos)=(lI s f pos).isNone
 | 0,pos,h=>by simp[validGoD,lI]
 | f+1,pos,h=>by
  have hl:s.data.toList.length=s.size:=rfl;unfold validGoD lI;by_cases hp:pos<s.size
  ·have hne: ¬(s.data.toList.drop pos= []):=by rw[List.drop_eq_nil_iff];omega
   have hw:=pL s pos hp;rw[if_neg hne,if_pos hp,nM,Om];by_cases hb:(Utf8.decode s pos).1=65533/\(Utf8.decode s pos).2=1
   ·rw[if_pos hb];simp[hb]
   ·rw[if_neg hb,kB];have ih:=Ej s f (pos+bK s pos) (by omega);unfold bK at ih hw ⊢;rw[ih,aN hb];rfl
  ·have hne:s.data.toList.drop pos= []:=by rw[List.drop_eq_nil_iff];omega
   rw[if_pos hne,if_neg hp];rfl
theorem zL (s:ByteArray):Lib.validD s.data.toList=(tH s).isNone:=by
 unfold Lib.validD tH;have:=Ej s s.size 0 (by omega);simpa using this
theorem On {s:ByteArray} (h:Lib.validD s.data.toList=true):jN s=((s.size:Int),true):=by
 rw[zL,Option.isNone_iff_eq_none] at h;unfold jN;rw[h]
theorem zM {R:Int×Bool}{a:Int}{b:Bool} (h:R=(a,b)):Ending.returned (.tuple #[.int .i64 a, .bool b])= .returned (.tuple #[.int .i64 R.1, .bool R.2]):=by subst h;rfl
theorem Oo {s:ByteArray}{pos:Nat} (h:bT s pos≠65533):kA s pos=true:=by
 unfold kA;rw[aG.2 h];rfl
theorem Op {s:ByteArray}{pos:Nat} (h:bK s pos≠1):kA s pos=true:=by
 unfold kA;rw[show (((bK s pos:Nat):Int)==1)=false from aG.2 (by omega)];simp
theorem Oq {s:ByteArray}{pos:Nat} (h:bT s pos=65533) (h1:bK s pos=1):kA s pos=false:=by
 unfold kA;rw[h,h1];rfl
theorem aF {w:World}{k:Nat}{o:Obj} (h:w.heap[k]?=some o):k<w.heap.size:=(cM.1 h).1
end
section
def bs (l:List UInt8):ByteArray:=⟨l.toArray⟩
theorem aU (l:List UInt8):(bs l).data.toList=l:=by simp[bs]
theorem aR (l:List UInt8):(bs l).size=l.length:=by simp[bs,ByteArray.size]
theorem uS (s:ByteArray):bs s.data.toList=s:=by cases s;simp[bs]
theorem zN {a b:List UInt8} (h:bs a=bs b):a=b:=by rw[<-aU a,h,aU]
def dR (b:UInt8):Bool:=decide (48<=b.toNat/\b.toNat<=57)
def fA (l:List UInt8):Bool:=!l.isEmpty&&l.all dR
structure eB where
 neg:Bool
 dig:List UInt8
 exp:Int
deriving DecidableEq
def eN:eB:=⟨false,[],0⟩
def rL (n:eB):Prop:=fA n.dig=true/\n.dig.length<=1000/\n.dig.head?≠some 48/\n.dig.getLast?≠some 48/\ -1000000<=n.exp/\n.exp<=1000000
instance (n:eB):Decidable (rL n):=by unfold rL;infer_instance
def lJ (n:eB):Bool:=decide (n=eN\/rL n)
def cV (p:UInt8->Bool) (l:List UInt8):List UInt8×List UInt8×Bool:=
 match l.dropWhile (λc=>!p c) with
 | []=>(l,[],false)
 | _::t=>(l.takeWhile (λc=>!p c),t,true)
def jE (c:UInt8):Bool:=c==101||c==69
def qP (c:UInt8):Bool:=c==46
structure tI where
 neg:Bool
 whole:List UInt8
 rest:List UInt8
 low:Bool
 exp:List UInt8
def gC (l:List UInt8):List UInt8:=if l.head?=some 45 then l.drop 1 else l
def gZ (l:List UInt8):List UInt8:=if l.head?=some 45\/l.head?=some 43 then l.drop 1 else l
def rM (has pt:Bool) (x whole rest:List UInt8):Bool:=(!has||fA x)&&(fA whole&&(!pt||fA rest))&&(whole== [48]||whole.head? !=some 48)
def kC (l:List UInt8):Option tI:=
 let c:=cV jE (gC l)
 let m:=cV qP c.1
 let x:=if c.2.2 then gZ c.2.1 else []
 if rM c.2.2 m.2.2 x m.1 m.2.1 then some ⟨l.head?==some 45,m.1,m.2.1,c.2.2&&c.2.1.head?==some 45,x⟩ else none
def gJ (l:List UInt8):Int:=l.foldl (λa c=>10*a+((c.toNat:Int)-48)) 0
def iJ (l:List UInt8):List UInt8:=l.dropWhile (· ==48)
def cW (l:List UInt8):List UInt8:=(l.reverse.dropWhile (· ==48)).reverse
def pM (x:tI):eB×Int:=
 if 1000<x.whole.length+x.rest.length then(eN,3) else
 if 9<(iJ x.exp).length then(eN,4) else
 let e:=if x.low then-gJ x.exp else gJ x.exp
 let d:=iJ (x.whole++x.rest)
 if d= [] then(eN,0) else
 let k:=e-x.rest.length+(d.length-(cW d).length)
 if k< -1000000\/1000000<k then(eN,4) else(⟨x.neg,cW d,k⟩,0)
def cZ (l:List UInt8):eB×Int:=match kC l with | none=>(eN,2) | some x=>pM x
theorem Ek (a:List UInt8) (c:UInt8):gJ (a++ [c])=10*gJ a+((c.toNat:Int)-48):=by
 unfold gJ;rw[List.foldl_append];rfl
theorem Em: ∀l:List UInt8,gJ (iJ l)=gJ l
 | []=>rfl
 | c::t=>by
  unfold iJ;rw[List.dropWhile_cons];by_cases h:c=48
  ·subst h;have:=Em t;unfold iJ at this;rw[if_pos (by decide),this];unfold gJ;rfl
  ·rw[if_neg (by simpa using h)]
theorem Ot: ∀l:List UInt8,l.all dR=true->0<=gJ l/\gJ l<10 ^ l.length:=by
 intro l
 induction hn:l.length generalizing l with
 | zero=>intro _;have:l= []:=List.eq_nil_of_length_eq_zero hn;subst this;simp[gJ]
 | succ n ih=>
  intro h;have hne:l≠ []:=by intro e;subst e;simp at hn
  obtain⟨a,c,rfl⟩: ∃a c,l=a++ [c]:=⟨l.dropLast,l.getLast hne,(List.dropLast_concat_getLast hne).symm⟩;rw[List.all_append,fB] at h;obtain⟨h1,h2⟩:=ih a (by simp at hn;omega) h.1;have hc:48<=c.toNat/\c.toNat<=57:=by have:=h.2;simp[dR] at this;exact this
  rw[Ek,Int.pow_succ];omega
end
section
open Go.RowKit
open Go.Lib hiding intOf
theorem En (s:ByteArray) (k:Nat):s.extract k s.size=bs (s.data.toList.drop k):=by rw[<-uS (s.extract k s.size),Lib.extract_to_end]
theorem xB (s:ByteArray) (h:0<s.size):s.data.toList.head?=some (s[0]'h):=by
 rw[List.head?_eq_getElem?,Array.getElem?_toList,Array.getElem?_eq_getElem h];rfl
theorem kV (s:ByteArray) (a b:Nat):s.extract a b=bs ((s.data.toList.drop a).take (b-a)):=by
 rw[<-uS (s.extract a b),Lib.extract_data]
theorem zO (s:ByteArray) (k:Nat):s.extract 0 k=bs (s.data.toList.take k):=by rw[kV,List.drop_zero,Nat.sub_zero]
theorem uT (a b:List UInt8):bs a++bs b=bs (a++b):=by
 rw[<-uS (bs a++bs b),ByteArray.data_append,Array.toList_append,aU,aU]
theorem lK (l:List UInt8) (k n:Nat) (h:n=l.length):(bs l).extract k n=bs (l.drop k):=by
 have:=En (bs l) k;rw[aU,aR] at this;rw[h,this]
theorem zP (b c:UInt8) (n:Int) (hn:n=c.toNat):((b.toNat:Int)==n)=(b==c):=by
 rw[hn];by_cases hc:b=c
 ·rw[hc];simp
 ·rw[aG.2 (by intro e;apply hc;apply UInt8.toNat_inj.1;omega),aG.2 hc]
theorem nN (l:List UInt8) (c:UInt8) (n:Int) (hn:n=c.toNat) (h:0<(bs l).size):(((((bs l)[0]'h).toNat:Int))==n)=(l.head?==some c):=by
 have h1:=xB (bs l) h;rw[aU] at h1;rw[h1,hn];by_cases hc:(bs l)[0]'h=c
 ·rw[hc];simp
 ·rw[aG.2 (by intro e;apply hc;apply UInt8.toNat_inj.1;omega),aG.2 (by simpa using hc)]
theorem Eo {w w':World}{n:String}{v:Array Value} (h:w.var? Tryz.prog n=some v) (hb:Below w.heap.size w w'):w'.var? Tryz.prog n=some v:=by
 unfold World.var? at h ⊢;cases hg:Tryz.prog.globalNamed n with
 | none=>rw[hg] at h;cases h
 | some g=>
  rw[hg] at h;simp only[Option.bind_some] at h ⊢;cases ho:w.heap[g]? with
  | none=>rw[ho] at h;cases h
  | some o=>rw[hb.block g (aF ho),ho];rw[ho] at h;exact h
theorem aH (w:World) (o:Obj):Below w.heap.size w (w.alloc o):=(aB _ _).alloc (aE _) _
theorem Ou (b:UInt8):((b.toNat:Int)).toNat.toUInt8=b:=by
 rw[fC];exact UInt8.ofNat_toNat
theorem uU (A:ByteArray) (b:UInt8) (w:World):
  Calls Tryz.prog 32 #[.string A, .int .u8 (b.toNat:Int)] w λe w'=>e= .returned (.int .i64 (Lib.indexByte A.data.toList b))/\w=w':=by
 have h:=Tryz.strings_IndexByte A (b.toNat:Int) w;rw[Ou] at h;exact h.mono λ_ _ ⟨a,b⟩=>⟨a,b.symm⟩
def cC (w:World):Prop:=Lib.Utf8Tabs 1 2 w
theorem cC.below {w w':World} (h:cC w) {B:Nat} (hB:1<B/\2<B) (hb:Below B w w'):cC w':=by
 obtain⟨h1,h2⟩:=h;refine⟨λc hc=>?_,λi hi=>⟨?_,?_⟩⟩
 ·rw[hb.cell (p:=⟨_,c,none⟩) hB.1];exact h1 c hc
 ·rw[hb.cell (p:=⟨_,2*i,none⟩) hB.2];exact(h2 i hi).1
 ·rw[hb.cell (p:=⟨_,2*i+1,none⟩) hB.2];exact(h2 i hi).2
theorem cC.lt {w:World} (h:cC w):1<w.heap.size/\2<w.heap.size:=
 ⟨rK (h.1 0 (by decide)),rK (h.2 0 (by decide)).1⟩
theorem cC.keep {w w':World} (h:cC w) (hb:Below w.heap.size w w'):cC w':=h.below h.lt hb
theorem Ov (s:ByteArray) (i:Nat) (hi:i<s.size):Lib.decodeGo (s.extract i s.size)=Utf8.decode s i:=by
 have hsz:(s.extract i s.size).size=s.size-i:=by rw[ByteArray.size_extract];omega
 unfold Lib.decodeGo;rw[if_neg (by omega),Lib.tail_decode,Nat.add_zero]
theorem zQ (s:ByteArray) (i:Nat) (w:World) (hi:i<s.size) (hT:cC w):
  Calls Tryz.prog 111 #[.string (s.extract i s.size)] w λe w'=>e= .returned (.tuple #[.int .i32 (bT s i), .int .i64 (bK s i)])/\Below w.heap.size w w':=by
 have h:=Tryz.utf8_DecodeRuneInString (s.extract i s.size) w hT;rw[Ov s i hi] at h;exact h
end
section
open Go.Lib
theorem Ow (r:Int):(Utf8.encode r).data.toList=Lib.encodeRune r:=by
 unfold Lib.encodeRune;by_cases hv:Utf8.valid r=true
 ·have hv':=hv;simp[Utf8.valid] at hv';obtain⟨m,rfl⟩: ∃m:Nat,r=m:=⟨r.toNat,by omega⟩;unfold Utf8.encode;simp only[hv,if_true,fC];by_cases h1:m<128
  ·rw[Lib.encodeRuneZ_one (by omega) (by omega),if_pos h1];rfl
  rw[if_neg h1];by_cases h2:m<2048
  ·rw[Lib.encodeRuneZ_two (by omega) (by omega),if_pos h2];simp only[kD,List.map_nil];rw[show (192+(m:Int) / 64).toNat=192+m / 64 by omega,show (128+(m:Int) % 64).toNat=128+m % 64 by omega]
  rw[if_neg h2];by_cases h3:m<65536
  ·rw[Lib.encodeRuneZ_three (by omega),if_pos h3];simp only[kD,List.map_nil];rw[show (224+(m:Int) / 4096).toNat=224+m / 4096 by omega,show (128+(m:Int) / 64 % 64).toNat=128+m / 64 % 64 by omega,show (128+(m:Int) % 64).toNat=128+m % 64 by omega]
  have e4:Lib.encodeRuneZ (m:Int)= [240+(m:Int) / 262144,128+(m:Int) / 4096 % 64,128+(m:Int) / 64 % 64,128+(m:Int) % 64]:=by
   unfold Lib.encodeRuneZ;rw[if_neg (by omega),if_neg (by omega),if_neg (by omega),if_pos (by omega)]
  rw[if_neg h3,e4];simp only[kD,List.map_nil];rw[show (240+(m:Int) / 262144).toNat=240+m / 262144 by omega,show (128+(m:Int) / 4096 % 64).toNat=128+m / 4096 % 64 by omega,show (128+(m:Int) / 64 % 64).toNat=128+m / 64 % 64 by omega,show (128+(m:Int) % 64).toNat=128+m % 64 by omega]
 ·have hv':=hv;simp[Utf8.valid] at hv';have e:Utf8.valid r=false:=by simpa using hv
  have e5:Lib.encodeRuneZ r= [239,191,189]:=by
   unfold Lib.encodeRuneZ;rw[if_neg (by omega),if_neg (by omega),if_neg (by omega),if_neg (by omega)]
  rw[e5];unfold Utf8.encode;simp only[e,Utf8.runeError,Bool.false_eq_true,if_false];decide
theorem Ox (r:Int) (h1:128<=r) (h2:r<=1114111) (h3:r<55296\/57343<r):
  ∃n,(2<=n/\n<=4)/\(Utf8.encode r).size=n/\ ∀h:n-1<(Utf8.encode r).size,128<=((Utf8.encode r)[n-1]'h).toNat:=by
 have he:=Ow r;have hx: ∀x:Int,0<=x->(128+x % 64).toNat.toUInt8.toNat=(128+x % 64).toNat:=λx hx=>by
  rw[show (128+x % 64).toNat.toUInt8=UInt8.ofNat (128+x % 64).toNat from rfl,UInt8.toNat_ofNat'];exact Nat.mod_eq_of_lt (by omega)
 have key: ∀(l:List UInt8) (n:Nat),(Utf8.encode r).data.toList=l->l.length=n->(∀c,l[n-1]?=some c->128<=c.toNat)->(Utf8.encode r).size=n/\ ∀h:n-1<(Utf8.encode r).size,128<=((Utf8.encode r)[n-1]'h).toNat:=by
  intro l n hl hn hc;have hs:(Utf8.encode r).size=n:=by rw[<-hn,<-hl];rfl
  refine⟨hs,λh=>hc _ ?_⟩;have hd:n-1<(Utf8.encode r).data.size:=h;rw[<-hl,Array.getElem?_toList,Array.getElem?_eq_getElem hd];rfl
 by_cases g2:r<=2047
 ·refine⟨2,by omega,key _ 2 he ?_ ?_⟩
  ·unfold Lib.encodeRune;rw[Lib.encodeRuneZ_two h1 g2];rfl
  ·unfold Lib.encodeRune;rw[Lib.encodeRuneZ_two h1 g2];intro c hc;simp only[kD,List.map_nil] at hc;have:c=(128+r % 64).toNat.toUInt8:=(by simpa using hc.symm);rw[this,hx r (by omega)];omega
 by_cases g3:r<=65535
 ·refine⟨3,by omega,key _ 3 he ?_ ?_⟩
  ·unfold Lib.encodeRune;rw[Lib.encodeRuneZ_three (by omega)];rfl
  ·unfold Lib.encodeRune;rw[Lib.encodeRuneZ_three (by omega)];intro c hc;simp only[kD,List.map_nil] at hc;have:c=(128+r % 64).toNat.toUInt8:=(by simpa using hc.symm);rw[this,hx r (by omega)];omega
 ·have e4:Lib.encodeRuneZ r= [240+r / 262144,128+r / 4096 % 64,128+r / 64 % 64,128+r % 64]:=by
   unfold Lib.encodeRuneZ;rw[if_neg (by omega),if_neg (by omega),if_neg (by omega),if_pos (by omega)]
  refine⟨4,by omega,key _ 4 he ?_ ?_⟩
  ·unfold Lib.encodeRune;rw[e4];rfl
  ·unfold Lib.encodeRune;rw[e4];intro c hc;simp only[kD,List.map_nil] at hc;have:c=(128+r % 64).toNat.toUInt8:=(by simpa using hc.symm);rw[this,hx r (by omega)];omega
end
end Go.Proofs.YtaifnmjjpddikaaGreatDoor
