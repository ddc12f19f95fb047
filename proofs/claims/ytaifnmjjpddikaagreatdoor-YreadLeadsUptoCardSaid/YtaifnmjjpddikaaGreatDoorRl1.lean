import Derived.WalkKit
import Derived.WalkSpells
import Derived.WalkLawsBesides
import Derived.Lib.Hide
import Derived.Lib.OthersKept
import Derived.Lib.TrimUEq
import Derived.Lib.RuneCountTail
import Derived.Lib.ValidU
import Derived.Lib.Strings
import Derived.Lib.Small
import Derived.Lib.Bytealg
import Derived.Lib.TrimByte
import Derived.Lib.ItoaNum
import Derived.Test.YtaifnmjjpddikaaGreatDoorShelf
import Derived.Lib.IndexBytes
import Derived.Test.YtaifnmjjpddikaaGreatDoorProg
import Derived.Lib.RuneBytes
namespace Go.Proofs.YtaifnmjjpddikaaGreatDoor
set_option linter.unusedVariables false
set_option linter.unusedSimpArgs false
section
open Go.RowKit
abbrev aB:=@Below.refl
abbrev aE:=@Nat.le_refl
abbrev aH:=@decide_eq_false
abbrev aJ:=@And.intro
abbrev aK:=@beq_eq_false_iff_ne
abbrev aM:=@decide_eq_true
abbrev aO:=@Array.getD_eq_getD_getElem?
abbrev aR:=@List.getElem?_eq_some_iff
abbrev aV:=@List.length_cons
abbrev aW:=@List.length_append
abbrev aX:=@List.mem_of_getElem?
abbrev aY:=@Nat.le_trans
abbrev bB:=@List.length_drop
abbrev bD:=@Option.some.inj
abbrev bE:=@List.getElem?_eq_getElem
abbrev bK:=@List.length_map
abbrev bM:=@Nat.zero_le
abbrev cD:=@List.length_take
abbrev cH:=@List.getElem?_cons_succ
abbrev cJ:=@Array.getElem?_eq_some_iff
abbrev cN:=@Option.some.injEq
abbrev cP:=@Below.heap_setCell
abbrev cT:=@Bool.and_eq_true
abbrev cW:=@List.getElem?_map
abbrev dC:=@List.mem_cons
abbrev dO:=@List.set_cons_succ
abbrev dU:=@List.length_singleton
abbrev dV:=@List.getElem?_cons_zero
abbrev eC:=@List.getElem?_toArray
abbrev eJ:=@List.setIfInBounds_toArray
abbrev eK:=@List.set_cons_zero
abbrev fH:=@List.all_eq_true
abbrev fT:=@Int.toNat_natCast
abbrev fU:=@List.map_cons
abbrev fV:=@Nat.lt_of_lt_of_le
abbrev gD:=@bne_iff_ne
abbrev gS:=@List.mem_cons_self
abbrev gY:=@List.length_nil
abbrev iH:=@List.drop_eq_getElem_cons
abbrev iQ:=@List.mem_singleton
abbrev jH:=@List.drop_drop
abbrev jJ:=@List.nil_append
abbrev jW:=@List.cons_append
abbrev kP:=@List.getElem?_append_left
abbrev kQ:=@decide_eq_true_eq
abbrev kT:=@World.size_alloc
abbrev mC:=@List.getElem?_append_right
abbrev mP:=@List.getElem?_drop
abbrev mV:=@List.append_assoc
abbrev mZ:=@List.map_append
abbrev nN:=@List.mem_append
abbrev nQ:=@Nat.le_of_eq
abbrev oQ:=@List.mem_map
abbrev oR:=@List.take_append_drop
abbrev pA:=@Nat.not_lt_zero
abbrev rG:=@Option.map_eq_some_iff
abbrev sE:=@List.length_pos_iff
abbrev sS:=@Nat.le_succ
abbrev uD:=@Array.getElem?_setIfInBounds
abbrev uG:=@Nat.lt_succ_self
abbrev uL:=@List.take_of_length_le
abbrev Bj:=@List.getElem?_eq_none_iff
abbrev Ew:=@World.cell?_setCell_other
theorem exQ{α:Sort _}(a:α):∃x,a=x:=⟨_,rfl⟩
theorem tT {k:IntKind}{a b:Int} (h:a=b):Ending.returned (.int k a)= .returned (.int k b):=by rw[h]
theorem xQ {a b:Bool} (h:a=b):Ending.returned (.bool a)= .returned (.bool b):=by rw[h]
theorem Fz {W w1:World} (hb:Below W.heap.size W w1):(∀b o,b<W.heap.size->w1.cell? ⟨b,o,none⟩=W.cell? ⟨b,o,none⟩)/\(∀b o,b<W.heap.size->w1.frozen? ⟨b,o,none⟩=W.frozen? ⟨b,o,none⟩):=
 ⟨λb o h=>hb.cell (p:=⟨b,o,none⟩) h,λb o h=>hb.frozen (p:=⟨b,o,none⟩) h⟩
theorem vJ {P:Program}{ops:Array Oper}{rest:List Oper}{o:Oper}{a:Act}{Q:Exit->Act->World->Prop} (hgd:o.guard=none) (s x:Operand) (t:TypeId)
  (ho:o.op= .call { callee:= .builtin .append,args:= #[s,x],argTypes:= #[t,t] })
  (base:Nat) (e:TypeId) (i:TypeInfo) (z:Value) (size bytes:Nat) (ht:P.underlying t=some (.slice e)) (hi:P.info? e=some i) (hz:i.zero=some z)
  (hsize:i.size=size) (hby:i.bytes=bytes) (hzs:z.cells.size=size) (hsz:0<size)
  (w:World) (v:Value) (n:Nat) (xs:List Value) (hs:a.eval s=v) (hown:w.ownsRow base e size v n xs)
  (cs:Array Value) (hx:a.eval x= .slice (some ⟨w.heap.size,0,none⟩) 1 1) (hcs:cs.size=size) (h1: ∀u∈cs.toList,u.oneCell'=true)
  (hn:n+1<=4294967296) (hbt:bytes<=256) (hbase:base<=w.heap.size)
  (h: ∀v' w',w'.ownsRow base e size v' (n+1) (xs++cs.toList)->w.heap.size<=w'.heap.size->Below base w w'->(∀k,k<w.heap.size->some k≠v.ownBlock->w'.heap[k]?=w.heap[k]?)->v'≠ .slice none 0 0->wpList P ops Q rest (a.put o.dst v') w'):wpList P ops Q (o::rest) a (w.alloc (.cells cs e)):=by
 have hmul:(n+1)*bytes<=4294967296*256:=Nat.mul_le_mul hn hbt;refine wpList_append_own _ hgd s x t ho base e i z size bytes ht hi hz hsize hby hzs hsz v n xs hs (hown.alloc _) ⟨w.heap.size,0,none⟩ 1 1 cs.toList hx (by simp[hcs]) ?_ h1 (by unfold maxLen;omega) (by omega) (by simp;omega) ?_
 ·intro j u f;rw[Array.getElem?_toList] at f;have e1:((⟨w.heap.size,0,none⟩:Addr).add j)=⟨w.heap.size,j,none⟩:=by unfold Addr.add;split<;>simp_all
  rw[e1,World.cell?_alloc_new];exact f
 ·intro v' w' p g l;have b:Below base w w':=((aB base w).alloc hbase _).grown g (by simp;omega) (λk d=>((hown.alloc (.cells cs e)).lt k d).1);refine h v' w' p b.size b (λk d c=>?_) (λm=>?_)
  ·rw[g.block k (by simp;omega) c,Below.heap_alloc _ _ _ d]
  ·have:=(l.1 m).2;omega
theorem aC {W w w':World} (h:Below W.heap.size W w) (h2:Below w.heap.size w w'):Below W.heap.size W w':=h.trans (h2.mono h.size)
end
section
open Go.RowKit
open Go.Lib
def bQ (s:ByteArray) (i:Nat):Int:=((Utf8.decode s i).1:Int)
def bJ (s:ByteArray) (i:Nat):Nat:=(Utf8.decode s i).2
theorem qZ (s:ByteArray) (i:Nat):0<=bQ s i/\bQ s i<=1114111:=by
 unfold bQ;have:=rune_le s i;omega
theorem Qe (n b0 b1 b2 b3:Nat) (hn:1<=n):(decodeN n b0 b1 b2 b3).2<=4/\(decodeN n b0 b1 b2 b3).2<=n:=by
 unfold decodeN;repeat' split
 all_goals (simp only[];omega)
theorem qB (s:ByteArray) (i:Nat) (hi:i<s.size):1<=bJ s i/\bJ s i<=4/\i+bJ s i<=s.size:=by
 unfold bJ;have h1:=width_pos s i;rw[decode_at] at *;have:=Qe (s.size-i) (s.get! i).toNat (s.get! (i+1)).toNat (s.get! (i+2)).toNat (s.get! (i+3)).toNat (by omega);omega
def kO (s:ByteArray) (i:Nat):Bool:=!(bQ s i==65533&&((bJ s i:Nat):Int)==1)
theorem rA {w:World}{b o:Nat}{v:Value} (h:w.cell? ⟨b,o,none⟩=some v):b<w.heap.size:=World.block_lt_of_cell? w _ h
def lW (s:ByteArray):Nat->Nat->Option Nat
 | 0,_=>none
 | f+1,pos=>if pos<s.size then(if kO s pos then lW s f (pos+bJ s pos) else some pos) else none
def tU (s:ByteArray):Option Nat:=lW s s.size 0
def jU (s:ByteArray):Int×Bool:=match tU s with | some p=>(p,false) | none=>(s.size,true)
theorem Qf (s:ByteArray) (f pos:Nat) (h:s.size<=pos):lW s f pos=none:=by
 cases f
 ·rfl
 ·unfold lW;rw[if_neg (by omega)]
theorem Qg (s:ByteArray) (f pos:Nat) (h:pos<s.size) (hg:kO s pos=true) (hf:s.size<=f+pos): ∃g,lW s f pos=lW s g (pos+bJ s pos)/\s.size<=g+(pos+bJ s pos):=by
 obtain⟨g,rfl⟩: ∃g,f=g+1:=⟨f-1,by omega⟩;have:=qB s pos h;refine⟨g,?_,by omega⟩;show (if pos<s.size then(if kO s pos then lW s g (pos+bJ s pos) else some pos) else none)=_;rw[if_pos h,if_pos hg]
theorem Qh (s:ByteArray) (f pos:Nat) (h:pos<s.size) (hg:kO s pos=false) (hf:s.size<=f+pos):lW s f pos=some pos:=by
 obtain⟨g,rfl⟩: ∃g,f=g+1:=⟨f-1,by omega⟩;show (if pos<s.size then(if kO s pos then lW s g (pos+bJ s pos) else some pos) else none)=_;rw[if_pos h,hg];rfl
def nJ (s:ByteArray) (pos:Nat):Prop:= ∃f,tU s=lW s f pos/\s.size<=f+pos
theorem nJ.zero (s:ByteArray):nJ s 0:=⟨s.size,rfl,by omega⟩
theorem nJ.next {s:ByteArray}{pos:Nat} (h:nJ s pos) (hp:pos<s.size) (hg:kO s pos=true):nJ s (pos+bJ s pos):=by
 obtain⟨f,a,c⟩:=h;obtain⟨g,d,b⟩:=Qg s f pos hp hg c;exact⟨g,a.trans d,b⟩
theorem nJ.bad {s:ByteArray}{pos:Nat} (h:nJ s pos) (hp:pos<s.size) (hg:kO s pos=false):jU s=((pos:Int),false):=by
 obtain⟨f,a,b⟩:=h;unfold jU;rw[a,Qh s f pos hp hg b]
theorem nJ.fin {s:ByteArray}{pos:Nat} (h:nJ s pos) (hp:s.size<=pos):jU s=((s.size:Int),true):=by
 obtain⟨f,a,h2⟩:=h;unfold jU;rw[a,Qf s f pos hp]
theorem oN (s:ByteArray) (pos:Nat):decodeL (s.data.toList.drop pos)=Utf8.decode s pos:=by
 rw[decodeL_N,decode_N];simp only[bB,List.getD_eq_getElem?_getD,mP,Nat.add_zero]
theorem Qi (s:ByteArray) (pos:Nat):kO s pos=decide (¬((Utf8.decode s pos).1=65533/\(Utf8.decode s pos).2=1)):=by
 unfold kO bQ bJ;rw[Bool.eq_iff_iff];simp;omega
theorem Ga (s:ByteArray): ∀f pos,s.size<=f+pos->validGoD f (s.data.toList.drop pos)=(lW s f pos).isNone
 | 0,pos,h=>by simp[validGoD,lW]
 | f+1,pos,h=>by
  have hl:s.data.toList.length=s.size:=rfl;unfold validGoD lW;by_cases hp:pos<s.size
  ·have a: ¬(s.data.toList.drop pos= []):=by rw[List.drop_eq_nil_iff];omega
   have b:=qB s pos hp;rw[if_neg a,if_pos hp,oN,Qi];by_cases hb:(Utf8.decode s pos).1=65533/\(Utf8.decode s pos).2=1
   ·rw[if_pos hb];simp[hb]
   ·rw[if_neg hb,jH];have ih:=Ga s f (pos+bJ s pos) (by omega);unfold bJ at ih b ⊢;rw[ih,aM hb];rfl
  ·have a:s.data.toList.drop pos= []:=by rw[List.drop_eq_nil_iff];omega
   rw[if_pos a,if_neg hp];rfl
theorem Ai (s:ByteArray):Lib.validD s.data.toList=(tU s).isNone:=by
 unfold Lib.validD tU;have:=Ga s s.size 0 (by omega);simpa using this
theorem Qj {s:ByteArray} (h:Lib.validD s.data.toList=true):jU s=((s.size:Int),true):=by
 rw[Ai,Option.isNone_iff_eq_none] at h;unfold jU;rw[h]
theorem Aj {R:Int×Bool}{a:Int}{b:Bool} (h:R=(a,b)):Ending.returned (.tuple #[.int .i64 a, .bool b])= .returned (.tuple #[.int .i64 R.1, .bool R.2]):=by subst h;rfl
theorem Qk {s:ByteArray}{pos:Nat} (h:bQ s pos≠65533):kO s pos=true:=by
 unfold kO;rw[aK.2 h];rfl
theorem Ql {s:ByteArray}{pos:Nat} (h:bJ s pos≠1):kO s pos=true:=by
 unfold kO;rw[show (((bJ s pos:Nat):Int)==1)=false from aK.2 (by omega)];simp
theorem Qm {s:ByteArray}{pos:Nat} (h:bQ s pos=65533) (h1:bJ s pos=1):kO s pos=false:=by
 unfold kO;rw[h,h1];rfl
theorem aF {w:World}{k:Nat}{o:Obj} (h:w.heap[k]?=some o):k<w.heap.size:=(cJ.1 h).1
end
section
def bs (l:List UInt8):ByteArray:=⟨l.toArray⟩
theorem aZ (l:List UInt8):(bs l).data.toList=l:=by simp[bs]
theorem aT (l:List UInt8):(bs l).size=l.length:=by simp[bs,ByteArray.size]
theorem tV (s:ByteArray):bs s.data.toList=s:=by cases s;simp[bs]
theorem xR {a b:List UInt8} (h:bs a=bs b):a=b:=by rw[<-aZ a,h,aZ]
def dZ (b:UInt8):Bool:=decide (48<=b.toNat/\b.toNat<=57)
def fG (l:List UInt8):Bool:=!l.isEmpty&&l.all dZ
structure eG where
 neg:Bool
 dig:List UInt8
 exp:Int
deriving DecidableEq
def eM:eG:=⟨false,[],0⟩
def rX (n:eG):Prop:=fG n.dig=true/\n.dig.length<=1000/\n.dig.head?≠some 48/\n.dig.getLast?≠some 48/\ -1000000<=n.exp/\n.exp<=1000000
instance (n:eG):Decidable (rX n):=by unfold rX;infer_instance
def jV (n:eG):Bool:=decide (n=eM\/rX n)
def dJ (p:UInt8->Bool) (l:List UInt8):List UInt8×List UInt8×Bool:=
 match l.dropWhile (λc=>!p c) with
 | []=>(l,[],false)
 | _::t=>(l.takeWhile (λc=>!p c),t,true)
def gX (c:UInt8):Bool:=c==101||c==69
def mQ (c:UInt8):Bool:=c==46
structure rY where
 neg:Bool
 whole:List UInt8
 rest:List UInt8
 low:Bool
 exp:List UInt8
def fS (l:List UInt8):List UInt8:=if l.head?=some 45 then l.drop 1 else l
def gQ (l:List UInt8):List UInt8:=if l.head?=some 45\/l.head?=some 43 then l.drop 1 else l
def nK (has pt:Bool) (x whole rest:List UInt8):Bool:=(!has||fG x)&&(fG whole&&(!pt||fG rest))&&(whole== [48]||whole.head? !=some 48)
def iN (l:List UInt8):Option rY:=
 let c:=dJ gX (fS l)
 let m:=dJ mQ c.1
 let x:=if c.2.2 then gQ c.2.1 else []
 if nK c.2.2 m.2.2 x m.1 m.2.1 then some ⟨l.head?==some 45,m.1,m.2.1,c.2.2&&c.2.1.head?==some 45,x⟩ else none
def fM (l:List UInt8):Int:=l.foldl (λa c=>10*a+((c.toNat:Int)-48)) 0
def gK (l:List UInt8):List UInt8:=l.dropWhile (· ==48)
def dE (l:List UInt8):List UInt8:=(l.reverse.dropWhile (· ==48)).reverse
def nL (x:rY):eG×Int:=
 if 1000<x.whole.length+x.rest.length then(eM,3) else
 if 9<(gK x.exp).length then(eM,4) else
 let e:=if x.low then-fM x.exp else fM x.exp
 let d:=gK (x.whole++x.rest)
 if d= [] then(eM,0) else
 let k:=e-x.rest.length+(d.length-(dE d).length)
 if k< -1000000\/1000000<k then(eM,4) else(⟨x.neg,dE d,k⟩,0)
def cL (l:List UInt8):eG×Int:=match iN l with | none=>(eM,2) | some x=>nL x
theorem Ak (a:List UInt8) (c:UInt8):fM (a++ [c])=10*fM a+((c.toNat:Int)-48):=by
 unfold fM;rw[List.foldl_append];rfl
theorem Gb: ∀l:List UInt8,fM (gK l)=fM l
 | []=>rfl
 | c::t=>by
  unfold gK;rw[List.dropWhile_cons];by_cases h:c=48
  ·subst h;have:=Gb t;unfold gK at this;rw[if_pos (by decide),this];unfold fM;rfl
  ·rw[if_neg (by simpa using h)]
theorem Qn: ∀l:List UInt8,l.all dZ=true->0<=fM l/\fM l<10 ^ l.length:=by
 intro l
 induction hn:l.length generalizing l with
 | zero=>intro _;have:l= []:=List.eq_nil_of_length_eq_zero hn;subst this;simp[fM]
 | succ n ih=>
  intro h;have b:l≠ []:=by intro e;subst e;simp at hn
  obtain⟨a,c,rfl⟩: ∃a c,l=a++ [c]:=⟨l.dropLast,l.getLast b,(List.dropLast_concat_getLast b).symm⟩;rw[List.all_append,cT] at h;obtain⟨h1,h2⟩:=ih a (by simp at hn;omega) h.1;have hc:48<=c.toNat/\c.toNat<=57:=by have:=h.2;simp[dZ] at this;exact this
  rw[Ak,Int.pow_succ];omega
end
section
open Go.RowKit
open Go.Lib hiding intOf
theorem Gc (s:ByteArray) (k:Nat):s.extract k s.size=bs (s.data.toList.drop k):=by rw[<-tV (s.extract k s.size),Lib.extract_to_end]
theorem xS (s:ByteArray) (h:0<s.size):s.data.toList.head?=some (s[0]'h):=by
 rw[List.head?_eq_getElem?,Array.getElem?_toList,Array.getElem?_eq_getElem h];rfl
theorem lG (s:ByteArray) (a b:Nat):s.extract a b=bs ((s.data.toList.drop a).take (b-a)):=by
 rw[<-tV (s.extract a b),Lib.extract_data]
theorem Al (s:ByteArray) (k:Nat):s.extract 0 k=bs (s.data.toList.take k):=by rw[lG,List.drop_zero,Nat.sub_zero]
theorem vK (a b:List UInt8):bs a++bs b=bs (a++b):=by
 rw[<-tV (bs a++bs b),ByteArray.data_append,Array.toList_append,aZ,aZ]
theorem lX (l:List UInt8) (k n:Nat) (h:n=l.length):(bs l).extract k n=bs (l.drop k):=by
 have:=Gc (bs l) k;rw[aZ,aT] at this;rw[h,this]
theorem Am (b c:UInt8) (n:Int) (hn:n=c.toNat):((b.toNat:Int)==n)=(b==c):=by
 rw[hn];by_cases hc:b=c
 ·rw[hc];simp
 ·rw[aK.2 (by intro e;apply hc;apply UInt8.toNat_inj.1;omega),aK.2 hc]
theorem oO (l:List UInt8) (c:UInt8) (n:Int) (hn:n=c.toNat) (h:0<(bs l).size):(((((bs l)[0]'h).toNat:Int))==n)=(l.head?==some c):=by
 have a:=xS (bs l) h;rw[aZ] at a;rw[a,hn];by_cases hc:(bs l)[0]'h=c
 ·rw[hc];simp
 ·rw[aK.2 (by intro e;apply hc;apply UInt8.toNat_inj.1;omega),aK.2 (by simpa using hc)]
theorem Gd {w w':World}{n:String}{v:Array Value} (h:w.var? Tryz.prog n=some v) (hb:Below w.heap.size w w'):w'.var? Tryz.prog n=some v:=by
 unfold World.var? at h ⊢;cases hg:Tryz.prog.globalNamed n with
 | none=>rw[hg] at h;cases h
 | some g=>
  rw[hg] at h;simp only[Option.bind_some] at h ⊢;cases ho:w.heap[g]? with
  | none=>rw[ho] at h;cases h
  | some o=>rw[hb.block g (aF ho),ho];rw[ho] at h;exact h
theorem aI (w:World) (o:Obj):Below w.heap.size w (w.alloc o):=(aB _ _).alloc (aE _) _
theorem Qo (b:UInt8):((b.toNat:Int)).toNat.toUInt8=b:=by
 rw[fT];exact UInt8.ofNat_toNat
theorem vL (A:ByteArray) (b:UInt8) (w:World):
  Calls Tryz.prog 32 #[.string A, .int .u8 (b.toNat:Int)] w λe w'=>e= .returned (.int .i64 (Lib.indexByte A.data.toList b))/\w=w':=by
 have h:=Tryz.strings_IndexByte A (b.toNat:Int) w;rw[Qo] at h;exact h.mono λ_ _ ⟨a,b⟩=>⟨a,b.symm⟩
def bZ (w:World):Prop:=Lib.Utf8Tabs 1 2 w
theorem bZ.below {w w':World} (h:bZ w) {B:Nat} (hB:1<B/\2<B) (hb:Below B w w'):bZ w':=by
 obtain⟨e,b⟩:=h;refine⟨λc d=>?_,λi a=>⟨?_,?_⟩⟩
 ·rw[hb.cell (p:=⟨_,c,none⟩) hB.1];exact e c d
 ·rw[hb.cell (p:=⟨_,2*i,none⟩) hB.2];exact(b i a).1
 ·rw[hb.cell (p:=⟨_,2*i+1,none⟩) hB.2];exact(b i a).2
theorem bZ.lt {w:World} (h:bZ w):1<w.heap.size/\2<w.heap.size:=
 ⟨rA (h.1 0 (by decide)),rA (h.2 0 (by decide)).1⟩
theorem bZ.keep {w w':World} (h:bZ w) (hb:Below w.heap.size w w'):bZ w':=h.below h.lt hb
theorem Qp (s:ByteArray) (i:Nat) (hi:i<s.size):Lib.decodeGo (s.extract i s.size)=Utf8.decode s i:=by
 have hsz:(s.extract i s.size).size=s.size-i:=by rw[ByteArray.size_extract];omega
 unfold Lib.decodeGo;rw[if_neg (by omega),Lib.tail_decode,Nat.add_zero]
theorem An (s:ByteArray) (i:Nat) (w:World) (hi:i<s.size) (hT:bZ w):
  Calls Tryz.prog 111 #[.string (s.extract i s.size)] w λe w'=>e= .returned (.tuple #[.int .i32 (bQ s i), .int .i64 (bJ s i)])/\Below w.heap.size w w':=by
 have h:=Tryz.utf8_DecodeRuneInString (s.extract i s.size) w hT;rw[Qp s i hi] at h;exact h
end
section
open Go.Lib
theorem Qq (r:Int):(Utf8.encode r).data.toList=Lib.encodeRune r:=by
 unfold Lib.encodeRune;by_cases hv:Utf8.valid r=true
 ·have a:=hv;simp[Utf8.valid] at a;obtain⟨m,rfl⟩: ∃m:Nat,r=m:=⟨r.toNat,by omega⟩;unfold Utf8.encode;simp only[hv,if_true,fT];by_cases h1:m<128
  ·rw[Lib.encodeRuneZ_one (by omega) (by omega),if_pos h1];rfl
  rw[if_neg h1];by_cases h2:m<2048
  ·rw[Lib.encodeRuneZ_two (by omega) (by omega),if_pos h2];simp only[fU,List.map_nil];rw[show (192+(m:Int) / 64).toNat=192+m / 64 by omega,show (128+(m:Int) % 64).toNat=128+m % 64 by omega]
  rw[if_neg h2];by_cases h3:m<65536
  ·rw[Lib.encodeRuneZ_three (by omega),if_pos h3];simp only[fU,List.map_nil];rw[show (224+(m:Int) / 4096).toNat=224+m / 4096 by omega,show (128+(m:Int) / 64 % 64).toNat=128+m / 64 % 64 by omega,show (128+(m:Int) % 64).toNat=128+m % 64 by omega]
  have e4:Lib.encodeRuneZ (m:Int)= [240+(m:Int) / 262144,128+(m:Int) / 4096 % 64,128+(m:Int) / 64 % 64,128+(m:Int) % 64]:=by
   unfold Lib.encodeRuneZ;rw[if_neg (by omega),if_neg (by omega),if_neg (by omega),if_pos (by omega)]
  rw[if_neg h3,e4];simp only[fU,List.map_nil];rw[show (240+(m:Int) / 262144).toNat=240+m / 262144 by omega,show (128+(m:Int) / 4096 % 64).toNat=128+m / 4096 % 64 by omega,show (128+(m:Int) / 64 % 64).toNat=128+m / 64 % 64 by omega,show (128+(m:Int) % 64).toNat=128+m % 64 by omega]
 ·have a:=hv;simp[Utf8.valid] at a;have e:Utf8.valid r=false:=by simpa using hv
  have e5:Lib.encodeRuneZ r= [239,191,189]:=by
   unfold Lib.encodeRuneZ;rw[if_neg (by omega),if_neg (by omega),if_neg (by omega),if_neg (by omega)]
  rw[e5];unfold Utf8.encode;simp only[e,Utf8.runeError,Bool.false_eq_true,if_false];decide
theorem Qr (r:Int) (h1:128<=r) (h2:r<=1114111) (h3:r<55296\/57343<r):
  ∃n,(2<=n/\n<=4)/\(Utf8.encode r).size=n/\ ∀h:n-1<(Utf8.encode r).size,128<=((Utf8.encode r)[n-1]'h).toNat:=by
 have d:=Qq r;have b: ∀x:Int,0<=x->(128+x % 64).toNat.toUInt8.toNat=(128+x % 64).toNat:=λx b=>by
  rw[show (128+x % 64).toNat.toUInt8=UInt8.ofNat (128+x % 64).toNat from rfl,UInt8.toNat_ofNat'];exact Nat.mod_eq_of_lt (by omega)
 have key: ∀(l:List UInt8) (n:Nat),(Utf8.encode r).data.toList=l->l.length=n->(∀c,l[n-1]?=some c->128<=c.toNat)->(Utf8.encode r).size=n/\ ∀h:n-1<(Utf8.encode r).size,128<=((Utf8.encode r)[n-1]'h).toNat:=by
  intro l n e g a;have f:(Utf8.encode r).size=n:=by rw[<-g,<-e];rfl
  refine⟨f,λh=>a _ ?_⟩;have i:n-1<(Utf8.encode r).data.size:=h;rw[<-e,Array.getElem?_toList,Array.getElem?_eq_getElem i];rfl
 by_cases g2:r<=2047
 ·refine⟨2,by omega,key _ 2 d ?_ ?_⟩
  ·unfold Lib.encodeRune;rw[Lib.encodeRuneZ_two h1 g2];rfl
  ·unfold Lib.encodeRune;rw[Lib.encodeRuneZ_two h1 g2];intro c a;simp only[fU,List.map_nil] at a;have:c=(128+r % 64).toNat.toUInt8:=(by simpa using a.symm);rw[this,b r (by omega)];omega
 by_cases g3:r<=65535
 ·refine⟨3,by omega,key _ 3 d ?_ ?_⟩
  ·unfold Lib.encodeRune;rw[Lib.encodeRuneZ_three (by omega)];rfl
  ·unfold Lib.encodeRune;rw[Lib.encodeRuneZ_three (by omega)];intro c a;simp only[fU,List.map_nil] at a;have:c=(128+r % 64).toNat.toUInt8:=(by simpa using a.symm);rw[this,b r (by omega)];omega
 ·have e4:Lib.encodeRuneZ r= [240+r / 262144,128+r / 4096 % 64,128+r / 64 % 64,128+r % 64]:=by
   unfold Lib.encodeRuneZ;rw[if_neg (by omega),if_neg (by omega),if_neg (by omega),if_pos (by omega)]
  refine⟨4,by omega,key _ 4 d ?_ ?_⟩
  ·unfold Lib.encodeRune;rw[e4];rfl
  ·unfold Lib.encodeRune;rw[e4];intro c a;simp only[fU,List.map_nil] at a;have:c=(128+r % 64).toNat.toUInt8:=(by simpa using a.symm);rw[this,b r (by omega)];omega
end
end Go.Proofs.YtaifnmjjpddikaaGreatDoor
