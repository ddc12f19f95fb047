import Derived.WalkKit
import Derived.WalkSpells
import Derived.WalkLawsBesides
import Derived.Lib.Hide
import Derived.Lib.OthersKept
import Derived.Lib.TrimUEq
import Derived.Lib.RuneCountTail
import Derived.Lib.ValidU
import Derived.Lib.Strings
import Derived.Lib.Small
import Derived.Lib.Bytealg
import Derived.Lib.TrimByte
import Derived.Lib.ItoaNum
import Derived.Test.YtlibkhbachmcgaaGreatDoorShelf
import Derived.Lib.IndexBytes
import Derived.Lib.AppendStr
import Derived.Lib.UnsafeStr
import Derived.Deep.AppendLies
import Derived.Laws.IdiomStrings
import Derived.Laws.BytesArg
import Derived.Laws.BitsAllLaws
import Derived.Deep.DeepCutAuto
import Derived.Lib.FrozenHead
import Derived.Test.YtlibkhbachmcgaaGreatDoorProg
import Derived.Lib.RuneBytes
namespace Go.Proofs.YtlibkhbachmcgaaGreatDoor
open Go.RowKit
theorem ret_int {k:IntKind}{a b:Int} (h:a=b):Ending.returned (.int k a)= .returned (.int k b):=by rw[h]
theorem ret_bool {a b:Bool} (h:a=b):Ending.returned (.bool a)= .returned (.bool b):=by rw[h]
theorem bcell {W w1:World} (hb:Below W.heap.size W w1):(∀b o,b<W.heap.size→w1.cell? ⟨b,o,none⟩=W.cell? ⟨b,o,none⟩)∧(∀b o,b<W.heap.size→w1.frozen? ⟨b,o,none⟩=W.frozen? ⟨b,o,none⟩):=
 ⟨fun b o h=>hb.cell (p:=⟨b,o,none⟩) h,fun b o h=>hb.frozen (p:=⟨b,o,none⟩) h⟩
theorem wpList_push {P:Program}{ops:Array Oper}{rest:List Oper}{o:Oper}{a:Act}{Q:Exit→Act→World→Prop} (hgd:o.guard=none) (s x:Operand) (t:TypeId)
  (ho:o.op= .call { callee:= .builtin .append,args:= #[s,x],argTypes:= #[t,t] })
  (base:Nat) (e:TypeId) (i:TypeInfo) (z:Value) (size bytes:Nat) (ht:P.underlying t=some (.slice e)) (hi:P.info? e=some i) (hz:i.zero=some z)
  (hsize:i.size=size) (hby:i.bytes=bytes) (hzs:z.cells.size=size) (hsz:0<size)
  (w:World) (v:Value) (n:Nat) (xs:List Value) (hs:a.eval s=v) (hown:w.ownsRow base e size v n xs)
  (cs:Array Value) (hx:a.eval x= .slice (some ⟨w.heap.size,0,none⟩) 1 1) (hcs:cs.size=size) (h1: ∀u∈cs.toList,u.oneCell'=true)
  (hn:n+1≤4294967296) (hbt:bytes≤256) (hbase:base≤w.heap.size)
  (h: ∀v' w',w'.ownsRow base e size v' (n+1) (xs++cs.toList)→w.heap.size≤w'.heap.size→Below base w w'→(∀k,k<w.heap.size→some k≠v.ownBlock→w'.heap[k]?=w.heap[k]?)→v'≠ .slice none 0 0→wpList P ops Q rest (a.put o.dst v') w'):wpList P ops Q (o::rest) a (w.alloc (.cells cs e)):=by
 have hmul:(n+1)*bytes≤4294967296*256:=Nat.mul_le_mul hn hbt
 refine wpList_append_own _ hgd s x t ho base e i z size bytes ht hi hz hsize hby hzs hsz v n xs hs (hown.alloc _) ⟨w.heap.size,0,none⟩ 1 1 cs.toList hx (by simp[hcs]) ?_ h1 (by unfold maxLen;omega) (by omega) (by simp;omega) ?_
 ·intro j u hj
  rw[Array.getElem?_toList] at hj
  have e1:((⟨w.heap.size,0,none⟩:Addr).add j)=⟨w.heap.size,j,none⟩:=by unfold Addr.add;split<;>simp_all
  rw[e1,World.cell?_alloc_new];exact hj
 ·intro v' w' h2 h3 h4
  have hb0:Below base w w':=((Below.refl base w).alloc hbase _).grown h3 (by simp;omega) (fun k hk=>((hown.alloc (.cells cs e)).lt k hk).1)
  refine h v' w' h2 hb0.size hb0 (fun k hk hne=>?_) (fun hv=>?_)
  ·rw[h3.block k (by simp;omega) hne,Below.heap_alloc _ _ _ hk]
  ·have:=(h4.1 hv).2
   omega
theorem below_of_new {W w w':World} (h:Below W.heap.size W w) (h2:Below w.heap.size w w'):Below W.heap.size W w':=h.trans (h2.mono h.size)
end Go.Proofs.YtlibkhbachmcgaaGreatDoor
namespace Go.Proofs.YtlibkhbachmcgaaGreatDoor
open Go.RowKit
open Go.Lib
def runeI (s:ByteArray) (i:Nat):Int:=((Utf8.decode s i).1:Int)
def widN (s:ByteArray) (i:Nat):Nat:=(Utf8.decode s i).2
theorem runeI_bd (s:ByteArray) (i:Nat):0≤runeI s i∧runeI s i≤1114111:=by
 unfold runeI;have:=rune_le s i;omega
theorem decodeN_4 (n b0 b1 b2 b3:Nat) (hn:1≤n):(decodeN n b0 b1 b2 b3).2≤4∧(decodeN n b0 b1 b2 b3).2≤n:=by
 unfold decodeN;repeat' split
 all_goals (simp only[];omega)
theorem widN_bd (s:ByteArray) (i:Nat) (hi:i<s.size):1≤widN s i∧widN s i≤4∧i+widN s i≤s.size:=by
 unfold widN
 have h1:=width_pos s i
 rw[decode_at] at *
 have:=decodeN_4 (s.size-i) (s.get! i).toNat (s.get! (i+1)).toNat (s.get! (i+2)).toNat (s.get! (i+3)).toNat (by omega)
 omega
def goodB (s:ByteArray) (i:Nat):Bool:=!(runeI s i==65533&&((widN s i:Nat):Int)==1)
theorem cell_lt {w:World}{b o:Nat}{v:Value} (h:w.cell? ⟨b,o,none⟩=some v):b<w.heap.size:=World.block_lt_of_cell? w _ h
def badFrom (s:ByteArray):Nat→Nat→Option Nat
 | 0,_=>none
 | f+1,pos=>if pos<s.size then(if goodB s pos then badFrom s f (pos+widN s pos) else some pos) else none
def badAt (s:ByteArray):Option Nat:=badFrom s s.size 0
def validRes (s:ByteArray):Int×Bool:=match badAt s with | some p=>(p,false) | none=>(s.size,true)
theorem badFrom_end (s:ByteArray) (f pos:Nat) (h:s.size≤pos):badFrom s f pos=none:=by
 cases f
 ·rfl
 ·unfold badFrom;rw[if_neg (by omega)]
theorem badFrom_good (s:ByteArray) (f pos:Nat) (h:pos<s.size) (hg:goodB s pos=true) (hf:s.size≤f+pos): ∃g,badFrom s f pos=badFrom s g (pos+widN s pos)∧s.size≤g+(pos+widN s pos):=by
 obtain⟨g,rfl⟩: ∃g,f=g+1:=⟨f-1,by omega⟩
 have:=widN_bd s pos h
 refine⟨g,?_,by omega⟩
 show (if pos<s.size then(if goodB s pos then badFrom s g (pos+widN s pos) else some pos) else none)=_
 rw[if_pos h,if_pos hg]
theorem badFrom_bad (s:ByteArray) (f pos:Nat) (h:pos<s.size) (hg:goodB s pos=false) (hf:s.size≤f+pos):badFrom s f pos=some pos:=by
 obtain⟨g,rfl⟩: ∃g,f=g+1:=⟨f-1,by omega⟩
 show (if pos<s.size then(if goodB s pos then badFrom s g (pos+widN s pos) else some pos) else none)=_
 rw[if_pos h,hg];rfl
def Bads (s:ByteArray) (pos:Nat):Prop:= ∃f,badAt s=badFrom s f pos∧s.size≤f+pos
theorem Bads.zero (s:ByteArray):Bads s 0:=⟨s.size,rfl,by omega⟩
theorem Bads.next {s:ByteArray}{pos:Nat} (h:Bads s pos) (hp:pos<s.size) (hg:goodB s pos=true):Bads s (pos+widN s pos):=by
 obtain⟨f,h1,h2⟩:=h
 obtain⟨g,h3,h4⟩:=badFrom_good s f pos hp hg h2
 exact⟨g,h1.trans h3,h4⟩
theorem Bads.bad {s:ByteArray}{pos:Nat} (h:Bads s pos) (hp:pos<s.size) (hg:goodB s pos=false):validRes s=((pos:Int),false):=by
 obtain⟨f,h1,h2⟩:=h
 unfold validRes;rw[h1,badFrom_bad s f pos hp hg h2]
theorem Bads.fin {s:ByteArray}{pos:Nat} (h:Bads s pos) (hp:s.size≤pos):validRes s=((s.size:Int),true):=by
 obtain⟨f,h1,h2⟩:=h
 unfold validRes;rw[h1,badFrom_end s f pos hp]
theorem decodeL_drop (s:ByteArray) (pos:Nat):decodeL (s.data.toList.drop pos)=Utf8.decode s pos:=by
 rw[decodeL_N,decode_N]
 simp only[List.length_drop,List.getD_eq_getElem?_getD,List.getElem?_drop,Nat.add_zero]
theorem goodB_iff (s:ByteArray) (pos:Nat):goodB s pos=decide (¬((Utf8.decode s pos).1=65533∧(Utf8.decode s pos).2=1)):=by
 unfold goodB runeI widN
 rw[Bool.eq_iff_iff]
 simp
 omega
theorem validGo_badFrom (s:ByteArray): ∀f pos,s.size≤f+pos→validGoD f (s.data.toList.drop pos)=(badFrom s f pos).isNone
 | 0,pos,h=>by simp[validGoD,badFrom]
 | f+1,pos,h=>by
  have hl:s.data.toList.length=s.size:=rfl
  unfold validGoD badFrom
  by_cases hp:pos<s.size
  ·have hne: ¬(s.data.toList.drop pos= []):=by rw[List.drop_eq_nil_iff];omega
   have hw:=widN_bd s pos hp
   rw[if_neg hne,if_pos hp,decodeL_drop,goodB_iff]
   by_cases hb:(Utf8.decode s pos).1=65533∧(Utf8.decode s pos).2=1
   ·rw[if_pos hb];simp[hb]
   ·rw[if_neg hb,List.drop_drop]
    have ih:=validGo_badFrom s f (pos+widN s pos) (by omega)
    unfold widN at ih hw ⊢
    rw[ih,decide_eq_true hb];rfl
  ·have hne:s.data.toList.drop pos= []:=by rw[List.drop_eq_nil_iff];omega
   rw[if_pos hne,if_neg hp];rfl
theorem validD_bad (s:ByteArray):Lib.validD s.data.toList=(badAt s).isNone:=by
 unfold Lib.validD badAt
 have:=validGo_badFrom s s.size 0 (by omega)
 simpa using this
theorem validRes_yes {s:ByteArray} (h:Lib.validD s.data.toList=true):validRes s=((s.size:Int),true):=by
 rw[validD_bad,Option.isNone_iff_eq_none] at h
 unfold validRes;rw[h]
theorem ret_vb {R:Int×Bool}{a:Int}{b:Bool} (h:R=(a,b)):Ending.returned (.tuple #[.int .i64 a, .bool b])= .returned (.tuple #[.int .i64 R.1, .bool R.2]):=by subst h;rfl
theorem goodB_rune {s:ByteArray}{pos:Nat} (h:runeI s pos≠65533):goodB s pos=true:=by
 unfold goodB;rw[beq_eq_false_iff_ne.2 h];rfl
theorem goodB_wide {s:ByteArray}{pos:Nat} (h:widN s pos≠1):goodB s pos=true:=by
 unfold goodB;rw[show (((widN s pos:Nat):Int)==1)=false from beq_eq_false_iff_ne.2 (by omega)];simp
theorem goodB_no {s:ByteArray}{pos:Nat} (h:runeI s pos=65533) (h1:widN s pos=1):goodB s pos=false:=by
 unfold goodB;rw[h,h1];rfl
theorem cell_it {w:World}{k:Nat}{o:Obj} (h:w.heap[k]?=some o):k<w.heap.size:=(Array.getElem?_eq_some_iff.1 h).1
end Go.Proofs.YtlibkhbachmcgaaGreatDoor
namespace Go.Proofs.YtlibkhbachmcgaaGreatDoor
set_option linter.unusedSimpArgs false
set_option linter.unusedVariables false
def bs (l:List UInt8):ByteArray:=⟨l.toArray⟩
theorem bs_data (l:List UInt8):(bs l).data.toList=l:=by simp[bs]
theorem bs_size (l:List UInt8):(bs l).size=l.length:=by simp[bs,ByteArray.size]
theorem bs_of (s:ByteArray):bs s.data.toList=s:=by cases s;simp[bs]
theorem bs_inj {a b:List UInt8} (h:bs a=bs b):a=b:=by rw[←bs_data a,h,bs_data]
def isDig (b:UInt8):Bool:=decide (48≤b.toNat∧b.toNat≤57)
def allDig (l:List UInt8):Bool:=!l.isEmpty&&l.all isDig
structure Num where
 neg:Bool
 dig:List UInt8
 exp:Int
deriving DecidableEq
def nought:Num:=⟨false,[],0⟩
def rightP (n:Num):Prop:=allDig n.dig=true∧n.dig.length≤1000∧n.dig.head?≠some 48∧n.dig.getLast?≠some 48∧ -1000000≤n.exp∧n.exp≤1000000
instance (n:Num):Decidable (rightP n):=by unfold rightP;infer_instance
def rightB (n:Num):Bool:=decide (n=nought∨rightP n)
def cutAt (p:UInt8→Bool) (l:List UInt8):List UInt8×List UInt8×Bool:=
 match l.dropWhile (fun c=>!p c) with
 | []=>(l,[],false)
 | _::t=>(l.takeWhile (fun c=>!p c),t,true)
def isE (c:UInt8):Bool:=c==101||c==69
def isDot (c:UInt8):Bool:=c==46
structure Lit where
 neg:Bool
 whole:List UInt8
 rest:List UInt8
 low:Bool
 exp:List UInt8
def unsign (l:List UInt8):List UInt8:=if l.head?=some 45 then l.drop 1 else l
def unplus (l:List UInt8):List UInt8:=if l.head?=some 45∨l.head?=some 43 then l.drop 1 else l
def litOk (has pt:Bool) (x whole rest:List UInt8):Bool:=(!has||allDig x)&&(allDig whole&&(!pt||allDig rest))&&(whole== [48]||whole.head? !=some 48)
def litOf (l:List UInt8):Option Lit:=
 let c:=cutAt isE (unsign l)
 let m:=cutAt isDot c.1
 let x:=if c.2.2 then unplus c.2.1 else []
 if litOk c.2.2 m.2.2 x m.1 m.2.1 then some ⟨l.head?==some 45,m.1,m.2.1,c.2.2&&c.2.1.head?==some 45,x⟩ else none
def decV (l:List UInt8):Int:=l.foldl (fun a c=>10*a+((c.toNat:Int)-48)) 0
def noZeros (l:List UInt8):List UInt8:=l.dropWhile (· ==48)
def noTail (l:List UInt8):List UInt8:=(l.reverse.dropWhile (· ==48)).reverse
def parseLit (x:Lit):Num×Int:=
 if 1000<x.whole.length+x.rest.length then(nought,3) else
 if 9<(noZeros x.exp).length then(nought,4) else
 let e:=if x.low then-decV x.exp else decV x.exp
 let d:=noZeros (x.whole++x.rest)
 if d= [] then(nought,0) else
 let k:=e-x.rest.length+(d.length-(noTail d).length)
 if k< -1000000∨1000000<k then(nought,4) else(⟨x.neg,noTail d,k⟩,0)
def parseL (l:List UInt8):Num×Int:=match litOf l with | none=>(nought,2) | some x=>parseLit x
theorem decV_snoc (a:List UInt8) (c:UInt8):decV (a++ [c])=10*decV a+((c.toNat:Int)-48):=by
 unfold decV;rw[List.foldl_append];rfl
theorem decV_noZeros: ∀l:List UInt8,decV (noZeros l)=decV l
 | []=>rfl
 | c::t=>by
  unfold noZeros
  rw[List.dropWhile_cons]
  by_cases h:c=48
  ·subst h
   have:=decV_noZeros t
   unfold noZeros at this
   rw[if_pos (by decide),this]
   unfold decV;rfl
  ·rw[if_neg (by simpa using h)]
theorem decV_bd: ∀l:List UInt8,l.all isDig=true→0≤decV l∧decV l<10 ^ l.length:=by
 intro l
 induction hn:l.length generalizing l with
 | zero=>intro _;have:l= []:=List.eq_nil_of_length_eq_zero hn;subst this;simp[decV]
 | succ n ih=>
  intro h
  have hne:l≠ []:=by intro e;subst e;simp at hn
  obtain⟨a,c,rfl⟩: ∃a c,l=a++ [c]:=⟨l.dropLast,l.getLast hne,(List.dropLast_concat_getLast hne).symm⟩
  rw[List.all_append,Bool.and_eq_true] at h
  obtain⟨h1,h2⟩:=ih a (by simp at hn;omega) h.1
  have hc:48≤c.toNat∧c.toNat≤57:=by have:=h.2;simp[isDig] at this;exact this
  rw[decV_snoc,Int.pow_succ]
  omega
end Go.Proofs.YtlibkhbachmcgaaGreatDoor
namespace Go.Proofs.YtlibkhbachmcgaaGreatDoor
set_option linter.unusedSimpArgs false
set_option linter.unusedVariables false
open Go.RowKit
open Go.Lib hiding intOf
theorem bs_back (s:ByteArray) (k:Nat):s.extract k s.size=bs (s.data.toList.drop k):=by rw[←bs_of (s.extract k s.size),Lib.extract_to_end]
theorem head_at (s:ByteArray) (h:0<s.size):s.data.toList.head?=some (s[0]'h):=by
 rw[List.head?_eq_getElem?,Array.getElem?_toList,Array.getElem?_eq_getElem h];rfl
theorem bs_extract (s:ByteArray) (a b:Nat):s.extract a b=bs ((s.data.toList.drop a).take (b-a)):=by
 rw[←bs_of (s.extract a b),Lib.extract_data]
theorem bs_front (s:ByteArray) (k:Nat):s.extract 0 k=bs (s.data.toList.take k):=by rw[bs_extract,List.drop_zero,Nat.sub_zero]
theorem bs_append (a b:List UInt8):bs a++bs b=bs (a++b):=by
 rw[←bs_of (bs a++bs b),ByteArray.data_append,Array.toList_append,bs_data,bs_data]
theorem bs_from (l:List UInt8) (k n:Nat) (h:n=l.length):(bs l).extract k n=bs (l.drop k):=by
 have:=bs_back (bs l) k
 rw[bs_data,bs_size] at this;rw[h,this]
theorem byte_eq (b c:UInt8) (n:Int) (hn:n=c.toNat):((b.toNat:Int)==n)=(b==c):=by
 rw[hn]
 by_cases hc:b=c
 ·rw[hc];simp
 ·rw[beq_eq_false_iff_ne.2 (by intro e;apply hc;apply UInt8.toNat_inj.1;omega),beq_eq_false_iff_ne.2 hc]
theorem head_is (l:List UInt8) (c:UInt8) (n:Int) (hn:n=c.toNat) (h:0<(bs l).size):(((((bs l)[0]'h).toNat:Int))==n)=(l.head?==some c):=by
 have h1:=head_at (bs l) h
 rw[bs_data] at h1
 rw[h1,hn]
 by_cases hc:(bs l)[0]'h=c
 ·rw[hc];simp
 ·rw[beq_eq_false_iff_ne.2 (by intro e;apply hc;apply UInt8.toNat_inj.1;omega),beq_eq_false_iff_ne.2 (by simpa using hc)]
theorem var_keep {w w':World}{n:String}{v:Array Value} (h:w.var? Tryz.prog n=some v) (hb:Below w.heap.size w w'):w'.var? Tryz.prog n=some v:=by
 unfold World.var? at h ⊢
 cases hg:Tryz.prog.globalNamed n with
 | none=>rw[hg] at h;cases h
 | some g=>
  rw[hg] at h
  simp only[Option.bind_some] at h ⊢
  cases ho:w.heap[g]? with
  | none=>rw[ho] at h;cases h
  | some o=>rw[hb.block g (cell_it ho),ho];rw[ho] at h;exact h
theorem below_alloc1 (w:World) (o:Obj):Below w.heap.size w (w.alloc o):=(Below.refl _ _).alloc (Nat.le_refl _) _
theorem toU8 (b:UInt8):((b.toNat:Int)).toNat.toUInt8=b:=by
 rw[Int.toNat_natCast];exact UInt8.ofNat_toNat
theorem index_in (A:ByteArray) (b:UInt8) (w:World):
  Calls Tryz.prog 57 #[.string A, .int .u8 (b.toNat:Int)] w fun e w'=>e= .returned (.int .i64 (Lib.indexByte A.data.toList b))∧w=w':=by
 have h:=Tryz.strings_IndexByte A (b.toNat:Int) w
 rw[toU8] at h
 exact h.mono fun _ _ ⟨a,b⟩=>⟨a,b.symm⟩
theorem info_u8:(Tryz.prog.info? 5).map (fun i=>(i.zero,i.size,i.bytes))=some (some (.int .u8 0),1,1):=by kernel_rfl
theorem bytes_at (w:World) (m:List UInt8) (cs:Array Value) (t:TypeId) (h:cs.toList=byteCells m): ∀j u,(byteCells m)[j]?=some u→(w.alloc (.cells cs t)).cell? ((⟨w.heap.size,0,none⟩:Addr).add j)=some u:=by
 intro j u hj
 rw[←h] at hj
 exact World.news_of_block (w:=w.alloc (.cells cs t)) (heap_alloc_new w _) j u hj
def DTab (w:World):Prop:=w.cell? ⟨7,15,none⟩=some (.int .u8 4)
theorem DTab.keep {w w':World} (h:DTab w) (hb:Below w.heap.size w w'):DTab w':=by
 unfold DTab at h ⊢
 rw[hb.cell (p:=⟨_,_,none⟩) (cell_lt h),h]
theorem run_storeZ (P:Program) (g o:Nat) (t:TypeId) (fz:Nat×Nat): ∀(vs:List Value) (i:Nat) (cur:Array Value) (w:World),w.heap[g]?=some (.cells cur t fz)→o+i+vs.length≤fz.1→o+i+vs.length≤cur.size→(∀v∈vs,v.oneCell'=true)→
  (storeCells ⟨g,o,none⟩ vs i).run P w= .ok () (w.setRow g (cur.toList.take (o+i)++vs++cur.toList.drop (o+i+vs.length)).toArray)
 | [],i,cur,w,hg,_,_,_=>by
  simp only[storeCells,List.append_nil,List.length_nil,Nat.add_zero,List.take_append_drop,Array.toArray_toList]
  rw[setRow_self w g cur t fz hg]
  rfl
 | v::rest,i,cur,w,hg,hz,hl,h1=>by
  have hi:o+i<cur.size:=by simp at hl;omega
  have hadd:(⟨g,o,none⟩:Addr).add i=⟨g,o+i,none⟩:=by unfold Addr.add;split<;>simp_all
  have hcell:w.cell? ⟨g,o+i,none⟩=some cur[o+i]:=by simp[World.cell?,hg,hi]
  have hfro:w.frozen? ⟨g,o+i,none⟩=false:=by
   obtain⟨lo,hi'⟩:=fz
   simp only[World.frozen?,hg,Bool.and_eq_false_iff,decide_eq_false_iff_not]
   left
   simp only[List.length_cons] at hz
   omega
  have hst:(store ((⟨g,o,none⟩:Addr).add i) v).run P w= .ok () (w.setRow g (cur.setIfInBounds (o+i) v)):=by
   rw[hadd,run_store P w _ v _ (h1 v (by simp)),hcell]
   simp[hfro,setCell_eq_setRow w g (o+i) cur t fz v hg]
  have ih:=run_storeZ P g o t fz rest (i+1) (cur.setIfInBounds (o+i) v) (w.setRow g (cur.setIfInBounds (o+i) v)) (setRow_heap w g cur _ t _ hg) (by simp at hz ⊢;omega) (by simp at hl ⊢;omega) (fun x hx=>h1 x (by simp[hx]))
  simp only[storeCells,Sem.run_bind,hst,Result.andThen_ok,ih,setRow_setRow]
  congr 3
  have e:=list_seg_step cur.toList (o+i) v rest (by simp at hl ⊢;omega)
  simpa [Array.toList_setIfInBounds,Nat.add_assoc] using e
def OwnZ (B:Nat) (w:World) (v:Value) (l:List UInt8):Prop:=
 ∃g cap cur fz,v= .slice (some ⟨g,0,none⟩) l.length cap∧B≤g∧w.heap[g]?=some (.cells cur 5 fz)∧(fz.2≤l.length∨cap≤fz.1)∧l.length≤cap∧cur.size=cap∧cur.toList.take l.length=byteCells l
theorem OwnZ.alloc {B:Nat}{w:World}{v:Value}{l:List UInt8} (h:OwnZ B w v l) (o:Obj):OwnZ B (w.alloc o) v l:=by
 obtain⟨g,cap,cur,fz,rfl,h1,h2,h3⟩:=h
 exact⟨g,cap,cur,fz,rfl,h1,(heap_alloc_old w o (Array.getElem?_eq_some_iff.1 h2).1).trans h2,h3⟩
theorem OwnZ.conv (w:World) (l:List UInt8):OwnZ w.heap.size (Lib.bytesWorld w 5 (bs l)) (.slice (some ⟨w.heap.size,0,none⟩) l.length (grownCap w l.length 0 5)) l:=by
 have hge:=grownCap_ge w l.length 0 5
 have hsz:(bs l).size=l.length:=bs_size l
 have hcs:(Lib.bytesCells w 5 (bs l)).size=grownCap w l.length 0 5:=by
  unfold Lib.bytesCells
  rw[Array.size_append,Array.size_map,Array.size_replicate,hsz]
  have:(bs l).data.size=l.length:=bs_size l
  omega
 refine⟨w.heap.size,_,_,_,rfl,Nat.le_refl _,Lib.bytesWorld_at_new w _ _, .inr (by rw[hcs];exact Nat.le_refl _),hge,hcs,?_⟩
 unfold Lib.bytesCells byteCells
 rw[Array.toList_append,List.take_append_of_le_length (by rw[Array.toList_map,List.length_map,bs_data];exact Nat.le_refl _),Array.toList_map,bs_data,List.take_of_length_le (by rw[List.length_map];exact Nat.le_refl _)]
theorem OwnZ.run {B:Nat}{w:World}{v:Value}{l:List UInt8} (h:OwnZ B w v l):(convert 83 9 v).run Tryz.prog w= .ok (.string (bs l)) w:=by
 obtain⟨g,cap,cur,fz,rfl,hb,hh,hf,hn,hsz,ht⟩:=h
 refine run_convert_bytes_back w _ _ 5 ⟨g,0,none⟩ cap l Tryz.underlying83 Tryz.underlying5 Tryz.underlying9 (fun j hj=>?_)
 have hadd:(⟨g,0,none⟩:Addr).add j=⟨g,j,none⟩:=by unfold Addr.add;split<;>simp_all
 rw[hadd,cell_of_row w g j cur _ fz hh]
 have hq:(byteCells l)[j]?=some (.int .u8 (l[j].toNat:Int)):=by unfold byteCells;rw[List.getElem?_map,List.getElem?_eq_getElem hj];rfl
 rw[←ht,List.getElem?_take,if_pos hj] at hq
 simpa using hq
theorem OwnZ.room {B:Nat}{w:World}{l m:List UInt8}{g cap:Nat}{cur:Array Value}{fz:Nat×Nat} (hb:B≤g) (hh:w.heap[g]?=some (.cells cur 5 fz)) (hf:fz.2≤l.length∨cap≤fz.1) (hsz:cur.size=cap) (ht:cur.toList.take l.length=byteCells l) (hr:l.length+m.length≤cap):
  (storeCells ⟨g,l.length,none⟩ (byteCells m) 0).run Tryz.prog w= .ok () (w.setRow g (cur.toList.take l.length++byteCells m++cur.toList.drop (l.length+m.length)).toArray)∧
  OwnZ B (w.setRow g (cur.toList.take l.length++byteCells m++cur.toList.drop (l.length+m.length)).toArray) (.slice (some ⟨g,0,none⟩) (l.length+m.length) cap) (l++m)∧
  w.grownBy (w.setRow g (cur.toList.take l.length++byteCells m++cur.toList.drop (l.length+m.length)).toArray) (some g):=by
 have hml:(byteCells m).length=m.length:=byteCells_length m
 refine⟨?_,⟨g,cap,_,fz,by rw[List.length_append],hb,setRow_heap w g cur _ _ _ hh,?_,by rw[List.length_append];exact hr,?_,?_⟩,⟨rfl,rfl,rfl,by simp,fun k _ hk=>setRow_other w g k _ (fun e=>hk (by rw[e]))⟩⟩
 ·rcases hf with hf | hf
  ·have:=run_storeCells_atF Tryz.prog g l.length _ fz (byteCells m) 0 cur w hh hf (by rw[hml];omega) (byteCells_one m)
   simpa only[Nat.add_zero,hml] using this
  ·have:=run_storeZ Tryz.prog g l.length _ fz (byteCells m) 0 cur w hh (by rw[hml];omega) (by rw[hml];omega) (byteCells_one m)
   simpa only[Nat.add_zero,hml] using this
 ·rw[List.length_append]
  rcases hf with hf | hf
  ·exact .inl (by omega)
  ·exact .inr hf
 ·simp only[List.size_toArray,List.length_append,List.length_take,List.length_drop,Array.length_toList,hml]
  omega
 ·rw[ht,byteCells_append]
  show List.take _ (byteCells l++byteCells m++_)=_
  rw[show (l++m).length=(byteCells l++byteCells m).length by simp[byteCells_length],List.take_left]
theorem OwnZ.grow {B:Nat}{w:World}{l m:List UInt8} (hB:B≤w.heap.size) (old:Nat) (row:Option Nat):
  OwnZ B (w.drew.alloc (.cells ((byteCells l).toArray++(byteCells m).toArray++Builtin.zeroCells (Value.int .u8 0).cells (grownCap w (l.length+m.length) old 5-(l.length+m.length))) 5)) (.slice (some ⟨w.heap.size,0,none⟩) (l.length+m.length) (grownCap w (l.length+m.length) old 5)) (l++m)∧
  w.grownBy (w.drew.alloc (.cells ((byteCells l).toArray++(byteCells m).toArray++Builtin.zeroCells (Value.int .u8 0).cells (grownCap w (l.length+m.length) old 5-(l.length+m.length))) 5)) row:=by
 have hge:=grownCap_ge w (l.length+m.length) old 5
 refine⟨⟨w.heap.size,_,_,(0,0),by rw[List.length_append],hB,heap_alloc_new w.drew _, .inl (Nat.zero_le _),by rw[List.length_append];exact hge,?_,?_⟩,⟨rfl,rfl,rfl,by simp,fun k hk _=>heap_alloc_old w.drew _ hk⟩⟩
 ·have hz1:(Value.int IntKind.u8 0).cells.size=1:=rfl
  simp only[Array.size_append,List.size_toArray,size_zeroCells,hz1,byteCells_length]
  omega
 ·simp only[Array.toList_append,List.append_assoc]
  rw[←List.append_assoc,byteCells_append,show (l++m).length=(byteCells l++byteCells m).length by simp[byteCells_length]]
  exact List.take_left
theorem OwnZ.lt {B:Nat}{w:World}{v:Value}{l:List UInt8} (h:OwnZ B w v l): ∀k,v.ownBlock=some k→B≤k∧k<w.heap.size:=by
 obtain⟨g,cap,cur,fz,rfl,h1,h2,h3⟩:=h
 intro k hk
 simp only[Value.ownBlock,Option.some.injEq] at hk
 subst hk
 exact⟨h1,(Array.getElem?_eq_some_iff.1 h2).1⟩
theorem OwnZ.cellsB {w:World}{l:List UInt8}{g:Nat}{cur:Array Value}{fz:Nat×Nat} (hh:w.heap[g]?=some (.cells cur 5 fz)) (ht:cur.toList.take l.length=byteCells l): ∀j u,(byteCells l)[j]?=some u→w.cell? ((⟨g,0,none⟩:Addr).add j)=some u:=by
 intro j u hu
 have hadd:(⟨g,0,none⟩:Addr).add j=⟨g,j,none⟩:=by unfold Addr.add;split<;>simp_all
 rw[hadd,cell_of_row w g j cur _ fz hh]
 rw[←ht,List.getElem?_take] at hu
 split at hu
 ·simpa using hu
 ·cases hu
theorem wpList_bytesZ {ops:Array Oper}{rest:List Oper}{o:Oper}{a:Act}{Q:Exit→Act→World→Prop} (hgd:o.guard=none) (s x:Operand)
  (ho:o.op= .call { callee:= .builtin .append,args:= #[s,x],argTypes:= #[83,83] })
  (B:Nat) (w:World) (v:Value) (l m:List UInt8) (hs:a.eval s=v) (hown:OwnZ B w v l) (cs:Array Value) (hx:a.eval x= .slice (some ⟨w.heap.size,0,none⟩) m.length m.length)
  (hcs:cs.toList=byteCells m) (hl:l.length+m.length≤8589934592) (hB:B≤w.heap.size)
  (h: ∀v' w',OwnZ B w' v' (l++m)→Below B w w'→wpList Tryz.prog ops Q rest (a.put o.dst v') w'):wpList Tryz.prog ops Q (o::rest) a (w.alloc (.cells cs 5)):=by
 obtain⟨i0,hi0,hz0,hz1,hz2⟩:=info_parts info_u8
 have hown1:=hown.alloc (.cells cs 5)
 have hlt:=hown.lt
 obtain⟨W,hW⟩: ∃W,w.alloc (.cells cs 5)=W:=⟨_,rfl⟩
 have hnw:=bytes_at w m cs 5 hcs
 have hbel:Below B w W:=by rw[←hW];exact(Below.refl B w).alloc hB _
 rw[hW] at hown1 hnw ⊢
 have hBW:B≤W.heap.size:=Nat.le_trans hB hbel.size
 have key: ∃v' w',(Builtin.append_ #[83,83] o.type #[v, .slice (some ⟨w.heap.size,0,none⟩) m.length m.length]).run Tryz.prog W= .ok v' w'∧OwnZ B w' v' (l++m)∧W.grownBy w' v.ownBlock:=by
  obtain⟨g,cap,cur,fz,rfl,hb,hh,hf,hn,hsz,ht⟩:=hown1
  by_cases hr:l.length+m.length≤cap
  ·obtain⟨h1,h2,h3⟩:=OwnZ.room (m:=m) hb hh hf hsz ht hr
   refine⟨_,_,?_,h2,h3⟩
   have hf:=run_firstCells_some (P:=Tryz.prog) W 1 m.length ⟨w.heap.size,0,none⟩ m.length m.length (byteCells m) (by rw[byteCells_length,Nat.mul_one]) hnw
   simp[Builtin.append_,run_underlying Tryz.underlying83,sizeOf,typeInfo,hi0,hz1,Builtin.lenOf,hr,hf,Addr.add_lit,h1]
  ·have hr1:=run_append_grow (P:=Tryz.prog) W 83 o.type 5 i0 _ Tryz.underlying83 hi0 hz0 ⟨g,0,none⟩ l.length cap (byteCells l) (by rw[byteCells_length,hz1,Nat.mul_one]) (OwnZ.cellsB hh ht) ⟨w.heap.size,0,none⟩ m.length m.length (byteCells m) (by rw[byteCells_length,hz1,Nat.mul_one]) hnw (by omega) (by omega) (by rw[hz2];exact growslice_fits (by omega) (by omega))
   obtain⟨h2,h3⟩:=OwnZ.grow (l:=l) (m:=m) hBW cap (Value.ownBlock (.slice (some ⟨g,0,none⟩) l.length cap))
   exact⟨_,_,hr1,h2,h3⟩
 obtain⟨v',w',hr,h2,h3⟩:=key
 refine wpList_plain hgd fun K hK=>?_
 unfold Oper.wp execOp
 simp only[ho,resolve,invoke,builtin,Sem.run_bind,Sem.run_pure,Result.andThen_ok,List.map_toArray,List.map_cons,List.map_nil,hs,hx,hr]
 exact hK _ _ (h v' w' h2 (hbel.grown h3 hBW (fun k hk=>(hlt k hk).1)))
theorem wpList_textZ {ops:Array Oper}{rest:List Oper}{o:Oper}{a:Act}{Q:Exit→Act→World→Prop} (hgd:o.guard=none) (s x:Operand)
  (ho:o.op= .call { callee:= .builtin .append,args:= #[s,x],argTypes:= #[83,9] })
  (B:Nat) (w:World) (v:Value) (l m:List UInt8) (hs:a.eval s=v) (hown:OwnZ B w v l) (hx:a.eval x= .string (bs m))
  (hl:l.length+m.length≤8589934592) (hB:B≤w.heap.size)
  (h: ∀v' w',OwnZ B w' v' (l++m)→Below B w w'→wpList Tryz.prog ops Q rest (a.put o.dst v') w'):wpList Tryz.prog ops Q (o::rest) a w:=by
 obtain⟨i0,hi0,hz0,hz1,hz2⟩:=info_parts info_u8
 have hlt:=hown.lt
 have hms:(bs m).size=m.length:=bs_size m
 have hsc:strCells (bs m)=byteCells m:=by rw[strCells_eq,bs_data]
 have key: ∃v' w',(Builtin.append_ #[83,9] o.type #[v, .string (bs m)]).run Tryz.prog w= .ok v' w'∧OwnZ B w' v' (l++m)∧w.grownBy w' v.ownBlock:=by
  obtain⟨g,cap,cur,fz,rfl,hb,hh,hf,hn,hsz,ht⟩:=hown
  by_cases hr:l.length+m.length≤cap
  ·obtain⟨h1,h2,h3⟩:=OwnZ.room (m:=m) hb hh hf hsz ht hr
   refine⟨_,_,?_,h2,h3⟩
   have hf:=run_firstCells_string (P:=Tryz.prog) w 1 (bs m)
   rw[hsc,hms] at hf
   simp[Builtin.append_,run_underlying Tryz.underlying83,run_underlying Tryz.underlying9,sizeOf,typeInfo,hi0,hz1,Builtin.lenOf,hms,hr,hf,Addr.add_lit,h1]
  ·have hr1:=run_append_grow_string (P:=Tryz.prog) w 83 9 o.type 5 i0 _ Tryz.underlying83 Tryz.underlying9 hi0 hz0 ⟨g,0,none⟩ l.length cap (byteCells l) (by rw[byteCells_length,hz1,Nat.mul_one]) (OwnZ.cellsB hh ht) (bs m) (by omega) (by omega) (by rw[hz2];exact growslice_fits (by omega) (by omega))
   rw[hsc,hms] at hr1
   obtain⟨h2,h3⟩:=OwnZ.grow (l:=l) (m:=m) hB cap (Value.ownBlock (.slice (some ⟨g,0,none⟩) l.length cap))
   exact⟨_,_,hr1,h2,h3⟩
 obtain⟨v',w',hr,h2,h3⟩:=key
 refine wpList_plain hgd fun K hK=>?_
 unfold Oper.wp execOp
 simp only[ho,resolve,invoke,builtin,Sem.run_bind,Sem.run_pure,Result.andThen_ok,List.map_toArray,List.map_cons,List.map_nil,hs,hx,hr]
 exact hK _ _ (h v' w' h2 ((Below.refl B w).grown h3 hB (fun k hk=>(hlt k hk).1)))
def Tabs (w:World):Prop:=Lib.Utf8Tabs 0 1 w
theorem Tabs.below {w w':World} (h:Tabs w) {B:Nat} (hB:0<B∧1<B) (hb:Below B w w'):Tabs w':=by
 obtain⟨h1,h2⟩:=h
 refine⟨fun c hc=>?_,fun i hi=>⟨?_,?_⟩⟩
 ·rw[hb.cell (p:=⟨_,c,none⟩) hB.1];exact h1 c hc
 ·rw[hb.cell (p:=⟨_,2*i,none⟩) hB.2];exact(h2 i hi).1
 ·rw[hb.cell (p:=⟨_,2*i+1,none⟩) hB.2];exact(h2 i hi).2
theorem Tabs.lt {w:World} (h:Tabs w):0<w.heap.size∧1<w.heap.size:=
 ⟨cell_lt (h.1 0 (by decide)),cell_lt (h.2 0 (by decide)).1⟩
theorem Tabs.keep {w w':World} (h:Tabs w) (hb:Below w.heap.size w w'):Tabs w':=h.below h.lt hb
theorem decodeGo_tail (s:ByteArray) (i:Nat) (hi:i<s.size):Lib.decodeGo (s.extract i s.size)=Utf8.decode s i:=by
 have hsz:(s.extract i s.size).size=s.size-i:=by rw[ByteArray.size_extract];omega
 unfold Lib.decodeGo
 rw[if_neg (by omega),Lib.tail_decode,Nat.add_zero]
theorem dec_at (s:ByteArray) (i:Nat) (w:World) (hi:i<s.size) (hT:Tabs w):
  Calls Tryz.prog 85 #[.string (s.extract i s.size)] w fun e w'=>e= .returned (.tuple #[.int .i32 (runeI s i), .int .i64 (widN s i)])∧Below w.heap.size w w':=by
 have h:=Tryz.utf8_DecodeRuneInString (s.extract i s.size) w hT
 rw[decodeGo_tail s i hi] at h
 exact h
end Go.Proofs.YtlibkhbachmcgaaGreatDoor
namespace Go.Proofs.YtlibkhbachmcgaaGreatDoor
set_option linter.unusedSimpArgs false
set_option linter.unusedVariables false
open Go.Lib
theorem encode_rune (r:Int):(Utf8.encode r).data.toList=Lib.encodeRune r:=by
 unfold Lib.encodeRune
 by_cases hv:Utf8.valid r=true
 ·have hv':=hv
  simp[Utf8.valid] at hv'
  obtain⟨m,rfl⟩: ∃m:Nat,r=m:=⟨r.toNat,by omega⟩
  unfold Utf8.encode
  simp only[hv,if_true,Int.toNat_natCast]
  by_cases h1:m<128
  ·rw[Lib.encodeRuneZ_one (by omega) (by omega),if_pos h1];rfl
  rw[if_neg h1]
  by_cases h2:m<2048
  ·rw[Lib.encodeRuneZ_two (by omega) (by omega),if_pos h2]
   simp only[List.map_cons,List.map_nil]
   rw[show (192+(m:Int) / 64).toNat=192+m / 64 by omega,show (128+(m:Int) % 64).toNat=128+m % 64 by omega]
  rw[if_neg h2]
  by_cases h3:m<65536
  ·rw[Lib.encodeRuneZ_three (by omega),if_pos h3]
   simp only[List.map_cons,List.map_nil]
   rw[show (224+(m:Int) / 4096).toNat=224+m / 4096 by omega,show (128+(m:Int) / 64 % 64).toNat=128+m / 64 % 64 by omega,show (128+(m:Int) % 64).toNat=128+m % 64 by omega]
  have e4:Lib.encodeRuneZ (m:Int)= [240+(m:Int) / 262144,128+(m:Int) / 4096 % 64,128+(m:Int) / 64 % 64,128+(m:Int) % 64]:=by
   unfold Lib.encodeRuneZ
   rw[if_neg (by omega),if_neg (by omega),if_neg (by omega),if_pos (by omega)]
  rw[if_neg h3,e4]
  simp only[List.map_cons,List.map_nil]
  rw[show (240+(m:Int) / 262144).toNat=240+m / 262144 by omega,show (128+(m:Int) / 4096 % 64).toNat=128+m / 4096 % 64 by omega,show (128+(m:Int) / 64 % 64).toNat=128+m / 64 % 64 by omega,show (128+(m:Int) % 64).toNat=128+m % 64 by omega]
 ·have hv':=hv
  simp[Utf8.valid] at hv'
  have e:Utf8.valid r=false:=by simpa using hv
  have e5:Lib.encodeRuneZ r= [239,191,189]:=by
   unfold Lib.encodeRuneZ
   rw[if_neg (by omega),if_neg (by omega),if_neg (by omega),if_neg (by omega)]
  rw[e5]
  unfold Utf8.encode
  simp only[e,Utf8.runeError,Bool.false_eq_true,if_false]
  decide
theorem enc_far (r:Int) (h1:128≤r) (h2:r≤1114111) (h3:r<55296∨57343<r):
  ∃n,(2≤n∧n≤4)∧(Utf8.encode r).size=n∧ ∀h:n-1<(Utf8.encode r).size,128≤((Utf8.encode r)[n-1]'h).toNat:=by
 have he:=encode_rune r
 have hx: ∀x:Int,0≤x→(128+x % 64).toNat.toUInt8.toNat=(128+x % 64).toNat:=fun x hx=>by
  rw[show (128+x % 64).toNat.toUInt8=UInt8.ofNat (128+x % 64).toNat from rfl,UInt8.toNat_ofNat']
  exact Nat.mod_eq_of_lt (by omega)
 have key: ∀(l:List UInt8) (n:Nat),(Utf8.encode r).data.toList=l→l.length=n→(∀c,l[n-1]?=some c→128≤c.toNat)→(Utf8.encode r).size=n∧ ∀h:n-1<(Utf8.encode r).size,128≤((Utf8.encode r)[n-1]'h).toNat:=by
  intro l n hl hn hc
  have hs:(Utf8.encode r).size=n:=by rw[←hn,←hl];rfl
  refine⟨hs,fun h=>hc _ ?_⟩
  have hd:n-1<(Utf8.encode r).data.size:=h
  rw[←hl,Array.getElem?_toList,Array.getElem?_eq_getElem hd];rfl
 by_cases g2:r≤2047
 ·refine⟨2,by omega,key _ 2 he ?_ ?_⟩
  ·unfold Lib.encodeRune;rw[Lib.encodeRuneZ_two h1 g2];rfl
  ·unfold Lib.encodeRune;rw[Lib.encodeRuneZ_two h1 g2]
   intro c hc
   simp only[List.map_cons,List.map_nil] at hc
   have:c=(128+r % 64).toNat.toUInt8:=by simpa using hc.symm
   rw[this,hx r (by omega)];omega
 by_cases g3:r≤65535
 ·refine⟨3,by omega,key _ 3 he ?_ ?_⟩
  ·unfold Lib.encodeRune;rw[Lib.encodeRuneZ_three (by omega)];rfl
  ·unfold Lib.encodeRune;rw[Lib.encodeRuneZ_three (by omega)]
   intro c hc
   simp only[List.map_cons,List.map_nil] at hc
   have:c=(128+r % 64).toNat.toUInt8:=by simpa using hc.symm
   rw[this,hx r (by omega)];omega
 ·have e4:Lib.encodeRuneZ r= [240+r / 262144,128+r / 4096 % 64,128+r / 64 % 64,128+r % 64]:=by
   unfold Lib.encodeRuneZ
   rw[if_neg (by omega),if_neg (by omega),if_neg (by omega),if_pos (by omega)]
  refine⟨4,by omega,key _ 4 he ?_ ?_⟩
  ·unfold Lib.encodeRune;rw[e4];rfl
  ·unfold Lib.encodeRune;rw[e4]
   intro c hc
   simp only[List.map_cons,List.map_nil] at hc
   have:c=(128+r % 64).toNat.toUInt8:=by simpa using hc.symm
   rw[this,hx r (by omega)];omega
end Go.Proofs.YtlibkhbachmcgaaGreatDoor
