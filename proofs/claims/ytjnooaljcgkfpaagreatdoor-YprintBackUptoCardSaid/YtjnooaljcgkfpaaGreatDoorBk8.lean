import Derived.Test.YtjnooaljcgkfpaaGreatDoorProg
import Derived.Test.YtjnooaljcgkfpaaGreatDoorBk1
import Derived.BigQuiet
import Derived.Deep.QuietTactic
import Derived.Lib.IndexBytes
import Derived.Deep.DeepCutAuto
import Derived.Lib.LaidTab
import Derived.Sort.Grow
set_option maxHeartbeats 4000000
namespace Go.Proofs.YtjnooaljcgkfpaaGreatDoor
set_option linter.unusedVariables false
set_option linter.unusedSimpArgs false
section
open Go.RowKit
open Go.Lib
theorem Ku (s:ByteArray) (p:Nat) (h:p<s.size) (hd:cT (s[p]'h)=true):bG s p=((s[p]'h).toNat:Int)/\bB s p=1:=by
 have h1:=of_decide_eq_true hd;have:=decode_ascii s p h (by omega);unfold bG bB;rw[this];exact⟨rfl,rfl⟩
theorem Xo (s:ByteArray) (p:Nat) (h:p<s.size) (hd:cT (s[p]'h)=false):bG s p<48\/57<bG s p:=by
 have h1: ¬(48<=(s[p]'h).toNat/\(s[p]'h).toNat<=57):=of_decide_eq_false hd;by_cases ha:(s[p]'h).toNat<128
 ·have:=decode_ascii s p h ha;unfold bG;rw[this];simp only[];omega
 ·have:=(decode_high s p h (by omega)).1;unfold bG;omega
def oN (s:ByteArray) (p:Nat):Prop:=(s.data.toList.take p).all cT=true
theorem oN.zero (s:ByteArray):oN s 0:=rfl
theorem Dw (s:ByteArray) (p:Nat) (h:p<s.size):s.data.toList.take (p+1)=s.data.toList.take p++ [s[p]'h]:=by
 rw[List.take_succ_eq_append_getElem (by simpa using h)];rfl
theorem oN.next {s:ByteArray}{p:Nat} (h:oN s p) (hp:p<s.size) (hd:cT (s[p]'hp)=true):oN s (p+1):=by
 unfold oN at *;rw[Dw s p hp,List.all_append,h,List.all_cons,hd];rfl
theorem oN.fin {s:ByteArray}{p:Nat} (h:oN s p) (hp:s.size<=p):fJ s.data.toList=!s.toList.isEmpty:=by
 unfold oN at h;rw[xH (by have:s.data.toList.length=s.size:=rfl;omega)] at h;unfold fJ;rw[h,Lib.toList_data,Bool.and_true]
theorem Xp {s:ByteArray}{p:Nat} (hp:p<s.size) (hd:cT (s[p]'hp)=false):fJ s.data.toList=false:=by
 unfold fJ;rw[Bool.and_eq_false_iff];right;rw[List.all_eq_false];exact⟨s[p]'hp,Array.getElem_mem_toList _,by rw[hd];simp⟩
theorem Kv (s:ByteArray) (w:World):
  Calls Tryz.prog 73 #[.string s] w λe w'=>e= .returned (.bool (fJ s.data.toList))/\Below w.heap.size w w':=by
 obtain⟨R,h⟩:=exQ<|fJ s.data.toList;rw[h];have i:=hid h;clear h;go_enter Tryz.func73,Tryz.ntmps73;go_wp2_with fail;go_loopw [4] (λ_ wr=> ∃p:Nat,p<=s.size/\Hid (oN s p)/\Hid (wr.heap[w.heap.size]?=some (.stringIter s p))/\Hid (Below w.heap.size w wr)) (λ_ wr=>s.size-wr.iterPos w.heap.size)
 case atStart=>exact⟨0,by omega,oN.zero s,World.iter_heap w s 0,(aB _ _).alloc (aD _) _⟩
 case round=>
  obtain⟨p,hp,k,f,j⟩:=hrel;by_cases hlt:p<s.size
  ·have hw:=pE s p hlt;have hrb:=rX s p;have d: ∀ty,(Instr.next (.pointer (some ⟨w.heap.size,0,none⟩)) true ty).run Tryz.prog wr= .ok (.tuple #[.bool true, .int .i64 p, .int .i32 (bG s p)]) (wr.iterAt w.heap.size s (p+bB s p)):=λty=>Lib.run_next_any_at wr _ s p ty f.out hlt;have b:=hid (Lib.iterAt_heap wr w.heap.size s p (p+bB s p) f.out);have a:=hid (Lib.below_iterAt j.out (aD w.heap.size) s (p+bB s p));have m:=hid (iterPos_of f.out);cases hd:cT (s[p]'hlt) with
   | true=>
    obtain⟨e1,e2⟩:=Ku s p hlt hd;have l:=hid (k.out.next hlt hd);have hb:=of_decide_eq_true hd;rw[e1,e2] at d;rw[e2] at b a;clear e1 e2 hd;go_wp2_with fail;go_roundw
    case rel=>exact⟨p+1,by omega,l.out,b.out,a.out⟩
    case measure=>rw[iterPos_of b.out,m.out];omega
   | false=>
    have c:=Xo s p hlt hd;have g:=hid (i.out.symm.trans (Xp hlt hd));clear hd;rcases c with c | c
    all_goals
     go_wp2_with fail;go_ret;exact⟨Cs g.out.symm,a.out⟩
  ·have d: ∀ty,(Instr.next (.pointer (some ⟨w.heap.size,0,none⟩)) true ty).run Tryz.prog wr= .ok (.tuple #[.bool false]) wr:=λty=>Lib.run_next_end_at wr _ s p ty f.out hlt;have g:=hid (i.out.symm.trans (k.out.fin (by omega)));go_wp2_with fail;go_ret;exact⟨Cs g.out.symm,j.out⟩
end
section
open Go.RowKit
open Go.Lib hiding intOf
theorem Xq {p:UInt8->Bool}{l:List UInt8} (h:l.all (λc=>!p c)=true):dJ p l=(l,[],false):=
 Tp p l λc a=>by have:=eH.1 h c a;simpa using this
theorem Xr {p:UInt8->Bool}{l:List UInt8}{k:Nat}{b:UInt8} (h:(l.take k).all (λc=>!p c)=true) (hb:l[k]?=some b) (hp:p b=true):dJ p l=(l.take k,l.drop (k+1),true):=by
 obtain⟨a,e⟩:=aP.1 hb;have d:l=l.take k++b::l.drop (k+1):=by
  rw[<-e,<-iJ a,mC]
 have:=Ia p (l.take k) b (l.drop (k+1)) (λc f=>by have:=eH.1 h c f;simpa using this) hp;rw[<-d] at this;exact this
def pR (p:UInt8->Bool) (s:ByteArray) (k:Nat):Prop:=(s.data.toList.take k).all (λc=>!p c)=true
theorem pR.next {p:UInt8->Bool}{s:ByteArray}{k:Nat} (h:pR p s k) (hk:k<s.size) (hp:p (s[k]'hk)=false):pR p s (k+1):=by
 unfold pR at *;rw[Dw s k hk,List.all_append,h,List.all_cons,hp];rfl
theorem pR.fin {p:UInt8->Bool}{s:ByteArray}{k:Nat} (h:pR p s k) (hk:s.size<=k):dJ p s.data.toList=(s.data.toList,[],false):=by
 unfold pR at h;rw[xH (by have:s.data.toList.length=s.size:=rfl;omega)] at h;exact Xq h
theorem pR.hit {p:UInt8->Bool}{s:ByteArray}{k:Nat} (h:pR p s k) (hk:k<s.size) (hp:p (s[k]'hk)=true):dJ p s.data.toList=(s.data.toList.take k,s.data.toList.drop (k+1),true):=
 Xr h (by rw[Array.getElem?_toList,Array.getElem?_eq_getElem hk];rfl) hp
def xI (R:List UInt8×List UInt8×Bool):Ending:= .returned (.tuple #[.string (bs R.1), .string (bs R.2.1), .bool R.2.2])
theorem Kw (s A:ByteArray) (p:UInt8->Bool) (w:World) (hp: ∀b,p b=decide (0<=Lib.indexByte A.data.toList b)) (hs:s.size<=4294967296):
  Calls Tryz.prog 120 #[.string s, .string A] w λe w'=>e=xI (dJ p s.data.toList)/\Below w.heap.size w w':=by
 obtain⟨R,l⟩:=exQ<|dJ p s.data.toList;rw[l];have m:=hid l;clear l;have n:=hid hp;clear hp;go_enter Tryz.func120,Tryz.ntmps120;go_wp2_with fail;go_loopw [10] (λi wr=> ∃k:Nat,k<=s.size/\i= .int .i64 k/\Hid (pR p s k)/\Hid (Below w.heap.size w wr)) (λi _=>s.size-(RowKit.intOf i).toNat)
 case atStart=>exact⟨0,by omega,rfl,rfl,aB _ _⟩
 case round=>
  obtain⟨k,hk,rfl,f,g⟩:=hrel;by_cases hlt:k<s.size
  ·have hlz:(k:Int)<(s.size:Int):=(by omega);have c:=wR A (s[k]'hlt);have a:=n.out (s[k]'hlt);cases hpp:p (s[k]'hlt) with
   | true=>
    have j:=hid (m.out.symm.trans (f.out.hit hlt hpp));rw[hpp] at a;have h:0<=Lib.indexByte A.data.toList (s[k]'hlt):=of_decide_eq_true a.symm;generalize Lib.indexByte A.data.toList (s[k]'hlt)=I at *;have d:=hid c;clear c hpp a;go_wp2_with (go_at_call 55;go_must (refine(d.out _).mono ?_);rintro e w' ⟨rfl,rfl⟩);go_quiet (fail);go_wp2_with fail;go_ret3;exact⟨by rw[j.out,Cu,Im];rfl,below_drewN g.out _⟩
   | false=>
    have o:=hid (f.out.next hlt hpp);rw[hpp] at a;have h:Lib.indexByte A.data.toList (s[k]'hlt)<0:=Int.not_le.1 (of_decide_eq_false a.symm);generalize Lib.indexByte A.data.toList (s[k]'hlt)=I at *;have d:=hid c;clear c hpp a;go_wp2_with (go_at_call 55;go_must (refine(d.out _).mono ?_);rintro e w' ⟨rfl,rfl⟩);go_roundw
    case rel=>exact⟨k+1,by omega,by go_num,o.out,g.out⟩
    case measure=>simp[RowKit.intOf];omega
  ·have j:=hid (m.out.symm.trans (f.out.fin (by omega)));go_wp2_with fail;go_ret3;exact⟨by rw[j.out];unfold xI;simp only[wN];rfl,g.out⟩
theorem Kx (s:ByteArray) (w:World) (R:Bool) (h:fJ s.data.toList=R):
  Calls Tryz.prog 73 #[.string s] w λe w'=>e= .returned (.bool R)/\Below w.heap.size w w':=by
 rw[<-h];exact Kv s w
theorem Xs {n:dS} (h:n≠fB) (h2: ¬qW n):jT n=false:=aJ (by rintro(a | a);exact h a;exact h2 a)
theorem Xt (s:ByteArray) (h:s.size-1<s.size):s.data.toList.getLast?=some (s[s.size-1]'h):=by
 rw[List.getLast?_eq_getElem?,Array.getElem?_toList];have a:s.data.toList.length=s.size:=rfl;rw[a,Array.getElem?_eq_getElem h];rfl
theorem Ky (b:UInt8):((b.toNat:Int)==48)=decide (b=48):=by
 by_cases h:b=48
 ·subst h;rfl
 ·rw[aJ h,aG];intro e;apply h;apply UInt8.toNat_inj.1;rw[show (48:UInt8).toNat=48 from rfl];omega
theorem Kz (neg:Bool) (d:ByteArray) (e:Int) (w:World) (hd:d.size<=9223372036854775807):
  Calls Tryz.prog 46 #[.agg #[.bool neg, .string d, .int .i64 e]] w λen w'=>en= .returned (.bool (jT ⟨neg,d.data.toList,e⟩))/\Below w.heap.size w w':=by
 have o:d.data.toList.length=d.size:=rfl;by_cases hn:(⟨neg,d.data.toList,e⟩:dS)=fB
 ·rw[hn,show jT fB=true from rfl];injection hn with k i q;subst k q;have h4:d.toList= []:=by rw[Lib.toList_data];exact i
  clear i o;go_enter Tryz.func46,Tryz.ntmps46;go_wp2_with fail;go_ret;exact⟨rfl,(aB _ _).alloc (aD _) _⟩
 ·have g:neg=true\/ ¬d.toList= []\/ ¬e=0:=by
   by_cases k:neg=true
   ·exact .inl k
   by_cases i:d.toList= []
   ·right;right;intro q;apply hn;rw[Lib.toList_data] at i;rw[i,q];cases neg<;>first | rfl | exact absurd rfl k
   ·exact .inr (.inl i)
  have a:=λi=>Xs (n:=⟨neg,d.data.toList,e⟩) hn i;have c:qW ⟨neg,d.data.toList,e⟩->jT ⟨neg,d.data.toList,e⟩=true:=λh=>aN (.inr h);generalize jT ⟨neg,d.data.toList,e⟩=R at *;have fin: ∀(D:Bool),fJ d.data.toList=D->(D=true->0<d.size):=by
   intro D k i;rw[i] at k;have:=(rW k).1;rcases Nat.eq_zero_or_pos d.size with h | h
   ·exact absurd (List.eq_nil_of_length_eq_zero (by omega)) this
   ·exact h
  cases hD:fJ d.data.toList with
  | false=>
   obtain rfl:=a (λh=>by have:=h.1;simp only[] at this;rw[hD] at this;cases this);have l:=hid (λw=>Kx d w false hD);clear a c fin hD hn;rcases g with g | g | g
   all_goals
    go_enter Tryz.func46,Tryz.ntmps46;go_wp2_with (go_at_call 73;go_must (refine(l.out _).mono ?_);rintro en w1 ⟨rfl,b⟩)
    all_goals go_ret
    all_goals exact⟨rfl,((aB _ _).alloc (aD _) _).trans (b.mono (by simp))⟩
  | true=>
   have m:=fin true hD rfl;have l:=hid (λw=>Kx d w true hD);have f:d.size-1<d.size:=(by omega);have e1:=zJ d m;have e2:=Xt d f;have b1:=Ky (d[0]'m);have b2:=Ky (d[d.size-1]'f);have hne: ¬d.toList= []:=by rw[Lib.toList_data];intro h;rw[h] at o;simp at o;omega
   have RP:qW ⟨neg,d.data.toList,e⟩↔d.size<=1000/\ ¬(d[0]'m)=48/\ ¬(d[d.size-1]'f)=48/\ -1000000<=e/\e<=1000000:=by
    unfold qW;simp only[hD,o,e1,e2,true_and,ne_eq,cP]
   clear fin hD hn g e1 e2;by_cases c1:d.size<=1000
   ·by_cases c2:(d[0]'m)=48
    ·obtain rfl:=a (λh=>(RP.1 h).2.1 c2);rw[aN c2] at b1;clear a c RP c2 b2;go_enter Tryz.func46,Tryz.ntmps46;go_wp2_with (go_at_call 73;go_must (refine(l.out _).mono ?_);rintro en w1 ⟨rfl,b⟩)
     all_goals go_ret
     all_goals exact⟨rfl,((aB _ _).alloc (aD _) _).trans (b.mono (by simp))⟩
    ·rw [aJ c2] at b1;by_cases c3:(d[d.size-1]'f)=48
     ·obtain rfl:=a (λh=>(RP.1 h).2.2.1 c3);rw[aN c3] at b2;clear a c RP c2 c3;go_enter Tryz.func46,Tryz.ntmps46;go_wp2_with (go_at_call 73;go_must (refine(l.out _).mono ?_);rintro en w1 ⟨rfl,b⟩)
      all_goals go_ret
      all_goals exact⟨rfl,((aB _ _).alloc (aD _) _).trans (b.mono (by simp))⟩
     ·rw[aJ c3] at b2;have s:R=decide (-1000000<=e/\e<=1000000):=by
       by_cases c4: -1000000<=e/\e<=1000000
       ·rw[aN c4];exact c (RP.2 ⟨c1,c2,c3,c4.1,c4.2⟩)
       ·rw[aJ c4];exact a (λh=>c4 (RP.1 h).2.2.2)
      have t:=hid s;clear a c RP c2 c3 s;have j:e< -1000000\/(-1000000<=e/\e<=1000000)\/(-1000000<=e/\1000000<e):=(by omega);rcases j with j | ⟨j,r⟩ | ⟨j,r⟩
      all_goals
       go_enter Tryz.func46,Tryz.ntmps46;go_wp2_with (go_at_call 73;go_must (refine(l.out _).mono ?_);rintro en w1 ⟨rfl,b⟩;obtain⟨hc1,hf1⟩:=Ij b);go_ret;refine⟨Cs ?_,((aB _ _).alloc (aD _) _).trans (b.mono (by simp))⟩;rw[t.out]
       first
        | (rw[aJ (p:= -1000000<=e/\e<=1000000) (by omega)];simp;omega)
        | (rw[aN (p:= -1000000<=e/\e<=1000000) (by omega)];simp;omega)
        | (rw[aJ (p:= -1000000<=e/\e<=1000000) (by omega)];simp)
        | (rw[aN (p:= -1000000<=e/\e<=1000000) (by omega)];simp)
        | (rw[aJ (p:= -1000000<=e/\e<=1000000) (by omega)])
        | (rw[aN (p:= -1000000<=e/\e<=1000000) (by omega)])
   ·obtain rfl:=a (λh=>c1 (RP.1 h).1);clear a c RP b1 b2;go_enter Tryz.func46,Tryz.ntmps46;go_wp2_with (go_at_call 73;go_must (refine(l.out _).mono ?_);rintro en w1 ⟨rfl,b⟩)
    all_goals go_ret
    all_goals exact⟨rfl,((aB _ _).alloc (aD _) _).trans (b.mono (by simp))⟩
theorem Dx (l:List UInt8) (c:UInt8):Lib.hasPrefix l [c]=(l.head?==some c)/\Lib.trimPrefix l [c]=if l.head?=some c then l.drop 1 else l:=by
 cases l with
 | nil=>simp[Lib.hasPrefix,Lib.trimPrefix]
 | cons x t=>
  by_cases h:x=c
  ·subst h;simp[Lib.hasPrefix,Lib.trimPrefix]
  ·have e1:(c==x)=false:=aG.2 (Ne.symm h);have e2:(x==c)=false:=aG.2 h;simp[Lib.hasPrefix,Lib.trimPrefix,h,List.isPrefixOf,e1,e2]
theorem La (l:List UInt8) (w:World):
  Calls Tryz.prog 119 #[.string (bs l), .string ⟨#[45]⟩] w λe w'=>e= .returned (.tuple #[.string (bs (gO l)), .bool (l.head?==some 45)])/\w=w':=by
 have h:=Tryz.strings_CutPrefix (bs l) ⟨#[45]⟩ w;rw[aW,show (⟨#[45]⟩:ByteArray).data.toList= [45] from rfl,(Dx l 45).1,(Dx l 45).2] at h;exact h.mono λ_ _ ⟨a,b⟩=>⟨a,b.symm⟩
theorem Xu (l:List UInt8) (w:World) (h:l.head?≠some 45):
  Calls Tryz.prog 121 #[.string (bs l), .string ⟨#[43]⟩] w λe w'=>e= .returned (.string (bs (iY l)))/\w=w':=by
 have c:=Tryz.strings_TrimPrefix (bs l) ⟨#[43]⟩ w;rw[aW,show (⟨#[43]⟩:ByteArray).data.toList= [43] from rfl,(Dx l 43).2] at c;have e:iY l=if l.head?=some 43 then l.drop 1 else l:=by unfold iY;simp[h]
 rw[<-e] at c;exact c.mono λ_ _ ⟨a,b⟩=>⟨a,b.symm⟩
theorem Xv {l:List UInt8} (h:(l.head?==some 45)=false):gO l=l/\l.head?≠some 45:=by
 have a:l.head?≠some 45:=aG.1 h;unfold gO;rw[if_neg a];exact⟨rfl,a⟩
theorem Xw {l:List UInt8} (h:(l.head?==some 45)=true):iY l=gO l:=by
 have a:l.head?=some 45:=beq_iff_eq.1 h;unfold gO iY;rw[if_pos a,if_pos (.inl a)]
theorem Xx (l:List UInt8) (w:World) (hs:l.length<=4294967296):
  Calls Tryz.prog 120 #[.string (bs l), .string ⟨#[101,69]⟩] w λe w'=>e=xI (dJ kH l)/\Below w.heap.size w w':=by
 have h:=Kw (bs l) ⟨#[101,69]⟩ kH w (λb=>by
  show (b==101||b==69)=decide (0<=Lib.indexByte [101,69] b);unfold Lib.indexByte Lib.indexByte Lib.indexByte;by_cases h1:b=101
  ·subst h1;decide
  ·by_cases h2:b=69
   ·subst h2;decide
   ·have e1:(101==b)=false:=aG.2 (Ne.symm h1);have e2:(69==b)=false:=aG.2 (Ne.symm h2);simp[h1,h2,e1,e2]) (by rw[aQ];exact hs)
 rw[aW] at h;exact h
theorem Xy (l:List UInt8) (w:World) (hs:l.length<=4294967296):
  Calls Tryz.prog 120 #[.string (bs l), .string ⟨#[46]⟩] w λe w'=>e=xI (dJ rV l)/\Below w.heap.size w w':=by
 have h:=Kw (bs l) ⟨#[46]⟩ rV w (λb=>by
  show (b==46)=decide (0<=Lib.indexByte [46] b);unfold Lib.indexByte Lib.indexByte;by_cases h1:b=46
  ·subst h1;decide
  ·have e1:(46==b)=false:=aG.2 (Ne.symm h1);simp[h1,e1]) (by rw[aQ];exact hs)
 rw[aW] at h;exact h
theorem Dy (l:List UInt8) (w:World) (R:Bool) (h:fJ l=R):
  Calls Tryz.prog 73 #[.string (bs l)] w λe w'=>e= .returned (.bool R)/\Below w.heap.size w w':=by
 have:=Kv (bs l) w;rw[aW,h] at this;exact this
def Xz (l:List UInt8) (e:Ending):Prop:= ∃(n lo:Bool) (a b c:List UInt8) (is:Bool),e= .returned (.tuple #[.agg #[.bool n, .bool lo, .string (bs a), .string (bs b), .string (bs c)], .bool is])/\
 lM l=if is then some ⟨n,a,b,lo,c⟩ else none
theorem Lb (l:List UInt8):(gO l).length<=l.length:=by unfold gO;split<;>simp
theorem Lc (p:UInt8->Bool) (l:List UInt8):(dJ p l).1.length<=l.length:=by
 unfold dJ;split
 ·exact aD _
 ·exact(List.takeWhile_sublist _).length_le
theorem sK {w:World}{g:Nat}{t:TypeId}{cs:Array Value} (h:w.heap[g]?=some (.cells cs t (0,0))) (i:Nat):w.cell? ⟨g,i,none⟩=cs[i]?:=cell_of_row w g i cs t (0,0) h
theorem sL {w:World}{g:Nat}{t:TypeId}{cs:Array Value} (h:w.heap[g]?=some (.cells cs t (0,0))) (i:Nat):w.frozen? ⟨g,i,none⟩=false:=by simp[World.frozen?,h]
theorem eB {w:World}{g:Nat}{t:TypeId}{cs:Array Value} (h:w.heap[g]?=some (.cells cs t (0,0))) (i:Nat) (u:Value):(w.setCell ⟨g,i,none⟩ u).heap[g]?=some (.cells (cs.setIfInBounds i u) t (0,0)):=by
 simp[World.setCell,Array.getElem?_modify,h]
theorem kJ {B:Nat}{W w:World} (h:Below B W w) {k o:Nat}{v:Value} (hk:B<=k):Below B W (w.setCell ⟨k,o,none⟩ v):=h.setCell (p:=⟨k,o,none⟩) hk v
theorem sM {w:World}{g:Nat}{t:TypeId}{a b c d e:Value} (h:w.heap[g]?=some (.cells #[a,b,c,d,e] t (0,0))):
  w.cell? ⟨g,0,none⟩=some a/\w.cell? ⟨g,1,none⟩=some b/\w.cell? ⟨g,2,none⟩=some c/\w.cell? ⟨g,3,none⟩=some d/\w.cell? ⟨g,4,none⟩=some e/\
  w.frozen? ⟨g,0,none⟩=false/\w.frozen? ⟨g,1,none⟩=false/\w.frozen? ⟨g,2,none⟩=false/\w.frozen? ⟨g,3,none⟩=false/\w.frozen? ⟨g,4,none⟩=false:=
 ⟨sK h 0,sK h 1,sK h 2,sK h 3,sK h 4,sL h 0,sL h 1,sL h 2,sL h 3,sL h 4⟩
def Ya (has:Bool) (x:List UInt8) (lo:Bool) (xf:List UInt8):Prop:=(has=true->fJ xf=true)/\xf=(if has then iY x else [])/\lo=(has&&x.head?==some 45)
theorem Yb (l:List UInt8) (w:World) (hs:l.length<=4294967296):
  Calls Tryz.prog 75 #[.string (bs l)] w λe w'=>Xz l e/\Below w.heap.size w w':=by
 have hu:=Lb l;have c1:=La l;have c2:=λw=>Xx (gO l) w (by omega);have hm:=Lc kH (gO l);obtain⟨m,x,c,W⟩: ∃m x c,dJ kH (gO l)=(m,x,c):=⟨_,_,_,rfl⟩;rw[W] at c2 hm;simp only[] at hm;have c6:=λw=>Xy m w (by omega);obtain⟨wh,rs,pt,hd⟩: ∃wh rs pt,dJ rV m=(wh,rs,pt):=⟨_,_,_,rfl⟩;rw[hd] at c6;have B:lM l=if tE c pt (if c then iY x else []) wh rs then some ⟨l.head?==some 45,wh,rs,c&&x.head?==some 45,if c then iY x else []⟩ else none:=by
  unfold lM;simp only[W,hd]
 obtain⟨ng,S⟩:=exQ (l.head?==some 45);rw[S] at c1 B;have C1:=hid c1;have C2:=hid c2;have C6:=hid c6;have HL:=hid B;have Q:c=false->x= []:=λh=>(Id (h ▸ W)).2;have aa:=hid Q;clear c1 c2 c6 W hd B S Q;have u: ∃D2,fJ wh=D2:=⟨_,rfl⟩;obtain⟨D2,u⟩:=u;have C7:=hid (λw=>Dy wh w D2 u);have A: ∃D3,fJ rs=D3:=⟨_,rfl⟩;obtain⟨D3,A⟩:=A;have C8:=hid (λw=>Dy rs w D3 A);have I:D2=true->0<(bs wh).size:=λh=>by
  have:=(rW (u.trans h)).1;rw[aQ];cases wh with
  | nil=>exact absurd rfl this
  | cons _ _=>simp
 have ad:=hid u;have ab:=hid A;clear u A;have o: ∀h:0<(bs wh).size,wh.head?=some ((bs wh)[0]'h):=λh=>by have:=zJ (bs wh) h;rw[aW] at this;exact this
 have T:=hid (show (bs wh).toList=wh by rw[Lib.toList_data,aW]);obtain⟨Wh,C⟩:=exQ<|bs wh;have t:=hid C;have HF:=hid o;clear o;rw[C] at T I HF;have C7':=hid (show ∀w,Calls Tryz.prog 73 #[.string Wh] w λe w'=>e= .returned (.bool D2)/\Below w.heap.size w w' from by rw[<-C];exact C7.out);have C6':=hid (show ∀w,Calls Tryz.prog 120 #[.string (bs m), .string ⟨#[46]⟩] w λe w'=>e= .returned (.tuple #[.string Wh, .string (bs rs), .bool pt])/\Below w.heap.size w w' from by rw[<-C];exact C6.out);clear C6 C7 C;go_enter Tryz.func75,Tryz.ntmps75;go_wp2_with (go_at_call 119;go_must (refine(C1.out _).mono ?_);rintro e w' ⟨rfl,rfl⟩);refine(C2.out _).mono ?_;rintro e w1 ⟨rfl,F⟩;unfold xI;have r:=hid ((F.block w.heap.size (by simp)).trans (heap_alloc_new w _));obtain⟨a0,a1,a2,a3,a4,f0,f1,f2,f3,f4⟩:=sM r.out;have G:w.heap.size<w1.heap.size:=by have:=F.size;simp at this;omega
 have D:=hid (((aB w.heap.size w).alloc (aD _) _).trans (F.mono (by simp)));clear F;go_upto_if 21 with(fail);have y: ∀xf,xf=(if c then iY x else [])->c=true->fJ xf=false->lM l=none:=λxf Z O U=>by
  rw[HL.out,<-Z];unfold tE;rw[O,U];simp
 have P:=hid y;clear y;go_cut [4] (λs4 wx=> ∃(lo:Bool) (xf:List UInt8),s4= .string (bs xf)/\Ya c x lo xf/\
   Hid (wx.heap[w.heap.size]?=some (.cells #[.bool ng, .bool lo, .string ⟨#[]⟩, .string ⟨#[]⟩, .string ⟨#[]⟩] 110 (0,0)))/\Hid (Below w.heap.size w wx))
 case first=>
  cases c with
  | false=>
   have hx:=hid (aa.out rfl);go_wp2_with fail;go_meet;exact⟨false,x,rfl,⟨λh=>(by cases h),hx.out,rfl⟩,r.out,D.out⟩
  | true=>
   obtain⟨lo,j⟩:=exQ (x.head?==some 45);have c3:=La x;rw[j] at c3;have C3:=hid c3;clear c3;have C5:=hid (λw=>Dy (iY x) w _ rfl);cases lo with
   | true=>
    have q:=Xw j;have HXE:=hid q;rw[<-q] at C3;clear q;have f:=hid j;clear j;cases hD:fJ (iY x) with
    | true=>
     rw[hD] at C5;have HD:=hid hD;clear hD;go_wp2_with (go_at_call 119;go_must (refine(C3.out _).mono ?_);rintro e w' ⟨rfl,rfl⟩);refine(C5.out _).mono ?_;rintro e w2 ⟨rfl,a⟩;have d:Hid (w2.heap[w.heap.size]?=some (.cells #[.bool ng, .bool true, .string ⟨#[]⟩, .string ⟨#[]⟩, .string ⟨#[]⟩] 110 (0,0))):=(a.block w.heap.size (by simp[World.setCell];exact G)).trans (eB r.out 1 _);have g:=hid ((D.out.setCell (p:=⟨w.heap.size,1,none⟩) (aD _) (.bool true)).trans (a.mono (by simp[World.setCell];omega)));clear a;go_wp2_with fail;go_meet;exact⟨true,iY x,rfl,⟨λ_=>HD.out,rfl,by rw[f.out];rfl⟩,d.out,g.out⟩
    | false=>
     rw[hD] at C5;have k:=hid (P.out (iY x) rfl rfl hD);clear hD;go_wp2_with (go_at_call 119;go_must (refine(C3.out _).mono ?_);rintro e w' ⟨rfl,rfl⟩);refine(C5.out _).mono ?_;rintro e w2 ⟨rfl,a⟩;have d:Hid (w2.heap[w.heap.size]?=some (.cells #[.bool ng, .bool true, .string ⟨#[]⟩, .string ⟨#[]⟩, .string ⟨#[]⟩] 110 (0,0))):=(a.block w.heap.size (by simp[World.setCell];exact G)).trans (eB r.out 1 _);have g:=hid ((D.out.setCell (p:=⟨w.heap.size,1,none⟩) (aD _) (.bool true)).trans (a.mono (by simp[World.setCell];omega)));clear a a0 a1 a2 a3 a4 f0 f1 f2 f3 f4;obtain⟨a0,a1,a2,a3,a4,f0,f1,f2,f3,f4⟩:=sM d.out;go_wp2_with fail;refine bodyPost_ret (v:= .tuple #[.agg #[.bool ng, .bool true, .string ⟨#[]⟩, .string ⟨#[]⟩, .string ⟨#[]⟩], .bool false]) ?_ rfl ⟨⟨ng,true,[],[],[],false,rfl,?_⟩,?_⟩
     ·simp[results,Tryz.results75,go_sem,a0,a1,a2,a3,a4]
     ·exact k.out
     ·repeat (first | refine kJ ?_ (aD _) | refine Below.drew ?_)
      exact g.out
   | false=>
    obtain⟨q,H⟩:=Xv j;rw[q] at C3;have C4:=hid (λw=>Xu x w H);clear q H;have f:=hid j;clear j;cases hD:fJ (iY x) with
    | true=>
     rw[hD] at C5;have HD:=hid hD;clear hD;go_wp2_with (first | (go_at_call 119;go_must (refine(C3.out _).mono ?_);rintro e w' ⟨rfl,rfl⟩) | (go_at_call 121;go_must (refine(C4.out _).mono ?_);rintro e w' ⟨rfl,rfl⟩));refine(C5.out _).mono ?_;rintro e w2 ⟨rfl,a⟩;have d:Hid (w2.heap[w.heap.size]?=some (.cells #[.bool ng, .bool false, .string ⟨#[]⟩, .string ⟨#[]⟩, .string ⟨#[]⟩] 110 (0,0))):=(a.block w.heap.size (by simp[World.setCell];exact G)).trans (eB r.out 1 _);have g:=hid ((D.out.setCell (p:=⟨w.heap.size,1,none⟩) (aD _) (.bool false)).trans (a.mono (by simp[World.setCell];omega)));clear a;go_wp2_with fail;go_meet;exact⟨false,iY x,rfl,⟨λ_=>HD.out,rfl,by rw[f.out];rfl⟩,d.out,g.out⟩
    | false=>
     rw[hD] at C5;have k:=hid (P.out (iY x) rfl rfl hD);clear hD;go_wp2_with (first | (go_at_call 119;go_must (refine(C3.out _).mono ?_);rintro e w' ⟨rfl,rfl⟩) | (go_at_call 121;go_must (refine(C4.out _).mono ?_);rintro e w' ⟨rfl,rfl⟩));refine(C5.out _).mono ?_;rintro e w2 ⟨rfl,a⟩;have d:Hid (w2.heap[w.heap.size]?=some (.cells #[.bool ng, .bool false, .string ⟨#[]⟩, .string ⟨#[]⟩, .string ⟨#[]⟩] 110 (0,0))):=(a.block w.heap.size (by simp[World.setCell];exact G)).trans (eB r.out 1 _);have g:=hid ((D.out.setCell (p:=⟨w.heap.size,1,none⟩) (aD _) (.bool false)).trans (a.mono (by simp[World.setCell];omega)));clear a a0 a1 a2 a3 a4 f0 f1 f2 f3 f4;obtain⟨a0,a1,a2,a3,a4,f0,f1,f2,f3,f4⟩:=sM d.out;go_wp2_with fail;refine bodyPost_ret (v:= .tuple #[.agg #[.bool ng, .bool false, .string ⟨#[]⟩, .string ⟨#[]⟩, .string ⟨#[]⟩], .bool false]) ?_ rfl ⟨⟨ng,false,[],[],[],false,rfl,?_⟩,?_⟩
     ·simp[results,Tryz.results75,go_sem,a0,a1,a2,a3,a4]
     ·exact k.out
     ·repeat (first | refine kJ ?_ (aD _) | refine Below.drew ?_)
      exact g.out
 case rest=>
  obtain⟨lo,xf,rfl,HX,M,V⟩:=hcut;have R:=hid HX;clear HX;have LITo: ∀b:Bool,tE c pt xf wh rs=b->lM l=if b then some ⟨ng,wh,rs,lo,xf⟩ else none:=λb hb=>by
   obtain⟨_,O,U⟩:=R.out;rw[HL.out,<-O,<-U,hb]
  have LITx: ∀b2 b3:Bool,D2=b2->(!pt||D3)=b3-> ∀b4:Bool,((wh== [48])||(wh.head? !=some 48))=b4->tE c pt xf wh rs=(b2&&b3&&b4):=λb2 b3 O U b4 h4=>by
   obtain⟨Z,_,_⟩:=R.out;unfold tE;rw[ad.out,ab.out,O,U,h4];cases c with
   | false=>rfl
   | true=>rw[Z rfl];rfl
  have f:=hid LITo;have s:=hid LITx;clear LITo LITx;have ae:w.heap.size<wc.heap.size:=aE M;have N:=hid M;have Y:=hid V;clear M V a0 a1 a2 a3 a4 f0 f1 f2 f3 f4;obtain⟨a0,a1,a2,a3,a4,f0,f1,f2,f3,f4⟩:=sM N.out;go_wp2_with fail;refine(C6'.out _).mono ?_;rintro e w2 ⟨rfl,a⟩;have d:Hid (w2.heap[w.heap.size]?=some (.cells #[.bool ng, .bool lo, .string ⟨#[]⟩, .string ⟨#[]⟩, .string (bs xf)] 110 (0,0))):=(a.block w.heap.size (by simp[World.setCell];exact ae)).trans (eB N.out 4 _);have ah:w.heap.size<w2.heap.size:=aE d.out;have g:=hid ((Y.out.setCell (p:=⟨w.heap.size,4,none⟩) (aD _) (.string (bs xf))).trans (a.mono (by simp[World.setCell];omega)));clear a a0 a1 a2 a3 a4 f0 f1 f2 f3 f4;obtain⟨a0,a1,a2,a3,a4,f0,f1,f2,f3,f4⟩:=sM d.out;go_wp2_with fail;refine(C7'.out _).mono ?_;rintro e w3 ⟨rfl,L⟩;have K:Hid (w3.heap[w.heap.size]?=some (.cells #[.bool ng, .bool lo, .string Wh, .string (bs rs), .string (bs xf)] 110 (0,0))):=(L.block w.heap.size (by simp[World.setCell];exact ah)).trans (eB (eB d.out 2 _) 3 _);have af:w.heap.size<w3.heap.size:=aE K.out;have E:=hid (((g.out.setCell (p:=⟨w.heap.size,2,none⟩) (aD _) (.string Wh)).setCell (p:=⟨w.heap.size,3,none⟩) (aD _) (.string (bs rs))).trans (L.mono (by simp[World.setCell];omega)));clear L a0 a1 a2 a3 a4 f0 f1 f2 f3 f4;obtain⟨a0,a1,a2,a3,a4,f0,f1,f2,f3,f4⟩:=sM K.out;cases D2 with
  | false=>
   have k:=hid (f.out false ((s.out false _ rfl rfl _ rfl).trans (by simp)));go_wp2_with fail;refine bodyPost_ret (v:= .tuple #[.agg #[.bool ng, .bool lo, .string Wh, .string (bs rs), .string (bs xf)], .bool false]) ?_ rfl ⟨⟨ng,lo,wh,rs,xf,false,by rw[t.out],?_⟩,?_⟩
   ·simp[results,Tryz.results75,go_sem,a0,a1,a2,a3,a4]
   ·exact k.out
   ·repeat (first | refine kJ ?_ (aD _) | refine Below.drew ?_)
    exact E.out
  | true=>
   have X:=I rfl;have hpz:(0:Int)<(Wh.size:Int):=(by omega);obtain⟨b4,i,n⟩: ∃b4,((wh== [48])||(wh.head? !=some 48))=b4/\((Wh.toList== [48])=true/\b4=true\/(Wh.toList== [48])=false/\(((Wh[0]'X).toNat:Int) !=48)=b4):=by
    refine⟨_,rfl,?_⟩;have hh:=HF.out X;rw[T.out,hh];by_cases g1:wh= [48]
    ·left;rw[g1];exact⟨rfl,rfl⟩
    ·right;rw[aG.2 g1];refine⟨rfl,?_⟩;rw[Bool.false_or];by_cases g2:(Wh[0]'X)=48
     ·rw[g2];rfl
     ·rw[show (((Wh[0]'X).toNat:Int) !=48)=true from by rw[gP];intro h;apply g2;apply UInt8.toNat_inj.1;rw[show (48:UInt8).toNat=48 from rfl];omega];symm;rw[gP];intro h;exact g2 (bC h)
   cases pt with
   | false=>
    rcases n with⟨e1,rfl⟩ | ⟨e1,e2⟩
    ·have k:=hid (f.out true ((s.out true true rfl rfl _ i).trans rfl));clear i;go_wp2_with fail;go_region
     all_goals go_wp2_with fail
     all_goals
      refine bodyPost_ret (v:= .tuple #[.agg #[.bool ng, .bool lo, .string Wh, .string (bs rs), .string (bs xf)], .bool true]) ?_ rfl ⟨⟨ng,lo,wh,rs,xf,true,by rw[t.out],?_⟩,?_⟩
      ·simp[results,Tryz.results75,go_sem,a0,a1,a2,a3,a4]
      ·exact k.out
      ·repeat (first | refine kJ ?_ (aD _) | refine Below.drew ?_)
       exact E.out
    ·have k:=hid (f.out b4 ((s.out true true rfl rfl _ i).trans (by simp)));clear i;go_wp2_with fail;go_region
     all_goals go_wp2_with fail
     all_goals
      refine bodyPost_ret (v:= .tuple #[.agg #[.bool ng, .bool lo, .string Wh, .string (bs rs), .string (bs xf)], .bool b4]) ?_ rfl ⟨⟨ng,lo,wh,rs,xf,b4,by rw[t.out],?_⟩,?_⟩
      ·simp[results,Tryz.results75,go_sem,a0,a1,a2,a3,a4]
      ·exact k.out
      ·repeat (first | refine kJ ?_ (aD _) | refine Below.drew ?_)
       exact E.out
   | true=>
    go_wp2_with fail;refine(C8.out _).mono ?_;rintro e w4 ⟨rfl,z⟩;have ag:Hid (w4.heap[w.heap.size]?=some (.cells #[.bool ng, .bool lo, .string Wh, .string (bs rs), .string (bs xf)] 110 (0,0))):=(z.block w.heap.size af).trans K.out;have J:=hid (E.out.trans (z.mono (by omega)));clear z a0 a1 a2 a3 a4 f0 f1 f2 f3 f4;obtain⟨a0,a1,a2,a3,a4,f0,f1,f2,f3,f4⟩:=sM ag.out;cases D3 with
    | false=>
     have k:=hid (f.out false ((s.out true false rfl rfl _ rfl).trans (by simp)));clear n i;go_wp2_with fail;refine bodyPost_ret (v:= .tuple #[.agg #[.bool ng, .bool lo, .string Wh, .string (bs rs), .string (bs xf)], .bool false]) ?_ rfl ⟨⟨ng,lo,wh,rs,xf,false,by rw[t.out],?_⟩,?_⟩
     ·simp[results,Tryz.results75,go_sem,a0,a1,a2,a3,a4]
     ·exact k.out
     ·repeat (first | refine kJ ?_ (aD _) | refine Below.drew ?_)
      exact J.out
    | true=>
     rcases n with⟨e1,rfl⟩ | ⟨e1,e2⟩
     ·have k:=hid (f.out true ((s.out true true rfl rfl _ i).trans rfl));clear i;go_wp2_with fail;go_region
      all_goals go_wp2_with fail
      all_goals
       refine bodyPost_ret (v:= .tuple #[.agg #[.bool ng, .bool lo, .string Wh, .string (bs rs), .string (bs xf)], .bool true]) ?_ rfl ⟨⟨ng,lo,wh,rs,xf,true,by rw[t.out],?_⟩,?_⟩
       ·simp[results,Tryz.results75,go_sem,a0,a1,a2,a3,a4]
       ·exact k.out
       ·repeat (first | refine kJ ?_ (aD _) | refine Below.drew ?_)
        exact J.out
     ·have k:=hid (f.out b4 ((s.out true true rfl rfl _ i).trans (by simp)));clear i;go_wp2_with fail;go_region
      all_goals go_wp2_with fail
      all_goals
       refine bodyPost_ret (v:= .tuple #[.agg #[.bool ng, .bool lo, .string Wh, .string (bs rs), .string (bs xf)], .bool b4]) ?_ rfl ⟨⟨ng,lo,wh,rs,xf,b4,by rw[t.out],?_⟩,?_⟩
       ·simp[results,Tryz.results75,go_sem,a0,a1,a2,a3,a4]
       ·exact k.out
       ·repeat (first | refine kJ ?_ (aD _) | refine Below.drew ?_)
        exact J.out
theorem Ld (l:List UInt8) (w:World):
  Calls Tryz.prog 76 #[.string (bs l), .string ⟨#[48]⟩] w λe w'=>e= .returned (.string (bs (jL l)))/\w=w':=by
 have h:=Tryz.strings_TrimLeft_one (bs l) 48 (by decide) w;rw[aW] at h;exact h.mono λ_ _ ⟨a,b⟩=>⟨a,b.symm⟩
theorem Yc (l:List UInt8) (w:World) (hl:l.length<=9223372036854775807):
  Calls Tryz.prog 77 #[.string (bs l), .string ⟨#[48]⟩] w λe w'=>e= .returned (.string (bs (dK l)))/\w=w':=by
 have h:=Tryz.strings_TrimRight_one (bs l) 48 (by decide) w (by rw[aQ];exact hl);rw[aW] at h;exact h.mono λ_ _ ⟨a,b⟩=>⟨a,b.symm⟩
theorem Yd (p:UInt8->Bool) (l:List UInt8):(dJ p l).1.length+(dJ p l).2.1.length<=l.length:=by
 have h:=congrArg List.length (List.takeWhile_append_dropWhile (p:=λc=>!p c) (l:=l));rw[aI] at h;unfold dJ;split
 ·simp
 ·rename_i e;rw[e] at h;simp only[aL] at h;simp only[];omega
theorem Ye {l:List UInt8}{x:uW} (h:lM l=some x):x.whole.length+x.rest.length<=l.length:=by
 unfold lM at h;simp only[] at h;generalize (if(dJ kH (gO l)).2.2=true then iY (dJ kH (gO l)).2.1 else [])=xx at h;split at h
 ·injection h with h;subst h;have h1:=Yd rV (dJ kH (gO l)).1;have h2:=Lc kH (gO l);have h3:=Lb l;simp only[];omega
 ·cases h
theorem Yf {x:uW}{k:Int}{D:List UInt8} (h1:fJ x.whole=true) (h2:x.rest.all cT=true) (hlen: ¬1000<x.whole.length+x.rest.length) (hD:jL (x.whole++x.rest)=D) (hd:D≠ []):
  jT ⟨x.neg,dK D,k⟩=decide (¬(k< -1000000\/1000000<k)):=by
 have a:D.all cT=true:=hD ▸ Cq (by rw[List.all_append,bV];exact⟨(rW h1).2,h2⟩);have b:=If (l:=D) (hD ▸ Ig _) hd;have hl1:D.length<=x.whole.length+x.rest.length:=by
  have:=(List.dropWhile_sublist (p:=λc:UInt8=>c==48) (l:=x.whole++x.rest)).length_le;rw[aI] at this;exact hD ▸ this
 have d:=congrArg List.length (wO D);rw[aI] at d;unfold jT;apply decide_eq_decide.2;constructor
 ·rintro(h | h)
  ·injection h with _ h _;exact absurd h b.1
  ·have e:=h.2.2.2.2;simp only[] at e;omega
 ·intro h;exact .inr ⟨Ie b.1 (Ih a),by show (dK D).length<=1000;omega,b.2,Ic _,by simp only[];omega,by simp only[];omega⟩
def fQ (n:dS):Value:= .agg #[.bool n.neg, .string (bs n.dig), .int .i64 n.exp]
def tT (r:dS×Int):Ending:= .returned (.tuple #[fQ r.1, .int .i64 r.2])
theorem kK {w:World}{g:Nat}{t:TypeId}{a b c:Value} (h:w.heap[g]?=some (.cells #[a,b,c] t (0,0))):
  w.cell? ⟨g,0,none⟩=some a/\w.cell? ⟨g,1,none⟩=some b/\w.cell? ⟨g,2,none⟩=some c/\
  w.frozen? ⟨g,0,none⟩=false/\w.frozen? ⟨g,1,none⟩=false/\w.frozen? ⟨g,2,none⟩=false:=
 ⟨sK h 0,sK h 1,sK h 2,sL h 0,sL h 1,sL h 2⟩
theorem xJ (l:List UInt8) (w:World) (hs:l.length<=4294967296):
  Calls Tryz.prog 48 #[.string (bs l)] w λe w'=>e=tT (cO l)/\Below w.heap.size w w':=by
 obtain⟨R,hR⟩:=exQ<|cO l;rw[hR];have HR:=hid hR;clear hR;have CR:=hid (λw=>Yb l w hs);go_enter Tryz.func48,Tryz.ntmps48;go_wp2_with fail;refine(CR.out _).mono ?_;rintro e w1 ⟨⟨n,lo,a,b,c,is,rfl,i⟩,U⟩;have HL:=hid i;clear i;have C1:=hid (Ld c);have I:=hid (((aB w.heap.size w).alloc (aD _) _).trans (U.mono (by simp)));have t:=hid ((U.block w.heap.size (by simp)).trans (heap_alloc_new w _));have J:w.heap.size<w1.heap.size:=aE t.out;clear U;obtain⟨r0,r1,r2,g0,g1,g2⟩:=kK t.out;cases is with
 | false=>
  obtain rfl:R=(fB,2):=by have W:lM l=none:=HL.out;have E:=HR.out;unfold cO at E;rw[W] at E;exact E.symm
  go_wp2_with (go_at_call 76;go_must (refine(C1.out _).mono ?_);rintro e w' ⟨rfl,rfl⟩);have o:=kK ((Below.heap_alloc (((w1.setCell ⟨w.heap.size,0,none⟩ (.bool false)).setCell ⟨w.heap.size,1,none⟩ (.string ⟨#[]⟩)).setCell ⟨w.heap.size,2,none⟩ (.int .i64 0)) (.cells #[.bool n, .bool lo, .string (bs a), .string (bs b), .string (bs c)] 110) w.heap.size (by simp[World.setCell];exact J)).trans (eB (eB (eB t.out 0 (.bool false)) 1 (.string ⟨#[]⟩)) 2 (.int .i64 0)));clear r0 r1 r2 g0 g1 g2;obtain⟨r0,r1,r2,g0,g1,g2⟩:=o;refine bodyPost_ret (v:= .tuple #[fQ fB, .int .i64 2]) ?_ rfl ⟨rfl,?_⟩
  ·simp[results,Tryz.results48,go_sem,r0,r1,r2,fQ,fB];rfl
  ·refine Below.alloc ?_ (by simp[World.setCell];omega) _
   repeat (first | refine kJ ?_ (aD _) | refine Below.drew ?_)
   exact I.out
 | true=>
  have i:lM l=some ⟨n,a,b,lo,c⟩:=HL.out;have ad:=Ye i;obtain⟨p1,p2,p3⟩:=Ii i;have d:qX ⟨n,a,b,lo,c⟩=R:=by rw[<-HR.out];unfold cO;rw[i]
  simp only[] at ad p1 p2 p3;unfold qX at d;simp only[] at d;have sa:=aQ a;have sb:=aQ b;have sc:=aQ (jL c);clear HL HR i;by_cases t1:1000<a.length+b.length
  ·rw[if_pos t1] at d;subst d;clear p1 p2 p3;go_wp2_with (go_at_call 76;go_must (refine(C1.out _).mono ?_);rintro e w' ⟨rfl,rfl⟩);have o:=kK ((Below.heap_alloc (((w1.setCell ⟨w.heap.size,0,none⟩ (.bool false)).setCell ⟨w.heap.size,1,none⟩ (.string ⟨#[]⟩)).setCell ⟨w.heap.size,2,none⟩ (.int .i64 0)) (.cells #[.bool n, .bool lo, .string (bs a), .string (bs b), .string (bs c)] 110) w.heap.size (by simp[World.setCell];exact J)).trans (eB (eB (eB t.out 0 (.bool false)) 1 (.string ⟨#[]⟩)) 2 (.int .i64 0)));clear r0 r1 r2 g0 g1 g2;obtain⟨r0,r1,r2,g0,g1,g2⟩:=o;refine bodyPost_ret (v:= .tuple #[fQ fB, .int .i64 3]) ?_ rfl ⟨rfl,?_⟩
   ·simp[results,Tryz.results48,go_sem,r0,r1,r2,fQ,fB];rfl
   ·refine Below.alloc ?_ (by simp[World.setCell];omega) _
    repeat (first | refine kJ ?_ (aD _) | refine Below.drew ?_)
    exact I.out
  rw[if_neg t1] at d;by_cases t2:9<(jL c).length
  ·rw[if_pos t2] at d;subst d;clear p1 p2 p3;go_wp2_with (go_at_call 76;go_must (refine(C1.out _).mono ?_);rintro e w' ⟨rfl,rfl⟩);have o:=kK ((Below.heap_alloc (((w1.setCell ⟨w.heap.size,0,none⟩ (.bool false)).setCell ⟨w.heap.size,1,none⟩ (.string ⟨#[]⟩)).setCell ⟨w.heap.size,2,none⟩ (.int .i64 0)) (.cells #[.bool n, .bool lo, .string (bs a), .string (bs b), .string (bs c)] 110) w.heap.size (by simp[World.setCell];exact J)).trans (eB (eB (eB t.out 0 (.bool false)) 1 (.string ⟨#[]⟩)) 2 (.int .i64 0)));clear r0 r1 r2 g0 g1 g2;obtain⟨r0,r1,r2,g0,g1,g2⟩:=o;refine bodyPost_ret (v:= .tuple #[fQ fB, .int .i64 4]) ?_ rfl ⟨rfl,?_⟩
   ·simp[results,Tryz.results48,go_sem,r0,r1,r2,fQ,fB];rfl
   ·refine Below.alloc ?_ (by simp[World.setCell];omega) _
    repeat (first | refine kJ ?_ (aD _) | refine Below.drew ?_)
    exact I.out
  rw[if_neg t2] at d;rw[<-Hy c] at d;obtain⟨Z,hZ⟩:=exQ<|jL c;have Y:Z.all cT=true:=hZ ▸ Cq p3;rw[hZ] at d t2 C1 sc;clear hZ p3;have M:(bs Z).data.toList=Z:=aW Z;obtain⟨S,hS⟩:=exQ<|bs Z;rw[hS] at M C1 sc;have hsz:S.size<=9:=by rw[sc];omega
  have HE:=hid d;have HZ:=hid Y;have P:=hid M;have Q:=hid p1;have N:=hid p2;have B:=hid t1;clear d Y M p1 p2 t2 hS sc;have ae: ∀p (h:p<S.size),cT (S[p]'h)=true:=λp h=>by
   have W:=HZ.out;rw[<-P.out,eH] at W;exact W _ (Array.getElem_mem_toList _)
  have aa: ∀p,0<=gJ (S.data.toList.take p)/\gJ (S.data.toList.take p)<1000000000:=λp=>by
   have W:(S.data.toList.take p).all cT=true:=by
    have E:=HZ.out;rw[<-P.out] at E;rw[eH] at E ⊢;exact λx hx=>E x (List.take_subset _ _ hx)
   have h3:=To _ W;have h4:(S.data.toList.take p).length<=9:=by rw[cB];have:S.data.toList.length=S.size:=rfl;omega
   have h5:(10:Int) ^ (S.data.toList.take p).length<=10 ^ 9:=(by exact_mod_cast Nat.pow_le_pow_right (n:=10) (by decide) h4);omega
  have O:=hid ae;have z:=hid aa;clear ae aa;go_wp2_with (go_at_call 76;go_must (refine(C1.out _).mono ?_);rintro e w' ⟨rfl,rfl⟩);go_loopw [7,9] (λs7 _ wr=> ∃p:Nat,p<=S.size/\s7= .int .i64 (gJ (S.data.toList.take p))/\Hid (wr.heap[w1.heap.size+1]?=some (.stringIter S p))/\Hid (wr.heap[w1.heap.size]?=some (.cells #[.bool n, .bool lo, .string (bs a), .string (bs b), .string (bs c)] 110 (0,0)))/\Hid (wr.heap[w.heap.size]?=some (.cells #[.bool false, .string ⟨#[]⟩, .int .i64 0] 52 (0,0)))/\Hid (Below w.heap.size w wr)) (λ_ _ wr=>S.size-wr.iterPos (w1.heap.size+1))
  case atStart=>
   have H:(w1.alloc (.cells #[.bool n, .bool lo, .string (bs a), .string (bs b), .string (bs c)] 110)).heap.size=w1.heap.size+1:=(by simp);refine⟨0,by omega,rfl,?_,?_,?_,?_⟩
   ·have:=World.iter_heap (w1.alloc (.cells #[.bool n, .bool lo, .string (bs a), .string (bs b), .string (bs c)] 110)) S 0;rw[H] at this;exact this
   ·exact(Below.heap_alloc _ _ _ (by rw[H];omega)).trans (heap_alloc_new w1 _)
   ·exact(Below.heap_alloc _ _ _ (by rw[H];omega)).trans ((Below.heap_alloc _ _ _ J).trans t.out)
   ·exact(I.out.alloc (by omega) _).alloc (by rw[H];omega) _
  case round=>
   obtain⟨p,hp,rfl,HI,HX,T,HW⟩:=hrel;by_cases hlt:p<S.size
   ·have ab: ∀ty,(Instr.next (.pointer (some ⟨w1.heap.size+1,0,none⟩)) true ty).run Tryz.prog wr= .ok (.tuple #[.bool true, .int .i64 p, .int .i32 (bG S p)]) (wr.iterAt (w1.heap.size+1) S (p+bB S p)):=λty=>Lib.run_next_any_at wr _ S p ty HI.out hlt;have L:=O.out p hlt;obtain⟨e1,e2⟩:=Ku S p hlt L;have hb:=of_decide_eq_true L;rw[e1,e2] at ab;have s:gJ (S.data.toList.take (p+1))=10*gJ (S.data.toList.take p)+(((S[p]'hlt).toNat:Int)-48):=(by rw[Dw S p hlt,Cp]);have b1:=z.out p;have b2:=z.out (p+1);have af:=hid (Lib.iterAt_heap wr (w1.heap.size+1) S p (p+1) HI.out);have aj:=hid (Lib.below_iterAt HW.out (show w.heap.size<=w1.heap.size+1 by omega) S (p+1));have HM:=hid (iterPos_of HI.out);have ai:Hid ((wr.iterAt (w1.heap.size+1) S (p+1)).heap[w1.heap.size]?=some (.cells #[.bool n, .bool lo, .string (bs a), .string (bs b), .string (bs c)] 110 (0,0))):=by
     exact(Lib.iterAt_other wr _ _ S _ (by omega)).trans HX.out
    have ag:Hid ((wr.iterAt (w1.heap.size+1) S (p+1)).heap[w.heap.size]?=some (.cells #[.bool false, .string ⟨#[]⟩, .int .i64 0] 52 (0,0))):=by
     exact(Lib.iterAt_other wr _ _ S _ (by omega)).trans T.out
    generalize gJ (S.data.toList.take p)=V at *;have HS:=hid s;rw[s] at b2;clear e1 e2 L s;go_wp2_with fail;go_roundw
    case rel=>exact⟨p+1,by omega,by rw[HS.out],af.out,ai.out,ag.out,aj.out⟩
    case measure=>rw[iterPos_of af.out,HM.out];omega
   ·have ab: ∀ty,(Instr.next (.pointer (some ⟨w1.heap.size+1,0,none⟩)) true ty).run Tryz.prog wr= .ok (.tuple #[.bool false]) wr:=λty=>Lib.run_next_end_at wr _ S p ty HI.out hlt;have hV:gJ (S.data.toList.take p)=gJ Z:=by
     rw[xH (by have:S.data.toList.length=S.size:=rfl;omega),P.out]
    have b1:=z.out p;rw[hV] at b1 ⊢;clear hV;have r:=HE.out;generalize gJ Z=V at *;obtain⟨x0,x1,x2,x3,x4,f0,f1,f2,f3,f4⟩:=sM HX.out;obtain⟨r0,r1,r2,g0,g1,g2⟩:=kK T.out;obtain⟨D,hD⟩:=exQ<|jL (a++b);rw[hD] at r;have C2:=hid (show ∀w,Calls Tryz.prog 76 #[.string (bs a++bs b), .string ⟨#[48]⟩] w λe w'=>e= .returned (.string (bs D))/\w=w' from λw=>by rw[mU,<-hD];exact Ld (a++b) w);have hDl:D.length<=1000:=by
     have:=(List.dropWhile_sublist (p:=λc:UInt8=>c==48) (l:=a++b)).length_le;rw[aI] at this;have E:(jL (a++b)).length<=a.length+b.length:=this;rw[hD] at E;have:=B.out;omega
    have X:=congrArg List.length (wO D);rw[aI] at X;have C3:=hid (λw=>Yc D w (by omega));have C4:=hid (λk w=>Kz n (bs (dK D)) k w (by rw[aQ];omega));have sD:=aQ D;have sT:=aQ (dK D);have htl:(dK D).length<=D.length:=(by omega);clear X;have F:=hid (λj k=>Yf (x:=⟨n,a,b,lo,c⟩) (k:=k) Q.out N.out B.out hD j);have G:(bs D).toList=D:=(by rw[Lib.toList_data,aW]);clear hD;have hbl:b.length<=1000:=by have:=B.out;omega
    by_cases j:D= []
    ·rw[if_pos j] at r;rw[j] at G;have m:=hid r;clear r;cases lo
     all_goals
      go_wp2_with (go_at_call 76;go_must (refine(C2.out _).mono ?_);rintro e w' ⟨rfl,rfl⟩);clear r0 r1 r2 g0 g1 g2;have o:=kK (eB (eB (eB T.out 0 (.bool false)) 1 (.string ⟨#[]⟩)) 2 (.int .i64 0));obtain⟨r0,r1,r2,g0,g1,g2⟩:=o;refine bodyPost_ret (v:= .tuple #[fQ fB, .int .i64 0]) ?_ rfl ⟨by rw[<-m.out];rfl,?_⟩
      ·simp[results,Tryz.results48,go_sem,r0,r1,r2,fQ,fB];try rfl
      ·repeat (first | refine kJ ?_ (aD _) | refine Below.drew ?_)
       exact HW.out
    ·rw [if_neg j] at r;have ah: ¬(bs D).toList= []:=by rw[G];exact j
     have hDn2:((bs D).toList== [])=false:=aG.2 ah;have hDn3:(bs D).toList.isEmpty=false:=by rw[G];cases D with | nil=>exact absurd rfl j | cons _ _=>rfl
     clear G;have C:=hid r;clear r;cases lo with
     | false=>
      have f:(if V-(b.length:Int)+((D.length:Int)-((dK D).length:Int))< -1000000\/1000000<V-(b.length:Int)+((D.length:Int)-((dK D).length:Int)) then((fB,4):dS×Int) else(⟨n,dK D,V-(b.length:Int)+((D.length:Int)-((dK D).length:Int))⟩,0))=R:=C.out;rw[show V-(b.length:Int)+((D.length:Int)-((dK D).length:Int))=V-(b.length:Int)+(D.length:Int)-((dK D).length:Int) from by omega] at f;have u:=hid f;clear f;go_wp2_with (first | (go_at_call 76;go_must (refine(C2.out _).mono ?_);rintro e w' ⟨rfl,rfl⟩) | (go_at_call 77;go_must (refine(C3.out _).mono ?_);rintro e w' ⟨rfl,rfl⟩));refine(C4.out _ _).mono ?_;rw[aW,F.out j];rintro e w4 ⟨rfl,g⟩;have f:=u.out;clear u C F C1 C2 C3 C4 HE Q N B O z;generalize V-(b.length:Int)+(D.length:Int)-((dK D).length:Int)=K at f g ⊢;have HN:=hid ((g.block wr.heap.size (by simp)).trans (heap_alloc_new wr _));have A:w.heap.size<wr.heap.size:=aE T.out;have q:=hid ((g.block w.heap.size (by simp;omega)).trans ((Below.heap_alloc _ _ _ A).trans T.out));have y:=hid ((HW.out.alloc (Nat.le_of_lt A) _).trans (g.mono (by simp;omega)));clear g r0 r1 r2 g0 g1 g2 x0 x1 x2 x3 x4 f0 f1 f2 f3 f4;obtain⟨r0,r1,r2,g0,g1,g2⟩:=kK q.out;obtain⟨m0,m1,m2,q0,q1,q2⟩:=kK HN.out;by_cases hk:K< -1000000\/1000000<K
      ·rw[if_pos hk] at f;have m:=hid f;clear f;rw[aJ (λh=>h hk)];go_wp2_with fail;have o:=kK (eB (eB (eB q.out 0 (.bool false)) 1 (.string ⟨#[]⟩)) 2 (.int .i64 0));clear r0 r1 r2 g0 g1 g2;obtain⟨r0,r1,r2,g0,g1,g2⟩:=o;refine bodyPost_ret (v:= .tuple #[fQ fB, .int .i64 4]) ?_ rfl ⟨by rw[<-m.out];rfl,?_⟩
       ·simp[results,Tryz.results48,go_sem,r0,r1,r2,fQ,fB];try rfl
       ·repeat (first | refine kJ ?_ (aD _) | refine Below.drew ?_)
        exact y.out
      ·rw[if_neg hk] at f;have m:=hid f;clear f;rw[aN hk];go_wp2_with fail;have o:=kK (eB (eB (eB q.out 0 (.bool n)) 1 (.string (bs (dK D)))) 2 (.int .i64 K));clear r0 r1 r2 g0 g1 g2;obtain⟨r0,r1,r2,g0,g1,g2⟩:=o;refine bodyPost_ret (v:= .tuple #[fQ ⟨n,dK D,K⟩, .int .i64 0]) ?_ rfl ⟨by rw[<-m.out];rfl,?_⟩
       ·simp[results,Tryz.results48,go_sem,r0,r1,r2,fQ,fB];try rfl
       ·repeat (first | refine kJ ?_ (aD _) | refine Below.drew ?_)
        exact y.out
     | true=>
      have f:(if -V-(b.length:Int)+((D.length:Int)-((dK D).length:Int))< -1000000\/1000000< -V-(b.length:Int)+((D.length:Int)-((dK D).length:Int)) then((fB,4):dS×Int) else(⟨n,dK D, -V-(b.length:Int)+((D.length:Int)-((dK D).length:Int))⟩,0))=R:=C.out;rw[show -V-(b.length:Int)+((D.length:Int)-((dK D).length:Int))= -V-(b.length:Int)+(D.length:Int)-((dK D).length:Int) from by omega] at f;have u:=hid f;clear f;go_wp2_with (first | (go_at_call 76;go_must (refine(C2.out _).mono ?_);rintro e w' ⟨rfl,rfl⟩) | (go_at_call 77;go_must (refine(C3.out _).mono ?_);rintro e w' ⟨rfl,rfl⟩));refine(C4.out _ _).mono ?_;rw[aW,F.out j];rintro e w4 ⟨rfl,g⟩;have f:=u.out;clear u C F C1 C2 C3 C4 HE Q N B O z;generalize -V-(b.length:Int)+(D.length:Int)-((dK D).length:Int)=K at f g ⊢;have HN:=hid ((g.block wr.heap.size (by simp)).trans (heap_alloc_new wr _));have A:w.heap.size<wr.heap.size:=aE T.out;have q:=hid ((g.block w.heap.size (by simp;omega)).trans ((Below.heap_alloc _ _ _ A).trans T.out));have y:=hid ((HW.out.alloc (Nat.le_of_lt A) _).trans (g.mono (by simp;omega)));clear g r0 r1 r2 g0 g1 g2 x0 x1 x2 x3 x4 f0 f1 f2 f3 f4;obtain⟨r0,r1,r2,g0,g1,g2⟩:=kK q.out;obtain⟨m0,m1,m2,q0,q1,q2⟩:=kK HN.out;by_cases hk:K< -1000000\/1000000<K
      ·rw[if_pos hk] at f;have m:=hid f;clear f;rw[aJ (λh=>h hk)];go_wp2_with fail;have o:=kK (eB (eB (eB q.out 0 (.bool false)) 1 (.string ⟨#[]⟩)) 2 (.int .i64 0));clear r0 r1 r2 g0 g1 g2;obtain⟨r0,r1,r2,g0,g1,g2⟩:=o;refine bodyPost_ret (v:= .tuple #[fQ fB, .int .i64 4]) ?_ rfl ⟨by rw[<-m.out];rfl,?_⟩
       ·simp[results,Tryz.results48,go_sem,r0,r1,r2,fQ,fB];try rfl
       ·repeat (first | refine kJ ?_ (aD _) | refine Below.drew ?_)
        exact y.out
      ·rw[if_neg hk] at f;have m:=hid f;clear f;rw[aN hk];go_wp2_with fail;have o:=kK (eB (eB (eB q.out 0 (.bool n)) 1 (.string (bs (dK D)))) 2 (.int .i64 K));clear r0 r1 r2 g0 g1 g2;obtain⟨r0,r1,r2,g0,g1,g2⟩:=o;refine bodyPost_ret (v:= .tuple #[fQ ⟨n,dK D,K⟩, .int .i64 0]) ?_ rfl ⟨by rw[<-m.out];rfl,?_⟩
       ·simp[results,Tryz.results48,go_sem,r0,r1,r2,fQ,fB];try rfl
       ·repeat (first | refine kJ ?_ (aD _) | refine Below.drew ?_)
        exact y.out
theorem Yg (n:dS) (w:World) (hd:n.dig.length<=4294967296) (R:Bool) (h:jT n=R):
  Calls Tryz.prog 46 #[.agg #[.bool n.neg, .string (bs n.dig), .int .i64 n.exp]] w λen w'=>en= .returned (.bool R)/\Below w.heap.size w w':=by
 have:=Kz n.neg (bs n.dig) n.exp w (by rw[aQ];omega);rw[aW,h] at this;exact this
theorem Dz {n:dS} (h:jT n=true):n.dig.length<=1000/\ -1000000<=n.exp/\n.exp<=1000000:=by
 rcases of_decide_eq_true h with h | h
 ·subst h;simp[fB]
 ·exact⟨h.2.1,h.2.2.2.2.1,h.2.2.2.2.2⟩
def sN (w:World):Prop:=Lib.TabIs Tryz.prog w "internal/strconv.uint64pow10" .u64 Lib.pow10Tab
theorem sN.keep {w w':World} (h:sN w) (hb:Below w.heap.size w w'):sN w':=In h hb
theorem Yh (w:World) (k:Nat) (os:Array Obj):Below w.heap.size w (Go.Sort.grow (w.drewN k) os):=
 ⟨rfl,rfl,rfl,by simp[Go.Sort.grow],λj a=>Go.Sort.heap_grow_old (w.drewN k) os a⟩
theorem Le (n:Int) (w:World) (h0: -9223372036854775808<=n/\n<=9223372036854775807) (hT:sN w):
  Calls Tryz.prog 47 #[.int .i64 n] w λe w'=>e= .returned (.string (bs (Lib.itoa n)))/\Below w.heap.size w w':=
 (Tryz.strconv_Itoa n h0.1 h0.2 w hT).mono λ_ _ ⟨a,k,os,b⟩=>⟨a,b ▸ Yh w k os⟩
theorem Ea (n:Int) (h:n.natAbs<10 ^ 20):(Lib.itoa n).length<=22:=by
 have h1:=Tq n.natAbs 20 h (by decide);unfold Lib.itoa;split
 ·simp;omega
 ·rw[show n.toNat=n.natAbs from by omega];omega
theorem Yi (n:Int) (w:World) (h0: -9223372036854775808<=n/\n<=9223372036854775807) (hT:sN w):
  Calls Tryz.prog 26 #[.int .i64 n] w λe w'=>e= .returned (fQ (qY n))/\Below w.heap.size w w':=by
 have C1:=hid (λw hT=>Le n w h0 hT);have C2:=hid (λw=>xJ (Lib.itoa n) w (by have:=Ea n (by omega);omega));obtain⟨R,j⟩:=exQ<|cO (Lib.itoa n);have d:qY n=R.1:=by unfold qY;rw[j]
 rw[j] at C2;rw[d];have l:=hid (hT.keep (aH w (.cells #[.bool false, .string ⟨#[]⟩, .int .i64 0] 52)));clear hT j d;obtain⟨N,er⟩:=R;obtain⟨ng,dg,ex⟩:=N;go_enter Tryz.func26,Tryz.ntmps26;go_wp2_with fail;refine(C1.out _ l.out).mono ?_;rintro e w1 ⟨rfl,c⟩;go_wp2_with fail;refine(C2.out _).mono ?_;unfold tT fQ;rintro e w2 ⟨rfl,a⟩;have f:=hid ((c.block w.heap.size (by simp)).trans (heap_alloc_new w _));have i:w.heap.size<w1.heap.size:=aE f.out;have b:=hid ((a.block w.heap.size i).trans f.out);have h:w.heap.size<w2.heap.size:=aE b.out;have g:=hid (((aH w _).trans (c.mono (by simp))).trans (a.mono (by omega)));clear c a;obtain⟨r0,r1,r2,g0,g1,g2⟩:=kK b.out;go_wp2_with fail;have k:=kK ((Below.heap_alloc _ (.cells #[.bool ng, .string (bs dg), .int .i64 ex] 52) w.heap.size (by simp[World.setCell];exact h)).trans (eB (eB (eB b.out 0 (.bool ng)) 1 (.string (bs dg))) 2 (.int .i64 ex)));clear r0 r1 r2 g0 g1 g2;obtain⟨r0,r1,r2,g0,g1,g2⟩:=k;refine bodyPost_ret (v:= .agg #[.bool ng, .string (bs dg), .int .i64 ex]) ?_ rfl ⟨rfl,?_⟩
 ·simp[results,Tryz.results26,go_sem,r0,r1,r2]
 ·refine Below.alloc ?_ (by simp[World.setCell];omega) _
  repeat (first | refine kJ ?_ (aD _) | refine Below.drew ?_)
  exact g.out
theorem Ai (c:UInt8) (l:List UInt8):(⟨#[c]⟩:ByteArray)++bs l=bs (c::l):=by
 have:=mU [c] l;exact this
theorem Aj (n:dS) (w:World) (hd:n.dig.length<=4294967296) (hT:sN w):
  Calls Tryz.prog 25 #[.agg #[.bool n.neg, .string (bs n.dig), .int .i64 n.exp]] w λe w'=>e= .returned (.string (bs (fK n)))/\Below w.heap.size w w':=by
 obtain⟨A1,k⟩:=exQ<|jT n;have CA:=hid (λw=>Yg n w hd A1 k);obtain⟨R,a⟩:=exQ<|fK n;rw[a];unfold fK at a;rw[k] at a;have o:A1=true->n.dig.length<=1000/\ -1000000<=n.exp/\n.exp<=1000000:=λh=>Dz (k.trans h);obtain⟨ng,d,ex⟩:=n;simp only[] at a CA o hd ⊢;have sd:=aQ d;have p:=hid (hT.keep (aH w (.cells #[.bool ng, .string (bs d), .int .i64 ex] 52)));clear hT k;cases A1 with
 | false=>
  rw[if_pos rfl] at a;subst a;go_enter Tryz.func25,Tryz.ntmps25;go_wp2_with (go_at_call 46;go_must (refine(CA.out _).mono ?_);rintro e w1 ⟨rfl,c⟩);go_ret;exact⟨rfl,(aH w _).trans (c.mono (by simp))⟩
 | true=>
  obtain⟨c,i,hb3⟩:=o rfl;rw[if_neg (by simp)] at a;have C2:=hid (λw hT=>Le ex w (by omega) hT);have f:=hid a;clear a;go_enter Tryz.func25,Tryz.ntmps25;go_wp2_with fail;refine(CA.out _).mono ?_;rintro e w1 ⟨rfl,c⟩;have m:=hid ((c.block w.heap.size (by simp)).trans (heap_alloc_new w _));have j:=hid (p.out.keep c);have b:=hid ((aH w _).trans (c.mono (by simp)));obtain⟨r0,r1,r2,g0,g1,g2⟩:=kK m.out;clear c;have g:(bs d).toList=d:=by rw[Lib.toList_data,aW]
  by_cases hne:d= []
  ·have a:=f.out;rw[if_pos hne] at a;subst a;rw[hne] at g;clear f;go_wp2_with fail;go_ret;exact⟨rfl,b.out⟩
  ·have a:=f.out;rw[if_neg hne] at a;have l: ¬(bs d).toList= []:=by rw[g];exact hne
   have hDn2:((bs d).toList== [])=false:=aG.2 l;have hDn3:(bs d).toList.isEmpty=false:=by rw[g];cases d with | nil=>exact absurd rfl hne | cons _ _=>rfl
   clear g hne f;by_cases he:ex=0
   ·subst he;cases ng
    ·have f:=hid (show d=R by simpa using a);clear a;go_wp2_with fail;go_ret;exact⟨by rw[<-f.out];rfl,b.out⟩
    ·have f:=hid (show 45::d=R by simpa using a);clear a;go_wp2_with fail;go_ret;exact⟨by rw[<-f.out,Ai];rfl,b.out⟩
   ·rw[if_pos he] at a;have he2:(ex !=0)=true:=gP.2 he;have hIl:=Ea ex (by omega);generalize Lib.itoa ex=I at *;have sI:=aQ I;have f:=hid a;clear a he;cases ng
    ·go_wp2_with fail;refine(C2.out _ j.out).mono ?_;rintro e w2 ⟨rfl,i⟩;go_wp2_with fail;go_ret;exact⟨by rw[<-f.out,Ai,mU];rfl,b.out.trans (i.mono b.out.size)⟩
    ·go_wp2_with (go_at_call 47;go_must (refine(C2.out _ j.out).mono ?_);rintro e w2 ⟨rfl,i⟩);go_ret;exact⟨by rw[<-f.out,Ai,Ai,mU];rfl,b.out.trans (i.mono b.out.size)⟩
end
end Go.Proofs.YtjnooaljcgkfpaaGreatDoor
