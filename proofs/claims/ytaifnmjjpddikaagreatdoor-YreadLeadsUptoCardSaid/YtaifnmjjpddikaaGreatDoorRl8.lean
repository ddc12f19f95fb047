import Derived.Test.YtaifnmjjpddikaaGreatDoorProg
import Derived.Test.YtaifnmjjpddikaaGreatDoorRl1
import Derived.Test.YtaifnmjjpddikaaGreatDoorRl3
import Derived.BigQuiet
import Derived.Deep.QuietTactic
import Derived.Lib.IndexBytes
import Derived.Deep.DeepCutAuto
import Derived.Lib.LaidTab
import Derived.Sort.Grow
set_option maxHeartbeats 4000000
namespace Go.Proofs.YtaifnmjjpddikaaGreatDoor
set_option linter.unusedVariables false
set_option linter.unusedSimpArgs false
section
open Go.RowKit
open Go.Lib
theorem It (s:ByteArray) (p:Nat) (h:p<s.size) (hd:dZ (s[p]'h)=true):bQ s p=((s[p]'h).toNat:Int)/\bJ s p=1:=by
 have h1:=of_decide_eq_true hd;have:=decode_ascii s p h (by omega);unfold bQ bJ;rw[this];exact⟨rfl,rfl⟩
theorem Tj (s:ByteArray) (p:Nat) (h:p<s.size) (hd:dZ (s[p]'h)=false):bQ s p<48\/57<bQ s p:=by
 have h1: ¬(48<=(s[p]'h).toNat/\(s[p]'h).toNat<=57):=of_decide_eq_false hd;by_cases ha:(s[p]'h).toNat<128
 ·have:=decode_ascii s p h ha;unfold bQ;rw[this];simp only[];omega
 ·have:=(decode_high s p h (by omega)).1;unfold bQ;omega
def nU (s:ByteArray) (p:Nat):Prop:=(s.data.toList.take p).all dZ=true
theorem nU.zero (s:ByteArray):nU s 0:=rfl
theorem Bq (s:ByteArray) (p:Nat) (h:p<s.size):s.data.toList.take (p+1)=s.data.toList.take p++ [s[p]'h]:=by
 rw[List.take_succ_eq_append_getElem (by simpa using h)];rfl
theorem nU.next {s:ByteArray}{p:Nat} (h:nU s p) (hp:p<s.size) (hd:dZ (s[p]'hp)=true):nU s (p+1):=by
 unfold nU at *;rw[Bq s p hp,List.all_append,h,List.all_cons,hd];rfl
theorem nU.fin {s:ByteArray}{p:Nat} (h:nU s p) (hp:s.size<=p):fG s.data.toList=!s.toList.isEmpty:=by
 unfold nU at h;rw[uL (by have:s.data.toList.length=s.size:=rfl;omega)] at h;unfold fG;rw[h,Lib.toList_data,Bool.and_true]
theorem Tk {s:ByteArray}{p:Nat} (hp:p<s.size) (hd:dZ (s[p]'hp)=false):fG s.data.toList=false:=by
 unfold fG;rw[Bool.and_eq_false_iff];right;rw[List.all_eq_false];exact⟨s[p]'hp,Array.getElem_mem_toList _,by rw[hd];simp⟩
theorem Iu (s:ByteArray) (w:World):
  Calls Tryz.prog 141 #[.string s] w λe w'=>e= .returned (.bool (fG s.data.toList))/\Below w.heap.size w w':=by
 obtain⟨R,h⟩:=exQ<|fG s.data.toList;rw[h];have j:=hid h;clear h;go_enter Tryz.func141,Tryz.ntmps141;go_wp2_with fail;go_loopw [4] (λ_ wr=> ∃p:Nat,p<=s.size/\Hid (nU s p)/\Hid (wr.heap[w.heap.size]?=some (.stringIter s p))/\Hid (Below w.heap.size w wr)) (λ_ wr=>s.size-wr.iterPos w.heap.size)
 case atStart=>exact⟨0,by omega,nU.zero s,World.iter_heap w s 0,(aB _ _).alloc (aE _) _⟩
 case round=>
  obtain⟨p,hp,k,f,i⟩:=hrel;by_cases hlt:p<s.size
  ·have hw:=qB s p hlt;have hrb:=qZ s p;have d: ∀ty,(Instr.next (.pointer (some ⟨w.heap.size,0,none⟩)) true ty).run Tryz.prog wr= .ok (.tuple #[.bool true, .int .i64 p, .int .i32 (bQ s p)]) (wr.iterAt w.heap.size s (p+bJ s p)):=λty=>Lib.run_next_any_at wr _ s p ty f.out hlt;have b:=hid (Lib.iterAt_heap wr w.heap.size s p (p+bJ s p) f.out);have c:=hid (Lib.below_iterAt i.out (aE w.heap.size) s (p+bJ s p));have m:=hid (iterPos_of f.out);cases hd:dZ (s[p]'hlt) with
   | true=>
    obtain⟨e1,e2⟩:=It s p hlt hd;have l:=hid (k.out.next hlt hd);have hb:=of_decide_eq_true hd;rw[e1,e2] at d;rw[e2] at b c;clear e1 e2 hd;go_wp2_with fail;go_roundw
    case rel=>exact⟨p+1,by omega,l.out,b.out,c.out⟩
    case measure=>rw[iterPos_of b.out,m.out];omega
   | false=>
    have a:=Tj s p hlt hd;have g:=hid (j.out.symm.trans (Tk hlt hd));clear hd;rcases a with a | a
    all_goals
     go_wp2_with fail;go_ret;exact⟨xQ g.out.symm,c.out⟩
  ·have d: ∀ty,(Instr.next (.pointer (some ⟨w.heap.size,0,none⟩)) true ty).run Tryz.prog wr= .ok (.tuple #[.bool false]) wr:=λty=>Lib.run_next_end_at wr _ s p ty f.out hlt;have g:=hid (j.out.symm.trans (k.out.fin (by omega)));go_wp2_with fail;go_ret;exact⟨xQ g.out.symm,i.out⟩
end
section
open Go.RowKit
open Go.Lib hiding intOf
theorem Tl {p:UInt8->Bool}{l:List UInt8} (h:l.all (λc=>!p c)=true):dJ p l=(l,[],false):=
 yB p l λc a=>by have:=fH.1 h c a;simpa using this
theorem Tm {p:UInt8->Bool}{l:List UInt8}{k:Nat}{b:UInt8} (h:(l.take k).all (λc=>!p c)=true) (hb:l[k]?=some b) (hp:p b=true):dJ p l=(l.take k,l.drop (k+1),true):=by
 obtain⟨a,e⟩:=aR.1 hb;have f:l=l.take k++b::l.drop (k+1):=by
  rw[<-e,<-iH a,oR]
 have:=Aw p (l.take k) b (l.drop (k+1)) (λc d=>by have:=fH.1 h c d;simpa using this) hp;rw[<-f] at this;exact this
def pC (p:UInt8->Bool) (s:ByteArray) (k:Nat):Prop:=(s.data.toList.take k).all (λc=>!p c)=true
theorem pC.next {p:UInt8->Bool}{s:ByteArray}{k:Nat} (h:pC p s k) (hk:k<s.size) (hp:p (s[k]'hk)=false):pC p s (k+1):=by
 unfold pC at *;rw[Bq s k hk,List.all_append,h,List.all_cons,hp];rfl
theorem pC.fin {p:UInt8->Bool}{s:ByteArray}{k:Nat} (h:pC p s k) (hk:s.size<=k):dJ p s.data.toList=(s.data.toList,[],false):=by
 unfold pC at h;rw[uL (by have:s.data.toList.length=s.size:=rfl;omega)] at h;exact Tl h
theorem pC.hit {p:UInt8->Bool}{s:ByteArray}{k:Nat} (h:pC p s k) (hk:k<s.size) (hp:p (s[k]'hk)=true):dJ p s.data.toList=(s.data.toList.take k,s.data.toList.drop (k+1),true):=
 Tm h (by rw[Array.getElem?_toList,Array.getElem?_eq_getElem hk];rfl) hp
def wF (R:List UInt8×List UInt8×Bool):Ending:= .returned (.tuple #[.string (bs R.1), .string (bs R.2.1), .bool R.2.2])
theorem Iv (s A:ByteArray) (p:UInt8->Bool) (w:World) (hp: ∀b,p b=decide (0<=Lib.indexByte A.data.toList b)) (hs:s.size<=4294967296):
  Calls Tryz.prog 139 #[.string s, .string A] w λe w'=>e=wF (dJ p s.data.toList)/\Below w.heap.size w w':=by
 obtain⟨R,j⟩:=exQ<|dJ p s.data.toList;rw[j];have m:=hid j;clear j;have n:=hid hp;clear hp;go_enter Tryz.func139,Tryz.ntmps139;go_wp2_with fail;go_loopw [10] (λi wr=> ∃k:Nat,k<=s.size/\i= .int .i64 k/\Hid (pC p s k)/\Hid (Below w.heap.size w wr)) (λi _=>s.size-(RowKit.intOf i).toNat)
 case atStart=>exact⟨0,by omega,rfl,rfl,aB _ _⟩
 case round=>
  obtain⟨k,hk,rfl,h,g⟩:=hrel;by_cases hlt:k<s.size
  ·have hlz:(k:Int)<(s.size:Int):=(by omega);have c:=vL A (s[k]'hlt);have a:=n.out (s[k]'hlt);cases hpp:p (s[k]'hlt) with
   | true=>
    have f:=hid (m.out.symm.trans (h.out.hit hlt hpp));rw[hpp] at a;have l:0<=Lib.indexByte A.data.toList (s[k]'hlt):=of_decide_eq_true a.symm;generalize Lib.indexByte A.data.toList (s[k]'hlt)=I at *;have d:=hid c;clear c hpp a;go_wp2_with (go_at_call 32;go_must (refine(d.out _).mono ?_);rintro e w' ⟨rfl,rfl⟩);go_quiet (fail);go_wp2_with fail;go_ret3;exact⟨by rw[f.out,Al,Gc];rfl,below_drewN g.out _⟩
   | false=>
    have o:=hid (h.out.next hlt hpp);rw[hpp] at a;have l:Lib.indexByte A.data.toList (s[k]'hlt)<0:=Int.not_le.1 (of_decide_eq_false a.symm);generalize Lib.indexByte A.data.toList (s[k]'hlt)=I at *;have d:=hid c;clear c hpp a;go_wp2_with (go_at_call 32;go_must (refine(d.out _).mono ?_);rintro e w' ⟨rfl,rfl⟩);go_roundw
    case rel=>exact⟨k+1,by omega,by go_num,o.out,g.out⟩
    case measure=>simp[RowKit.intOf];omega
  ·have f:=hid (m.out.symm.trans (h.out.fin (by omega)));go_wp2_with fail;go_ret3;exact⟨by rw[f.out];unfold wF;simp only[tV];rfl,g.out⟩
theorem Iw (s:ByteArray) (w:World) (R:Bool) (h:fG s.data.toList=R):
  Calls Tryz.prog 141 #[.string s] w λe w'=>e= .returned (.bool R)/\Below w.heap.size w w':=by
 rw[<-h];exact Iu s w
theorem Tn {n:eG} (h:n≠eM) (h2: ¬rX n):jV n=false:=aH (by rintro(a | a);exact h a;exact h2 a)
theorem To (s:ByteArray) (h:s.size-1<s.size):s.data.toList.getLast?=some (s[s.size-1]'h):=by
 rw[List.getLast?_eq_getElem?,Array.getElem?_toList];have a:s.data.toList.length=s.size:=rfl;rw[a,Array.getElem?_eq_getElem h];rfl
theorem Ix (b:UInt8):((b.toNat:Int)==48)=decide (b=48):=by
 by_cases h:b=48
 ·subst h;rfl
 ·rw[aH h,aK];intro e;apply h;apply UInt8.toNat_inj.1;rw[show (48:UInt8).toNat=48 from rfl];omega
theorem Iy (neg:Bool) (d:ByteArray) (e:Int) (w:World) (hd:d.size<=9223372036854775807):
  Calls Tryz.prog 102 #[.agg #[.bool neg, .string d, .int .i64 e]] w λen w'=>en= .returned (.bool (jV ⟨neg,d.data.toList,e⟩))/\Below w.heap.size w w':=by
 have o:d.data.toList.length=d.size:=rfl;by_cases hn:(⟨neg,d.data.toList,e⟩:eG)=eM
 ·rw[hn,show jV eM=true from rfl];injection hn with k i q;subst k q;have h4:d.toList= []:=by rw[Lib.toList_data];exact i
  clear i o;go_enter Tryz.func102,Tryz.ntmps102;go_wp2_with fail;go_ret;exact⟨rfl,(aB _ _).alloc (aE _) _⟩
 ·have g:neg=true\/ ¬d.toList= []\/ ¬e=0:=by
   by_cases k:neg=true
   ·exact .inl k
   by_cases i:d.toList= []
   ·right;right;intro q;apply hn;rw[Lib.toList_data] at i;rw[i,q];cases neg<;>first | rfl | exact absurd rfl k
   ·exact .inr (.inl i)
  have a:=λi=>Tn (n:=⟨neg,d.data.toList,e⟩) hn i;have c:rX ⟨neg,d.data.toList,e⟩->jV ⟨neg,d.data.toList,e⟩=true:=λh=>aM (.inr h);generalize jV ⟨neg,d.data.toList,e⟩=R at *;have fin: ∀(D:Bool),fG d.data.toList=D->(D=true->0<d.size):=by
   intro D k i;rw[i] at k;have:=(sH k).1;rcases Nat.eq_zero_or_pos d.size with h | h
   ·exact absurd (List.eq_nil_of_length_eq_zero (by omega)) this
   ·exact h
  cases hD:fG d.data.toList with
  | false=>
   obtain rfl:=a (λh=>by have:=h.1;simp only[] at this;rw[hD] at this;cases this);have l:=hid (λw=>Iw d w false hD);clear a c fin hD hn;rcases g with g | g | g
   all_goals
    go_enter Tryz.func102,Tryz.ntmps102;go_wp2_with (go_at_call 141;go_must (refine(l.out _).mono ?_);rintro en w1 ⟨rfl,b⟩)
    all_goals go_ret
    all_goals exact⟨rfl,((aB _ _).alloc (aE _) _).trans (b.mono (by simp))⟩
  | true=>
   have m:=fin true hD rfl;have l:=hid (λw=>Iw d w true hD);have f:d.size-1<d.size:=(by omega);have e1:=xS d m;have e2:=To d f;have b1:=Ix (d[0]'m);have b2:=Ix (d[d.size-1]'f);have hne: ¬d.toList= []:=by rw[Lib.toList_data];intro h;rw[h] at o;simp at o;omega
   have RP:rX ⟨neg,d.data.toList,e⟩↔d.size<=1000/\ ¬(d[0]'m)=48/\ ¬(d[d.size-1]'f)=48/\ -1000000<=e/\e<=1000000:=by
    unfold rX;simp only[hD,o,e1,e2,true_and,ne_eq,cN]
   clear fin hD hn g e1 e2;by_cases c1:d.size<=1000
   ·by_cases c2:(d[0]'m)=48
    ·obtain rfl:=a (λh=>(RP.1 h).2.1 c2);rw[aM c2] at b1;clear a c RP c2 b2;go_enter Tryz.func102,Tryz.ntmps102;go_wp2_with (go_at_call 141;go_must (refine(l.out _).mono ?_);rintro en w1 ⟨rfl,b⟩)
     all_goals go_ret
     all_goals exact⟨rfl,((aB _ _).alloc (aE _) _).trans (b.mono (by simp))⟩
    ·rw [aH c2] at b1;by_cases c3:(d[d.size-1]'f)=48
     ·obtain rfl:=a (λh=>(RP.1 h).2.2.1 c3);rw[aM c3] at b2;clear a c RP c2 c3;go_enter Tryz.func102,Tryz.ntmps102;go_wp2_with (go_at_call 141;go_must (refine(l.out _).mono ?_);rintro en w1 ⟨rfl,b⟩)
      all_goals go_ret
      all_goals exact⟨rfl,((aB _ _).alloc (aE _) _).trans (b.mono (by simp))⟩
     ·rw[aH c3] at b2;have s:R=decide (-1000000<=e/\e<=1000000):=by
       by_cases c4: -1000000<=e/\e<=1000000
       ·rw[aM c4];exact c (RP.2 ⟨c1,c2,c3,c4.1,c4.2⟩)
       ·rw[aH c4];exact a (λh=>c4 (RP.1 h).2.2.2)
      have t:=hid s;clear a c RP c2 c3 s;have j:e< -1000000\/(-1000000<=e/\e<=1000000)\/(-1000000<=e/\1000000<e):=(by omega);rcases j with j | ⟨j,r⟩ | ⟨j,r⟩
      all_goals
       go_enter Tryz.func102,Tryz.ntmps102;go_wp2_with (go_at_call 141;go_must (refine(l.out _).mono ?_);rintro en w1 ⟨rfl,b⟩;obtain⟨hc1,hf1⟩:=Fz b);go_ret;refine⟨xQ ?_,((aB _ _).alloc (aE _) _).trans (b.mono (by simp))⟩;rw[t.out]
       first
        | (rw[aH (p:= -1000000<=e/\e<=1000000) (by omega)];simp;omega)
        | (rw[aM (p:= -1000000<=e/\e<=1000000) (by omega)];simp;omega)
        | (rw[aH (p:= -1000000<=e/\e<=1000000) (by omega)];simp)
        | (rw[aM (p:= -1000000<=e/\e<=1000000) (by omega)];simp)
        | (rw[aH (p:= -1000000<=e/\e<=1000000) (by omega)])
        | (rw[aM (p:= -1000000<=e/\e<=1000000) (by omega)])
   ·obtain rfl:=a (λh=>c1 (RP.1 h).1);clear a c RP b1 b2;go_enter Tryz.func102,Tryz.ntmps102;go_wp2_with (go_at_call 141;go_must (refine(l.out _).mono ?_);rintro en w1 ⟨rfl,b⟩)
    all_goals go_ret
    all_goals exact⟨rfl,((aB _ _).alloc (aE _) _).trans (b.mono (by simp))⟩
theorem Br (l:List UInt8) (c:UInt8):Lib.hasPrefix l [c]=(l.head?==some c)/\Lib.trimPrefix l [c]=if l.head?=some c then l.drop 1 else l:=by
 cases l with
 | nil=>simp[Lib.hasPrefix,Lib.trimPrefix]
 | cons x t=>
  by_cases h:x=c
  ·subst h;simp[Lib.hasPrefix,Lib.trimPrefix]
  ·have e1:(c==x)=false:=aK.2 (Ne.symm h);have e2:(x==c)=false:=aK.2 h;simp[Lib.hasPrefix,Lib.trimPrefix,h,List.isPrefixOf,e1,e2]
theorem Iz (l:List UInt8) (w:World):
  Calls Tryz.prog 138 #[.string (bs l), .string ⟨#[45]⟩] w λe w'=>e= .returned (.tuple #[.string (bs (fS l)), .bool (l.head?==some 45)])/\w=w':=by
 have h:=Tryz.strings_CutPrefix (bs l) ⟨#[45]⟩ w;rw[aZ,show (⟨#[45]⟩:ByteArray).data.toList= [45] from rfl,(Br l 45).1,(Br l 45).2] at h;exact h.mono λ_ _ ⟨a,b⟩=>⟨a,b.symm⟩
theorem Tp (l:List UInt8) (w:World) (h:l.head?≠some 45):
  Calls Tryz.prog 140 #[.string (bs l), .string ⟨#[43]⟩] w λe w'=>e= .returned (.string (bs (gQ l)))/\w=w':=by
 have c:=Tryz.strings_TrimPrefix (bs l) ⟨#[43]⟩ w;rw[aZ,show (⟨#[43]⟩:ByteArray).data.toList= [43] from rfl,(Br l 43).2] at c;have e:gQ l=if l.head?=some 43 then l.drop 1 else l:=by unfold gQ;simp[h]
 rw[<-e] at c;exact c.mono λ_ _ ⟨a,b⟩=>⟨a,b.symm⟩
theorem Tq {l:List UInt8} (h:(l.head?==some 45)=false):fS l=l/\l.head?≠some 45:=by
 have a:l.head?≠some 45:=aK.1 h;unfold fS;rw[if_neg a];exact⟨rfl,a⟩
theorem Tr {l:List UInt8} (h:(l.head?==some 45)=true):gQ l=fS l:=by
 have a:l.head?=some 45:=beq_iff_eq.1 h;unfold fS gQ;rw[if_pos a,if_pos (.inl a)]
theorem Ts (l:List UInt8) (w:World) (hs:l.length<=4294967296):
  Calls Tryz.prog 139 #[.string (bs l), .string ⟨#[101,69]⟩] w λe w'=>e=wF (dJ gX l)/\Below w.heap.size w w':=by
 have h:=Iv (bs l) ⟨#[101,69]⟩ gX w (λb=>by
  show (b==101||b==69)=decide (0<=Lib.indexByte [101,69] b);unfold Lib.indexByte Lib.indexByte Lib.indexByte;by_cases h1:b=101
  ·subst h1;decide
  ·by_cases h2:b=69
   ·subst h2;decide
   ·have e1:(101==b)=false:=aK.2 (Ne.symm h1);have e2:(69==b)=false:=aK.2 (Ne.symm h2);simp[h1,h2,e1,e2]) (by rw[aT];exact hs)
 rw[aZ] at h;exact h
theorem Tt (l:List UInt8) (w:World) (hs:l.length<=4294967296):
  Calls Tryz.prog 139 #[.string (bs l), .string ⟨#[46]⟩] w λe w'=>e=wF (dJ mQ l)/\Below w.heap.size w w':=by
 have h:=Iv (bs l) ⟨#[46]⟩ mQ w (λb=>by
  show (b==46)=decide (0<=Lib.indexByte [46] b);unfold Lib.indexByte Lib.indexByte;by_cases h1:b=46
  ·subst h1;decide
  ·have e1:(46==b)=false:=aK.2 (Ne.symm h1);simp[h1,e1]) (by rw[aT];exact hs)
 rw[aZ] at h;exact h
theorem Bs (l:List UInt8) (w:World) (R:Bool) (h:fG l=R):
  Calls Tryz.prog 141 #[.string (bs l)] w λe w'=>e= .returned (.bool R)/\Below w.heap.size w w':=by
 have:=Iu (bs l) w;rw[aZ,h] at this;exact this
def Tu (l:List UInt8) (e:Ending):Prop:= ∃(n lo:Bool) (a b c:List UInt8) (is:Bool),e= .returned (.tuple #[.agg #[.bool n, .bool lo, .string (bs a), .string (bs b), .string (bs c)], .bool is])/\
 iN l=if is then some ⟨n,a,b,lo,c⟩ else none
theorem Ja (l:List UInt8):(fS l).length<=l.length:=by unfold fS;split<;>simp
theorem Jb (p:UInt8->Bool) (l:List UInt8):(dJ p l).1.length<=l.length:=by
 unfold dJ;split
 ·exact aE _
 ·exact(List.takeWhile_sublist _).length_le
theorem rJ {w:World}{g:Nat}{t:TypeId}{cs:Array Value} (h:w.heap[g]?=some (.cells cs t (0,0))) (i:Nat):w.cell? ⟨g,i,none⟩=cs[i]?:=cell_of_row w g i cs t (0,0) h
theorem rK {w:World}{g:Nat}{t:TypeId}{cs:Array Value} (h:w.heap[g]?=some (.cells cs t (0,0))) (i:Nat):w.frozen? ⟨g,i,none⟩=false:=by simp[World.frozen?,h]
theorem eN {w:World}{g:Nat}{t:TypeId}{cs:Array Value} (h:w.heap[g]?=some (.cells cs t (0,0))) (i:Nat) (u:Value):(w.setCell ⟨g,i,none⟩ u).heap[g]?=some (.cells (cs.setIfInBounds i u) t (0,0)):=by
 simp[World.setCell,Array.getElem?_modify,h]
theorem kB {B:Nat}{W w:World} (h:Below B W w) {k o:Nat}{v:Value} (hk:B<=k):Below B W (w.setCell ⟨k,o,none⟩ v):=h.setCell (p:=⟨k,o,none⟩) hk v
theorem rL {w:World}{g:Nat}{t:TypeId}{a b c d e:Value} (h:w.heap[g]?=some (.cells #[a,b,c,d,e] t (0,0))):
  w.cell? ⟨g,0,none⟩=some a/\w.cell? ⟨g,1,none⟩=some b/\w.cell? ⟨g,2,none⟩=some c/\w.cell? ⟨g,3,none⟩=some d/\w.cell? ⟨g,4,none⟩=some e/\
  w.frozen? ⟨g,0,none⟩=false/\w.frozen? ⟨g,1,none⟩=false/\w.frozen? ⟨g,2,none⟩=false/\w.frozen? ⟨g,3,none⟩=false/\w.frozen? ⟨g,4,none⟩=false:=
 ⟨rJ h 0,rJ h 1,rJ h 2,rJ h 3,rJ h 4,rK h 0,rK h 1,rK h 2,rK h 3,rK h 4⟩
def Tv (has:Bool) (x:List UInt8) (lo:Bool) (xf:List UInt8):Prop:=(has=true->fG xf=true)/\xf=(if has then gQ x else [])/\lo=(has&&x.head?==some 45)
theorem Tw (l:List UInt8) (w:World) (hs:l.length<=4294967296):
  Calls Tryz.prog 100 #[.string (bs l)] w λe w'=>Tu l e/\Below w.heap.size w w':=by
 have hu:=Ja l;have c1:=Iz l;have c2:=λw=>Ts (fS l) w (by omega);have hm:=Jb gX (fS l);obtain⟨m,x,c,X⟩: ∃m x c,dJ gX (fS l)=(m,x,c):=⟨_,_,_,rfl⟩;rw[X] at c2 hm;simp only[] at hm;have c6:=λw=>Tt m w (by omega);obtain⟨wh,rs,pt,hd⟩: ∃wh rs pt,dJ mQ m=(wh,rs,pt):=⟨_,_,_,rfl⟩;rw[hd] at c6;have D:iN l=if nK c pt (if c then gQ x else []) wh rs then some ⟨l.head?==some 45,wh,rs,c&&x.head?==some 45,if c then gQ x else []⟩ else none:=by
  unfold iN;simp only[X,hd]
 obtain⟨ng,T⟩:=exQ (l.head?==some 45);rw[T] at c1 D;have C1:=hid c1;have C2:=hid c2;have C6:=hid c6;have HL:=hid D;have S:c=false->x= []:=λh=>(Hm (h ▸ X)).2;have ad:=hid S;clear c1 c2 c6 X hd D T S;have q: ∃D2,fG wh=D2:=⟨_,rfl⟩;obtain⟨D2,q⟩:=q;have C7:=hid (λw=>Bs wh w D2 q);have A: ∃D3,fG rs=D3:=⟨_,rfl⟩;obtain⟨D3,A⟩:=A;have C8:=hid (λw=>Bs rs w D3 A);have I:D2=true->0<(bs wh).size:=λh=>by
  have:=(sH (q.trans h)).1;rw[aT];cases wh with
  | nil=>exact absurd rfl this
  | cons _ _=>simp
 have ab:=hid q;have Z:=hid A;clear q A;have o: ∀h:0<(bs wh).size,wh.head?=some ((bs wh)[0]'h):=λh=>by have:=xS (bs wh) h;rw[aZ] at this;exact this
 have R:=hid (show (bs wh).toList=wh by rw[Lib.toList_data,aZ]);obtain⟨Wh,y⟩:=exQ<|bs wh;have r:=hid y;have HF:=hid o;clear o;rw[y] at R I HF;have C7':=hid (show ∀w,Calls Tryz.prog 141 #[.string Wh] w λe w'=>e= .returned (.bool D2)/\Below w.heap.size w w' from by rw[<-y];exact C7.out);have C6':=hid (show ∀w,Calls Tryz.prog 139 #[.string (bs m), .string ⟨#[46]⟩] w λe w'=>e= .returned (.tuple #[.string Wh, .string (bs rs), .bool pt])/\Below w.heap.size w w' from by rw[<-y];exact C6.out);clear C6 C7 y;go_enter Tryz.func100,Tryz.ntmps100;go_wp2_with (go_at_call 138;go_must (refine(C1.out _).mono ?_);rintro e w' ⟨rfl,rfl⟩);refine(C2.out _).mono ?_;rintro e w1 ⟨rfl,E⟩;unfold wF;have u:=hid ((E.block w.heap.size (by simp)).trans (heap_alloc_new w _));obtain⟨a0,a1,a2,a3,a4,f0,f1,f2,f3,f4⟩:=rL u.out;have G:w.heap.size<w1.heap.size:=by have:=E.size;simp at this;omega
 have z:=hid (((aB w.heap.size w).alloc (aE _) _).trans (E.mono (by simp)));clear E;go_upto_if 21 with(fail);have B: ∀xf,xf=(if c then gQ x else [])->c=true->fG xf=false->iN l=none:=λxf h1 O P=>by
  rw[HL.out,<-h1];unfold nK;rw[O,P];simp
 have V:=hid B;clear B;go_cut [4] (λs4 wx=> ∃(lo:Bool) (xf:List UInt8),s4= .string (bs xf)/\Tv c x lo xf/\
   Hid (wx.heap[w.heap.size]?=some (.cells #[.bool ng, .bool lo, .string ⟨#[]⟩, .string ⟨#[]⟩, .string ⟨#[]⟩] 149 (0,0)))/\Hid (Below w.heap.size w wx))
 case first=>
  cases c with
  | false=>
   have hx:=hid (ad.out rfl);go_wp2_with fail;go_meet;exact⟨false,x,rfl,⟨λh=>(by cases h),hx.out,rfl⟩,u.out,z.out⟩
  | true=>
   obtain⟨lo,n⟩:=exQ (x.head?==some 45);have c3:=Iz x;rw[n] at c3;have C3:=hid c3;clear c3;have C5:=hid (λw=>Bs (gQ x) w _ rfl);cases lo with
   | true=>
    have t:=Tr n;have HXE:=hid t;rw[<-t] at C3;clear t;have f:=hid n;clear n;cases hD:fG (gQ x) with
    | true=>
     rw[hD] at C5;have HD:=hid hD;clear hD;go_wp2_with (go_at_call 138;go_must (refine(C3.out _).mono ?_);rintro e w' ⟨rfl,rfl⟩);refine(C5.out _).mono ?_;rintro e w2 ⟨rfl,a⟩;have d:Hid (w2.heap[w.heap.size]?=some (.cells #[.bool ng, .bool true, .string ⟨#[]⟩, .string ⟨#[]⟩, .string ⟨#[]⟩] 149 (0,0))):=(a.block w.heap.size (by simp[World.setCell];exact G)).trans (eN u.out 1 _);have g:=hid ((z.out.setCell (p:=⟨w.heap.size,1,none⟩) (aE _) (.bool true)).trans (a.mono (by simp[World.setCell];omega)));clear a;go_wp2_with fail;go_meet;exact⟨true,gQ x,rfl,⟨λ_=>HD.out,rfl,by rw[f.out];rfl⟩,d.out,g.out⟩
    | false=>
     rw[hD] at C5;have j:=hid (V.out (gQ x) rfl rfl hD);clear hD;go_wp2_with (go_at_call 138;go_must (refine(C3.out _).mono ?_);rintro e w' ⟨rfl,rfl⟩);refine(C5.out _).mono ?_;rintro e w2 ⟨rfl,a⟩;have d:Hid (w2.heap[w.heap.size]?=some (.cells #[.bool ng, .bool true, .string ⟨#[]⟩, .string ⟨#[]⟩, .string ⟨#[]⟩] 149 (0,0))):=(a.block w.heap.size (by simp[World.setCell];exact G)).trans (eN u.out 1 _);have g:=hid ((z.out.setCell (p:=⟨w.heap.size,1,none⟩) (aE _) (.bool true)).trans (a.mono (by simp[World.setCell];omega)));clear a a0 a1 a2 a3 a4 f0 f1 f2 f3 f4;obtain⟨a0,a1,a2,a3,a4,f0,f1,f2,f3,f4⟩:=rL d.out;go_wp2_with fail;refine bodyPost_ret (v:= .tuple #[.agg #[.bool ng, .bool true, .string ⟨#[]⟩, .string ⟨#[]⟩, .string ⟨#[]⟩], .bool false]) ?_ rfl ⟨⟨ng,true,[],[],[],false,rfl,?_⟩,?_⟩
     ·simp[results,Tryz.results100,go_sem,a0,a1,a2,a3,a4]
     ·exact j.out
     ·repeat (first | refine kB ?_ (aE _) | refine Below.drew ?_)
      exact g.out
   | false=>
    obtain⟨t,H⟩:=Tq n;rw[t] at C3;have C4:=hid (λw=>Tp x w H);clear t H;have f:=hid n;clear n;cases hD:fG (gQ x) with
    | true=>
     rw[hD] at C5;have HD:=hid hD;clear hD;go_wp2_with (first | (go_at_call 138;go_must (refine(C3.out _).mono ?_);rintro e w' ⟨rfl,rfl⟩) | (go_at_call 140;go_must (refine(C4.out _).mono ?_);rintro e w' ⟨rfl,rfl⟩));refine(C5.out _).mono ?_;rintro e w2 ⟨rfl,a⟩;have d:Hid (w2.heap[w.heap.size]?=some (.cells #[.bool ng, .bool false, .string ⟨#[]⟩, .string ⟨#[]⟩, .string ⟨#[]⟩] 149 (0,0))):=(a.block w.heap.size (by simp[World.setCell];exact G)).trans (eN u.out 1 _);have g:=hid ((z.out.setCell (p:=⟨w.heap.size,1,none⟩) (aE _) (.bool false)).trans (a.mono (by simp[World.setCell];omega)));clear a;go_wp2_with fail;go_meet;exact⟨false,gQ x,rfl,⟨λ_=>HD.out,rfl,by rw[f.out];rfl⟩,d.out,g.out⟩
    | false=>
     rw[hD] at C5;have j:=hid (V.out (gQ x) rfl rfl hD);clear hD;go_wp2_with (first | (go_at_call 138;go_must (refine(C3.out _).mono ?_);rintro e w' ⟨rfl,rfl⟩) | (go_at_call 140;go_must (refine(C4.out _).mono ?_);rintro e w' ⟨rfl,rfl⟩));refine(C5.out _).mono ?_;rintro e w2 ⟨rfl,a⟩;have d:Hid (w2.heap[w.heap.size]?=some (.cells #[.bool ng, .bool false, .string ⟨#[]⟩, .string ⟨#[]⟩, .string ⟨#[]⟩] 149 (0,0))):=(a.block w.heap.size (by simp[World.setCell];exact G)).trans (eN u.out 1 _);have g:=hid ((z.out.setCell (p:=⟨w.heap.size,1,none⟩) (aE _) (.bool false)).trans (a.mono (by simp[World.setCell];omega)));clear a a0 a1 a2 a3 a4 f0 f1 f2 f3 f4;obtain⟨a0,a1,a2,a3,a4,f0,f1,f2,f3,f4⟩:=rL d.out;go_wp2_with fail;refine bodyPost_ret (v:= .tuple #[.agg #[.bool ng, .bool false, .string ⟨#[]⟩, .string ⟨#[]⟩, .string ⟨#[]⟩], .bool false]) ?_ rfl ⟨⟨ng,false,[],[],[],false,rfl,?_⟩,?_⟩
     ·simp[results,Tryz.results100,go_sem,a0,a1,a2,a3,a4]
     ·exact j.out
     ·repeat (first | refine kB ?_ (aE _) | refine Below.drew ?_)
      exact g.out
 case rest=>
  obtain⟨lo,xf,rfl,HX,K,Q⟩:=hcut;have N:=hid HX;clear HX;have LITo: ∀b:Bool,nK c pt xf wh rs=b->iN l=if b then some ⟨ng,wh,rs,lo,xf⟩ else none:=λb hb=>by
   obtain⟨_,O,P⟩:=N.out;rw[HL.out,<-O,<-P,hb]
  have LITx: ∀b2 b3:Bool,D2=b2->(!pt||D3)=b3-> ∀b4:Bool,((wh== [48])||(wh.head? !=some 48))=b4->nK c pt xf wh rs=(b2&&b3&&b4):=λb2 b3 O P b4 h4=>by
   obtain⟨h1,_,_⟩:=N.out;unfold nK;rw[ab.out,Z.out,O,P,h4];cases c with
   | false=>rfl
   | true=>rw[h1 rfl];rfl
  have f:=hid LITo;have s:=hid LITx;clear LITo LITx;have ag:w.heap.size<wc.heap.size:=aF K;have U:=hid K;have aa:=hid Q;clear K Q a0 a1 a2 a3 a4 f0 f1 f2 f3 f4;obtain⟨a0,a1,a2,a3,a4,f0,f1,f2,f3,f4⟩:=rL U.out;go_wp2_with fail;refine(C6'.out _).mono ?_;rintro e w2 ⟨rfl,a⟩;have d:Hid (w2.heap[w.heap.size]?=some (.cells #[.bool ng, .bool lo, .string ⟨#[]⟩, .string ⟨#[]⟩, .string (bs xf)] 149 (0,0))):=(a.block w.heap.size (by simp[World.setCell];exact ag)).trans (eN U.out 4 _);have af:w.heap.size<w2.heap.size:=aF d.out;have g:=hid ((aa.out.setCell (p:=⟨w.heap.size,4,none⟩) (aE _) (.string (bs xf))).trans (a.mono (by simp[World.setCell];omega)));clear a a0 a1 a2 a3 a4 f0 f1 f2 f3 f4;obtain⟨a0,a1,a2,a3,a4,f0,f1,f2,f3,f4⟩:=rL d.out;go_wp2_with fail;refine(C7'.out _).mono ?_;rintro e w3 ⟨rfl,L⟩;have M:Hid (w3.heap[w.heap.size]?=some (.cells #[.bool ng, .bool lo, .string Wh, .string (bs rs), .string (bs xf)] 149 (0,0))):=(L.block w.heap.size (by simp[World.setCell];exact af)).trans (eN (eN d.out 2 _) 3 _);have ae:w.heap.size<w3.heap.size:=aF M.out;have F:=hid (((g.out.setCell (p:=⟨w.heap.size,2,none⟩) (aE _) (.string Wh)).setCell (p:=⟨w.heap.size,3,none⟩) (aE _) (.string (bs rs))).trans (L.mono (by simp[World.setCell];omega)));clear L a0 a1 a2 a3 a4 f0 f1 f2 f3 f4;obtain⟨a0,a1,a2,a3,a4,f0,f1,f2,f3,f4⟩:=rL M.out;cases D2 with
  | false=>
   have j:=hid (f.out false ((s.out false _ rfl rfl _ rfl).trans (by simp)));go_wp2_with fail;refine bodyPost_ret (v:= .tuple #[.agg #[.bool ng, .bool lo, .string Wh, .string (bs rs), .string (bs xf)], .bool false]) ?_ rfl ⟨⟨ng,lo,wh,rs,xf,false,by rw[r.out],?_⟩,?_⟩
   ·simp[results,Tryz.results100,go_sem,a0,a1,a2,a3,a4]
   ·exact j.out
   ·repeat (first | refine kB ?_ (aE _) | refine Below.drew ?_)
    exact F.out
  | true=>
   have W:=I rfl;have hpz:(0:Int)<(Wh.size:Int):=(by omega);obtain⟨b4,i,k⟩: ∃b4,((wh== [48])||(wh.head? !=some 48))=b4/\((Wh.toList== [48])=true/\b4=true\/(Wh.toList== [48])=false/\(((Wh[0]'W).toNat:Int) !=48)=b4):=by
    refine⟨_,rfl,?_⟩;have hh:=HF.out W;rw[R.out,hh];by_cases g1:wh= [48]
    ·left;rw[g1];exact⟨rfl,rfl⟩
    ·right;rw[aK.2 g1];refine⟨rfl,?_⟩;rw[Bool.false_or];by_cases g2:(Wh[0]'W)=48
     ·rw[g2];rfl
     ·rw[show (((Wh[0]'W).toNat:Int) !=48)=true from by rw[gD];intro h;apply g2;apply UInt8.toNat_inj.1;rw[show (48:UInt8).toNat=48 from rfl];omega];symm;rw[gD];intro h;exact g2 (bD h)
   cases pt with
   | false=>
    rcases k with⟨e1,rfl⟩ | ⟨e1,e2⟩
    ·have j:=hid (f.out true ((s.out true true rfl rfl _ i).trans rfl));clear i;go_wp2_with fail;go_region
     all_goals go_wp2_with fail
     all_goals
      refine bodyPost_ret (v:= .tuple #[.agg #[.bool ng, .bool lo, .string Wh, .string (bs rs), .string (bs xf)], .bool true]) ?_ rfl ⟨⟨ng,lo,wh,rs,xf,true,by rw[r.out],?_⟩,?_⟩
      ·simp[results,Tryz.results100,go_sem,a0,a1,a2,a3,a4]
      ·exact j.out
      ·repeat (first | refine kB ?_ (aE _) | refine Below.drew ?_)
       exact F.out
    ·have j:=hid (f.out b4 ((s.out true true rfl rfl _ i).trans (by simp)));clear i;go_wp2_with fail;go_region
     all_goals go_wp2_with fail
     all_goals
      refine bodyPost_ret (v:= .tuple #[.agg #[.bool ng, .bool lo, .string Wh, .string (bs rs), .string (bs xf)], .bool b4]) ?_ rfl ⟨⟨ng,lo,wh,rs,xf,b4,by rw[r.out],?_⟩,?_⟩
      ·simp[results,Tryz.results100,go_sem,a0,a1,a2,a3,a4]
      ·exact j.out
      ·repeat (first | refine kB ?_ (aE _) | refine Below.drew ?_)
       exact F.out
   | true=>
    go_wp2_with fail;refine(C8.out _).mono ?_;rintro e w4 ⟨rfl,C⟩;have Y:Hid (w4.heap[w.heap.size]?=some (.cells #[.bool ng, .bool lo, .string Wh, .string (bs rs), .string (bs xf)] 149 (0,0))):=(C.block w.heap.size ae).trans M.out;have J:=hid (F.out.trans (C.mono (by omega)));clear C a0 a1 a2 a3 a4 f0 f1 f2 f3 f4;obtain⟨a0,a1,a2,a3,a4,f0,f1,f2,f3,f4⟩:=rL Y.out;cases D3 with
    | false=>
     have j:=hid (f.out false ((s.out true false rfl rfl _ rfl).trans (by simp)));clear k i;go_wp2_with fail;refine bodyPost_ret (v:= .tuple #[.agg #[.bool ng, .bool lo, .string Wh, .string (bs rs), .string (bs xf)], .bool false]) ?_ rfl ⟨⟨ng,lo,wh,rs,xf,false,by rw[r.out],?_⟩,?_⟩
     ·simp[results,Tryz.results100,go_sem,a0,a1,a2,a3,a4]
     ·exact j.out
     ·repeat (first | refine kB ?_ (aE _) | refine Below.drew ?_)
      exact J.out
    | true=>
     rcases k with⟨e1,rfl⟩ | ⟨e1,e2⟩
     ·have j:=hid (f.out true ((s.out true true rfl rfl _ i).trans rfl));clear i;go_wp2_with fail;go_region
      all_goals go_wp2_with fail
      all_goals
       refine bodyPost_ret (v:= .tuple #[.agg #[.bool ng, .bool lo, .string Wh, .string (bs rs), .string (bs xf)], .bool true]) ?_ rfl ⟨⟨ng,lo,wh,rs,xf,true,by rw[r.out],?_⟩,?_⟩
       ·simp[results,Tryz.results100,go_sem,a0,a1,a2,a3,a4]
       ·exact j.out
       ·repeat (first | refine kB ?_ (aE _) | refine Below.drew ?_)
        exact J.out
     ·have j:=hid (f.out b4 ((s.out true true rfl rfl _ i).trans (by simp)));clear i;go_wp2_with fail;go_region
      all_goals go_wp2_with fail
      all_goals
       refine bodyPost_ret (v:= .tuple #[.agg #[.bool ng, .bool lo, .string Wh, .string (bs rs), .string (bs xf)], .bool b4]) ?_ rfl ⟨⟨ng,lo,wh,rs,xf,b4,by rw[r.out],?_⟩,?_⟩
       ·simp[results,Tryz.results100,go_sem,a0,a1,a2,a3,a4]
       ·exact j.out
       ·repeat (first | refine kB ?_ (aE _) | refine Below.drew ?_)
        exact J.out
theorem Jc (l:List UInt8) (w:World):
  Calls Tryz.prog 94 #[.string (bs l), .string ⟨#[48]⟩] w λe w'=>e= .returned (.string (bs (gK l)))/\w=w':=by
 have h:=Tryz.strings_TrimLeft_one (bs l) 48 (by decide) w;rw[aZ] at h;exact h.mono λ_ _ ⟨a,b⟩=>⟨a,b.symm⟩
theorem Tx (l:List UInt8) (w:World) (hl:l.length<=9223372036854775807):
  Calls Tryz.prog 101 #[.string (bs l), .string ⟨#[48]⟩] w λe w'=>e= .returned (.string (bs (dE l)))/\w=w':=by
 have h:=Tryz.strings_TrimRight_one (bs l) 48 (by decide) w (by rw[aT];exact hl);rw[aZ] at h;exact h.mono λ_ _ ⟨a,b⟩=>⟨a,b.symm⟩
theorem Ty (p:UInt8->Bool) (l:List UInt8):(dJ p l).1.length+(dJ p l).2.1.length<=l.length:=by
 have h:=congrArg List.length (List.takeWhile_append_dropWhile (p:=λc=>!p c) (l:=l));rw[aW] at h;unfold dJ;split
 ·simp
 ·rename_i e;rw[e] at h;simp only[aV] at h;simp only[];omega
theorem Tz {l:List UInt8}{x:rY} (h:iN l=some x):x.whole.length+x.rest.length<=l.length:=by
 unfold iN at h;simp only[] at h;generalize (if(dJ gX (fS l)).2.2=true then gQ (dJ gX (fS l)).2.1 else [])=xx at h;split at h
 ·injection h with h;subst h;have h1:=Ty mQ (dJ gX (fS l)).1;have h2:=Jb gX (fS l);have h3:=Ja l;simp only[];omega
 ·cases h
theorem Ua {x:rY}{k:Int}{D:List UInt8} (h1:fG x.whole=true) (h2:x.rest.all dZ=true) (hlen: ¬1000<x.whole.length+x.rest.length) (hD:gK (x.whole++x.rest)=D) (hd:D≠ []):
  jV ⟨x.neg,dE D,k⟩=decide (¬(k< -1000000\/1000000<k)):=by
 have a:D.all dZ=true:=hD ▸ Ay (by rw[List.all_append,cT];exact⟨(sH h1).2,h2⟩);have d:=Hn (l:=D) (hD ▸ Ho _) hd;have hl1:D.length<=x.whole.length+x.rest.length:=by
  have:=(List.dropWhile_sublist (p:=λc:UInt8=>c==48) (l:=x.whole++x.rest)).length_le;rw[aW] at this;exact hD ▸ this
 have b:=congrArg List.length (vR D);rw[aW] at b;unfold jV;apply decide_eq_decide.2;constructor
 ·rintro(h | h)
  ·injection h with _ h _;exact absurd h d.1
  ·have e:=h.2.2.2.2;simp only[] at e;omega
 ·intro h;exact .inr ⟨Ax d.1 (Hp a),by show (dE D).length<=1000;omega,d.2,Hk _,by simp only[];omega,by simp only[];omega⟩
def gG (n:eG):Value:= .agg #[.bool n.neg, .string (bs n.dig), .int .i64 n.exp]
def uM (r:eG×Int):Ending:= .returned (.tuple #[gG r.1, .int .i64 r.2])
theorem kS {w:World}{g:Nat}{t:TypeId}{a b c:Value} (h:w.heap[g]?=some (.cells #[a,b,c] t (0,0))):
  w.cell? ⟨g,0,none⟩=some a/\w.cell? ⟨g,1,none⟩=some b/\w.cell? ⟨g,2,none⟩=some c/\
  w.frozen? ⟨g,0,none⟩=false/\w.frozen? ⟨g,1,none⟩=false/\w.frozen? ⟨g,2,none⟩=false:=
 ⟨rJ h 0,rJ h 1,rJ h 2,rK h 0,rK h 1,rK h 2⟩
theorem yM (l:List UInt8) (w:World) (hs:l.length<=4294967296):
  Calls Tryz.prog 63 #[.string (bs l)] w λe w'=>e=uM (cL l)/\Below w.heap.size w w':=by
 obtain⟨R,hR⟩:=exQ<|cL l;rw[hR];have HR:=hid hR;clear hR;have CR:=hid (λw=>Tw l w hs);go_enter Tryz.func63,Tryz.ntmps63;go_wp2_with fail;refine(CR.out _).mono ?_;rintro e w1 ⟨⟨n,lo,a,b,c,is,rfl,g⟩,P⟩;have HL:=hid g;clear g;have C1:=hid (Jc c);have E:=hid (((aB w.heap.size w).alloc (aE _) _).trans (P.mono (by simp)));have t:=hid ((P.block w.heap.size (by simp)).trans (heap_alloc_new w _));have J:w.heap.size<w1.heap.size:=aF t.out;clear P;obtain⟨r0,r1,r2,g0,g1,g2⟩:=kS t.out;cases is with
 | false=>
  obtain rfl:R=(eM,2):=by have W:iN l=none:=HL.out;have C:=HR.out;unfold cL at C;rw[W] at C;exact C.symm
  go_wp2_with (go_at_call 94;go_must (refine(C1.out _).mono ?_);rintro e w' ⟨rfl,rfl⟩);have s:=kS ((Below.heap_alloc (((w1.setCell ⟨w.heap.size,0,none⟩ (.bool false)).setCell ⟨w.heap.size,1,none⟩ (.string ⟨#[]⟩)).setCell ⟨w.heap.size,2,none⟩ (.int .i64 0)) (.cells #[.bool n, .bool lo, .string (bs a), .string (bs b), .string (bs c)] 149) w.heap.size (by simp[World.setCell];exact J)).trans (eN (eN (eN t.out 0 (.bool false)) 1 (.string ⟨#[]⟩)) 2 (.int .i64 0)));clear r0 r1 r2 g0 g1 g2;obtain⟨r0,r1,r2,g0,g1,g2⟩:=s;refine bodyPost_ret (v:= .tuple #[gG eM, .int .i64 2]) ?_ rfl ⟨rfl,?_⟩
  ·simp[results,Tryz.results63,go_sem,r0,r1,r2,gG,eM];rfl
  ·refine Below.alloc ?_ (by simp[World.setCell];omega) _
   repeat (first | refine kB ?_ (aE _) | refine Below.drew ?_)
   exact E.out
 | true=>
  have g:iN l=some ⟨n,a,b,lo,c⟩:=HL.out;have Y:=Tz g;obtain⟨p1,p2,p3⟩:=Hq g;have d:nL ⟨n,a,b,lo,c⟩=R:=by rw[<-HR.out];unfold cL;rw[g]
  simp only[] at Y p1 p2 p3;unfold nL at d;simp only[] at d;have sa:=aT a;have sb:=aT b;have sc:=aT (gK c);clear HL HR g;by_cases t1:1000<a.length+b.length
  ·rw[if_pos t1] at d;subst d;clear p1 p2 p3;go_wp2_with (go_at_call 94;go_must (refine(C1.out _).mono ?_);rintro e w' ⟨rfl,rfl⟩);have s:=kS ((Below.heap_alloc (((w1.setCell ⟨w.heap.size,0,none⟩ (.bool false)).setCell ⟨w.heap.size,1,none⟩ (.string ⟨#[]⟩)).setCell ⟨w.heap.size,2,none⟩ (.int .i64 0)) (.cells #[.bool n, .bool lo, .string (bs a), .string (bs b), .string (bs c)] 149) w.heap.size (by simp[World.setCell];exact J)).trans (eN (eN (eN t.out 0 (.bool false)) 1 (.string ⟨#[]⟩)) 2 (.int .i64 0)));clear r0 r1 r2 g0 g1 g2;obtain⟨r0,r1,r2,g0,g1,g2⟩:=s;refine bodyPost_ret (v:= .tuple #[gG eM, .int .i64 3]) ?_ rfl ⟨rfl,?_⟩
   ·simp[results,Tryz.results63,go_sem,r0,r1,r2,gG,eM];rfl
   ·refine Below.alloc ?_ (by simp[World.setCell];omega) _
    repeat (first | refine kB ?_ (aE _) | refine Below.drew ?_)
    exact E.out
  rw[if_neg t1] at d;by_cases t2:9<(gK c).length
  ·rw[if_pos t2] at d;subst d;clear p1 p2 p3;go_wp2_with (go_at_call 94;go_must (refine(C1.out _).mono ?_);rintro e w' ⟨rfl,rfl⟩);have s:=kS ((Below.heap_alloc (((w1.setCell ⟨w.heap.size,0,none⟩ (.bool false)).setCell ⟨w.heap.size,1,none⟩ (.string ⟨#[]⟩)).setCell ⟨w.heap.size,2,none⟩ (.int .i64 0)) (.cells #[.bool n, .bool lo, .string (bs a), .string (bs b), .string (bs c)] 149) w.heap.size (by simp[World.setCell];exact J)).trans (eN (eN (eN t.out 0 (.bool false)) 1 (.string ⟨#[]⟩)) 2 (.int .i64 0)));clear r0 r1 r2 g0 g1 g2;obtain⟨r0,r1,r2,g0,g1,g2⟩:=s;refine bodyPost_ret (v:= .tuple #[gG eM, .int .i64 4]) ?_ rfl ⟨rfl,?_⟩
   ·simp[results,Tryz.results63,go_sem,r0,r1,r2,gG,eM];rfl
   ·refine Below.alloc ?_ (by simp[World.setCell];omega) _
    repeat (first | refine kB ?_ (aE _) | refine Below.drew ?_)
    exact E.out
  rw[if_neg t2] at d;rw[<-Gb c] at d;obtain⟨Z,hZ⟩:=exQ<|gK c;have af:Z.all dZ=true:=hZ ▸ Ay p3;rw[hZ] at d t2 C1 sc;clear hZ p3;have M:(bs Z).data.toList=Z:=aZ Z;obtain⟨S,hS⟩:=exQ<|bs Z;rw[hS] at M C1 sc;have hsz:S.size<=9:=by rw[sc];omega
  have HE:=hid d;have HZ:=hid af;have N:=hid M;have L:=hid p1;have Q:=hid p2;have z:=hid t1;clear d af M p1 p2 t2 hS sc;have aa: ∀p (h:p<S.size),dZ (S[p]'h)=true:=λp h=>by
   have W:=HZ.out;rw[<-N.out,fH] at W;exact W _ (Array.getElem_mem_toList _)
  have ad: ∀p,0<=fM (S.data.toList.take p)/\fM (S.data.toList.take p)<1000000000:=λp=>by
   have W:(S.data.toList.take p).all dZ=true:=by
    have C:=HZ.out;rw[<-N.out] at C;rw[fH] at C ⊢;exact λx hx=>C x (List.take_subset _ _ hx)
   have h3:=Qn _ W;have h4:(S.data.toList.take p).length<=9:=by rw[cD];have:S.data.toList.length=S.size:=rfl;omega
   have h5:(10:Int) ^ (S.data.toList.take p).length<=10 ^ 9:=(by exact_mod_cast Nat.pow_le_pow_right (n:=10) (by decide) h4);omega
  have T:=hid aa;have y:=hid ad;clear aa ad;go_wp2_with (go_at_call 94;go_must (refine(C1.out _).mono ?_);rintro e w' ⟨rfl,rfl⟩);go_loopw [7,9] (λs7 _ wr=> ∃p:Nat,p<=S.size/\s7= .int .i64 (fM (S.data.toList.take p))/\Hid (wr.heap[w1.heap.size+1]?=some (.stringIter S p))/\Hid (wr.heap[w1.heap.size]?=some (.cells #[.bool n, .bool lo, .string (bs a), .string (bs b), .string (bs c)] 149 (0,0)))/\Hid (wr.heap[w.heap.size]?=some (.cells #[.bool false, .string ⟨#[]⟩, .int .i64 0] 113 (0,0)))/\Hid (Below w.heap.size w wr)) (λ_ _ wr=>S.size-wr.iterPos (w1.heap.size+1))
  case atStart=>
   have F:(w1.alloc (.cells #[.bool n, .bool lo, .string (bs a), .string (bs b), .string (bs c)] 149)).heap.size=w1.heap.size+1:=(by simp);refine⟨0,by omega,rfl,?_,?_,?_,?_⟩
   ·have:=World.iter_heap (w1.alloc (.cells #[.bool n, .bool lo, .string (bs a), .string (bs b), .string (bs c)] 149)) S 0;rw[F] at this;exact this
   ·exact(Below.heap_alloc _ _ _ (by rw[F];omega)).trans (heap_alloc_new w1 _)
   ·exact(Below.heap_alloc _ _ _ (by rw[F];omega)).trans ((Below.heap_alloc _ _ _ J).trans t.out)
   ·exact(E.out.alloc (by omega) _).alloc (by rw[F];omega) _
  case round=>
   obtain⟨p,hp,rfl,HI,HX,O,HW⟩:=hrel;by_cases hlt:p<S.size
   ·have X: ∀ty,(Instr.next (.pointer (some ⟨w1.heap.size+1,0,none⟩)) true ty).run Tryz.prog wr= .ok (.tuple #[.bool true, .int .i64 p, .int .i32 (bQ S p)]) (wr.iterAt (w1.heap.size+1) S (p+bJ S p)):=λty=>Lib.run_next_any_at wr _ S p ty HI.out hlt;have U:=T.out p hlt;obtain⟨e1,e2⟩:=It S p hlt U;have hb:=of_decide_eq_true U;rw[e1,e2] at X;have q:fM (S.data.toList.take (p+1))=10*fM (S.data.toList.take p)+(((S[p]'hlt).toNat:Int)-48):=(by rw[Bq S p hlt,Ak]);have b1:=y.out p;have b2:=y.out (p+1);have ae:=hid (Lib.iterAt_heap wr (w1.heap.size+1) S p (p+1) HI.out);have aj:=hid (Lib.below_iterAt HW.out (show w.heap.size<=w1.heap.size+1 by omega) S (p+1));have HM:=hid (iterPos_of HI.out);have ah:Hid ((wr.iterAt (w1.heap.size+1) S (p+1)).heap[w1.heap.size]?=some (.cells #[.bool n, .bool lo, .string (bs a), .string (bs b), .string (bs c)] 149 (0,0))):=by
     exact(Lib.iterAt_other wr _ _ S _ (by omega)).trans HX.out
    have ai:Hid ((wr.iterAt (w1.heap.size+1) S (p+1)).heap[w.heap.size]?=some (.cells #[.bool false, .string ⟨#[]⟩, .int .i64 0] 113 (0,0))):=by
     exact(Lib.iterAt_other wr _ _ S _ (by omega)).trans O.out
    generalize fM (S.data.toList.take p)=V at *;have HS:=hid q;rw[q] at b2;clear e1 e2 U q;go_wp2_with fail;go_roundw
    case rel=>exact⟨p+1,by omega,by rw[HS.out],ae.out,ah.out,ai.out,aj.out⟩
    case measure=>rw[iterPos_of ae.out,HM.out];omega
   ·have X: ∀ty,(Instr.next (.pointer (some ⟨w1.heap.size+1,0,none⟩)) true ty).run Tryz.prog wr= .ok (.tuple #[.bool false]) wr:=λty=>Lib.run_next_end_at wr _ S p ty HI.out hlt;have hV:fM (S.data.toList.take p)=fM Z:=by
     rw[uL (by have:S.data.toList.length=S.size:=rfl;omega),N.out]
    have b1:=y.out p;rw[hV] at b1 ⊢;clear hV;have r:=HE.out;generalize fM Z=V at *;obtain⟨x0,x1,x2,x3,x4,f0,f1,f2,f3,f4⟩:=rL HX.out;obtain⟨r0,r1,r2,g0,g1,g2⟩:=kS O.out;obtain⟨D,hD⟩:=exQ<|gK (a++b);rw[hD] at r;have C2:=hid (show ∀w,Calls Tryz.prog 94 #[.string (bs a++bs b), .string ⟨#[48]⟩] w λe w'=>e= .returned (.string (bs D))/\w=w' from λw=>by rw[vK,<-hD];exact Jc (a++b) w);have hDl:D.length<=1000:=by
     have:=(List.dropWhile_sublist (p:=λc:UInt8=>c==48) (l:=a++b)).length_le;rw[aW] at this;have C:(gK (a++b)).length<=a.length+b.length:=this;rw[hD] at C;have:=z.out;omega
    have ab:=congrArg List.length (vR D);rw[aW] at ab;have C3:=hid (λw=>Tx D w (by omega));have C4:=hid (λk w=>Iy n (bs (dE D)) k w (by rw[aT];omega));have sD:=aT D;have sT:=aT (dE D);have htl:(dE D).length<=D.length:=(by omega);clear ab;have G:=hid (λj k=>Ua (x:=⟨n,a,b,lo,c⟩) (k:=k) L.out Q.out z.out hD j);have H:(bs D).toList=D:=(by rw[Lib.toList_data,aZ]);clear hD;have hbl:b.length<=1000:=by have:=z.out;omega
    by_cases j:D= []
    ·rw[if_pos j] at r;rw[j] at H;have m:=hid r;clear r;cases lo
     all_goals
      go_wp2_with (go_at_call 94;go_must (refine(C2.out _).mono ?_);rintro e w' ⟨rfl,rfl⟩);clear r0 r1 r2 g0 g1 g2;have s:=kS (eN (eN (eN O.out 0 (.bool false)) 1 (.string ⟨#[]⟩)) 2 (.int .i64 0));obtain⟨r0,r1,r2,g0,g1,g2⟩:=s;refine bodyPost_ret (v:= .tuple #[gG eM, .int .i64 0]) ?_ rfl ⟨by rw[<-m.out];rfl,?_⟩
      ·simp[results,Tryz.results63,go_sem,r0,r1,r2,gG,eM];try rfl
      ·repeat (first | refine kB ?_ (aE _) | refine Below.drew ?_)
       exact HW.out
    ·rw [if_neg j] at r;have ag: ¬(bs D).toList= []:=by rw[H];exact j
     have hDn2:((bs D).toList== [])=false:=aK.2 ag;have hDn3:(bs D).toList.isEmpty=false:=by rw[H];cases D with | nil=>exact absurd rfl j | cons _ _=>rfl
     clear H;have I:=hid r;clear r;cases lo with
     | false=>
      have f:(if V-(b.length:Int)+((D.length:Int)-((dE D).length:Int))< -1000000\/1000000<V-(b.length:Int)+((D.length:Int)-((dE D).length:Int)) then((eM,4):eG×Int) else(⟨n,dE D,V-(b.length:Int)+((D.length:Int)-((dE D).length:Int))⟩,0))=R:=I.out;rw[show V-(b.length:Int)+((D.length:Int)-((dE D).length:Int))=V-(b.length:Int)+(D.length:Int)-((dE D).length:Int) from by omega] at f;have B:=hid f;clear f;go_wp2_with (first | (go_at_call 94;go_must (refine(C2.out _).mono ?_);rintro e w' ⟨rfl,rfl⟩) | (go_at_call 101;go_must (refine(C3.out _).mono ?_);rintro e w' ⟨rfl,rfl⟩));refine(C4.out _ _).mono ?_;rw[aZ,G.out j];rintro e w4 ⟨rfl,i⟩;have f:=B.out;clear B I G C1 C2 C3 C4 HE L Q z T y;generalize V-(b.length:Int)+(D.length:Int)-((dE D).length:Int)=K at f i ⊢;have HN:=hid ((i.block wr.heap.size (by simp)).trans (heap_alloc_new wr _));have A:w.heap.size<wr.heap.size:=aF O.out;have o:=hid ((i.block w.heap.size (by simp;omega)).trans ((Below.heap_alloc _ _ _ A).trans O.out));have u:=hid ((HW.out.alloc (Nat.le_of_lt A) _).trans (i.mono (by simp;omega)));clear i r0 r1 r2 g0 g1 g2 x0 x1 x2 x3 x4 f0 f1 f2 f3 f4;obtain⟨r0,r1,r2,g0,g1,g2⟩:=kS o.out;obtain⟨m0,m1,m2,q0,q1,q2⟩:=kS HN.out;by_cases hk:K< -1000000\/1000000<K
      ·rw[if_pos hk] at f;have m:=hid f;clear f;rw[aH (λh=>h hk)];go_wp2_with fail;have s:=kS (eN (eN (eN o.out 0 (.bool false)) 1 (.string ⟨#[]⟩)) 2 (.int .i64 0));clear r0 r1 r2 g0 g1 g2;obtain⟨r0,r1,r2,g0,g1,g2⟩:=s;refine bodyPost_ret (v:= .tuple #[gG eM, .int .i64 4]) ?_ rfl ⟨by rw[<-m.out];rfl,?_⟩
       ·simp[results,Tryz.results63,go_sem,r0,r1,r2,gG,eM];try rfl
       ·repeat (first | refine kB ?_ (aE _) | refine Below.drew ?_)
        exact u.out
      ·rw[if_neg hk] at f;have m:=hid f;clear f;rw[aM hk];go_wp2_with fail;have s:=kS (eN (eN (eN o.out 0 (.bool n)) 1 (.string (bs (dE D)))) 2 (.int .i64 K));clear r0 r1 r2 g0 g1 g2;obtain⟨r0,r1,r2,g0,g1,g2⟩:=s;refine bodyPost_ret (v:= .tuple #[gG ⟨n,dE D,K⟩, .int .i64 0]) ?_ rfl ⟨by rw[<-m.out];rfl,?_⟩
       ·simp[results,Tryz.results63,go_sem,r0,r1,r2,gG,eM];try rfl
       ·repeat (first | refine kB ?_ (aE _) | refine Below.drew ?_)
        exact u.out
     | true=>
      have f:(if -V-(b.length:Int)+((D.length:Int)-((dE D).length:Int))< -1000000\/1000000< -V-(b.length:Int)+((D.length:Int)-((dE D).length:Int)) then((eM,4):eG×Int) else(⟨n,dE D, -V-(b.length:Int)+((D.length:Int)-((dE D).length:Int))⟩,0))=R:=I.out;rw[show -V-(b.length:Int)+((D.length:Int)-((dE D).length:Int))= -V-(b.length:Int)+(D.length:Int)-((dE D).length:Int) from by omega] at f;have B:=hid f;clear f;go_wp2_with (first | (go_at_call 94;go_must (refine(C2.out _).mono ?_);rintro e w' ⟨rfl,rfl⟩) | (go_at_call 101;go_must (refine(C3.out _).mono ?_);rintro e w' ⟨rfl,rfl⟩));refine(C4.out _ _).mono ?_;rw[aZ,G.out j];rintro e w4 ⟨rfl,i⟩;have f:=B.out;clear B I G C1 C2 C3 C4 HE L Q z T y;generalize -V-(b.length:Int)+(D.length:Int)-((dE D).length:Int)=K at f i ⊢;have HN:=hid ((i.block wr.heap.size (by simp)).trans (heap_alloc_new wr _));have A:w.heap.size<wr.heap.size:=aF O.out;have o:=hid ((i.block w.heap.size (by simp;omega)).trans ((Below.heap_alloc _ _ _ A).trans O.out));have u:=hid ((HW.out.alloc (Nat.le_of_lt A) _).trans (i.mono (by simp;omega)));clear i r0 r1 r2 g0 g1 g2 x0 x1 x2 x3 x4 f0 f1 f2 f3 f4;obtain⟨r0,r1,r2,g0,g1,g2⟩:=kS o.out;obtain⟨m0,m1,m2,q0,q1,q2⟩:=kS HN.out;by_cases hk:K< -1000000\/1000000<K
      ·rw[if_pos hk] at f;have m:=hid f;clear f;rw[aH (λh=>h hk)];go_wp2_with fail;have s:=kS (eN (eN (eN o.out 0 (.bool false)) 1 (.string ⟨#[]⟩)) 2 (.int .i64 0));clear r0 r1 r2 g0 g1 g2;obtain⟨r0,r1,r2,g0,g1,g2⟩:=s;refine bodyPost_ret (v:= .tuple #[gG eM, .int .i64 4]) ?_ rfl ⟨by rw[<-m.out];rfl,?_⟩
       ·simp[results,Tryz.results63,go_sem,r0,r1,r2,gG,eM];try rfl
       ·repeat (first | refine kB ?_ (aE _) | refine Below.drew ?_)
        exact u.out
      ·rw[if_neg hk] at f;have m:=hid f;clear f;rw[aM hk];go_wp2_with fail;have s:=kS (eN (eN (eN o.out 0 (.bool n)) 1 (.string (bs (dE D)))) 2 (.int .i64 K));clear r0 r1 r2 g0 g1 g2;obtain⟨r0,r1,r2,g0,g1,g2⟩:=s;refine bodyPost_ret (v:= .tuple #[gG ⟨n,dE D,K⟩, .int .i64 0]) ?_ rfl ⟨by rw[<-m.out];rfl,?_⟩
       ·simp[results,Tryz.results63,go_sem,r0,r1,r2,gG,eM];try rfl
       ·repeat (first | refine kB ?_ (aE _) | refine Below.drew ?_)
        exact u.out
theorem Ub (n:eG) (w:World) (hd:n.dig.length<=4294967296) (R:Bool) (h:jV n=R):
  Calls Tryz.prog 102 #[.agg #[.bool n.neg, .string (bs n.dig), .int .i64 n.exp]] w λen w'=>en= .returned (.bool R)/\Below w.heap.size w w':=by
 have:=Iy n.neg (bs n.dig) n.exp w (by rw[aT];omega);rw[aZ,h] at this;exact this
theorem Bt {n:eG} (h:jV n=true):n.dig.length<=1000/\ -1000000<=n.exp/\n.exp<=1000000:=by
 rcases of_decide_eq_true h with h | h
 ·subst h;simp[eM]
 ·exact⟨h.2.1,h.2.2.2.2.1,h.2.2.2.2.2⟩
def sR (w:World):Prop:=Lib.TabIs Tryz.prog w "internal/strconv.uint64pow10" .u64 Lib.pow10Tab
theorem sR.keep {w w':World} (h:sR w) (hb:Below w.heap.size w w'):sR w':=Gd h hb
theorem Uc (w:World) (k:Nat) (os:Array Obj):Below w.heap.size w (Go.Sort.grow (w.drewN k) os):=
 ⟨rfl,rfl,rfl,by simp[Go.Sort.grow],λj a=>Go.Sort.heap_grow_old (w.drewN k) os a⟩
theorem Ud (n:Int) (w:World) (h0: -9223372036854775808<=n/\n<=9223372036854775807) (hT:sR w):
  Calls Tryz.prog 103 #[.int .i64 n] w λe w'=>e= .returned (.string (bs (Lib.itoa n)))/\Below w.heap.size w w':=
 (Tryz.strconv_Itoa n h0.1 h0.2 w hT).mono λ_ _ ⟨a,k,os,b⟩=>⟨a,b ▸ Uc w k os⟩
theorem Jd (n:Int) (h:n.natAbs<10 ^ 20):(Lib.itoa n).length<=22:=by
 have h1:=Hj n.natAbs 20 h (by decide);unfold Lib.itoa;split
 ·simp;omega
 ·rw[show n.toNat=n.natAbs from by omega];omega
theorem yN (c:UInt8) (l:List UInt8):(⟨#[c]⟩:ByteArray)++bs l=bs (c::l):=by
 have:=vK [c] l;exact this
theorem Bu (n:eG) (w:World) (hd:n.dig.length<=4294967296) (hT:sR w):
  Calls Tryz.prog 64 #[.agg #[.bool n.neg, .string (bs n.dig), .int .i64 n.exp]] w λe w'=>e= .returned (.string (bs (eX n)))/\Below w.heap.size w w':=by
 obtain⟨A1,k⟩:=exQ<|jV n;have CA:=hid (λw=>Ub n w hd A1 k);obtain⟨R,a⟩:=exQ<|eX n;rw[a];unfold eX at a;rw[k] at a;have o:A1=true->n.dig.length<=1000/\ -1000000<=n.exp/\n.exp<=1000000:=λh=>Bt (k.trans h);obtain⟨ng,d,ex⟩:=n;simp only[] at a CA o hd ⊢;have sd:=aT d;have p:=hid (hT.keep (aI w (.cells #[.bool ng, .string (bs d), .int .i64 ex] 113)));clear hT k;cases A1 with
 | false=>
  rw[if_pos rfl] at a;subst a;go_enter Tryz.func64,Tryz.ntmps64;go_wp2_with (go_at_call 102;go_must (refine(CA.out _).mono ?_);rintro e w1 ⟨rfl,c⟩);go_ret;exact⟨rfl,(aI w _).trans (c.mono (by simp))⟩
 | true=>
  obtain⟨c,g,hb3⟩:=o rfl;rw[if_neg (by simp)] at a;have C2:=hid (λw hT=>Ud ex w (by omega) hT);have f:=hid a;clear a;go_enter Tryz.func64,Tryz.ntmps64;go_wp2_with fail;refine(CA.out _).mono ?_;rintro e w1 ⟨rfl,c⟩;have m:=hid ((c.block w.heap.size (by simp)).trans (heap_alloc_new w _));have j:=hid (p.out.keep c);have b:=hid ((aI w _).trans (c.mono (by simp)));obtain⟨r0,r1,r2,g0,g1,g2⟩:=kS m.out;clear c;have i:(bs d).toList=d:=by rw[Lib.toList_data,aZ]
  by_cases hne:d= []
  ·have a:=f.out;rw[if_pos hne] at a;subst a;rw[hne] at i;clear f;go_wp2_with fail;go_ret;exact⟨rfl,b.out⟩
  ·have a:=f.out;rw[if_neg hne] at a;have l: ¬(bs d).toList= []:=by rw[i];exact hne
   have hDn2:((bs d).toList== [])=false:=aK.2 l;have hDn3:(bs d).toList.isEmpty=false:=by rw[i];cases d with | nil=>exact absurd rfl hne | cons _ _=>rfl
   clear i hne f;by_cases he:ex=0
   ·subst he;cases ng
    ·have f:=hid (show d=R by simpa using a);clear a;go_wp2_with fail;go_ret;exact⟨by rw[<-f.out];rfl,b.out⟩
    ·have f:=hid (show 45::d=R by simpa using a);clear a;go_wp2_with fail;go_ret;exact⟨by rw[<-f.out,yN];rfl,b.out⟩
   ·rw[if_pos he] at a;have he2:(ex !=0)=true:=gD.2 he;have hIl:=Jd ex (by omega);generalize Lib.itoa ex=I at *;have sI:=aT I;have f:=hid a;clear a he;cases ng
    ·go_wp2_with fail;refine(C2.out _ j.out).mono ?_;rintro e w2 ⟨rfl,g⟩;go_wp2_with fail;go_ret;exact⟨by rw[<-f.out,yN,vK];rfl,b.out.trans (g.mono b.out.size)⟩
    ·go_wp2_with (go_at_call 103;go_must (refine(C2.out _ j.out).mono ?_);rintro e w2 ⟨rfl,g⟩);go_ret;exact⟨by rw[<-f.out,yN,yN,vK];rfl,b.out.trans (g.mono b.out.size)⟩
end
end Go.Proofs.YtaifnmjjpddikaaGreatDoor
