import Derived.Test.YtaifnmjjpddikaaGreatDoorProg
import Derived.Test.YtaifnmjjpddikaaGreatDoorRf1
import Derived.Test.YtaifnmjjpddikaaGreatDoorRf4
import Derived.BigQuiet
import Derived.Deep.QuietTactic
import Derived.Lib.IndexBytes
import Derived.Deep.DeepCutAuto
import Derived.Lib.LaidTab
import Derived.Sort.Grow
set_option maxHeartbeats 4000000
namespace Go.Proofs.YtaifnmjjpddikaaGreatDoor
set_option linter.unusedVariables false
set_option linter.unusedSimpArgs false
section
open Go.RowKit
open Go.Lib
theorem Hp (s:ByteArray) (p:Nat) (h:p<s.size) (hd:dR (s[p]'h)=true):bT s p=((s[p]'h).toNat:Int)/\bK s p=1:=by
 have h1:=of_decide_eq_true hd;have:=decode_ascii s p h (by omega);unfold bT bK;rw[this];exact⟨rfl,rfl⟩
theorem Sh (s:ByteArray) (p:Nat) (h:p<s.size) (hd:dR (s[p]'h)=false):bT s p<48\/57<bT s p:=by
 have h1: ¬(48<=(s[p]'h).toNat/\(s[p]'h).toNat<=57):=of_decide_eq_false hd;by_cases ha:(s[p]'h).toNat<128
 ·have:=decode_ascii s p h ha;unfold bT;rw[this];simp only[];omega
 ·have:=(decode_high s p h (by omega)).1;unfold bT;omega
def mQ (s:ByteArray) (p:Nat):Prop:=(s.data.toList.take p).all dR=true
theorem mQ.zero (s:ByteArray):mQ s 0:=rfl
theorem Az (s:ByteArray) (p:Nat) (h:p<s.size):s.data.toList.take (p+1)=s.data.toList.take p++ [s[p]'h]:=by
 rw[List.take_succ_eq_append_getElem (by simpa using h)];rfl
theorem mQ.next {s:ByteArray}{p:Nat} (h:mQ s p) (hp:p<s.size) (hd:dR (s[p]'hp)=true):mQ s (p+1):=by
 unfold mQ at *;rw[Az s p hp,List.all_append,h,List.all_cons,hd];rfl
theorem mQ.fin {s:ByteArray}{p:Nat} (h:mQ s p) (hp:s.size<=p):fA s.data.toList=!s.toList.isEmpty:=by
 unfold mQ at h;rw[rZ (by have:s.data.toList.length=s.size:=rfl;omega)] at h;unfold fA;rw[h,Lib.toList_data,Bool.and_true]
theorem Si {s:ByteArray}{p:Nat} (hp:p<s.size) (hd:dR (s[p]'hp)=false):fA s.data.toList=false:=by
 unfold fA;rw[Bool.and_eq_false_iff];right;rw[List.all_eq_false];exact⟨s[p]'hp,Array.getElem_mem_toList _,by rw[hd];simp⟩
theorem Hq (s:ByteArray) (w:World):
  Calls Tryz.prog 141 #[.string s] w λe w'=>e= .returned (.bool (fA s.data.toList))/\Below w.heap.size w w':=by
 obtain⟨R,hR⟩:=exQ<|fA s.data.toList;rw[hR];have HR:=hid hR;clear hR;go_enter Tryz.func141,Tryz.ntmps141;go_wp2_with fail;go_loopw [4] (λ_ wr=> ∃p:Nat,p<=s.size/\Hid (mQ s p)/\Hid (wr.heap[w.heap.size]?=some (.stringIter s p))/\Hid (Below w.heap.size w wr)) (λ_ wr=>s.size-wr.iterPos w.heap.size)
 case atStart=>exact⟨0,by omega,mQ.zero s,World.iter_heap w s 0,(aB _ _).alloc (aE _) _⟩
 case round=>
  obtain⟨p,hp,HD,HI,HW⟩:=hrel;by_cases hlt:p<s.size
  ·have hw:=pL s p hlt;have hrb:=qO s p;have hnx: ∀ty,(Instr.next (.pointer (some ⟨w.heap.size,0,none⟩)) true ty).run Tryz.prog wr= .ok (.tuple #[.bool true, .int .i64 p, .int .i32 (bT s p)]) (wr.iterAt w.heap.size s (p+bK s p)):=λty=>Lib.run_next_any_at wr _ s p ty HI.out hlt;have HI2:=hid (Lib.iterAt_heap wr w.heap.size s p (p+bK s p) HI.out);have HW2:=hid (Lib.below_iterAt HW.out (aE w.heap.size) s (p+bK s p));have HM:=hid (iterPos_of HI.out);cases hd:dR (s[p]'hlt) with
   | true=>
    obtain⟨e1,e2⟩:=Hp s p hlt hd;have HN:=hid (HD.out.next hlt hd);have hb:=of_decide_eq_true hd;rw[e1,e2] at hnx;rw[e2] at HI2 HW2;clear e1 e2 hd;go_wp2_with fail;go_roundw
    case rel=>exact⟨p+1,by omega,HN.out,HI2.out,HW2.out⟩
    case measure=>rw[iterPos_of HI2.out,HM.out];omega
   | false=>
    have hno:=Sh s p hlt hd;have HF:=hid (HR.out.symm.trans (Si hlt hd));clear hd;rcases hno with hno | hno
    all_goals
     go_wp2_with fail;go_ret;exact⟨xA HF.out.symm,HW2.out⟩
  ·have hnx: ∀ty,(Instr.next (.pointer (some ⟨w.heap.size,0,none⟩)) true ty).run Tryz.prog wr= .ok (.tuple #[.bool false]) wr:=λty=>Lib.run_next_end_at wr _ s p ty HI.out hlt;have HF:=hid (HR.out.symm.trans (HD.out.fin (by omega)));go_wp2_with fail;go_ret;exact⟨xA HF.out.symm,HW.out⟩
end
section
open Go.RowKit
open Go.Lib hiding intOf
theorem Sj {p:UInt8->Bool}{l:List UInt8} (h:l.all (λc=>!p c)=true):cV p l=(l,[],false):=
 Rd p l λc hc=>by have:=fG.1 h c hc;simpa using this
theorem Sk {p:UInt8->Bool}{l:List UInt8}{k:Nat}{b:UInt8} (h:(l.take k).all (λc=>!p c)=true) (hb:l[k]?=some b) (hp:p b=true):cV p l=(l.take k,l.drop (k+1),true):=by
 obtain⟨hk,e⟩:=aQ.1 hb;have hl:l=l.take k++b::l.drop (k+1):=by
  rw[<-e,<-iK hk,rO]
 have:=Gd p (l.take k) b (l.drop (k+1)) (λc hc=>by have:=fG.1 h c hc;simpa using this) hp;rw[<-hl] at this;exact this
def oC (p:UInt8->Bool) (s:ByteArray) (k:Nat):Prop:=(s.data.toList.take k).all (λc=>!p c)=true
theorem oC.next {p:UInt8->Bool}{s:ByteArray}{k:Nat} (h:oC p s k) (hk:k<s.size) (hp:p (s[k]'hk)=false):oC p s (k+1):=by
 unfold oC at *;rw[Az s k hk,List.all_append,h,List.all_cons,hp];rfl
theorem oC.fin {p:UInt8->Bool}{s:ByteArray}{k:Nat} (h:oC p s k) (hk:s.size<=k):cV p s.data.toList=(s.data.toList,[],false):=by
 unfold oC at h;rw[rZ (by have:s.data.toList.length=s.size:=rfl;omega)] at h;exact Sj h
theorem oC.hit {p:UInt8->Bool}{s:ByteArray}{k:Nat} (h:oC p s k) (hk:k<s.size) (hp:p (s[k]'hk)=true):cV p s.data.toList=(s.data.toList.take k,s.data.toList.drop (k+1),true):=
 Sk h (by rw[Array.getElem?_toList,Array.getElem?_eq_getElem hk];rfl) hp
def vN (R:List UInt8×List UInt8×Bool):Ending:= .returned (.tuple #[.string (bs R.1), .string (bs R.2.1), .bool R.2.2])
theorem Hr (s A:ByteArray) (p:UInt8->Bool) (w:World) (hp: ∀b,p b=decide (0<=Lib.indexByte A.data.toList b)) (hs:s.size<=4294967296):
  Calls Tryz.prog 139 #[.string s, .string A] w λe w'=>e=vN (cV p s.data.toList)/\Below w.heap.size w w':=by
 obtain⟨R,hR⟩:=exQ<|cV p s.data.toList;rw[hR];have HR:=hid hR;clear hR;have HP:=hid hp;clear hp;go_enter Tryz.func139,Tryz.ntmps139;go_wp2_with fail;go_loopw [10] (λi wr=> ∃k:Nat,k<=s.size/\i= .int .i64 k/\Hid (oC p s k)/\Hid (Below w.heap.size w wr)) (λi _=>s.size-(RowKit.intOf i).toNat)
 case atStart=>exact⟨0,by omega,rfl,rfl,aB _ _⟩
 case round=>
  obtain⟨k,hk,rfl,HY,HW⟩:=hrel;by_cases hlt:k<s.size
  ·have hlz:(k:Int)<(s.size:Int):=(by omega);have hix:=uU A (s[k]'hlt);have hpb:=HP.out (s[k]'hlt);cases hpp:p (s[k]'hlt) with
   | true=>
    have HF:=hid (HR.out.symm.trans (HY.out.hit hlt hpp));rw[hpp] at hpb;have hge:0<=Lib.indexByte A.data.toList (s[k]'hlt):=of_decide_eq_true hpb.symm;generalize Lib.indexByte A.data.toList (s[k]'hlt)=I at *;have HIX:=hid hix;clear hix hpp hpb;go_wp2_with (go_at_call 32;go_must (refine(HIX.out _).mono ?_);rintro e w' ⟨rfl,rfl⟩);go_quiet (fail);go_wp2_with fail;go_ret3;exact⟨by rw[HF.out,zO,En];rfl,below_drewN HW.out _⟩
   | false=>
    have HN:=hid (HY.out.next hlt hpp);rw[hpp] at hpb;have hge:Lib.indexByte A.data.toList (s[k]'hlt)<0:=Int.not_le.1 (of_decide_eq_false hpb.symm);generalize Lib.indexByte A.data.toList (s[k]'hlt)=I at *;have HIX:=hid hix;clear hix hpp hpb;go_wp2_with (go_at_call 32;go_must (refine(HIX.out _).mono ?_);rintro e w' ⟨rfl,rfl⟩);go_roundw
    case rel=>exact⟨k+1,by omega,by go_num,HN.out,HW.out⟩
    case measure=>simp[RowKit.intOf];omega
  ·have HF:=hid (HR.out.symm.trans (HY.out.fin (by omega)));go_wp2_with fail;go_ret3;exact⟨by rw[HF.out];unfold vN;simp only[uS];rfl,HW.out⟩
theorem Hs (s:ByteArray) (w:World) (R:Bool) (h:fA s.data.toList=R):
  Calls Tryz.prog 141 #[.string s] w λe w'=>e= .returned (.bool R)/\Below w.heap.size w w':=by
 rw[<-h];exact Hq s w
theorem Sl {n:eB} (h:n≠eN) (h2: ¬rL n):lJ n=false:=aJ (by rintro(h3 | h3);exact h h3;exact h2 h3)
theorem Sm (s:ByteArray) (h:s.size-1<s.size):s.data.toList.getLast?=some (s[s.size-1]'h):=by
 rw[List.getLast?_eq_getElem?,Array.getElem?_toList];have hl:s.data.toList.length=s.size:=rfl;rw[hl,Array.getElem?_eq_getElem h];rfl
theorem Ht (b:UInt8):((b.toNat:Int)==48)=decide (b=48):=by
 by_cases h:b=48
 ·subst h;rfl
 ·rw[aJ h,aG];intro e;apply h;apply UInt8.toNat_inj.1;rw[show (48:UInt8).toNat=48 from rfl];omega
theorem Hu (neg:Bool) (d:ByteArray) (e:Int) (w:World) (hd:d.size<=9223372036854775807):
  Calls Tryz.prog 102 #[.agg #[.bool neg, .string d, .int .i64 e]] w λen w'=>en= .returned (.bool (lJ ⟨neg,d.data.toList,e⟩))/\Below w.heap.size w w':=by
 have hl:d.data.toList.length=d.size:=rfl;by_cases hn:(⟨neg,d.data.toList,e⟩:eB)=eN
 ·rw[hn,show lJ eN=true from rfl];injection hn with h1 h2 h3;subst h1 h3;have h4:d.toList= []:=by rw[Lib.toList_data];exact h2
  clear h2 hl;go_enter Tryz.func102,Tryz.ntmps102;go_wp2_with fail;go_ret;exact⟨rfl,(aB _ _).alloc (aE _) _⟩
 ·have hn':neg=true\/ ¬d.toList= []\/ ¬e=0:=by
   by_cases h1:neg=true
   ·exact .inl h1
   by_cases h2:d.toList= []
   ·right;right;intro h3;apply hn;rw[Lib.toList_data] at h2;rw[h2,h3];cases neg<;>first | rfl | exact absurd rfl h1
   ·exact .inr (.inl h2)
  have hno:=λh2=>Sl (n:=⟨neg,d.data.toList,e⟩) hn h2;have hyes:rL ⟨neg,d.data.toList,e⟩->lJ ⟨neg,d.data.toList,e⟩=true:=λh=>aN (.inr h);generalize lJ ⟨neg,d.data.toList,e⟩=R at *;have fin: ∀(D:Bool),fA d.data.toList=D->(D=true->0<d.size):=by
   intro D h1 h2;rw[h2] at h1;have:=(tM h1).1;rcases Nat.eq_zero_or_pos d.size with h | h
   ·exact absurd (List.eq_nil_of_length_eq_zero (by omega)) this
   ·exact h
  cases hD:fA d.data.toList with
  | false=>
   obtain rfl:=hno (λh=>by have:=h.1;simp only[] at this;rw[hD] at this;cases this);have HC:=hid (λw=>Hs d w false hD);clear hno hyes fin hD hn;rcases hn' with hn' | hn' | hn'
   all_goals
    go_enter Tryz.func102,Tryz.ntmps102;go_wp2_with (go_at_call 141;go_must (refine(HC.out _).mono ?_);rintro en w1 ⟨rfl,hb1⟩)
    all_goals go_ret
    all_goals exact⟨rfl,((aB _ _).alloc (aE _) _).trans (hb1.mono (by simp))⟩
  | true=>
   have h0:=fin true hD rfl;have HC:=hid (λw=>Hs d w true hD);have hlast:d.size-1<d.size:=(by omega);have e1:=xB d h0;have e2:=Sm d hlast;have b1:=Ht (d[0]'h0);have b2:=Ht (d[d.size-1]'hlast);have hne: ¬d.toList= []:=by rw[Lib.toList_data];intro h;rw[h] at hl;simp at hl;omega
   have RP:rL ⟨neg,d.data.toList,e⟩↔d.size<=1000/\ ¬(d[0]'h0)=48/\ ¬(d[d.size-1]'hlast)=48/\ -1000000<=e/\e<=1000000:=by
    unfold rL;simp only[hD,hl,e1,e2,true_and,ne_eq,cS]
   clear fin hD hn hn' e1 e2;by_cases c1:d.size<=1000
   ·by_cases c2:(d[0]'h0)=48
    ·obtain rfl:=hno (λh=>(RP.1 h).2.1 c2);rw[aN c2] at b1;clear hno hyes RP c2 b2;go_enter Tryz.func102,Tryz.ntmps102;go_wp2_with (go_at_call 141;go_must (refine(HC.out _).mono ?_);rintro en w1 ⟨rfl,hb1⟩)
     all_goals go_ret
     all_goals exact⟨rfl,((aB _ _).alloc (aE _) _).trans (hb1.mono (by simp))⟩
    ·rw [aJ c2] at b1;by_cases c3:(d[d.size-1]'hlast)=48
     ·obtain rfl:=hno (λh=>(RP.1 h).2.2.1 c3);rw[aN c3] at b2;clear hno hyes RP c2 c3;go_enter Tryz.func102,Tryz.ntmps102;go_wp2_with (go_at_call 141;go_must (refine(HC.out _).mono ?_);rintro en w1 ⟨rfl,hb1⟩)
      all_goals go_ret
      all_goals exact⟨rfl,((aB _ _).alloc (aE _) _).trans (hb1.mono (by simp))⟩
     ·rw[aJ c3] at b2;have hR:R=decide (-1000000<=e/\e<=1000000):=by
       by_cases c4: -1000000<=e/\e<=1000000
       ·rw[aN c4];exact hyes (RP.2 ⟨c1,c2,c3,c4.1,c4.2⟩)
       ·rw[aJ c4];exact hno (λh=>c4 (RP.1 h).2.2.2)
      have HR:=hid hR;clear hno hyes RP c2 c3 hR;have hlo:e< -1000000\/(-1000000<=e/\e<=1000000)\/(-1000000<=e/\1000000<e):=(by omega);rcases hlo with hlo | ⟨hlo,hhi⟩ | ⟨hlo,hhi⟩
      all_goals
       go_enter Tryz.func102,Tryz.ntmps102;go_wp2_with (go_at_call 141;go_must (refine(HC.out _).mono ?_);rintro en w1 ⟨rfl,hb1⟩;obtain⟨hc1,hf1⟩:=Ei hb1);go_ret;refine⟨xA ?_,((aB _ _).alloc (aE _) _).trans (hb1.mono (by simp))⟩;rw[HR.out]
       first
        | (rw[aJ (p:= -1000000<=e/\e<=1000000) (by omega)];simp;omega)
        | (rw[aN (p:= -1000000<=e/\e<=1000000) (by omega)];simp;omega)
        | (rw[aJ (p:= -1000000<=e/\e<=1000000) (by omega)];simp)
        | (rw[aN (p:= -1000000<=e/\e<=1000000) (by omega)];simp)
        | (rw[aJ (p:= -1000000<=e/\e<=1000000) (by omega)])
        | (rw[aN (p:= -1000000<=e/\e<=1000000) (by omega)])
   ·obtain rfl:=hno (λh=>c1 (RP.1 h).1);clear hno hyes RP b1 b2;go_enter Tryz.func102,Tryz.ntmps102;go_wp2_with (go_at_call 141;go_must (refine(HC.out _).mono ?_);rintro en w1 ⟨rfl,hb1⟩)
    all_goals go_ret
    all_goals exact⟨rfl,((aB _ _).alloc (aE _) _).trans (hb1.mono (by simp))⟩
theorem Ba (l:List UInt8) (c:UInt8):Lib.hasPrefix l [c]=(l.head?==some c)/\Lib.trimPrefix l [c]=if l.head?=some c then l.drop 1 else l:=by
 cases l with
 | nil=>simp[Lib.hasPrefix,Lib.trimPrefix]
 | cons x t=>
  by_cases h:x=c
  ·subst h;simp[Lib.hasPrefix,Lib.trimPrefix]
  ·have e1:(c==x)=false:=aG.2 (Ne.symm h);have e2:(x==c)=false:=aG.2 h;simp[Lib.hasPrefix,Lib.trimPrefix,h,List.isPrefixOf,e1,e2]
theorem Hv (l:List UInt8) (w:World):
  Calls Tryz.prog 138 #[.string (bs l), .string ⟨#[45]⟩] w λe w'=>e= .returned (.tuple #[.string (bs (gC l)), .bool (l.head?==some 45)])/\w=w':=by
 have h:=Tryz.strings_CutPrefix (bs l) ⟨#[45]⟩ w;rw[aU,show (⟨#[45]⟩:ByteArray).data.toList= [45] from rfl,(Ba l 45).1,(Ba l 45).2] at h;exact h.mono λ_ _ ⟨a,b⟩=>⟨a,b.symm⟩
theorem Sn (l:List UInt8) (w:World) (h:l.head?≠some 45):
  Calls Tryz.prog 140 #[.string (bs l), .string ⟨#[43]⟩] w λe w'=>e= .returned (.string (bs (gZ l)))/\w=w':=by
 have h1:=Tryz.strings_TrimPrefix (bs l) ⟨#[43]⟩ w;rw[aU,show (⟨#[43]⟩:ByteArray).data.toList= [43] from rfl,(Ba l 43).2] at h1;have e:gZ l=if l.head?=some 43 then l.drop 1 else l:=by unfold gZ;simp[h]
 rw[<-e] at h1;exact h1.mono λ_ _ ⟨a,b⟩=>⟨a,b.symm⟩
theorem So {l:List UInt8} (h:(l.head?==some 45)=false):gC l=l/\l.head?≠some 45:=by
 have h1:l.head?≠some 45:=aG.1 h;unfold gC;rw[if_neg h1];exact⟨rfl,h1⟩
theorem Sq {l:List UInt8} (h:(l.head?==some 45)=true):gZ l=gC l:=by
 have h1:l.head?=some 45:=beq_iff_eq.1 h;unfold gC gZ;rw[if_pos h1,if_pos (.inl h1)]
theorem Sr (l:List UInt8) (w:World) (hs:l.length<=4294967296):
  Calls Tryz.prog 139 #[.string (bs l), .string ⟨#[101,69]⟩] w λe w'=>e=vN (cV jE l)/\Below w.heap.size w w':=by
 have h:=Hr (bs l) ⟨#[101,69]⟩ jE w (λb=>by
  show (b==101||b==69)=decide (0<=Lib.indexByte [101,69] b);unfold Lib.indexByte Lib.indexByte Lib.indexByte;by_cases h1:b=101
  ·subst h1;decide
  ·by_cases h2:b=69
   ·subst h2;decide
   ·have e1:(101==b)=false:=aG.2 (Ne.symm h1);have e2:(69==b)=false:=aG.2 (Ne.symm h2);simp[h1,h2,e1,e2]) (by rw[aR];exact hs)
 rw[aU] at h;exact h
theorem Ss (l:List UInt8) (w:World) (hs:l.length<=4294967296):
  Calls Tryz.prog 139 #[.string (bs l), .string ⟨#[46]⟩] w λe w'=>e=vN (cV qP l)/\Below w.heap.size w w':=by
 have h:=Hr (bs l) ⟨#[46]⟩ qP w (λb=>by
  show (b==46)=decide (0<=Lib.indexByte [46] b);unfold Lib.indexByte Lib.indexByte;by_cases h1:b=46
  ·subst h1;decide
  ·have e1:(46==b)=false:=aG.2 (Ne.symm h1);simp[h1,e1]) (by rw[aR];exact hs)
 rw[aU] at h;exact h
theorem Bb (l:List UInt8) (w:World) (R:Bool) (h:fA l=R):
  Calls Tryz.prog 141 #[.string (bs l)] w λe w'=>e= .returned (.bool R)/\Below w.heap.size w w':=by
 have:=Hq (bs l) w;rw[aU,h] at this;exact this
def St (l:List UInt8) (e:Ending):Prop:= ∃(n lo:Bool) (a b c:List UInt8) (is:Bool),e= .returned (.tuple #[.agg #[.bool n, .bool lo, .string (bs a), .string (bs b), .string (bs c)], .bool is])/\
 kC l=if is then some ⟨n,a,b,lo,c⟩ else none
theorem Hw (l:List UInt8):(gC l).length<=l.length:=by unfold gC;split<;>simp
theorem Hx (p:UInt8->Bool) (l:List UInt8):(cV p l).1.length<=l.length:=by
 unfold cV;split
 ·exact aE _
 ·exact(List.takeWhile_sublist _).length_le
theorem qW {w:World}{g:Nat}{t:TypeId}{cs:Array Value} (h:w.heap[g]?=some (.cells cs t (0,0))) (i:Nat):w.cell? ⟨g,i,none⟩=cs[i]?:=cell_of_row w g i cs t (0,0) h
theorem qX {w:World}{g:Nat}{t:TypeId}{cs:Array Value} (h:w.heap[g]?=some (.cells cs t (0,0))) (i:Nat):w.frozen? ⟨g,i,none⟩=false:=by simp[World.frozen?,h]
theorem eG {w:World}{g:Nat}{t:TypeId}{cs:Array Value} (h:w.heap[g]?=some (.cells cs t (0,0))) (i:Nat) (u:Value):(w.setCell ⟨g,i,none⟩ u).heap[g]?=some (.cells (cs.setIfInBounds i u) t (0,0)):=by
 simp[World.setCell,Array.getElem?_modify,h]
theorem jS {B:Nat}{W w:World} (h:Below B W w) {k o:Nat}{v:Value} (hk:B<=k):Below B W (w.setCell ⟨k,o,none⟩ v):=h.setCell (p:=⟨k,o,none⟩) hk v
theorem qY {w:World}{g:Nat}{t:TypeId}{a b c d e:Value} (h:w.heap[g]?=some (.cells #[a,b,c,d,e] t (0,0))):
  w.cell? ⟨g,0,none⟩=some a/\w.cell? ⟨g,1,none⟩=some b/\w.cell? ⟨g,2,none⟩=some c/\w.cell? ⟨g,3,none⟩=some d/\w.cell? ⟨g,4,none⟩=some e/\
  w.frozen? ⟨g,0,none⟩=false/\w.frozen? ⟨g,1,none⟩=false/\w.frozen? ⟨g,2,none⟩=false/\w.frozen? ⟨g,3,none⟩=false/\w.frozen? ⟨g,4,none⟩=false:=
 ⟨qW h 0,qW h 1,qW h 2,qW h 3,qW h 4,qX h 0,qX h 1,qX h 2,qX h 3,qX h 4⟩
def Su (has:Bool) (x:List UInt8) (lo:Bool) (xf:List UInt8):Prop:=(has=true->fA xf=true)/\xf=(if has then gZ x else [])/\lo=(has&&x.head?==some 45)
theorem Sv (l:List UInt8) (w:World) (hs:l.length<=4294967296):
  Calls Tryz.prog 100 #[.string (bs l)] w λe w'=>St l e/\Below w.heap.size w w':=by
 have hu:=Hw l;have c1:=Hv l;have c2:=λw=>Sr (gC l) w (by omega);have hm:=Hx jE (gC l);obtain⟨m,x,has,hc⟩: ∃m x has,cV jE (gC l)=(m,x,has):=⟨_,_,_,rfl⟩;rw[hc] at c2 hm;simp only[] at hm;have c6:=λw=>Ss m w (by omega);obtain⟨wh,rs,pt,hd⟩: ∃wh rs pt,cV qP m=(wh,rs,pt):=⟨_,_,_,rfl⟩;rw[hd] at c6;have hlit:kC l=if rM has pt (if has then gZ x else []) wh rs then some ⟨l.head?==some 45,wh,rs,has&&x.head?==some 45,if has then gZ x else []⟩ else none:=by
  unfold kC;simp only[hc,hd]
 obtain⟨ng,hng⟩:=exQ (l.head?==some 45);rw[hng] at c1 hlit;have C1:=hid c1;have C2:=hid c2;have C6:=hid c6;have HL:=hid hlit;have hx0:has=false->x= []:=λh=>(Gf (h ▸ hc)).2;have HX0:=hid hx0;clear c1 c2 c6 hc hd hlit hng hx0;have hD2: ∃D2,fA wh=D2:=⟨_,rfl⟩;obtain⟨D2,hD2⟩:=hD2;have C7:=hid (λw=>Bb wh w D2 hD2);have hD3: ∃D3,fA rs=D3:=⟨_,rfl⟩;obtain⟨D3,hD3⟩:=hD3;have C8:=hid (λw=>Bb rs w D3 hD3);have hpos:D2=true->0<(bs wh).size:=λh=>by
  have:=(tM (hD2.trans h)).1;rw[aR];cases wh with
  | nil=>exact absurd rfl this
  | cons _ _=>simp
 have HD2:=hid hD2;have HD3:=hid hD3;clear hD2 hD3;have hfirst: ∀h:0<(bs wh).size,wh.head?=some ((bs wh)[0]'h):=λh=>by have:=xB (bs wh) h;rw[aU] at this;exact this
 have HWl:=hid (show (bs wh).toList=wh by rw[Lib.toList_data,aU]);obtain⟨Wh,hWh⟩:=exQ<|bs wh;have HWh:=hid hWh;have HF:=hid hfirst;clear hfirst;rw[hWh] at HWl hpos HF;have C7':=hid (show ∀w,Calls Tryz.prog 141 #[.string Wh] w λe w'=>e= .returned (.bool D2)/\Below w.heap.size w w' from by rw[<-hWh];exact C7.out);have C6':=hid (show ∀w,Calls Tryz.prog 139 #[.string (bs m), .string ⟨#[46]⟩] w λe w'=>e= .returned (.tuple #[.string Wh, .string (bs rs), .bool pt])/\Below w.heap.size w w' from by rw[<-hWh];exact C6.out);clear C6 C7 hWh;go_enter Tryz.func100,Tryz.ntmps100;go_wp2_with (go_at_call 138;go_must (refine(C1.out _).mono ?_);rintro e w' ⟨rfl,rfl⟩);refine(C2.out _).mono ?_;rintro e w1 ⟨rfl,hb1⟩;unfold vN;have HK1:=hid ((hb1.block w.heap.size (by simp)).trans (heap_alloc_new w _));obtain⟨a0,a1,a2,a3,a4,f0,f1,f2,f3,f4⟩:=qY HK1.out;have hz1:w.heap.size<w1.heap.size:=by have:=hb1.size;simp at this;omega
 have HB1:=hid (((aB w.heap.size w).alloc (aE _) _).trans (hb1.mono (by simp)));clear hb1;go_upto_if 21 with(fail);have hfail: ∀xf,xf=(if has then gZ x else [])->has=true->fA xf=false->kC l=none:=λxf h1 h2 h3=>by
  rw[HL.out,<-h1];unfold rM;rw[h2,h3];simp
 have HFa:=hid hfail;clear hfail;go_cut [4] (λs4 wx=> ∃(lo:Bool) (xf:List UInt8),s4= .string (bs xf)/\Su has x lo xf/\
   Hid (wx.heap[w.heap.size]?=some (.cells #[.bool ng, .bool lo, .string ⟨#[]⟩, .string ⟨#[]⟩, .string ⟨#[]⟩] 149 (0,0)))/\Hid (Below w.heap.size w wx))
 case first=>
  cases has with
  | false=>
   have hx:=hid (HX0.out rfl);go_wp2_with fail;go_meet;exact⟨false,x,rfl,⟨λh=>(by cases h),hx.out,rfl⟩,HK1.out,HB1.out⟩
  | true=>
   obtain⟨lo,hlo⟩:=exQ (x.head?==some 45);have c3:=Hv x;rw[hlo] at c3;have C3:=hid c3;clear c3;have C5:=hid (λw=>Bb (gZ x) w _ rfl);cases lo with
   | true=>
    have hxe:=Sq hlo;have HXE:=hid hxe;rw[<-hxe] at C3;clear hxe;have HLo:=hid hlo;clear hlo;cases hD:fA (gZ x) with
    | true=>
     rw[hD] at C5;have HD:=hid hD;clear hD;go_wp2_with (go_at_call 138;go_must (refine(C3.out _).mono ?_);rintro e w' ⟨rfl,rfl⟩);refine(C5.out _).mono ?_;rintro e w2 ⟨rfl,hb2⟩;have HK2:Hid (w2.heap[w.heap.size]?=some (.cells #[.bool ng, .bool true, .string ⟨#[]⟩, .string ⟨#[]⟩, .string ⟨#[]⟩] 149 (0,0))):=(hb2.block w.heap.size (by simp[World.setCell];exact hz1)).trans (eG HK1.out 1 _);have HB2:=hid ((HB1.out.setCell (p:=⟨w.heap.size,1,none⟩) (aE _) (.bool true)).trans (hb2.mono (by simp[World.setCell];omega)));clear hb2;go_wp2_with fail;go_meet;exact⟨true,gZ x,rfl,⟨λ_=>HD.out,rfl,by rw[HLo.out];rfl⟩,HK2.out,HB2.out⟩
    | false=>
     rw[hD] at C5;have HN:=hid (HFa.out (gZ x) rfl rfl hD);clear hD;go_wp2_with (go_at_call 138;go_must (refine(C3.out _).mono ?_);rintro e w' ⟨rfl,rfl⟩);refine(C5.out _).mono ?_;rintro e w2 ⟨rfl,hb2⟩;have HK2:Hid (w2.heap[w.heap.size]?=some (.cells #[.bool ng, .bool true, .string ⟨#[]⟩, .string ⟨#[]⟩, .string ⟨#[]⟩] 149 (0,0))):=(hb2.block w.heap.size (by simp[World.setCell];exact hz1)).trans (eG HK1.out 1 _);have HB2:=hid ((HB1.out.setCell (p:=⟨w.heap.size,1,none⟩) (aE _) (.bool true)).trans (hb2.mono (by simp[World.setCell];omega)));clear hb2 a0 a1 a2 a3 a4 f0 f1 f2 f3 f4;obtain⟨a0,a1,a2,a3,a4,f0,f1,f2,f3,f4⟩:=qY HK2.out;go_wp2_with fail;refine bodyPost_ret (v:= .tuple #[.agg #[.bool ng, .bool true, .string ⟨#[]⟩, .string ⟨#[]⟩, .string ⟨#[]⟩], .bool false]) ?_ rfl ⟨⟨ng,true,[],[],[],false,rfl,?_⟩,?_⟩
     ·simp[results,Tryz.results100,go_sem,a0,a1,a2,a3,a4]
     ·exact HN.out
     ·repeat (first | refine jS ?_ (aE _) | refine Below.drew ?_)
      exact HB2.out
   | false=>
    obtain⟨hxe,hx45⟩:=So hlo;rw[hxe] at C3;have C4:=hid (λw=>Sn x w hx45);clear hxe hx45;have HLo:=hid hlo;clear hlo;cases hD:fA (gZ x) with
    | true=>
     rw[hD] at C5;have HD:=hid hD;clear hD;go_wp2_with (first | (go_at_call 138;go_must (refine(C3.out _).mono ?_);rintro e w' ⟨rfl,rfl⟩) | (go_at_call 140;go_must (refine(C4.out _).mono ?_);rintro e w' ⟨rfl,rfl⟩));refine(C5.out _).mono ?_;rintro e w2 ⟨rfl,hb2⟩;have HK2:Hid (w2.heap[w.heap.size]?=some (.cells #[.bool ng, .bool false, .string ⟨#[]⟩, .string ⟨#[]⟩, .string ⟨#[]⟩] 149 (0,0))):=(hb2.block w.heap.size (by simp[World.setCell];exact hz1)).trans (eG HK1.out 1 _);have HB2:=hid ((HB1.out.setCell (p:=⟨w.heap.size,1,none⟩) (aE _) (.bool false)).trans (hb2.mono (by simp[World.setCell];omega)));clear hb2;go_wp2_with fail;go_meet;exact⟨false,gZ x,rfl,⟨λ_=>HD.out,rfl,by rw[HLo.out];rfl⟩,HK2.out,HB2.out⟩
    | false=>
     rw[hD] at C5;have HN:=hid (HFa.out (gZ x) rfl rfl hD);clear hD;go_wp2_with (first | (go_at_call 138;go_must (refine(C3.out _).mono ?_);rintro e w' ⟨rfl,rfl⟩) | (go_at_call 140;go_must (refine(C4.out _).mono ?_);rintro e w' ⟨rfl,rfl⟩));refine(C5.out _).mono ?_;rintro e w2 ⟨rfl,hb2⟩;have HK2:Hid (w2.heap[w.heap.size]?=some (.cells #[.bool ng, .bool false, .string ⟨#[]⟩, .string ⟨#[]⟩, .string ⟨#[]⟩] 149 (0,0))):=(hb2.block w.heap.size (by simp[World.setCell];exact hz1)).trans (eG HK1.out 1 _);have HB2:=hid ((HB1.out.setCell (p:=⟨w.heap.size,1,none⟩) (aE _) (.bool false)).trans (hb2.mono (by simp[World.setCell];omega)));clear hb2 a0 a1 a2 a3 a4 f0 f1 f2 f3 f4;obtain⟨a0,a1,a2,a3,a4,f0,f1,f2,f3,f4⟩:=qY HK2.out;go_wp2_with fail;refine bodyPost_ret (v:= .tuple #[.agg #[.bool ng, .bool false, .string ⟨#[]⟩, .string ⟨#[]⟩, .string ⟨#[]⟩], .bool false]) ?_ rfl ⟨⟨ng,false,[],[],[],false,rfl,?_⟩,?_⟩
     ·simp[results,Tryz.results100,go_sem,a0,a1,a2,a3,a4]
     ·exact HN.out
     ·repeat (first | refine jS ?_ (aE _) | refine Below.drew ?_)
      exact HB2.out
 case rest=>
  obtain⟨lo,xf,rfl,HX,HKz,HBz⟩:=hcut;have HX':=hid HX;clear HX;have LITo: ∀b:Bool,rM has pt xf wh rs=b->kC l=if b then some ⟨ng,wh,rs,lo,xf⟩ else none:=λb hb=>by
   obtain⟨_,h2,h3⟩:=HX'.out;rw[HL.out,<-h2,<-h3,hb]
  have LITx: ∀b2 b3:Bool,D2=b2->(!pt||D3)=b3-> ∀b4:Bool,((wh== [48])||(wh.head? !=some 48))=b4->rM has pt xf wh rs=(b2&&b3&&b4):=λb2 b3 h2 h3 b4 h4=>by
   obtain⟨h1,_,_⟩:=HX'.out;unfold rM;rw[HD2.out,HD3.out,h2,h3,h4];cases has with
   | false=>rfl
   | true=>rw[h1 rfl];rfl
  have HLo:=hid LITo;have HLx:=hid LITx;clear LITo LITx;have hzz:w.heap.size<wc.heap.size:=aF HKz;have HKy:=hid HKz;have HBy:=hid HBz;clear HKz HBz a0 a1 a2 a3 a4 f0 f1 f2 f3 f4;obtain⟨a0,a1,a2,a3,a4,f0,f1,f2,f3,f4⟩:=qY HKy.out;go_wp2_with fail;refine(C6'.out _).mono ?_;rintro e w2 ⟨rfl,hb2⟩;have HK2:Hid (w2.heap[w.heap.size]?=some (.cells #[.bool ng, .bool lo, .string ⟨#[]⟩, .string ⟨#[]⟩, .string (bs xf)] 149 (0,0))):=(hb2.block w.heap.size (by simp[World.setCell];exact hzz)).trans (eG HKy.out 4 _);have hz2:w.heap.size<w2.heap.size:=aF HK2.out;have HB2:=hid ((HBy.out.setCell (p:=⟨w.heap.size,4,none⟩) (aE _) (.string (bs xf))).trans (hb2.mono (by simp[World.setCell];omega)));clear hb2 a0 a1 a2 a3 a4 f0 f1 f2 f3 f4;obtain⟨a0,a1,a2,a3,a4,f0,f1,f2,f3,f4⟩:=qY HK2.out;go_wp2_with fail;refine(C7'.out _).mono ?_;rintro e w3 ⟨rfl,hb3⟩;have HK3:Hid (w3.heap[w.heap.size]?=some (.cells #[.bool ng, .bool lo, .string Wh, .string (bs rs), .string (bs xf)] 149 (0,0))):=(hb3.block w.heap.size (by simp[World.setCell];exact hz2)).trans (eG (eG HK2.out 2 _) 3 _);have hz3:w.heap.size<w3.heap.size:=aF HK3.out;have HB3:=hid (((HB2.out.setCell (p:=⟨w.heap.size,2,none⟩) (aE _) (.string Wh)).setCell (p:=⟨w.heap.size,3,none⟩) (aE _) (.string (bs rs))).trans (hb3.mono (by simp[World.setCell];omega)));clear hb3 a0 a1 a2 a3 a4 f0 f1 f2 f3 f4;obtain⟨a0,a1,a2,a3,a4,f0,f1,f2,f3,f4⟩:=qY HK3.out;cases D2 with
  | false=>
   have HN:=hid (HLo.out false ((HLx.out false _ rfl rfl _ rfl).trans (by simp)));go_wp2_with fail;refine bodyPost_ret (v:= .tuple #[.agg #[.bool ng, .bool lo, .string Wh, .string (bs rs), .string (bs xf)], .bool false]) ?_ rfl ⟨⟨ng,lo,wh,rs,xf,false,by rw[HWh.out],?_⟩,?_⟩
   ·simp[results,Tryz.results100,go_sem,a0,a1,a2,a3,a4]
   ·exact HN.out
   ·repeat (first | refine jS ?_ (aE _) | refine Below.drew ?_)
    exact HB3.out
  | true=>
   have hp:=hpos rfl;have hpz:(0:Int)<(Wh.size:Int):=(by omega);obtain⟨b4,hb4,hdisj⟩: ∃b4,((wh== [48])||(wh.head? !=some 48))=b4/\((Wh.toList== [48])=true/\b4=true\/(Wh.toList== [48])=false/\(((Wh[0]'hp).toNat:Int) !=48)=b4):=by
    refine⟨_,rfl,?_⟩;have hh:=HF.out hp;rw[HWl.out,hh];by_cases g1:wh= [48]
    ·left;rw[g1];exact⟨rfl,rfl⟩
    ·right;rw[aG.2 g1];refine⟨rfl,?_⟩;rw[Bool.false_or];by_cases g2:(Wh[0]'hp)=48
     ·rw[g2];rfl
     ·rw[show (((Wh[0]'hp).toNat:Int) !=48)=true from by rw[fH];intro h;apply g2;apply UInt8.toNat_inj.1;rw[show (48:UInt8).toNat=48 from rfl];omega];symm;rw[fH];intro h;exact g2 (bD h)
   cases pt with
   | false=>
    rcases hdisj with⟨e1,rfl⟩ | ⟨e1,e2⟩
    ·have HN:=hid (HLo.out true ((HLx.out true true rfl rfl _ hb4).trans rfl));clear hb4;go_wp2_with fail;go_region
     all_goals go_wp2_with fail
     all_goals
      refine bodyPost_ret (v:= .tuple #[.agg #[.bool ng, .bool lo, .string Wh, .string (bs rs), .string (bs xf)], .bool true]) ?_ rfl ⟨⟨ng,lo,wh,rs,xf,true,by rw[HWh.out],?_⟩,?_⟩
      ·simp[results,Tryz.results100,go_sem,a0,a1,a2,a3,a4]
      ·exact HN.out
      ·repeat (first | refine jS ?_ (aE _) | refine Below.drew ?_)
       exact HB3.out
    ·have HN:=hid (HLo.out b4 ((HLx.out true true rfl rfl _ hb4).trans (by simp)));clear hb4;go_wp2_with fail;go_region
     all_goals go_wp2_with fail
     all_goals
      refine bodyPost_ret (v:= .tuple #[.agg #[.bool ng, .bool lo, .string Wh, .string (bs rs), .string (bs xf)], .bool b4]) ?_ rfl ⟨⟨ng,lo,wh,rs,xf,b4,by rw[HWh.out],?_⟩,?_⟩
      ·simp[results,Tryz.results100,go_sem,a0,a1,a2,a3,a4]
      ·exact HN.out
      ·repeat (first | refine jS ?_ (aE _) | refine Below.drew ?_)
       exact HB3.out
   | true=>
    go_wp2_with fail;refine(C8.out _).mono ?_;rintro e w4 ⟨rfl,hb4'⟩;have HK4:Hid (w4.heap[w.heap.size]?=some (.cells #[.bool ng, .bool lo, .string Wh, .string (bs rs), .string (bs xf)] 149 (0,0))):=(hb4'.block w.heap.size hz3).trans HK3.out;have HB4:=hid (HB3.out.trans (hb4'.mono (by omega)));clear hb4' a0 a1 a2 a3 a4 f0 f1 f2 f3 f4;obtain⟨a0,a1,a2,a3,a4,f0,f1,f2,f3,f4⟩:=qY HK4.out;cases D3 with
    | false=>
     have HN:=hid (HLo.out false ((HLx.out true false rfl rfl _ rfl).trans (by simp)));clear hdisj hb4;go_wp2_with fail;refine bodyPost_ret (v:= .tuple #[.agg #[.bool ng, .bool lo, .string Wh, .string (bs rs), .string (bs xf)], .bool false]) ?_ rfl ⟨⟨ng,lo,wh,rs,xf,false,by rw[HWh.out],?_⟩,?_⟩
     ·simp[results,Tryz.results100,go_sem,a0,a1,a2,a3,a4]
     ·exact HN.out
     ·repeat (first | refine jS ?_ (aE _) | refine Below.drew ?_)
      exact HB4.out
    | true=>
     rcases hdisj with⟨e1,rfl⟩ | ⟨e1,e2⟩
     ·have HN:=hid (HLo.out true ((HLx.out true true rfl rfl _ hb4).trans rfl));clear hb4;go_wp2_with fail;go_region
      all_goals go_wp2_with fail
      all_goals
       refine bodyPost_ret (v:= .tuple #[.agg #[.bool ng, .bool lo, .string Wh, .string (bs rs), .string (bs xf)], .bool true]) ?_ rfl ⟨⟨ng,lo,wh,rs,xf,true,by rw[HWh.out],?_⟩,?_⟩
       ·simp[results,Tryz.results100,go_sem,a0,a1,a2,a3,a4]
       ·exact HN.out
       ·repeat (first | refine jS ?_ (aE _) | refine Below.drew ?_)
        exact HB4.out
     ·have HN:=hid (HLo.out b4 ((HLx.out true true rfl rfl _ hb4).trans (by simp)));clear hb4;go_wp2_with fail;go_region
      all_goals go_wp2_with fail
      all_goals
       refine bodyPost_ret (v:= .tuple #[.agg #[.bool ng, .bool lo, .string Wh, .string (bs rs), .string (bs xf)], .bool b4]) ?_ rfl ⟨⟨ng,lo,wh,rs,xf,b4,by rw[HWh.out],?_⟩,?_⟩
       ·simp[results,Tryz.results100,go_sem,a0,a1,a2,a3,a4]
       ·exact HN.out
       ·repeat (first | refine jS ?_ (aE _) | refine Below.drew ?_)
        exact HB4.out
theorem Hy (l:List UInt8) (w:World):
  Calls Tryz.prog 94 #[.string (bs l), .string ⟨#[48]⟩] w λe w'=>e= .returned (.string (bs (iJ l)))/\w=w':=by
 have h:=Tryz.strings_TrimLeft_one (bs l) 48 (by decide) w;rw[aU] at h;exact h.mono λ_ _ ⟨a,b⟩=>⟨a,b.symm⟩
theorem Sw (l:List UInt8) (w:World) (hl:l.length<=9223372036854775807):
  Calls Tryz.prog 101 #[.string (bs l), .string ⟨#[48]⟩] w λe w'=>e= .returned (.string (bs (cW l)))/\w=w':=by
 have h:=Tryz.strings_TrimRight_one (bs l) 48 (by decide) w (by rw[aR];exact hl);rw[aU] at h;exact h.mono λ_ _ ⟨a,b⟩=>⟨a,b.symm⟩
theorem Sx (p:UInt8->Bool) (l:List UInt8):(cV p l).1.length+(cV p l).2.1.length<=l.length:=by
 have h:=congrArg List.length (List.takeWhile_append_dropWhile (p:=λc=>!p c) (l:=l));rw[aS] at h;unfold cV;split
 ·simp
 ·rename_i e;rw[e] at h;simp only[aT] at h;simp only[];omega
theorem Sy {l:List UInt8}{x:tI} (h:kC l=some x):x.whole.length+x.rest.length<=l.length:=by
 unfold kC at h;simp only[] at h;generalize (if(cV jE (gC l)).2.2=true then gZ (cV jE (gC l)).2.1 else [])=xx at h;split at h
 ·injection h with h;subst h;have h1:=Sx qP (cV jE (gC l)).1;have h2:=Hx jE (gC l);have h3:=Hw l;simp only[];omega
 ·cases h
theorem Sz {x:tI}{k:Int}{D:List UInt8} (h1:fA x.whole=true) (h2:x.rest.all dR=true) (hlen: ¬1000<x.whole.length+x.rest.length) (hD:iJ (x.whole++x.rest)=D) (hd:D≠ []):
  lJ ⟨x.neg,cW D,k⟩=decide (¬(k< -1000000\/1000000<k)):=by
 have hall:D.all dR=true:=hD ▸ Aj (by rw[List.all_append,fB];exact⟨(tM h1).2,h2⟩);have hh:=Gh (l:=D) (hD ▸ Gi _) hd;have hl1:D.length<=x.whole.length+x.rest.length:=by
  have:=(List.dropWhile_sublist (p:=λc:UInt8=>c==48) (l:=x.whole++x.rest)).length_le;rw[aS] at this;exact hD ▸ this
 have hl2:=congrArg List.length (vB D);rw[aS] at hl2;unfold lJ;apply decide_eq_decide.2;constructor
 ·rintro(h | h)
  ·injection h with _ h _;exact absurd h hh.1
  ·have h3:=h.2.2.2.2;simp only[] at h3;omega
 ·intro h;exact .inr ⟨Gg hh.1 (Gj hall),by show (cW D).length<=1000;omega,hh.2,Ge _,by simp only[];omega,by simp only[];omega⟩
def fZ (n:eB):Value:= .agg #[.bool n.neg, .string (bs n.dig), .int .i64 n.exp]
def tX (r:eB×Int):Ending:= .returned (.tuple #[fZ r.1, .int .i64 r.2])
theorem kJ {w:World}{g:Nat}{t:TypeId}{a b c:Value} (h:w.heap[g]?=some (.cells #[a,b,c] t (0,0))):
  w.cell? ⟨g,0,none⟩=some a/\w.cell? ⟨g,1,none⟩=some b/\w.cell? ⟨g,2,none⟩=some c/\
  w.frozen? ⟨g,0,none⟩=false/\w.frozen? ⟨g,1,none⟩=false/\w.frozen? ⟨g,2,none⟩=false:=
 ⟨qW h 0,qW h 1,qW h 2,qX h 0,qX h 1,qX h 2⟩
theorem xT (l:List UInt8) (w:World) (hs:l.length<=4294967296):
  Calls Tryz.prog 63 #[.string (bs l)] w λe w'=>e=tX (cZ l)/\Below w.heap.size w w':=by
 obtain⟨R,hR⟩:=exQ<|cZ l;rw[hR];have HR:=hid hR;clear hR;have CR:=hid (λw=>Sv l w hs);go_enter Tryz.func63,Tryz.ntmps63;go_wp2_with fail;refine(CR.out _).mono ?_;rintro e w1 ⟨⟨n,lo,a,b,c,is,rfl,hlit⟩,hb1⟩;have HL:=hid hlit;clear hlit;have C1:=hid (Hy c);have HB1:=hid (((aB w.heap.size w).alloc (aE _) _).trans (hb1.mono (by simp)));have HK1:=hid ((hb1.block w.heap.size (by simp)).trans (heap_alloc_new w _));have hz1:w.heap.size<w1.heap.size:=aF HK1.out;clear hb1;obtain⟨r0,r1,r2,g0,g1,g2⟩:=kJ HK1.out;cases is with
 | false=>
  obtain rfl:R=(eN,2):=by have h1:kC l=none:=HL.out;have h2:=HR.out;unfold cZ at h2;rw[h1] at h2;exact h2.symm
  go_wp2_with (go_at_call 94;go_must (refine(C1.out _).mono ?_);rintro e w' ⟨rfl,rfl⟩);have hf:=kJ ((Below.heap_alloc (((w1.setCell ⟨w.heap.size,0,none⟩ (.bool false)).setCell ⟨w.heap.size,1,none⟩ (.string ⟨#[]⟩)).setCell ⟨w.heap.size,2,none⟩ (.int .i64 0)) (.cells #[.bool n, .bool lo, .string (bs a), .string (bs b), .string (bs c)] 149) w.heap.size (by simp[World.setCell];exact hz1)).trans (eG (eG (eG HK1.out 0 (.bool false)) 1 (.string ⟨#[]⟩)) 2 (.int .i64 0)));clear r0 r1 r2 g0 g1 g2;obtain⟨r0,r1,r2,g0,g1,g2⟩:=hf;refine bodyPost_ret (v:= .tuple #[fZ eN, .int .i64 2]) ?_ rfl ⟨rfl,?_⟩
  ·simp[results,Tryz.results63,go_sem,r0,r1,r2,fZ,eN];rfl
  ·refine Below.alloc ?_ (by simp[World.setCell];omega) _
   repeat (first | refine jS ?_ (aE _) | refine Below.drew ?_)
   exact HB1.out
 | true=>
  have hlit:kC l=some ⟨n,a,b,lo,c⟩:=HL.out;have hlen:=Sy hlit;obtain⟨p1,p2,p3⟩:=Gk hlit;have hR2:pM ⟨n,a,b,lo,c⟩=R:=by rw[<-HR.out];unfold cZ;rw[hlit]
  simp only[] at hlen p1 p2 p3;unfold pM at hR2;simp only[] at hR2;have sa:=aR a;have sb:=aR b;have sc:=aR (iJ c);clear HL HR hlit;by_cases t1:1000<a.length+b.length
  ·rw[if_pos t1] at hR2;subst hR2;clear p1 p2 p3;go_wp2_with (go_at_call 94;go_must (refine(C1.out _).mono ?_);rintro e w' ⟨rfl,rfl⟩);have hf:=kJ ((Below.heap_alloc (((w1.setCell ⟨w.heap.size,0,none⟩ (.bool false)).setCell ⟨w.heap.size,1,none⟩ (.string ⟨#[]⟩)).setCell ⟨w.heap.size,2,none⟩ (.int .i64 0)) (.cells #[.bool n, .bool lo, .string (bs a), .string (bs b), .string (bs c)] 149) w.heap.size (by simp[World.setCell];exact hz1)).trans (eG (eG (eG HK1.out 0 (.bool false)) 1 (.string ⟨#[]⟩)) 2 (.int .i64 0)));clear r0 r1 r2 g0 g1 g2;obtain⟨r0,r1,r2,g0,g1,g2⟩:=hf;refine bodyPost_ret (v:= .tuple #[fZ eN, .int .i64 3]) ?_ rfl ⟨rfl,?_⟩
   ·simp[results,Tryz.results63,go_sem,r0,r1,r2,fZ,eN];rfl
   ·refine Below.alloc ?_ (by simp[World.setCell];omega) _
    repeat (first | refine jS ?_ (aE _) | refine Below.drew ?_)
    exact HB1.out
  rw[if_neg t1] at hR2;by_cases t2:9<(iJ c).length
  ·rw[if_pos t2] at hR2;subst hR2;clear p1 p2 p3;go_wp2_with (go_at_call 94;go_must (refine(C1.out _).mono ?_);rintro e w' ⟨rfl,rfl⟩);have hf:=kJ ((Below.heap_alloc (((w1.setCell ⟨w.heap.size,0,none⟩ (.bool false)).setCell ⟨w.heap.size,1,none⟩ (.string ⟨#[]⟩)).setCell ⟨w.heap.size,2,none⟩ (.int .i64 0)) (.cells #[.bool n, .bool lo, .string (bs a), .string (bs b), .string (bs c)] 149) w.heap.size (by simp[World.setCell];exact hz1)).trans (eG (eG (eG HK1.out 0 (.bool false)) 1 (.string ⟨#[]⟩)) 2 (.int .i64 0)));clear r0 r1 r2 g0 g1 g2;obtain⟨r0,r1,r2,g0,g1,g2⟩:=hf;refine bodyPost_ret (v:= .tuple #[fZ eN, .int .i64 4]) ?_ rfl ⟨rfl,?_⟩
   ·simp[results,Tryz.results63,go_sem,r0,r1,r2,fZ,eN];rfl
   ·refine Below.alloc ?_ (by simp[World.setCell];omega) _
    repeat (first | refine jS ?_ (aE _) | refine Below.drew ?_)
    exact HB1.out
  rw[if_neg t2] at hR2;rw[<-Em c] at hR2;obtain⟨Z,hZ⟩:=exQ<|iJ c;have hZd:Z.all dR=true:=hZ ▸ Aj p3;rw[hZ] at hR2 t2 C1 sc;clear hZ p3;have hZb:(bs Z).data.toList=Z:=aU Z;obtain⟨S,hS⟩:=exQ<|bs Z;rw[hS] at hZb C1 sc;have hsz:S.size<=9:=by rw[sc];omega
  have HE:=hid hR2;have HZ:=hid hZd;have HZb:=hid hZb;have HP1:=hid p1;have HP2:=hid p2;have HT1:=hid t1;clear hR2 hZd hZb p1 p2 t2 hS sc;have hDz: ∀p (h:p<S.size),dR (S[p]'h)=true:=λp h=>by
   have h1:=HZ.out;rw[<-HZb.out,fG] at h1;exact h1 _ (Array.getElem_mem_toList _)
  have hbd: ∀p,0<=gJ (S.data.toList.take p)/\gJ (S.data.toList.take p)<1000000000:=λp=>by
   have h1:(S.data.toList.take p).all dR=true:=by
    have h2:=HZ.out;rw[<-HZb.out] at h2;rw[fG] at h2 ⊢;exact λx hx=>h2 x (List.take_subset _ _ hx)
   have h3:=Ot _ h1;have h4:(S.data.toList.take p).length<=9:=by rw[cF];have:S.data.toList.length=S.size:=rfl;omega
   have h5:(10:Int) ^ (S.data.toList.take p).length<=10 ^ 9:=(by exact_mod_cast Nat.pow_le_pow_right (n:=10) (by decide) h4);omega
  have HDz:=hid hDz;have HBd:=hid hbd;clear hDz hbd;go_wp2_with (go_at_call 94;go_must (refine(C1.out _).mono ?_);rintro e w' ⟨rfl,rfl⟩);go_loopw [7,9] (λs7 _ wr=> ∃p:Nat,p<=S.size/\s7= .int .i64 (gJ (S.data.toList.take p))/\Hid (wr.heap[w1.heap.size+1]?=some (.stringIter S p))/\Hid (wr.heap[w1.heap.size]?=some (.cells #[.bool n, .bool lo, .string (bs a), .string (bs b), .string (bs c)] 149 (0,0)))/\Hid (wr.heap[w.heap.size]?=some (.cells #[.bool false, .string ⟨#[]⟩, .int .i64 0] 113 (0,0)))/\Hid (Below w.heap.size w wr)) (λ_ _ wr=>S.size-wr.iterPos (w1.heap.size+1))
  case atStart=>
   have hs1:(w1.alloc (.cells #[.bool n, .bool lo, .string (bs a), .string (bs b), .string (bs c)] 149)).heap.size=w1.heap.size+1:=(by simp);refine⟨0,by omega,rfl,?_,?_,?_,?_⟩
   ·have:=World.iter_heap (w1.alloc (.cells #[.bool n, .bool lo, .string (bs a), .string (bs b), .string (bs c)] 149)) S 0;rw[hs1] at this;exact this
   ·exact(Below.heap_alloc _ _ _ (by rw[hs1];omega)).trans (heap_alloc_new w1 _)
   ·exact(Below.heap_alloc _ _ _ (by rw[hs1];omega)).trans ((Below.heap_alloc _ _ _ hz1).trans HK1.out)
   ·exact(HB1.out.alloc (by omega) _).alloc (by rw[hs1];omega) _
  case round=>
   obtain⟨p,hp,rfl,HI,HX,HO,HW⟩:=hrel;by_cases hlt:p<S.size
   ·have hnx: ∀ty,(Instr.next (.pointer (some ⟨w1.heap.size+1,0,none⟩)) true ty).run Tryz.prog wr= .ok (.tuple #[.bool true, .int .i64 p, .int .i32 (bT S p)]) (wr.iterAt (w1.heap.size+1) S (p+bK S p)):=λty=>Lib.run_next_any_at wr _ S p ty HI.out hlt;have hdg:=HDz.out p hlt;obtain⟨e1,e2⟩:=Hp S p hlt hdg;have hb:=of_decide_eq_true hdg;rw[e1,e2] at hnx;have hstep:gJ (S.data.toList.take (p+1))=10*gJ (S.data.toList.take p)+(((S[p]'hlt).toNat:Int)-48):=(by rw[Az S p hlt,Ek]);have b1:=HBd.out p;have b2:=HBd.out (p+1);have HI2:=hid (Lib.iterAt_heap wr (w1.heap.size+1) S p (p+1) HI.out);have HW2:=hid (Lib.below_iterAt HW.out (show w.heap.size<=w1.heap.size+1 by omega) S (p+1));have HM:=hid (iterPos_of HI.out);have HX2:Hid ((wr.iterAt (w1.heap.size+1) S (p+1)).heap[w1.heap.size]?=some (.cells #[.bool n, .bool lo, .string (bs a), .string (bs b), .string (bs c)] 149 (0,0))):=by
     exact(Lib.iterAt_other wr _ _ S _ (by omega)).trans HX.out
    have HO2:Hid ((wr.iterAt (w1.heap.size+1) S (p+1)).heap[w.heap.size]?=some (.cells #[.bool false, .string ⟨#[]⟩, .int .i64 0] 113 (0,0))):=by
     exact(Lib.iterAt_other wr _ _ S _ (by omega)).trans HO.out
    generalize gJ (S.data.toList.take p)=V at *;have HS:=hid hstep;rw[hstep] at b2;clear e1 e2 hdg hstep;go_wp2_with fail;go_roundw
    case rel=>exact⟨p+1,by omega,by rw[HS.out],HI2.out,HX2.out,HO2.out,HW2.out⟩
    case measure=>rw[iterPos_of HI2.out,HM.out];omega
   ·have hnx: ∀ty,(Instr.next (.pointer (some ⟨w1.heap.size+1,0,none⟩)) true ty).run Tryz.prog wr= .ok (.tuple #[.bool false]) wr:=λty=>Lib.run_next_end_at wr _ S p ty HI.out hlt;have hV:gJ (S.data.toList.take p)=gJ Z:=by
     rw[rZ (by have:S.data.toList.length=S.size:=rfl;omega),HZb.out]
    have b1:=HBd.out p;rw[hV] at b1 ⊢;clear hV;have HE1:=HE.out;generalize gJ Z=V at *;obtain⟨x0,x1,x2,x3,x4,f0,f1,f2,f3,f4⟩:=qY HX.out;obtain⟨r0,r1,r2,g0,g1,g2⟩:=kJ HO.out;obtain⟨D,hD⟩:=exQ<|iJ (a++b);rw[hD] at HE1;have C2:=hid (show ∀w,Calls Tryz.prog 94 #[.string (bs a++bs b), .string ⟨#[48]⟩] w λe w'=>e= .returned (.string (bs D))/\w=w' from λw=>by rw[uT,<-hD];exact Hy (a++b) w);have hDl:D.length<=1000:=by
     have:=(List.dropWhile_sublist (p:=λc:UInt8=>c==48) (l:=a++b)).length_le;rw[aS] at this;have h2:(iJ (a++b)).length<=a.length+b.length:=this;rw[hD] at h2;have:=HT1.out;omega
    have hTl:=congrArg List.length (vB D);rw[aS] at hTl;have C3:=hid (λw=>Sw D w (by omega));have C4:=hid (λk w=>Hu n (bs (cW D)) k w (by rw[aR];omega));have sD:=aR D;have sT:=aR (cW D);have htl:(cW D).length<=D.length:=(by omega);clear hTl;have HRt:=hid (λhne k=>Sz (x:=⟨n,a,b,lo,c⟩) (k:=k) HP1.out HP2.out HT1.out hD hne);have hDt:(bs D).toList=D:=(by rw[Lib.toList_data,aU]);clear hD;have hbl:b.length<=1000:=by have:=HT1.out;omega
    by_cases hne:D= []
    ·rw[if_pos hne] at HE1;rw[hne] at hDt;have HR1:=hid HE1;clear HE1;cases lo
     all_goals
      go_wp2_with (go_at_call 94;go_must (refine(C2.out _).mono ?_);rintro e w' ⟨rfl,rfl⟩);clear r0 r1 r2 g0 g1 g2;have hf:=kJ (eG (eG (eG HO.out 0 (.bool false)) 1 (.string ⟨#[]⟩)) 2 (.int .i64 0));obtain⟨r0,r1,r2,g0,g1,g2⟩:=hf;refine bodyPost_ret (v:= .tuple #[fZ eN, .int .i64 0]) ?_ rfl ⟨by rw[<-HR1.out];rfl,?_⟩
      ·simp[results,Tryz.results63,go_sem,r0,r1,r2,fZ,eN];try rfl
      ·repeat (first | refine jS ?_ (aE _) | refine Below.drew ?_)
       exact HW.out
    ·rw [if_neg hne] at HE1;have hDn: ¬(bs D).toList= []:=by rw[hDt];exact hne
     have hDn2:((bs D).toList== [])=false:=aG.2 hDn;have hDn3:(bs D).toList.isEmpty=false:=by rw[hDt];cases D with | nil=>exact absurd rfl hne | cons _ _=>rfl
     clear hDt;have HR0:=hid HE1;clear HE1;cases lo with
     | false=>
      have h0:(if V-(b.length:Int)+((D.length:Int)-((cW D).length:Int))< -1000000\/1000000<V-(b.length:Int)+((D.length:Int)-((cW D).length:Int)) then((eN,4):eB×Int) else(⟨n,cW D,V-(b.length:Int)+((D.length:Int)-((cW D).length:Int))⟩,0))=R:=HR0.out;rw[show V-(b.length:Int)+((D.length:Int)-((cW D).length:Int))=V-(b.length:Int)+(D.length:Int)-((cW D).length:Int) from by omega] at h0;have HR3:=hid h0;clear h0;go_wp2_with (first | (go_at_call 94;go_must (refine(C2.out _).mono ?_);rintro e w' ⟨rfl,rfl⟩) | (go_at_call 101;go_must (refine(C3.out _).mono ?_);rintro e w' ⟨rfl,rfl⟩));refine(C4.out _ _).mono ?_;rw[aU,HRt.out hne];rintro e w4 ⟨rfl,hb4⟩;have h0:=HR3.out;clear HR3 HR0 HRt C1 C2 C3 C4 HE HP1 HP2 HT1 HDz HBd;generalize V-(b.length:Int)+(D.length:Int)-((cW D).length:Int)=K at h0 hb4 ⊢;have HN:=hid ((hb4.block wr.heap.size (by simp)).trans (heap_alloc_new wr _));have hzw:w.heap.size<wr.heap.size:=aF HO.out;have HO4:=hid ((hb4.block w.heap.size (by simp;omega)).trans ((Below.heap_alloc _ _ _ hzw).trans HO.out));have HB4:=hid ((HW.out.alloc (Nat.le_of_lt hzw) _).trans (hb4.mono (by simp;omega)));clear hb4 r0 r1 r2 g0 g1 g2 x0 x1 x2 x3 x4 f0 f1 f2 f3 f4;obtain⟨r0,r1,r2,g0,g1,g2⟩:=kJ HO4.out;obtain⟨m0,m1,m2,q0,q1,q2⟩:=kJ HN.out;by_cases hk:K< -1000000\/1000000<K
      ·rw[if_pos hk] at h0;have HR1:=hid h0;clear h0;rw[aJ (λh=>h hk)];go_wp2_with fail;have hf:=kJ (eG (eG (eG HO4.out 0 (.bool false)) 1 (.string ⟨#[]⟩)) 2 (.int .i64 0));clear r0 r1 r2 g0 g1 g2;obtain⟨r0,r1,r2,g0,g1,g2⟩:=hf;refine bodyPost_ret (v:= .tuple #[fZ eN, .int .i64 4]) ?_ rfl ⟨by rw[<-HR1.out];rfl,?_⟩
       ·simp[results,Tryz.results63,go_sem,r0,r1,r2,fZ,eN];try rfl
       ·repeat (first | refine jS ?_ (aE _) | refine Below.drew ?_)
        exact HB4.out
      ·rw[if_neg hk] at h0;have HR1:=hid h0;clear h0;rw[aN hk];go_wp2_with fail;have hf:=kJ (eG (eG (eG HO4.out 0 (.bool n)) 1 (.string (bs (cW D)))) 2 (.int .i64 K));clear r0 r1 r2 g0 g1 g2;obtain⟨r0,r1,r2,g0,g1,g2⟩:=hf;refine bodyPost_ret (v:= .tuple #[fZ ⟨n,cW D,K⟩, .int .i64 0]) ?_ rfl ⟨by rw[<-HR1.out];rfl,?_⟩
       ·simp[results,Tryz.results63,go_sem,r0,r1,r2,fZ,eN];try rfl
       ·repeat (first | refine jS ?_ (aE _) | refine Below.drew ?_)
        exact HB4.out
     | true=>
      have h0:(if -V-(b.length:Int)+((D.length:Int)-((cW D).length:Int))< -1000000\/1000000< -V-(b.length:Int)+((D.length:Int)-((cW D).length:Int)) then((eN,4):eB×Int) else(⟨n,cW D, -V-(b.length:Int)+((D.length:Int)-((cW D).length:Int))⟩,0))=R:=HR0.out;rw[show -V-(b.length:Int)+((D.length:Int)-((cW D).length:Int))= -V-(b.length:Int)+(D.length:Int)-((cW D).length:Int) from by omega] at h0;have HR3:=hid h0;clear h0;go_wp2_with (first | (go_at_call 94;go_must (refine(C2.out _).mono ?_);rintro e w' ⟨rfl,rfl⟩) | (go_at_call 101;go_must (refine(C3.out _).mono ?_);rintro e w' ⟨rfl,rfl⟩));refine(C4.out _ _).mono ?_;rw[aU,HRt.out hne];rintro e w4 ⟨rfl,hb4⟩;have h0:=HR3.out;clear HR3 HR0 HRt C1 C2 C3 C4 HE HP1 HP2 HT1 HDz HBd;generalize -V-(b.length:Int)+(D.length:Int)-((cW D).length:Int)=K at h0 hb4 ⊢;have HN:=hid ((hb4.block wr.heap.size (by simp)).trans (heap_alloc_new wr _));have hzw:w.heap.size<wr.heap.size:=aF HO.out;have HO4:=hid ((hb4.block w.heap.size (by simp;omega)).trans ((Below.heap_alloc _ _ _ hzw).trans HO.out));have HB4:=hid ((HW.out.alloc (Nat.le_of_lt hzw) _).trans (hb4.mono (by simp;omega)));clear hb4 r0 r1 r2 g0 g1 g2 x0 x1 x2 x3 x4 f0 f1 f2 f3 f4;obtain⟨r0,r1,r2,g0,g1,g2⟩:=kJ HO4.out;obtain⟨m0,m1,m2,q0,q1,q2⟩:=kJ HN.out;by_cases hk:K< -1000000\/1000000<K
      ·rw[if_pos hk] at h0;have HR1:=hid h0;clear h0;rw[aJ (λh=>h hk)];go_wp2_with fail;have hf:=kJ (eG (eG (eG HO4.out 0 (.bool false)) 1 (.string ⟨#[]⟩)) 2 (.int .i64 0));clear r0 r1 r2 g0 g1 g2;obtain⟨r0,r1,r2,g0,g1,g2⟩:=hf;refine bodyPost_ret (v:= .tuple #[fZ eN, .int .i64 4]) ?_ rfl ⟨by rw[<-HR1.out];rfl,?_⟩
       ·simp[results,Tryz.results63,go_sem,r0,r1,r2,fZ,eN];try rfl
       ·repeat (first | refine jS ?_ (aE _) | refine Below.drew ?_)
        exact HB4.out
      ·rw[if_neg hk] at h0;have HR1:=hid h0;clear h0;rw[aN hk];go_wp2_with fail;have hf:=kJ (eG (eG (eG HO4.out 0 (.bool n)) 1 (.string (bs (cW D)))) 2 (.int .i64 K));clear r0 r1 r2 g0 g1 g2;obtain⟨r0,r1,r2,g0,g1,g2⟩:=hf;refine bodyPost_ret (v:= .tuple #[fZ ⟨n,cW D,K⟩, .int .i64 0]) ?_ rfl ⟨by rw[<-HR1.out];rfl,?_⟩
       ·simp[results,Tryz.results63,go_sem,r0,r1,r2,fZ,eN];try rfl
       ·repeat (first | refine jS ?_ (aE _) | refine Below.drew ?_)
        exact HB4.out
theorem Ta (n:eB) (w:World) (hd:n.dig.length<=4294967296) (R:Bool) (h:lJ n=R):
  Calls Tryz.prog 102 #[.agg #[.bool n.neg, .string (bs n.dig), .int .i64 n.exp]] w λen w'=>en= .returned (.bool R)/\Below w.heap.size w w':=by
 have:=Hu n.neg (bs n.dig) n.exp w (by rw[aR];omega);rw[aU,h] at this;exact this
theorem Bc {n:eB} (h:lJ n=true):n.dig.length<=1000/\ -1000000<=n.exp/\n.exp<=1000000:=by
 rcases of_decide_eq_true h with h | h
 ·subst h;simp[eN]
 ·exact⟨h.2.1,h.2.2.2.2.1,h.2.2.2.2.2⟩
def sA (w:World):Prop:=Lib.TabIs Tryz.prog w "internal/strconv.uint64pow10" .u64 Lib.pow10Tab
theorem sA.keep {w w':World} (h:sA w) (hb:Below w.heap.size w w'):sA w':=Eo h hb
theorem Tb (w:World) (k:Nat) (os:Array Obj):Below w.heap.size w (Go.Sort.grow (w.drewN k) os):=
 ⟨rfl,rfl,rfl,by simp[Go.Sort.grow],λj hj=>Go.Sort.heap_grow_old (w.drewN k) os hj⟩
theorem Tc (n:Int) (w:World) (h0: -9223372036854775808<=n/\n<=9223372036854775807) (hT:sA w):
  Calls Tryz.prog 103 #[.int .i64 n] w λe w'=>e= .returned (.string (bs (Lib.itoa n)))/\Below w.heap.size w w':=
 (Tryz.strconv_Itoa n h0.1 h0.2 w hT).mono λ_ _ ⟨a,k,os,b⟩=>⟨a,b ▸ Tb w k os⟩
theorem Hz (n:Int) (h:n.natAbs<10 ^ 20):(Lib.itoa n).length<=22:=by
 have h1:=Re n.natAbs 20 h (by decide);unfold Lib.itoa;split
 ·simp;omega
 ·rw[show n.toNat=n.natAbs from by omega];omega
theorem xU (c:UInt8) (l:List UInt8):(⟨#[c]⟩:ByteArray)++bs l=bs (c::l):=by
 have:=uT [c] l;exact this
theorem Be (n:eB) (w:World) (hd:n.dig.length<=4294967296) (hT:sA w):
  Calls Tryz.prog 64 #[.agg #[.bool n.neg, .string (bs n.dig), .int .i64 n.exp]] w λe w'=>e= .returned (.string (bs (iV n)))/\Below w.heap.size w w':=by
 obtain⟨A1,hA⟩:=exQ<|lJ n;have CA:=hid (λw=>Ta n w hd A1 hA);obtain⟨R,hR⟩:=exQ<|iV n;rw[hR];unfold iV at hR;rw[hA] at hR;have hb:A1=true->n.dig.length<=1000/\ -1000000<=n.exp/\n.exp<=1000000:=λh=>Bc (hA.trans h);obtain⟨ng,d,ex⟩:=n;simp only[] at hR CA hb hd ⊢;have sd:=aR d;have HT:=hid (hT.keep (aH w (.cells #[.bool ng, .string (bs d), .int .i64 ex] 113)));clear hT hA;cases A1 with
 | false=>
  rw[if_pos rfl] at hR;subst hR;go_enter Tryz.func64,Tryz.ntmps64;go_wp2_with (go_at_call 102;go_must (refine(CA.out _).mono ?_);rintro e w1 ⟨rfl,hb1⟩);go_ret;exact⟨rfl,(aH w _).trans (hb1.mono (by simp))⟩
 | true=>
  obtain⟨hb1,hb2,hb3⟩:=hb rfl;rw[if_neg (by simp)] at hR;have C2:=hid (λw hT=>Tc ex w (by omega) hT);have HR:=hid hR;clear hR;go_enter Tryz.func64,Tryz.ntmps64;go_wp2_with fail;refine(CA.out _).mono ?_;rintro e w1 ⟨rfl,hb1⟩;have HK1:=hid ((hb1.block w.heap.size (by simp)).trans (heap_alloc_new w _));have HT1:=hid (HT.out.keep hb1);have HB1:=hid ((aH w _).trans (hb1.mono (by simp)));obtain⟨r0,r1,r2,g0,g1,g2⟩:=kJ HK1.out;clear hb1;have hDt:(bs d).toList=d:=by rw[Lib.toList_data,aU]
  by_cases hne:d= []
  ·have hR:=HR.out;rw[if_pos hne] at hR;subst hR;rw[hne] at hDt;clear HR;go_wp2_with fail;go_ret;exact⟨rfl,HB1.out⟩
  ·have hR:=HR.out;rw[if_neg hne] at hR;have hDn: ¬(bs d).toList= []:=by rw[hDt];exact hne
   have hDn2:((bs d).toList== [])=false:=aG.2 hDn;have hDn3:(bs d).toList.isEmpty=false:=by rw[hDt];cases d with | nil=>exact absurd rfl hne | cons _ _=>rfl
   clear hDt hne HR;by_cases he:ex=0
   ·subst he;cases ng
    ·have HR:=hid (show d=R by simpa using hR);clear hR;go_wp2_with fail;go_ret;exact⟨by rw[<-HR.out];rfl,HB1.out⟩
    ·have HR:=hid (show 45::d=R by simpa using hR);clear hR;go_wp2_with fail;go_ret;exact⟨by rw[<-HR.out,xU];rfl,HB1.out⟩
   ·rw[if_pos he] at hR;have he2:(ex !=0)=true:=fH.2 he;have hIl:=Hz ex (by omega);generalize Lib.itoa ex=I at *;have sI:=aR I;have HR:=hid hR;clear hR he;cases ng
    ·go_wp2_with fail;refine(C2.out _ HT1.out).mono ?_;rintro e w2 ⟨rfl,hb2⟩;go_wp2_with fail;go_ret;exact⟨by rw[<-HR.out,xU,uT];rfl,HB1.out.trans (hb2.mono HB1.out.size)⟩
    ·go_wp2_with (go_at_call 103;go_must (refine(C2.out _ HT1.out).mono ?_);rintro e w2 ⟨rfl,hb2⟩);go_ret;exact⟨by rw[<-HR.out,xU,xU,uT];rfl,HB1.out.trans (hb2.mono HB1.out.size)⟩
end
end Go.Proofs.YtaifnmjjpddikaaGreatDoor
