import Derived.Test.YtfhjncbdgjlcoaaGreatDoorYa3
set_option maxHeartbeats 4000000
set_option linter.unusedVariables false
set_option linter.unusedSimpArgs false
namespace Go.Proofs.YtfhjncbdgjlcoaaGreatDoor
section
open Go.RowKit
open Go.Lib
theorem Jg (s:ByteArray) (p:Nat) (h:p<s.size) (hd:dM (s[p]'h)=true):bL s p=((s[p]'h).toNat:Int)/\bG s p=1:=by
 have h1:=of_decide_eq_true hd;have:=decode_ascii s p h a_;unfold bL bG;rw[this];exact⟨rfl,rfl⟩
theorem Tc (s:ByteArray) (p:Nat) (h:p<s.size) (hd:dM (s[p]'h)=false):bL s p<48\/57<bL s p:=by
 have h1: ¬(48<=(s[p]'h).toNat/\(s[p]'h).toNat<=57):=of_decide_eq_false hd;by_cases ha:(s[p]'h).toNat<128
 ·have:=decode_ascii s p h ha;unfold bL;rw[this];simp only[];omega
 ·have:=(decode_high s p h a_).1;unfold bL;omega
def mY (s:ByteArray) (p:Nat):Prop:=(s.data.toList.take p).all dM=true
theorem mY.zero (s:ByteArray):mY s 0:=rfl
theorem zP (s:ByteArray) (p:Nat) (h:p<s.size):s.data.toList.take (p+1)=s.data.toList.take p++ [s[p]'h]:=by
 rw[List.take_succ_eq_append_getElem r_];rfl
theorem mY.next {s:ByteArray}{p:Nat} (h:mY s p) (hp:p<s.size) (hd:dM (s[p]'hp)=true):mY s (p+1):=by
 unfold mY at *;rw[zP s p hp,List.all_append,h,List.all_cons,hd];rfl
theorem mY.fin {s:ByteArray}{p:Nat} (h:mY s p) (hp:s.size<=p):cV s.data.toList=!s.toList.isEmpty:=by
 unfold mY at h;rw[uC z_] at h;unfold cV;rw[h,Lib.toList_data,Bool.and_true]
theorem Jh {s:ByteArray}{p:Nat} (hp:p<s.size) (hd:dM (s[p]'hp)=false):cV s.data.toList=false:=by
 unfold cV;rw[Bool.and_eq_false_iff];right;rw[List.all_eq_false];exact⟨s[p]'hp,Array.getElem_mem_toList _,by rw[hd];simp⟩
theorem Ji (s:ByteArray) (w:World):
  Calls Tryz.prog 96 #[s] w λe w'=>e= .returned (.bool (cV s.data.toList))/\Below w.heap.size w w':=by
 have B6:=trivial;exact uy
end
section
open Go.RowKit
open Go.Lib hiding intOf
theorem Td {p:UInt8->Bool}{l:List UInt8} (h:l.all (λc=>!p c)=true):cI p l=(l,[],false):=
 Rx p l λc a=>by have:=gW.1 h c a;simpa using this
theorem Te {p:UInt8->Bool}{l:List UInt8}{k:Nat}{b:UInt8} (h:(l.take k).all (λc=>!p c)=true) (hb:l[k]?=some b) (hp:p b=true):cI p l=(l.take k,l.drop (k+1),true):=by
 obtain⟨d,e⟩:=aR.1 hb;have f:l=l.take k++b::l.drop (k+1):=by
  rw[<-e,<-fL d,rR]
 have:=Ia p (l.take k) b (l.drop (k+1)) (λc a=>by have:=gW.1 h c a;simpa using this) hp;rw[<-f] at this;exact this
def mE (p:UInt8->Bool) (s:ByteArray) (k:Nat):Prop:=(s.data.toList.take k).all (λc=>!p c)=true
theorem mE.next {p:UInt8->Bool}{s:ByteArray}{k:Nat} (h:mE p s k) (hk:k<s.size) (hp:p (s[k]'hk)=false):mE p s (k+1):=by
 unfold mE at *;rw[zP s k hk,List.all_append,h,List.all_cons,hp];rfl
theorem mE.fin {p:UInt8->Bool}{s:ByteArray}{k:Nat} (h:mE p s k) (hk:s.size<=k):cI p s.data.toList=(s.data.toList,[],false):=by
 unfold mE at h;rw[uC z_] at h;exact Td h
theorem mE.hit {p:UInt8->Bool}{s:ByteArray}{k:Nat} (h:mE p s k) (hk:k<s.size) (hp:p (s[k]'hk)=true):cI p s.data.toList=(s.data.toList.take k,s.data.toList.drop (k+1),true):=
 Te h (by rw[Array.getElem?_toList,Array.getElem?_eq_getElem hk];rfl) hp
def xH (R:List UInt8×List UInt8×Bool):Ending:= .returned (.tuple #[bs R.1,bs R.2.1,R.2.2])
theorem Jj (s A:ByteArray) (p:UInt8->Bool) (w:World) (hp: ∀b,p b=decide (0<=Lib.indexByte A.data.toList b)) (hs:s.size<=4294967296):
  Calls Tryz.prog 137 #[s,A] w λe w'=>e=xH (cI p s.data.toList)/\Below w.heap.size w w':=by
 obtain⟨R,j⟩:=exQ<|cI p s.data.toList;rw[j];have m:=hid j;clear j;have o:=hid hp;clear hp;go_enter Tryz.func137,Tryz.ntmps137;go_wp2_with fail;go_loopw [10] (λi wr=> ∃k:Nat,k<=s.size/\i= .int .i64 k/\Hid (mE p s k)/\Hid (Below w.heap.size w wr)) (λi _=>s.size-(RowKit.intOf i).toNat)
 case atStart=>exact⟨0,a_,rfl,rfl,aB _ _⟩
 case round=>
  obtain⟨k,hk,rfl,h,f⟩:=hrel;by_cases hlt:k<s.size
  ·have hlz:(k:Int)<(s.size:Int):=a_;have c:=wW A (s[k]'hlt);have a:=o.out (s[k]'hlt);cases hpp:p (s[k]'hlt) with
   | true=>
    have l:=hid (m.out.symm.trans (h.out.hit hlt hpp));rw[hpp] at a;have g:0<=Lib.indexByte A.data.toList (s[k]'hlt):=of_decide_eq_true a.symm;generalize Lib.indexByte A.data.toList (s[k]'hlt)=I at *;have d:=hid c;clear c hpp a;go_wp2_with (go_at_call 41;go_must (refine(d.out _).mono ?_);rintro e w' ⟨rfl,rfl⟩);go_quiet (fail);go_wp2_with fail;go_ret3;exact⟨by rw[l.out,vG,Hc];rfl,below_drewN f.out _⟩
   | false=>
    have n:=hid (h.out.next hlt hpp);rw[hpp] at a;have g:Lib.indexByte A.data.toList (s[k]'hlt)<0:=Int.not_le.1 (of_decide_eq_false a.symm);generalize Lib.indexByte A.data.toList (s[k]'hlt)=I at *;have d:=hid c;clear c hpp a;go_wp2_with (go_at_call 41;go_must (refine(d.out _).mono ?_);rintro e w' ⟨rfl,rfl⟩);go_roundw
    case rel=>exact⟨k+1,a_,q_,n.out,f.out⟩
    case measure=>simp[RowKit.intOf];omega
  ·have l:=hid (m.out.symm.trans (h.out.fin a_));go_wp2_with fail;go_ret3;exact⟨by rw[l.out];unfold xH;simp only[wU];rfl,f.out⟩
theorem Jk (s:ByteArray) (w:World) (R:Bool) (h:cV s.data.toList=R):
  Calls Tryz.prog 96 #[s] w λe w'=>e= .returned (.bool R)/\Below w.heap.size w w':=by
 rw[<-h];exact Ji s w
theorem Tf {n:dU} (h:n≠cF) (h2: ¬oO n):jO n=false:=aG (by rintro(a | a);exact h a;exact h2 a)
theorem Dg (s:ByteArray) (h:s.size-1<s.size):s.data.toList.getLast?=some (s[s.size-1]'h):=by
 rw[List.getLast?_eq_getElem?,Array.getElem?_toList];have a:s.data.toList.length=s.size:=rfl;rw[a,Array.getElem?_eq_getElem h];rfl
theorem zQ (b:UInt8):((b.toNat:Int)==48)=decide (b=48):=by
 by_cases h:b=48
 ·subst h;rfl
 ·rw[aG h,aE];intro e;apply h;apply UInt8.toNat_inj.1;rw[show (48:UInt8).toNat=48 from rfl];omega
theorem Jl (neg:Bool) (d:ByteArray) (e:Int) (w:World) (hd:d.size<=9223372036854775807):
  Calls Tryz.prog 61 #[.agg #[neg,d,e]] w λen w'=>en= .returned (.bool (jO ⟨neg,d.data.toList,e⟩))/\Below w.heap.size w w':=by
 have s:d.data.toList.length=d.size:=rfl;by_cases hn:(⟨neg,d.data.toList,e⟩:dU)=cF
 ·rw[hn,show jO cF=true from rfl];injection hn with q j A;subst q A;have h4:d.toList= []:=by rw[Lib.toList_data];exact j
  clear j s;go_enter Tryz.func61,Tryz.ntmps61;go_wp2_with fail;go_ret;exact⟨rfl,(aB _ _).alloc (aD _) _⟩
 ·have i:neg=true\/ ¬d.toList= []\/ ¬e=0:=by
   by_cases q:neg=true
   ·exact .inl q
   by_cases j:d.toList= []
   ·right;right;intro A;apply hn;rw[Lib.toList_data] at j;rw[j,A];cases neg<;>first | rfl | exact absurd rfl q
   ·exact .inr (.inl j)
  have c:=λj=>Tf (n:=⟨neg,d.data.toList,e⟩) hn j;have f:oO ⟨neg,d.data.toList,e⟩->jO ⟨neg,d.data.toList,e⟩=true:=λh=>aO (.inr h);generalize jO ⟨neg,d.data.toList,e⟩=R at *;have m: ∀(D:Bool),cV d.data.toList=D->(D=true->0<d.size):=by
   intro D q j;rw[j] at q;have:=(nR q).1;exact ky
  cases hD:cV d.data.toList with
  | false=>
   obtain rfl:=c (λh=>by have:=h.1;simp only[] at this;rw[hD] at this;cases this);have r:=hid (λw=>Jk d w false hD);clear c f m hD hn;rcases i with i | i | i
   all_goals exact cp
  | true=>
   have g:=m true hD rfl;have r:=hid (λw=>Jk d w true hD);have a:d.size-1<d.size:=a_;have e1:=wV d g;have e2:=Dg d a;have b1:=zQ (d[0]'g);have b2:=zQ (d[d.size-1]'a);have hne: ¬d.toList= []:=by rw[Lib.toList_data];intro h;rw[h] at s;simp at s;omega
   have RP:oO ⟨neg,d.data.toList,e⟩↔d.size<=1000/\ ¬(d[0]'g)=48/\ ¬(d[d.size-1]'a)=48/\ -1000000<=e/\e<=1000000:=by
    unfold oO;simp only[hD,s,e1,e2,true_and,ne_eq,cG]
   clear m hD hn i e1 e2;by_cases c1:d.size<=1000
   ·by_cases c2:(d[0]'g)=48
    ·obtain rfl:=c (λh=>(RP.1 h).2.1 c2);rw[aO c2] at b1;clear c f RP c2 b2;exact cp
    ·rw [aG c2] at b1;by_cases c3:(d[d.size-1]'a)=48
     ·obtain rfl:=c (λh=>(RP.1 h).2.2.1 c3);rw[aO c3] at b2;clear c f RP c2 c3;exact cp
     ·rw[aG c3] at b2;have B:R=decide (-1000000<=e/\e<=1000000):=by
       by_cases c4: -1000000<=e/\e<=1000000
       ·rw[aO c4];exact f (RP.2 ⟨c1,c2,c3,c4.1,c4.2⟩)
       ·rw[aG c4];exact c (λh=>c4 (RP.1 h).2.2.2)
      have z:=hid B;clear c f RP c2 c3 B;have k:e< -1000000\/(-1000000<=e/\e<=1000000)\/(-1000000<=e/\1000000<e):=a_;rcases k with k | ⟨k,v⟩ | ⟨k,v⟩
      all_goals
       go_enter Tryz.func61,Tryz.ntmps61;go_wp2_with (go_at_call 96;go_must (refine(r.out _).mono ?_);rintro en w1 ⟨rfl,b⟩;obtain⟨u,x⟩:=vD b);go_ret;refine⟨pL ?_,((aB _ _).alloc (aD _) _).trans (b.mono e_)⟩;rw[z.out]
       first
        | (rw[aG (p:= -1000000<=e/\e<=1000000) a_];simp;omega)
        | (rw[aO (p:= -1000000<=e/\e<=1000000) a_];simp;omega)
        | (rw[aG (p:= -1000000<=e/\e<=1000000) a_];simp)
        | (rw[aO (p:= -1000000<=e/\e<=1000000) a_];simp)
        | (rw[aG (p:= -1000000<=e/\e<=1000000) a_])
        | (rw[aO (p:= -1000000<=e/\e<=1000000) a_])
   ·obtain rfl:=c (λh=>c1 (RP.1 h).1);clear c f RP b1 b2;exact cp
theorem Dh (l:List UInt8) (c:UInt8):Lib.hasPrefix l [c]=(l.head?==some c)/\Lib.trimPrefix l [c]=if l.head?=some c then l.drop 1 else l:=by
 cases l with
 | nil=>simp[Lib.hasPrefix,Lib.trimPrefix]
 | cons x t=>
  by_cases h:x=c
  ·subst h;simp[Lib.hasPrefix,Lib.trimPrefix]
  ·have e1:(c==x)=false:=aE.2 (Ne.symm h);have e2:(x==c)=false:=aE.2 h;simp[Lib.hasPrefix,Lib.trimPrefix,h,List.isPrefixOf,e1,e2]
theorem Jm (l:List UInt8) (w:World):
  Calls Tryz.prog 136 #[bs l, .string ⟨#[45]⟩] w λe w'=>e= .returned (.tuple #[bs (fJ l),(l.head?==some 45)])/\w=w':=by
 have h:=Tryz.strings_CutPrefix (bs l) ⟨#[45]⟩ w;rw[aQ,show (⟨#[45]⟩:ByteArray).data.toList= [45] from rfl,(Dh l 45).1,(Dh l 45).2] at h;exact av
theorem Tg (l:List UInt8) (w:World) (h:l.head?≠some 45):
  Calls Tryz.prog 138 #[bs l, .string ⟨#[43]⟩] w λe w'=>e= .returned (.string (bs (eW l)))/\w=w':=by
 have c:=Tryz.strings_TrimPrefix (bs l) ⟨#[43]⟩ w;rw[aQ,show (⟨#[43]⟩:ByteArray).data.toList= [43] from rfl,(Dh l 43).2] at c;have e:eW l=if l.head?=some 43 then l.drop 1 else l:=by unfold eW;simp[h]
 rw[<-e] at c;exact c.mono λ_ _ ⟨a,b⟩=>⟨a,b.symm⟩
theorem Jn {l:List UInt8} (h:(l.head?==some 45)=false):fJ l=l/\l.head?≠some 45:=by
 have a:l.head?≠some 45:=aE.1 h;unfold fJ;rw[if_neg a];exact⟨rfl,a⟩
theorem Th {l:List UInt8} (h:(l.head?==some 45)=true):eW l=fJ l:=by
 have a:l.head?=some 45:=beq_iff_eq.1 h;unfold fJ eW;rw[if_pos a,if_pos (.inl a)]
theorem Ti (l:List UInt8) (w:World) (hs:l.length<=4294967296):
  Calls Tryz.prog 137 #[bs l, .string ⟨#[101,69]⟩] w λe w'=>e=xH (cI eV l)/\Below w.heap.size w w':=by
 have h:=Jj (bs l) ⟨#[101,69]⟩ eV w (λb=>by
  show (b==101||b==69)=decide (0<=Lib.indexByte [101,69] b);unfold Lib.indexByte Lib.indexByte Lib.indexByte;by_cases h1:b=101
  ·subst h1;decide
  ·by_cases h2:b=69
   ·subst h2;decide
   ·have e1:(101==b)=false:=aE.2 (Ne.symm h1);have e2:(69==b)=false:=aE.2 (Ne.symm h2);simp[h1,h2,e1,e2]) (by rw[aM];exact hs)
 rw[aQ] at h;exact h
theorem Tj (l:List UInt8) (w:World) (hs:l.length<=4294967296):
  Calls Tryz.prog 137 #[bs l, .string ⟨#[46]⟩] w λe w'=>e=xH (cI gV l)/\Below w.heap.size w w':=by
 have h:=Jj (bs l) ⟨#[46]⟩ gV w (λb=>by
  show (b==46)=decide (0<=Lib.indexByte [46] b);unfold Lib.indexByte Lib.indexByte;by_cases h1:b=46
  ·subst h1;decide
  ·have e1:(46==b)=false:=aE.2 (Ne.symm h1);simp[h1,e1]) (by rw[aM];exact hs)
 rw[aQ] at h;exact h
theorem Di (l:List UInt8) (w:World) (R:Bool) (h:cV l=R):
  Calls Tryz.prog 96 #[bs l] w λe w'=>e= .returned (.bool R)/\Below w.heap.size w w':=by
 have:=Ji (bs l) w;rw[aQ,h] at this;exact this
def Tk (l:List UInt8) (e:Ending):Prop:= ∃(n lo:Bool) (a b c:List UInt8) (is:Bool),e= .returned (.tuple #[.agg #[n,lo,bs a,bs b,bs c],is])/\
 kJ l=if is then some ⟨n,a,b,lo,c⟩ else none
theorem zR (l:List UInt8):(fJ l).length<=l.length:=by unfold fJ;split<;>simp
theorem Jo (p:UInt8->Bool) (l:List UInt8):(cI p l).1.length<=l.length:=by
 unfold cI;split
 ·exact aD _
 ·exact(List.takeWhile_sublist _).length_le
theorem oT {w:World}{g:Nat}{t:TypeId}{cs:Array Value} (h:w.heap[g]?=some (.cells cs t (0,0))) (i:Nat):w.cell? ⟨g,i,none⟩=cs[i]?:=cell_of_row w g i cs t (0,0) h
theorem sG {w:World}{g:Nat}{t:TypeId}{cs:Array Value} (h:w.heap[g]?=some (.cells cs t (0,0))) (i:Nat):w.frozen? ⟨g,i,none⟩=false:=by simp[World.frozen?,h]
theorem bN {w:World}{g:Nat}{t:TypeId}{cs:Array Value} (h:w.heap[g]?=some (.cells cs t (0,0))) (i:Nat) (u:Value):(w.setCell ⟨g,i,none⟩ u).heap[g]?=some (.cells (cs.setIfInBounds i u) t (0,0)):=ai
theorem iI {B:Nat}{W w:World} (h:Below B W w) {k o:Nat}{v:Value} (hk:B<=k):Below B W (w.setCell ⟨k,o,none⟩ v):=h.setCell (p:=⟨k,o,none⟩) hk v
theorem sH {w:World}{g:Nat}{t:TypeId}{a b c d e:Value} (h:w.heap[g]?=some (.cells #[a,b,c,d,e] t (0,0))):
  w.cell? ⟨g,0,none⟩=some a/\w.cell? ⟨g,1,none⟩=some b/\w.cell? ⟨g,2,none⟩=some c/\w.cell? ⟨g,3,none⟩=some d/\w.cell? ⟨g,4,none⟩=some e/\
  w.frozen? ⟨g,0,none⟩=false/\w.frozen? ⟨g,1,none⟩=false/\w.frozen? ⟨g,2,none⟩=false/\w.frozen? ⟨g,3,none⟩=false/\w.frozen? ⟨g,4,none⟩=false:=
 ⟨oT h 0,oT h 1,oT h 2,oT h 3,oT h 4,sG h 0,sG h 1,sG h 2,sG h 3,sG h 4⟩
def Tl (has:Bool) (x:List UInt8) (lo:Bool) (xf:List UInt8):Prop:=(has=true->cV xf=true)/\xf=(if has then eW x else [])/\lo=(has&&x.head?==some 45)
theorem Tm (l:List UInt8) (w:World) (hs:l.length<=4294967296):
  Calls Tryz.prog 98 #[bs l] w λe w'=>Tk l e/\Below w.heap.size w w':=by
 have hu:=zR l;have c1:=Jm l;have c2:=λw=>Ti (fJ l) w a_;have hm:=Jo eV (fJ l);obtain⟨m,x,c,hc⟩: ∃m x c,cI eV (fJ l)=(m,x,c):=⟨_,_,_,rfl⟩;rw[hc] at c2 hm;simp only[] at hm;have c6:=λw=>Tj m w a_;obtain⟨wh,rs,pt,hd⟩: ∃wh rs pt,cI gV m=(wh,rs,pt):=⟨_,_,_,rfl⟩;rw[hd] at c6;have A:kJ l=if pM c pt (if c then eW x else []) wh rs then some ⟨l.head?==some 45,wh,rs,c&&x.head?==some 45,if c then eW x else []⟩ else none:=by
  unfold kJ;simp only[hc,hd]
 obtain⟨ng,S⟩:=exQ (l.head?==some 45);rw[S] at c1 A;have C1:=hid c1;have C2:=hid c2;have C6:=hid c6;have HL:=hid A;have ab:c=false->x= []:=λh=>(Cq (h ▸ hc)).2;have ah:=hid ab;clear c1 c2 c6 hc hd A S ab;have r: ∃D2,cV wh=D2:=⟨_,rfl⟩;obtain⟨D2,r⟩:=r;have C7:=hid (λw=>Di wh w D2 r);have t: ∃D3,cV rs=D3:=⟨_,rfl⟩;obtain⟨D3,t⟩:=t;have C8:=hid (λw=>Di rs w D3 t);have F:D2=true->0<(bs wh).size:=λh=>by
  have:=(nR (r.trans h)).1;rw[aM];cases wh with
  | nil=>exact absurd rfl this
  | cons _ _=>simp
 have al:=hid r;have ai:=hid t;clear r t;have o: ∀h:0<(bs wh).size,wh.head?=some ((bs wh)[0]'h):=λh=>by have:=wV (bs wh) h;rw[aQ] at this;exact this
 have T:=hid (show (bs wh).toList=wh by rw[Lib.toList_data,aQ]);obtain⟨Wh,z⟩:=exQ<|bs wh;have J:=hid z;have HF:=hid o;clear o;rw[z] at T F HF;have ak:=hid (show ∀w,Calls Tryz.prog 96 #[Wh] w λe w'=>e= .returned (.bool D2)/\Below w.heap.size w w' from by rw[<-z];exact C7.out);have am:=hid (show ∀w,Calls Tryz.prog 137 #[.string (bs m), .string ⟨#[46]⟩] w λe w'=>e= .returned (.tuple #[Wh, .string (bs rs), .bool pt])/\Below w.heap.size w w' from by rw[<-z];exact C6.out);clear C6 C7 z;go_enter Tryz.func98,Tryz.ntmps98;go_wp2_with (go_at_call 136;go_must (refine(C1.out _).mono ?_);rintro e w' ⟨rfl,rfl⟩);refine(C2.out _).mono ?_;rintro e w1 ⟨rfl,g⟩;unfold xH;have i:=hid ((g.block w.heap.size e_).trans (heap_alloc_new w _));obtain⟨a0,a1,a2,a3,a4,f0,f1,f2,f3,f4⟩:=sH i.out;have E:w.heap.size<w1.heap.size:=by have:=g.size;simp at this;omega
 have Q:=hid (((aB w.heap.size w).alloc (aD _) _).trans (g.mono e_));clear g;go_upto_if 21 with(fail);have B: ∀xf,xf=(if c then eW x else [])->c=true->cV xf=false->kJ l=none:=λxf h1 U W=>by
  rw[HL.out,<-h1];unfold pM;rw[U,W];simp
 have X:=hid B;clear B;go_cut [4] (λs4 wx=> ∃(lo:Bool) (xf:List UInt8),s4= .string (bs xf)/\Tl c x lo xf/\
   Hid (wx.heap[w.heap.size]?=some (.cells #[ng,lo, .string ⟨#[]⟩, .string ⟨#[]⟩, .string ⟨#[]⟩] 139 (0,0)))/\Hid (Below w.heap.size w wx))
 case first=>
  cases c with
  | false=>
   have hx:=hid (ah.out rfl);go_wp2_with fail;go_meet;exact⟨false,x,rfl,⟨λh=>E0,hx.out,rfl⟩,i.out,Q.out⟩
  | true=>
   obtain⟨lo,j⟩:=exQ (x.head?==some 45);have c3:=Jm x;rw[j] at c3;have C3:=hid c3;clear c3;have C5:=hid (λw=>Di (eW x) w _ rfl);cases lo with
   | true=>
    have q:=Th j;have HXE:=hid q;rw[<-q] at C3;clear q;have f:=hid j;clear j;cases hD:cV (eW x) with
    | true=>
     have AK:=trivial;exact sn
    | false=>exact sn
   | false=>
    obtain⟨q,H⟩:=Jn j;rw[q] at C3;have C4:=hid (λw=>Tg x w H);clear q H;have f:=hid j;clear j;cases hD:cV (eW x) with
    | true=>
     have AG:=trivial;exact r7
    | false=>exact r7
 case rest=>
  obtain⟨lo,xf,rfl,HX,K,ad⟩:=hcut;have Y:=hid HX;clear HX;have I: ∀b:Bool,pM c pt xf wh rs=b->kJ l=if b then some ⟨ng,wh,rs,lo,xf⟩ else none:=λb hb=>by
   obtain⟨_,U,W⟩:=Y.out;rw[HL.out,<-U,<-W,hb]
  have G: ∀b2 b3:Bool,D2=b2->(!pt||D3)=b3-> ∀b4:Bool,((wh== [48])||(wh.head? !=some 48))=b4->pM c pt xf wh rs=(b2&&b3&&b4):=λb2 b3 U W b4 h4=>by
   obtain⟨h1,_,_⟩:=Y.out;unfold pM;rw[al.out,ai.out,U,W,h4];cases c with
   | false=>rfl
   | true=>rw[h1 rfl];rfl
  have f:=hid I;have D:=hid G;clear I G;have ag:w.heap.size<wc.heap.size:=aF K;have aa:=hid K;have af:=hid ad;clear K ad a0 a1 a2 a3 a4 f0 f1 f2 f3 f4;obtain⟨a0,a1,a2,a3,a4,f0,f1,f2,f3,f4⟩:=sH aa.out;go_wp2_with fail;refine(am.out _).mono ?_;rintro e w2 ⟨rfl,a⟩;have d:Hid (w2.heap[w.heap.size]?=some (.cells #[ng,lo, .string ⟨#[]⟩, .string ⟨#[]⟩,bs xf] 139 (0,0))):=(a.block w.heap.size (by simp[World.setCell];exact ag)).trans (bN aa.out 4 _);have L:w.heap.size<w2.heap.size:=aF d.out;have k:=hid ((af.out.setCell (p:=⟨w.heap.size,4,none⟩) (aD _) (.string (bs xf))).trans (a.mono DO));clear a a0 a1 a2 a3 a4 f0 f1 f2 f3 f4;obtain⟨a0,a1,a2,a3,a4,f0,f1,f2,f3,f4⟩:=sH d.out;go_wp2_with fail;refine(ak.out _).mono ?_;rintro e w3 ⟨rfl,P⟩;have M:Hid (w3.heap[w.heap.size]?=some (.cells #[ng,lo,Wh, .string (bs rs),bs xf] 139 (0,0))):=(P.block w.heap.size (by simp[World.setCell];exact L)).trans (bN (bN d.out 2 _) 3 _);have aj:w.heap.size<w3.heap.size:=aF M.out;have O:=hid (((k.out.setCell (p:=⟨w.heap.size,2,none⟩) (aD _) (.string Wh)).setCell (p:=⟨w.heap.size,3,none⟩) (aD _) (.string (bs rs))).trans (P.mono DO));clear P a0 a1 a2 a3 a4 f0 f1 f2 f3 f4;obtain⟨a0,a1,a2,a3,a4,f0,f1,f2,f3,f4⟩:=sH M.out;cases D2 with
  | false=>
   have BH:=trivial;exact ug
  | true=>
   have hp:=F rfl;have hpz:(0:Int)<(Wh.size:Int):=a_;obtain⟨b4,u,s⟩: ∃b4,((wh== [48])||(wh.head? !=some 48))=b4/\((Wh.toList== [48])=true/\b4=true\/(Wh.toList== [48])=false/\(((Wh[0]'hp).toNat:Int) !=48)=b4):=by
    refine⟨_,rfl,?_⟩;have hh:=HF.out hp;rw[T.out,hh];by_cases g1:wh= [48]
    ·left;rw[g1];exact⟨rfl,rfl⟩
    ·right;rw[aE.2 g1];refine⟨rfl,?_⟩;rw[Bool.false_or];by_cases g2:(Wh[0]'hp)=48
     ·rw[g2];rfl
     ·rw[show (((Wh[0]'hp).toNat:Int) !=48)=true from by rw[eF];intro h;apply g2;apply UInt8.toNat_inj.1;rw[show (48:UInt8).toNat=48 from rfl];omega];symm;rw[eF];intro h;exact g2 (aV h)
   cases pt with
   | false=>
    have vx:=trivial;exact rq
   | true=>
    go_wp2_with fail;refine(C8.out _).mono ?_;rintro e w4 ⟨rfl,y⟩;have ae:Hid (w4.heap[w.heap.size]?=some (.cells #[ng,lo,Wh, .string (bs rs),bs xf] 139 (0,0))):=(y.block w.heap.size aj).trans M.out;have V:=hid (O.out.trans (y.mono a_));clear y a0 a1 a2 a3 a4 f0 f1 f2 f3 f4;obtain⟨a0,a1,a2,a3,a4,f0,f1,f2,f3,f4⟩:=sH ae.out;cases D3 with
    | false=>exact ug
    | true=>exact rq
theorem Jp (l:List UInt8) (w:World):
  Calls Tryz.prog 29 #[bs l, .string ⟨#[48]⟩] w λe w'=>e= .returned (.string (bs (cJ l)))/\w=w':=by
 have h:=Tryz.strings_TrimLeft_one (bs l) 48 b_ w;rw[aQ] at h;exact av
theorem Tn (l:List UInt8) (w:World) (hl:l.length<=9223372036854775807):
  Calls Tryz.prog 99 #[bs l, .string ⟨#[48]⟩] w λe w'=>e= .returned (.string (bs (cN l)))/\w=w':=by
 have h:=Tryz.strings_TrimRight_one (bs l) 48 b_ w (by rw[aM];exact hl);rw[aQ] at h;exact av
theorem Dj (p:UInt8->Bool) (l:List UInt8):(cI p l).1.length+(cI p l).2.1.length<=l.length:=by
 have h:=congrArg List.length (List.takeWhile_append_dropWhile (p:=λc=>!p c) (l:=l));rw[aT] at h;unfold cI;split
 ·simp
 ·rename_i e;rw[e] at h;simp only[bH] at h;simp only[];omega
theorem To {l:List UInt8}{x:vF} (h:kJ l=some x):x.whole.length+x.rest.length<=l.length:=by
 unfold kJ at h;simp only[] at h;generalize (if(cI eV (fJ l)).2.2=true then eW (cI eV (fJ l)).2.1 else [])=xx at h;split at h
 ·injection h with h;subst h;have h1:=Dj gV (cI eV (fJ l)).1;have h2:=Jo eV (fJ l);have h3:=zR l;simp only[];omega
 ·cases h
theorem Tp {x:vF}{k:Int}{D:List UInt8} (h1:cV x.whole=true) (h2:x.rest.all dM=true) (hlen: ¬1000<x.whole.length+x.rest.length) (hD:cJ (x.whole++x.rest)=D) (hd:D≠ []):
  jO ⟨x.neg,cN D,k⟩=decide (¬(k< -1000000\/1000000<k)):=by
 have a:D.all dM=true:=hD ▸ yY EI;have b:=Id (l:=D) (hD ▸ Cr _) hd;have hl1:D.length<=x.whole.length+x.rest.length:=by
  have:=(List.dropWhile_sublist (p:=λc:UInt8=>c==48) (l:=x.whole++x.rest)).length_le;rw[aT] at this;exact hD ▸ this
 have d:=congrArg List.length (vL D);rw[aT] at d;unfold jO;apply decide_eq_decide.2;constructor
 ·rintro(h | h)
  ·injection h with _ h _;exact absurd h b.1
  ·have e:=h.2.2.2.2;simp only[] at e;omega
 ·intro h;exact .inr ⟨Ic b.1 (Ie a),by show (cN D).length<=1000;omega,b.2,Ib _,by simp only[];omega,by simp only[];omega⟩
def dV (n:dU):Value:= .agg #[n.neg,bs n.dig,n.exp]
def oU (r:dU×Int):Ending:= .returned (.tuple #[dV r.1,r.2])
theorem iA {w:World}{g:Nat}{t:TypeId}{a b c:Value} (h:w.heap[g]?=some (.cells #[a,b,c] t (0,0))):
  w.cell? ⟨g,0,none⟩=some a/\w.cell? ⟨g,1,none⟩=some b/\w.cell? ⟨g,2,none⟩=some c/\
  w.frozen? ⟨g,0,none⟩=false/\w.frozen? ⟨g,1,none⟩=false/\w.frozen? ⟨g,2,none⟩=false:=
 ⟨oT h 0,oT h 1,oT h 2,sG h 0,sG h 1,sG h 2⟩
theorem zS (l:List UInt8) (w:World) (hs:l.length<=4294967296):
  Calls Tryz.prog 63 #[bs l] w λe w'=>e=oU (dP l)/\Below w.heap.size w w':=by
 obtain⟨R,f⟩:=exQ<|dP l;rw[f];have HR:=hid f;clear f;have CR:=hid (λw=>Tm l w hs);go_enter Tryz.func63,Tryz.ntmps63;go_wp2_with fail;refine(CR.out _).mono ?_;rintro e w1 ⟨⟨n,lo,a,b,c,is,rfl,B⟩,L⟩;have X:=hid B;clear B;have C1:=hid (Jp c);have aC:=hid (((aB w.heap.size w).alloc (aD _) _).trans (L.mono e_));have C:=hid ((L.block w.heap.size e_).trans (heap_alloc_new w _));have aq:w.heap.size<w1.heap.size:=aF C.out;clear L;obtain⟨r0,r1,r2,g0,g1,g2⟩:=iA C.out;cases is with
 | false=>exact ru
 | true=>
  have B:kJ l=some ⟨n,a,b,lo,c⟩:=X.out;have aI:=To B;obtain⟨p1,p2,p3⟩:=If B;have A:nN ⟨n,a,b,lo,c⟩=R:=by rw[<-HR.out];unfold dP;rw[B]
  simp only[] at aI p1 p2 p3;unfold nN at A;simp only[] at A;have sa:=aM a;have sb:=aM b;have sc:=aM (cJ c);clear X HR B;by_cases t1:1000<a.length+b.length
  ·have zr:=trivial;exact ru
  rw[if_neg t1] at A;by_cases t2:9<(cJ c).length
  ·have zt:=trivial;exact ru
  rw[if_neg t2] at A;rw[<-yQ c] at A;obtain⟨Z,hZ⟩:=exQ<|cJ c;have a1:Z.all dM=true:=hZ ▸ yY p3;rw[hZ] at A t2 C1 sc;clear hZ p3;have O:(bs Z).data.toList=Z:=aQ Z;obtain⟨S,hS⟩:=exQ<|bs Z;rw[hS] at O C1 sc;have ba:S.size<=9:=by rw[sc];omega
  have g:=hid A;have HZ:=hid a1;have ab:=hid O;have ao:=hid p1;have au:=hid p2;have aj:=hid t1;clear A a1 O p1 p2 t2 hS sc;have aa: ∀p (h:p<S.size),dM (S[p]'h)=true:=λp h=>by exact nc
  have af: ∀p,0<=eL (S.data.toList.take p)/\eL (S.data.toList.take p)<1000000000:=λp=>by exact tf
  have an:=hid aa;have M:=hid af;clear aa af;go_wp2_with (go_at_call 29;go_must (refine(C1.out _).mono ?_);rintro e w' ⟨rfl,rfl⟩);go_loopw [7,9] (λs7 _ wr=> ∃p:Nat,p<=S.size/\s7= .int .i64 (eL (S.data.toList.take p))/\Hid (wr.heap[w1.heap.size+1]?=some (.stringIter S p))/\Hid (wr.heap[w1.heap.size]?=some (.cells #[n,lo,bs a,bs b,bs c] 139 (0,0)))/\Hid (wr.heap[w.heap.size]?=some (.cells #[false, .string ⟨#[]⟩,(0:Int)] 80 (0,0)))/\Hid (Below w.heap.size w wr)) (λ_ _ wr=>S.size-wr.iterPos (w1.heap.size+1))
  case atStart=>
   have ak:(w1.alloc (.cells #[n,lo,bs a,bs b,bs c] 139)).heap.size=w1.heap.size+1:=e_;refine⟨0,a_,rfl,?_,?_,?_,?_⟩
   ·have:=World.iter_heap (w1.alloc (.cells #[n,lo,bs a,bs b,bs c] 139)) S 0;rw[ak] at this;exact this
   ·exact(Below.heap_alloc _ _ _ (by rw[ak];omega)).trans (heap_alloc_new w1 _)
   ·exact(Below.heap_alloc _ _ _ (by rw[ak];omega)).trans ((Below.heap_alloc _ _ _ aq).trans C.out)
   ·exact(aC.out.alloc a_ _).alloc (by rw[ak];omega) _
  case round=>
   obtain⟨p,hp,rfl,HI,HX,HO,HW⟩:=hrel;by_cases hlt:p<S.size
   ·have DK:=trivial;exact vh
   ·have aY: ∀ty,(Instr.next (.pointer (some ⟨w1.heap.size+1,0,none⟩)) true ty).run Tryz.prog wr= .ok (.tuple #[false]) wr:=λty=>Lib.run_next_end_at wr _ S p ty HI.out hlt;have hV:eL (S.data.toList.take p)=eL Z:=by
     rw[uC EG,ab.out]
    have b1:=M.out p;rw[hV] at b1 ⊢;clear hV;have J:=g.out;generalize eL Z=V at *;obtain⟨x0,x1,x2,x3,x4,f0,f1,f2,f3,f4⟩:=sH HX.out;obtain⟨r0,r1,r2,g0,g1,g2⟩:=iA HO.out;obtain⟨D,hD⟩:=exQ<|cJ (a++b);rw[hD] at J;have C2:=hid (show ∀w,Calls Tryz.prog 29 #[bs a++bs b, .string ⟨#[48]⟩] w λe w'=>e= .returned (.string (bs D))/\w=w' from λw=>by rw[kK,<-hD];exact Jp (a++b) w);have a8:D.length<=1000:=by
     have:=(List.dropWhile_sublist (p:=λc:UInt8=>c==48) (l:=a++b)).length_le;rw[aT] at this;have o:(cJ (a++b)).length<=a.length+b.length:=this;rw[hD] at o;have:=aj.out;omega
    have aA:=congrArg List.length (vL D);rw[aT] at aA;have C3:=hid (λw=>Tn D w a_);have C4:=hid (λk w=>Jl n (bs (cN D)) k w EA);have sD:=aM D;have sT:=aM (cN D);have htl:(cN D).length<=D.length:=a_;clear aA;have ae:=hid (λj k=>Tp (x:=⟨n,a,b,lo,c⟩) (k:=k) ao.out au.out aj.out hD j);have I:(bs D).toList=D:=C';clear hD;have hbl:b.length<=1000:=by have:=aj.out;omega
    by_cases j:D= []
    ·rw[if_pos j] at J;rw[j] at I;have m:=hid J;clear J;cases lo
     all_goals
      go_wp2_with (go_at_call 29;go_must (refine(C2.out _).mono ?_);rintro e w' ⟨rfl,rfl⟩);clear r0 r1 r2 g0 g1 g2;have P:=iA (bN (bN (bN HO.out 0 (.bool false)) 1 (.string ⟨#[]⟩)) 2 (.int .i64 0));obtain⟨r0,r1,r2,g0,g1,g2⟩:=P;refine bodyPost_ret (v:= .tuple #[dV cF,(0:Int)]) ?_ rfl ⟨by rw[<-m.out];rfl,?_⟩
      ·exact gj
      ·repeat (first | refine iI ?_ (aD _) | refine Below.drew ?_)
       exact HW.out
    ·rw [if_neg j] at J;have ax: ¬(bs D).toList= []:=by rw[I];exact j
     have aN:((bs D).toList== [])=false:=aE.2 ax;have aH:(bs D).toList.isEmpty=false:=by rw[I];cases D with | nil=>exact absurd rfl j | cons _ _=>rfl
     clear I;have ay:=hid J;clear J;cases lo with
     | false=>
      have yr:=trivial;exact qx
     | true=>exact qx
theorem Tq (n:dU) (w:World) (hd:n.dig.length<=4294967296) (R:Bool) (h:jO n=R):
  Calls Tryz.prog 61 #[.agg #[n.neg,bs n.dig,n.exp]] w λen w'=>en= .returned (.bool R)/\Below w.heap.size w w':=by
 have:=Jl n.neg (bs n.dig) n.exp w EA;rw[aQ,h] at this;exact this
theorem zT {n:dU} (h:jO n=true):n.dig.length<=1000/\ -1000000<=n.exp/\n.exp<=1000000:=by
 rcases of_decide_eq_true h with h | h
 ·subst h;simp[cF]
 ·exact⟨h.2.1,h.2.2.2.2.1,h.2.2.2.2.2⟩
def sJ (w:World):Prop:=Lib.TabIs Tryz.prog w "internal/strconv.uint64pow10" .u64 Lib.pow10Tab
theorem sJ.keep {w w':World} (h:sJ w) (hb:Below w.heap.size w w'):sJ w':=Hd h hb
theorem Tr (w:World) (k:Nat) (os:Array Obj):Below w.heap.size w (Go.Sort.grow (w.drewN k) os):=
 ⟨rfl,rfl,rfl,by simp[Go.Sort.grow],λj a=>Go.Sort.heap_grow_old (w.drewN k) os a⟩
theorem Jq (n:Int) (w:World) (h0: -9223372036854775808<=n/\n<=9223372036854775807) (hT:sJ w):
  Calls Tryz.prog 62 #[n] w λe w'=>e= .returned (.string (bs (Lib.itoa n)))/\Below w.heap.size w w':=
 (Tryz.strconv_Itoa n h0.1 h0.2 w hT).mono λ_ _ ⟨a,k,os,b⟩=>⟨a,b ▸ Tr w k os⟩
theorem zU (n:Int) (h:n.natAbs<10 ^ 20):(Lib.itoa n).length<=22:=by
 have h1:=Cp n.natAbs 20 h b_;unfold Lib.itoa;split
 ·simp;omega
 ·rw[show n.toNat=n.natAbs from by omega];omega
theorem Ts (n:Int) (w:World) (h0: -9223372036854775808<=n/\n<=9223372036854775807) (hT:sJ w):
  Calls Tryz.prog 35 #[n] w λe w'=>e= .returned (dV (qL n))/\Below w.heap.size w w':=by
 have C1:=hid (λw hT=>Jq n w h0 hT);have C2:=hid (λw=>zS (Lib.itoa n) w (by have:=zU n a_;omega));obtain⟨R,hR⟩:=exQ<|dP (Lib.itoa n);have Z:qL n=R.1:=by unfold qL;rw[hR]
 rw[hR] at C2;rw[Z];have HT:=hid (hT.keep (aL w (.cells #[false, .string ⟨#[]⟩,(0:Int)] 80)));clear hT hR Z;obtain⟨N,er⟩:=R;obtain⟨ng,dg,ex⟩:=N;go_enter Tryz.func35,Tryz.ntmps35;go_wp2_with fail;refine(C1.out _ HT.out).mono ?_;rintro e w1 ⟨rfl,g⟩;go_wp2_with fail;refine(C2.out _).mono ?_;unfold oU dV;rintro e w2 ⟨rfl,a⟩;have i:=hid ((g.block w.heap.size e_).trans (heap_alloc_new w _));have E:w.heap.size<w1.heap.size:=aF i.out;have d:=hid ((a.block w.heap.size E).trans i.out);have L:w.heap.size<w2.heap.size:=aF d.out;have k:=hid (((aL w _).trans (g.mono e_)).trans (a.mono a_));clear g a;obtain⟨r0,r1,r2,g0,g1,g2⟩:=iA d.out;go_wp2_with fail;have hf:=iA ((Below.heap_alloc _ (.cells #[ng,bs dg,ex] 80) w.heap.size (by simp[World.setCell];exact L)).trans (bN (bN (bN d.out 0 (.bool ng)) 1 (.string (bs dg))) 2 (.int .i64 ex)));clear r0 r1 r2 g0 g1 g2;obtain⟨r0,r1,r2,g0,g1,g2⟩:=hf;refine bodyPost_ret (v:= .agg #[ng,bs dg,ex]) ?_ rfl ⟨rfl,?_⟩
 ·simp[results,Tryz.results35,go_sem,r0,r1,r2]
 ·refine Below.alloc ?_ DO _;exact fu
theorem uD (c:UInt8) (l:List UInt8):(⟨#[c]⟩:ByteArray)++bs l=bs (c::l):=by
 have:=kK [c] l;exact this
theorem Dk (n:dU) (w:World) (hd:n.dig.length<=4294967296) (hT:sJ w):
  Calls Tryz.prog 34 #[.agg #[n.neg,bs n.dig,n.exp]] w λe w'=>e= .returned (.string (bs (kB n)))/\Below w.heap.size w w':=by
 have A8:=trivial;exact tz
end
end Go.Proofs.YtfhjncbdgjlcoaaGreatDoor
